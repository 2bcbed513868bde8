/-
  copy(dst, src) for elements of k cells, dst in a row that is known whole. No statement of the seat is proved here.
  The contract of slices.Insert of one fact into a row of the caller's own. No statement of the seat is proved here. Conditions: at most 1000 facts.
  slices.Insert of one fact where there is no room, and the three roads joined. No statement of the seat is proved here. Conditions: at most 1000 facts.
-/
import Derived.Test.YtemhiifgplaldaaML
import Derived.Laws.CopyOwn
import Derived.Lib.AppendZerosOnto
import Derived.Lib.Overlaps
import Derived.Deep.RegionLaw
import Derived.Shelf.RegionOpenPlain
namespace Go.Proofs.Ytemhiifgplaldaa
open Go.RowKit Go.Shelf
set_option linter.unusedVariables false

section
variable {P : Program}
/-- The world w' is w with the block g written anew. -/
structure Over (w w' : World) (g : Nat) : Prop where
  os : w'.os = w.os
  tape : w'.tape = w.tape
  output : w'.output = w.output
  size : w'.heap.size = w.heap.size
  other : ∀ k, k ≠ g → w'.heap[k]? = w.heap[k]?

theorem over_setRow (w : World) (g : Nat) (cs : Array Value) : Over w (w.setRow g cs) g := ⟨rfl, rfl, rfl, by simp [World.setRow], fun k hk => setRow_other w g k cs (by omega)⟩
theorem Over.below {w w' : World} {g B : Nat} (h : Over w w' g) (hB : B ≤ g) : RowKit.Below B w w' :=
  ⟨h.os, h.tape, h.output, by rw [h.size]; exact Nat.le_refl _, fun k hk => h.other k (by omega)⟩

theorem run_copy_rowK (w : World) (dT sT ty elem : TypeId) (k g o dLen dCap : Nat) (a : Addr) (sLen sCap : Nat) (cur : List Value) (t : TypeId) (cs : List Value)
    (hu : P.underlying dT = some (.slice elem)) (hs : (P.info? elem).map (·.size) = some k)
    (hg : w.heap[g]? = some (.cells cur.toArray t (0, 0))) (hn : cs.length = Nat.min sLen dLen * k)
    (hsrc : ∀ j v, cs[j]? = some v → w.cell? (a.add j) = some v) (hfit : o + cs.length ≤ cur.length) (h1 : ∀ v ∈ cs, v.oneCell' = true) :
    (Builtin.copy_ #[dT, sT] ty #[.slice (some ⟨g, o, none⟩) dLen dCap, .slice (some a) sLen sCap]).run P w =
      .ok (goInt (Nat.min sLen dLen)) (w.setRow g (splice cur o cs).toArray) := by
  have hl := run_loadCells_list (P := P) w a cs hsrc
  have hst := run_storeCells_at P g o t cs 0 cur.toArray w hg (by simpa using hfit) h1
  cases hq : P.info? elem with
  | none => simp [hq] at hs
  | some i =>
    have hi : i.size = k := by simpa [hq] using hs
    simp [Builtin.copy_, run_underlying hu, Builtin.lenOf, Builtin.firstCells, sizeOf, typeInfo, hq, hi, ← hn, hl, hst, splice]

theorem wpList_copyK {w : World} {ops : Array Oper} {rest : List Oper} {o : Oper} {a : Act} {Q : Exit → Act → World → Prop} (hgd : o.guard = none) (d s : Operand) (dT sT : TypeId)
    (ho : o.op = .call { callee := .builtin .copy, args := #[d, s], argTypes := #[dT, sT] }) (elem : TypeId) (k : Nat) (hu : P.underlying dT = some (.slice elem)) (hsz : (P.info? elem).map (·.size) = some k)
    (g off dLen dCap : Nat) (ad : Addr) (sLen sCap : Nat) (hd : a.eval d = .slice (some ⟨g, off, none⟩) dLen dCap) (hs : a.eval s = .slice (some ad) sLen sCap)
    (cur : List Value) (t : TypeId) (hg : w.heap[g]? = some (.cells cur.toArray t (0, 0))) (cs : List Value) (hn : cs.length = Nat.min sLen dLen * k)
    (hsrc : ∀ j v, cs[j]? = some v → w.cell? (ad.add j) = some v) (hfit : off + cs.length ≤ cur.length) (h1 : ∀ v ∈ cs, v.oneCell' = true)
    (h : ∀ w', Hid (w'.heap[g]? = some (.cells (splice cur off cs).toArray t (0, 0))) → Over w w' g → wpList P ops Q rest (a.put o.dst (goInt (Nat.min sLen dLen))) w') : wpList P ops Q (o :: rest) a w := by
  refine wpList_plain hgd fun K hK => ?_
  have hrun := run_copy_rowK (P := P) w dT sT o.type elem k g off dLen dCap ad sLen sCap cur t cs hu hsz hg hn hsrc hfit h1
  unfold Oper.wp execOp
  simp only [ho, resolve, invoke, builtin, Sem.run_bind, Sem.run_pure, Result.andThen_ok, List.map_toArray, List.map_cons, List.map_nil, hd, hs, hrun]
  exact hK _ _ (h _ (show _ = _ from setRow_heap w g _ _ t _ hg) (over_setRow w g _))

theorem step_copyK {ops : Array Oper} {o : Oper} {a : Act} {w : World} {K : Act → World → Prop} {Q : Exit → Act → World → Prop} {E : Prop}
    (hgd : o.guard = none) (d s : Operand) (dT sT : TypeId)
    (ho : o.op = .call { callee := .builtin .copy, args := #[d, s], argTypes := #[dT, sT] }) (elem : TypeId) (k : Nat) (hu : P.underlying dT = some (.slice elem)) (hsz : (P.info? elem).map (·.size) = some k)
    (g off dLen dCap : Nat) (ad : Addr) (sLen sCap : Nat) (hd : a.eval d = .slice (some ⟨g, off, none⟩) dLen dCap) (hs : a.eval s = .slice (some ad) sLen sCap)
    (cur : List Value) (t : TypeId) (hg : w.heap[g]? = some (.cells cur.toArray t (0, 0))) (cs : List Value) (hn : cs.length = Nat.min sLen dLen * k)
    (hsrc : ∀ j v, cs[j]? = some v → w.cell? (ad.add j) = some v) (hfit : off + cs.length ≤ cur.length) (h1 : ∀ v ∈ cs, v.oneCell' = true)
    (h : ∀ w', Hid (w'.heap[g]? = some (.cells (splice cur off cs).toArray t (0, 0))) → Over w w' g → K (a.put o.dst (goInt (Nat.min sLen dLen))) w') :
    if Region.wanted o (yielded ops a.tmps) = true then Oper.wp P o a w K Q else E := by
  have hw : Region.wanted o (yielded ops a.tmps) = true := by simp [Region.wanted, hgd]
  rw [if_pos hw]
  have hrun := run_copy_rowK (P := P) w dT sT o.type elem k g off dLen dCap ad sLen sCap cur t cs hu hsz hg hn hsrc hfit h1
  unfold Oper.wp execOp
  simp only [ho, resolve, invoke, builtin, Sem.run_bind, Sem.run_pure, Result.andThen_ok, List.map_toArray, List.map_cons, List.map_nil, hd, hs, hrun]
  exact h _ (show _ = _ from setRow_heap w g _ _ t _ hg) (over_setRow w g _)
end
end Go.Proofs.Ytemhiifgplaldaa

namespace Go.Proofs.Ytemhiifgplaldaa
open Go.RowKit Go.Shelf
set_option linter.unusedVariables false

theorem own_boundsF {w : World} {base n c : Nat} {A : Option Addr} {e : TypeId} {size : Nat} {xs : List Value} (h : w.ownsRow base e size (.slice A n c) n xs) : n ≤ c ∧ c ≤ 9223372036854775807 := by
  rcases h.2 with ⟨hv, h0⟩ | ⟨g, cap, cur, hv, _, _, h1, h2, _⟩
  · injection hv with _ _ h3; omega
  · injection hv with _ _ h3; unfold maxLen at h2; omega
/-- What Insert returns: a row of the caller's own. -/
def InsRes (w : World) (v : Value) (N n : Nat) (fs : List Fct) (e : Ending) (w' : World) : Prop := ∃ (B : Option Addr) (d : Nat), e = .returned (.slice B (n + 1) d) ∧ w'.ownsRow N 39 5 (.slice B (n + 1) d) (n + 1) (flat encF fs) ∧ RowKit.Below N w w' ∧ ∀ k, k < w.heap.size → some k ≠ v.ownBlock → w'.heap[k]? = w.heap[k]?

set_option maxRecDepth 100000 in
set_option maxHeartbeats 4000000 in
theorem insert_end (N : Nat) (B : Option Addr) (n c : Nat) (fs : List Fct) (f : Fct) (vb : Nat) (w : World) (ho : w.ownsRow N 39 5 (.slice B n c) n (flat encF fs)) (hv : Bl w vb 39 (encF f).toArray) (hn : n ≤ 1000) (hN : N ≤ w.heap.size) :
    Calls Try.prog 38 #[.slice B n c, .int .i64 n, .slice (some ⟨vb, 0, none⟩) 1 1] w (InsRes w (.slice B n c) N n (fs ++ [f])) := by
  have HO := Lib.hid ho
  have HR : Hid (Rd w 5 (some ⟨vb, 0, none⟩) 1 (encF f)) := ⟨rfl, fun _ => ⟨vb, 0, rfl, hv.lt, fun j u hu => by rw [Nat.zero_add, hv.cell]; simpa using hu⟩⟩
  have HM : Hid (n + 1 ≤ maxLen ∧ (n + 1) * 40 ≤ 140737488355328) := ⟨by unfold maxLen; omega, by omega⟩
  have HN := Lib.hid hN
  have HON := Lib.hid (encF_one f)
  clear ho hv hN
  have hbd := own_boundsF HO.out
  go_enter Try.func38, Try.ntmps38
  go_wp2_with (at_builtin; refine wpList_append_rd _ rfl (.tmp 23) (.tmp 24) 24 rfl N 39 _ 5 40 Try.underlying24 infoF rfl (by decide) (.slice B n c) n (flat encF fs) rfl HO.out (some ⟨vb, 0, none⟩) 1 1 (encF f) rfl HR.out HON.out HM.out.1 HM.out.2 HN.out ?_; intro v6 w6 ho6 hg6 _; obtain ⟨B6, d6, rfl⟩ := own_slice ho6)
  all_goals go_ret
  all_goals exact ⟨B6, d6, rfl, by rw [flat_append, flat_one]; exact ho6, (Below.refl N w).grown hg6 HN.out (fun k hk => own_base HO.out k hk), fun k hk hne => hg6.block k hk (fun e => hne (by rw [e]; try (cases B <;> rfl)))⟩
/-- The list behind the two copies of the road with room. -/
theorem splice_shift {α : Type} (L X Y F : List α) (m : Nat) (hL : L.take m = X ++ Y) (hm : m + F.length ≤ L.length) : (splice (splice L (X.length + F.length) Y) X.length F).take (m + F.length) = X ++ (F ++ Y) := by
  have hXY : X.length + Y.length = m := by
    have := congrArg List.length hL
    simp at this; omega
  have hX : L.take X.length = X := by
    have := congrArg (List.take X.length) hL
    rw [List.take_take, Nat.min_eq_left (by omega)] at this
    simpa using this
  obtain ⟨A, hA⟩ : ∃ A, A = L.take (X.length + F.length) := ⟨_, rfl⟩
  have hAl : A.length = X.length + F.length := by rw [hA]; simp; omega
  have hAX : A.take X.length = X := by rw [hA, List.take_take, Nat.min_eq_left (by omega), hX]
  have e1 : splice L (X.length + F.length) Y = A ++ (Y ++ L.drop (X.length + F.length + Y.length)) := by rw [hA]; rfl
  rw [e1]
  have e2 : splice (A ++ (Y ++ L.drop (X.length + F.length + Y.length))) X.length F = X ++ (F ++ (Y ++ L.drop (X.length + F.length + Y.length))) := by
    show List.take _ _ ++ (F ++ List.drop _ _) = _
    rw [List.take_append_of_le_length (by omega), hAX, ← hAl, List.drop_left]
  rw [e2]
  have e3 : X ++ (F ++ (Y ++ L.drop (X.length + F.length + Y.length))) = (X ++ (F ++ Y)) ++ L.drop (X.length + F.length + Y.length) := by simp
  rw [e3]
  exact List.take_left' (by simp; omega)

theorem flat_take (fs : List Fct) (i : Nat) (hi : i ≤ fs.length) : flat encF fs = flat encF (fs.take i) ++ flat encF (fs.drop i) := by rw [← flat_append, List.take_append_drop]
theorem flat_oneF (fs : List Fct) : ∀ v ∈ flat encF fs, v.oneCell' = true := fun u hu => by
  obtain ⟨x, _, hx⟩ := List.mem_flatMap.1 hu
  exact encF_one x u hx

set_option maxRecDepth 100000 in
set_option maxHeartbeats 4000000 in
theorem insert_shift (N g n c i : Nat) (fs : List Fct) (f : Fct) (vb : Nat) (w : World) (ho : w.ownsRow N 39 5 (.slice (some ⟨g, 0, none⟩) n c) n (flat encF fs)) (hl : fs.length = n) (hv : Bl w vb 39 (encF f).toArray) (hvg : vb ≠ g) (hi : i < n) (hc : n + 1 ≤ c) (hn : n ≤ 1000) (hN : N ≤ w.heap.size) :
    Calls Try.prog 38 #[.slice (some ⟨g, 0, none⟩) n c, .int .i64 i, .slice (some ⟨vb, 0, none⟩) 1 1] w (InsRes w (.slice (some ⟨g, 0, none⟩) n c) N n (fs.take i ++ f :: fs.drop i)) := by
  obtain ⟨cur, hNg, hcur, hcs, hct⟩ : ∃ cur : List Value, N ≤ g ∧ w.heap[g]? = some (.cells cur.toArray 39 (0, 0)) ∧ cur.length = c * 5 ∧ cur.take (n * 5) = flat encF fs := by
    rcases ho.2 with ⟨hv, h0⟩ | ⟨g', cap, cur, hv, h1, h2, _, _, h3, h4⟩
    · cases hv
    · injection hv with h5 _ h6
      injection h5 with h5
      injection h5 with h5
      subst h5 h6
      exact ⟨cur.toList, h1, by simpa using h2, by simpa using h3, h4⟩
  have hbd := own_boundsF ho
  have hov : ∀ lb cb, (callFunc 42 #[.slice (some ⟨vb, 0, none⟩) 1 1, .slice (some ⟨g, (i + 1) * 5, none⟩) lb cb]).run Try.prog w = .ok (.value (.bool false)) w := fun lb cb => by
    rw [run_callFunc_extern Try.func42 (by kernel_rfl) (by kernel_rfl) (by kernel_rfl) (e := Extern.SlicesOverlaps.overlaps #[24, 24] #[4]) (by kernel_rfl),
      Lib.run_overlaps_apart w 24 4 39 Try.underlying24 5 Try.sizeOf39 ⟨vb, 0, none⟩ ⟨g, (i + 1) * 5, none⟩ 1 1 lb cb hvg 39 39 5 (c * 5) (by rw [World.shape?, show w.heap[vb]? = _ from hv]; rfl) (by simp [World.shape?, hcur, hcs]) (by omega) (hv.free _) (hv.free _)]
    rfl
  obtain ⟨X, hX⟩ : ∃ X, X = flat encF (fs.take i) := ⟨_, rfl⟩
  obtain ⟨Y, hY⟩ : ∃ Y, Y = flat encF (fs.drop i) := ⟨_, rfl⟩
  obtain ⟨F, hF⟩ : ∃ F, F = encF f := ⟨_, rfl⟩
  have hXl : X.length = i * 5 := by rw [hX, flat_length encF_len, List.length_take]; omega
  have hYl : Y.length = (n - i) * 5 := by rw [hY, flat_length encF_len, List.length_drop, hl]
  have hFl : F.length = 5 := by rw [hF]; rfl
  rw [flat_take fs i (by omega), ← hX, ← hY] at hct
  have hY1 : ∀ v ∈ Y, v.oneCell' = true := by rw [hY]; exact flat_oneF _
  have hF1 : ∀ v ∈ F, v.oneCell' = true := by rw [hF]; exact encF_one f
  have HSY : Hid (∀ j v, Y[j]? = some v → w.cell? ((⟨g, i * 5, none⟩ : Addr).add j) = some v) := by
    intro j v hj
    rw [Addr.add_lit, cell_of_row w g _ cur.toArray _ (0, 0) hcur]
    have h1 : (X ++ Y)[i * 5 + j]? = some v := by rw [List.getElem?_append_right (by omega), hXl]; rw [show i * 5 + j - i * 5 = j by omega]; exact hj
    rw [← hct] at h1
    rw [List.getElem?_take] at h1
    split at h1
    · simpa using h1
    · cases h1
  have HC := Lib.hid hcur
  have HRES : Hid (∀ w', w'.heap[g]? = some (.cells (splice (splice cur ((i + 1) * 5) Y) (i * 5) F).toArray 39 (0, 0)) → RowKit.Below N w w' → (∀ k, k ≠ g → w'.heap[k]? = w.heap[k]?) → InsRes w (.slice (some ⟨g, 0, none⟩) n c) N n (fs.take i ++ f :: fs.drop i) (.returned (.slice (some ⟨g, 0, none⟩) (n + 1) c)) w') := by
    intro w' hw' hb hoth
    have hsp := splice_shift cur X Y F (n * 5) hct (by omega)
    rw [hFl, hXl, show i * 5 + 5 = (i + 1) * 5 by omega] at hsp
    refine ⟨some ⟨g, 0, none⟩, c, rfl, ⟨?_, Or.inr ⟨g, c, _, rfl, hNg, hw', hc, by unfold maxLen; omega, ?_, ?_⟩⟩, hb, fun k _ hne => hoth k (fun e => hne (by rw [e]; rfl))⟩
    · rw [flat_length encF_len]; simp; omega
    · rw [List.size_toArray, length_splice _ _ _ (by rw [length_splice _ _ _ (by omega)]; omega), length_splice _ _ _ (by omega), hcs]
    · rw [List.toList_toArray, show (n + 1) * 5 = n * 5 + 5 by omega, hsp, flat_append, ← hX, show f :: fs.drop i = [f] ++ fs.drop i from rfl, flat_append, flat_one, ← hY, hF]
  have HV := Lib.hid hv
  have HLEN : Hid ((i + 1) * 5 + Y.length ≤ cur.length ∧ i * 5 + F.length ≤ (splice cur ((i + 1) * 5) Y).length) := ⟨by omega, by rw [length_splice _ _ _ (by omega)]; omega⟩
  have hinf : (Try.prog.info? 39).map (·.size) = some 5 := by kernel_rfl
  have HINF := Lib.hid hinf
  have HFc : Hid (∀ w', Over w w' g → ∀ j v, F[j]? = some v → w'.cell? ((⟨vb, 0, none⟩ : Addr).add j) = some v) := by
    intro w' hw' j v hj
    rw [Addr.add_lit, Nat.zero_add]
    have : Bl w' vb 39 (encF f).toArray := (hw'.other vb hvg).trans hv
    rw [this.cell, ← hF]; simpa using hj
  have HNg := Lib.hid hNg
  have z1 : ¬ ((i : Int) = (n : Int)) := by omega
  have z2 : ¬ ((c : Int) < (n : Int) + 1) := by omega
  clear ho hl hv hcur hcs hct hX hY hF hinf hNg
  go_enter Try.func38, Try.ntmps38
  go_wp2_with (simp only [hov])
  have HMN : Hid (Y.length = Nat.min (n + 1 - i) (n - i) * 5) := by show _ = _; rw [hYl, show Nat.min (n + 1 - i) (n - i) = n - i from Nat.min_eq_right (by omega)]
  have HMF : Hid (F.length = Nat.min 1 (n + 1 - i) * 5) := by show _ = _; rw [hFl, show Nat.min 1 (n + 1 - i) = 1 from Nat.min_eq_left (by omega)]
  have hin : i ≤ n := by omega
  have mixed : Try.prog.follows Departure.mixedOrders = true := rfl
  have hw1 : IntKind.i64.wrap ((i : Int) + 1) = (i : Int) + 1 := by rw [IntKind.wrap_i64]; omega
  have htn : ((i : Int) + 1).toNat = i + 1 := by omega
  have hb2 : ¬ (c = i + 1) := by omega
  have hb3 : (i : Int) ≤ (n : Int) + 1 := by omega
  have hb4 : ¬ (c = i) := by omega
  have hb5 : (0 : Int) ≤ (i : Int) + 1 := by omega
  go_region_law_o (refine step_copyK rfl (.tmp 73) (.tmp 76) 24 24 rfl 39 5 Try.underlying24 HINF.out g ((i + 1) * 5) (n - i) (c - (i + 1)) ⟨g, i * 5, none⟩ (n + 1 - i) (c - i) (by simp [Act.eval, Act.put]) (by simp [Act.eval, Act.put]) cur 39 HC.out Y HMN.out HSY.out HLEN.out.1 hY1 ?_; intro w1 HC1 hO1)
  have HF2 := Lib.hid (HFc.out w1 ⟨hO1.os, hO1.tape, hO1.output, hO1.size, hO1.other⟩)
  have HB1 : Hid (RowKit.Below N w w1) := (show Over w w1 g from ⟨hO1.os, hO1.tape, hO1.output, hO1.size, hO1.other⟩).below HNg.out
  have HO1 := Lib.hid hO1.other
  clear hO1
  obtain ⟨w2, hcp, HC2, hO2⟩ : ∃ w2, (Builtin.copy_ #[24, 24] 3 #[.slice (some ⟨g, i * 5, none⟩) (n + 1 - i) (c - i), .slice (some ⟨vb, 0, none⟩) 1 1]).run Try.prog w1 = .ok (goInt (Nat.min 1 (n + 1 - i))) w2 ∧ Hid (w2.heap[g]? = some (.cells (splice (splice cur ((i + 1) * 5) Y) (i * 5) F).toArray 39 (0, 0))) ∧ Over w1 w2 g :=
    ⟨_, run_copy_rowK w1 _ _ _ 39 5 g (i * 5) _ _ _ _ _ _ 39 F Try.underlying24 HINF.out HC1.out HMF.out HF2.out HLEN.out.2 hF1, setRow_heap w1 g _ _ _ _ HC1.out, over_setRow w1 g _⟩
  go_wp2_with (simp only [hcp])
  go_ret
  exact HRES.out _ HC2.out (HB1.out.trans (hO2.below HNg.out)) (fun k hk => (hO2.other k hk).trans (HO1.out k hk))

end Go.Proofs.Ytemhiifgplaldaa

namespace Go.Proofs.Ytemhiifgplaldaa
open Go.RowKit Go.Shelf
set_option linter.unusedVariables false

theorem splice_grow {α : Type} (R X Y F : List α) (hX : R.take X.length = X) (h : X.length + F.length + Y.length ≤ R.length) : (splice (splice R X.length F) (X.length + F.length) Y).take (X.length + F.length + Y.length) = X ++ (F ++ Y) := by
  have e1 : splice R X.length F = (X ++ F) ++ R.drop (X.length + F.length) := by
    show R.take X.length ++ (F ++ R.drop (X.length + F.length)) = _
    rw [hX]; simp
  rw [e1]
  have e2 : splice ((X ++ F) ++ R.drop (X.length + F.length)) (X.length + F.length) Y = (X ++ (F ++ Y)) ++ List.drop (X.length + F.length + Y.length) ((X ++ F) ++ R.drop (X.length + F.length)) := by
    show List.take _ _ ++ (Y ++ List.drop _ _) = _
    rw [List.take_left' (by simp)]; simp
  rw [e2]
  exact List.take_left' (by simp; omega)

set_option maxRecDepth 100000 in
set_option maxHeartbeats 4000000 in
theorem insert_grow (N g n c i : Nat) (fs : List Fct) (f : Fct) (vb : Nat) (w : World) (ho : w.ownsRow N 39 5 (.slice (some ⟨g, 0, none⟩) n c) n (flat encF fs)) (hl : fs.length = n) (hv : Bl w vb 39 (encF f).toArray) (hi : i < n) (hc : c < n + 1) (hn : n ≤ 1000) (hN : N ≤ w.heap.size) :
    Calls Try.prog 38 #[.slice (some ⟨g, 0, none⟩) n c, .int .i64 i, .slice (some ⟨vb, 0, none⟩) 1 1] w (InsRes w (.slice (some ⟨g, 0, none⟩) n c) N n (fs.take i ++ f :: fs.drop i)) := by
  have hbd := own_boundsF ho
  have hrc := Recs.of_own encF_len ho hl
  have hcell := Recs.cells encF_len (by omega) hrc
  have hgw : g < w.heap.size := by
    obtain ⟨b', off', e, hb, _⟩ := hrc.2 (by omega)
    injection e with e; injection e with e; subst e; exact hb
  obtain ⟨X, hX⟩ : ∃ X, X = flat encF (fs.take i) := ⟨_, rfl⟩
  obtain ⟨Y, hY⟩ : ∃ Y, Y = flat encF (fs.drop i) := ⟨_, rfl⟩
  obtain ⟨F, hF⟩ : ∃ F, F = encF f := ⟨_, rfl⟩
  have hXl : X.length = i * 5 := by rw [hX, flat_length encF_len, List.length_take]; omega
  have hYl : Y.length = (n - i) * 5 := by rw [hY, flat_length encF_len, List.length_drop, hl]
  have hFl : F.length = 5 := by rw [hF]; rfl
  rw [flat_take fs i (by omega), ← hX, ← hY] at hcell
  have hY1 : ∀ v ∈ Y, v.oneCell' = true := by rw [hY]; exact flat_oneF _
  have hF1 : ∀ v ∈ F, v.oneCell' = true := by rw [hF]; exact encF_one f
  obtain ⟨i0, hi0, hz0, hz1, hz2⟩ := info_parts infoF
  have hold : (Builtin.firstCells i0.size i (.slice (some ⟨g, 0, none⟩) i c)).run Try.prog w.drew = .ok X.toArray w.drew := by
    rw [hz1]
    exact run_firstCells_some w.drew 5 i ⟨g, 0, none⟩ i c X (by omega) (fun j v hj => by
      rw [Addr.add_lit]
      have hj2 : j < X.length := by
        rcases Nat.lt_or_ge j X.length with h | h
        · exact h
        · rw [List.getElem?_eq_none h] at hj; cases hj
      exact hcell j v (by rw [List.getElem?_append_left hj2]; exact hj))
  have hkk : (n : Int) + 1 - (i : Int) = ((n + 1 - i : Nat) : Int) := by omega
  have hik : i + (n + 1 - i) = n + 1 := by omega
  obtain ⟨G, W1, R, hrz, HR, HRl, HRx, hGn, hG63, HB⟩ : ∃ (G : Nat) (W1 : World) (R : List Value), (∀ ty, (Builtin.append_ #[24, 3] ty #[.slice (some ⟨g, 0, none⟩) i c, .int .i64 ((n : Int) + 1 - (i : Int))]).run Try.prog w = .ok (.slice (some ⟨w.heap.size, 0, none⟩) (n + 1) G) W1) ∧
      Hid (W1.heap[w.heap.size]? = some (.cells R.toArray 39 (0, 0))) ∧ Hid (R.length = G * 5) ∧ Hid (R.take X.length = X) ∧ n + 1 ≤ G ∧ G ≤ 9223372036854775807 ∧ Hid (RowKit.Below w.heap.size w W1) := by
    have h := fun ty => Lib.run_append_grow_zeros w 24 3 ty 39 i0 _ .i64 .i64 Try.underlying24 Try.underlying3 hi0 hz0 (some ⟨g, 0, none⟩) i c X hold (n + 1 - i) (by omega) (by omega) (by omega) (by omega) (by rw [hz2]; omega) (by rw [hz2, hik]; exact growslice_fits hc (by omega))
    rw [hik] at h
    have hG := grownCap_le_maxLen w (n + 1) c 39 (by unfold maxLen; omega)
    unfold maxLen at hG
    refine ⟨grownCap w (n + 1) c 39, _, X ++ ((Builtin.zeroCells (Value.agg #[.int .i64 0, .int .i64 0, .int .i64 0, .int .i64 0, .int .i64 0]).cells (n + 1 - i)).toList ++ (Builtin.zeroCells (Value.agg #[.int .i64 0, .int .i64 0, .int .i64 0, .int .i64 0, .int .i64 0]).cells (grownCap w (n + 1) c 39 - (n + 1))).toList), fun ty => by rw [hkk]; exact h ty, ?_, ?_, List.take_left' rfl, grownCap_ge w _ _ _, by omega, ?_⟩
    · show _ = _
      refine (heap_alloc_new w.drew _).trans ?_
      simp
    · have := grownCap_ge w (n + 1) c 39
      show _ = _
      simp [Builtin.zeroCells, Value.cells, hXl]
      omega
    · exact (Below.refl _ _).drew.alloc (Nat.le_refl _) _
  have hinf : (Try.prog.info? 39).map (·.size) = some 5 := by rw [hi0]; simp [hz1]
  have hvw := hv.lt
  have hv1 : Bl W1 vb 39 (encF f).toArray := hv.keep HB.out
  have HMF : Hid (F.length = Nat.min 1 (n + 1 - i) * 5) := by show _ = _; rw [hFl, show Nat.min 1 (n + 1 - i) = 1 from Nat.min_eq_left (by omega)]
  have HMN : Hid (Y.length = Nat.min (n - i) (n - i) * 5) := by show _ = _; rw [hYl, show Nat.min (n - i) (n - i) = n - i from Nat.min_self _]
  have hRl := HRl.out
  obtain ⟨w2, hcp, HC2, hO2⟩ : ∃ w2, (Builtin.copy_ #[24, 24] 3 #[.slice (some ⟨w.heap.size, i * 5, none⟩) (n + 1 - i) (G - i), .slice (some ⟨vb, 0, none⟩) 1 1]).run Try.prog W1 = .ok (goInt (Nat.min 1 (n + 1 - i))) w2 ∧ Hid (w2.heap[w.heap.size]? = some (.cells (splice R (i * 5) F).toArray 39 (0, 0))) ∧ Over W1 w2 w.heap.size :=
    ⟨_, run_copy_rowK W1 _ _ _ 39 5 w.heap.size (i * 5) _ _ _ _ _ _ 39 F Try.underlying24 hinf HR.out HMF.out (fun j v hj => by rw [Addr.add_lit, Nat.zero_add, hv1.cell, ← hF]; simpa using hj) (by omega) hF1, setRow_heap W1 w.heap.size _ _ _ _ HR.out, over_setRow W1 w.heap.size _⟩
  have HB2 : Hid (RowKit.Below w.heap.size w w2) := HB.out.trans (hO2.below (Nat.le_refl _))
  have HSY : Hid (∀ j v, Y[j]? = some v → w2.cell? ((⟨g, i * 5, none⟩ : Addr).add j) = some v) := by
    intro j v hj
    rw [Addr.add_lit, HB2.out.cell (p := ⟨g, i * 5 + j, none⟩) hgw]
    have := hcell (i * 5 + j) v (by rw [List.getElem?_append_right (by omega), hXl, show i * 5 + j - i * 5 = j by omega]; exact hj)
    rwa [Nat.zero_add] at this
  have HLEN : Hid ((i + 1) * 5 + Y.length ≤ (splice R (i * 5) F).length) := by show _ ≤ _; rw [length_splice _ _ _ (by omega)]; omega
  have HRES : Hid (∀ w', w'.heap[w.heap.size]? = some (.cells (splice (splice R (i * 5) F) ((i + 1) * 5) Y).toArray 39 (0, 0)) → RowKit.Below w.heap.size w w' → InsRes w (.slice (some ⟨g, 0, none⟩) n c) N n (fs.take i ++ f :: fs.drop i) (.returned (.slice (some ⟨w.heap.size, 0, none⟩) (n + 1) G)) w') := by
    intro w' hw' hb
    have hsp := splice_grow R X Y F HRx.out (by omega)
    rw [hFl, hXl, show i * 5 + 5 = (i + 1) * 5 by omega, show (i + 1) * 5 + Y.length = (n + 1) * 5 by omega] at hsp
    refine ⟨some ⟨w.heap.size, 0, none⟩, G, rfl, ⟨?_, Or.inr ⟨w.heap.size, G, _, rfl, hN, hw', hGn, by unfold maxLen; omega, ?_, ?_⟩⟩, hb.mono hN, fun k hk _ => hb.block k hk⟩
    · rw [flat_length encF_len]; simp; omega
    · rw [List.size_toArray, length_splice _ _ _ HLEN.out, length_splice _ _ _ (by omega), hRl]
    · rw [List.toList_toArray, hsp, flat_append, ← hX, show f :: fs.drop i = [f] ++ fs.drop i from rfl, flat_append, flat_one, ← hY, hF]
  have HINF := Lib.hid hinf
  have z1 : ¬ ((i : Int) = (n : Int)) := by omega
  have z2 : (c : Int) < (n : Int) + 1 := by omega
  have hin : i ≤ n := by omega
  have mixed : Try.prog.follows Departure.mixedOrders = true := rfl
  have hw1 : IntKind.i64.wrap ((i : Int) + 1) = (i : Int) + 1 := by rw [IntKind.wrap_i64]; omega
  have htn : ((i : Int) + 1).toNat = i + 1 := by omega
  have hb2 : ¬ (G = i + 1) := by omega
  have hb3 : (i : Int) ≤ (n : Int) := by omega
  have hb4 : ¬ (c = i) := by omega
  have hb5 : (0 : Int) ≤ (i : Int) + 1 := by omega
  have hb6 : ¬ (G = i) := by omega
  clear ho hl hv hX hY hF hinf hrc hcell hold hkk hik hRl hv1 hi0 hz0 hz1 hz2 HR HRl HRx
  go_enter Try.func38, Try.ntmps38
  go_wp2_with (first | (at_builtin; refine Lib.wpList_append_run _ rfl _ _ _ _ rfl _ _ rfl rfl _ _ (hrz _) ?_) | simp only [hcp])
  go_region_law_o (refine step_copyK rfl (.tmp 50) (.tmp 53) 24 24 rfl 39 5 Try.underlying24 HINF.out w.heap.size ((i + 1) * 5) (n - i) (G - (i + 1)) ⟨g, i * 5, none⟩ (n - i) (c - i) (by simp [Act.eval, Act.put]) (by simp [Act.eval, Act.put]) (splice R (i * 5) F) 39 HC2.out Y HMN.out HSY.out HLEN.out hY1 ?_; intro w3 HC3 hO3)
  have HB3 : Hid (RowKit.Below w.heap.size w w3) := HB2.out.trans ((show Over w2 w3 w.heap.size from ⟨hO3.os, hO3.tape, hO3.output, hO3.size, hO3.other⟩).below (Nat.le_refl _))
  go_wp2
  go_ret
  exact HRES.out _ HC3.out HB3.out
/-- slices.Insert of one fact: every road. -/
theorem insert_any (N : Nat) (B : Option Addr) (n c i : Nat) (fs : List Fct) (f : Fct) (vb : Nat) (w : World) (ho : w.ownsRow N 39 5 (.slice B n c) n (flat encF fs)) (hl : fs.length = n) (hv : Bl w vb 39 (encF f).toArray) (hvg : ∀ a, B = some a → vb ≠ a.block) (hi : i ≤ n) (hn : n ≤ 1000) (hN : N ≤ w.heap.size) :
    Calls Try.prog 38 #[.slice B n c, .int .i64 i, .slice (some ⟨vb, 0, none⟩) 1 1] w (InsRes w (.slice B n c) N n (fs.take i ++ f :: fs.drop i)) := by
  rcases Nat.lt_or_ge i n with h | h
  · obtain ⟨g, rfl⟩ : ∃ g, B = some ⟨g, 0, none⟩ := by
      rcases ho.2 with ⟨hv, h0⟩ | ⟨g', cap, cur, hv, _⟩
      · omega
      · injection hv with h5; exact ⟨g', h5⟩
    rcases Nat.lt_or_ge c (n + 1) with h2 | h2
    · exact insert_grow N g n c i fs f vb w ho hl hv h h2 hn hN
    · exact insert_shift N g n c i fs f vb w ho hl hv (hvg _ rfl) h h2 hn hN
  · obtain rfl : i = n := by omega
    have := insert_end N B i c fs f vb w ho hv hn hN
    rwa [List.take_of_length_le (by omega), List.drop_eq_nil_of_le (by omega)]
end Go.Proofs.Ytemhiifgplaldaa

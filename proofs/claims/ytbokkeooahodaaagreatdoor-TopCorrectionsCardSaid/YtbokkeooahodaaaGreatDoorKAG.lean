/-
  Contract of tally.add. No statement of the seat is proved here. Conditions: the tally is the call's own, the numbers are machine integers.
  Mathematics of leastDuty and Applicable: what the loops have when they stand at a place. No statement of the seat is proved here. No conditions.
  Contracts of nomenclature.Level and production.ValidCountry. No statement of the seat is proved here. Conditions: the table of lengths is laid; the string is not too long.
  Contracts of production.ValidCountry and measure.validOrigins. No statement of the seat is proved here. Conditions: the strings are not too long.
-/
import Derived.Test.YtbokkeooahodaaaGreatDoorKAF
import Derived.Deep.RegionLaw
import Derived.Deep.DeepCutAuto
import Derived.Deep.RegionWith
import Derived.Test.YtbokkeooahodaaaGreatDoorKAE
import Derived.Shelf.Strings.SlTrimAscii
namespace Go.Proofs.YtbokkeooahodaaaGreatDoor
open Go.RowKit Go.Maps
set_option linter.unusedVariables false

theorem infoA20 : (Tryz.prog.info? 83).map (fun i => (i.zero, i.size, i.bytes)) = some (some (.agg #[.int .i64 0, .int .i64 0]), 2, 16) := by kernel_rfl
structure TlM (w0 : World) (N gt : Nat) (ks : List Ak) (R : Option Addr) (m c b k : Nat) (D : DataW Unit) (wx : World) : Prop where
  below : RowKit.Below N w0 wx
  t : Bl wx gt 80 #[.slice R m c, .map (some b)]
  o : wx.ownsRow N 83 2 (.slice R m c) m (flat encA ks)
  len : ks.length = m
  map : TlMap wx b k D
  base : N ≤ gt ∧ N ≤ b
def TlW (w0 : World) (N gt : Nat) (es : List Dl) (wx : World) : Prop :=
  (es = [] ∧ RowKit.Below N w0 wx ∧ N ≤ gt ∧ Bl wx gt 80 #[.slice none 0 0, .map none]) ∨
  ∃ (ks : List Ak) (R : Option Addr) (m c b k : Nat) (D : DataW Unit), TlM w0 N gt ks R m c b k D wx ∧ TlOk es ks D ∧ m ≤ es.length ∧ k ≤ es.length
theorem map_cells {w : World} {b n : Nat} {D : DataW Unit} (h : TlMap w b n D) {g : Nat} {T : TypeId} {cs : Array Value} (hb : Bl w g T cs) : b ≠ g := fun e => by
  obtain ⟨es, clock, h1, _⟩ := h
  subst e
  unfold Bl at hb
  rw [h1] at hb
  cases hb
theorem map_row {w : World} {b n : Nat} {D : DataW Unit} (h : TlMap w b n D) {base : Nat} {T : TypeId} {k m : Nat} {v : Value} {xs : List Value} (ho : w.ownsRow base T k v m xs) : v.ownBlock ≠ some b := fun e => by
  rcases ho.2 with ⟨hv, _⟩ | ⟨g1, _, _, hv, _, hh, _⟩
  · subst hv; cases e
  · subst hv
    have : g1 = b := by simpa [Value.ownBlock] using e
    exact map_cells h (show Bl w g1 T _ from hh) this.symm
theorem TlMap.of_block {w w' : World} {b n : Nat} {D : DataW Unit} (h : TlMap w b n D) (hb : w'.heap[b]? = w.heap[b]?) : TlMap w' b n D := by
  obtain ⟨es, clock, h1, h2⟩ := h
  exact ⟨es, clock, hb.trans h1, h2⟩
section
variable {w0 wx w' : World} {N gt : Nat} {ks : List Ak} {R : Option Addr} {m c b k : Nat} {D : DataW Unit}
theorem TlM.size (h : TlM w0 N gt ks R m c b k D wx) : N ≤ wx.heap.size := by have := h.t.lt; have := h.base.1; omega
theorem TlM.under (h : TlM w0 N gt ks R m c b k D wx) (hb : RowKit.Below wx.heap.size wx w') : TlM w0 N gt ks R m c b k D w' :=
  ⟨h.below.trans (hb.mono h.size), h.t.keep hb, own_below h.o hb, h.len, h.map.of_block (hb.block b (World.ownsMap.lt h.map)), h.base⟩
theorem TlM.drew (h : TlM w0 N gt ks R m c b k D wx) : TlM w0 N gt ks R m c b k D wx.drew := ⟨h.below.drew, h.t, h.o, h.len, h.map, h.base⟩
theorem TlM.drewN (h : TlM w0 N gt ks R m c b k D wx) (q : Nat) : TlM w0 N gt ks R m c b k D (wx.drewN q) := ⟨below_drewN h.below q, h.t, h.o, h.len, h.map, h.base⟩
theorem TlM.alloc (h : TlM w0 N gt ks R m c b k D wx) (o : Obj) : TlM w0 N gt ks R m c b k D (wx.alloc o) := h.under ((Below.refl _ _).alloc (Nat.le_refl _) _)
theorem TlM.only (h : TlM w0 N gt ks R m c b k D wx) (hO : Only b wx w') {k' : Nat} {D' : DataW Unit} (hm : TlMap w' b k' D') : TlM w0 N gt ks R m c b k' D' w' :=
  ⟨h.below.trans (hO.below h.base.2), hO.bl h.t (fun e => map_cells h.map h.t e.symm), own_of_block h.o (fun g hg => hO.block g (fun e => map_row h.map h.o (by rw [hg, e]))), h.len, hm, h.base⟩
theorem TlM.app (h : TlM w0 N gt ks R m c b k D wx) {R4 : Option Addr} {d4 : Nat} {x : Ak} {o : Obj} (hg : (wx.alloc o).grownBy w' (Value.slice R m c).ownBlock) (ho : w'.ownsRow N 83 2 (.slice R4 (m + 1) d4) (m + 1) (flat encA ks ++ encA x)) :
    Bl w' gt 80 #[.slice R m c, .map (some b)] ∧ TlM w0 N gt (ks ++ [x]) R4 (m + 1) d4 b k D (w'.setCell ⟨gt, 0, none⟩ (.slice R4 (m + 1) d4)) := by
  have h1 := h.alloc o
  have ht : Bl w' gt 80 #[.slice R m c, .map (some b)] := (hg.block gt h1.t.lt (fun e => own_apart h1.o h1.t (by decide) e)).trans h1.t
  have hm : TlMap w' b k D := h1.map.of_block (hg.block b (World.ownsMap.lt h1.map) (fun e => map_row h1.map h1.o e.symm))
  have hO : Only gt w' (w'.setCell ⟨gt, 0, none⟩ (.slice R4 (m + 1) d4)) := (Only.refl gt w').setCell 0 _
  refine ⟨ht, (h1.below.grown hg h1.size (fun g e => own_base h.o g e)).trans (hO.below h.base.1), by simpa using ht.put 0 (.slice R4 (m + 1) d4), ?_, by rw [List.length_append, h.len]; rfl, hm.of_block (hO.block b (map_cells hm ht)), h.base⟩
  rw [flat_append, flat_one]
  exact own_of_block ho fun g hgb => hO.block g (fun e => own_apart ho ht (by decide) (by rw [hgb, e]))
end
set_option maxRecDepth 100000 in
theorem lookok20 {w : World} {b n : Nat} {D : DataW Unit} (h : TlMap w b n D) {key : Value} {kl : Lit} (hkey : keyOf Tryz.prog 83 key = some kl) :
    ∃ c : Int, (Instr.lookup 78 (.map (some b)) key true).run Tryz.prog w = .ok (.tuple #[.int .i64 c, .bool (Maps.has D kl)]) w := by
  have hz : (Lit.int .i64 0).wf = true := by decide
  obtain ⟨v, ps, h1, h2⟩ := World.ownsMap.look_ok h accLaw Tryz.underlying78 (zeroI20 w) (plainElem_int Tryz.underlying3 hz) hkey
  obtain ⟨c, rfl, _⟩ := plainElem_int_inv Tryz.underlying3 h2
  exact ⟨c, h1⟩
theorem mapnil_none (w : World) : (binOp BinOp.eql 78 (Value.map none) (Value.map none)).run Tryz.prog w = .ok (.bool true) w := by kernel_rfl
theorem makemap20 (w : World) : (Instr.makeMap 78 none).run Tryz.prog w = .ok (.map (some w.heap.size)) (w.alloc (.map #[] 0)) := by kernel_rfl
theorem mapnil_some (b : Nat) (w : World) : (binOp BinOp.eql 78 (Value.map (some b)) (Value.map none)).run Tryz.prog w = .ok (.bool false) w := by kernel_rfl
set_option maxRecDepth 100000 in
set_option maxHeartbeats 8000000 in
theorem tadd_any (w0 : World) (N gt : Nat) (es : List Dl) (e : Dl) (w : World) (h : TlW w0 N gt es w) (hk : InK e.kind) (hm : InK e.meas) (ha : InK (totA es e.kind e.meas + e.amt)) (hl : es.length ≤ 1000) :
    Calls Tryz.prog 27 #[.pointer (some ⟨gt, 0, none⟩), .agg #[.int .i64 e.kind, .int .i64 e.meas], .int .i64 e.amt] w fun en w' => en = .returned (.tuple #[]) ∧ TlW w0 N gt (es ++ [e]) w' := by
  have HKEY := Lib.hid (accKey hk hm)
  have HK := Lib.hid hk
  have HM := Lib.hid hm
  have HA := Lib.hid ha
  have HKN : Hid (RowKit.Below w.heap.size w (w.alloc (.cells #[.int .i64 e.kind, .int .i64 e.meas] 83))) := (Below.refl _ _).alloc (Nat.le_refl _) _
  have HKB : Hid (Bl (w.alloc (.cells #[.int .i64 e.kind, .int .i64 e.meas] 83)) w.heap.size 83 #[.int .i64 e.kind, .int .i64 e.meas]) := Bl.new _ _ _
  go_enter Tryz.func27, Tryz.ntmps27
  go_upto_region 1 with (fail)
  obtain ⟨W, hW⟩ : ∃ W, w.alloc (.cells #[.int .i64 e.kind, .int .i64 e.meas] 83) = W := ⟨_, rfl⟩
  have H0 : Hid ((es = [] ∧ RowKit.Below N w0 W ∧ N ≤ gt ∧ Bl W gt 80 #[.slice none 0 0, .map none]) ∨ ∃ (ks : List Ak) (R : Option Addr) (m c b k : Nat) (D : DataW Unit), TlM w0 N gt ks R m c b k D W ∧ TlOk es ks D ∧ m ≤ es.length ∧ k ≤ es.length ∧ ∀ g, (Value.slice R m c).ownBlock = some g → g ≠ w.heap.size) := by
    rw [← hW]
    rcases h with ⟨h1, h2, h3, h4⟩ | ⟨ks, R, m, c, b, k, D, h1, h2, h3, h4⟩
    · exact .inl ⟨h1, h2.trans (HKN.out.mono (by have := h4.lt; omega)), h3, h4.keep HKN.out⟩
    · exact .inr ⟨ks, R, m, c, b, k, D, h1.alloc _, h2, h3, h4, fun g hg e => by have := own_lt h1.o g hg; omega⟩
  rw [hW] at HKB ⊢
  obtain ⟨gk, hgk⟩ : ∃ gk, w.heap.size = gk := ⟨_, rfl⟩
  rw [hgk] at HKB H0 ⊢
  clear h hk hm ha hW HKN
  rcases H0.out with ⟨h1, h2, h3, h4⟩ | ⟨ks, R, m, c, b, k, D, hT, hOk, hm1, hk1, hne⟩
  · subst h1
    have c1 : W.cell? ⟨gt, 1, none⟩ = some (.map none) := h4.cell 1
    have hlt := h4.lt
    have hq := mapnil_none W
    have hmk := makemap20 W
    have H4 := Lib.hid h4
    have H4A : Hid (Bl (W.alloc (.map #[] 0)) gt 80 #[.slice none 0 0, .map none]) := Bl.alloc h4 _
    have d1 : (W.alloc (.map #[] 0)).cell? ⟨gt, 1, none⟩ = some (.map none) := H4A.out.cell 1
    have e1 : (W.alloc (.map #[] 0)).frozen? ⟨gt, 1, none⟩ = false := H4A.out.free 1
    have HKA : Hid (Bl (W.alloc (.map #[] 0)) gk 83 #[.int .i64 e.kind, .int .i64 e.meas]) := Bl.alloc HKB.out _
    have hne : gk ≠ gt := bl_far HKA.out H4A.out (by decide)
    have HKS : Hid (Bl ((W.alloc (.map #[] 0)).setCell ⟨gt, 1, none⟩ (.map (some W.heap.size))) gk 83 #[.int .i64 e.kind, .int .i64 e.meas]) := HKA.out.far (p := ⟨gt, 1, none⟩) hne _
    have HOO : Only gt (W.alloc (.map #[] 0)) ((W.alloc (.map #[] 0)).setCell ⟨gt, 1, none⟩ (.map (some W.heap.size))) := (Only.refl _ _).setCell 1 _
    have HMP : TlMap ((W.alloc (.map #[] 0)).setCell ⟨gt, 1, none⟩ (.map (some W.heap.size))) W.heap.size 0 (.map []) := TlMap.of_block (World.ownsMap_made W Tryz.prog 83 _) (HOO.block W.heap.size (by omega))
    have HT0 : Hid (TlM w0 N gt [] none 0 0 W.heap.size 0 (.map []) ((W.alloc (.map #[] 0)).setCell ⟨gt, 1, none⟩ (.map (some W.heap.size)))) := ⟨(h2.alloc (by omega) _).trans (HOO.below h3), by simpa using H4A.out.put 1 (.map (some W.heap.size)), ⟨by simp [flat], .inl ⟨rfl, rfl⟩⟩, rfl, HMP, h3, by omega⟩
    have HEX : Hid (∃ (ks : List Ak) (R : Option Addr) (m c b k : Nat) (D : DataW Unit), TlM w0 N gt ks R m c b k D ((W.alloc (.map #[] 0)).setCell ⟨gt, 1, none⟩ (.map (some W.heap.size))) ∧ TlOk [] ks D ∧ m ≤ ([] : List Dl).length ∧ k ≤ ([] : List Dl).length ∧ ∀ g, (Value.slice R m c).ownBlock = some g → g ≠ gk) := ⟨_, _, _, _, _, _, _, HT0.out, TlOk.start, Nat.le_refl _, Nat.le_refl _, fun g hg => by cases hg⟩
    clear h2 h3 h4 H0 HKB HKA HOO HMP HT0 hne hlt
    go_upto_region 3 with (fail)
    clear c1 d1 e1 H4 H4A
    generalize (W.alloc (.map #[] 0)).setCell ⟨gt, 1, none⟩ (.map (some W.heap.size)) = W3 at *
    obtain ⟨ks, R, m, c, b, k, D, hT, hOk, hm1, hk1, hne⟩ := HEX.out
    have HNE := Lib.hid hne
    clear hne hmk
    simp only [List.length_nil] at hm1 hk1
    have HT := Lib.hid hT
    have HOK := Lib.hid hOk
    clear HEX hT hOk
    have t1 : W3.cell? ⟨gt, 1, none⟩ = some (.map (some b)) := HT.out.t.cell 1
    have k0 : W3.cell? ⟨gk, 0, none⟩ = some (.int .i64 e.kind) := HKS.out.cell 0
    have k1 : W3.cell? ⟨gk, 1, none⟩ = some (.int .i64 e.meas) := HKS.out.cell 1
    obtain ⟨cv, hlk⟩ := lookok20 HT.out.drew.map HKEY.out
    go_region
    have HT4 := Lib.hid HT.out.drew
    have HK4 : Hid (Bl W3.drew gk 83 #[.int .i64 e.kind, .int .i64 e.meas]) := HKS.out
    have hhas := HOK.out.has e.kind e.meas HK.out HM.out
    clear t1 k0 k1 hlk HT HKS
    generalize W3.drew = W4 at *
    cases hh : Maps.has D (keyL e.kind e.meas)
    case true =>
      have hin : (e.kind, e.meas) ∈ ks := by rw [hh] at hhas; exact of_decide_eq_true hhas.symm
      have HIN := Lib.hid hin
      have HT6 := HT4
      have HK6 := HK4
      clear HT4 HK4 hin hhas hh
      go_upto_region 6 with (fail)
      generalize W4 = W6 at *
      have t1 : W6.cell? ⟨gt, 1, none⟩ = some (.map (some b)) := HT6.out.t.cell 1
      have k0 : W6.cell? ⟨gk, 0, none⟩ = some (.int .i64 e.kind) := HK6.out.cell 0
      have k1 : W6.cell? ⟨gk, 1, none⟩ = some (.int .i64 e.meas) := HK6.out.cell 1
      obtain ⟨v0, st, W7, hr6, hO7, hl6, hl7, hst⟩ := entry20 HT6.out.drew.map (by unfold maxLen; omega) HKEY.out (keyL_key _ _) (HOK.out.at_ _ _ HK.out HM.out)
      obtain ⟨W8, hs8, hO8, hm8⟩ := hst (totA ([] : List Dl) e.kind e.meas + e.amt) HA.out.wf
      have HT8 := Lib.hid (HT6.out.drew.only hO8 hm8)
      have us : IntKind.i64.wrap (totA ([] : List Dl) e.kind e.meas + e.amt) = totA ([] : List Dl) e.kind e.meas + e.amt := IntWalk.i64_in _ (by have h1 := HA.out.1; have h2 := HA.out.2; omega)
      unfold goInt at hr6 hs8
      clear hst hO7 hO8 hm8
      go_region_with (fail)
      all_goals
        go_wp2_with fail
        go_end0
        exact ⟨rfl, .inr ⟨ks, R, m, c, b, k + 1, _, HT8.out, HOK.out.known e HK.out HM.out HIN.out, by simp only [List.length_append, List.length_cons, List.length_nil]; omega, by simp only [List.length_append, List.length_cons, List.length_nil]; omega⟩⟩
    case false =>
      have hin : (e.kind, e.meas) ∉ ks := by rw [hh] at hhas; exact of_decide_eq_false hhas.symm
      have HIN := Lib.hid hin
      clear hin hhas hh
      have t0 : W4.cell? ⟨gt, 0, none⟩ = some (.slice R m c) := HT4.out.t.cell 0
      have k0 : W4.cell? ⟨gk, 0, none⟩ = some (.int .i64 e.kind) := HK4.out.cell 0
      have k1 : W4.cell? ⟨gk, 1, none⟩ = some (.int .i64 e.meas) := HK4.out.cell 1
      go_upto_region 5 with (fail)
      have HOA : Hid ((W4.drew.alloc (.cells #[.int .i64 e.kind, .int .i64 e.meas] 83)).ownsRow N 83 2 (.slice R m c) m (flat encA ks)) := own_alloc HT4.out.drew.o _
      have HRD : Hid (Rd (W4.drew.alloc (.cells #[.int .i64 e.kind, .int .i64 e.meas] 83)) 2 (some ⟨W4.heap.size, 0, none⟩) 1 [.int .i64 e.kind, .int .i64 e.meas]) := rd_bl (w := W4.drew.alloc (.cells #[.int .i64 e.kind, .int .i64 e.meas] 83)) (xs := [.int .i64 e.kind, .int .i64 e.meas]) (Bl.new W4.drew _ _) rfl
      have HON : Hid (∀ u ∈ ([.int .i64 e.kind, .int .i64 e.meas] : List Value), u.oneCell' = true) := encA_one (e.kind, e.meas)
      have HM1 : Hid (m + 1 ≤ maxLen ∧ (m + 1) * 16 ≤ 140737488355328) := ⟨by unfold maxLen; omega, by omega⟩
      have HSZ := Lib.hid (HT4.out.drew.alloc (.cells #[.int .i64 e.kind, .int .i64 e.meas] 83)).size
      have HKA : Hid (Bl (W4.drew.alloc (.cells #[.int .i64 e.kind, .int .i64 e.meas] 83)) gk 83 #[.int .i64 e.kind, .int .i64 e.meas]) := Bl.alloc (w := W4.drew) HK4.out _
      have HAP : Hid (∀ (R4 : Option Addr) (d4 : Nat) (w' : World), (W4.drew.alloc (.cells #[.int .i64 e.kind, .int .i64 e.meas] 83)).grownBy w' (Value.slice R m c).ownBlock → w'.ownsRow N 83 2 (.slice R4 (m + 1) d4) (m + 1) (flat encA ks ++ encA (e.kind, e.meas)) → Bl w' gt 80 #[.slice R m c, .map (some b)] ∧ TlM w0 N gt (ks ++ [(e.kind, e.meas)]) R4 (m + 1) d4 b k D (w'.setCell ⟨gt, 0, none⟩ (.slice R4 (m + 1) d4))) := fun R4 d4 w' hg ho => HT4.out.drew.app hg ho
      have HTA : Hid (Bl (W4.drew.alloc (.cells #[.int .i64 e.kind, .int .i64 e.meas] 83)) gt 80 #[.slice R m c, .map (some b)]) := (HT4.out.drew.alloc _).t
      have nn0 := World.new_ne W4 ⟨gt, 0, none⟩ t0
      have nn1 := World.new_ne W4 ⟨gk, 0, none⟩ k0
      have nn2 := World.new_ne W4 ⟨gk, 1, none⟩ k1
      have al1 : (W4.drew.alloc (.cells #[.int .i64 e.kind, .int .i64 e.meas] 83)).cell? ⟨gt, 0, none⟩ = some (.slice R m c) := HTA.out.cell 0
      have al2 : (W4.alloc (.cells #[.int .i64 e.kind, .int .i64 e.meas] 83)).cell? ⟨gt, 0, none⟩ = some (.slice R m c) := al1
      go_region_law (refine step_append_rd _ (by rfl) (.tmp 32) (.tmp 34) 77 (by rfl) N 83 _ 2 16 Tryz.underlying77 infoA20 rfl (by decide) (.slice R m c) m _ (by rfl) HOA.out (some ⟨W4.heap.size, 0, none⟩) 1 1 [.int .i64 e.kind, .int .i64 e.meas] (by rfl) HRD.out HON.out HM1.out.1 HM1.out.2 HSZ.out ?_; intro v5 w5 ho5 hg5; obtain ⟨R5, d5, rfl⟩ := own_slice ho5; have y5 : w5.cell? ⟨gt, 0, none⟩ = some (.slice R m c) := (HAP.out _ _ _ hg5 ho5).1.cell 0; have f5 : w5.frozen? ⟨gt, 0, none⟩ = false := (HAP.out _ _ _ hg5 ho5).1.free 0)
      all_goals
      have HT6 := Lib.hid (HAP.out _ _ _ hg5 ho5).2
      have hk5 : Bl w5 gk 83 #[.int .i64 e.kind, .int .i64 e.meas] := (hg5.block gk HKA.out.lt (fun x => HNE.out gk x.symm rfl)).trans HKA.out
      have hkt : gk ≠ gt := bl_far HK4.out HT4.out.t (by decide)
      have HK6 : Hid (Bl (w5.setCell ⟨gt, 0, none⟩ (.slice R5 (m + 1) d5)) gk 83 #[.int .i64 e.kind, .int .i64 e.meas]) := hk5.far (p := ⟨gt, 0, none⟩) hkt _
      clear ho5 hg5 y5 f5 hk5 hkt t0 k0 k1 nn0 nn1 nn2 al1 al2 HTA HAP HKA HOA HRD HON HM1 HSZ HT4 HK4
      go_upto_region 6 with (fail)
      generalize w5.setCell ⟨gt, 0, none⟩ (.slice R5 (m + 1) d5) = W6 at *
      have t1 : W6.cell? ⟨gt, 1, none⟩ = some (.map (some b)) := HT6.out.t.cell 1
      have k0 : W6.cell? ⟨gk, 0, none⟩ = some (.int .i64 e.kind) := HK6.out.cell 0
      have k1 : W6.cell? ⟨gk, 1, none⟩ = some (.int .i64 e.meas) := HK6.out.cell 1
      obtain ⟨v0, st, W7, hr6, hO7, hl6, hl7, hst⟩ := entry20 HT6.out.drew.map (by unfold maxLen; omega) HKEY.out (keyL_key _ _) (HOK.out.at_ _ _ HK.out HM.out)
      obtain ⟨W8, hs8, hO8, hm8⟩ := hst (totA ([] : List Dl) e.kind e.meas + e.amt) HA.out.wf
      have HT8 := Lib.hid (HT6.out.drew.only hO8 hm8)
      have us : IntKind.i64.wrap (totA ([] : List Dl) e.kind e.meas + e.amt) = totA ([] : List Dl) e.kind e.meas + e.amt := IntWalk.i64_in _ (by have h1 := HA.out.1; have h2 := HA.out.2; omega)
      unfold goInt at hr6 hs8
      clear hst hO7 hO8 hm8
      go_region_with (fail)
      all_goals
        go_wp2_with fail
        go_end0
        exact ⟨rfl, .inr ⟨ks ++ [(e.kind, e.meas)], R5, m + 1, d5, b, k + 1, _, HT8.out, HOK.out.fresh e HK.out HM.out HIN.out, by simp only [List.length_append, List.length_cons, List.length_nil]; omega, by simp only [List.length_append, List.length_cons, List.length_nil]; omega⟩⟩
  · have c1 : W.cell? ⟨gt, 1, none⟩ = some (.map (some b)) := hT.t.cell 1
    have hq := mapnil_some b W
    have HT := Lib.hid hT
    have HOK := Lib.hid hOk
    have HKS := HKB
    have HNE := Lib.hid hne
    clear hne
    clear hT hOk H0 HKB
    go_upto_region 3 with (fail)
    clear c1
    generalize W = W3 at *
    have t1 : W3.cell? ⟨gt, 1, none⟩ = some (.map (some b)) := HT.out.t.cell 1
    have k0 : W3.cell? ⟨gk, 0, none⟩ = some (.int .i64 e.kind) := HKS.out.cell 0
    have k1 : W3.cell? ⟨gk, 1, none⟩ = some (.int .i64 e.meas) := HKS.out.cell 1
    obtain ⟨cv, hlk⟩ := lookok20 HT.out.drew.map HKEY.out
    go_region
    have HT4 := Lib.hid HT.out.drew
    have HK4 : Hid (Bl W3.drew gk 83 #[.int .i64 e.kind, .int .i64 e.meas]) := HKS.out
    have hhas := HOK.out.has e.kind e.meas HK.out HM.out
    clear t1 k0 k1 hlk HT HKS
    generalize W3.drew = W4 at *
    cases hh : Maps.has D (keyL e.kind e.meas)
    case true =>
      have hin : (e.kind, e.meas) ∈ ks := by rw [hh] at hhas; exact of_decide_eq_true hhas.symm
      have HIN := Lib.hid hin
      have HT6 := HT4
      have HK6 := HK4
      clear HT4 HK4 hin hhas hh
      go_upto_region 6 with (fail)
      generalize W4 = W6 at *
      have t1 : W6.cell? ⟨gt, 1, none⟩ = some (.map (some b)) := HT6.out.t.cell 1
      have k0 : W6.cell? ⟨gk, 0, none⟩ = some (.int .i64 e.kind) := HK6.out.cell 0
      have k1 : W6.cell? ⟨gk, 1, none⟩ = some (.int .i64 e.meas) := HK6.out.cell 1
      obtain ⟨v0, st, W7, hr6, hO7, hl6, hl7, hst⟩ := entry20 HT6.out.drew.map (by unfold maxLen; omega) HKEY.out (keyL_key _ _) (HOK.out.at_ _ _ HK.out HM.out)
      obtain ⟨W8, hs8, hO8, hm8⟩ := hst (totA es e.kind e.meas + e.amt) HA.out.wf
      have HT8 := Lib.hid (HT6.out.drew.only hO8 hm8)
      have us : IntKind.i64.wrap (totA es e.kind e.meas + e.amt) = totA es e.kind e.meas + e.amt := IntWalk.i64_in _ (by have h1 := HA.out.1; have h2 := HA.out.2; omega)
      unfold goInt at hr6 hs8
      clear hst hO7 hO8 hm8
      go_region_with (fail)
      all_goals
        go_wp2_with fail
        go_end0
        exact ⟨rfl, .inr ⟨ks, R, m, c, b, k + 1, _, HT8.out, HOK.out.known e HK.out HM.out HIN.out, by simp only [List.length_append, List.length_cons, List.length_nil]; omega, by simp only [List.length_append, List.length_cons, List.length_nil]; omega⟩⟩
    case false =>
      have hin : (e.kind, e.meas) ∉ ks := by rw [hh] at hhas; exact of_decide_eq_false hhas.symm
      have HIN := Lib.hid hin
      clear hin hhas hh
      have t0 : W4.cell? ⟨gt, 0, none⟩ = some (.slice R m c) := HT4.out.t.cell 0
      have k0 : W4.cell? ⟨gk, 0, none⟩ = some (.int .i64 e.kind) := HK4.out.cell 0
      have k1 : W4.cell? ⟨gk, 1, none⟩ = some (.int .i64 e.meas) := HK4.out.cell 1
      go_upto_region 5 with (fail)
      have HOA : Hid ((W4.drew.alloc (.cells #[.int .i64 e.kind, .int .i64 e.meas] 83)).ownsRow N 83 2 (.slice R m c) m (flat encA ks)) := own_alloc HT4.out.drew.o _
      have HRD : Hid (Rd (W4.drew.alloc (.cells #[.int .i64 e.kind, .int .i64 e.meas] 83)) 2 (some ⟨W4.heap.size, 0, none⟩) 1 [.int .i64 e.kind, .int .i64 e.meas]) := rd_bl (w := W4.drew.alloc (.cells #[.int .i64 e.kind, .int .i64 e.meas] 83)) (xs := [.int .i64 e.kind, .int .i64 e.meas]) (Bl.new W4.drew _ _) rfl
      have HON : Hid (∀ u ∈ ([.int .i64 e.kind, .int .i64 e.meas] : List Value), u.oneCell' = true) := encA_one (e.kind, e.meas)
      have HM1 : Hid (m + 1 ≤ maxLen ∧ (m + 1) * 16 ≤ 140737488355328) := ⟨by unfold maxLen; omega, by omega⟩
      have HSZ := Lib.hid (HT4.out.drew.alloc (.cells #[.int .i64 e.kind, .int .i64 e.meas] 83)).size
      have HKA : Hid (Bl (W4.drew.alloc (.cells #[.int .i64 e.kind, .int .i64 e.meas] 83)) gk 83 #[.int .i64 e.kind, .int .i64 e.meas]) := Bl.alloc (w := W4.drew) HK4.out _
      have HAP : Hid (∀ (R4 : Option Addr) (d4 : Nat) (w' : World), (W4.drew.alloc (.cells #[.int .i64 e.kind, .int .i64 e.meas] 83)).grownBy w' (Value.slice R m c).ownBlock → w'.ownsRow N 83 2 (.slice R4 (m + 1) d4) (m + 1) (flat encA ks ++ encA (e.kind, e.meas)) → Bl w' gt 80 #[.slice R m c, .map (some b)] ∧ TlM w0 N gt (ks ++ [(e.kind, e.meas)]) R4 (m + 1) d4 b k D (w'.setCell ⟨gt, 0, none⟩ (.slice R4 (m + 1) d4))) := fun R4 d4 w' hg ho => HT4.out.drew.app hg ho
      have HTA : Hid (Bl (W4.drew.alloc (.cells #[.int .i64 e.kind, .int .i64 e.meas] 83)) gt 80 #[.slice R m c, .map (some b)]) := (HT4.out.drew.alloc _).t
      have nn0 := World.new_ne W4 ⟨gt, 0, none⟩ t0
      have nn1 := World.new_ne W4 ⟨gk, 0, none⟩ k0
      have nn2 := World.new_ne W4 ⟨gk, 1, none⟩ k1
      have al1 : (W4.drew.alloc (.cells #[.int .i64 e.kind, .int .i64 e.meas] 83)).cell? ⟨gt, 0, none⟩ = some (.slice R m c) := HTA.out.cell 0
      have al2 : (W4.alloc (.cells #[.int .i64 e.kind, .int .i64 e.meas] 83)).cell? ⟨gt, 0, none⟩ = some (.slice R m c) := al1
      go_region_law (refine step_append_rd _ (by rfl) (.tmp 32) (.tmp 34) 77 (by rfl) N 83 _ 2 16 Tryz.underlying77 infoA20 rfl (by decide) (.slice R m c) m _ (by rfl) HOA.out (some ⟨W4.heap.size, 0, none⟩) 1 1 [.int .i64 e.kind, .int .i64 e.meas] (by rfl) HRD.out HON.out HM1.out.1 HM1.out.2 HSZ.out ?_; intro v5 w5 ho5 hg5; obtain ⟨R5, d5, rfl⟩ := own_slice ho5; have y5 : w5.cell? ⟨gt, 0, none⟩ = some (.slice R m c) := (HAP.out _ _ _ hg5 ho5).1.cell 0; have f5 : w5.frozen? ⟨gt, 0, none⟩ = false := (HAP.out _ _ _ hg5 ho5).1.free 0)
      all_goals
      have HT6 := Lib.hid (HAP.out _ _ _ hg5 ho5).2
      have hk5 : Bl w5 gk 83 #[.int .i64 e.kind, .int .i64 e.meas] := (hg5.block gk HKA.out.lt (fun x => HNE.out gk x.symm rfl)).trans HKA.out
      have hkt : gk ≠ gt := bl_far HK4.out HT4.out.t (by decide)
      have HK6 : Hid (Bl (w5.setCell ⟨gt, 0, none⟩ (.slice R5 (m + 1) d5)) gk 83 #[.int .i64 e.kind, .int .i64 e.meas]) := hk5.far (p := ⟨gt, 0, none⟩) hkt _
      clear ho5 hg5 y5 f5 hk5 hkt t0 k0 k1 nn0 nn1 nn2 al1 al2 HTA HAP HKA HOA HRD HON HM1 HSZ HT4 HK4
      go_upto_region 6 with (fail)
      generalize w5.setCell ⟨gt, 0, none⟩ (.slice R5 (m + 1) d5) = W6 at *
      have t1 : W6.cell? ⟨gt, 1, none⟩ = some (.map (some b)) := HT6.out.t.cell 1
      have k0 : W6.cell? ⟨gk, 0, none⟩ = some (.int .i64 e.kind) := HK6.out.cell 0
      have k1 : W6.cell? ⟨gk, 1, none⟩ = some (.int .i64 e.meas) := HK6.out.cell 1
      obtain ⟨v0, st, W7, hr6, hO7, hl6, hl7, hst⟩ := entry20 HT6.out.drew.map (by unfold maxLen; omega) HKEY.out (keyL_key _ _) (HOK.out.at_ _ _ HK.out HM.out)
      obtain ⟨W8, hs8, hO8, hm8⟩ := hst (totA es e.kind e.meas + e.amt) HA.out.wf
      have HT8 := Lib.hid (HT6.out.drew.only hO8 hm8)
      have us : IntKind.i64.wrap (totA es e.kind e.meas + e.amt) = totA es e.kind e.meas + e.amt := IntWalk.i64_in _ (by have h1 := HA.out.1; have h2 := HA.out.2; omega)
      unfold goInt at hr6 hs8
      clear hst hO7 hO8 hm8
      go_region_with (fail)
      all_goals
        go_wp2_with fail
        go_end0
        exact ⟨rfl, .inr ⟨ks ++ [(e.kind, e.meas)], R5, m + 1, d5, b, k + 1, _, HT8.out, HOK.out.fresh e HK.out HM.out HIN.out, by simp only [List.length_append, List.length_cons, List.length_nil]; omega, by simp only [List.length_append, List.length_cons, List.length_nil]; omega⟩⟩
end Go.Proofs.YtbokkeooahodaaaGreatDoor

namespace Go.Proofs.YtbokkeooahodaaaGreatDoor
set_option linter.unusedVariables false

theorem take_snoc20 {α : Type} [Inhabited α] (l : List α) {i : Nat} (h : i < l.length) : l.take (i + 1) = l.take i ++ [l[i]!] := by
  rw [List.take_succ_eq_append_getElem h, getElem!_pos l i h]
def leF (l : List Ms) (p : Pt) (j : Nat) : Int × Option Dl := ((p.kinds.take j).flatMap fun k => l.filter fun m => decide (m.kind = k)).foldl (stepL p) (0, none)
def leG (l : List Ms) (p : Pt) (j i : Nat) : Int × Option Dl := ((l.take i).filter fun m => decide (m.kind = p.kinds[j]!)).foldl (stepL p) (leF l p j)
theorem leG_skip {l : List Ms} {p : Pt} {j i : Nat} (h : i < l.length) (hk : l[i]!.kind ≠ p.kinds[j]!) : leG l p j (i + 1) = leG l p j i := by
  unfold leG
  rw [take_snoc20 l h, List.filter_append, List.filter_cons_of_neg (by simpa using hk), List.filter_nil, List.append_nil]
theorem leG_step {l : List Ms} {p : Pt} {j i : Nat} (h : i < l.length) (hk : l[i]!.kind = p.kinds[j]!) : leG l p j (i + 1) = stepL p (leG l p j i) l[i]! := by
  unfold leG
  rw [take_snoc20 l h, List.filter_append, List.filter_cons_of_pos (by simpa using hk), List.filter_nil, List.foldl_append]
  rfl
theorem leF_step {l : List Ms} {p : Pt} {j : Nat} (h : j < p.kinds.length) : leF l p (j + 1) = leG l p j l.length := by
  unfold leG
  rw [List.take_length]
  unfold leF
  rw [take_snoc20 p.kinds h, List.flatMap_append, List.foldl_append]
  simp
theorem leF_all (l : List Ms) (p : Pt) : leF l p p.kinds.length = leastOf l p := by
  unfold leF leastOf triedOf
  rw [List.take_length]
theorem fold_err {p : Pt} {s : Int × Option Dl} (h : s.1 ≠ 0) (l : List Ms) : l.foldl (stepL p) s = s := by
  induction l with
  | nil => rfl
  | cons m l ih =>
    rw [List.foldl_cons]
    have : stepL p s m = s := by unfold stepL; rw [if_pos h]
    rw [this, ih]
theorem least_err {l : List Ms} {p : Pt} {j i : Nat} (hj : j < p.kinds.length) (hi : i ≤ l.length) (h : (leG l p j i).1 ≠ 0) : leastOf l p = leG l p j i := by
  have e1 : leF l p (j + 1) = leG l p j i := by
    rw [leF_step hj]
    have : leG l p j l.length = ((l.drop i).filter fun m => decide (m.kind = p.kinds[j]!)).foldl (stepL p) (leG l p j i) := by
      unfold leG
      rw [← List.foldl_append, ← List.filter_append, List.take_append_drop, List.take_length]
    rw [this, fold_err h]
  have e2 : leastOf l p = ((p.kinds.drop (j + 1)).flatMap fun k => l.filter fun m => decide (m.kind = k)).foldl (stepL p) (leF l p (j + 1)) := by
    unfold leF leastOf triedOf
    rw [← List.foldl_append, ← List.flatMap_append, List.take_append_drop]
  rw [e2, e1, fold_err h]
theorem stepL_bad {p : Pt} {s : Int × Option Dl} {m : Ms} (h : s.1 = 0) (he : (evalOut m.du p.val p.qty).2 ≠ 0) : stepL p s m = ((evalOut m.du p.val p.qty).2, none) := by
  unfold stepL
  rw [if_neg (by simpa using h), if_pos he]
def fndOf (s : Int × Option Dl) : Bool := s.2.isSome
def bestL (s : Int × Option Dl) : Dl := s.2.getD ⟨0, 0, 0, 0, 0⟩
theorem stepL_take {p : Pt} {s : Int × Option Dl} {m : Ms} (h : s.1 = 0) (he : (evalOut m.du p.val p.qty).2 = 0) (hb : fndOf s = false ∨ (evalOut m.du p.val p.qty).1 < (bestL s).amt) :
    stepL p s m = (0, some ⟨m.kind, m.id, p.qty, p.val, (evalOut m.du p.val p.qty).1⟩) := by
  obtain ⟨e, o⟩ := s
  unfold stepL
  rw [if_neg (by simpa using h), if_neg (by simpa using he)]
  cases o with
  | none => rfl
  | some b =>
    rcases hb with hb | hb
    · cases hb
    · simp only [bestL, Option.getD_some] at hb
      simp only []
      rw [if_pos hb]
theorem stepL_keep {p : Pt} {s : Int × Option Dl} {m : Ms} (h : s.1 = 0) (he : (evalOut m.du p.val p.qty).2 = 0) (hf : fndOf s = true) (hb : ¬ (evalOut m.du p.val p.qty).1 < (bestL s).amt) : stepL p s m = s := by
  obtain ⟨e, o⟩ := s
  unfold stepL
  rw [if_neg (by simpa using h), if_neg (by simpa using he)]
  cases o with
  | none => cases hf
  | some b =>
    simp only [bestL, Option.getD_some] at hb
    simp only []
    rw [if_neg hb]
theorem evalOut_bounds {d : Du} {v q : Int} (h : (evalOut d v q).2 = 0) : 0 ≤ (evalOut d v q).1 ∧ (evalOut d v q).1 ≤ 1000000000000 := by
  by_cases h1 : duErr d = 0
  · by_cases h2 : inRange v q
    · by_cases h3 : (quo18 d v q).2 ≠ 0 ∨ 1000000000000 < (quo18 d v q).1
      · rw [evalOut_over h1 h2 h3] at h; cases h
      · rw [evalOut_ok h1 h2 h3]
        simp only [not_or, Decidable.not_not, Int.not_lt] at h3
        refine ⟨?_, h3.2⟩
        have hb := num2_bound (duErr_zero h1).1 h2
        have hp := perOf_pos d
        have h5 : 0 ≤ num2 d v q / (1000000 * perOf d) := Int.ediv_nonneg hb.1 (by omega)
        show 0 ≤ (quo18 d v q).1
        unfold quo18 divOut
        generalize num2 d v q / (1000000 * perOf d) = x at h5 ⊢
        repeat' split
        all_goals (simp only []; omega)
    · rw [evalOut_range h1 h2] at h; cases h
  · rw [evalOut_bad h1] at h; exact absurd h h1
/-! Applicable -/
theorem bestOf_zero (l : List Ms) (k : Int) (x : It) : bestOf l k x 0 = -1 := rfl
theorem bestOf_take {l : List Ms} {k : Int} {x : It} {i : Nat} (h : l[i]!.kind = k ∧ coversB l[i]! x = true ∧ (bestOf l k x i < 0 ∨ precB l[i]! l[(bestOf l k x i).toNat]! = true)) : bestOf l k x (i + 1) = (i : Int) := by
  show (if _ then _ else _) = _
  rw [if_pos h]
theorem bestOf_keep {l : List Ms} {k : Int} {x : It} {i : Nat} (h : ¬ (l[i]!.kind = k ∧ coversB l[i]! x = true ∧ (bestOf l k x i < 0 ∨ precB l[i]! l[(bestOf l k x i).toNat]! = true))) : bestOf l k x (i + 1) = bestOf l k x i := by
  show (if _ then _ else _) = _
  rw [if_neg h]
theorem bestOf_bounds (l : List Ms) (k : Int) (x : It) (i : Nat) : -1 ≤ bestOf l k x i ∧ bestOf l k x i < (i : Int) := by
  induction i with
  | zero => exact ⟨by rw [bestOf_zero]; omega, by rw [bestOf_zero]; omega⟩
  | succ i ih =>
    by_cases h : l[i]!.kind = k ∧ coversB l[i]! x = true ∧ (bestOf l k x i < 0 ∨ precB l[i]! l[(bestOf l k x i).toNat]! = true)
    · rw [bestOf_take h]; omega
    · rw [bestOf_keep h]; omega
theorem appTo_none {l : List Ms} {x : It} {n : Nat} (h : bestOf l (n + 1 : Nat) x l.length < 0) : appTo l x (n + 1) = appTo l x n := by
  show appTo l x n ++ (ofKind l (n + 1 : Nat) x).toList = _
  unfold ofKind
  rw [if_pos h]
  simp
theorem appTo_some {l : List Ms} {x : It} {n : Nat} {b : Nat} (h : bestOf l (n + 1 : Nat) x l.length = (b : Int)) : appTo l x (n + 1) = appTo l x n ++ [l[b]!] := by
  show appTo l x n ++ (ofKind l (n + 1 : Nat) x).toList = _
  unfold ofKind
  rw [h, if_neg (by omega)]
  simp
theorem appTo_len (l : List Ms) (x : It) (n : Nat) : (appTo l x n).length ≤ n := by
  induction n with
  | zero => simp [appTo]
  | succ n ih =>
    show (appTo l x n ++ (ofKind l (n + 1 : Nat) x).toList).length ≤ _
    rw [List.length_append]
    have : (ofKind l (n + 1 : Nat) x).toList.length ≤ 1 := by cases ofKind l (n + 1 : Nat) x <;> simp
    omega
end Go.Proofs.YtbokkeooahodaaaGreatDoor

namespace Go.Proofs.YtbokkeooahodaaaGreatDoor
open Go.RowKit
set_option linter.unusedVariables false

def LenG (w : World) : Prop := 0 < w.heap.size ∧ w.cell? ⟨0, 0, none⟩ = some (.int .i64 2) ∧ w.cell? ⟨0, 1, none⟩ = some (.int .i64 4) ∧ w.cell? ⟨0, 2, none⟩ = some (.int .i64 6) ∧ w.cell? ⟨0, 3, none⟩ = some (.int .i64 8)
theorem LenG.below {w w' : World} (h : LenG w) (hb : RowKit.Below w.heap.size w w') : LenG w' :=
  ⟨Nat.lt_of_lt_of_le h.1 hb.size, (hb.cell (p := ⟨0, 0, none⟩) h.1).trans h.2.1, (hb.cell (p := ⟨0, 1, none⟩) h.1).trans h.2.2.1, (hb.cell (p := ⟨0, 2, none⟩) h.1).trans h.2.2.2.1, (hb.cell (p := ⟨0, 3, none⟩) h.1).trans h.2.2.2.2⟩

def digL : List UInt8 := [48, 49, 50, 51, 52, 53, 54, 55, 56, 57]
theorem dig_contains (b : UInt8) : digL.contains b = isDig b := by
  rw [Bool.eq_iff_iff]
  unfold digL isDig
  simp only [List.contains_cons, List.contains_nil, Bool.or_eq_true, Bool.and_eq_true, decide_eq_true_eq, beq_iff_eq, Bool.or_false]
  constructor
  · rintro (rfl | rfl | rfl | rfl | rfl | rfl | rfl | rfl | rfl | rfl) <;> decide
  · rintro ⟨h1, h2⟩
    have h3 : b.toNat = 48 ∨ b.toNat = 49 ∨ b.toNat = 50 ∨ b.toNat = 51 ∨ b.toNat = 52 ∨ b.toNat = 53 ∨ b.toNat = 54 ∨ b.toNat = 55 ∨ b.toNat = 56 ∨ b.toNat = 57 := by omega
    have k : ∀ c : UInt8, b.toNat = c.toNat → b = c := fun c h => UInt8.toNat_inj.1 h
    rcases h3 with h | h | h | h | h | h | h | h | h | h
    · exact .inl (k 48 h)
    · exact .inr (.inl (k 49 h))
    · exact .inr (.inr (.inl (k 50 h)))
    · exact .inr (.inr (.inr (.inl (k 51 h))))
    · exact .inr (.inr (.inr (.inr (.inl (k 52 h)))))
    · exact .inr (.inr (.inr (.inr (.inr (.inl (k 53 h))))))
    · exact .inr (.inr (.inr (.inr (.inr (.inr (.inl (k 54 h)))))))
    · exact .inr (.inr (.inr (.inr (.inr (.inr (.inr (.inl (k 55 h))))))))
    · exact .inr (.inr (.inr (.inr (.inr (.inr (.inr (.inr (.inl (k 56 h)))))))))
    · exact .inr (.inr (.inr (.inr (.inr (.inr (.inr (.inr (.inr (k 57 h)))))))))
theorem dw_nil (p : UInt8 → Bool) : ∀ l : List UInt8, l.dropWhile p = [] ↔ l.all p = true
  | [] => by simp
  | a :: l => by
    cases h : p a with
    | true => rw [List.dropWhile_cons_of_pos h, dw_nil p l, List.all_cons, h, Bool.true_and]
    | false => rw [List.dropWhile_cons_of_neg (by simp [h]), List.all_cons, h]; simp
theorem dw_head (p : UInt8 → Bool) : ∀ (l : List UInt8) (a : UInt8) (t : List UInt8), l.dropWhile p = a :: t → p a = false
  | [], a, t, h => by simp at h
  | b :: l, a, t, h => by
    cases hb : p b with
    | true => rw [List.dropWhile_cons_of_pos hb] at h; exact dw_head p l a t h
    | false => rw [List.dropWhile_cons_of_neg (by simp [hb])] at h; injection h with h1 h2; rw [← h1]; exact hb
theorem trim_nil (l : List UInt8) : Lib.trimS l digL = [] ↔ l.all isDig = true := by
  unfold Lib.trimS Lib.trimLeftS Lib.trimRightS
  have e : (fun x => digL.contains x) = isDig := funext dig_contains
  rw [e, dw_nil]
  cases h : l.reverse.dropWhile isDig with
  | nil =>
    have := (dw_nil isDig l.reverse).1 h
    rw [List.all_reverse] at this
    simp [this]
  | cons a t =>
    have h1 := dw_head isDig _ _ _ h
    have h2 : l.all isDig = false := by
      rcases Bool.eq_false_or_eq_true (l.all isDig) with e | e
      · rw [← List.all_reverse] at e
        have := (dw_nil isDig l.reverse).2 e
        rw [this] at h
        cases h
      · exact e
    rw [h2, List.all_reverse, List.all_cons, h1]
    simp

set_option maxRecDepth 100000 in
theorem trim_any (s : ByteArray) (w : World) (h0 : 0 < s.size) (hs : s.size ≤ 1000000) :
    Calls Tryz.prog 88 #[.string s, .string ⟨#[48, 49, 50, 51, 52, 53, 54, 55, 56, 57]⟩] w fun e w' => e = .returned (.string ⟨(Lib.trimS s.data.toList digL).toArray⟩) ∧ RowKit.Below w.heap.size w w' := by
  refine (Any.strings_Trim_set Tryz.lays160 (fun w => Tryz.zeroValue246 w) (by kernel_rfl) s ⟨#[48, 49, 50, 51, 52, 53, 54, 55, 56, 57]⟩ w (by decide) h0 (by omega) (by decide) ?_).mono ?_
  · intro j b hb
    have : b ∈ ([48, 49, 50, 51, 52, 53, 54, 55, 56, 57] : List UInt8) := List.mem_of_getElem? hb
    simp only [List.mem_cons, List.not_mem_nil, or_false] at this
    rcases this with rfl | rfl | rfl | rfl | rfl | rfl | rfl | rfl | rfl | rfl <;> decide
  · rintro e w' ⟨rfl, q, rfl⟩
    exact ⟨rfl, below_drewN (((Below.refl _ _).alloc (Nat.le_refl _) _).alloc (by simp) _) _⟩

theorem level_yes {s : ByteArray} {n : Nat} (hn : n = 2 ∨ n = 4 ∨ n = 6 ∨ n = 8) (h : s.size = n) (ha : s.toList.all isDig = true) : levelV s = n := by
  unfold levelV levelL
  rw [toList_len, if_pos ⟨by omega, ha⟩, h]
theorem level_no {s : ByteArray} (h : ∀ j, j < 4 → ¬ (s.size = 2 * (j + 1) ∧ s.toList.all isDig = true)) : levelV s = 0 := by
  unfold levelV levelL
  rw [toList_len, if_neg]
  rintro ⟨h1, h2⟩
  rcases h1 with h1 | h1 | h1 | h1
  · exact h 0 (by omega) ⟨h1, h2⟩
  · exact h 1 (by omega) ⟨h1, h2⟩
  · exact h 2 (by omega) ⟨h1, h2⟩
  · exact h 3 (by omega) ⟨h1, h2⟩

theorem len_index (w : World) (k : Nat) (hk : k < 4) : (Instr.index 182 (.agg #[.int .i64 2, .int .i64 4, .int .i64 6, .int .i64 8]) (.int .i64 k)).run Tryz.prog w = .ok (.int .i64 (2 * (k + 1) : Nat)) w := by
  have h : k = 0 ∨ k = 1 ∨ k = 2 ∨ k = 3 := by omega
  rcases h with rfl | rfl | rfl | rfl <;> simp [go_sem, Instr.index]
set_option maxRecDepth 100000 in
set_option maxHeartbeats 4000000 in
theorem level_any (s : ByteArray) (w : World) (hG : LenG w) (hs : s.size ≤ 1000000) :
    Calls Tryz.prog 46 #[.string s] w (VRes w (levelV s)) := by
  have HTr : Hid (0 < s.size → ∀ w, Calls Tryz.prog 88 #[.string s, .string ⟨#[48, 49, 50, 51, 52, 53, 54, 55, 56, 57]⟩] w fun e w' => e = .returned (.string ⟨(Lib.trimS s.data.toList digL).toArray⟩) ∧ RowKit.Below w.heap.size w w') := fun h w => trim_any s w h hs
  have HTn : Hid (Lib.trimS s.data.toList digL = [] ↔ s.toList.all isDig = true) := by have := trim_nil s.toList; rw [ByteArray.toList_eq] at this ⊢; exact this
  have HYes : Hid (∀ n : Nat, (n = 2 ∨ n = 4 ∨ n = 6 ∨ n = 8) → s.size = n → s.toList.all isDig = true → levelV s = n) := fun n hn h ha => level_yes hn h ha
  have HNo : Hid ((∀ j, j < 4 → ¬ (s.size = 2 * (j + 1) ∧ s.toList.all isDig = true)) → levelV s = 0) := fun h => level_no h
  generalize Lib.trimS s.data.toList digL = tr at *
  generalize s.toList.all isDig = al at *
  obtain ⟨g0, g1, g2, g3, g4⟩ := hG
  go_enter Tryz.func46, Tryz.ntmps46
  go_wp2
  go_loopw [6] (fun i wr => ∃ k : Nat, k ≤ 4 ∧ i = .int .i64 k ∧ Hid (∀ j, j < k → ¬ (s.size = 2 * (j + 1) ∧ al = true)) ∧ RowKit.Below w.heap.size w wr) (fun i _ => 4 - (intOf i).toNat)
  case atStart => exact ⟨0, Nat.zero_le _, rfl, fun j hj => absurd hj (by omega), Below.refl _ _⟩
  case round =>
    obtain ⟨k, hk, rfl, HA, hbel⟩ := hrel
    by_cases hlt : k < 4
    · have hk4 : k = 0 ∨ k = 1 ∨ k = 2 ∨ k = 3 := by omega
      have I0 : (Instr.index 182 (.agg #[.int .i64 2, .int .i64 4, .int .i64 6, .int .i64 8]) (.int .i64 0)).run Tryz.prog wr = .ok (.int .i64 2) wr := len_index wr 0 (by omega)
      have I1 : (Instr.index 182 (.agg #[.int .i64 2, .int .i64 4, .int .i64 6, .int .i64 8]) (.int .i64 1)).run Tryz.prog wr = .ok (.int .i64 4) wr := len_index wr 1 (by omega)
      have I2 : (Instr.index 182 (.agg #[.int .i64 2, .int .i64 4, .int .i64 6, .int .i64 8]) (.int .i64 2)).run Tryz.prog wr = .ok (.int .i64 6) wr := len_index wr 2 (by omega)
      have I3 : (Instr.index 182 (.agg #[.int .i64 2, .int .i64 4, .int .i64 6, .int .i64 8]) (.int .i64 3)).run Tryz.prog wr = .ok (.int .i64 8) wr := len_index wr 3 (by omega)
      rcases hk4 with rfl | rfl | rfl | rfl
      · by_cases hl : s.size = 2
        · have b1 : ((s.size : Int) == 2) = true := by simp; omega
          have HT := Lib.hid (HTr.out (by omega))
          cases al with
          | true =>
            have e0 : tr = [] := HTn.out.2 rfl
            subst e0
            have E := Lib.hid (HYes.out 2 (by omega) hl rfl)
            clear hl
            go_wp2_with fail
            refine (HT.out _).mono ?_
            rintro e w1 ⟨rfl, hb1⟩
            have HB1 := Lib.hid (hbel.trans (hb1.mono hbel.size))
            clear hb1 hbel
            go_wp2
            go_ret
            exact ⟨ret_int' E.out.symm, HB1.out⟩
          | false =>
            have e0 : tr ≠ [] := fun h => by have := HTn.out.1 h; cases this
            have HE := Lib.hid e0
            have HA' : Hid (∀ j, j < 0 + 1 → ¬ (s.size = 2 * (j + 1) ∧ false = true)) := fun j _ hx => by cases hx.2
            have HT2 : Hid (∀ w, Calls Tryz.prog 88 #[.string s, .string ⟨#[48, 49, 50, 51, 52, 53, 54, 55, 56, 57]⟩] w fun e w' => ∃ t : ByteArray, e = .returned (.string t) ∧ (t.toList == ([] : List UInt8)) = false ∧ RowKit.Below w.heap.size w w') := fun w => (HT.out w).mono fun e w' h => ⟨_, h.1, by rw [ByteArray.toList_eq]; simpa using HE.out, h.2⟩
            clear hl HT e0
            go_wp2_with fail
            refine (HT2.out _).mono ?_
            rintro e w1 ⟨t, rfl, ht, hb1⟩
            have HB1 := Lib.hid (hbel.trans (hb1.mono hbel.size))
            clear hb1 hbel
            go_wp2
            go_roundw
            case rel => exact ⟨0 + 1, by omega, by go_num, HA'.out, HB1.out⟩
            case measure => simp [intOf]
        · have b1 : ((s.size : Int) == 2) = false := by simp; omega
          have HA' : Hid (∀ j, j < 0 + 1 → ¬ (s.size = 2 * (j + 1) ∧ al = true)) := fun j hj hx => by
            by_cases e : j = 0
            · subst e; exact hl hx.1
            · exact HA.out j (by omega) hx
          clear HA
          go_wp2
          go_roundw
          case rel => exact ⟨0 + 1, by omega, by go_num, HA'.out, hbel⟩
          case measure => simp [intOf]
      · by_cases hl : s.size = 4
        · have b1 : ((s.size : Int) == 4) = true := by simp; omega
          have HT := Lib.hid (HTr.out (by omega))
          cases al with
          | true =>
            have e0 : tr = [] := HTn.out.2 rfl
            subst e0
            have E := Lib.hid (HYes.out 4 (by omega) hl rfl)
            clear hl
            go_wp2_with fail
            refine (HT.out _).mono ?_
            rintro e w1 ⟨rfl, hb1⟩
            have HB1 := Lib.hid (hbel.trans (hb1.mono hbel.size))
            clear hb1 hbel
            go_wp2
            go_ret
            exact ⟨ret_int' E.out.symm, HB1.out⟩
          | false =>
            have e0 : tr ≠ [] := fun h => by have := HTn.out.1 h; cases this
            have HE := Lib.hid e0
            have HA' : Hid (∀ j, j < 1 + 1 → ¬ (s.size = 2 * (j + 1) ∧ false = true)) := fun j _ hx => by cases hx.2
            have HT2 : Hid (∀ w, Calls Tryz.prog 88 #[.string s, .string ⟨#[48, 49, 50, 51, 52, 53, 54, 55, 56, 57]⟩] w fun e w' => ∃ t : ByteArray, e = .returned (.string t) ∧ (t.toList == ([] : List UInt8)) = false ∧ RowKit.Below w.heap.size w w') := fun w => (HT.out w).mono fun e w' h => ⟨_, h.1, by rw [ByteArray.toList_eq]; simpa using HE.out, h.2⟩
            clear hl HT e0
            go_wp2_with fail
            refine (HT2.out _).mono ?_
            rintro e w1 ⟨t, rfl, ht, hb1⟩
            have HB1 := Lib.hid (hbel.trans (hb1.mono hbel.size))
            clear hb1 hbel
            go_wp2
            go_roundw
            case rel => exact ⟨1 + 1, by omega, by go_num, HA'.out, HB1.out⟩
            case measure => simp [intOf]
        · have b1 : ((s.size : Int) == 4) = false := by simp; omega
          have HA' : Hid (∀ j, j < 1 + 1 → ¬ (s.size = 2 * (j + 1) ∧ al = true)) := fun j hj hx => by
            by_cases e : j = 1
            · subst e; exact hl hx.1
            · exact HA.out j (by omega) hx
          clear HA
          go_wp2
          go_roundw
          case rel => exact ⟨1 + 1, by omega, by go_num, HA'.out, hbel⟩
          case measure => simp [intOf]
      · by_cases hl : s.size = 6
        · have b1 : ((s.size : Int) == 6) = true := by simp; omega
          have HT := Lib.hid (HTr.out (by omega))
          cases al with
          | true =>
            have e0 : tr = [] := HTn.out.2 rfl
            subst e0
            have E := Lib.hid (HYes.out 6 (by omega) hl rfl)
            clear hl
            go_wp2_with fail
            refine (HT.out _).mono ?_
            rintro e w1 ⟨rfl, hb1⟩
            have HB1 := Lib.hid (hbel.trans (hb1.mono hbel.size))
            clear hb1 hbel
            go_wp2
            go_ret
            exact ⟨ret_int' E.out.symm, HB1.out⟩
          | false =>
            have e0 : tr ≠ [] := fun h => by have := HTn.out.1 h; cases this
            have HE := Lib.hid e0
            have HA' : Hid (∀ j, j < 2 + 1 → ¬ (s.size = 2 * (j + 1) ∧ false = true)) := fun j _ hx => by cases hx.2
            have HT2 : Hid (∀ w, Calls Tryz.prog 88 #[.string s, .string ⟨#[48, 49, 50, 51, 52, 53, 54, 55, 56, 57]⟩] w fun e w' => ∃ t : ByteArray, e = .returned (.string t) ∧ (t.toList == ([] : List UInt8)) = false ∧ RowKit.Below w.heap.size w w') := fun w => (HT.out w).mono fun e w' h => ⟨_, h.1, by rw [ByteArray.toList_eq]; simpa using HE.out, h.2⟩
            clear hl HT e0
            go_wp2_with fail
            refine (HT2.out _).mono ?_
            rintro e w1 ⟨t, rfl, ht, hb1⟩
            have HB1 := Lib.hid (hbel.trans (hb1.mono hbel.size))
            clear hb1 hbel
            go_wp2
            go_roundw
            case rel => exact ⟨2 + 1, by omega, by go_num, HA'.out, HB1.out⟩
            case measure => simp [intOf]
        · have b1 : ((s.size : Int) == 6) = false := by simp; omega
          have HA' : Hid (∀ j, j < 2 + 1 → ¬ (s.size = 2 * (j + 1) ∧ al = true)) := fun j hj hx => by
            by_cases e : j = 2
            · subst e; exact hl hx.1
            · exact HA.out j (by omega) hx
          clear HA
          go_wp2
          go_roundw
          case rel => exact ⟨2 + 1, by omega, by go_num, HA'.out, hbel⟩
          case measure => simp [intOf]
      · by_cases hl : s.size = 8
        · have b1 : ((s.size : Int) == 8) = true := by simp; omega
          have HT := Lib.hid (HTr.out (by omega))
          cases al with
          | true =>
            have e0 : tr = [] := HTn.out.2 rfl
            subst e0
            have E := Lib.hid (HYes.out 8 (by omega) hl rfl)
            clear hl
            go_wp2_with fail
            refine (HT.out _).mono ?_
            rintro e w1 ⟨rfl, hb1⟩
            have HB1 := Lib.hid (hbel.trans (hb1.mono hbel.size))
            clear hb1 hbel
            go_wp2
            go_ret
            exact ⟨ret_int' E.out.symm, HB1.out⟩
          | false =>
            have e0 : tr ≠ [] := fun h => by have := HTn.out.1 h; cases this
            have HE := Lib.hid e0
            have HA' : Hid (∀ j, j < 3 + 1 → ¬ (s.size = 2 * (j + 1) ∧ false = true)) := fun j _ hx => by cases hx.2
            have HT2 : Hid (∀ w, Calls Tryz.prog 88 #[.string s, .string ⟨#[48, 49, 50, 51, 52, 53, 54, 55, 56, 57]⟩] w fun e w' => ∃ t : ByteArray, e = .returned (.string t) ∧ (t.toList == ([] : List UInt8)) = false ∧ RowKit.Below w.heap.size w w') := fun w => (HT.out w).mono fun e w' h => ⟨_, h.1, by rw [ByteArray.toList_eq]; simpa using HE.out, h.2⟩
            clear hl HT e0
            go_wp2_with fail
            refine (HT2.out _).mono ?_
            rintro e w1 ⟨t, rfl, ht, hb1⟩
            have HB1 := Lib.hid (hbel.trans (hb1.mono hbel.size))
            clear hb1 hbel
            go_wp2
            go_roundw
            case rel => exact ⟨3 + 1, by omega, by go_num, HA'.out, HB1.out⟩
            case measure => simp [intOf]
        · have b1 : ((s.size : Int) == 8) = false := by simp; omega
          have HA' : Hid (∀ j, j < 3 + 1 → ¬ (s.size = 2 * (j + 1) ∧ al = true)) := fun j hj hx => by
            by_cases e : j = 3
            · subst e; exact hl hx.1
            · exact HA.out j (by omega) hx
          clear HA
          go_wp2
          go_roundw
          case rel => exact ⟨3 + 1, by omega, by go_num, HA'.out, hbel⟩
          case measure => simp [intOf]
    · have E := Lib.hid (HNo.out (fun j hj => HA.out j (by omega)))
      go_wp2
      go_ret
      exact ⟨ret_int' E.out.symm, hbel⟩

set_option maxHeartbeats 1000000 in
theorem iscap_any (c : UInt8) (w : World) :
    Calls Tryz.prog 89 #[.int .u8 c.toNat] w fun e w' => e = .returned (.bool (decide (65 ≤ c.toNat) && decide (c.toNat ≤ 90))) ∧ w = w' := by
  have hc : c.toNat < 256 := c.toNat_lt
  by_cases h1 : 65 ≤ c.toNat
  · have d1 : decide ((65 : Int) ≤ (c.toNat : Int)) = true := by simp; omega
    by_cases h2 : c.toNat ≤ 90
    · have d2 : decide ((c.toNat : Int) ≤ 90) = true := by simp; omega
      go_enter Tryz.func89, Tryz.ntmps89
      go_wp2
      go_ret
      exact ⟨ret_bool (by simp [h1, h2]), rfl⟩
    · have d2 : decide ((c.toNat : Int) ≤ 90) = false := by simp; omega
      go_enter Tryz.func89, Tryz.ntmps89
      go_wp2
      go_ret
      exact ⟨ret_bool (by simp [h2]), rfl⟩
  · have d1 : decide ((65 : Int) ≤ (c.toNat : Int)) = false := by simp; omega
    go_enter Tryz.func89, Tryz.ntmps89
    go_wp2
    go_ret
    exact ⟨ret_bool (by simp [h1]), rfl⟩
end Go.Proofs.YtbokkeooahodaaaGreatDoor

namespace Go.Proofs.YtbokkeooahodaaaGreatDoor
open Go.RowKit
set_option linter.unusedVariables false

def capB (c : UInt8) : Bool := decide (65 ≤ c.toNat) && decide (c.toNat ≤ 90)
set_option maxHeartbeats 2000000 in
theorem vctry_any (s : ByteArray) (w : World) (hs : s.size ≤ 1000000) :
    Calls Tryz.prog 49 #[.string s] w fun e w' => e = .returned (.bool (ctryB s.toList)) ∧ w = w' := by
  by_cases h2 : s.size = 2
  · have e2 : s.toList.length = 2 := by rw [toList_len]; exact h2
    have HE : Hid (ctryB s.toList = (capB (s[0]'(by omega)) && capB (s[1]'(by omega)))) := by
      have e : s.toList = [s[0]'(by omega), s[1]'(by omega)] := by
        apply List.ext_getElem?
        intro i
        rcases i with _ | _ | i
        · rw [drop_get s 0 (by omega)]; rfl
        · rw [drop_get s 1 (by omega)]; rfl
        · rw [List.getElem?_eq_none (by omega), List.getElem?_eq_none (by simp)]
      unfold Hid
      rw [e]
      simp [ctryB, capB]
    have i0 : 0 < s.size := by omega
    have i1 : 1 < s.size := by omega
    have b2 : ((s.size : Int) == 2) = true := by simp; omega
    have H0 : Hid (∀ w, Calls Tryz.prog 89 #[.int .u8 (s[0]'(by omega)).toNat] w fun e w' => e = .returned (.bool (capB (s[0]'(by omega)))) ∧ w = w') := fun w => iscap_any _ w
    have H1 : Hid (∀ w, Calls Tryz.prog 89 #[.int .u8 (s[1]'(by omega)).toNat] w fun e w' => e = .returned (.bool (capB (s[1]'(by omega)))) ∧ w = w') := fun w => iscap_any _ w
    cases c0 : capB (s[0]'(by omega)) with
    | false =>
      rw [c0] at H0
      have E : Hid (ctryB s.toList = false) := by have := HE.out; rw [c0] at this; exact this
      clear e2 h2 HE c0
      go_enter Tryz.func49, Tryz.ntmps49
      go_wp2_with fail
      refine (H0.out _).mono ?_
      rintro e w1 ⟨rfl, rfl⟩
      go_wp2
      go_ret
      exact ⟨ret_bool E.out.symm, rfl⟩
    | true =>
      rw [c0] at H0
      have E : Hid (ctryB s.toList = capB (s[1]'(by omega))) := by have := HE.out; rw [c0] at this; exact this
      clear e2 h2 HE c0
      go_enter Tryz.func49, Tryz.ntmps49
      go_wp2_with fail
      refine (H0.out _).mono ?_
      rintro e w1 ⟨rfl, rfl⟩
      go_wp2_with fail
      refine (H1.out _).mono ?_
      rintro e w1 ⟨rfl, rfl⟩
      go_wp2
      go_ret
      exact ⟨ret_bool E.out.symm, rfl⟩
  · have b2 : ((s.size : Int) == 2) = false := by simp; omega
    have E : Hid (ctryB s.toList = false) := by unfold Hid ctryB; rw [toList_len]; simp [h2]
    clear h2
    go_enter Tryz.func49, Tryz.ntmps49
    go_wp2
    go_ret
    exact ⟨ret_bool E.out.symm, rfl⟩

theorem orgs_bad1 {l : List ByteArray} {k : Nat} (hk : k < l.length) (h : ctryB l[k]!.toList = false) : decide (orgsOk l) = false := by
  simp only [decide_eq_false_iff_not]
  intro hx
  have := hx.1 k hk
  rw [h] at this
  cases this
theorem orgs_bad2 {l : List ByteArray} {k : Nat} (hk : k < l.length) (h0 : 0 < k) (h : Op.bytesLess l[k - 1]!.toList l[k]!.toList = false) : decide (orgsOk l) = false := by
  simp only [decide_eq_false_iff_not]
  intro hx
  have := hx.2 k hk h0
  rw [h] at this
  cases this
theorem orgs_good {l : List ByteArray} (h : ∀ j, j < l.length → ctryB l[j]!.toList = true ∧ (0 < j → Op.bytesLess l[j - 1]!.toList l[j]!.toList = true)) : decide (orgsOk l) = true := by
  simp only [decide_eq_true_eq]
  exact ⟨fun i hi => (h i hi).1, fun i hi => (h i hi).2⟩
set_option maxRecDepth 100000 in
set_option maxHeartbeats 4000000 in
theorem vorgs_any (A : Option Addr) (n c : Nat) (l : List ByteArray) (w : World) (h : Sr w A n l) :
    Calls Tryz.prog 47 #[.slice A n c] w fun e w' => e = .returned (.bool (decide (orgsOk l))) ∧ w = w' := by
  have HL := Lib.hid h.len
  have hn := h.2.1
  have HB1 : Hid (∀ k, k < n → ctryB l[k]!.toList = false → decide (orgsOk l) = false) := fun k hk => orgs_bad1 (by have := HL.out; omega)
  have HB2 : Hid (∀ k, k < n → 0 < k → Op.bytesLess l[k - 1]!.toList l[k]!.toList = false → decide (orgsOk l) = false) := fun k hk => orgs_bad2 (by have := HL.out; omega)
  have HG : Hid ((∀ j, j < n → ctryB l[j]!.toList = true ∧ (0 < j → Op.bytesLess l[j - 1]!.toList l[j]!.toList = true)) → decide (orgsOk l) = true) := fun hx => orgs_good (fun j hj => hx j (by have := HL.out; omega))
  generalize decide (orgsOk l) = res at *
  go_enter Tryz.func47, Tryz.ntmps47
  go_wp2
  go_loopw [7] (fun i wr => ∃ k : Nat, k ≤ n ∧ i = .int .i64 k ∧ Hid (∀ j, j < k → ctryB l[j]!.toList = true ∧ (0 < j → Op.bytesLess l[j - 1]!.toList l[j]!.toList = true)) ∧ w = wr) (fun i _ => n - (intOf i).toNat)
  case atStart => exact ⟨0, Nat.zero_le _, rfl, fun i hi => absurd hi (by omega), rfl⟩
  case round =>
    obtain ⟨k, hk, rfl, HA, rfl⟩ := hrel
    by_cases hlt : k < n
    · obtain ⟨b, off, s, rfl, hbl, hc, hsz, HX⟩ := h.get hlt
      have HV := Lib.hid (fun w => vctry_any s w hsz)
      have HE1 : Hid (ctryB s.toList = false → res = false) := fun hx => HB1.out k hlt (by rw [HX.out]; exact hx)
      cases hq : ctryB s.toList with
      | false =>
        have E := Lib.hid (HE1.out hq)
        go_wp2_with fail
        refine (HV.out _).mono ?_
        rintro e w1 ⟨rfl, rfl⟩
        rw [hq]
        clear hq
        go_wp2
        go_ret
        exact ⟨ret_bool E.out.symm, rfl⟩
      | true =>
      have HQ := Lib.hid hq
      clear hq
      by_cases hk0 : 0 < k
      · obtain ⟨b', off', p, hA, _, k1, _, HX0⟩ := h.get (show k - 1 < n by omega)
        obtain ⟨rfl, rfl⟩ : b = b' ∧ off = off' := by simpa using hA
        clear hA
        obtain ⟨r, hr⟩ : ∃ r : Nat, k = r + 1 := ⟨k - 1, by omega⟩
        subst hr
        simp only [Nat.add_sub_cancel] at k1 HX0
        have i1 : (0 : Int) ≤ (r : Int) := by omega
        have i2 : (r : Int) < (n : Int) := by omega
        have d5 : decide (0 < (r : Int) + 1) = true := by simp
        have u1 : IntKind.i64.wrap ((r : Int) + 1 - 1) = (r : Int) := (IntWalk.i64_in _ (by omega)).trans (by omega)
        have u2 : IntKind.i64.wrap (r : Int) = (r : Int) := IntWalk.i64_in _ (by omega)
        have HE2 : Hid (Op.bytesLess p.toList s.toList = false → res = false) := fun hx => HB2.out (r + 1) hlt (by omega) (by rw [Nat.add_sub_cancel, HX0.out, HX.out]; exact hx)
        have HA2 : Hid (Op.bytesLess p.toList s.toList = true → ∀ j, j < r + 1 + 1 → ctryB l[j]!.toList = true ∧ (0 < j → Op.bytesLess l[j - 1]!.toList l[j]!.toList = true)) := fun hx j hj => by
          by_cases e : j = r + 1
          · subst e; exact ⟨by rw [HX.out]; exact HQ.out, fun _ => by rw [Nat.add_sub_cancel, HX0.out, HX.out]; exact hx⟩
          · exact HA.out j (by omega)
        cases hy : (s.toList == p.toList) with
        | true =>
          have E := Lib.hid (HE2.out (by rw [← eq_of_beq hy]; exact bytesLess_irrefl _))
          go_wp2_with fail
          refine (HV.out _).mono ?_
          rintro e w1 ⟨rfl, rfl⟩
          rw [HQ.out]
          go_wp2
          go_ret
          exact ⟨ret_bool E.out.symm, rfl⟩
        | false =>
        have hne : p.toList ≠ s.toList := fun e => by rw [e] at hy; simp at hy
        have HF := Lib.hid (bytesLess_flip p.toList s.toList hne)
        clear hne
        cases hx : Op.bytesLess s.toList p.toList with
        | true =>
          have E := Lib.hid (HE2.out (by rw [HF.out, hx]; rfl))
          go_wp2_with fail
          refine (HV.out _).mono ?_
          rintro e w1 ⟨rfl, rfl⟩
          rw [HQ.out]
          go_wp2
          go_ret
          exact ⟨ret_bool E.out.symm, rfl⟩
        | false =>
          have HA3 := Lib.hid (HA2.out (by rw [HF.out, hx]; rfl))
          go_wp2_with fail
          refine (HV.out _).mono ?_
          rintro e w1 ⟨rfl, rfl⟩
          rw [HQ.out]
          go_wp2
          go_roundw
          case rel => exact ⟨r + 1 + 1, by omega, by go_num, HA3.out, trivial⟩
          case measure => simp [intOf]; omega
      · have d5 : decide ((0 : Int) < (k : Int)) = false := by simp; omega
        have HA3 : Hid (∀ j, j < k + 1 → ctryB l[j]!.toList = true ∧ (0 < j → Op.bytesLess l[j - 1]!.toList l[j]!.toList = true)) := fun j hj => by
          have e : j = k := by omega
          subst e
          exact ⟨by rw [HX.out]; exact HQ.out, fun hj0 => absurd hj0 hk0⟩
        go_wp2_with fail
        refine (HV.out _).mono ?_
        rintro e w1 ⟨rfl, rfl⟩
        rw [HQ.out]
        go_wp2
        go_roundw
        case rel => exact ⟨k + 1, by omega, by go_num, HA3.out, trivial⟩
        case measure => simp [intOf]; omega
    · have E := Lib.hid (HG.out (fun j hj => HA.out j (by omega)))
      go_wp2
      go_ret
      exact ⟨ret_bool E.out.symm, rfl⟩
end Go.Proofs.YtbokkeooahodaaaGreatDoor

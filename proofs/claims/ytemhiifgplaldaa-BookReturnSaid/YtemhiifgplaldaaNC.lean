/-
  The law BookWithdrawn: it returns true. Conditions: the list reads as integers, its length is at most its capacity.
-/
import Derived.Test.YtemhiifgplaldaaMT
import Derived.Test.YtemhiifgplaldaaNB
import Derived.Test.YtemhiifgplaldaaNA
import Derived.Test.YtemhiifgplaldaaMZ
namespace Go.Proofs.Ytemhiifgplaldaa
open Go.RowKit
set_option linter.unusedVariables false

/-- The facts that are not about an ID. -/
def oth (id0 : Int) (l : List Fct) : List Fct := l.filter fun x => x.kind == 4 || x.id != id0
theorem oth_snoc (id0 : Int) (l : List Fct) (x : Fct) : oth id0 (l ++ [x]) = oth id0 l ++ if (x.kind == 4 || x.id != id0) = true then [x] else [] := by
  unfold oth
  rw [List.filter_append]
  by_cases e : (x.kind == 4 || x.id != id0) = true <;> simp [e]

theorem fErr_wd {q : Qt} {id0 : Int} (h1 : 1 ≤ id0) (h8 : id0 ≤ 8) : fErr q ⟨100, 3, 7, id0, 0⟩ = 0 := by
  unfold fErr
  simp only
  rw [if_neg (by omega), if_neg (by omega), if_neg (by omega), if_neg (by omega)]
theorem nodup_new {q : Qt} {l : List Fct} (h : QF q l) (num : Int) (hn : 31 < num) {a b c d : Int} : ((l ++ [(⟨num, a, b, c, d⟩ : Fct)]).map (·.num)).Nodup := by
  rw [List.map_append, List.nodup_append]
  refine ⟨h.nodup, by simp, fun x hx y hy e => ?_⟩
  obtain ⟨z, hz, rfl⟩ := List.mem_map.1 hx
  have := (h.each z hz).2.1
  simp at hy
  omega

theorem granted_quiet (A : Option Addr) (n c : Nat) (gs : List (Int × Int)) (id : Int) (w : World) (j : Nat) (h : Recs enc2 2 w A n gs) (hn : n ≤ 1000000) :
    Calls Try.prog 22 #[.slice A n c, .int .i64 id] (w.drewN j) fun e w' => e = .returned (.int .i64 (grG gs id)) ∧ ∃ m, w' = w.drewN m :=
  (granted_any A n c gs id (w.drewN j) (h.drewN j) hn).mono fun e w' ⟨h1, q, h2⟩ => ⟨h1, j + q, by rw [h2]; exact drewN_add rfl q⟩
/-- How many grants are those of an ID. -/
def cntI (id0 : Int) (gs : List Rq) : Nat := (gs.filter fun g => g.id == id0).length
theorem cntI_le (id0 : Int) (gs : List Rq) : cntI id0 gs ≤ gs.length := List.length_filter_le _ _
theorem cntI_take {id0 : Int} {gs : List Rq} {k : Nat} (h : k < gs.length) : cntI id0 (gs.take (k + 1)) = cntI id0 (gs.take k) + if gs[k]!.id = id0 then 1 else 0 := by
  unfold cntI
  rw [List.take_succ_eq_append_getElem h, List.filter_append, List.length_append, getElem!_pos gs k h]
  by_cases e : gs[k].id = id0 <;> simp [e]
theorem grs_at {gs : List Rq} {k : Nat} (h : k < gs.length) {x y : Int} (he : (grs gs)[k]! = (x, y)) : gs[k]!.id = x ∧ gs[k]!.grant = y ∧ gs[k]! ∈ gs := by
  unfold grs at he
  rw [getElem!_pos _ k (by simpa using h), List.getElem_map] at he
  rw [getElem!_pos gs k h]
  injection he with h1 h2
  exact ⟨h1, h2, List.getElem_mem _⟩
theorem grG_grs {gs : List Rq} (ha : ∀ i j, i < j → j < gs.length → gs[i]!.id < gs[j]!.id) {g : Rq} (hg : g ∈ gs) {x : Int} (hx : g.id = x) : grG (grs gs) x = g.grant := by
  obtain ⟨k, hk, rfl⟩ := List.getElem_of_mem hg
  have e : ∀ i, i < gs.length → (grs gs)[i]! = (gs[i]!.id, gs[i]!.grant) := fun i hi => by
    unfold grs
    rw [getElem!_pos _ i (by simpa using hi), List.getElem_map, getElem!_pos gs i hi]
  have h1 : ∀ i, i < k → (grs gs)[i]!.1 ≠ x := fun i hi => by
    rw [e i (by omega)]
    have := ha i k hi hk
    rw [getElem!_pos gs k hk] at this
    show gs[i]!.id ≠ x
    omega
  have h2 : (grs gs)[k]!.1 = x := by rw [e k hk, getElem!_pos gs k hk]; exact hx
  rw [grG_first (k := k) (by rw [grs_len]; exact hk) h1 h2, e k hk, getElem!_pos gs k hk]

set_option maxRecDepth 100000 in
set_option maxHeartbeats 8000000 in
theorem bookWithdrawn_any (A : Option Addr) (n c : Nat) (xs : List Int) (id : Int) (w : World) (h : Ints w A n xs) (hnc : n ≤ c) (hcm : c ≤ 9223372036854775807) :
    Calls Try.prog 7 #[.slice A n c, .int .i64 id] w (BRes w true) := by
  have HAW := Lib.hid awake22_any
  have HQF := Lib.hid (quotaFacts_any A n c xs w h hnc hcm)
  have HWI := Lib.hid (fun w => within_any id 8 w (by omega) (by omega))
  have hv0 := Int.emod_nonneg id (show (8 : Int) ≠ 0 by omega)
  have hv1 := Int.emod_lt_of_pos id (show (0 : Int) < 8 by omega)
  generalize id % 8 = iv at *
  clear h hnc hcm
  go_enter Try.func7, Try.ntmps7
  go_wp2_with fail
  refine HQF.out.mono ?_
  rintro e w1 ⟨q, l, B1, n1, d1, rfl, hqf, hl1, ho1, hb1⟩
  have HF := Lib.hid hqf
  have HL := Lib.hid hl1
  have hn24 : n1 ≤ 24 := by have := hqf.len; omega
  have hx1 := Bl.new w1 23 #[.int .i64 q.id, .int .i64 q.vol, .int .i64 q.fr, .int .i64 q.tod]
  have hB1 : RowKit.Below w.heap.size w (w1.alloc (.cells #[.int .i64 q.id, .int .i64 q.vol, .int .i64 q.fr, .int .i64 q.tod] 23)) := hb1.alloc hb1.size _
  have hr1 := (Recs.of_own encF_len ho1 hl1).alloc (.cells #[.int .i64 q.id, .int .i64 q.vol, .int .i64 q.fr, .int .i64 q.tod] 23)
  clear hqf hl1 ho1 hb1 HQF
  go_upto_region 2 with (fail)
  generalize w1.alloc (.cells #[.int .i64 q.id, .int .i64 q.vol, .int .i64 q.fr, .int .i64 q.tod] 23) = W1 at *
  generalize w1.heap.size = g3 at *
  go_wp2_with fail
  refine (HWI.out _).mono ?_
  rintro e w' ⟨rfl, rfl⟩
  obtain ⟨id0, hid0⟩ : ∃ i : Int, 1 + iv = i := ⟨_, rfl⟩
  have hi1 : 1 ≤ id0 := by omega
  have hi8 : id0 ≤ 8 := by omega
  go_upto_region 3 with (fail)
  clear hid0 hv0 hv1 HWI
  go_wp2_with fail
  go_loopw [7, 8] (fun v i wx => ∃ (k : Nat) (B : Option Addr) (m d : Nat), k ≤ n1 ∧ m ≤ k ∧ v = .slice B m d ∧ i = .int .i64 k ∧ Hid ((oth id0 (l.take k)).length = m) ∧ wx.ownsRow W1.heap.size 39 5 (.slice B m d) m (flat encF (oth id0 (l.take k))) ∧ RowKit.Below W1.heap.size W1 wx) (fun _ i _ => n1 - (intOf i).toNat)
  case atStart => exact ⟨0, none, 0, 0, Nat.zero_le _, Nat.le_refl _, rfl, rfl, rfl, ⟨rfl, .inl ⟨rfl, rfl⟩⟩, Below.refl _ _⟩
  case round =>
    obtain ⟨k, B, m, d, hk, hmk, rfl, rfl, HM, ho, hb⟩ := hrel
    by_cases hlt : k < n1
    · obtain ⟨b, off, x, hA, hbl, e0, e1, e2, e3, e4, HX⟩ := (hr1.below hb).getF hlt
      subst hA
      have hki : (k : Int) < n1 := by omega
      have HSN := Lib.hid (oth_snoc id0 (l.take k) x)
      have HTK : Hid (l.take (k + 1) = l.take k ++ [x]) := by
        show _ = _
        rw [take_succ_get l k (by have := HL.out; omega), HX.out]
      rw [← HTK.out] at HSN
      by_cases g4 : x.kind = 4 ∨ x.id ≠ id0
      · have gb : (x.kind == 4 || x.id != id0) = true := by simpa using g4
        rw [if_pos gb] at HSN
        clear gb
        have HOE := Lib.hid (own_alloc ho (.cells #[.int .i64 x.num, .int .i64 x.kind, .int .i64 x.day, .int .i64 x.id, .int .i64 x.qty] 39))
        have HRD : Hid (Rd (wr.alloc (.cells #[.int .i64 x.num, .int .i64 x.kind, .int .i64 x.day, .int .i64 x.id, .int .i64 x.qty] 39)) 5 (some ⟨wr.heap.size, 0, none⟩) 1 (encF x)) := rd_new wr 39 (encF x)
        have HON := Lib.hid (encF_one x)
        have HM1 : Hid (m + 1 ≤ maxLen ∧ (m + 1) * 40 ≤ 140737488355328) := ⟨by unfold maxLen; omega, by omega⟩
        have HBA : Hid (RowKit.Below W1.heap.size W1 (wr.alloc (.cells #[.int .i64 x.num, .int .i64 x.kind, .int .i64 x.day, .int .i64 x.id, .int .i64 x.qty] 39))) := hb.alloc hb.size _
        have HOB := Lib.hid (fun j hj => own_base ho j hj)
        clear ho hb
        by_cases g1 : x.kind = 4
        · have b1 : (x.kind == 4) = true := by simpa using g1
          clear g1 g4
          go_wp2_with (first
            | (at_builtin; refine wpList_append_rd _ rfl (.tmp 46) (.tmp 51) 24 rfl W1.heap.size 39 _ 5 40 Try.underlying24 infoF rfl (by decide) (.slice B m d) m _ rfl HOE.out (some ⟨wr.heap.size, 0, none⟩) 1 _ (encF x) rfl HRD.out HON.out HM1.out.1 HM1.out.2 HBA.out.size ?_; intro v6 w6 ho6 hg6 _; obtain ⟨B6, d6, rfl⟩ := own_slice ho6)
            | fail)
          have HB6 : Hid (RowKit.Below W1.heap.size W1 w6) := HBA.out.grown hg6 HBA.out.size (fun j hj => HOB.out j hj)
          have HO6 : Hid (w6.ownsRow W1.heap.size 39 5 (.slice B6 (m + 1) d6) (m + 1) (flat encF (oth id0 (l.take (k + 1))))) := by
            show World.ownsRow _ _ _ _ _ _ _
            rw [HSN.out, flat_append, flat_one]
            exact ho6
          clear ho6 hg6
          go_roundw
          case rel => exact ⟨k + 1, B6, m + 1, d6, by omega, by omega, rfl, by go_num, by show _ = _; rw [HSN.out, List.length_append, HM.out]; rfl, HO6.out, HB6.out⟩
          case measure => simp [intOf]; omega
        · have b1 : (x.kind == 4) = false := by simpa using g1
          have b2 : (x.id != id0) = true := by simp; omega
          clear g1 g4
          go_wp2_with (first
            | (at_builtin; refine wpList_append_rd _ rfl (.tmp 46) (.tmp 51) 24 rfl W1.heap.size 39 _ 5 40 Try.underlying24 infoF rfl (by decide) (.slice B m d) m _ rfl HOE.out (some ⟨wr.heap.size, 0, none⟩) 1 _ (encF x) rfl HRD.out HON.out HM1.out.1 HM1.out.2 HBA.out.size ?_; intro v6 w6 ho6 hg6 _; obtain ⟨B6, d6, rfl⟩ := own_slice ho6)
            | fail)
          have HB6 : Hid (RowKit.Below W1.heap.size W1 w6) := HBA.out.grown hg6 HBA.out.size (fun j hj => HOB.out j hj)
          have HO6 : Hid (w6.ownsRow W1.heap.size 39 5 (.slice B6 (m + 1) d6) (m + 1) (flat encF (oth id0 (l.take (k + 1))))) := by
            show World.ownsRow _ _ _ _ _ _ _
            rw [HSN.out, flat_append, flat_one]
            exact ho6
          clear ho6 hg6
          go_roundw
          case rel => exact ⟨k + 1, B6, m + 1, d6, by omega, by omega, rfl, by go_num, by show _ = _; rw [HSN.out, List.length_append, HM.out]; rfl, HO6.out, HB6.out⟩
          case measure => simp [intOf]; omega
      · have b1 : (x.kind == 4) = false := by simp; omega
        have b2 : (x.id != id0) = false := by simp; omega
        rw [if_neg (by simp [b1, b2]), List.append_nil] at HSN
        clear g4
        go_wp2_with fail
        go_roundw
        case rel => exact ⟨k + 1, B, m, d, by omega, by omega, rfl, by go_num, by show _ = _; rw [HSN.out]; exact HM.out, by rw [HSN.out]; exact ho, hb⟩
        case measure => simp [intOf]; omega
    · obtain rfl : n1 = k := by omega
      rw [List.take_of_length_le (by have := HL.out; omega)] at HM ho
      have hx3 := hx1.keep hb
      have hr3 := hr1.below hb
      have hB3 := hB1.trans (hb.mono hB1.size)
      have HRF : Hid (Rd wr 5 B1 n1 (flat encF l)) := ⟨by rw [flat_length encF_len, hr3.1], fun h0 => by
        obtain ⟨b, off, e, hb', _⟩ := hr3.2 h0
        subst e
        exact ⟨b, off, rfl, hb', Recs.cells encF_len (by omega) hr3⟩⟩
      have hd0 : decide ((n1 : Int) < n1) = false := by simp
      have c0 : wr.cell? ⟨g3, 0, none⟩ = some (.int .i64 q.id) := hx3.cell 0
      have c1 : wr.cell? ⟨g3, 1, none⟩ = some (.int .i64 q.vol) := hx3.cell 1
      have c2 : wr.cell? ⟨g3, 2, none⟩ = some (.int .i64 q.fr) := hx3.cell 2
      have c3 : wr.cell? ⟨g3, 3, none⟩ = some (.int .i64 q.tod) := hx3.cell 3
      clear hlt
      have HAPP : Hid (∀ (wx : World) (B : Option Addr) (d : Nat), RowKit.Below wr.heap.size wr wx → wx.ownsRow wr.heap.size 39 5 (.slice B (n1 + 1) d) (n1 + 1) (flat encF (l ++ [⟨100, 3, 7, id0, 0⟩])) → Calls Try.prog 15 #[.agg #[.int .i64 q.id, .int .i64 q.vol, .int .i64 q.fr, .int .i64 q.tod], .slice B (n1 + 1) d] wx (LaOwn wx q (n1 + 1) (l ++ [⟨100, 3, 7, id0, 0⟩]))) := fun wx B d hb ho => by
        refine lapply_own q B (n1 + 1) d _ wx (Recs.of_own encF_len ho (by rw [List.length_append, HL.out]; rfl)) (by omega) HF.out.qok (fun x hx => ?_) (nodup_new HF.out 100 (by omega))
        rcases List.mem_append.1 hx with hx | hx
        · exact (HF.out.each x hx).1
        · rw [List.mem_singleton] at hx; subst hx; exact fErr_wd hi1 hi8
      have HONE : Hid (∀ u ∈ flat encF l, u.oneCell' = true) := fun u hu => by
        obtain ⟨x, _, hx⟩ := List.mem_flatMap.1 hu
        exact encF_one x u hx
      go_upto_region 9 with (fail)
      refine wp_region_rows [
          ⟨⟨some 54, [], []⟩, fun _ v => v = .agg #[.int .i64 q.id, .int .i64 q.vol, .int .i64 q.fr, .int .i64 q.tod], NoR⟩,
          ⟨⟨some 55, [], []⟩, NoF, OwnR wr.heap.size 39 5 0 ([])⟩,
          ⟨⟨some 56, [], []⟩, fun _ v => v = .slice B1 n1 d1, NoR⟩,
          ⟨⟨some 57, [1, 2], [1]⟩, NoF, OwnR wr.heap.size 39 5 (n1) (flat encF l)⟩,
          ⟨⟨some 58, [], []⟩, fun _ v => v = .int .i64 id0, NoR⟩,
          ⟨⟨some 59, [4], []⟩, fun _ v => v = .agg #[.int .i64 100, .int .i64 3, .int .i64 7, .int .i64 id0, .int .i64 0], NoR⟩,
          ⟨⟨some 60, [5], []⟩, NoF, LitR 39 (encF ⟨100, 3, 7, id0, 0⟩).toArray 1⟩,
          ⟨⟨some 61, [3, 6], [3, 6]⟩, NoF, OwnR wr.heap.size 39 5 (n1 + 1) (flat encF (l ++ [⟨100, 3, 7, id0, 0⟩]))⟩,
          ⟨⟨some 62, [0, 7], [7]⟩, NoF, BkR q (n1 + 1) (l ++ [⟨100, 3, 7, id0, 0⟩]) (fun b => .tuple #[b, .bool true])⟩,
          ⟨⟨some 53, [8], [8]⟩, fun _ v => ∃ x, v = .tuple #[x, .bool true], BkR q (n1 + 1) (l ++ [⟨100, 3, 7, id0, 0⟩]) (fun b => .tuple #[b, .bool true])⟩,
          ⟨⟨some 63, [9], [9]⟩, NoF, BkR q (n1 + 1) (l ++ [⟨100, 3, 7, id0, 0⟩]) (fun b => b)⟩,
          ⟨⟨some 64, [9], []⟩, fun _ v => v = .bool true, NoR⟩,
          ⟨⟨some 9, [], []⟩, NoF, PtrR 26 #[.int .i64 0, .int .i64 0, .int .i64 0, .int .i64 0, .slice none 0 0]⟩,
          ⟨⟨none, [12, 10], [12, 10]⟩, NoF, BoxR q (n1 + 1) (l ++ [⟨100, 3, 7, id0, 0⟩])⟩,
          ⟨⟨some 10, [11], []⟩, fun _ v => v = .bool true, NoR⟩] (by kernel_rfl) (by kernel_rfl) (by kernel_rfl) ⟨NoR.loc, OwnR.loc, NoR.loc, OwnR.loc, NoR.loc, NoR.loc, LitR.loc, OwnR.loc, BkR.loc (mk := fun b => .tuple #[b, .bool true]), BkR.loc (mk := fun b => .tuple #[b, .bool true]), BkR.loc (mk := fun b => b), NoR.loc, PtrR.loc, BoxR.loc, NoR.loc, trivial⟩ ⟨?r0, ?r1, ?r2, ?r3, ?r4, ?r5, ?r6, ?r7, ?r8, ?r9, ?r10, ?r11, ?r12, ?r13, ?r14, trivial⟩ ?fin
      case r0 =>
        refine step_of rfl rfl ?_
        intro a wx vs fp K hF hK
        have e0 : a.eval (.tmp 5) = .pointer (some ⟨g3, 0, none⟩) := hF.at_ 5 rfl
        have m0 := (hF.below.cell (p := ⟨g3, 0, none⟩) hx3.lt).trans c0
        have m1 := (hF.below.cell (p := ⟨g3, 1, none⟩) hx3.lt).trans c1
        have m2 := (hF.below.cell (p := ⟨g3, 2, none⟩) hx3.lt).trans c2
        have m3 := (hF.below.cell (p := ⟨g3, 3, none⟩) hx3.lt).trans c3
        refine op_value (v := .agg #[.int .i64 q.id, .int .i64 q.vol, .int .i64 q.fr, .int .i64 q.tod]) ?_ (hK _ _ _ (hF.only rfl trivial))
        have ec : ∀ v, a.eval (.const v) = v := fun _ => rfl
        clear hF hK
        generalize a.eval = ρ at *
        go_simp
      case r1 =>
        refine step_of rfl rfl ?_
        intro a wx vs fp K hF hK
        refine op_value (v := .slice (some ⟨wx.heap.size, 0, none⟩) 0 0) (w' := wx.alloc (.cells #[] 39)) ?_ (hK _ _ _ (hF.made _ trivial ⟨own_lit (Bl.new _ _ _) hF.below.size rfl (by decide), rfl⟩))
        have ec : ∀ v, a.eval (.const v) = v := fun _ => rfl
        clear hF hK
        generalize a.eval = ρ at *
        go_simp
      case r2 =>
        refine step_of rfl rfl ?_
        intro a wx vs fp K hF hK
        exact op_move rfl (hF.at_ 6 rfl) (hK _ _ _ (hF.only rfl trivial))
      case r3 =>
        refine step_of rfl rfl ?_
        intro a wx vs fp K hF hK
        have hm : OwnR wr.heap.size 39 5 (0) ([]) [] (vs 1) (fp 1) wx := hF.me 1 rfl
        have hv : vs 2 = .slice B1 n1 d1 := hF.va 2 rfl
        have hrd := HRF.out.keep hF.below
        refine op_append (.tmp 55) (.tmp 56) 24 rfl wr.heap.size 39 _ 5 40 Try.underlying24 infoF rfl (by decide) (vs 1) (0) ([]) (hF.ev 1 55 rfl rfl) hm.1 B1 n1 d1 (flat encF l) ((hF.ev 2 56 rfl rfl).trans hv) hrd (HONE.out) (by unfold maxLen; omega) (by omega) hF.below.size ?_
        intro v w' h1 h2 h3
        exact hK _ _ _ (hF.grown 1 rfl hm.2 h2 h3 (fun g hg => own_lt h1 g hg) trivial ⟨by simpa using h1, rfl⟩)
      case r4 =>
        refine step_of rfl rfl ?_
        intro a wx vs fp K hF hK
        exact op_move rfl (hF.at_ 1 rfl) (hK _ _ _ (hF.only rfl trivial))
      case r5 =>
        refine step_of rfl rfl ?_
        intro a wx vs fp K hF hK
        have e4 : a.eval (.tmp 58) = .int .i64 id0 := (hF.ev 4 58 rfl rfl).trans (hF.va 4 rfl)
        refine op_value (v := .agg #[.int .i64 100, .int .i64 3, .int .i64 7, .int .i64 id0, .int .i64 0]) ?_ (hK _ _ _ (hF.only rfl trivial))
        have ec : ∀ v, a.eval (.const v) = v := fun _ => rfl
        clear hF hK
        generalize a.eval = ρ at *
        go_simp
      case r6 =>
        refine step_of rfl rfl ?_
        intro a wx vs fp K hF hK
        have e5 : a.eval (.tmp 59) = .agg #[.int .i64 100, .int .i64 3, .int .i64 7, .int .i64 id0, .int .i64 0] := (hF.ev 5 59 rfl rfl).trans (hF.va 5 rfl)
        refine op_value (v := .slice (some ⟨wx.heap.size, 0, none⟩) 1 1) (w' := wx.alloc (.cells #[.int .i64 100, .int .i64 3, .int .i64 7, .int .i64 id0, .int .i64 0] 39)) ?_ (hK _ _ _ (hF.made _ trivial ⟨_, rfl, rfl, Bl.new _ _ _⟩))
        have ec : ∀ v, a.eval (.const v) = v := fun _ => rfl
        clear hF hK
        generalize a.eval = ρ at *
        go_simp
      case r7 =>
        refine step_of rfl rfl ?_
        intro a wx vs fp K hF hK
        have hm : OwnR wr.heap.size 39 5 (n1) (flat encF l) [] (vs 3) (fp 3) wx := hF.me 3 rfl
        have hv : LitR 39 (encF ⟨100, 3, 7, id0, 0⟩).toArray (1) [] (vs 6) (fp 6) wx := hF.me 6 rfl
        obtain ⟨gy, hv, hfy, hbl⟩ := hv
        have hrd : Rd wx 5 (some ⟨gy, 0, none⟩) (1) (encF ⟨100, 3, 7, id0, 0⟩) := rd_bl hbl rfl
        refine op_append (.tmp 57) (.tmp 60) 24 rfl wr.heap.size 39 _ 5 40 Try.underlying24 infoF rfl (by decide) (vs 3) (n1) (flat encF l) (hF.ev 3 57 rfl rfl) hm.1 (some ⟨gy, 0, none⟩) (1) (1) (encF ⟨100, 3, 7, id0, 0⟩) ((hF.ev 6 60 rfl rfl).trans hv) hrd (encF_one _) (by unfold maxLen; omega) (by omega) hF.below.size ?_
        intro v w' h1 h2 h3
        exact hK _ _ _ (hF.grown 3 rfl hm.2 h2 h3 (fun g hg => own_lt h1 g hg) trivial ⟨by (rw [flat_append, flat_one]; exact h1), rfl⟩)
      case r8 =>
        refine step_of rfl rfl ?_
        intro a wx vs fp K hF hK
        have hq0 : vs 0 = .agg #[.int .i64 q.id, .int .i64 q.vol, .int .i64 q.fr, .int .i64 q.tod] := hF.va 0 rfl
        have hm : OwnR wr.heap.size 39 5 (n1 + 1) (flat encF (l ++ [⟨100, 3, 7, id0, 0⟩])) [] (vs 7) (fp 7) wx := hF.me 7 rfl
        obtain ⟨B, d, hB⟩ := own_slice hm.1
        have ho := hm.1
        rw [hB] at ho
        refine op_call (vals := #[vs 0, vs 7]) rfl (by kernel_rfl) ?_ ?_
        · simp only [List.map_toArray, List.map_cons, List.map_nil, hF.ev 0 54 rfl rfl, hF.ev 7 61 rfl rfl]
        rw [hq0, hB]
        refine (HAPP.out wx B d hF.below ho).mono ?_
        rintro e w' ⟨fs, B2, d2, rfl, h1, h2, h3, h4, h5⟩
        refine ⟨_, rfl, hK _ _ (Value.slice B2 (n1 + 1) d2).ownBlock.toList (hF.under h5 trivial ⟨B2, d2, rfl, fs, h1, h2, h3, rfl⟩ (fun g hg => ?_))⟩
        have hg2 : (Value.slice B2 (n1 + 1) d2).ownBlock = some g := by simpa using hg
        refine ⟨?_, h3.lt g hg2⟩
        obtain ⟨b, off, rfl, _⟩ := h3.recs.2 (by omega)
        have := h4 b off rfl
        simp [Value.ownBlock] at hg2
        omega
      case r9 =>
        refine step_of rfl rfl ?_
        intro a wx vs fp K hF hK
        have hm : BkR q (n1 + 1) (l ++ [⟨100, 3, 7, id0, 0⟩]) (fun b => .tuple #[b, .bool true]) [] (vs 8) (fp 8) wx := hF.me 8 rfl
        exact op_move rfl (hF.ev 8 62 rfl rfl) (hK _ _ _ (hF.hand 8 rfl (by obtain ⟨B, d, h, _⟩ := hm; exact ⟨_, h⟩) hm))
      case r10 =>
        refine step_of rfl rfl ?_
        intro a wx vs fp K hF hK
        have hm : BkR q (n1 + 1) (l ++ [⟨100, 3, 7, id0, 0⟩]) (fun b => .tuple #[b, .bool true]) [] (vs 9) (fp 9) wx := hF.me 9 rfl
        obtain ⟨B, d, hv, hb⟩ := hm
        exact op_extract rfl ((hF.ev 9 53 rfl rfl).trans hv) rfl (hK _ _ _ (hF.hand 9 rfl trivial ⟨B, d, rfl, hb⟩))
      case r11 =>
        refine step_of rfl rfl ?_
        intro a wx vs fp K hF hK
        have hm : ∃ x, vs 9 = .tuple #[x, .bool true] := hF.va 9 rfl
        obtain ⟨y, hv⟩ := hm
        exact op_extract rfl ((hF.ev 9 53 rfl rfl).trans hv) rfl (hK _ _ _ (hF.only rfl trivial))
      case r12 =>
        refine step_of rfl rfl ?_
        intro a wx vs fp K hF hK
        refine op_value (v := .pointer (some ⟨wx.heap.size, 0, none⟩)) (w' := wx.alloc (.cells #[.int .i64 0, .int .i64 0, .int .i64 0, .int .i64 0, .slice none 0 0] 26)) ?_ (hK _ _ _ (hF.made _ trivial ⟨_, rfl, rfl, Bl.new _ _ _⟩))
        have ec : ∀ v, a.eval (.const v) = v := fun _ => rfl
        clear hF hK
        generalize a.eval = ρ at *
        go_simp
      case r13 =>
        refine step_of rfl rfl ?_
        intro a wx vs fp K hF hK
        have hm : PtrR 26 #[.int .i64 0, .int .i64 0, .int .i64 0, .int .i64 0, .slice none 0 0] [] (vs 12) (fp 12) wx := hF.me 12 rfl
        have hb : BkR q (n1 + 1) (l ++ [⟨100, 3, 7, id0, 0⟩]) (fun b => b) [] (vs 10) (fp 10) wx := hF.me 10 rfl
        obtain ⟨g, hg, hfg, hbl⟩ := hm
        obtain ⟨B, d, hv, hbk⟩ := hb
        have e1 : a.eval (.tmp 9) = .pointer (some ⟨g, 0, none⟩) := (hF.ev 12 9 rfl rfl).trans hg
        have e2 : a.eval (.tmp 63) = .agg #[.int .i64 q.id, .int .i64 q.vol, .int .i64 q.fr, .int .i64 q.tod, .slice B (n1 + 1) d] := (hF.ev 10 63 rfl rfl).trans hv
        have y0 := hbl.c0
        have f0 := hbl.free 0
        have y1 := hbl.c1
        have f1 := hbl.free 1
        have y2 := hbl.c2
        have f2 := hbl.free 2
        have y3 := hbl.c3
        have f3 := hbl.free 3
        have y4 := hbl.c4
        have f4 := hbl.free 4
        refine op_skip (w' := ((((wx.setCell ⟨g, 0, none⟩ (.int .i64 q.id)).setCell ⟨g, 1, none⟩ (.int .i64 q.vol)).setCell ⟨g, 2, none⟩ (.int .i64 q.fr)).setCell ⟨g, 3, none⟩ (.int .i64 q.tod)).setCell ⟨g, 4, none⟩ (.slice B (n1 + 1) d)) ?_ (hK undef _ _ (hF.box (by decide) hg hfg hbl hbk trivial fun _ _ h => h))
        have ec : ∀ v, a.eval (.const v) = v := fun _ => rfl
        clear hF hK
        generalize a.eval = ρ at *
        go_simp
      case r14 =>
        refine step_of rfl rfl ?_
        intro a wx vs fp K hF hK
        exact op_assign rfl (hF.ev 11 64 rfl rfl) (hK _ _ _ (hF.only (hF.va 11 rfl) trivial))
      case fin =>
        intro wz vs fp hI
        have hM : BoxR q (n1 + 1) (l ++ [⟨100, 3, 7, id0, 0⟩]) [vs 12, vs 10] (vs 13) (fp 13) wz := (hI.finM 13 (by decide) rfl).1
        have hok : vs 14 = .bool true := hI.fin 14 (by decide)
        obtain ⟨ga, BA, dA, f2, hga, -, hya, fa, hboa, hpma, hfra, -⟩ := hM
        have hga' : vs 12 = .pointer (some ⟨ga, 0, none⟩) := by simpa using hga
        have hbz := hI.below
        clear hga hI
        simp only [rj, number, putJ, List.map_cons, List.map_nil, if_true, Act.put, List.setIfInBounds_toArray, List.set_cons_zero, List.set_cons_succ, hok, hga']
        generalize vs 0 = zv0
        generalize vs 1 = zv1
        generalize vs 2 = zv2
        generalize vs 3 = zv3
        generalize vs 4 = zv4
        generalize vs 5 = zv5
        generalize vs 6 = zv6
        generalize vs 7 = zv7
        generalize vs 8 = zv8
        generalize vs 9 = zv9
        generalize vs 10 = zv10
        generalize vs 11 = zv11
        have hx4 := hx3.keep hbz
        have hB4 := hB3.trans (hbz.mono hB3.size)
        have HOT := Lib.hid HM.out
        have HLB := Lib.hid (lapply_any q B m d (oth id0 l) wz ((Recs.of_own encF_len ho HM.out).below hbz) (by omega) HF.out.qok (fun x hx => (HF.out.each x (List.mem_filter.1 hx).1).1) ((List.filter_sublist.map _).nodup HF.out.nodup))
        have HBOA := Lib.hid hboa
        have HPMA := Lib.hid hpma
        clear c0 c1 c2 c3 HRF HONE HAPP hok hga' hx3 hB3 hbz ho hr3 hx1 hB1 hr1 hboa hpma hb
        have p0 : wz.cell? ⟨g3, 0, none⟩ = some (.int .i64 q.id) := hx4.cell 0
        have p1 : wz.cell? ⟨g3, 1, none⟩ = some (.int .i64 q.vol) := hx4.cell 1
        have p2 : wz.cell? ⟨g3, 2, none⟩ = some (.int .i64 q.fr) := hx4.cell 2
        have p3 : wz.cell? ⟨g3, 3, none⟩ = some (.int .i64 q.tod) := hx4.cell 3
        go_wp2_with fail
        refine HLB.out.mono ?_
        rintro e wb ⟨fb, BB, db, rfl, hbob, hpmb, hfrb, hbb⟩
        have hy5 := (hya.keep hbb).alloc (.cells #[.int .i64 q.id, .int .i64 q.vol, .int .i64 q.fr, .int .i64 q.tod, .slice BB m db] 26)
        have hz5 := Bl.new wb 26 #[.int .i64 q.id, .int .i64 q.vol, .int .i64 q.fr, .int .i64 q.tod, .slice BB m db]
        have hB5 : RowKit.Below w.heap.size w (wb.alloc (.cells #[.int .i64 q.id, .int .i64 q.vol, .int .i64 q.fr, .int .i64 q.tod, .slice BB m db] 26)) := (hB4.trans (hbb.mono hB4.size)).alloc (Nat.le_trans hB4.size hbb.size) _
        have HFA := Lib.hid ((hfra.below hbb).below ((Below.refl _ _).alloc (Nat.le_refl _) (.cells #[.int .i64 q.id, .int .i64 q.vol, .int .i64 q.fr, .int .i64 q.tod, .slice BB m db] 26)))
        have HFB := Lib.hid (hfrb.below ((Below.refl _ _).alloc (Nat.le_refl _) (.cells #[.int .i64 q.id, .int .i64 q.vol, .int .i64 q.fr, .int .i64 q.tod, .slice BB m db] 26)))
        have HBOB := Lib.hid hbob
        have HPMB := Lib.hid hpmb
        clear p0 p1 p2 p3 hx4 hya hB4 hfra hbb hbob hpmb hfrb HLB
        go_upto_region 11 with (fail)
        generalize wb.alloc (.cells #[.int .i64 q.id, .int .i64 q.vol, .int .i64 q.fr, .int .i64 q.tod, .slice BB m db] 26) = W5 at *
        generalize wb.heap.size = gb at *
        have y0 : W5.cell? ⟨ga, 0, none⟩ = some (.int .i64 q.id) := hy5.c0
        have y1 : W5.cell? ⟨ga, 1, none⟩ = some (.int .i64 q.vol) := hy5.c1
        have y2 : W5.cell? ⟨ga, 2, none⟩ = some (.int .i64 q.fr) := hy5.c2
        have y3 : W5.cell? ⟨ga, 3, none⟩ = some (.int .i64 q.tod) := hy5.c3
        have y4 : W5.cell? ⟨ga, 4, none⟩ = some (.slice BA (n1 + 1) dA) := hy5.c4
        have z0 : W5.cell? ⟨gb, 0, none⟩ = some (.int .i64 q.id) := hz5.c0
        have z1 : W5.cell? ⟨gb, 1, none⟩ = some (.int .i64 q.vol) := hz5.c1
        have z2 : W5.cell? ⟨gb, 2, none⟩ = some (.int .i64 q.fr) := hz5.c2
        have z3 : W5.cell? ⟨gb, 3, none⟩ = some (.int .i64 q.tod) := hz5.c3
        have z4 : W5.cell? ⟨gb, 4, none⟩ = some (.slice BB m db) := hz5.c4
        have HY := Lib.hid hy5
        have HZ := Lib.hid hz5
        have HGA : Hid (∀ wx, RowKit.Below W5.heap.size W5 wx → Calls Try.prog 20 #[.agg #[.int .i64 q.id, .int .i64 q.vol, .int .i64 q.fr, .int .i64 q.tod, .slice BA (n1 + 1) dA]] wx fun e w' => ∃ (C : Option Addr) (mm dd : Nat) (gs : List Rq) (bal : Int), e = .returned (.slice C mm dd) ∧ Hid (Settled fa q.vol gs bal) ∧ mm ≤ 200 ∧ Hid (gs.length = mm) ∧ Hid (Recs enc2 2 w' C mm (grs gs)) ∧ Hid (RowKit.Below W5.heap.size W5 w')) := fun wx hb => (grants_any q BA (n1 + 1) dA fa wx (HFA.out.recs.below hb) HBOA.out).mono fun e w' ⟨C, mm, dd, gs, bal, h1, h2, h3, h4, h5, h6⟩ => ⟨C, mm, dd, gs, bal, h1, h2, h4, h3, Recs.of_own enc2_len h5 (by rw [grs_len, h3]), hb.trans (h6.mono hb.size)⟩
        have HGB : Hid (∀ wx, RowKit.Below W5.heap.size W5 wx → Calls Try.prog 20 #[.agg #[.int .i64 q.id, .int .i64 q.vol, .int .i64 q.fr, .int .i64 q.tod, .slice BB m db]] wx fun e w' => ∃ (C : Option Addr) (mm dd : Nat) (gs : List Rq) (bal : Int), e = .returned (.slice C mm dd) ∧ Hid (Settled fb q.vol gs bal) ∧ mm ≤ 200 ∧ Hid (gs.length = mm) ∧ Hid (Recs enc2 2 w' C mm (grs gs)) ∧ Hid (RowKit.Below W5.heap.size W5 w') ∧ Hid (RowKit.Below wx.heap.size wx w')) := fun wx hb => (grants_any q BB m db fb wx (HFB.out.recs.below hb) HBOB.out).mono fun e w' ⟨C, mm, dd, gs, bal, h1, h2, h3, h4, h5, h6⟩ => ⟨C, mm, dd, gs, bal, h1, h2, h4, h3, Recs.of_own enc2_len h5 (by rw [grs_len, h3]), hb.trans (h6.mono hb.size), h6⟩
        have HB0 : Hid (RowKit.Below W5.heap.size W5 W5.drew) := (Below.refl _ _).drew
        clear hy5 hz5
        go_region_held3 (fun w' => w'.cell? ⟨ga, 0, none⟩ = some (.int .i64 q.id) ∧ w'.cell? ⟨ga, 1, none⟩ = some (.int .i64 q.vol) ∧ w'.cell? ⟨ga, 2, none⟩ = some (.int .i64 q.fr) ∧ w'.cell? ⟨ga, 3, none⟩ = some (.int .i64 q.tod) ∧ w'.cell? ⟨ga, 4, none⟩ = some (.slice BA (n1 + 1) dA) ∧ w'.cell? ⟨gb, 0, none⟩ = some (.int .i64 q.id) ∧ w'.cell? ⟨gb, 1, none⟩ = some (.int .i64 q.vol) ∧ w'.cell? ⟨gb, 2, none⟩ = some (.int .i64 q.fr) ∧ w'.cell? ⟨gb, 3, none⟩ = some (.int .i64 q.tod) ∧ w'.cell? ⟨gb, 4, none⟩ = some (.slice BB m db))
          (first
            | with_reducible exact ⟨(HY.out.keep hv3.out).c0, (HY.out.keep hv3.out).c1, (HY.out.keep hv3.out).c2, (HY.out.keep hv3.out).c3, (HY.out.keep hv3.out).c4, (HZ.out.keep hv3.out).c0, (HZ.out.keep hv3.out).c1, (HZ.out.keep hv3.out).c2, (HZ.out.keep hv3.out).c3, (HZ.out.keep hv3.out).c4⟩
            | with_reducible exact ⟨(HY.out.keep hv2.out).c0, (HY.out.keep hv2.out).c1, (HY.out.keep hv2.out).c2, (HY.out.keep hv2.out).c3, (HY.out.keep hv2.out).c4, (HZ.out.keep hv2.out).c0, (HZ.out.keep hv2.out).c1, (HZ.out.keep hv2.out).c2, (HZ.out.keep hv2.out).c3, (HZ.out.keep hv2.out).c4⟩
            | go_keep)
          (first
            | (go_at_call 20; with_reducible (refine (HGA.out _ HB0.out).mono ?_); rintro e v2 ⟨C2, m2, e2, s2, b2, rfl, hs2, hm2, hl2, hr2, hv2⟩)
            | (go_at_call 20; with_reducible (refine (HGB.out _ hv2.out).mono ?_); rintro e v3 ⟨C3, m3, e3, s3, b3, rfl, hs3, hm3, hl3, hr3, hv3, hvv3⟩))
        have hr2' := hr2.out.below hvv3.out
        have hr3' := hr3.out
        have HW := Lib.hid (withdrawn_same (l := l) (fa := fa) (fb := fb) (id0 := id0) (fun x hx => (fErr_zero (HF.out.each x hx).1).1) (fun x hx hk => (fErr_zero (HF.out.each x hx).1).2.2.1 hk) (fun x hx hk => (fErr_zero (HF.out.each x hx).1).2.2.2.1 hk) hi1 (by omega) HBOA.out.good.v0 HPMA.out HBOA.out.asc HPMB.out HBOB.out.asc hs2.out hs3.out)
        have HBAa : Hid (∀ wx, RowKit.Below W5.heap.size W5 wx → Calls Try.prog 21 #[.agg #[.int .i64 q.id, .int .i64 q.vol, .int .i64 q.fr, .int .i64 q.tod, .slice BA (n1 + 1) dA]] wx fun e w' => e = .returned (.int .i64 b2) ∧ Hid (RowKit.Below W5.heap.size W5 w')) := fun wx hb => (balance_any q BA (n1 + 1) dA fa wx (HFA.out.recs.below hb) HBOA.out).mono fun e w' ⟨gs, bal, h1, h2, h3⟩ => ⟨by rw [h1, (h2.unique hs2.out).2], hb.trans (h3.mono hb.size)⟩
        have HBAb : Hid (∀ wx, RowKit.Below W5.heap.size W5 wx → Calls Try.prog 21 #[.agg #[.int .i64 q.id, .int .i64 q.vol, .int .i64 q.fr, .int .i64 q.tod, .slice BB m db]] wx fun e w' => e = .returned (.int .i64 b2) ∧ Hid (RowKit.Below W5.heap.size W5 w')) := fun wx hb => (balance_any q BB m db fb wx (HFB.out.recs.below hb) HBOB.out).mono fun e w' ⟨gs, bal, h1, h2, h3⟩ => ⟨by rw [h1, (h2.unique hs3.out).2, HW.out.2.2.2], hb.trans (h3.mono hb.size)⟩
        have HAW2 : Hid (∀ wx, RowKit.Below W5.heap.size W5 wx → Calls Try.prog 13 #[] wx fun e w' => e = .returned (.bool true) ∧ Hid (RowKit.Below W5.heap.size W5 w')) := fun wx hb => (HAW.out wx).mono fun e w' ⟨h1, h2⟩ => ⟨h1, hb.trans (h2.mono hb.size)⟩
        clear y0 y1 y2 y3 y4 z0 z1 z2 z3 z4 hr2 hr3 HGA HGB HB0
        go_wp2_with fail
        go_loopw [15, 16] (fun nn i wx => ∃ (k p : Nat), k ≤ m2 ∧ nn = .int .i64 (cntI id0 (s2.take k)) ∧ i = .int .i64 k ∧ Hid (wx = v3.drewN p)) (fun _ i _ => m2 - (intOf i).toNat)
        case atStart => exact ⟨0, 0, Nat.zero_le _, rfl, rfl, rfl⟩
        case round =>
          obtain ⟨k, p, hk, rfl, rfl, HWQ⟩ := hrel
          have hr2w : Recs enc2 2 wr C2 m2 (grs s2) := by rw [HWQ.out]; exact hr2'.drewN p
          have hr3w : Recs enc2 2 wr C3 m3 (grs s3) := by rw [HWQ.out]; exact hr3'.drewN p
          have HCB := Lib.hid (cntI_le id0 (s2.take k))
          by_cases hlt : k < m2
          · obtain ⟨b, off, x, y, hA, hbl, c1, c2, HX⟩ := hr2w.get2 hlt
            subst hA
            have hki : (k : Int) < m2 := by omega
            have HTK : Hid (cntI id0 (s2.take (k + 1)) = cntI id0 (s2.take k) + if x = id0 then 1 else 0) := by
              show _ = _
              rw [cntI_take (by have := hl2.out; omega), (grs_at (by have := hl2.out; omega) HX.out).1]
            have HMEM := Lib.hid (grs_at (gs := s2) (k := k) (by have := hl2.out; omega) HX.out)
            have hcb : cntI id0 (s2.take k) ≤ k := by have := HCB.out; rw [List.length_take] at this; omega
            generalize cntI id0 (s2.take k) = cn at *
            by_cases e : x = id0
            · have be : (x == id0) = true := by simpa using e
              have hy0 : y = 0 := by have := HW.out.1 _ HMEM.out.2.2 (by rw [HMEM.out.1]; exact e); rw [HMEM.out.2.1] at this; exact this
              subst hy0
              rw [if_pos e] at HTK
              clear e
              go_wp2_with fail
              go_roundw
              case rel => exact ⟨k + 1, p, by omega, by rw [HTK.out]; go_num, by go_num, HWQ⟩
              case measure => simp [intOf]; omega
            · have be : (x == id0) = false := by simpa using e
              rw [if_neg e, Nat.add_zero] at HTK
              have HGV : Hid (grG (grs s3) x = y) := by
                obtain ⟨g', h1, h2, h3⟩ := HW.out.2.1 _ HMEM.out.2.2 (by rw [HMEM.out.1]; exact e)
                rw [HMEM.out.1] at h2
                rw [HMEM.out.2.1] at h3
                rw [← h3]
                exact grG_grs hs3.out.asc h1 h2
              have HGQ := Lib.hid (fun j => granted_quiet C3 m3 e3 (grs s3) x wr j hr3w (by omega))
              rw [HGV.out] at HGQ
              clear e
              go_upto_region 20 with (fail)
              go_quiet ((go_at_call 22; exact HGQ.out _))
              go_wp2_with fail
              go_roundw
              case rel => exact ⟨k + 1, _, by omega, by rw [HTK.out]; try rfl, by go_num, drewN_add HWQ.out _⟩
              case measure => simp [intOf]; omega
          · obtain rfl : m2 = k := by omega
            rw [List.take_of_length_le (by have := hl2.out; omega)] at HCB ⊢
            have hcb : cntI id0 s2 ≤ 200 := by have := HCB.out; have := hl2.out; omega
            have HLEN : m2 = m3 + cntI id0 s2 := by
              have := HW.out.2.2.1
              rw [hl2.out, hl3.out] at this
              exact this
            generalize cntI id0 s2 = cn at *
            have u1 : IntKind.i64.wrap ((m3 : Int) + (cn : Int)) = (m3 : Int) + (cn : Int) := IntWalk.i64_in _ (by omega)
            have bl : ((m2 : Int) == (m3 : Int) + (cn : Int)) = true := by simp; omega
            have hd0 : decide ((m2 : Int) < m2) = false := by simp
            have hv4 : Hid (RowKit.Below W5.heap.size W5 wr) := by show RowKit.Below _ _ _; rw [HWQ.out]; exact below_drewN hv3.out p
            have hv5 : Hid (RowKit.Below W5.heap.size W5 wr.drew) := hv4.out.drew
            have HY6 := Lib.hid (HY.out.keep hv4.out)
            have HZ6 := Lib.hid (HZ.out.keep hv4.out)
            have y0 := HY6.out.c0
            have y1 := HY6.out.c1
            have y2 := HY6.out.c2
            have y3 := HY6.out.c3
            have y4 := HY6.out.c4
            have z0 := HZ6.out.c0
            have z1 := HZ6.out.c1
            have z2 := HZ6.out.c2
            have z3 := HZ6.out.c3
            have z4 := HZ6.out.c4
            clear hlt HLEN
            go_upto_region 22 with (fail)
            go_region_held3 (fun w' => w'.cell? ⟨ga, 0, none⟩ = some (.int .i64 q.id) ∧ w'.cell? ⟨ga, 1, none⟩ = some (.int .i64 q.vol) ∧ w'.cell? ⟨ga, 2, none⟩ = some (.int .i64 q.fr) ∧ w'.cell? ⟨ga, 3, none⟩ = some (.int .i64 q.tod) ∧ w'.cell? ⟨ga, 4, none⟩ = some (.slice BA (n1 + 1) dA) ∧ w'.cell? ⟨gb, 0, none⟩ = some (.int .i64 q.id) ∧ w'.cell? ⟨gb, 1, none⟩ = some (.int .i64 q.vol) ∧ w'.cell? ⟨gb, 2, none⟩ = some (.int .i64 q.fr) ∧ w'.cell? ⟨gb, 3, none⟩ = some (.int .i64 q.tod) ∧ w'.cell? ⟨gb, 4, none⟩ = some (.slice BB m db))
              (first
                | with_reducible exact ⟨(HY.out.keep hv8.out).c0, (HY.out.keep hv8.out).c1, (HY.out.keep hv8.out).c2, (HY.out.keep hv8.out).c3, (HY.out.keep hv8.out).c4, (HZ.out.keep hv8.out).c0, (HZ.out.keep hv8.out).c1, (HZ.out.keep hv8.out).c2, (HZ.out.keep hv8.out).c3, (HZ.out.keep hv8.out).c4⟩
                | with_reducible exact ⟨(HY.out.keep hv7.out).c0, (HY.out.keep hv7.out).c1, (HY.out.keep hv7.out).c2, (HY.out.keep hv7.out).c3, (HY.out.keep hv7.out).c4, (HZ.out.keep hv7.out).c0, (HZ.out.keep hv7.out).c1, (HZ.out.keep hv7.out).c2, (HZ.out.keep hv7.out).c3, (HZ.out.keep hv7.out).c4⟩
                | with_reducible exact ⟨(HY.out.keep hv6.out).c0, (HY.out.keep hv6.out).c1, (HY.out.keep hv6.out).c2, (HY.out.keep hv6.out).c3, (HY.out.keep hv6.out).c4, (HZ.out.keep hv6.out).c0, (HZ.out.keep hv6.out).c1, (HZ.out.keep hv6.out).c2, (HZ.out.keep hv6.out).c3, (HZ.out.keep hv6.out).c4⟩
                | with_reducible exact ⟨(HY.out.keep hv5.out).c0, (HY.out.keep hv5.out).c1, (HY.out.keep hv5.out).c2, (HY.out.keep hv5.out).c3, (HY.out.keep hv5.out).c4, (HZ.out.keep hv5.out).c0, (HZ.out.keep hv5.out).c1, (HZ.out.keep hv5.out).c2, (HZ.out.keep hv5.out).c3, (HZ.out.keep hv5.out).c4⟩
                | go_keep)
              (first
                | (go_at_call 21; with_reducible (refine (HBAa.out _ hv5.out).mono ?_); rintro e v6 ⟨rfl, hv6⟩)
                | (go_at_call 21; with_reducible (refine (HBAb.out _ hv6.out).mono ?_); rintro e v7 ⟨rfl, hv7⟩)
                | (go_at_call 13; with_reducible (refine (HAW2.out _ hv7.out).mono ?_); rintro e v8 ⟨rfl, hv8⟩))
            go_wp2
            go_ret
            exact ⟨rfl, hB5.trans (hv8.out.mono hB5.size)⟩
end Go.Proofs.Ytemhiifgplaldaa

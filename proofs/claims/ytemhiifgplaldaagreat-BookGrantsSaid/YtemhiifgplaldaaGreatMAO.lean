/-
  The contract of the reference's requests. No statement of the seat is proved here. Conditions: as typed.
-/
import Derived.Test.YtemhiifgplaldaaGreatMAK
import Derived.Test.YtemhiifgplaldaaGreatMAN
import Derived.Test.YtemhiifgplaldaaGreatMAE
namespace Go.Proofs.YtemhiifgplaldaaGreat
open Go.RowKit
set_option linter.unusedVariables false

theorem infoA : (Tryz.prog.info? 71).map (fun i => (i.zero, i.size, i.bytes)) = some (some (.agg #[.int .i64 0, .int .i64 0, .int .i64 0]), 3, 24) := by kernel_rfl
theorem own_cap {w : World} {base size n c : Nat} {e : TypeId} {A : Option Addr} {xs : List Value} (h : w.ownsRow base e size (.slice A n c) n xs) : n ≤ c := by
  rcases h.2 with ⟨h1, h2⟩ | ⟨g, cap, cur, h1, _, _, h4, _⟩
  · omega
  · injection h1 with _ _ e; omega
theorem flatA_take (os : List Ak) (j : Nat) : flat encA (os.take j) = (flat encA os).take (j * 3) := by
  induction os generalizing j with
  | nil => simp [flat]
  | cons o os ih =>
    cases j with
    | zero => simp [flat]
    | succ j =>
      show encA o ++ flat encA (os.take j) = (encA o ++ flat encA os).take ((j + 1) * 3)
      rw [ih, show (j + 1) * 3 = (encA o).length + j * 3 by rw [encA_len]; omega, List.take_length_add_append]
theorem flatA_drop (os : List Ak) (j : Nat) : flat encA (os.drop j) = (flat encA os).drop (j * 3) := by
  induction os generalizing j with
  | nil => simp [flat]
  | cons o os ih =>
    cases j with
    | zero => simp
    | succ j =>
      show flat encA (os.drop j) = (encA o ++ flat encA os).drop ((j + 1) * 3)
      rw [ih, show (j + 1) * 3 = (encA o).length + j * 3 by rw [encA_len]; omega, List.drop_length_add_append]
theorem flatA_one (os : List Ak) : ∀ u ∈ flat encA os, u.oneCell' = true := fun u hu => by
  obtain ⟨x, _, hx⟩ := List.mem_flatMap.1 hu
  exact encA_one x u hx
theorem Recs.getA {w : World} {A : Option Addr} {n : Nat} {xs : List Ak} (h : Recs encA 3 w A n xs) {i : Nat} (hi : i < n) :
    ∃ b off x, A = some ⟨b, off, none⟩ ∧ b < w.heap.size ∧ w.cell? ⟨b, off + i * 3, none⟩ = some (.int .i64 x.day) ∧ w.cell? ⟨b, off + i * 3 + 1, none⟩ = some (.int .i64 x.id) ∧ w.cell? ⟨b, off + i * 3 + 2, none⟩ = some (.int .i64 x.qty) ∧ Hid (xs[i]! = x) := by
  obtain ⟨b, off, e, hlt, hc⟩ := h.at_ hi
  exact ⟨b, off, xs[i]!, e, hlt, hc 0 (by omega), hc 1 (by omega), hc 2 (by omega), rfl⟩

theorem drewN_add {w v : World} {q : Nat} (h : v = w.drewN q) (m : Nat) : v.drewN m = w.drewN (q + m) := by
  rw [h]
  simp [World.drewN, Nat.add_assoc]
theorem sum_nn {l : List Int} (h : ∀ z ∈ l, 0 ≤ z) : 0 ≤ l.sum := by
  induction l with
  | nil => simp
  | cons x xs ih =>
    have h1 := h x (List.mem_cons_self ..)
    have h2 := ih fun z hz => h z (List.mem_cons_of_mem _ hz)
    simp
    omega
/-- The quantities that are left are in range. -/
theorem own_qty {fs fs1 : List Fct} {os : List Ak} (h : EffP fs fs1 os) (hf : ∀ f ∈ fs, 0 ≤ f.qty ∧ f.qty ≤ 1000000000) (hr : ∀ f ∈ fs1, 0 ≤ f.qty) : ∀ o ∈ os, 0 ≤ o.qty ∧ o.qty ≤ 1000000000 := fun o ho => by
  obtain ⟨f, hfo⟩ := Option.isSome_iff_exists.1 ((h.mem o.id).1 ⟨o, ho, rfl⟩)
  have h1 := (h.val o ho f hfo).2
  have h2 := hf f (List.mem_of_find?_eq_some hfo)
  have h3 : 0 ≤ retOf fs1 o.id := sum_nn fun z hz => by
    obtain ⟨y, hy, rfl⟩ := List.mem_map.1 hz
    exact hr y (List.mem_filter.1 hy).1
  rw [h1]
  unfold effOf
  split
  · omega
  · omega
/-- Where a row of the call's own begins. -/
theorem own_at0 {w : World} {base size n c b off : Nat} {e : TypeId} {B : Option Addr} {xs : List Value} (h : w.ownsRow base e size (.slice B n c) n xs) (hB : B = some ⟨b, off, none⟩) : off = 0 ∧ base ≤ b := by
  rcases h.2 with ⟨h1, h2⟩ | ⟨g, cap, cur, h1, h2, _⟩
  · injection h1 with h1; rw [hB] at h1; cases h1
  · injection h1 with h1; rw [hB] at h1; injection h1 with h1; injection h1 with e1 e2; exact ⟨e2, by omega⟩
theorem own_free {w : World} {base size n c g : Nat} {e : TypeId} {xs : List Value} (h : w.ownsRow base e size (.slice (some ⟨g, 0, none⟩) n c) n xs) (i : Nat) : w.frozen? ⟨g, i, none⟩ = false := by
  rcases h.2 with ⟨h1, h2⟩ | ⟨g', cap, cur, h1, h2, h3, _⟩
  · cases h1
  · injection h1 with h1; injection h1 with h1; injection h1 with e1; subst e1
    exact Bl.free (t := e) h3 i
/-- What requests returns. -/
def RqRes (w : World) (fs : List Fct) (e : Ending) (w' : World) : Prop := ∃ (B : Option Addr) (m d : Nat) (os : List Ak), e = .returned (.slice B m d) ∧ EffP fs fs os ∧ os.length = m ∧ m ≤ fs.length ∧ w'.ownsRow w.heap.size 71 3 (.slice B m d) m (flat encA os) ∧ RowKit.Below w.heap.size w w'

set_option maxRecDepth 100000 in
set_option maxHeartbeats 8000000 in
theorem rrequests_any (q : Qt) (A : Option Addr) (n c : Nat) (fs : List Fct) (w : World) (h : Recs encF 5 w A n fs) (hn : n ≤ 200) (hf : ∀ x ∈ fs, 0 ≤ x.qty ∧ x.qty ≤ 1000000000) :
    Calls Tryz.prog 26 #[.agg #[.int .i64 q.id, .int .i64 q.vol, .int .i64 q.fr, .int .i64 q.tod, .slice A n c]] w (RqRes w fs) := by
  have HL := Lib.hid h.1
  have HF := Lib.hid hf
  obtain ⟨W0, hW0⟩ : ∃ W, W = w.alloc (.cells #[.int .i64 q.id, .int .i64 q.vol, .int .i64 q.fr, .int .i64 q.tod, .slice A n c] 27) := ⟨_, rfl⟩
  have hb0 : RowKit.Below w.heap.size w W0 := by rw [hW0]; exact (Below.refl _ _).alloc (Nat.le_refl _) _
  have hx0 : Bl W0 w.heap.size 27 #[.int .i64 q.id, .int .i64 q.vol, .int .i64 q.fr, .int .i64 q.tod, .slice A n c] := by rw [hW0]; exact Bl.new w _ _
  clear hf
  go_enter Tryz.func26, Tryz.ntmps26
  go_upto_region 1 with (fail)
  rw [← hW0]
  clear hW0
  go_wp2_with fail
  go_loopw [3, 4] (fun v i wx => ∃ (k m : Nat) (B : Option Addr) (d : Nat) (os : List Ak), k ≤ n ∧ m ≤ k ∧ v = .slice B m d ∧ i = .int .i64 k ∧ Hid (AskP (fs.take k) os) ∧ Hid (os.length = m) ∧ wx.ownsRow w.heap.size 71 3 (.slice B m d) m (flat encA os) ∧ Bl wx w.heap.size 27 #[.int .i64 q.id, .int .i64 q.vol, .int .i64 q.fr, .int .i64 q.tod, .slice A n c] ∧ RowKit.Below w.heap.size w wx) (fun _ i _ => n - (intOf i).toNat)
  case atStart => exact ⟨0, 0, none, 0, [], Nat.zero_le _, Nat.le_refl _, rfl, rfl, AskP.nil, rfl, ⟨rfl, .inl ⟨rfl, rfl⟩⟩, hx0, hb0⟩
  case round =>
    clear hx0 hb0
    obtain ⟨k, m, B, d, os, hk, hmk, rfl, rfl, HAS, HOL, ho, hx, hb⟩ := hrel
    have p4 : wr.cell? ⟨w.heap.size, 4, none⟩ = some (.slice A n c) := hx.c4
    by_cases hlt : k < n
    · obtain ⟨b, off, x, hA, hbl, e0, e1, e2, e3, e4, HX⟩ := (h.below hb).getF hlt
      subst hA
      have hki : (k : Int) < n := by omega
      have HTK : Hid (fs.take (k + 1) = fs.take k ++ [x]) := by
        show _ = _
        rw [take_succ_get fs k (by have := HL.out; omega), HX.out]
      have HW5 := Lib.hid (Bl.new wr 47 #[.int .i64 x.num, .int .i64 x.kind, .int .i64 x.day, .int .i64 x.id, .int .i64 x.qty])
      have HWB : Hid (RowKit.Below w.heap.size w (wr.alloc (.cells #[.int .i64 x.num, .int .i64 x.kind, .int .i64 x.day, .int .i64 x.id, .int .i64 x.qty] 47))) := hb.alloc hb.size _
      have HWX := Lib.hid (hx.alloc (.cells #[.int .i64 x.num, .int .i64 x.kind, .int .i64 x.day, .int .i64 x.id, .int .i64 x.qty] 47))
      have HWO := Lib.hid (own_alloc ho (.cells #[.int .i64 x.num, .int .i64 x.kind, .int .i64 x.day, .int .i64 x.id, .int .i64 x.qty] 47))
      have hl0 := hb.size
      clear ho hx hb
      go_upto_region 6 with (fail)
      clear e0 e1 e2 e3 e4 hbl p4
      generalize wr.alloc (.cells #[.int .i64 x.num, .int .i64 x.kind, .int .i64 x.day, .int .i64 x.id, .int .i64 x.qty] 47) = W5 at *
      generalize wr.heap.size = g5 at *
      have f1 : W5.cell? ⟨g5, 1, none⟩ = some (.int .i64 x.kind) := HW5.out.c1
      by_cases g1 : x.kind = 1
      · have b1 : (x.kind != 1) = false := by simp; omega
        have HRO := Lib.hid (Recs.of_own encA_len HWO.out HOL.out)
        go_wp2_with fail
        go_loopw [6] (fun i wx => ∃ (j p : Nat), j ≤ m ∧ i = .int .i64 j ∧ Hid (∀ i, i < j → os[i]!.id < x.id) ∧ Hid (wx = W5.drewN p)) (fun i _ => m - (intOf i).toNat)
        case atStart => exact ⟨0, 0, Nat.zero_le _, rfl, fun i hi => by omega, rfl⟩
        case round =>
          obtain ⟨j, p, hj, rfl, HLO, HWQ⟩ := hrel
          have f3w : wr.cell? ⟨g5, 3, none⟩ = some (.int .i64 x.id) := by rw [HWQ.out]; exact HW5.out.c3
          by_cases hlj : j < m
          · have hros : Recs encA 3 wr B m os := by rw [HWQ.out]; exact HRO.out.drewN p
            obtain ⟨b2, off2, y, hB2, hbl2, d0, d1, d2, HY⟩ := hros.getA hlj
            subst hB2
            have hji : (j : Int) < m := by omega
            by_cases g2 : y.id < x.id
            · have b2' : decide (y.id < x.id) = true := by simpa using g2
              have HLO2 : Hid (∀ i, i < j + 1 → os[i]!.id < x.id) := fun i hi => by
                by_cases e : i = j
                · subst e; rw [HY.out]; exact g2
                · exact HLO.out i (by omega)
              clear g2
              go_upto_region 8 with (fail)
              go_quiet (fail)
              go_wp2_with fail
              go_roundw
              case rel => exact ⟨j + 1, _, by omega, by go_num, HLO2, drewN_add HWQ.out nq⟩
              case measure => simp [intOf]; omega
            · have b2' : decide (y.id < x.id) = false := by simpa using g2
              by_cases g3 : y.id = x.id
              · have b3 : (y.id == x.id) = true := by simpa using g3
                have HHT := Lib.hid (HAS.out.hit (x := x) ⟨os[j]!, by rw [getElem!_pos os j (by have := HOL.out; omega)]; exact List.getElem_mem _, by rw [HY.out]; exact g3⟩)
                clear g2 g3
                go_upto_region 8 with (fail)
                go_quiet (fail)
                go_upto_region 10 with (fail)
                have HWQ2 := Lib.hid (drewN_add HWQ.out nq)
                generalize wr.drewN nq = W6 at *
                have f3x : W6.cell? ⟨g5, 3, none⟩ = some (.int .i64 x.id) := by rw [HWQ2.out]; exact HW5.out.c3
                have d1x : W6.cell? ⟨b2, off2 + j * 3 + 1, none⟩ = some (.int .i64 y.id) := by rw [HWQ2.out]; rw [HWQ.out] at d1; exact d1
                go_quiet (fail)
                go_wp2_with fail
                go_roundw
                case rel => exact ⟨k + 1, m, _, d, os, by omega, by omega, rfl, by go_num, by show AskP _ _; rw [HTK.out]; exact HHT.out, HOL, by rw [drewN_add HWQ2.out nq]; exact own_drewN HWO.out _, by rw [drewN_add HWQ2.out nq]; exact HWX.out, by rw [drewN_add HWQ2.out nq]; exact below_drewN HWB.out _⟩
                case measure => simp [intOf]; omega
              · have b3 : (y.id == x.id) = false := by simpa using g3
                have HHI : Hid (j < os.length → x.id < os[j]!.id) := fun _ => by rw [HY.out]; omega
                clear g2 g3
                go_upto_region 8 with (fail)
                go_quiet (fail)
                go_upto_region 10 with (fail)
                have HWQ2 := Lib.hid (drewN_add HWQ.out nq)
                generalize wr.drewN nq = W6 at *
                have f3x : W6.cell? ⟨g5, 3, none⟩ = some (.int .i64 x.id) := by rw [HWQ2.out]; exact HW5.out.c3
                have d1x : W6.cell? ⟨b2, off2 + j * 3 + 1, none⟩ = some (.int .i64 y.id) := by rw [HWQ2.out]; rw [HWQ.out] at d1; exact d1
                go_quiet (fail)
                go_upto_region 11 with (fail)
                have HWQ3 := Lib.hid (drewN_add HWQ2.out nq)
                clear d0 d1 d2 hbl2 f3w f3x d1x f1 b1 b2' b3
                obtain ⟨W7, hW7⟩ : ∃ W, W = W6.drewN nq := ⟨_, rfl⟩
                rw [← hW7]
                have HB7 : Hid (RowKit.Below w.heap.size w W7) := by show RowKit.Below _ _ _; rw [hW7]; rw [HWQ3.out]; exact below_drewN HWB.out _
                have HX7 : Hid (Bl W7 w.heap.size 27 #[.int .i64 q.id, .int .i64 q.vol, .int .i64 q.fr, .int .i64 q.tod, .slice (some ⟨b, off, none⟩) n c]) := by show Bl _ _ _ _; rw [hW7]; rw [HWQ3.out]; exact HWX.out
                have ho7 : W7.ownsRow w.heap.size 71 3 (.slice (some ⟨b2, off2, none⟩ : Option Addr) m d) m (flat encA os) := by rw [hW7]; rw [HWQ3.out]; exact own_drewN HWO.out _
                have f2 : W7.cell? ⟨g5, 2, none⟩ = some (.int .i64 x.day) := by rw [hW7]; rw [HWQ3.out]; exact HW5.out.c2
                have f3 : W7.cell? ⟨g5, 3, none⟩ = some (.int .i64 x.id) := by rw [hW7]; rw [HWQ3.out]; exact HW5.out.c3
                have f4 : W7.cell? ⟨g5, 4, none⟩ = some (.int .i64 x.qty) := by rw [hW7]; rw [HWQ3.out]; exact HW5.out.c4
                have l5 : g5 < W7.heap.size := by rw [hW7]; rw [HWQ3.out]; exact HW5.out.lt
                have hdm := own_cap ho7
                have l0 : w.heap.size ≤ W7.heap.size := HB7.out.size
                have HRDH : Hid (Rd W7 3 (some ⟨b2, off2, none⟩ : Option Addr) j (flat encA (os.take j))) := by have := (Rd.of_own ho7).take (k := j) (by omega); rwa [← flatA_take] at this
                have HRDL : Hid (Rd W7 3 (if d = j then (some ⟨b2, off2, none⟩ : Option Addr) else (some ⟨b2, off2, none⟩ : Option Addr).map (·.add (j * 3))) (m - j) (flat encA (os.drop j))) := by have := (Rd.of_own ho7).drop (k := j) (c := d) (by omega) hdm; rwa [← flatA_drop] at this
                have HONE : Hid ((∀ u ∈ flat encA (os.take j), u.oneCell' = true) ∧ (∀ u ∈ flat encA (os.drop j), u.oneCell' = true)) := ⟨flatA_one _, flatA_one _⟩
                have HINS := Lib.hid (HAS.out.ins g1 (k := j) (by have := HOL.out; omega) HLO.out HHI.out)
                have HLN : Hid ((os.take j ++ [(⟨x.day, x.id, x.qty⟩ : Ak)] ++ os.drop j).length = m + 1) := by show _ = _; simp; have := HOL.out; omega
                clear ho7 hW7
                refine wp_region_rows [
                    ⟨⟨some 55, [], []⟩, NoF, OwnR W7.heap.size 71 3 0 ([])⟩,
                    ⟨⟨some 56, [], []⟩, fun _ v => v = .slice (some ⟨b2, off2, none⟩ : Option Addr) m d, NoR⟩,
                    ⟨⟨some 57, [], []⟩, fun _ v => v = .int .i64 (j : Int), NoR⟩,
                    ⟨⟨some 58, [1, 2], []⟩, fun _ v => v = .slice (some ⟨b2, off2, none⟩ : Option Addr) j d, NoR⟩,
                    ⟨⟨some 59, [0, 3], [0]⟩, NoF, OwnR W7.heap.size 71 3 (j) (flat encA (os.take j))⟩,
                    ⟨⟨some 60, [], []⟩, fun _ v => v = .pointer (some ⟨g5, 2, none⟩), NoR⟩,
                    ⟨⟨some 61, [5], []⟩, fun _ v => v = .int .i64 x.day, NoR⟩,
                    ⟨⟨some 62, [], []⟩, fun _ v => v = .pointer (some ⟨g5, 3, none⟩), NoR⟩,
                    ⟨⟨some 63, [7], []⟩, fun _ v => v = .int .i64 x.id, NoR⟩,
                    ⟨⟨some 64, [], []⟩, fun _ v => v = .pointer (some ⟨g5, 4, none⟩), NoR⟩,
                    ⟨⟨some 65, [9], []⟩, fun _ v => v = .int .i64 x.qty, NoR⟩,
                    ⟨⟨some 66, [6, 8, 10], []⟩, fun _ v => v = .agg #[.int .i64 x.day, .int .i64 x.id, .int .i64 x.qty], NoR⟩,
                    ⟨⟨some 67, [11], []⟩, NoF, LitR 71 (encA ⟨x.day, x.id, x.qty⟩).toArray 1⟩,
                    ⟨⟨some 68, [4, 12], [4, 12]⟩, NoF, OwnR W7.heap.size 71 3 (j + 1) (flat encA (os.take j ++ [⟨x.day, x.id, x.qty⟩]))⟩,
                    ⟨⟨some 69, [], []⟩, fun _ v => v = .slice (some ⟨b2, off2, none⟩ : Option Addr) m d, NoR⟩,
                    ⟨⟨some 70, [], []⟩, fun _ v => v = .int .i64 (j : Int), NoR⟩,
                    ⟨⟨some 71, [14, 15], []⟩, fun _ v => v = .slice (if d = j then (some ⟨b2, off2, none⟩ : Option Addr) else (some ⟨b2, off2, none⟩ : Option Addr).map (·.add (j * 3))) (m - j) (d - j), NoR⟩,
                    ⟨⟨some 72, [13, 16], [13]⟩, NoF, OwnR W7.heap.size 71 3 (j + 1 + (m - j)) (flat encA (os.take j ++ [⟨x.day, x.id, x.qty⟩] ++ os.drop j))⟩,
                    ⟨⟨some 3, [17], [17]⟩, NoF, OwnR W7.heap.size 71 3 (j + 1 + (m - j)) (flat encA (os.take j ++ [⟨x.day, x.id, x.qty⟩] ++ os.drop j))⟩] (by kernel_rfl) (by kernel_rfl) (by kernel_rfl) ⟨OwnR.loc, NoR.loc, NoR.loc, NoR.loc, OwnR.loc, NoR.loc, NoR.loc, NoR.loc, NoR.loc, NoR.loc, NoR.loc, NoR.loc, LitR.loc, OwnR.loc, NoR.loc, NoR.loc, NoR.loc, OwnR.loc, OwnR.loc, trivial⟩ ⟨?r0, ?r1, ?r2, ?r3, ?r4, ?r5, ?r6, ?r7, ?r8, ?r9, ?r10, ?r11, ?r12, ?r13, ?r14, ?r15, ?r16, ?r17, ?r18, trivial⟩ ?fin
                case r0 =>
                  refine step_of rfl rfl ?_
                  intro a wx vs fp K hF hK
                  refine op_value (v := .slice (some ⟨wx.heap.size, 0, none⟩) 0 0) (w' := wx.alloc (.cells #[] 71)) ?_ (hK _ _ _ (hF.made _ trivial ⟨own_lit (Bl.new _ _ _) hF.below.size rfl (by decide), rfl⟩))
                  have ec : ∀ v, a.eval (.const v) = v := fun _ => rfl
                  clear hF hK
                  generalize a.eval = ρ at *
                  go_simp
                case r1 =>
                  refine step_of rfl rfl ?_
                  intro a wx vs fp K hF hK
                  exact op_move rfl (hF.at_ 3 rfl) (hK _ _ _ (hF.only rfl trivial))
                case r2 =>
                  refine step_of rfl rfl ?_
                  intro a wx vs fp K hF hK
                  exact op_move rfl (hF.at_ 6 rfl) (hK _ _ _ (hF.only rfl trivial))
                case r3 =>
                  refine step_of rfl rfl ?_
                  intro a wx vs fp K hF hK
                  exact op_hi (size := 3) rfl Tryz.underlying65 (by kernel_rfl) ((hF.ev 1 56 rfl rfl).trans (hF.va 1 rfl)) ((hF.ev 2 57 rfl rfl).trans (hF.va 2 rfl)) (by omega) (hK _ _ _ (hF.only rfl trivial))
                case r4 =>
                  refine step_of rfl rfl ?_
                  intro a wx vs fp K hF hK
                  have hm : OwnR W7.heap.size 71 3 (0) ([]) [] (vs 0) (fp 0) wx := hF.me 0 rfl
                  have hv : vs 3 = .slice (some ⟨b2, off2, none⟩ : Option Addr) j d := hF.va 3 rfl
                  have hrd := HRDH.out.keep hF.below
                  refine op_append (.tmp 55) (.tmp 58) 65 rfl W7.heap.size 71 _ 3 24 Tryz.underlying65 infoA rfl (by decide) (vs 0) (0) ([]) (hF.ev 0 55 rfl rfl) hm.1 (some ⟨b2, off2, none⟩ : Option Addr) j d (flat encA (os.take j)) ((hF.ev 3 58 rfl rfl).trans hv) hrd (HONE.out.1) (by unfold maxLen; omega) (by omega) hF.below.size ?_
                  intro v w' h1 h2 h3
                  exact hK _ _ _ (hF.grown 0 rfl hm.2 h2 h3 (fun g hg => own_lt h1 g hg) trivial ⟨by simpa using h1, rfl⟩)
                case r5 =>
                  refine step_of rfl rfl ?_
                  intro a wx vs fp K hF hK
                  have ea : a.eval (.tmp 5) = .pointer (some ⟨g5, 0, none⟩) := hF.at_ 5 rfl
                  refine op_value (v := .pointer (some ⟨g5, 2, none⟩)) ?_ (hK _ _ _ (hF.only rfl trivial))
                  clear hF hK
                  generalize a.eval = ρ at *
                  go_simp
                case r6 =>
                  refine step_of rfl rfl ?_
                  intro a wx vs fp K hF hK
                  have ea : a.eval (.tmp 60) = .pointer (some ⟨g5, 2, none⟩) := (hF.ev 5 60 rfl rfl).trans (hF.va 5 rfl)
                  have mc := (hF.below.cell (p := ⟨g5, 2, none⟩) l5).trans f2
                  refine op_value (v := .int .i64 x.day) ?_ (hK _ _ _ (hF.only rfl trivial))
                  clear hF hK
                  generalize a.eval = ρ at *
                  go_simp
                case r7 =>
                  refine step_of rfl rfl ?_
                  intro a wx vs fp K hF hK
                  have ea : a.eval (.tmp 5) = .pointer (some ⟨g5, 0, none⟩) := hF.at_ 5 rfl
                  refine op_value (v := .pointer (some ⟨g5, 3, none⟩)) ?_ (hK _ _ _ (hF.only rfl trivial))
                  clear hF hK
                  generalize a.eval = ρ at *
                  go_simp
                case r8 =>
                  refine step_of rfl rfl ?_
                  intro a wx vs fp K hF hK
                  have ea : a.eval (.tmp 62) = .pointer (some ⟨g5, 3, none⟩) := (hF.ev 7 62 rfl rfl).trans (hF.va 7 rfl)
                  have mc := (hF.below.cell (p := ⟨g5, 3, none⟩) l5).trans f3
                  refine op_value (v := .int .i64 x.id) ?_ (hK _ _ _ (hF.only rfl trivial))
                  clear hF hK
                  generalize a.eval = ρ at *
                  go_simp
                case r9 =>
                  refine step_of rfl rfl ?_
                  intro a wx vs fp K hF hK
                  have ea : a.eval (.tmp 5) = .pointer (some ⟨g5, 0, none⟩) := hF.at_ 5 rfl
                  refine op_value (v := .pointer (some ⟨g5, 4, none⟩)) ?_ (hK _ _ _ (hF.only rfl trivial))
                  clear hF hK
                  generalize a.eval = ρ at *
                  go_simp
                case r10 =>
                  refine step_of rfl rfl ?_
                  intro a wx vs fp K hF hK
                  have ea : a.eval (.tmp 64) = .pointer (some ⟨g5, 4, none⟩) := (hF.ev 9 64 rfl rfl).trans (hF.va 9 rfl)
                  have mc := (hF.below.cell (p := ⟨g5, 4, none⟩) l5).trans f4
                  refine op_value (v := .int .i64 x.qty) ?_ (hK _ _ _ (hF.only rfl trivial))
                  clear hF hK
                  generalize a.eval = ρ at *
                  go_simp
                case r11 =>
                  refine step_of rfl rfl ?_
                  intro a wx vs fp K hF hK
                  have e6 : a.eval (.tmp 61) = .int .i64 x.day := (hF.ev 6 61 rfl rfl).trans (hF.va 6 rfl)
                  have e8 : a.eval (.tmp 63) = .int .i64 x.id := (hF.ev 8 63 rfl rfl).trans (hF.va 8 rfl)
                  have e10 : a.eval (.tmp 65) = .int .i64 x.qty := (hF.ev 10 65 rfl rfl).trans (hF.va 10 rfl)
                  refine op_value (v := .agg #[.int .i64 x.day, .int .i64 x.id, .int .i64 x.qty]) ?_ (hK _ _ _ (hF.only rfl trivial))
                  have ec : ∀ v, a.eval (.const v) = v := fun _ => rfl
                  clear hF hK
                  generalize a.eval = ρ at *
                  go_simp
                case r12 =>
                  refine step_of rfl rfl ?_
                  intro a wx vs fp K hF hK
                  have e11 : a.eval (.tmp 66) = .agg #[.int .i64 x.day, .int .i64 x.id, .int .i64 x.qty] := (hF.ev 11 66 rfl rfl).trans (hF.va 11 rfl)
                  refine op_value (v := .slice (some ⟨wx.heap.size, 0, none⟩) 1 1) (w' := wx.alloc (.cells #[.int .i64 x.day, .int .i64 x.id, .int .i64 x.qty] 71)) ?_ (hK _ _ _ (hF.made _ trivial ⟨_, rfl, rfl, Bl.new _ _ _⟩))
                  have ec : ∀ v, a.eval (.const v) = v := fun _ => rfl
                  clear hF hK
                  generalize a.eval = ρ at *
                  go_simp
                case r13 =>
                  refine step_of rfl rfl ?_
                  intro a wx vs fp K hF hK
                  have hm : OwnR W7.heap.size 71 3 (j) (flat encA (os.take j)) [] (vs 4) (fp 4) wx := hF.me 4 rfl
                  have hv : LitR 71 (encA ⟨x.day, x.id, x.qty⟩).toArray (1) [] (vs 12) (fp 12) wx := hF.me 12 rfl
                  obtain ⟨gy, hv, hfy, hbl⟩ := hv
                  have hrd : Rd wx 3 (some ⟨gy, 0, none⟩) (1) (encA ⟨x.day, x.id, x.qty⟩) := rd_bl hbl rfl
                  refine op_append (.tmp 59) (.tmp 67) 65 rfl W7.heap.size 71 _ 3 24 Tryz.underlying65 infoA rfl (by decide) (vs 4) (j) (flat encA (os.take j)) (hF.ev 4 59 rfl rfl) hm.1 (some ⟨gy, 0, none⟩) (1) (1) (encA ⟨x.day, x.id, x.qty⟩) ((hF.ev 12 67 rfl rfl).trans hv) hrd (encA_one _) (by unfold maxLen; omega) (by omega) hF.below.size ?_
                  intro v w' h1 h2 h3
                  exact hK _ _ _ (hF.grown 4 rfl hm.2 h2 h3 (fun g hg => own_lt h1 g hg) trivial ⟨by (rw [flat_append, flat_one]; exact h1), rfl⟩)
                case r14 =>
                  refine step_of rfl rfl ?_
                  intro a wx vs fp K hF hK
                  exact op_move rfl (hF.at_ 3 rfl) (hK _ _ _ (hF.only rfl trivial))
                case r15 =>
                  refine step_of rfl rfl ?_
                  intro a wx vs fp K hF hK
                  exact op_move rfl (hF.at_ 6 rfl) (hK _ _ _ (hF.only rfl trivial))
                case r16 =>
                  refine step_of rfl rfl ?_
                  intro a wx vs fp K hF hK
                  exact op_lo (size := 3) rfl Tryz.underlying65 (by kernel_rfl) ((hF.ev 14 69 rfl rfl).trans (hF.va 14 rfl)) ((hF.ev 15 70 rfl rfl).trans (hF.va 15 rfl)) (by omega) (hK _ _ _ (hF.only rfl trivial))
                case r17 =>
                  refine step_of rfl rfl ?_
                  intro a wx vs fp K hF hK
                  have hm : OwnR W7.heap.size 71 3 (j + 1) (flat encA (os.take j ++ [⟨x.day, x.id, x.qty⟩])) [] (vs 13) (fp 13) wx := hF.me 13 rfl
                  have hv : vs 16 = .slice (if d = j then (some ⟨b2, off2, none⟩ : Option Addr) else (some ⟨b2, off2, none⟩ : Option Addr).map (·.add (j * 3))) (m - j) (d - j) := hF.va 16 rfl
                  have hrd := HRDL.out.keep hF.below
                  refine op_append (.tmp 68) (.tmp 71) 65 rfl W7.heap.size 71 _ 3 24 Tryz.underlying65 infoA rfl (by decide) (vs 13) (j + 1) (flat encA (os.take j ++ [⟨x.day, x.id, x.qty⟩])) (hF.ev 13 68 rfl rfl) hm.1 (if d = j then (some ⟨b2, off2, none⟩ : Option Addr) else (some ⟨b2, off2, none⟩ : Option Addr).map (·.add (j * 3))) (m - j) (d - j) (flat encA (os.drop j)) ((hF.ev 16 71 rfl rfl).trans hv) hrd (HONE.out.2) (by unfold maxLen; omega) (by omega) hF.below.size ?_
                  intro v w' h1 h2 h3
                  exact hK _ _ _ (hF.grown 13 rfl hm.2 h2 h3 (fun g hg => own_lt h1 g hg) trivial ⟨by (rw [flat_append]; exact h1), rfl⟩)
                case r18 =>
                  refine step_of rfl rfl ?_
                  intro a wx vs fp K hF hK
                  have hm : OwnR W7.heap.size 71 3 (j + 1 + (m - j)) (flat encA (os.take j ++ [⟨x.day, x.id, x.qty⟩] ++ os.drop j)) [] (vs 17) (fp 17) wx := hF.me 17 rfl
                  exact op_assign rfl (hF.ev 17 72 rfl rfl) (hK _ _ _ (hF.hand 17 rfl trivial hm))
                case fin =>
                  intro wz vs fp hI
                  have hM : OwnR W7.heap.size 71 3 (j + 1 + (m - j)) (flat encA (os.take j ++ [⟨x.day, x.id, x.qty⟩] ++ os.drop j)) [vs 17] (vs 18) (fp 18) wz := (hI.finM 18 (by decide) rfl).1
                  have hbz := hI.below
                  have ho9 := own_mono hM.1 l0
                  obtain ⟨B9, d9, hv9⟩ := own_slice hM.1
                  rw [hv9] at ho9
                  clear hI hM
                  simp only [rj, number, putJ, List.map_cons, List.map_nil, if_true, Act.put, List.setIfInBounds_toArray, List.set_cons_zero, List.set_cons_succ, hv9]
                  rw [show j + 1 + (m - j) = m + 1 by omega] at ho9 ⊢
                  generalize vs 0 = zv0
                  generalize vs 1 = zv1
                  generalize vs 2 = zv2
                  generalize vs 3 = zv3
                  generalize vs 4 = zv4
                  generalize vs 5 = zv5
                  generalize vs 6 = zv6
                  generalize vs 7 = zv7
                  generalize vs 8 = zv8
                  generalize vs 9 = zv9
                  generalize vs 10 = zv10
                  generalize vs 11 = zv11
                  generalize vs 12 = zv12
                  generalize vs 13 = zv13
                  generalize vs 14 = zv14
                  generalize vs 15 = zv15
                  generalize vs 16 = zv16
                  generalize vs 17 = zv17
                  have hB9 := HB7.out.trans (hbz.mono HB7.out.size)
                  have hx9 := HX7.out.keep hbz
                  clear hv9 hbz HRDH HRDL HONE f2 f3 f4 l5
                  go_wp2_with fail
                  go_roundw
                  case rel => exact ⟨k + 1, m + 1, B9, d9, _, by omega, by omega, rfl, by go_num, by show AskP _ _; rw [HTK.out]; exact HINS.out, HLN.out, ho9, hx9, hB9⟩
                  case measure => simp [intOf]; omega
          · have hmj : m ≤ j := by omega
            have hd0 : decide ((j : Int) < (m : Int)) = false := by simp; omega
            have hd1 : decide (j < m) = false := by simp; omega
            have HHI : Hid (j < os.length → x.id < os[j]!.id) := fun h0 => by have := HOL.out; omega
            clear hlj
            go_upto_region 8 with (fail)
            go_quiet (fail)
            go_upto_region 10 with (fail)
            have HWQ2 := Lib.hid (drewN_add HWQ.out nq)
            generalize wr.drewN nq = W6 at *
            go_quiet (fail)
            go_upto_region 11 with (fail)
            have HWQ3 := Lib.hid (drewN_add HWQ2.out nq)
            clear f3w f1 b1
            obtain ⟨W7, hW7⟩ : ∃ W, W = W6.drewN nq := ⟨_, rfl⟩
            rw [← hW7]
            have HB7 : Hid (RowKit.Below w.heap.size w W7) := by show RowKit.Below _ _ _; rw [hW7]; rw [HWQ3.out]; exact below_drewN HWB.out _
            have HX7 : Hid (Bl W7 w.heap.size 27 #[.int .i64 q.id, .int .i64 q.vol, .int .i64 q.fr, .int .i64 q.tod, .slice (some ⟨b, off, none⟩) n c]) := by show Bl _ _ _ _; rw [hW7]; rw [HWQ3.out]; exact HWX.out
            have ho7 : W7.ownsRow w.heap.size 71 3 (.slice B m d) m (flat encA os) := by rw [hW7]; rw [HWQ3.out]; exact own_drewN HWO.out _
            have f2 : W7.cell? ⟨g5, 2, none⟩ = some (.int .i64 x.day) := by rw [hW7]; rw [HWQ3.out]; exact HW5.out.c2
            have f3 : W7.cell? ⟨g5, 3, none⟩ = some (.int .i64 x.id) := by rw [hW7]; rw [HWQ3.out]; exact HW5.out.c3
            have f4 : W7.cell? ⟨g5, 4, none⟩ = some (.int .i64 x.qty) := by rw [hW7]; rw [HWQ3.out]; exact HW5.out.c4
            have l5 : g5 < W7.heap.size := by rw [hW7]; rw [HWQ3.out]; exact HW5.out.lt
            have hdm := own_cap ho7
            have l0 : w.heap.size ≤ W7.heap.size := HB7.out.size
            have HRDH : Hid (Rd W7 3 B j (flat encA (os.take j))) := by have := (Rd.of_own ho7).take (k := j) (by omega); rwa [← flatA_take] at this
            have HRDL : Hid (Rd W7 3 (if d = j then B else B.map (·.add (j * 3))) (m - j) (flat encA (os.drop j))) := by have := (Rd.of_own ho7).drop (k := j) (c := d) (by omega) hdm; rwa [← flatA_drop] at this
            have HONE : Hid ((∀ u ∈ flat encA (os.take j), u.oneCell' = true) ∧ (∀ u ∈ flat encA (os.drop j), u.oneCell' = true)) := ⟨flatA_one _, flatA_one _⟩
            have HINS := Lib.hid (HAS.out.ins g1 (k := j) (by have := HOL.out; omega) HLO.out HHI.out)
            have HLN : Hid ((os.take j ++ [(⟨x.day, x.id, x.qty⟩ : Ak)] ++ os.drop j).length = m + 1) := by show _ = _; simp; have := HOL.out; omega
            clear ho7 hW7
            refine wp_region_rows [
                ⟨⟨some 55, [], []⟩, NoF, OwnR W7.heap.size 71 3 0 ([])⟩,
                ⟨⟨some 56, [], []⟩, fun _ v => v = .slice B m d, NoR⟩,
                ⟨⟨some 57, [], []⟩, fun _ v => v = .int .i64 (j : Int), NoR⟩,
                ⟨⟨some 58, [1, 2], []⟩, fun _ v => v = .slice B j d, NoR⟩,
                ⟨⟨some 59, [0, 3], [0]⟩, NoF, OwnR W7.heap.size 71 3 (j) (flat encA (os.take j))⟩,
                ⟨⟨some 60, [], []⟩, fun _ v => v = .pointer (some ⟨g5, 2, none⟩), NoR⟩,
                ⟨⟨some 61, [5], []⟩, fun _ v => v = .int .i64 x.day, NoR⟩,
                ⟨⟨some 62, [], []⟩, fun _ v => v = .pointer (some ⟨g5, 3, none⟩), NoR⟩,
                ⟨⟨some 63, [7], []⟩, fun _ v => v = .int .i64 x.id, NoR⟩,
                ⟨⟨some 64, [], []⟩, fun _ v => v = .pointer (some ⟨g5, 4, none⟩), NoR⟩,
                ⟨⟨some 65, [9], []⟩, fun _ v => v = .int .i64 x.qty, NoR⟩,
                ⟨⟨some 66, [6, 8, 10], []⟩, fun _ v => v = .agg #[.int .i64 x.day, .int .i64 x.id, .int .i64 x.qty], NoR⟩,
                ⟨⟨some 67, [11], []⟩, NoF, LitR 71 (encA ⟨x.day, x.id, x.qty⟩).toArray 1⟩,
                ⟨⟨some 68, [4, 12], [4, 12]⟩, NoF, OwnR W7.heap.size 71 3 (j + 1) (flat encA (os.take j ++ [⟨x.day, x.id, x.qty⟩]))⟩,
                ⟨⟨some 69, [], []⟩, fun _ v => v = .slice B m d, NoR⟩,
                ⟨⟨some 70, [], []⟩, fun _ v => v = .int .i64 (j : Int), NoR⟩,
                ⟨⟨some 71, [14, 15], []⟩, fun _ v => v = .slice (if d = j then B else B.map (·.add (j * 3))) (m - j) (d - j), NoR⟩,
                ⟨⟨some 72, [13, 16], [13]⟩, NoF, OwnR W7.heap.size 71 3 (j + 1 + (m - j)) (flat encA (os.take j ++ [⟨x.day, x.id, x.qty⟩] ++ os.drop j))⟩,
                ⟨⟨some 3, [17], [17]⟩, NoF, OwnR W7.heap.size 71 3 (j + 1 + (m - j)) (flat encA (os.take j ++ [⟨x.day, x.id, x.qty⟩] ++ os.drop j))⟩] (by kernel_rfl) (by kernel_rfl) (by kernel_rfl) ⟨OwnR.loc, NoR.loc, NoR.loc, NoR.loc, OwnR.loc, NoR.loc, NoR.loc, NoR.loc, NoR.loc, NoR.loc, NoR.loc, NoR.loc, LitR.loc, OwnR.loc, NoR.loc, NoR.loc, NoR.loc, OwnR.loc, OwnR.loc, trivial⟩ ⟨?r0, ?r1, ?r2, ?r3, ?r4, ?r5, ?r6, ?r7, ?r8, ?r9, ?r10, ?r11, ?r12, ?r13, ?r14, ?r15, ?r16, ?r17, ?r18, trivial⟩ ?fin
            case r0 =>
              refine step_of rfl rfl ?_
              intro a wx vs fp K hF hK
              refine op_value (v := .slice (some ⟨wx.heap.size, 0, none⟩) 0 0) (w' := wx.alloc (.cells #[] 71)) ?_ (hK _ _ _ (hF.made _ trivial ⟨own_lit (Bl.new _ _ _) hF.below.size rfl (by decide), rfl⟩))
              have ec : ∀ v, a.eval (.const v) = v := fun _ => rfl
              clear hF hK
              generalize a.eval = ρ at *
              go_simp
            case r1 =>
              refine step_of rfl rfl ?_
              intro a wx vs fp K hF hK
              exact op_move rfl (hF.at_ 3 rfl) (hK _ _ _ (hF.only rfl trivial))
            case r2 =>
              refine step_of rfl rfl ?_
              intro a wx vs fp K hF hK
              exact op_move rfl (hF.at_ 6 rfl) (hK _ _ _ (hF.only rfl trivial))
            case r3 =>
              refine step_of rfl rfl ?_
              intro a wx vs fp K hF hK
              exact op_hi (size := 3) rfl Tryz.underlying65 (by kernel_rfl) ((hF.ev 1 56 rfl rfl).trans (hF.va 1 rfl)) ((hF.ev 2 57 rfl rfl).trans (hF.va 2 rfl)) (by omega) (hK _ _ _ (hF.only rfl trivial))
            case r4 =>
              refine step_of rfl rfl ?_
              intro a wx vs fp K hF hK
              have hm : OwnR W7.heap.size 71 3 (0) ([]) [] (vs 0) (fp 0) wx := hF.me 0 rfl
              have hv : vs 3 = .slice B j d := hF.va 3 rfl
              have hrd := HRDH.out.keep hF.below
              refine op_append (.tmp 55) (.tmp 58) 65 rfl W7.heap.size 71 _ 3 24 Tryz.underlying65 infoA rfl (by decide) (vs 0) (0) ([]) (hF.ev 0 55 rfl rfl) hm.1 B j d (flat encA (os.take j)) ((hF.ev 3 58 rfl rfl).trans hv) hrd (HONE.out.1) (by unfold maxLen; omega) (by omega) hF.below.size ?_
              intro v w' h1 h2 h3
              exact hK _ _ _ (hF.grown 0 rfl hm.2 h2 h3 (fun g hg => own_lt h1 g hg) trivial ⟨by simpa using h1, rfl⟩)
            case r5 =>
              refine step_of rfl rfl ?_
              intro a wx vs fp K hF hK
              have ea : a.eval (.tmp 5) = .pointer (some ⟨g5, 0, none⟩) := hF.at_ 5 rfl
              refine op_value (v := .pointer (some ⟨g5, 2, none⟩)) ?_ (hK _ _ _ (hF.only rfl trivial))
              clear hF hK
              generalize a.eval = ρ at *
              go_simp
            case r6 =>
              refine step_of rfl rfl ?_
              intro a wx vs fp K hF hK
              have ea : a.eval (.tmp 60) = .pointer (some ⟨g5, 2, none⟩) := (hF.ev 5 60 rfl rfl).trans (hF.va 5 rfl)
              have mc := (hF.below.cell (p := ⟨g5, 2, none⟩) l5).trans f2
              refine op_value (v := .int .i64 x.day) ?_ (hK _ _ _ (hF.only rfl trivial))
              clear hF hK
              generalize a.eval = ρ at *
              go_simp
            case r7 =>
              refine step_of rfl rfl ?_
              intro a wx vs fp K hF hK
              have ea : a.eval (.tmp 5) = .pointer (some ⟨g5, 0, none⟩) := hF.at_ 5 rfl
              refine op_value (v := .pointer (some ⟨g5, 3, none⟩)) ?_ (hK _ _ _ (hF.only rfl trivial))
              clear hF hK
              generalize a.eval = ρ at *
              go_simp
            case r8 =>
              refine step_of rfl rfl ?_
              intro a wx vs fp K hF hK
              have ea : a.eval (.tmp 62) = .pointer (some ⟨g5, 3, none⟩) := (hF.ev 7 62 rfl rfl).trans (hF.va 7 rfl)
              have mc := (hF.below.cell (p := ⟨g5, 3, none⟩) l5).trans f3
              refine op_value (v := .int .i64 x.id) ?_ (hK _ _ _ (hF.only rfl trivial))
              clear hF hK
              generalize a.eval = ρ at *
              go_simp
            case r9 =>
              refine step_of rfl rfl ?_
              intro a wx vs fp K hF hK
              have ea : a.eval (.tmp 5) = .pointer (some ⟨g5, 0, none⟩) := hF.at_ 5 rfl
              refine op_value (v := .pointer (some ⟨g5, 4, none⟩)) ?_ (hK _ _ _ (hF.only rfl trivial))
              clear hF hK
              generalize a.eval = ρ at *
              go_simp
            case r10 =>
              refine step_of rfl rfl ?_
              intro a wx vs fp K hF hK
              have ea : a.eval (.tmp 64) = .pointer (some ⟨g5, 4, none⟩) := (hF.ev 9 64 rfl rfl).trans (hF.va 9 rfl)
              have mc := (hF.below.cell (p := ⟨g5, 4, none⟩) l5).trans f4
              refine op_value (v := .int .i64 x.qty) ?_ (hK _ _ _ (hF.only rfl trivial))
              clear hF hK
              generalize a.eval = ρ at *
              go_simp
            case r11 =>
              refine step_of rfl rfl ?_
              intro a wx vs fp K hF hK
              have e6 : a.eval (.tmp 61) = .int .i64 x.day := (hF.ev 6 61 rfl rfl).trans (hF.va 6 rfl)
              have e8 : a.eval (.tmp 63) = .int .i64 x.id := (hF.ev 8 63 rfl rfl).trans (hF.va 8 rfl)
              have e10 : a.eval (.tmp 65) = .int .i64 x.qty := (hF.ev 10 65 rfl rfl).trans (hF.va 10 rfl)
              refine op_value (v := .agg #[.int .i64 x.day, .int .i64 x.id, .int .i64 x.qty]) ?_ (hK _ _ _ (hF.only rfl trivial))
              have ec : ∀ v, a.eval (.const v) = v := fun _ => rfl
              clear hF hK
              generalize a.eval = ρ at *
              go_simp
            case r12 =>
              refine step_of rfl rfl ?_
              intro a wx vs fp K hF hK
              have e11 : a.eval (.tmp 66) = .agg #[.int .i64 x.day, .int .i64 x.id, .int .i64 x.qty] := (hF.ev 11 66 rfl rfl).trans (hF.va 11 rfl)
              refine op_value (v := .slice (some ⟨wx.heap.size, 0, none⟩) 1 1) (w' := wx.alloc (.cells #[.int .i64 x.day, .int .i64 x.id, .int .i64 x.qty] 71)) ?_ (hK _ _ _ (hF.made _ trivial ⟨_, rfl, rfl, Bl.new _ _ _⟩))
              have ec : ∀ v, a.eval (.const v) = v := fun _ => rfl
              clear hF hK
              generalize a.eval = ρ at *
              go_simp
            case r13 =>
              refine step_of rfl rfl ?_
              intro a wx vs fp K hF hK
              have hm : OwnR W7.heap.size 71 3 (j) (flat encA (os.take j)) [] (vs 4) (fp 4) wx := hF.me 4 rfl
              have hv : LitR 71 (encA ⟨x.day, x.id, x.qty⟩).toArray (1) [] (vs 12) (fp 12) wx := hF.me 12 rfl
              obtain ⟨gy, hv, hfy, hbl⟩ := hv
              have hrd : Rd wx 3 (some ⟨gy, 0, none⟩) (1) (encA ⟨x.day, x.id, x.qty⟩) := rd_bl hbl rfl
              refine op_append (.tmp 59) (.tmp 67) 65 rfl W7.heap.size 71 _ 3 24 Tryz.underlying65 infoA rfl (by decide) (vs 4) (j) (flat encA (os.take j)) (hF.ev 4 59 rfl rfl) hm.1 (some ⟨gy, 0, none⟩) (1) (1) (encA ⟨x.day, x.id, x.qty⟩) ((hF.ev 12 67 rfl rfl).trans hv) hrd (encA_one _) (by unfold maxLen; omega) (by omega) hF.below.size ?_
              intro v w' h1 h2 h3
              exact hK _ _ _ (hF.grown 4 rfl hm.2 h2 h3 (fun g hg => own_lt h1 g hg) trivial ⟨by (rw [flat_append, flat_one]; exact h1), rfl⟩)
            case r14 =>
              refine step_of rfl rfl ?_
              intro a wx vs fp K hF hK
              exact op_move rfl (hF.at_ 3 rfl) (hK _ _ _ (hF.only rfl trivial))
            case r15 =>
              refine step_of rfl rfl ?_
              intro a wx vs fp K hF hK
              exact op_move rfl (hF.at_ 6 rfl) (hK _ _ _ (hF.only rfl trivial))
            case r16 =>
              refine step_of rfl rfl ?_
              intro a wx vs fp K hF hK
              exact op_lo (size := 3) rfl Tryz.underlying65 (by kernel_rfl) ((hF.ev 14 69 rfl rfl).trans (hF.va 14 rfl)) ((hF.ev 15 70 rfl rfl).trans (hF.va 15 rfl)) (by omega) (hK _ _ _ (hF.only rfl trivial))
            case r17 =>
              refine step_of rfl rfl ?_
              intro a wx vs fp K hF hK
              have hm : OwnR W7.heap.size 71 3 (j + 1) (flat encA (os.take j ++ [⟨x.day, x.id, x.qty⟩])) [] (vs 13) (fp 13) wx := hF.me 13 rfl
              have hv : vs 16 = .slice (if d = j then B else B.map (·.add (j * 3))) (m - j) (d - j) := hF.va 16 rfl
              have hrd := HRDL.out.keep hF.below
              refine op_append (.tmp 68) (.tmp 71) 65 rfl W7.heap.size 71 _ 3 24 Tryz.underlying65 infoA rfl (by decide) (vs 13) (j + 1) (flat encA (os.take j ++ [⟨x.day, x.id, x.qty⟩])) (hF.ev 13 68 rfl rfl) hm.1 (if d = j then B else B.map (·.add (j * 3))) (m - j) (d - j) (flat encA (os.drop j)) ((hF.ev 16 71 rfl rfl).trans hv) hrd (HONE.out.2) (by unfold maxLen; omega) (by omega) hF.below.size ?_
              intro v w' h1 h2 h3
              exact hK _ _ _ (hF.grown 13 rfl hm.2 h2 h3 (fun g hg => own_lt h1 g hg) trivial ⟨by (rw [flat_append]; exact h1), rfl⟩)
            case r18 =>
              refine step_of rfl rfl ?_
              intro a wx vs fp K hF hK
              have hm : OwnR W7.heap.size 71 3 (j + 1 + (m - j)) (flat encA (os.take j ++ [⟨x.day, x.id, x.qty⟩] ++ os.drop j)) [] (vs 17) (fp 17) wx := hF.me 17 rfl
              exact op_assign rfl (hF.ev 17 72 rfl rfl) (hK _ _ _ (hF.hand 17 rfl trivial hm))
            case fin =>
              intro wz vs fp hI
              have hM : OwnR W7.heap.size 71 3 (j + 1 + (m - j)) (flat encA (os.take j ++ [⟨x.day, x.id, x.qty⟩] ++ os.drop j)) [vs 17] (vs 18) (fp 18) wz := (hI.finM 18 (by decide) rfl).1
              have hbz := hI.below
              have ho9 := own_mono hM.1 l0
              obtain ⟨B9, d9, hv9⟩ := own_slice hM.1
              rw [hv9] at ho9
              clear hI hM
              simp only [rj, number, putJ, List.map_cons, List.map_nil, if_true, Act.put, List.setIfInBounds_toArray, List.set_cons_zero, List.set_cons_succ, hv9]
              rw [show j + 1 + (m - j) = m + 1 by omega] at ho9 ⊢
              generalize vs 0 = zv0
              generalize vs 1 = zv1
              generalize vs 2 = zv2
              generalize vs 3 = zv3
              generalize vs 4 = zv4
              generalize vs 5 = zv5
              generalize vs 6 = zv6
              generalize vs 7 = zv7
              generalize vs 8 = zv8
              generalize vs 9 = zv9
              generalize vs 10 = zv10
              generalize vs 11 = zv11
              generalize vs 12 = zv12
              generalize vs 13 = zv13
              generalize vs 14 = zv14
              generalize vs 15 = zv15
              generalize vs 16 = zv16
              generalize vs 17 = zv17
              have hB9 := HB7.out.trans (hbz.mono HB7.out.size)
              have hx9 := HX7.out.keep hbz
              clear hv9 hbz HRDH HRDL HONE f2 f3 f4 l5
              go_wp2_with fail
              go_roundw
              case rel => exact ⟨k + 1, m + 1, B9, d9, _, by omega, by omega, rfl, by go_num, by show AskP _ _; rw [HTK.out]; exact HINS.out, HLN.out, ho9, hx9, hB9⟩
              case measure => simp [intOf]; omega
      · have b1 : (x.kind != 1) = true := by simpa using g1
        have HSK := Lib.hid (HAS.out.skip (x := x) g1)
        clear g1
        go_wp2_with fail
        go_roundw
        case rel => exact ⟨k + 1, m, B, d, os, by omega, by omega, rfl, by go_num, by show AskP _ _; rw [HTK.out]; exact HSK.out, HOL, HWO.out, HWX.out, HWB.out⟩
        case measure => simp [intOf]; omega
    · obtain rfl : n = k := by omega
      rw [List.take_of_length_le (by have := HL.out; omega)] at HAS
      have hd0 : decide ((n : Int) < n) = false := by simp
      have HEF := Lib.hid (HAS.out.eff fun x hx => (HF.out x hx).1)
      have hm200 : m ≤ 200 := by omega
      have HMN : Hid (m ≤ fs.length) := by have := HL.out; show m ≤ _; omega
      clear hlt HAS hmk
      go_wp2_with fail
      clear p4
      go_loopw [7] (fun i wx => ∃ (k : Nat) (os2 : List Ak), k ≤ n ∧ i = .int .i64 k ∧ Hid (EffP fs (fs.take k) os2) ∧ Hid (os2.length = m) ∧ wx.ownsRow w.heap.size 71 3 (.slice B m d) m (flat encA os2) ∧ Bl wx w.heap.size 27 #[.int .i64 q.id, .int .i64 q.vol, .int .i64 q.fr, .int .i64 q.tod, .slice A n c] ∧ RowKit.Below w.heap.size w wx) (fun i _ => n - (intOf i).toNat)
      case atStart => exact ⟨0, os, Nat.zero_le _, rfl, HEF, HOL, ho, hx, hb⟩
      case round =>
        clear HEF HOL ho hx hb os
        obtain ⟨k, os, hk, rfl, HEF, HOL, ho, hx, hb⟩ := hrel
        have p4 : wr.cell? ⟨w.heap.size, 4, none⟩ = some (.slice A n c) := hx.c4
        by_cases hlt : k < n
        · obtain ⟨b, off, x, hA, hbl, e0, e1, e2, e3, e4, HX⟩ := (h.below hb).getF hlt
          subst hA
          have hki : (k : Int) < n := by omega
          have HTK : Hid (fs.take (k + 1) = fs.take k ++ [x]) := by
            show _ = _
            rw [take_succ_get fs k (by have := HL.out; omega), HX.out]
          have HXM : Hid (0 ≤ x.qty ∧ x.qty ≤ 1000000000) := HF.out x (by have := HX.out; rw [getElem!_pos fs k (by have := HL.out; omega)] at this; rw [← this]; exact List.getElem_mem _)
          have HOB := Lib.hid (own_qty HEF.out (fun f hf => HF.out f hf) (fun f hf => (HF.out f (List.mem_of_mem_take hf)).1))
          have HST := Lib.hid (HEF.out.step (x := x) HXM.out.1)
          have HW5 := Lib.hid (Bl.new wr 47 #[.int .i64 x.num, .int .i64 x.kind, .int .i64 x.day, .int .i64 x.id, .int .i64 x.qty])
          have HWB : Hid (RowKit.Below w.heap.size w (wr.alloc (.cells #[.int .i64 x.num, .int .i64 x.kind, .int .i64 x.day, .int .i64 x.id, .int .i64 x.qty] 47))) := hb.alloc hb.size _
          have HWX := Lib.hid (hx.alloc (.cells #[.int .i64 x.num, .int .i64 x.kind, .int .i64 x.day, .int .i64 x.id, .int .i64 x.qty] 47))
          have HWO := Lib.hid (own_alloc ho (.cells #[.int .i64 x.num, .int .i64 x.kind, .int .i64 x.day, .int .i64 x.id, .int .i64 x.qty] 47))
          have hl0 := hb.size
          clear ho hx hb
          go_upto_region 16 with (fail)
          clear e0 e1 e2 e3 e4 hbl p4
          generalize wr.alloc (.cells #[.int .i64 x.num, .int .i64 x.kind, .int .i64 x.day, .int .i64 x.id, .int .i64 x.qty] 47) = W5 at *
          generalize wr.heap.size = g5 at *
          go_wp2_with fail
          go_loopw [9] (fun i wx => ∃ (j : Nat), j ≤ m ∧ i = .int .i64 j ∧ wx.ownsRow w.heap.size 71 3 (.slice B m d) m (flat encA (updTo x j os)) ∧ Bl wx g5 47 #[.int .i64 x.num, .int .i64 x.kind, .int .i64 x.day, .int .i64 x.id, .int .i64 x.qty] ∧ Bl wx w.heap.size 27 #[.int .i64 q.id, .int .i64 q.vol, .int .i64 q.fr, .int .i64 q.tod, .slice (some ⟨b, off, none⟩) n c] ∧ RowKit.Below w.heap.size w wx) (fun i _ => m - (intOf i).toNat)
          case atStart => exact ⟨0, Nat.zero_le _, rfl, by rw [updTo_zero]; exact HWO.out, HW5.out, HWX.out, HWB.out⟩
          case round =>
            clear HW5 HWB HWX HWO
            obtain ⟨j, hj, rfl, ho, hf5, hx, hb⟩ := hrel
            by_cases hlj : j < m
            · have hros : Recs encA 3 wr B m (updTo x j os) := Recs.of_own encA_len ho (by rw [updTo_len]; exact HOL.out)
              obtain ⟨b2, off2, y, hB2, hbl2, d0, d1, d2, HY⟩ := hros.getA hlj
              rw [updTo_get x j os (by have := HOL.out; omega)] at HY
              obtain ⟨hB0, hgb⟩ : off2 = 0 ∧ w.heap.size ≤ b2 := own_at0 ho hB2
              subst hB0
              subst hB2
              rw [Nat.zero_add] at d0 d1 d2
              have hji : (j : Int) < m := by omega
              have hyq : 0 ≤ y.qty ∧ y.qty ≤ 1000000000 := by have := HOB.out os[j]! (by rw [getElem!_pos os j (by have := HOL.out; omega)]; exact List.getElem_mem _); rw [HY.out] at this; exact this
              have hxq := HXM.out
              have k1 : wr.cell? ⟨g5, 1, none⟩ = some (.int .i64 x.kind) := hf5.c1
              have k3 : wr.cell? ⟨g5, 3, none⟩ = some (.int .i64 x.id) := hf5.c3
              have k4 : wr.cell? ⟨g5, 4, none⟩ = some (.int .i64 x.qty) := hf5.c4
              have hne5 := own_apart ho hf5 (by decide)
              have hneW := own_apart ho hx (by decide)
              have HUS := Lib.hid (updTo_succ x j os (by have := HOL.out; omega))
              rw [HY.out] at HUS
              have HUG : Hid ((updTo x j os)[j]! = y) := by show _ = _; rw [updTo_get x j os (by have := HOL.out; omega)]; exact HY.out
              have HUL : Hid (j < (updTo x j os).length) := by show j < _; rw [updTo_len, HOL.out]; exact hlj
              by_cases g1 : y.id = x.id
              · have b1 : (y.id != x.id) = false := by simpa using g1
                by_cases g2 : x.kind = 2
                · have b2' : (x.kind == 2) = true := by simpa using g2
                  have b3' : (x.kind == 3) = false := by simp; omega
                  have HUU : Hid (updA x y = ⟨y.day, y.id, max (y.qty - x.qty) 0⟩) := by show _ = _; unfold updA; rw [if_pos g1, if_pos g2]
                  have us : IntKind.i64.wrap (y.qty - x.qty) = y.qty - x.qty := IntWalk.i64_in _ (by omega)
                  have HNW : Hid (∀ wz : World, wz.ownsRow w.heap.size 71 3 (.slice (some ⟨b2, 0, none⟩) m d) m (flat encA (updTo x j os)) → (wz.setCell ⟨b2, j * 3 + 2, none⟩ (.int .i64 (max (y.qty - x.qty) 0))).ownsRow w.heap.size 71 3 (.slice (some ⟨b2, 0, none⟩) m d) m (flat encA (updTo x (j + 1) os))) := fun wz hz => by
                    have := own_setCell hz (i := j * 3 + 2) (by omega) (.int .i64 (max (y.qty - x.qty) 0))
                    rw [← flatA_set _ _ HUL.out HUG.out, ← HUU.out, ← HUS.out] at this
                    exact this
                  have z2 : wr.frozen? ⟨b2, j * 3 + 2, none⟩ = false := own_free ho _
                  clear g1 g2
                  go_upto_region 19 with (fail)
                  go_quiet (fail)
                  go_upto_region 21 with (fail)
                  have ho6 := own_drewN ho nq
                  have hf6 : Bl (wr.drewN nq) g5 47 #[.int .i64 x.num, .int .i64 x.kind, .int .i64 x.day, .int .i64 x.id, .int .i64 x.qty] := hf5
                  have hx6 : Bl (wr.drewN nq) w.heap.size 27 #[.int .i64 q.id, .int .i64 q.vol, .int .i64 q.fr, .int .i64 q.tod, .slice (some ⟨b, off, none⟩) n c] := hx
                  have hb6 := below_drewN hb nq
                  have d26 : (wr.drewN nq).cell? ⟨b2, j * 3 + 2, none⟩ = some (.int .i64 y.qty) := d2
                  have k46 : (wr.drewN nq).cell? ⟨g5, 4, none⟩ = some (.int .i64 x.qty) := k4
                  have k16 : (wr.drewN nq).cell? ⟨g5, 1, none⟩ = some (.int .i64 x.kind) := k1
                  have z26 : (wr.drewN nq).frozen? ⟨b2, j * 3 + 2, none⟩ = false := z2
                  clear ho hf5 hx hb d0 d1 d2 k1 k3 k4 z2 hros hbl2
                  generalize wr.drewN nq = W6 at *
                  have hne52 : g5 ≠ b2 := fun e => hne5 (by rw [e]; rfl)
                  have hneW2 : w.heap.size ≠ b2 := fun e => hneW (by rw [e]; rfl)
                  have hne53 : b2 ≠ g5 := fun e => hne52 e.symm
                  go_region
                  go_wp2_with fail
                  go_roundw
                  case rel => exact ⟨j + 1, by omega, by go_num, HNW.out W6.drew ho6, hf6.far (p := ⟨b2, j * 3 + 2, none⟩) hne52 _, hx6.far (p := ⟨b2, j * 3 + 2, none⟩) hneW2 _, hb6.drew.setCell (p := ⟨b2, j * 3 + 2, none⟩) hgb _⟩
                  case measure => simp [intOf]; omega
                · have b2' : (x.kind == 2) = false := by simpa using g2
                  by_cases g4 : x.kind = 3
                  · have b3' : (x.kind == 3) = true := by simpa using g4
                    have HUU : Hid (updA x y = ⟨y.day, y.id, 0⟩) := by show _ = _; unfold updA; rw [if_pos g1, if_neg g2, if_pos g4]
                    have HNW : Hid (∀ wz : World, wz.ownsRow w.heap.size 71 3 (.slice (some ⟨b2, 0, none⟩) m d) m (flat encA (updTo x j os)) → (wz.setCell ⟨b2, j * 3 + 2, none⟩ (.int .i64 0)).ownsRow w.heap.size 71 3 (.slice (some ⟨b2, 0, none⟩) m d) m (flat encA (updTo x (j + 1) os))) := fun wz hz => by
                      have := own_setCell hz (i := j * 3 + 2) (by omega) (.int .i64 0)
                      rw [← flatA_set _ _ HUL.out HUG.out, ← HUU.out, ← HUS.out] at this
                      exact this
                    have z2 : wr.frozen? ⟨b2, j * 3 + 2, none⟩ = false := own_free ho _
                    clear g1 g2 g4
                    go_upto_region 19 with (fail)
                    go_quiet (fail)
                    have ho6 := own_drewN ho nq
                    have hf6 : Bl (wr.drewN nq) g5 47 #[.int .i64 x.num, .int .i64 x.kind, .int .i64 x.day, .int .i64 x.id, .int .i64 x.qty] := hf5
                    have hx6 : Bl (wr.drewN nq) w.heap.size 27 #[.int .i64 q.id, .int .i64 q.vol, .int .i64 q.fr, .int .i64 q.tod, .slice (some ⟨b, off, none⟩) n c] := hx
                    have hb6 := below_drewN hb nq
                    have k16 : (wr.drewN nq).cell? ⟨g5, 1, none⟩ = some (.int .i64 x.kind) := k1
                    have d26 : (wr.drewN nq).cell? ⟨b2, j * 3 + 2, none⟩ = some (.int .i64 y.qty) := d2
                    have z26 : (wr.drewN nq).frozen? ⟨b2, j * 3 + 2, none⟩ = false := z2
                    clear ho hf5 hx hb d0 d1 d2 k1 k3 k4 z2 hros hbl2
                    generalize wr.drewN nq = W6 at *
                    have hne52 : g5 ≠ b2 := fun e => hne5 (by rw [e]; rfl)
                    have hneW2 : w.heap.size ≠ b2 := fun e => hneW (by rw [e]; rfl)
                    go_wp2_with fail
                    go_roundw
                    case rel => exact ⟨j + 1, by omega, by go_num, HNW.out W6 ho6, hf6.far (p := ⟨b2, j * 3 + 2, none⟩) hne52 _, hx6.far (p := ⟨b2, j * 3 + 2, none⟩) hneW2 _, hb6.setCell (p := ⟨b2, j * 3 + 2, none⟩) hgb _⟩
                    case measure => simp [intOf]; omega
                  · have b3' : (x.kind == 3) = false := by simpa using g4
                    have HUU : Hid (updA x y = y) := by show _ = _; unfold updA; rw [if_pos g1, if_neg g2, if_neg g4]
                    rw [HUU.out, set_same HUL.out HUG.out] at HUS
                    clear g1 g2 g4
                    go_upto_region 19 with (fail)
                    go_quiet (fail)
                    have k16 : (wr.drewN nq).cell? ⟨g5, 1, none⟩ = some (.int .i64 x.kind) := k1
                    go_wp2_with fail
                    go_roundw
                    case rel => exact ⟨j + 1, by omega, by go_num, by rw [HUS.out]; exact own_drewN ho _, hf5, hx, below_drewN hb _⟩
                    case measure => simp [intOf]; omega
              · have b1 : (y.id != x.id) = true := by simpa using g1
                have HUU : Hid (updA x y = y) := by show _ = _; unfold updA; rw [if_neg g1]
                rw [HUU.out, set_same HUL.out HUG.out] at HUS
                clear g1
                go_upto_region 19 with (fail)
                go_quiet (fail)
                go_wp2_with fail
                go_roundw
                case rel => exact ⟨j + 1, by omega, by go_num, by rw [HUS.out]; exact own_drewN ho _, hf5, hx, below_drewN hb _⟩
                case measure => simp [intOf]; omega
            · obtain rfl : j = m := by omega
              rw [show updTo x j os = os.map (updA x) by rw [← HOL.out]; exact updTo_all x os] at ho
              have hd0 : decide ((j : Int) < j) = false := by simp
              clear hlj
              go_wp2_with fail
              go_roundw
              case rel => exact ⟨k + 1, _, by omega, by go_num, by show EffP _ _ _; rw [HTK.out]; exact HST.out, by show _ = _; rw [List.length_map]; exact HOL.out, ho, hx, hb⟩
              case measure => simp [intOf]; omega
        · obtain rfl : n = k := by omega
          rw [List.take_of_length_le (by have := HL.out; omega)] at HEF
          have hd0 : decide ((n : Int) < n) = false := by simp
          clear hlt
          go_wp2
          go_ret
          exact ⟨B, m, d, os, rfl, HEF.out, HOL.out, HMN.out, ho, hb⟩
end Go.Proofs.YtemhiifgplaldaaGreat

/-
  The law BookSum: it returns true. Conditions: the list reads as integers, its length is at most its capacity.
-/
import Derived.Test.YtemhiifgplaldaaMR
import Derived.Test.YtemhiifgplaldaaMS
namespace Go.Proofs.Ytemhiifgplaldaa
open Go.RowKit
set_option linter.unusedVariables false

theorem trOf_take (l : List Fct) (k : Nat) (h : k < l.length) : trAll (trOf (l.take (k + 1))) = trAll (trOf (l.take k)) + if l[k]!.kind = 4 then l[k]!.qty else 0 := by
  rw [take_succ_get l k h]
  generalize l[k]! = x
  unfold trAll trOf
  rw [List.filter_append, List.map_append, List.sum_append]
  by_cases e : x.kind = 4 <;> simp [e]
theorem tr_bounds {q : Qt} {l : List Fct} (h : QF q l) (k : Nat) : 0 ≤ trAll (trOf (l.take k)) ∧ trAll (trOf (l.take k)) ≤ 24000000000 := by
  have h1 := trAll_bounds (ys := trOf (l.take k)) fun y hy => by
    have hm := List.mem_of_mem_take (List.mem_filter.1 hy).1
    have := h.each y hm
    have h2 := (fErr_zero this.1).1
    unfold FOk at h2
    omega
  have h2 : (trOf (l.take k)).length ≤ 24 := by
    have h3 := List.length_filter_le (fun f : Fct => f.kind == 4) (l.take k)
    have h4 : (l.take k).length ≤ l.length := by rw [List.length_take]; omega
    have := h.len
    unfold trOf
    omega
  have h3 : ((trOf (l.take k)).length : Int) ≤ 24 := by omega
  omega
theorem gr_take (gs : List Rq) (k : Nat) (h : k < gs.length) : ((gs.take (k + 1)).map (·.grant)).sum = ((gs.take k).map (·.grant)).sum + gs[k]!.grant := by
  rw [List.take_succ_eq_append_getElem h, List.map_append, List.sum_append, getElem!_pos gs k h]
  simp
theorem gr_bounds {gs : List Rq} (h : ∀ g ∈ gs, 0 ≤ g.grant ∧ g.grant ≤ 1000000000) (hl : gs.length ≤ 200) (k : Nat) : 0 ≤ ((gs.take k).map (·.grant)).sum ∧ ((gs.take k).map (·.grant)).sum ≤ 200000000000 := by
  have key : ∀ us : List Rq, (∀ g ∈ us, 0 ≤ g.grant ∧ g.grant ≤ 1000000000) → 0 ≤ (us.map (·.grant)).sum ∧ (us.map (·.grant)).sum ≤ (us.length : Int) * 1000000000 := by
    intro us
    induction us with
    | nil => intro _; simp
    | cons u us ih =>
      intro hu
      have h1 := ih fun g hg => hu g (List.mem_cons_of_mem _ hg)
      have h2 := hu u (List.mem_cons_self ..)
      simp
      omega
  have h1 := key (gs.take k) fun g hg => h g (List.mem_of_mem_take hg)
  have h2 : (gs.take k).length ≤ 200 := by rw [List.length_take]; omega
  have h3 : ((gs.take k).length : Int) ≤ 200 := by omega
  omega

set_option maxRecDepth 100000 in
set_option maxHeartbeats 8000000 in
theorem bookSum_any (A : Option Addr) (n c : Nat) (xs : List Int) (w : World) (h : Ints w A n xs) (hnc : n ≤ c) (hcm : c ≤ 9223372036854775807) :
    Calls Try.prog 6 #[.slice A n c] w (BRes w true) := by
  have HAW := Lib.hid awake22_any
  have HQF := Lib.hid (quotaFacts_any A n c xs w h hnc hcm)
  clear h hnc hcm
  go_enter Try.func6, Try.ntmps6
  go_wp2_with fail
  refine HQF.out.mono ?_
  rintro e w1 ⟨q, l, B1, n1, d1, rfl, hqf, hl1, ho1, hb1⟩
  have HF := Lib.hid hqf
  have HL := Lib.hid hl1
  have hn24 : n1 ≤ 24 := by have := hqf.len; omega
  have hx1 := Bl.new w1 23 #[.int .i64 q.id, .int .i64 q.vol, .int .i64 q.fr, .int .i64 q.tod]
  have hB1 : RowKit.Below w.heap.size w (w1.alloc (.cells #[.int .i64 q.id, .int .i64 q.vol, .int .i64 q.fr, .int .i64 q.tod] 23)) := hb1.alloc hb1.size _
  have hr1 := (Recs.of_own encF_len ho1 hl1).alloc (.cells #[.int .i64 q.id, .int .i64 q.vol, .int .i64 q.fr, .int .i64 q.tod] 23)
  have hqv := qOk_yes hqf.qok
  obtain ⟨qv1, qv2, qv3, qv4, qv5, qv6, qv7⟩ := hqv
  clear hqf hl1 ho1 hb1 HQF
  go_upto_region 2 with (fail)
  generalize w1.alloc (.cells #[.int .i64 q.id, .int .i64 q.vol, .int .i64 q.fr, .int .i64 q.tod] 23) = W1 at *
  generalize w1.heap.size = g3 at *
  have HR1 := Lib.hid hr1
  have HLA := Lib.hid (lapply_any q B1 n1 d1 l W1 hr1 (by omega) HF.out.qok (fun x hx => (HF.out.each x hx).1) HF.out.nodup)
  clear hr1
  have p0 : W1.cell? ⟨g3, 0, none⟩ = some (.int .i64 q.id) := hx1.cell 0
  have p1 : W1.cell? ⟨g3, 1, none⟩ = some (.int .i64 q.vol) := hx1.cell 1
  have p2 : W1.cell? ⟨g3, 2, none⟩ = some (.int .i64 q.fr) := hx1.cell 2
  have p3 : W1.cell? ⟨g3, 3, none⟩ = some (.int .i64 q.tod) := hx1.cell 3
  go_wp2_with fail
  refine HLA.out.mono ?_
  rintro e w2 ⟨fs, B2, d2, rfl, hbo, hpm, hfr, hb2⟩
  have HBO := Lib.hid hbo
  have HPM := Lib.hid hpm
  have hx2 := (hx1.keep hb2).alloc (.cells #[.int .i64 q.id, .int .i64 q.vol, .int .i64 q.fr, .int .i64 q.tod, .slice B2 n1 d2] 26)
  have hy2 := Bl.new w2 26 #[.int .i64 q.id, .int .i64 q.vol, .int .i64 q.fr, .int .i64 q.tod, .slice B2 n1 d2]
  have hB2 : RowKit.Below w.heap.size w (w2.alloc (.cells #[.int .i64 q.id, .int .i64 q.vol, .int .i64 q.fr, .int .i64 q.tod, .slice B2 n1 d2] 26)) := (hB1.trans (hb2.mono hB1.size)).alloc (Nat.le_trans hB1.size hb2.size) _
  have HFR := Lib.hid (hfr.below ((Below.refl _ _).alloc (Nat.le_refl _) (.cells #[.int .i64 q.id, .int .i64 q.vol, .int .i64 q.fr, .int .i64 q.tod, .slice B2 n1 d2] 26)))
  have HR2 := Lib.hid ((HR1.out.below hb2).alloc (.cells #[.int .i64 q.id, .int .i64 q.vol, .int .i64 q.fr, .int .i64 q.tod, .slice B2 n1 d2] 26))
  clear p0 p1 p2 p3 hx1 hB1 hb2 hbo hpm hfr HLA HR1
  go_upto_region 3 with (fail)
  generalize w2.alloc (.cells #[.int .i64 q.id, .int .i64 q.vol, .int .i64 q.fr, .int .i64 q.tod, .slice B2 n1 d2] 26) = W2 at *
  generalize w2.heap.size = g5 at *
  have HBA := Lib.hid (fun wx (hb : RowKit.Below W2.heap.size W2 wx) => balance_any q B2 n1 d2 fs wx (HFR.out.recs.below hb) HBO.out)
  have HGR := Lib.hid (fun wx (hb : RowKit.Below W2.heap.size W2 wx) => grants_any q B2 n1 d2 fs wx (HFR.out.recs.below hb) HBO.out)
  have c1 : W2.cell? ⟨g3, 1, none⟩ = some (.int .i64 q.vol) := hx2.cell 1
  go_wp2_with fail
  go_loopw [7, 8] (fun t i wx => ∃ k : Nat, k ≤ n1 ∧ t = .int .i64 (q.vol + trAll (trOf (l.take k))) ∧ i = .int .i64 k ∧ RowKit.Below W2.heap.size W2 wx) (fun _ i _ => n1 - (intOf i).toNat)
  case atStart => exact ⟨0, Nat.zero_le _, by simp [trAll, trOf], rfl, Below.refl _ _⟩
  case round =>
    clear c1
    obtain ⟨k, hk, rfl, rfl, hb⟩ := hrel
    have HTB := Lib.hid (tr_bounds HF.out k)
    by_cases hlt : k < n1
    · obtain ⟨b, off, x, hA, hbl, c0, c1, c2, c3, c4, HX⟩ := (HR2.out.below hb).getF hlt
      subst hA
      have hki : (k : Int) < n1 := by omega
      have HTK := Lib.hid (trOf_take l k (by have := HL.out; omega))
      rw [HX.out] at HTK
      have tb1 := HTB.out.1
      have tb2 := HTB.out.2
      have HTB2 := Lib.hid (tr_bounds HF.out (k + 1))
      generalize trAll (trOf (l.take k)) = t0 at *
      by_cases g : x.kind = 4
      · have b4 : (x.kind == 4) = true := by simpa using g
        rw [if_pos g] at HTK
        have hq1 : 0 ≤ t0 + x.qty := by have := HTB2.out.1; rw [HTK.out] at this; exact this
        have hq2 : t0 + x.qty ≤ 24000000000 := by have := HTB2.out.2; rw [HTK.out] at this; exact this
        clear g
        go_wp2_with fail
        go_roundw
        case rel => exact ⟨k + 1, by omega, by rw [HTK.out, ← Int.add_assoc], by go_num, hb⟩
        case measure => simp [intOf]; omega
      · have b4 : (x.kind == 4) = false := by simpa using g
        rw [if_neg g, Int.add_zero] at HTK
        clear g
        go_wp2_with fail
        go_roundw
        case rel => exact ⟨k + 1, by omega, by rw [HTK.out], by go_num, hb⟩
        case measure => simp [intOf]; omega
    · obtain rfl : n1 = k := by omega
      rw [List.take_of_length_le (by have := HL.out; omega)] at HTB ⊢
      have HTE : Hid (trAll (trOf l) = trAll (trOf fs)) := (trAll_perm (HPM.out.filter _)).symm
      have tb1 := HTB.out.1
      have tb2 := HTB.out.2
      generalize trAll (trOf l) = T at *
      have hy3 := hy2.keep hb
      have y0 : wr.cell? ⟨g5, 0, none⟩ = some (.int .i64 q.id) := hy3.c0
      have y1 : wr.cell? ⟨g5, 1, none⟩ = some (.int .i64 q.vol) := hy3.c1
      have y2 : wr.cell? ⟨g5, 2, none⟩ = some (.int .i64 q.fr) := hy3.c2
      have y3 : wr.cell? ⟨g5, 3, none⟩ = some (.int .i64 q.tod) := hy3.c3
      have y4 : wr.cell? ⟨g5, 4, none⟩ = some (.slice B2 n1 d2) := hy3.c4
      have hB3 := hB2.trans (hb.mono hB2.size)
      clear hlt
      go_wp2_with fail
      refine (HGR.out _ hb).mono ?_
      rintro e w3 ⟨C, m, dc, gs, bal, rfl, hst, hgl, hm200, hog, hb3⟩
      have HST := Lib.hid hst
      have HLW := Lib.hid (hst.law HBO.out.good.ok HBO.out.good.ids HBO.out.good.v0)
      have HGL := Lib.hid hgl
      have hrg : Recs enc2 2 w3 C m (grs gs) := Recs.of_own enc2_len hog (by rw [grs_len, hgl])
      have hB4 := hB3.trans (hb3.mono hB3.size)
      have hbW := hb.trans (hb3.mono hb.size)
      have HGB := Lib.hid (gr_bounds (gs := gs) (fun g hg => by have := HLW.out.each g hg; omega) (by omega))
      clear y0 y1 y2 y3 y4 hst hgl hog hy3 hb3 hb hB3
      go_wp2_with fail
      go_loopw [10, 11] (fun t i wx => ∃ k : Nat, k ≤ m ∧ t = .int .i64 ((gs.take k).map (·.grant)).sum ∧ i = .int .i64 k ∧ RowKit.Below w3.heap.size w3 wx) (fun _ i _ => m - (intOf i).toNat)
      case atStart => exact ⟨0, Nat.zero_le _, by simp, rfl, Below.refl _ _⟩
      case round =>
        obtain ⟨k, hk, rfl, rfl, hb⟩ := hrel
        have HSB := Lib.hid (HGB.out k)
        by_cases hlt : k < m
        · obtain ⟨b, off, x, y, hA, hbl, c1, c2, HX⟩ := (hrg.below hb).get2 hlt
          subst hA
          have hki : (k : Int) < m := by omega
          have HXG : Hid (gs[k]!.grant = y) := by
            have := HX.out
            unfold grs at this
            rw [getElem!_pos _ k (by simp; have := HGL.out; omega), List.getElem_map] at this
            injection this with _ h2
            show _ = _
            rw [getElem!_pos gs k (by have := HGL.out; omega)]; exact h2
          have HTK := Lib.hid (gr_take gs k (by have := HGL.out; omega))
          rw [HXG.out] at HTK
          have hy0 : 0 ≤ y ∧ y ≤ 1000000000 := by
            have := HLW.out.each gs[k]! (by rw [getElem!_pos gs k (by have := HGL.out; omega)]; exact List.getElem_mem _)
            have h2 := HXG.out
            omega
          have hyn : decide (y < 0) = false := by simp; omega
          have s1 := HSB.out.1
          have s2 := HSB.out.2
          generalize ((gs.take k).map (·.grant)).sum = s0 at *
          go_wp2_with fail
          go_roundw
          case rel => exact ⟨k + 1, by omega, by rw [HTK.out], by go_num, hb⟩
          case measure => simp [intOf]; omega
        · obtain rfl : m = k := by omega
          rw [List.take_of_length_le (by have := HGL.out; omega)] at HSB ⊢
          have s1 := HSB.out.1
          have s2 := HSB.out.2
          have HSUM := Lib.hid HLW.out.sum
          generalize (gs.map (·.grant)).sum = s0 at *
          have hbX := hbW.trans (hb.mono hbW.size)
          have hB5 := hB4.trans (hb.mono hB4.size)
          have hy3 := hy2.keep hbX
          have y0 : wr.cell? ⟨g5, 0, none⟩ = some (.int .i64 q.id) := hy3.c0
          have y1 : wr.cell? ⟨g5, 1, none⟩ = some (.int .i64 q.vol) := hy3.c1
          have y2 : wr.cell? ⟨g5, 2, none⟩ = some (.int .i64 q.fr) := hy3.c2
          have y3 : wr.cell? ⟨g5, 3, none⟩ = some (.int .i64 q.tod) := hy3.c3
          have y4 : wr.cell? ⟨g5, 4, none⟩ = some (.slice B2 n1 d2) := hy3.c4
          clear hlt
          go_wp2_with fail
          refine (HBA.out _ hbX).mono ?_
          rintro e w4 ⟨gs2, bal2, rfl, hst2, hb4⟩
          have hu := (HST.out.unique hst2).2
          subst hu
          have hbal : 0 ≤ bal := HLW.out.bal0
          have hE : s0 + bal = q.vol + T := by rw [HTE.out]; exact HSUM.out
          have hbb : (s0 + bal == q.vol + T) = true := by simpa using hE
          have hbl2 : bal ≤ 400000000000 := by omega
          have hge : decide (0 ≤ bal) = true := by simpa using hbal
          have hB6 := hB5.trans (hb4.mono hB5.size)
          clear hE hst2
          go_wp2_with fail
          refine (HAW.out _).mono ?_
          rintro e w5 ⟨rfl, hb5⟩
          go_wp2
          go_ret
          exact ⟨rfl, hB6.trans (hb5.mono hB6.size)⟩
end Go.Proofs.Ytemhiifgplaldaa

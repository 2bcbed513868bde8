/-
  The contract of quotabook.requestsOf. No statement of the seat is proved here. Conditions: at most 1000 facts whose numbers are small.
  Contracts of quota.Validate and of the reference's ValidRequests: the first error of a list of requests. No statement of the seat is proved here. Conditions: the list's length fits an int.
  Contracts of apportion.Cap and apportion.Spread, and of slices.Clone at integers. No statement of the seat is proved here. Conditions: lengths fit an int.
  Contract of quota.Allocate: a grant for each request and what is left, or an error. No statement of the seat is proved here. Conditions: the list's length fits an int.
-/
import Derived.Test.YtdbcbbiplkikcaaGreatNAF
import Derived.Test.YtdbcbbiplkikcaaGreatNAA
import Derived.Test.YtdbcbbiplkikcaaGreatNAE
import Derived.Deep.DeepCutAuto
namespace Go.Proofs.YtdbcbbiplkikcaaGreat
open Go.RowKit Go.Maps
set_option linter.unusedVariables false

structure ReqList (fs : List Fct) (rs : List Rq) : Prop where
  nodup : (rs.map (·.id)).Nodup
  mem : ∀ id : Int, (∃ r ∈ rs, r.id = id) ↔ (askOf fs id).isSome = true
  val : ∀ r ∈ rs, r = rqOf fs r.id
  srt : ∀ i j, i < j → j < rs.length → (rs[i]!.day < rs[j]!.day ∨ (rs[i]!.day = rs[j]!.day ∧ rs[i]!.id < rs[j]!.id))
theorem nodup_get {rs : List Rq} (h : (rs.map (·.id)).Nodup) {i j : Nat} (hij : i < j) (hj : j < rs.length) : rs[i]!.id ≠ rs[j]!.id := by
  rw [getElem!_pos rs i (by omega), getElem!_pos rs j hj]
  have := List.pairwise_iff_getElem.1 h i j (by simp; omega) (by simpa using hj) hij
  simpa using this
theorem reqList_of {fs : List Fct} {rs rs' : List Rq} {left : Lit → Bool} (h : Coll fs rs left) (hl : ∀ kl, left kl = false) (hp : rs'.Perm rs) (hs : ∀ i j, i < j → j < rs.length → Go.Proofs.ltOf cmpR rs'[j]! rs'[i]! = false) : ReqList fs rs' := by
  have hn : (rs'.map (·.id)).Nodup := (hp.map (·.id)).nodup_iff.2 h.nodup
  refine ⟨hn, fun id => ?_, fun r hr => h.val r (hp.mem_iff.1 hr), fun i j hij hj => ?_⟩
  · rw [← show ((askOf fs id).isSome = true ∧ left (.int .i64 id) = false) ↔ (askOf fs id).isSome = true from ⟨fun x => x.1, fun x => ⟨x, hl _⟩⟩, ← h.mem id]
    constructor
    · rintro ⟨r, hr, e⟩; exact ⟨r, hp.mem_iff.1 hr, e⟩
    · rintro ⟨r, hr, e⟩; exact ⟨r, hp.mem_iff.2 hr, e⟩
  · have h1 := hs i j hij (by rw [← hp.length_eq]; exact hj)
    rw [ltR] at h1
    have h2 := nodup_get hn hij hj
    have h3 := of_decide_eq_false h1
    omega
def ReqRes (w : World) (fs : List Fct) (e : Ending) (w' : World) : Prop := ∃ (B : Option Addr) (m d : Nat) (rs : List Rq), e = .returned (.slice B m d) ∧ rs.length = m ∧ m ≤ fs.length ∧ ReqList fs rs ∧ w'.ownsRow w.heap.size 264 6 (.slice B m d) m (flat encR rs) ∧ RowKit.Below w.heap.size w w'

set_option maxRecDepth 100000 in
set_option maxHeartbeats 8000000 in
theorem requestsOf_any (A : Option Addr) (n c : Nat) (fs : List Fct) (w : World) (h : Recs encF 5 w A n fs) (hn : n ≤ 1000) (hf : ∀ x ∈ fs, FOk x) :
    Calls Tryz.prog 173 #[.slice A n c] w (ReqRes w fs) := by
  have HL := Lib.hid h.1
  have HF := Lib.hid hf
  have hmm := @run_makeMap Tryz.prog
  have HM0 := Lib.hid (Own3.made w)
  have HB0 : Hid (RowKit.Below w.heap.size w (((w.alloc (.map #[] 0)).alloc (.map #[] 0)).alloc (.map #[] 0))) := (((Below.refl _ _).alloc (Nat.le_refl _) _).alloc (by simp) _).alloc (by simp; omega) _
  clear hf
  go_enter Tryz.func173, Tryz.ntmps173
  go_wp2
  clear hmm
  go_loopw [19] (fun i wx => ∃ (k : Nat) (D1 D2 D3 : DataW Unit), k ≤ n ∧ i = .int .i64 k ∧ Own3 wx w.heap.size k D1 D2 D3 ∧ Hid (Maps3 (fs.take k) D1 D2 D3) ∧ w.heap.size + 3 ≤ wx.heap.size ∧ RowKit.Below w.heap.size w wx) (fun i _ => n - (intOf i).toNat)
  case atStart => exact ⟨0, _, _, _, Nat.zero_le _, rfl, HM0.out, Maps3.start, by simp, HB0.out⟩
  case round =>
    clear HM0 HB0
    obtain ⟨k, D1, D2, D3, hk, rfl, hO, HM, hsz, hb⟩ := hrel
    by_cases hlt : k < n
    · obtain ⟨b, off, x, hA, hbl, c0, c1, c2, c3, c4, HX⟩ := (h.below hb).getF hlt
      subst hA
      have HTK : Hid (fs.take (k + 1) = fs.take k ++ [x]) := by
        show _ = _
        rw [take_succ_get fs k (by have := HL.out; omega), HX.out]
      have hok : FOk x := by
        have := HF.out fs[k]! (by rw [getElem!_pos fs k (by have := HL.out; omega)]; exact List.getElem_mem _)
        rwa [HX.out] at this
      unfold FOk at hok
      obtain ⟨o1, o2, o3, o4, o5, o6, o7, o8, o9, o10⟩ := hok
      have HKEY : Hid (keyOf Tryz.prog 3 (.int .i64 x.id) = some (.int .i64 x.id)) := keyOf_int_mk Tryz.underlying3 (wf_small (by omega) (by omega))
      have HRB := Lib.hid (ret_bounds (fs := fs.take k) (fun y hy => HF.out y (List.mem_of_mem_take hy)) x.id)
      have hb4 : RowKit.Below w.heap.size w (wr.alloc (.cells #[.int .i64 x.num, .int .i64 x.kind, .int .i64 x.day, .int .i64 x.id, .int .i64 x.qty] 122)) := hb.alloc hb.size _
      have hx4 := Bl.new wr 122 #[.int .i64 x.num, .int .i64 x.kind, .int .i64 x.day, .int .i64 x.id, .int .i64 x.qty]
      have HO4 := Lib.hid (hO.alloc (.cells #[.int .i64 x.num, .int .i64 x.kind, .int .i64 x.day, .int .i64 x.id, .int .i64 x.qty] 122))
      have hs4 : w.heap.size + 3 ≤ (wr.alloc (.cells #[.int .i64 x.num, .int .i64 x.kind, .int .i64 x.day, .int .i64 x.id, .int .i64 x.qty] 122)).heap.size := by simp; omega
      clear hO
      go_upto_region 7 with (fail)
      clear c0 c1 c2 c3 c4
      have hgw := hb.size
      generalize wr.alloc (.cells #[.int .i64 x.num, .int .i64 x.kind, .int .i64 x.day, .int .i64 x.id, .int .i64 x.qty] 122) = W4 at *
      generalize wr.heap.size = g4 at *
      have q0 : W4.cell? ⟨g4, 0, none⟩ = some (.int .i64 x.num) := hx4.cell 0
      have q1 : W4.cell? ⟨g4, 1, none⟩ = some (.int .i64 x.kind) := hx4.cell 1
      have q2 : W4.cell? ⟨g4, 2, none⟩ = some (.int .i64 x.day) := hx4.cell 2
      have q3 : W4.cell? ⟨g4, 3, none⟩ = some (.int .i64 x.id) := hx4.cell 3
      have q4 : W4.cell? ⟨g4, 4, none⟩ = some (.int .i64 x.qty) := hx4.cell 4
      have l4 := hx4.lt
      clear hb hbl
      rcases (show x.kind = 1 ∨ x.kind = 2 ∨ x.kind = 3 ∨ x.kind = 4 by omega) with hkd | hkd | hkd | hkd
      · have b1 : (x.kind == 1) = true := by simpa using hkd
        obtain ⟨hs, hhs⟩ : ∃ b, Maps.has D1 (.int .i64 x.id) = b := ⟨_, rfl⟩
        have HHS := Lib.hid hhs
        have HKD := Lib.hid hkd
        cases hs
        · have HP : Hid (Maps3 (fs.take (k + 1)) (D1.put (.int .i64 x.id) (fctD x)) D2 D3) := by
            show Maps3 _ _ _ _
            rw [HTK.out]
            refine HM.out.asked HO4.out.1.isMap HKD.out ?_
            have := HM.out.ask x.id
            rw [HHS.out] at this
            cases e : askOf (fs.take k) x.id
            · rfl
            · rw [e] at this; cases this
          clear hkd HKD
          go_wp2_with (first
            | (at_lookup; refine wpList_lookup_own_fct _ rfl _ _ 293 rfl 3 122 klawI Tryz.underlying293 (zeroF _) w.heap.size k _ rfl HO4.out.1 _ _ rfl HKEY.out ?_; intro cc)
            | (at_mapUpdate; refine wpList_mapUpdate_own _ rfl _ _ _ 293 rfl 3 122 klawI Tryz.underlying293 _ w.heap.size k _ rfl (HO4.out.1.alloc (.cells #[.int .i64 cc.num, .int .i64 cc.kind, .int .i64 cc.day, .int .i64 cc.id, .int .i64 cc.qty] 122)) (by unfold maxLen; omega) _ _ _ rfl rfl HKEY.out _ [] (fctElem_mk x) ?_; intro w6 ho6 hg6))
          have HO6 := Lib.hid ((HO4.out.alloc (.cells #[.int .i64 cc.num, .int .i64 cc.kind, .int .i64 cc.day, .int .i64 cc.id, .int .i64 cc.qty] 122)).up1 ho6 hg6)
          have HB6 : Hid (RowKit.Below w.heap.size w w6) := (hb4.alloc hb4.size _).grown hg6 (by simp; omega) (fun j hj => by cases hj; exact Nat.le_refl _)
          have HS6 : Hid (w.heap.size + 3 ≤ w6.heap.size) := by have := hg6.size; simp at this; show _ ≤ _; omega
          clear ho6 hg6
          go_roundw
          case rel => exact ⟨k + 1, _, _, _, by omega, by go_num, HO6.out, HP, HS6.out, HB6.out⟩
          case measure => simp [intOf]; omega
        · have HP : Hid (Maps3 (fs.take (k + 1)) D1 D2 D3) := by
            show Maps3 _ _ _ _
            rw [HTK.out]
            refine HM.out.skip (fun _ => ?_) (by rw [HKD.out]; omega) (by rw [HKD.out]; omega)
            rw [← HM.out.ask x.id, HHS.out]
          clear hkd HKD
          go_wp2_with (first
            | (at_lookup; refine wpList_lookup_own_fct _ rfl _ _ 293 rfl 3 122 klawI Tryz.underlying293 (zeroF _) w.heap.size k _ rfl HO4.out.1 _ _ rfl HKEY.out ?_; intro cc)
            | fail)
          go_roundw
          case rel => exact ⟨k + 1, D1, D2, D3, by omega, by go_num, (HO4.out.alloc _).mono (by omega), HP, by simp; omega, hb4.alloc hb4.size _⟩
          case measure => simp [intOf]; omega
      · have b1 : (x.kind == 1) = false := by simp; omega
        have b2 : (x.kind == 2) = true := by simpa using hkd
        have HP : Hid (Maps3 (fs.take (k + 1)) D1 (D2.put (.int .i64 x.id) (.lit (.int .i64 (retOf (fs.take k) x.id + x.qty)))) D3) := by
          show Maps3 _ _ _ _
          rw [HTK.out]
          exact HM.out.returned HO4.out.2.1.isMap hkd
        have hr0 := HRB.out.1
        have hr1 : retOf (fs.take k) x.id ≤ 1000000000000 := by
          have h1 := HRB.out.2
          have h2 : (fs.take k).length ≤ 1000 := by rw [List.length_take]; omega
          have h3 : ((fs.take k).length : Int) ≤ 1000 := by omega
          omega
        have HRE := Lib.hid (HM.out.ret x.id)
        generalize retOf (fs.take k) x.id = rv at *
        clear hkd
        go_wp2_with (first
          | (at_lookup; refine wpList_lookup_own_int _ rfl _ _ 260 rfl 3 3 .i64 klawI Tryz.underlying260 Tryz.underlying3 (zeroI _) (w.heap.size + 1) k _ rfl HO4.out.2.1 _ _ rfl HKEY.out ?_; intro c9 hat hwc; obtain rfl : rv = c9 := lit_eq (HRE.out.symm.trans hat); clear hat hwc)
          | (at_mapUpdate; refine wpList_mapUpdate_own _ rfl _ _ _ 260 rfl 3 3 klawI Tryz.underlying260 _ (w.heap.size + 1) k _ rfl HO4.out.2.1 (by unfold maxLen; omega) _ _ _ rfl rfl HKEY.out _ [] (plainElem_int Tryz.underlying3 (wf_small (by omega) (by omega))) ?_; intro w6 ho6 hg6))
        have HO6 := Lib.hid (HO4.out.up2 ho6 hg6)
        have HB6 : Hid (RowKit.Below w.heap.size w w6) := hb4.grown hg6 hb4.size (fun j hj => by cases hj; omega)
        have HS6 : Hid (w.heap.size + 3 ≤ w6.heap.size) := Nat.le_trans hs4 hg6.size
        clear ho6 hg6
        go_roundw
        case rel => exact ⟨k + 1, _, _, _, by omega, by go_num, HO6.out, HP, HS6.out, HB6.out⟩
        case measure => simp [intOf]; omega
      · have b1 : (x.kind == 1) = false := by simp; omega
        have b2 : (x.kind == 2) = false := by simp; omega
        have b3 : (x.kind == 3) = true := by simpa using hkd
        have HP : Hid (Maps3 (fs.take (k + 1)) D1 D2 (D3.put (.int .i64 x.id) (.lit (.bool true)))) := by
          show Maps3 _ _ _ _
          rw [HTK.out]
          exact HM.out.withdrawn HO4.out.2.2.isMap hkd
        clear hkd
        go_wp2_with (first
          | (at_mapUpdate; refine wpList_mapUpdate_own _ rfl _ _ _ 294 rfl 3 4 klawI Tryz.underlying294 _ (w.heap.size + 2) k _ rfl HO4.out.2.2 (by unfold maxLen; omega) _ _ _ rfl rfl HKEY.out _ [] (plainElem_bool Tryz.underlying4 true) ?_; intro w6 ho6 hg6)
          | fail)
        have HO6 := Lib.hid (HO4.out.up3 ho6 hg6)
        have HB6 : Hid (RowKit.Below w.heap.size w w6) := hb4.grown hg6 hb4.size (fun j hj => by cases hj; omega)
        have HS6 : Hid (w.heap.size + 3 ≤ w6.heap.size) := Nat.le_trans hs4 hg6.size
        clear ho6 hg6
        go_roundw
        case rel => exact ⟨k + 1, _, _, _, by omega, by go_num, HO6.out, HP, HS6.out, HB6.out⟩
        case measure => simp [intOf]; omega
      · have b1 : (x.kind == 1) = false := by simp; omega
        have b2 : (x.kind == 2) = false := by simp; omega
        have b3 : (x.kind == 3) = false := by simp; omega
        have HP : Hid (Maps3 (fs.take (k + 1)) D1 D2 D3) := by
          show Maps3 _ _ _ _
          rw [HTK.out]
          exact HM.out.skip (fun e => by omega) (by omega) (by omega)
        clear hkd
        go_wp2_with fail
        go_roundw
        case rel => exact ⟨k + 1, D1, D2, D3, by omega, by go_num, HO4.out.mono (by omega), HP, hs4, hb4⟩
        case measure => simp [intOf]; omega
    · obtain rfl : n = k := by omega
      rw [List.take_of_length_le (by have := HL.out; omega)] at HM
      clear hlt hk
      have HO2 := Lib.hid hO
      go_wp2_with (first
        | (at_range; refine wpList_range_own _ rfl _ 293 rfl 3 122 klawI Tryz.underlying293 _ w.heap.size n _ rfl HO2.out.1 ?_; intro w0 hrg0 hg0 hs0)
        | fail)
      go_frame
      have HB0 : Hid (RowKit.Below w.heap.size w w0) := hb.grown hg0 hb.size (fun j hj => by cases hj)
      have HO0 := Lib.hid (HO2.out.kept hg0 (fun j hj => by cases hj))
      have HSZ : Hid (Maps.size D1 ≤ n) := HO2.out.1.size_le
      have hr3 : w.heap.size + 3 ≤ wr.heap.size := hsz
      have hr4 : wr.heap.size + 1 ≤ w0.heap.size := by omega
      generalize wr.heap.size = rb at *
      clear hO HO2 hg0 hs0 hb
      go_loopw [10] (fun v wx => ∃ (left : Lit → Bool) (cnt : Nat) (B : Option Addr) (m d : Nat) (rs : List Rq), v = .slice B m d ∧ wx.ranges Tryz.prog 3 fctElem w.heap.size rb n D1 left cnt ∧ wx.ownsMap Tryz.prog 3 (plainElem Tryz.prog 3) (w.heap.size + 1) n D2 ∧ wx.ownsMap Tryz.prog 3 (plainElem Tryz.prog 4) (w.heap.size + 2) n D3 ∧ Hid (Coll fs rs left) ∧ Hid (rs.length = m) ∧ m + cnt ≤ n ∧ wx.ownsRow w0.heap.size 264 6 (.slice B m d) m (flat encR rs) ∧ w0.heap.size ≤ wx.heap.size ∧ RowKit.Below w.heap.size w wx) (fun _ wx => wx.rangeLeft w.heap.size rb)
      case atStart => exact ⟨_, _, none, 0, 0, [], rfl, hrg0, HO0.out.2.1, HO0.out.2.2, Coll.start (fun id => HM.out.ask id), rfl, by have := HSZ.out; omega, own_nilR _ _, Nat.le_refl _, HB0.out⟩
      case round =>
        clear hrg0 HO0 HB0 HSZ
        obtain ⟨left, cnt, B, m, d, rs, rfl, hrg, hm2, hm3, HC, HRL, hmc, ho, hws, hb⟩ := hrel
        have hrgL := Lib.hid hrg.left_eq
        go_wp2_with (first
          | (at_next; refine wpList_next_fct _ rfl _ rfl 3 klawI Tryz.underlying3 w.heap.size rb n _ _ _ rfl hrg ?_ ?_)
          | fail)
        · intro _ hl0
          have HL0 := Lib.hid hl0
          have HS := Lib.hid (sortR_any B m d w0.heap.size rs wr ho HRL.out (by omega) hws)
          have hww : w.heap.size ≤ w0.heap.size := by omega
          clear hl0 hrg hm2 hm3 ho hrgL
          go_wp2_with fail
          refine HS.out.mono ?_
          rintro e w1 ⟨rfl, rs', hp, hs, ho1, hb1⟩
          have HRQ := Lib.hid (reqList_of HC.out HL0.out hp (fun i j h1 h2 => hs i j h1 (by rw [← HRL.out]; exact h2)))
          have HPL : Hid (rs'.length = m) := hp.length_eq.trans HRL.out
          have HO1 := Lib.hid (own_mono ho1 hww)
          have HB1 := Lib.hid (hb.trans (hb1.mono hww))
          clear hp hs ho1 hb1 HS
          go_wp2
          go_ret
          exact ⟨B, m, d, rs', rfl, HPL.out, by have := HL.out; omega, HRQ.out, HO1.out, HB1.out⟩
        · intro x c w1 cnt1 hwx hlx hat hrg1 hlt hg1 hs1 hen
          have HAS := Lib.hid (ask_of_at HM.out hat)
          have hmem := ask_mem HAS.out
          have hok := HF.out c hmem.1
          unfold FOk at hok
          obtain ⟨o1, o2, o3, o4, o5, o6, o7, o8, o9, o10⟩ := hok
          have HKEY : Hid (keyOf Tryz.prog 3 (.int .i64 x) = some (.int .i64 x)) := keyOf_int_mk Tryz.underlying3 hwx
          have HRB := ret_bounds HF.out x
          have hr0 := HRB.1
          have hr1 : retOf fs x ≤ 1000000000000 := by
            have h1 := HRB.2
            have h2 : (fs.length : Int) ≤ 1000 := by have := HL.out; omega
            omega
          have HRE := Lib.hid (HM.out.ret x)
          have HWD := Lib.hid (HM.out.wd x)
          have HCS := Lib.hid (HC.out.step hlx HAS.out)
          have hb1 : RowKit.Below w.heap.size w w1 := hb.grown hg1 hb.size (fun j hj => by cases hj; omega)
          have hm2' := hm2.kept hg1 (fun e => by injection e; omega)
          have hm3' := hm3.kept hg1 (fun e => by injection e; omega)
          have ho1 := own_of_block ho (fun g hg => hg1.block g (own_lt ho g hg) (fun e => by have := own_base ho g hg; injection e; omega))
          have HE : Hid (effOf fs x c.qty = if wdOf fs x then 0 else max (c.qty - retOf fs x) 0) := rfl
          generalize retOf fs x = rv at *
          obtain ⟨wv, hwv⟩ : ∃ b, wdOf fs x = b := ⟨_, rfl⟩
          rw [hwv] at HWD HE
          clear hwv hmem hat hwx hlx ho hm2 hm3 hrg hg1 HRB hb HC
          have hx4 : Bl (w1.alloc (.cells #[.int .i64 c.num, .int .i64 c.kind, .int .i64 c.day, .int .i64 c.id, .int .i64 c.qty] 122)) wr.heap.size 122 #[.int .i64 c.num, .int .i64 c.kind, .int .i64 c.day, .int .i64 c.id, .int .i64 c.qty] := by
            rw [← hs1]
            exact Bl.new w1 _ _
          have hrg4 := hrg1.alloc (.cells #[.int .i64 c.num, .int .i64 c.kind, .int .i64 c.day, .int .i64 c.id, .int .i64 c.qty] 122)
          have hm24 := hm2'.alloc (.cells #[.int .i64 c.num, .int .i64 c.kind, .int .i64 c.day, .int .i64 c.id, .int .i64 c.qty] 122)
          have hm34 := hm3'.alloc (.cells #[.int .i64 c.num, .int .i64 c.kind, .int .i64 c.day, .int .i64 c.id, .int .i64 c.qty] 122)
          have ho4 := own_alloc ho1 (.cells #[.int .i64 c.num, .int .i64 c.kind, .int .i64 c.day, .int .i64 c.id, .int .i64 c.qty] 122)
          have hb4 : RowKit.Below w.heap.size w (w1.alloc (.cells #[.int .i64 c.num, .int .i64 c.kind, .int .i64 c.day, .int .i64 c.id, .int .i64 c.qty] 122)) := hb1.alloc hb1.size _
          have hw4 : w0.heap.size ≤ (w1.alloc (.cells #[.int .i64 c.num, .int .i64 c.kind, .int .i64 c.day, .int .i64 c.id, .int .i64 c.qty] 122)).heap.size := by simp; omega
          clear hrg1 hm2' hm3' ho1 hb1
          have HLE : Hid (wr.rangeLeft w.heap.size rb = cnt) := hrgL.out
          clear hrgL
          go_upto_region 21 with (fail)
          generalize w1.alloc (.cells #[.int .i64 c.num, .int .i64 c.kind, .int .i64 c.day, .int .i64 c.id, .int .i64 c.qty] 122) = W4 at *
          clear hs1
          generalize wr.heap.size = g4 at *
          have q2 : W4.cell? ⟨g4, 2, none⟩ = some (.int .i64 c.day) := hx4.cell 2
          have q4 : W4.cell? ⟨g4, 4, none⟩ = some (.int .i64 c.qty) := hx4.cell 4
          have l4 := hx4.lt
          have HR4 := Lib.hid hrg4
          have HM2 := Lib.hid hm24
          have HM3 := Lib.hid hm34
          have HO4 := Lib.hid ho4
          clear hx4 hen hrg4 hm24 hm34 ho4
          cases wv
          · rw [if_neg (by simp)] at HE
            rw [HE.out] at HCS
            have HOE := Lib.hid (own_alloc HO4.out (.cells #[.int .i64 x, .int .i64 c.day, .int .i64 0, .int .i64 0, .int .i64 (max (c.qty - rv) 0), .int .i64 0] 264))
            have HRX := Lib.hid (HR4.out.alloc (.cells #[.int .i64 x, .int .i64 c.day, .int .i64 0, .int .i64 0, .int .i64 (max (c.qty - rv) 0), .int .i64 0] 264))
            have HX2 := Lib.hid (HM2.out.alloc (.cells #[.int .i64 x, .int .i64 c.day, .int .i64 0, .int .i64 0, .int .i64 (max (c.qty - rv) 0), .int .i64 0] 264))
            have HX3 := Lib.hid (HM3.out.alloc (.cells #[.int .i64 x, .int .i64 c.day, .int .i64 0, .int .i64 0, .int .i64 (max (c.qty - rv) 0), .int .i64 0] 264))
            have HRD : Hid (Rd (W4.alloc (.cells #[.int .i64 x, .int .i64 c.day, .int .i64 0, .int .i64 0, .int .i64 (max (c.qty - rv) 0), .int .i64 0] 264)) 6 (some ⟨W4.heap.size, 0, none⟩) 1 (encR (⟨x, c.day, 0, 0, (max (c.qty - rv) 0), 0⟩ : Rq))) := rd_new W4 264 (encR (⟨x, c.day, 0, 0, (max (c.qty - rv) 0), 0⟩ : Rq))
            have HON : Hid (∀ u ∈ encR (⟨x, c.day, 0, 0, (max (c.qty - rv) 0), 0⟩ : Rq), u.oneCell' = true) := encR_one _
            have HM1 : Hid (m + 1 ≤ maxLen ∧ (m + 1) * 48 ≤ 140737488355328) := ⟨by unfold maxLen; omega, by omega⟩
            have HBA : Hid (RowKit.Below w.heap.size w (W4.alloc (.cells #[.int .i64 x, .int .i64 c.day, .int .i64 0, .int .i64 0, .int .i64 (max (c.qty - rv) 0), .int .i64 0] 264))) := hb4.alloc hb4.size _
            have HWA : Hid (w0.heap.size ≤ (W4.alloc (.cells #[.int .i64 x, .int .i64 c.day, .int .i64 0, .int .i64 0, .int .i64 (max (c.qty - rv) 0), .int .i64 0] 264)).heap.size) := by show _ ≤ _; simp; omega
            have HOB := Lib.hid (fun j hj => own_base HO4.out j hj)
            go_wp2_with (first
              | (at_lookup; refine wpList_lookup_own_int _ rfl _ _ 260 rfl 3 3 .i64 klawI Tryz.underlying260 Tryz.underlying3 (zeroI _) (w.heap.size + 1) n _ rfl HM2.out _ _ rfl HKEY.out ?_; intro c9 hat hwc; obtain rfl : rv = c9 := lit_eq (HRE.out.symm.trans hat); clear hat hwc)
              | (at_lookup; refine wpList_lookup_own_bool _ rfl _ _ 294 rfl 3 4 klawI Tryz.underlying294 Tryz.underlying4 (zeroB _) (w.heap.size + 2) n _ rfl HM3.out _ _ rfl HKEY.out ?_; intro c9 hat; obtain rfl : false = c9 := lit_eqB (HWD.out.symm.trans hat); clear hat)
              | (at_builtin; refine wpList_append_rd _ rfl (.tmp 72) (.tmp 79) 257 rfl w0.heap.size 264 _ 6 48 Tryz.underlying257 infoR rfl (by decide) (.slice B m d) m (flat encR rs) rfl HOE.out (some ⟨W4.heap.size, 0, none⟩) 1 _ (encR (⟨x, c.day, 0, 0, (max (c.qty - rv) 0), 0⟩ : Rq)) rfl HRD.out HON.out HM1.out.1 HM1.out.2 HWA.out ?_; intro v6 w6 ho6 hg6 _; obtain ⟨B6, d6, rfl⟩ := own_slice ho6))
            have HR6 := Lib.hid (HRX.out.kept hg6 (fun e => by have := HOB.out _ e.symm; omega) (fun e => by have := HOB.out _ e.symm; omega))
            have HM26 := Lib.hid (HX2.out.kept hg6 (fun e => by have := HOB.out _ e.symm; omega))
            have HM36 := Lib.hid (HX3.out.kept hg6 (fun e => by have := HOB.out _ e.symm; omega))
            have HB6 : Hid (RowKit.Below w.heap.size w w6) := HBA.out.grown hg6 HBA.out.size (fun j hj => by have := HOB.out j hj; omega)
            have HW6 : Hid (w0.heap.size ≤ w6.heap.size) := Nat.le_trans HWA.out hg6.size
            have HO6 : Hid (w6.ownsRow w0.heap.size 264 6 (.slice B6 (m + 1) d6) (m + 1) (flat encR (rs ++ [(⟨x, c.day, 0, 0, (max (c.qty - rv) 0), 0⟩ : Rq)]))) := by
              show World.ownsRow _ _ _ _ _ _ _
              rw [flat_append, flat_one]
              exact ho6
            clear ho6 hg6
            go_roundw
            case rel => exact ⟨_, cnt1, B6, m + 1, d6, _, rfl, HR6.out, HM26.out, HM36.out, HCS, by show _ = _; rw [List.length_append, HRL.out]; rfl, by omega, HO6.out, HW6.out, HB6.out⟩
            case measure => rw [HR6.out.left_eq, HLE.out]; exact hlt
          · rw [if_pos rfl] at HE
            rw [HE.out] at HCS
            have HOE := Lib.hid (own_alloc HO4.out (.cells #[.int .i64 x, .int .i64 c.day, .int .i64 0, .int .i64 0, .int .i64 0, .int .i64 0] 264))
            have HRX := Lib.hid (HR4.out.alloc (.cells #[.int .i64 x, .int .i64 c.day, .int .i64 0, .int .i64 0, .int .i64 0, .int .i64 0] 264))
            have HX2 := Lib.hid (HM2.out.alloc (.cells #[.int .i64 x, .int .i64 c.day, .int .i64 0, .int .i64 0, .int .i64 0, .int .i64 0] 264))
            have HX3 := Lib.hid (HM3.out.alloc (.cells #[.int .i64 x, .int .i64 c.day, .int .i64 0, .int .i64 0, .int .i64 0, .int .i64 0] 264))
            have HRD : Hid (Rd (W4.alloc (.cells #[.int .i64 x, .int .i64 c.day, .int .i64 0, .int .i64 0, .int .i64 0, .int .i64 0] 264)) 6 (some ⟨W4.heap.size, 0, none⟩) 1 (encR (⟨x, c.day, 0, 0, 0, 0⟩ : Rq))) := rd_new W4 264 (encR (⟨x, c.day, 0, 0, 0, 0⟩ : Rq))
            have HON : Hid (∀ u ∈ encR (⟨x, c.day, 0, 0, 0, 0⟩ : Rq), u.oneCell' = true) := encR_one _
            have HM1 : Hid (m + 1 ≤ maxLen ∧ (m + 1) * 48 ≤ 140737488355328) := ⟨by unfold maxLen; omega, by omega⟩
            have HBA : Hid (RowKit.Below w.heap.size w (W4.alloc (.cells #[.int .i64 x, .int .i64 c.day, .int .i64 0, .int .i64 0, .int .i64 0, .int .i64 0] 264))) := hb4.alloc hb4.size _
            have HWA : Hid (w0.heap.size ≤ (W4.alloc (.cells #[.int .i64 x, .int .i64 c.day, .int .i64 0, .int .i64 0, .int .i64 0, .int .i64 0] 264)).heap.size) := by show _ ≤ _; simp; omega
            have HOB := Lib.hid (fun j hj => own_base HO4.out j hj)
            go_wp2_with (first
              | (at_lookup; refine wpList_lookup_own_int _ rfl _ _ 260 rfl 3 3 .i64 klawI Tryz.underlying260 Tryz.underlying3 (zeroI _) (w.heap.size + 1) n _ rfl HM2.out _ _ rfl HKEY.out ?_; intro c9 hat hwc; obtain rfl : rv = c9 := lit_eq (HRE.out.symm.trans hat); clear hat hwc)
              | (at_lookup; refine wpList_lookup_own_bool _ rfl _ _ 294 rfl 3 4 klawI Tryz.underlying294 Tryz.underlying4 (zeroB _) (w.heap.size + 2) n _ rfl HM3.out _ _ rfl HKEY.out ?_; intro c9 hat; obtain rfl : true = c9 := lit_eqB (HWD.out.symm.trans hat); clear hat)
              | (at_builtin; refine wpList_append_rd _ rfl (.tmp 72) (.tmp 79) 257 rfl w0.heap.size 264 _ 6 48 Tryz.underlying257 infoR rfl (by decide) (.slice B m d) m (flat encR rs) rfl HOE.out (some ⟨W4.heap.size, 0, none⟩) 1 _ (encR (⟨x, c.day, 0, 0, 0, 0⟩ : Rq)) rfl HRD.out HON.out HM1.out.1 HM1.out.2 HWA.out ?_; intro v6 w6 ho6 hg6 _; obtain ⟨B6, d6, rfl⟩ := own_slice ho6))
            have HR6 := Lib.hid (HRX.out.kept hg6 (fun e => by have := HOB.out _ e.symm; omega) (fun e => by have := HOB.out _ e.symm; omega))
            have HM26 := Lib.hid (HX2.out.kept hg6 (fun e => by have := HOB.out _ e.symm; omega))
            have HM36 := Lib.hid (HX3.out.kept hg6 (fun e => by have := HOB.out _ e.symm; omega))
            have HB6 : Hid (RowKit.Below w.heap.size w w6) := HBA.out.grown hg6 HBA.out.size (fun j hj => by have := HOB.out j hj; omega)
            have HW6 : Hid (w0.heap.size ≤ w6.heap.size) := Nat.le_trans HWA.out hg6.size
            have HO6 : Hid (w6.ownsRow w0.heap.size 264 6 (.slice B6 (m + 1) d6) (m + 1) (flat encR (rs ++ [(⟨x, c.day, 0, 0, 0, 0⟩ : Rq)]))) := by
              show World.ownsRow _ _ _ _ _ _ _
              rw [flat_append, flat_one]
              exact ho6
            clear ho6 hg6
            go_roundw
            case rel => exact ⟨_, cnt1, B6, m + 1, d6, _, rfl, HR6.out, HM26.out, HM36.out, HCS, by show _ = _; rw [List.length_append, HRL.out]; rfl, by omega, HO6.out, HW6.out, HB6.out⟩
            case measure => rw [HR6.out.left_eq, HLE.out]; exact hlt
end Go.Proofs.YtdbcbbiplkikcaaGreat

namespace Go.Proofs.YtdbcbbiplkikcaaGreat
open Go.RowKit
set_option linter.unusedVariables false

def okReq (p : Int × Int) : Prop := 1 ≤ p.1 ∧ p.1 ≤ 1000000 ∧ 0 ≤ p.2 ∧ p.2 ≤ 1000000000
instance (p : Int × Int) : Decidable (okReq p) := by unfold okReq; infer_instance
def okAll (xs : List (Int × Int)) : Prop := ∀ i, i < xs.length → okReq xs[i]!
def okAsc (xs : List (Int × Int)) : Prop := ∀ r, r < xs.length - 1 → xs[r]!.1 < xs[r + 1]!.1
instance (xs : List (Int × Int)) : Decidable (okAll xs) := by unfold okAll; infer_instance
instance (xs : List (Int × Int)) : Decidable (okAsc xs) := by unfold okAsc; infer_instance
def vErr (xs : List (Int × Int)) : Int := if 200 < xs.length then 8 else if okAll xs then (if okAsc xs then 0 else 9) else 2

theorem vErr_long {xs : List (Int × Int)} (h : 200 < xs.length) : vErr xs = 8 := by unfold vErr; rw [if_pos h]
theorem vErr_bad {xs : List (Int × Int)} (h : xs.length ≤ 200) (i : Nat) (hi : i < xs.length) (hb : ¬ okReq xs[i]!) : vErr xs = 2 := by
  unfold vErr; rw [if_neg (by omega), if_neg (fun ha => hb (ha i hi))]
theorem vErr_asc {xs : List (Int × Int)} (h : xs.length ≤ 200) (ha : okAll xs) (r : Nat) (hr : r + 1 < xs.length) (hb : ¬ xs[r]!.1 < xs[r + 1]!.1) : vErr xs = 9 := by
  unfold vErr; rw [if_neg (by omega), if_pos ha, if_neg (fun hx => hb (hx r (by omega)))]
theorem vErr_ok {xs : List (Int × Int)} (h : xs.length ≤ 200) (ha : okAll xs) (hb : okAsc xs) : vErr xs = 0 := by
  unfold vErr; rw [if_neg (by omega), if_pos ha, if_pos hb]
theorem vErr_zero {xs : List (Int × Int)} (h : vErr xs = 0) : xs.length ≤ 200 ∧ okAll xs ∧ okAsc xs := by
  unfold vErr at h
  split at h
  · omega
  · split at h
    · split at h
      · exact ⟨by omega, by assumption, by assumption⟩
      · omega
    · omega

def VRes (w : World) (er : Int) (e : Ending) (w' : World) : Prop := e = .returned (.int .i64 er) ∧ RowKit.Below w.heap.size w w'

set_option maxRecDepth 100000 in
set_option maxHeartbeats 4000000 in
theorem validate_any (A : Option Addr) (n c : Nat) (xs : List (Int × Int)) (w : World) (h : Recs enc2 2 w A n xs) (hm : n ≤ 9223372036854775807) :
    Calls Tryz.prog 220 #[.slice A n c] w (VRes w (vErr xs)) := by
  have HL := Lib.hid h.1
  by_cases hl : 200 < n
  · have E := Lib.hid (vErr_long (xs := xs) (by have := HL.out; omega))
    go_enter Tryz.func220, Tryz.ntmps220
    go_wp2
    go_ret
    exact ⟨ret_int' E.out.symm, Below.refl _ _⟩
  go_enter Tryz.func220, Tryz.ntmps220
  go_wp2
  go_loopw [11] (fun i wr => ∃ k : Nat, k ≤ n ∧ i = .int .i64 k ∧ Hid (∀ i, i < k → okReq xs[i]!) ∧ RowKit.Below w.heap.size w wr) (fun i _ => n - (intOf i).toNat)
  case atStart => exact ⟨0, Nat.zero_le _, rfl, fun i hi => absurd hi (by omega), Below.refl _ _⟩
  case round =>
    obtain ⟨k, hk, rfl, HA, hbel⟩ := hrel
    by_cases hlt : k < n
    · obtain ⟨b, off, x, y, rfl, _, hc1, hc2, HX⟩ := (h.below hbel).get2 hlt
      by_cases g1 : x < 1
      · have d1 : decide (x < 1) = true := by simpa using g1
        go_wp2
        go_ret
        exact ⟨ret_int' (vErr_bad (by have := HL.out; omega) k (by have := HL.out; omega) (by rw [HX.out]; unfold okReq; omega)).symm, hbel.alloc hbel.size _⟩

      have d1 : decide (x < 1) = false := by simpa using g1
      by_cases g2 : 1000000 < x
      · have d2 : decide (1000000 < x) = true := by simpa using g2
        go_wp2
        go_ret
        exact ⟨ret_int' (vErr_bad (by have := HL.out; omega) k (by have := HL.out; omega) (by rw [HX.out]; unfold okReq; omega)).symm, hbel.alloc hbel.size _⟩

      have d2 : decide (1000000 < x) = false := by simpa using g2
      by_cases g3 : y < 0
      · have d3 : decide (y < 0) = true := by simpa using g3
        go_wp2
        go_ret
        exact ⟨ret_int' (vErr_bad (by have := HL.out; omega) k (by have := HL.out; omega) (by rw [HX.out]; unfold okReq; omega)).symm, hbel.alloc hbel.size _⟩

      have d3 : decide (y < 0) = false := by simpa using g3
      by_cases g4 : 1000000000 < y
      · have d4 : decide (1000000000 < y) = true := by simpa using g4
        go_wp2
        go_ret
        exact ⟨ret_int' (vErr_bad (by have := HL.out; omega) k (by have := HL.out; omega) (by rw [HX.out]; unfold okReq; omega)).symm, hbel.alloc hbel.size _⟩

      have d4 : decide (1000000000 < y) = false := by simpa using g4
      have HA' : Hid (∀ i, i < k + 1 → okReq xs[i]!) := fun i hi => by
        by_cases e : i = k
        · subst e; rw [HX.out]; unfold okReq; omega
        · exact HA.out i (by omega)
      go_wp2
      go_roundw
      case rel => exact ⟨k + 1, by omega, by go_num, HA'.out, ((hbel.alloc hbel.size _))⟩
      case measure => simp [intOf]; omega
    · have HAll : Hid (okAll xs) := fun i hi => HA.out i (by have := HL.out; omega)
      clear HA
      have h' := h.below hbel
      go_wp2
      go_loopw [5] (fun i wi => ∃ r q : Nat, r ≤ n ∧ i = .int .i64 ((r : Int) + 1) ∧ Hid (∀ s, s < r → xs[s]!.1 < xs[s + 1]!.1) ∧ wi = wr.drewN q) (fun i _ => n + 1 - (intOf i).toNat)
      case atStart => exact ⟨0, 0, Nat.zero_le _, rfl, fun i hi => absurd hi (by omega), rfl⟩
      case round =>
        obtain ⟨r, q, hr, rfl, HS, rfl⟩ := hrel
        by_cases hlt2 : r + 1 < n
        · obtain ⟨b, off, x1, y1, hA, _, hc1, hc2, HX1⟩ := h'.get2 hlt2
          subst hA
          obtain ⟨b', off', x0, y0, hA, _, hc3, hc4, HX0⟩ := h'.get2 (show r < n by omega)
          obtain ⟨rfl, rfl⟩ : b = b' ∧ off = off' := by simpa using hA
          clear hA
          have i1 : (0 : Int) ≤ (r : Int) + 1 := by omega
          have i2 : (r : Int) + 1 < (n : Int) := by omega
          have i3 : (0 : Int) ≤ (r : Int) := by omega
          have i4 : (r : Int) < (n : Int) := by omega
          have u1 : IntKind.i64.wrap ((r : Int) + 1 - 1) = (r : Int) := IntWalk.i64_in _ (by omega) |>.trans (by omega)
          have u2 : IntKind.i64.wrap (r : Int) = (r : Int) := IntWalk.i64_in _ (by omega)
          have u3 : ((r : Int) + 1).toNat = r + 1 := by omega
          by_cases g : x1 ≤ x0
          · have d1 : decide (x1 ≤ x0) = true := by simpa using g
            go_wp2
            go_quiet (fail)
            go_wp2
            go_ret
            exact ⟨ret_int' (vErr_asc (by have := HL.out; omega) HAll.out r (by have := HL.out; omega) (by rw [HX0.out, HX1.out]; show ¬ x0 < x1; omega)).symm, below_drewN (below_drewN hbel _) _⟩
          · have d1 : decide (x1 ≤ x0) = false := by simpa using g
            have HS' : Hid (∀ s, s < r + 1 → xs[s]!.1 < xs[s + 1]!.1) := fun s hs => by
              by_cases e : s = r
              · subst e; rw [HX0.out, HX1.out]; show x0 < x1; omega
              · exact HS.out s (by omega)
            go_wp2
            go_quiet (fail)
            go_wp2
            go_roundw
            case rel => exact ⟨r + 1, _, by omega, by go_num, HS'.out, rfl⟩
            case measure => simp [intOf]; omega
        · have HAsc : Hid (okAsc xs) := fun s hs => HS.out s (by have := HL.out; omega)
          have i2 : ¬ (r : Int) + 1 < (n : Int) := by omega
          go_wp2
          go_ret
          exact ⟨ret_int' (vErr_ok (by have := HL.out; omega) HAll.out HAsc.out).symm, below_drewN hbel _⟩
end Go.Proofs.YtdbcbbiplkikcaaGreat

namespace Go.Proofs.YtdbcbbiplkikcaaGreat
open Go.RowKit
set_option linter.unusedVariables false

def CloneRes (w : World) (n : Nat) (xs : List Int) (e : Ending) (w' : World) : Prop := ∃ (A : Option Addr) (c : Nat), e = .returned (.slice A n c) ∧ w'.ownsRow w.heap.size 3 1 (.slice A n c) n (xs.map (Value.int .i64)) ∧ RowKit.Below w.heap.size w w'

theorem clone_any (A : Option Addr) (n c : Nat) (xs : List Int) (w : World) (h : Ints w A n xs) (hn : n ≤ 1000000) :
    Calls Tryz.prog 52 #[.slice A n c] w (CloneRes w n xs) := by
  have hl := h.1
  by_cases h0 : n = 0
  · subst h0
    obtain rfl : xs = [] := List.eq_nil_of_length_eq_zero hl
    cases A with
    | none =>
      refine (Tryz.slices_Clone_int_nil 0 c w).mono ?_
      rintro e w' ⟨rfl, rfl⟩
      exact ⟨_, _, rfl, own_nil _ _ _, Below.refl _ _⟩
    | some a =>
      refine (Tryz.slices_Clone_int_zero a c w).mono ?_
      rintro e w' ⟨v', rfl, ho, _, hb⟩
      obtain ⟨A, c, rfl⟩ := own_slice ho
      exact ⟨A, c, rfl, ho, hb⟩
  · obtain ⟨b, off, rfl, hlt, hc⟩ := h.2 (by omega)
    refine (Tryz.slices_Clone_int b off n c xs w (by omega) (by omega) (fun j hj => hc j (by omega))).mono ?_
    rintro e w' ⟨v', rfl, ho, _, hb⟩
    rw [List.take_of_length_le (by omega)] at ho
    obtain ⟨A, c, rfl⟩ := own_slice ho
    exact ⟨A, c, rfl, ho, hb⟩

def capErr (t : Int) (ws : List Int) : Int := if chkErr t ws = 7 then 0 else chkErr t ws
def capOut (t : Int) (ws : List Int) : List Int := if chkErr t ws = 0 then (if ws.sum ≤ t then ws else shareL t ws) else []

set_option maxHeartbeats 1000000 in
theorem cap_any (t : Int) (A : Option Addr) (n c : Nat) (xs : List Int) (w : World) (h : Ints w A n xs) (hm : n ≤ 9223372036854775807) :
    Calls Tryz.prog 221 #[.int .i64 t, .slice A n c] w (SlRes w (capErr t xs) (capOut t xs)) := by
  have HC := Lib.hid (fun w h => check_any t A n c xs w h hm)
  by_cases h7 : chkErr t xs = 7
  · have E1 : capErr t xs = 0 := by unfold capErr; rw [if_pos h7]
    have E2 : capOut t xs = [] := by unfold capOut; rw [if_neg (by omega)]
    rw [E1, E2]
    rw [h7] at HC
    clear E1 E2 h7
    go_enter Tryz.func221, Tryz.ntmps221
    go_wp2_with (go_at_call 268; refine (HC.out _ h).mono ?_; rintro e w' ⟨rfl, rfl⟩)
    go_ret2
    exact ⟨_, _, _, rfl, own_nil _ _ _, Below.refl _ _⟩
  have E1 : capErr t xs = chkErr t xs := by unfold capErr; rw [if_neg h7]
  rw [E1]
  clear E1
  by_cases h0 : chkErr t xs = 0
  · obtain ⟨h1, h2, h3, h4, h5⟩ := chk_zero h0
    have hl := h.1
    have HS := Lib.hid (fun w h => sumOf_any A n c xs w h (by omega) h4)
    have E2 : capOut t xs = if xs.sum ≤ t then xs else shareL t xs := by unfold capOut; rw [if_pos h0]
    rw [E2]
    have HSH := Lib.hid (fun w h => share_any t A n c xs w h hm)
    have e3 : shareOut t xs = shareL t xs := by unfold shareOut; rw [if_pos h0]
    rw [e3] at HSH
    rw [h0] at HC HSH ⊢
    have HCL := Lib.hid (fun w h => clone_any A n c xs w h (by omega))
    clear E2 e3 h7 h0 hl h1 h2 h3 h4 h5
    obtain ⟨S, hS⟩ : ∃ S, xs.sum = S := ⟨_, rfl⟩
    rw [hS] at HS ⊢
    clear hS
    by_cases hle : S ≤ t
    · rw [if_pos hle]
      go_enter Tryz.func221, Tryz.ntmps221
      go_wp2_with (first | (go_at_call 268; refine (HC.out _ h).mono ?_; rintro e w' ⟨rfl, rfl⟩) | (go_at_call 269; refine (HS.out _ h).mono ?_; rintro e w' ⟨rfl, rfl⟩) | (go_at_call 52; refine (HCL.out _ h).mono ?_; rintro e w' ⟨A', c', rfl, ho, hb⟩))
      go_ret2
      exact ⟨_, _, _, rfl, ho, hb⟩
    · rw [if_neg hle]
      go_enter Tryz.func221, Tryz.ntmps221
      go_wp2_with (first | (go_at_call 268; refine (HC.out _ h).mono ?_; rintro e w' ⟨rfl, rfl⟩) | (go_at_call 269; refine (HS.out _ h).mono ?_; rintro e w' ⟨rfl, rfl⟩) | (go_at_call 270; refine (HSH.out _ h).mono ?_; rintro e w' ⟨A', n', c', rfl, ho, hb⟩))
      go_ret2
      exact ⟨_, _, _, rfl, ho, hb⟩
  · have E2 : capOut t xs = [] := by unfold capOut; rw [if_neg h0]
    rw [E2]
    have b1 : (chkErr t xs == 7) = false := by simpa using h7
    have b2 : (chkErr t xs != 0) = true := by simpa using h0
    clear E2 h7 h0
    generalize chkErr t xs = er at *
    go_enter Tryz.func221, Tryz.ntmps221
    go_wp2_with (go_at_call 268; refine (HC.out _ h).mono ?_; rintro e w' ⟨rfl, rfl⟩)
    go_ret2
    exact ⟨_, _, _, rfl, own_nil _ _ _, Below.refl _ _⟩

end Go.Proofs.YtdbcbbiplkikcaaGreat

namespace Go.Proofs.YtdbcbbiplkikcaaGreat
open Go.RowKit
set_option linter.unusedVariables false

theorem cap_facts (t : Int) (ys : List Int) (ht0 : 0 ≤ t) (ht1 : t ≤ 1000000000000) (hl : ys.length ≤ 1000) (ha : AllIn ys) :
    capErr t ys = 0 ∧ (capOut t ys).length = ys.length ∧ (∀ i, i < ys.length → 0 ≤ (capOut t ys).getD i 0 ∧ (capOut t ys).getD i 0 ≤ ys.getD i 0) ∧ (capOut t ys).sum = min t ys.sum := by
  by_cases hn : ys.length = 0
  · have h0 : ys = [] := List.eq_nil_of_length_eq_zero hn
    subst h0
    have hc : chkErr t [] = 0 ∨ chkErr t [] = 7 := by
      unfold chkErr
      rw [if_neg (by simp), if_neg (by omega), if_pos ha]
      split <;> simp
    have hO : capOut t [] = [] := by
      unfold capOut
      rcases hc with e | e
      · rw [if_pos e, if_pos (by simpa using ht0)]
      · rw [if_neg (by omega)]
    refine ⟨?_, by rw [hO], fun i hi => by simp at hi, by rw [hO]; simp; omega⟩
    unfold capErr
    rcases hc with e | e <;> simp [e]
  · have hc := chk_ok (t := t) (ws := ys) ht0 ht1 hl (by omega) ha
    have hN : NonNeg ys := fun i => (ha i).1
    have hE : capErr t ys = 0 := by unfold capErr; rw [hc]; simp
    by_cases hs : ys.sum ≤ t
    · have hO : capOut t ys = ys := by unfold capOut; rw [if_pos hc, if_pos hs]
      rw [hO]
      exact ⟨hE, rfl, fun i _ => ⟨hN i, Int.le_refl _⟩, by omega⟩
    · have hO : capOut t ys = shareL t ys := by unfold capOut; rw [if_pos hc, if_neg hs]
      rw [hO]
      refine ⟨hE, shareL_length _ _, fun i hi => ?_, ?_⟩
      · rw [shareL_get t ys i hi]
        exact ⟨share_nonneg hN ht0 (by omega) i, share_le_weight hN (by omega) ht0 (by omega) i hi⟩
      · have : (shareL t ys).sum = sumN ys.length (shareI t ys) := rfl
        rw [this, sum_share hN (by omega)]
        omega

def qsOf (xs : List (Int × Int)) : List Int := xs.map (·.2)
theorem qsOf_len (xs : List (Int × Int)) : (qsOf xs).length = xs.length := by simp [qsOf]
theorem qsOf_get (xs : List (Int × Int)) (i : Nat) (h : i < xs.length) : (qsOf xs).getD i 0 = xs[i]!.2 := by
  simp [qsOf, List.getD, List.getElem?_eq_getElem h, getElem!_pos xs i h]
def grantV (t : Int) (xs : List (Int × Int)) (i : Nat) : Int := if (qsOf xs).sum ≤ t then xs[i]!.2 else shareI t (qsOf xs) i
def grantsOf (t : Int) (xs : List (Int × Int)) : List (Int × Int) := (List.range xs.length).map fun i => (xs[i]!.1, grantV t xs i)
def allocErr (t : Int) (xs : List (Int × Int)) : Int := if t < 0 ∨ 1000000000000 < t then 2 else vErr xs
def allocOut (t : Int) (xs : List (Int × Int)) : List (Int × Int) := if allocErr t xs = 0 then grantsOf t xs else []
def allocLeft (t : Int) (xs : List (Int × Int)) : Int := if allocErr t xs = 0 then max (t - (qsOf xs).sum) 0 else 0
theorem grantsOf_len (t : Int) (xs : List (Int × Int)) : (grantsOf t xs).length = xs.length := by simp [grantsOf]

theorem range_getD (l : List Int) (n : Nat) (h : l.length = n) : (List.range n).map (fun j => l.getD j 0) = l := by
  subst h
  apply List.ext_getElem
  · simp
  · intro i h1 h2
    simp [List.getD, List.getElem?_eq_getElem h2]

def AllocRes (w : World) (T : TypeId) (out : List (Int × Int)) (left er : Int) (e : Ending) (w' : World) : Prop :=
  ∃ A n c, e = .returned (.tuple #[.slice A n c, .int .i64 left, .int .i64 er]) ∧ out.length = n ∧ w'.ownsRow w.heap.size T 2 (.slice A n c) n (flat enc2 out) ∧ RowKit.Below w.heap.size w w'

theorem own_nil2 (w : World) (b : Nat) (T : TypeId) : w.ownsRow b T 2 (.slice none 0 0) 0 (flat enc2 []) := ⟨by simp [flat], .inl ⟨rfl, rfl⟩⟩

theorem infoG : (Tryz.prog.info? 304).map (fun i => (i.zero, i.size, i.bytes)) = some (some (.agg #[.int .i64 0, .int .i64 0]), 2, 16) := by kernel_rfl

theorem RecRow.zeros2 {C : Array Value} {n : Nat} (h : C.size = n * 2 ∧ ∀ j, j < n * 2 → C[j]? = some ((Value.agg #[.int .i64 0, .int .i64 0]).cells[j % (Value.agg #[.int .i64 0, .int .i64 0]).cells.size]!)) : RecRow enc2 2 C n (fun _ => (0, 0)) := by
  refine ⟨h.1, fun j hj c hc => ?_⟩
  rw [h.2 (j * 2 + c) (by omega)]
  have e : (Value.agg #[.int .i64 0, .int .i64 0]).cells.size = 2 := rfl
  rw [e, show (j * 2 + c) % 2 = c by omega]
  have hcc : c = 0 ∨ c = 1 := by omega
  rcases hcc with rfl | rfl <;> rfl

set_option maxRecDepth 100000 in
set_option maxHeartbeats 4000000 in
theorem alloc_any (t : Int) (A : Option Addr) (n c : Nat) (xs : List (Int × Int)) (w : World) (h : Recs enc2 2 w A n xs) (hm : n ≤ 9223372036854775807) :
    Calls Tryz.prog 190 #[.int .i64 t, .slice A n c] w (AllocRes w 304 (allocOut t xs) (allocLeft t xs) (allocErr t xs)) := by
  by_cases h1 : t < 0
  · have E : allocErr t xs = 2 := by unfold allocErr; rw [if_pos (by omega)]
    unfold allocOut allocLeft
    rw [E, if_neg (by omega), if_neg (by omega)]
    clear E
    have d1 : decide (t < 0) = true := by simpa using h1
    go_enter Tryz.func190, Tryz.ntmps190
    go_wp2
    go_ret3
    exact ⟨_, _, _, rfl, rfl, own_nil2 _ _ _, Below.refl _ _⟩
  have d1 : decide (t < 0) = false := by simpa using h1
  by_cases h2 : 1000000000000 < t
  · have E : allocErr t xs = 2 := by unfold allocErr; rw [if_pos (by omega)]
    unfold allocOut allocLeft
    rw [E, if_neg (by omega), if_neg (by omega)]
    clear E
    have d2 : decide (1000000000000 < t) = true := by simpa using h2
    go_enter Tryz.func190, Tryz.ntmps190
    go_wp2
    go_ret3
    exact ⟨_, _, _, rfl, rfl, own_nil2 _ _ _, Below.refl _ _⟩
  have d2 : decide (1000000000000 < t) = false := by simpa using h2
  have E : allocErr t xs = vErr xs := by unfold allocErr; rw [if_neg (by omega)]
  have HV := Lib.hid (validate_any A n c xs w h hm)
  by_cases h3 : vErr xs = 0
  · obtain ⟨v1, v2, v3⟩ := vErr_zero h3
    unfold allocOut allocLeft
    rw [E, h3, if_pos rfl, if_pos rfl]
    rw [h3] at HV
    have hl := h.1
    have hq : ∀ i : Nat, 0 ≤ (qsOf xs).getD i 0 ∧ (qsOf xs).getD i 0 ≤ 1000000000 := fun i => by
      by_cases hi : i < xs.length
      · rw [qsOf_get xs i hi]; exact ⟨(v2 i hi).2.2.1, (v2 i hi).2.2.2⟩
      · simp [List.getD, List.getElem?_eq_none (show (qsOf xs).length ≤ i by rw [qsOf_len]; omega)]
    have HQ := Lib.hid hq
    have HL := Lib.hid hl
    have hn : n ≤ 200 := by omega
    obtain ⟨C1, HC1, hmk1⟩ := make_any (P := Tryz.prog) 24 3 _ 1 8 n Tryz.underlying24 infoI (by omega) (by omega)
    obtain ⟨C2, HC2, hmk2⟩ := make_any (P := Tryz.prog) 301 304 _ 2 16 n Tryz.underlying301 infoG (by omega) (by omega)
    clear E h3 v1 v2 v3 hq hl
    go_enter Tryz.func190, Tryz.ntmps190
    go_wp2_with fail
    refine HV.out.mono ?_
    rintro e w1 ⟨rfl, hb1⟩
    have h' := h.below hb1
    go_wp2
    go_loopw [8, 32] (fun s i wr => ∃ (k : Nat) (cs : Array Value), k ≤ n ∧ i = .int .i64 k ∧ s = .int .i64 ((qsOf xs).take k).sum ∧ Bl wr w1.heap.size 3 cs ∧ IntRow cs n (fun j => if j < k then (qsOf xs).getD j 0 else 0) ∧ RowKit.Below w1.heap.size w1 wr) (fun _ i _ => n - (intOf i).toNat)
    case atStart => exact ⟨0, C1, Nat.zero_le _, rfl, by simp, Bl.new _ _ _, (IntRow.zeros HC1.out).congr (fun j _ => by simp), (Below.refl _ _).alloc (Nat.le_refl _) _⟩
    case round =>
      obtain ⟨k, cs, hk, rfl, rfl, HB, HR, hbel⟩ := hrel
      by_cases hlt : k < n
      · obtain ⟨b, off, x, y, hA, hbl, hc1, hc2, HX⟩ := h'.get2 hlt
        subst hA
        have hc3 : wr.cell? ⟨b, off + k * 2 + 1, none⟩ = some (.int .i64 y) := (hbel.cell (p := ⟨b, off + k * 2 + 1, none⟩) hbl).trans hc2
        have hne : b ≠ w1.heap.size := by omega
        have c3 := HR.cell HB hlt
        rw [if_neg (by omega)] at c3
        have f3 : wr.frozen? ⟨w1.heap.size, k, none⟩ = false := HB.free k
        have hy : (qsOf xs).getD k 0 = y := by rw [qsOf_get xs k (by have := HL.out; omega), HX.out]
        have hbs := sum_take_bound (qsOf xs) 1000000000 HQ.out k (by rw [qsOf_len]; have := HL.out; omega)
        have hb0 := HQ.out k
        have HSS := Lib.hid (sum_take_succ (qsOf xs) k (by rw [qsOf_len]; have := HL.out; omega))
        rw [hy] at hb0 HSS
        have HS : Hid (IntRow (cs.setIfInBounds k (.int .i64 y)) n (fun j => if j < k + 1 then (qsOf xs).getD j 0 else 0)) := HR.set k y (fun j hj => by
          by_cases e : j = k
          · subst e; rw [if_pos (by omega), if_pos rfl, hy]
          · rw [if_neg e]; by_cases e2 : j < k
            · rw [if_pos e2, if_pos (by omega)]
            · rw [if_neg e2, if_neg (by omega)])
        generalize ((qsOf xs).take k).sum = s at *
        clear hy hc1 hc2
        go_wp2
        go_roundw
        case rel => exact ⟨k + 1, _, by omega, by go_num, by rw [HSS.out], HB.put _ _, HS.out, hbel.setCell (Nat.le_refl _) _⟩
        case measure => simp [intOf]; omega
      · obtain rfl : k = n := by omega
        rw [List.take_of_length_le (by rw [qsOf_len]; have := HL.out; omega)]
        have hS := sum_take_bound (qsOf xs) 1000000000 HQ.out (qsOf xs).length (Nat.le_refl _)
        rw [List.take_length, qsOf_len, HL.out] at hS
        have hIq : Ints wr (some ⟨w1.heap.size, 0, none⟩) k (qsOf xs) := by
          have how := (HR.congr (g := fun j => (qsOf xs).getD j 0) (fun j hj => by simp [hj])).own HB (Nat.le_refl _) (by omega)
          rw [range_getD (qsOf xs) k (by rw [qsOf_len]; exact HL.out)] at how
          exact IntsK.of_own how
        have hb := hb1.trans (hbel.mono hb1.size)
        have hcf := cap_facts t (qsOf xs) (by omega) (by omega) (by rw [qsOf_len]; have := HL.out; omega) (fun i => by have := HQ.out i; omega)
        have HCE := Lib.hid hcf.1
        have HCL := Lib.hid hcf.2.1
        clear HR HB hcf hmk1 HC1
        obtain ⟨S, hSe⟩ : ∃ S, (qsOf xs).sum = S := ⟨_, rfl⟩
        rw [hSe] at hS ⊢
        have HSE := Lib.hid hSe
        clear hSe
        have hmk2' := Lib.hid hmk2
        clear hmk2
        go_upto_if 54 with (fail)
        go_cut [11, 12] (fun l g wx => ∃ (A2 : Option Addr) (c2 : Nat) (G : List Int) (lv : Int), l = .int .i64 lv ∧ g = .slice A2 k c2 ∧ Ints wx A2 k G ∧ Hid (lv = max (t - S) 0 ∧ ∀ i, i < k → G.getD i 0 = grantV t xs i) ∧ RowKit.Below w.heap.size w wx ∧ w1.heap.size ≤ wx.heap.size ∧ Recs enc2 2 wx A k xs)
        case first =>
          by_cases hle : S ≤ t
          · go_wp2_with fail
            go_meet
            exact ⟨_, _, qsOf xs, _, rfl, rfl, hIq, ⟨by omega, fun i hi => by unfold grantV; rw [HSE.out, if_pos hle, qsOf_get xs i (by have := HL.out; omega)]⟩, hb, hbel.size, h'.below hbel⟩
          · go_wp2_with fail
            refine (cap_any t (some ⟨w1.heap.size, 0, none⟩) k k (qsOf xs) _ hIq (by omega)).mono ?_
            rintro e w3 ⟨A3, n3, c3, rfl, ho3, hb3⟩
            rw [HCE.out]
            have hn3 := own_len ho3
            rw [HCL.out, qsOf_len, HL.out] at hn3
            subst hn3
            have hO : capOut t (qsOf xs) = shareL t (qsOf xs) := by
              unfold capOut
              have hq0 : ¬ (qsOf xs).length = 0 := fun e => by
                have : qsOf xs = [] := List.eq_nil_of_length_eq_zero e
                have h9 := HSE.out
                rw [this] at h9
                simp at h9
                omega
              rw [if_pos (chk_ok (by omega) (by omega) (by rw [qsOf_len]; have := HL.out; omega) (by omega) (fun i => by have := HQ.out i; omega)), HSE.out, if_neg (by omega)]
            rw [hO] at ho3
            have hI3 := IntsK.of_own ho3
            have hbel3 := hbel.trans (hb3.mono hbel.size)
            clear hO ho3
            go_wp2_with fail
            go_meet
            exact ⟨_, _, shareL t (qsOf xs), _, rfl, rfl, hI3, ⟨by omega, fun i hi => by unfold grantV; rw [HSE.out, if_neg (by omega), shareL_get t (qsOf xs) i (by rw [qsOf_len]; have := HL.out; omega)]⟩, hb.trans (hb3.mono hb.size), hbel3.size, h'.below hbel3⟩
        case rest =>
          obtain ⟨A2, c2, G, lv, rfl, rfl, hIG, HG, hbx, hsx, hx⟩ := hcut
          have hmk2 := hmk2'.out
          go_wp2
          go_loopw [72] (fun i wr => ∃ (p : Nat) (cs : Array Value), p ≤ k ∧ i = .int .i64 p ∧ Bl wr wc.heap.size 304 cs ∧ RecRow enc2 2 cs k (fun j => if j < p then (xs[j]!.1, grantV t xs j) else (0, 0)) ∧ RowKit.Below wc.heap.size wc wr) (fun i _ => k - (intOf i).toNat)
          case atStart => exact ⟨0, C2, Nat.zero_le _, rfl, Bl.new _ _ _, (RecRow.zeros2 HC2.out).congr (fun j _ => by simp), (Below.refl _ _).alloc (Nat.le_refl _) _⟩
          case round =>
            obtain ⟨p, cs2, hp, rfl, HB, HR, hbel2⟩ := hrel
            by_cases hlt2 : p < k
            · obtain ⟨b, off, x, y, hA, hbl, hc1, hc2, HX⟩ := hx.get2 hlt2
              subst hA
              obtain ⟨b2, off2, gv, hA2, hbl2, hc3, HX2⟩ := hIG.get hlt2
              subst hA2
              have e1 : wr.cell? ⟨b, off + p * 2, none⟩ = some (.int .i64 x) := (hbel2.cell (p := ⟨b, off + p * 2, none⟩) hbl).trans hc1
              have e2 : wr.cell? ⟨b2, off2 + p, none⟩ = some (.int .i64 gv) := (hbel2.cell (p := ⟨b2, off2 + p, none⟩) hbl2).trans hc3
              have q0 := HR.cell HB hlt2 (c := 0) (by omega)
              have q1 := HR.cell HB hlt2 (c := 1) (by omega)
              rw [if_neg (by omega)] at q0 q1
              have q0' : wr.cell? ⟨wc.heap.size, p * 2, none⟩ = some (.int .i64 0) := q0
              have q1' : wr.cell? ⟨wc.heap.size, p * 2 + 1, none⟩ = some (.int .i64 0) := q1
              have f0 : wr.frozen? ⟨wc.heap.size, p * 2, none⟩ = false := HB.free _
              have f1 : wr.frozen? ⟨wc.heap.size, p * 2 + 1, none⟩ = false := HB.free _
              have hgv : grantV t xs p = gv := by rw [← HG.out.2 p hlt2, HX2.out]
              have HP : Hid (RecRow enc2 2 ((cs2.setIfInBounds (p * 2) (.int .i64 x)).setIfInBounds (p * 2 + 1) (.int .i64 gv)) k (fun j => if j < p + 1 then (xs[j]!.1, grantV t xs j) else (0, 0))) := (HR.put2 p (x, gv) hlt2).congr (fun j hj => by
                by_cases e : j = p
                · subst e; rw [if_pos rfl, if_pos (by omega), HX.out, hgv]
                · rw [if_neg e]; by_cases e2 : j < p
                  · rw [if_pos e2, if_pos (by omega)]
                  · rw [if_neg e2, if_neg (by omega)])
              have i1 : (0 : Int) ≤ (p : Int) := by omega
              have i2 : (p : Int) < (k : Int) := by omega
              clear q0 q1 hc1 hc2 hc3 hgv
              go_wp2
              go_region
              go_wp2
              go_roundw
              case rel => exact ⟨p + 1, _, by omega, by go_num, (HB.put _ _).put _ _, HP.out, ((hbel2.setCell (Nat.le_refl _) _).setCell (Nat.le_refl _) _).drew⟩
              case measure => simp [intOf]; omega
            · obtain rfl : p = k := by omega
              have how := (HR.congr (g := fun j => (xs[j]!.1, grantV t xs j)) (fun j hj => by simp [hj])).own enc2_len HB hbx.size (by omega)
              have hgo : (List.range p).map (fun j => (xs[j]!.1, grantV t xs j)) = grantsOf t xs := by unfold grantsOf; rw [HL.out]
              rw [hgo] at how
              go_wp2
              go_ret3
              rw [HSE.out, ← HG.out.1]
              exact ⟨_, _, _, rfl, by rw [grantsOf_len]; exact HL.out, how, hbx.trans (hbel2.mono hbx.size)⟩
  · unfold allocOut allocLeft
    rw [E, if_neg h3, if_neg h3]
    have b1 : (vErr xs != 0) = true := by simpa using h3
    clear E h3
    generalize vErr xs = er at *
    go_enter Tryz.func190, Tryz.ntmps190
    go_wp2_with fail
    refine HV.out.mono ?_
    rintro e w1 ⟨rfl, hb1⟩
    go_wp2
    go_ret3
    exact ⟨_, _, _, rfl, rfl, own_nil2 _ _ _, hb1⟩
end Go.Proofs.YtdbcbbiplkikcaaGreat

/-
  The contract of quotabook.allocate. No statement of the seat is proved here. Conditions: the requests of a day, in order of their IDs, their numbers in range.
  The settlement of a book, day by day, as a plain function. No statement of the seat is proved here. No conditions beyond those typed.
  The contract of quotabook.settle. No statement of the seat is proved here. Conditions: a valid book.
-/
import Derived.Test.YtdbcbbiplkikcaaGreatNAG
import Derived.Deep.CutBlock
namespace Go.Proofs.YtdbcbbiplkikcaaGreat
open Go.RowKit
set_option linter.unusedVariables false

theorem Bl.thru {wA w4 : World} {g : Nat} {t : TypeId} {cs : Array Value} {row : Option Nat} (hb : Bl wA g t cs) (hg : wA.grownBy w4 row) (hne : some g ≠ row) : Bl w4 g t cs := (hg.block g hb.lt hne).trans hb
theorem RowK.set {α : Type} {enc : α → List Value} {k : Nat} {arr : Array Value} {n : Nat} {f : Nat → α} (h : RowK enc k arr n f) (i c0 : Nat) (hi : i < n) (hc0 : c0 < k) (x : α) (v : Value) (hv : ∀ c, c < k → (enc x)[c]! = if c = c0 then v else (enc (f i))[c]!) : RowK enc k (arr.setIfInBounds (i * k + c0) v) n (fun j => if j = i then x else f j) := by
  have hs : i * k + c0 < arr.size := by
    rcases Nat.lt_or_ge (i * k + c0) arr.size with h1 | h1
    · exact h1
    · have := h i hi c0 hc0
      rw [Array.getElem?_eq_none h1] at this
      cases this
  intro j hj c hc
  show _ = some ((enc (if j = i then x else f j))[c]!)
  rw [Array.getElem?_setIfInBounds]
  by_cases e2 : j = i
  · subst e2
    rw [if_pos rfl, hv c hc]
    by_cases e : c = c0
    · subst e; rw [if_pos rfl, if_pos hs, if_pos rfl]
    · rw [if_neg (by omega), if_neg e, h j hj c hc]
  · rw [if_neg e2]
    have : ¬ i * k + c0 = j * k + c := fun e => by
      have h1 : (i * k + c0) / k = i := by rw [Nat.mul_comm, Nat.mul_add_div (by omega), Nat.div_eq_of_lt hc0, Nat.add_zero]
      have h2 : (j * k + c) / k = j := by rw [Nat.mul_comm, Nat.mul_add_div (by omega), Nat.div_eq_of_lt hc, Nat.add_zero]
      rw [e, h2] at h1
      exact e2 h1
    rw [if_neg this, h j hj c hc]
def RRow (w : World) (g n sz : Nat) (f : Nat → Rq) : Prop := ∃ arr, Bl w g 264 arr ∧ arr.size = sz ∧ RowK encR 6 arr n f
section
variable {w w' : World} {g n sz : Nat} {f : Nat → Rq}
theorem RRow.lt (h : RRow w g n sz f) : g < w.heap.size := h.choose_spec.1.lt
theorem RRow.free (h : RRow w g n sz f) (o : Nat) : w.frozen? ⟨g, o, none⟩ = false := h.choose_spec.1.free o
theorem RRow.keep (h : RRow w g n sz f) (hb : RowKit.Below w.heap.size w w') : RRow w' g n sz f := by
  obtain ⟨arr, h1, h2, h3⟩ := h; exact ⟨arr, h1.keep hb, h2, h3⟩
theorem RRow.congr (h : RRow w g n sz f) {f' : Nat → Rq} (e : ∀ j, j < n → f' j = f j) : RRow w g n sz f' := by
  obtain ⟨arr, h1, h2, h3⟩ := h; exact ⟨arr, h1, h2, fun j hj c hc => by rw [e j hj]; exact h3 j hj c hc⟩
theorem RRow.cell (h : RRow w g n sz f) {i : Nat} (hi : i < n) (c : Nat) (hc : c < 6) : w.cell? ⟨g, i * 6 + c, none⟩ = some ((encR (f i))[c]!) := by
  obtain ⟨arr, h1, h2, h3⟩ := h; exact (h1.cell _).trans (h3 i hi c hc)
theorem RRow.put (h : RRow w g n sz f) (i c0 : Nat) (hi : i < n) (hc0 : c0 < 6) (x : Rq) (v : Value) (hv : ∀ c, c < 6 → (encR x)[c]! = if c = c0 then v else (encR (f i))[c]!) : RRow (w.setCell ⟨g, i * 6 + c0, none⟩ v) g n sz (fun j => if j = i then x else f j) := by
  obtain ⟨arr, h1, h2, h3⟩ := h; exact ⟨_, h1.put _ _, by rw [Array.size_setIfInBounds]; exact h2, h3.set i c0 hi hc0 x v hv⟩
theorem RRow.granted (h : RRow w g n sz f) (i : Nat) (hi : i < n) (a s q : Int) : RRow (((w.setCell ⟨g, i * 6 + 2, none⟩ (.int .i64 a)).setCell ⟨g, i * 6 + 3, none⟩ (.int .i64 s)).setCell ⟨g, i * 6 + 5, none⟩ (.int .i64 q)) g n sz (fun j => if j = i then { f i with avail := a, asked := s, grant := q } else f j) := by
  have h1 := h.put i 2 hi (by omega) { f i with avail := a } (.int .i64 a) (fun c hc => by rcases (show c = 0 ∨ c = 1 ∨ c = 2 ∨ c = 3 ∨ c = 4 ∨ c = 5 by omega) with rfl | rfl | rfl | rfl | rfl | rfl <;> rfl)
  have h2 := h1.put i 3 hi (by omega) { f i with avail := a, asked := s } (.int .i64 s) (fun c hc => by rcases (show c = 0 ∨ c = 1 ∨ c = 2 ∨ c = 3 ∨ c = 4 ∨ c = 5 by omega) with rfl | rfl | rfl | rfl | rfl | rfl <;> simp [encR])
  have h3 := h2.put i 5 hi (by omega) { f i with avail := a, asked := s, grant := q } (.int .i64 q) (fun c hc => by rcases (show c = 0 ∨ c = 1 ∨ c = 2 ∨ c = 3 ∨ c = 4 ∨ c = 5 by omega) with rfl | rfl | rfl | rfl | rfl | rfl <;> simp [encR])
  refine h3.congr fun j hj => ?_
  by_cases e : j = i
  · subst e; simp
  · simp [e]
end
theorem infoQ : (Tryz.prog.info? 300).map (fun i => (i.zero, i.size, i.bytes)) = some (some (.agg #[.int .i64 0, .int .i64 0]), 2, 16) := by kernel_rfl
def dayReqs (f : Nat → Rq) (i cnt : Nat) : List (Int × Int) := (List.range cnt).map fun k => ((f (i + k)).id, (f (i + k)).req)
theorem dayReqs_len (f : Nat → Rq) (i cnt : Nat) : (dayReqs f i cnt).length = cnt := by simp [dayReqs]
theorem dayReqs_get (f : Nat → Rq) (i cnt k : Nat) (h : k < cnt) : (dayReqs f i cnt)[k]! = ((f (i + k)).id, (f (i + k)).req) := by
  unfold dayReqs
  rw [getElem!_pos _ k (by simpa using h), List.getElem_map, List.getElem_range]
theorem dayReqs_take (f : Nat → Rq) (i cnt k : Nat) (h : k < cnt) : (dayReqs f i cnt).take (k + 1) = (dayReqs f i cnt).take k ++ [((f (i + k)).id, (f (i + k)).req)] := by
  rw [List.take_succ_eq_append_getElem (by rw [dayReqs_len]; exact h)]
  have := dayReqs_get f i cnt k h
  rw [getElem!_pos _ k (by rw [dayReqs_len]; exact h)] at this
  rw [this]
theorem qs_bounds {xs : List (Int × Int)} (h : vErr xs = 0) (k : Nat) : 0 ≤ (qsOf xs).getD k 0 ∧ (qsOf xs).getD k 0 ≤ 1000000000 := by
  obtain ⟨_, h2, _⟩ := vErr_zero h
  by_cases hk : k < xs.length
  · rw [qsOf_get xs k hk]
    have := h2 k hk
    unfold okReq at this
    omega
  · simp [List.getD, List.getElem?_eq_none (show (qsOf xs).length ≤ k by rw [qsOf_len]; omega)]
def grantedF (f : Nat → Rq) (i cnt : Nat) (t : Int) (p : Nat) : Nat → Rq := fun j => if i ≤ j ∧ j < i + p then { f j with avail := t, asked := (qsOf (dayReqs f i cnt)).sum, grant := grantV t (dayReqs f i cnt) (j - i) } else f j
theorem grantedF_zero (f : Nat → Rq) (i cnt : Nat) (t : Int) : grantedF f i cnt t 0 = f := by
  funext j; unfold grantedF; rw [if_neg (by omega)]
theorem grantedF_out (f : Nat → Rq) (i cnt : Nat) (t : Int) (p : Nat) : grantedF f i cnt t p (i + p) = f (i + p) := by
  unfold grantedF; rw [if_neg (by omega)]
theorem grantedF_succ (f : Nat → Rq) (i cnt : Nat) (t : Int) (p : Nat) (j : Nat) : grantedF f i cnt t (p + 1) j = if j = i + p then { f (i + p) with avail := t, asked := (qsOf (dayReqs f i cnt)).sum, grant := grantV t (dayReqs f i cnt) p } else grantedF f i cnt t p j := by
  unfold grantedF
  by_cases e : j = i + p
  · subst e; rw [if_pos (by omega), if_pos rfl, show i + p - i = p by omega]
  · rw [if_neg e]
    by_cases e2 : i ≤ j ∧ j < i + p
    · rw [if_pos e2, if_pos (by omega)]
    · rw [if_neg e2, if_neg (by omega)]
theorem grantsOf_get (t : Int) (xs : List (Int × Int)) (k : Nat) (h : k < xs.length) : (grantsOf t xs)[k]! = (xs[k]!.1, grantV t xs k) := by
  unfold grantsOf
  rw [getElem!_pos _ k (by simpa using h), List.getElem_map, List.getElem_range]
def AlRes (w : World) (g n sz : Nat) (f : Nat → Rq) (i cnt : Nat) (t : Int) (e : Ending) (w' : World) : Prop := e = .returned (.int .i64 (max (t - (qsOf (dayReqs f i cnt)).sum) 0)) ∧ RRow w' g n sz (grantedF f i cnt t cnt) ∧ Kp g w w'

set_option maxRecDepth 100000 in
set_option maxHeartbeats 8000000 in
theorem allocate_any (g n sz i cnt cap : Nat) (f : Nat → Rq) (t : Int) (w : World) (h : RRow w g n sz f) (hin : i + cnt ≤ n) (hn : n ≤ 200) (ht0 : 0 ≤ t) (ht1 : t ≤ 1000000000000) (hv : vErr (dayReqs f i cnt) = 0) :
    Calls Tryz.prog 175 #[.slice (some ⟨g, i * 6, none⟩) cnt cap, .int .i64 t] w (AlRes w g n sz f i cnt t) := by
  have HV := Lib.hid hv
  have HDL := Lib.hid (dayReqs_len f i cnt)
  obtain ⟨o, ho⟩ : ∃ o, i * 6 = o := ⟨_, rfl⟩
  have HO := Lib.hid ho
  rw [ho]
  clear hv ho
  go_enter Tryz.func175, Tryz.ntmps175
  go_wp2
  go_loopw [5, 6, 16] (fun s l k wx => ∃ (K : Nat) (B : Option Addr) (d : Nat), K ≤ cnt ∧ k = .int .i64 K ∧ s = .int .i64 ((qsOf (dayReqs f i cnt)).take K).sum ∧ l = .slice B K d ∧ wx.ownsRow w.heap.size 300 2 (.slice B K d) K (flat enc2 ((dayReqs f i cnt).take K)) ∧ RowKit.Below w.heap.size w wx) (fun _ _ k _ => cnt - (intOf k).toNat)
  case atStart => exact ⟨0, none, 0, Nat.zero_le _, rfl, by simp, rfl, own_nil2 _ _ _, Below.refl _ _⟩
  case round =>
    obtain ⟨K, B, d, hK, rfl, rfl, rfl, ho, hb⟩ := hrel
    by_cases hlt : K < cnt
    · have hR := h.keep hb
      obtain ⟨x, hx⟩ : ∃ x, f (i + K) = x := ⟨_, rfl⟩
      have kc : ∀ c, c < 6 → wr.cell? ⟨g, o + K * 6 + c, none⟩ = some ((encR x)[c]!) := fun c hc => by
        have := hR.cell (i := i + K) (by omega) c hc
        rw [hx, show (i + K) * 6 + c = o + K * 6 + c by have := HO.out; omega] at this
        exact this
      have c0 : wr.cell? ⟨g, o + K * 6, none⟩ = some (.int .i64 x.id) := kc 0 (by omega)
      have c1 : wr.cell? ⟨g, o + K * 6 + 1, none⟩ = some (.int .i64 x.day) := kc 1 (by omega)
      have c2 : wr.cell? ⟨g, o + K * 6 + 2, none⟩ = some (.int .i64 x.avail) := kc 2 (by omega)
      have c3 : wr.cell? ⟨g, o + K * 6 + 3, none⟩ = some (.int .i64 x.asked) := kc 3 (by omega)
      have c4 : wr.cell? ⟨g, o + K * 6 + 4, none⟩ = some (.int .i64 x.req) := kc 4 (by omega)
      have c5 : wr.cell? ⟨g, o + K * 6 + 5, none⟩ = some (.int .i64 x.grant) := kc 5 (by omega)
      have hki : (K : Int) < cnt := by omega
      have HTK := Lib.hid (dayReqs_take f i cnt K hlt)
      have hget : (qsOf (dayReqs f i cnt)).getD K 0 = x.req := by
        rw [qsOf_get _ K (by have := HDL.out; omega), dayReqs_get f i cnt K hlt, hx]
      rw [hx] at HTK
      have hq := qs_bounds HV.out K
      have hbs := sum_take_bound (qsOf (dayReqs f i cnt)) 1000000000 (qs_bounds HV.out) K (by rw [qsOf_len]; have := HDL.out; omega)
      have HSS := Lib.hid (sum_take_succ (qsOf (dayReqs f i cnt)) K (by rw [qsOf_len]; have := HDL.out; omega))
      rw [hget] at hq HSS
      have HO4 := Lib.hid (own_alloc ho (.cells #[.int .i64 x.id, .int .i64 x.day, .int .i64 x.avail, .int .i64 x.asked, .int .i64 x.req, .int .i64 x.grant] 264))
      have hb4 : RowKit.Below w.heap.size w (wr.alloc (.cells #[.int .i64 x.id, .int .i64 x.day, .int .i64 x.avail, .int .i64 x.asked, .int .i64 x.req, .int .i64 x.grant] 264)) := hb.alloc hb.size _
      have hx4 := Bl.new wr 264 #[.int .i64 x.id, .int .i64 x.day, .int .i64 x.avail, .int .i64 x.asked, .int .i64 x.req, .int .i64 x.grant]
      clear kc hx hget ho hR
      generalize ((qsOf (dayReqs f i cnt)).take K).sum = sm at *
      go_upto_region 6 with (fail)
      clear c0 c1 c2 c3 c4 c5
      have hgw := hb.size
      generalize wr.alloc (.cells #[.int .i64 x.id, .int .i64 x.day, .int .i64 x.avail, .int .i64 x.asked, .int .i64 x.req, .int .i64 x.grant] 264) = W4 at *
      generalize wr.heap.size = g4 at *
      have q0 : W4.cell? ⟨g4, 0, none⟩ = some (.int .i64 x.id) := hx4.cell 0
      have q4 : W4.cell? ⟨g4, 4, none⟩ = some (.int .i64 x.req) := hx4.cell 4
      have l4 := hx4.lt
      have hb0 := hq.1
      have hb1 := hq.2
      have hs0 : 0 ≤ sm := hbs.1
      have hs1 : sm ≤ 1000000000000 := by have := hbs.2; omega
      clear hb hq hbs
      have HOE := Lib.hid (own_alloc HO4.out (.cells #[.int .i64 x.id, .int .i64 x.req] 300))
      have HX5 := Lib.hid (hx4.alloc (.cells #[.int .i64 x.id, .int .i64 x.req] 300))
      have HRD : Hid (Rd (W4.alloc (.cells #[.int .i64 x.id, .int .i64 x.req] 300)) 2 (some ⟨W4.heap.size, 0, none⟩) 1 (enc2 (x.id, x.req))) := rd_new W4 300 (enc2 (x.id, x.req))
      have HON : Hid (∀ u ∈ enc2 (x.id, x.req), u.oneCell' = true) := enc2_one _
      have HM1 : Hid (K + 1 ≤ maxLen ∧ (K + 1) * 16 ≤ 140737488355328) := ⟨by unfold maxLen; omega, by omega⟩
      have HBA : Hid (RowKit.Below w.heap.size w (W4.alloc (.cells #[.int .i64 x.id, .int .i64 x.req] 300))) := hb4.alloc hb4.size _
      have HOB := Lib.hid (fun j hj => own_base HO4.out j hj)
      have HNB : Hid (some g4 ≠ (Value.slice B K d).ownBlock) := own_apart HO4.out hx4 (by decide)
      go_wp2_with (at_builtin; refine wpList_append_rd _ rfl (.tmp 20) (.tmp 27) 298 rfl w.heap.size 300 _ 2 16 Tryz.underlying298 infoQ rfl (by decide) (.slice B K d) K (flat enc2 ((dayReqs f i cnt).take K)) rfl HOE.out (some ⟨W4.heap.size, 0, none⟩) 1 _ (enc2 (x.id, x.req)) rfl HRD.out HON.out HM1.out.1 HM1.out.2 HBA.out.size ?_; intro v6 w6 ho6 hg6 _; obtain ⟨B6, d6, rfl⟩ := own_slice ho6; have hx6 := (HX5.out.thru hg6 HNB.out).cell 4; have q6 : w6.cell? ⟨g4, 4, none⟩ = some (.int .i64 x.req) := hx6; clear hx6)
      have HB6 : Hid (RowKit.Below w.heap.size w w6) := HBA.out.grown hg6 HBA.out.size (fun j hj => HOB.out j hj)
      have HO6 : Hid (w6.ownsRow w.heap.size 300 2 (.slice B6 (K + 1) d6) (K + 1) (flat enc2 ((dayReqs f i cnt).take (K + 1)))) := by
        show World.ownsRow _ _ _ _ _ _ _
        rw [HTK.out, flat_append, flat_one]
        exact ho6
      clear ho6 hg6
      go_roundw
      case rel => exact ⟨K + 1, B6, d6, by omega, by go_num, by rw [HSS.out], rfl, HO6.out, HB6.out⟩
      case measure => simp [intOf]; omega
    · obtain rfl : cnt = K := by omega
      have E1 : allocErr t (dayReqs f i cnt) = 0 := by unfold allocErr; rw [if_neg (by omega), HV.out]
      have E2 : allocOut t (dayReqs f i cnt) = grantsOf t (dayReqs f i cnt) := by unfold allocOut; rw [if_pos E1]
      have E3 : allocLeft t (dayReqs f i cnt) = max (t - (qsOf (dayReqs f i cnt)).sum) 0 := by unfold allocLeft; rw [if_pos E1]
      rw [List.take_of_length_le (by rw [qsOf_len]; have := HDL.out; omega)]
      rw [List.take_of_length_le (by have := HDL.out; omega)] at ho
      have HA := Lib.hid (alloc_any t B cnt d (dayReqs f i cnt) wr (Recs.of_own enc2_len ho HDL.out) (by omega))
      rw [E1, E2, E3] at HA
      have hR := h.keep hb
      have hKb : Kp g w wr := (Kp.refl g w).below hb
      have hgl := h.lt
      have hgw := hb.size
      obtain ⟨sm, hsm⟩ : ∃ v, (qsOf (dayReqs f i cnt)).sum = v := ⟨_, rfl⟩
      have HSM := Lib.hid hsm
      rw [hsm] at HA ⊢
      obtain ⟨lf, hlf⟩ : ∃ v, max (t - sm) 0 = v := ⟨_, rfl⟩
      have HLF := Lib.hid hlf
      rw [hlf] at HA
      clear E1 E2 E3 ho hlf hsm hb
      go_wp2_with fail
      refine HA.out.mono ?_
      rintro e w5 ⟨A5, n5, c5, rfl, hl5, ho5, hb5⟩
      obtain rfl : cnt = n5 := by rw [← hl5, grantsOf_len, HDL.out]
      have hR5 := hR.keep hb5
      have hK5 := hKb.below hb5
      have hg5 : g < wr.heap.size := by omega
      obtain ⟨g0, hg0⟩ : ∃ x, wr.heap.size = x := ⟨_, rfl⟩
      rw [hg0] at ho5 hg5
      clear hg0
      clear HA hl5 hR hKb hb5
      go_wp2_with fail
      go_loopw [44] (fun k wx => ∃ K : Nat, K ≤ cnt ∧ k = .int .i64 K ∧ RRow wx g n sz (grantedF f i cnt t K) ∧ wx.ownsRow g0 304 2 (.slice A5 cnt c5) cnt (flat enc2 (grantsOf t (dayReqs f i cnt))) ∧ Kp g w wx) (fun k _ => cnt - (intOf k).toNat)
      case atStart => exact ⟨0, Nat.zero_le _, rfl, by rw [grantedF_zero]; exact hR5, ho5, hK5⟩
      case round =>
        clear hR5 ho5 hK5
        obtain ⟨K, hK, rfl, hR, ho, hKp⟩ := hrel
        by_cases hlt2 : K < cnt
        · have hki : (K : Int) < cnt := by omega
          have hrc := Recs.of_own enc2_len ho (by rw [grantsOf_len, HDL.out])
          obtain ⟨b, off, qa, qb, hA5, hbl, c1, c2, HX⟩ := hrc.get2 hlt2
          subst hA5
          have HQB : Hid (grantV t (dayReqs f i cnt) K = qb) := by
            have := HX.out
            rw [grantsOf_get _ _ _ (by rw [HDL.out]; exact hlt2)] at this
            injection this
          have HR4 : Hid (RRow (wr.alloc (.cells #[.int .i64 qa, .int .i64 qb] 304)) g n sz (grantedF f i cnt t K)) := hR.keep ((Below.refl _ _).alloc (Nat.le_refl _) _)
          have HO4 := Lib.hid (own_alloc ho (.cells #[.int .i64 qa, .int .i64 qb] 304))
          have HK4 := Lib.hid (hKp.alloc (.cells #[.int .i64 qa, .int .i64 qb] 304))
          have hx4 := Bl.new wr 304 #[.int .i64 qa, .int .i64 qb]
          have hgl2 := hR.lt
          clear hR ho hKp hrc
          go_upto_region 13 with (fail)
          clear c1 c2
          generalize wr.alloc (.cells #[.int .i64 qa, .int .i64 qb] 304) = W4 at *
          generalize wr.heap.size = g4 at *
          have q1 : W4.cell? ⟨g4, 1, none⟩ = some (.int .i64 qb) := hx4.cell 1
          have n1 : g ≠ g4 := by omega
          have n2 : g4 ≠ g := by omega
          obtain ⟨x, hx⟩ : ∃ x, f (i + K) = x := ⟨_, rfl⟩
          have HXX := Lib.hid hx
          have kc : ∀ c, c < 6 → W4.cell? ⟨g, o + K * 6 + c, none⟩ = some ((encR x)[c]!) := fun c hc => by
            have := HR4.out.cell (i := i + K) (by omega) c hc
            rw [grantedF_out, hx, show (i + K) * 6 + c = o + K * 6 + c by have := HO.out; omega] at this
            exact this
          have c2 : W4.cell? ⟨g, o + K * 6 + 2, none⟩ = some (.int .i64 x.avail) := kc 2 (by omega)
          have c3 : W4.cell? ⟨g, o + K * 6 + 3, none⟩ = some (.int .i64 x.asked) := kc 3 (by omega)
          have cc5 : W4.cell? ⟨g, o + K * 6 + 5, none⟩ = some (.int .i64 x.grant) := kc 5 (by omega)
          have f2 : W4.frozen? ⟨g, o + K * 6 + 2, none⟩ = false := HR4.out.free _
          have f3 : W4.frozen? ⟨g, o + K * 6 + 3, none⟩ = false := HR4.out.free _
          have f5 : W4.frozen? ⟨g, o + K * 6 + 5, none⟩ = false := HR4.out.free _
          clear kc hx hx4
          have HR6 : Hid (RRow (((W4.setCell ⟨g, o + K * 6 + 2, none⟩ (.int .i64 t)).setCell ⟨g, o + K * 6 + 3, none⟩ (.int .i64 sm)).setCell ⟨g, o + K * 6 + 5, none⟩ (.int .i64 qb)) g n sz (grantedF f i cnt t (K + 1))) := by
            have := HR4.out.granted (i + K) (by omega) t sm qb
            rw [show (i + K) * 6 + 2 = o + K * 6 + 2 by have := HO.out; omega, show (i + K) * 6 + 3 = o + K * 6 + 3 by have := HO.out; omega, show (i + K) * 6 + 5 = o + K * 6 + 5 by have := HO.out; omega] at this
            refine RRow.congr this fun j hj => ?_
            rw [grantedF_succ, grantedF_out, HSM.out, HQB.out]
          have HK6 : Hid (Kp g w (((W4.setCell ⟨g, o + K * 6 + 2, none⟩ (.int .i64 t)).setCell ⟨g, o + K * 6 + 3, none⟩ (.int .i64 sm)).setCell ⟨g, o + K * 6 + 5, none⟩ (.int .i64 qb))) := ((HK4.out.put _ _).put _ _).put _ _
          have HNB : Hid (∀ j, (Value.slice (some ⟨b, off, none⟩) cnt c5).ownBlock = some j → j ≠ g) := fun j hj e => by have := own_base HO4.out j hj; omega
          have HO6 : Hid ((((W4.setCell ⟨g, o + K * 6 + 2, none⟩ (.int .i64 t)).setCell ⟨g, o + K * 6 + 3, none⟩ (.int .i64 sm)).setCell ⟨g, o + K * 6 + 5, none⟩ (.int .i64 qb)).ownsRow g0 304 2 (.slice (some ⟨b, off, none⟩) cnt c5) cnt (flat enc2 (grantsOf t (dayReqs f i cnt)))) :=
            own_of_block HO4.out fun j hj => ((Below.heap_setCell _ _ _ j (HNB.out j hj)).trans (Below.heap_setCell _ _ _ j (HNB.out j hj))).trans (Below.heap_setCell _ _ _ j (HNB.out j hj))
          clear HR4 HK4 HO4 HNB
          go_wp2_with fail
          go_roundw
          case rel => exact ⟨K + 1, by omega, by go_num, HR6.out, HO6.out, HK6.out⟩
          case measure => simp [intOf]; omega
        · obtain rfl : cnt = K := by omega
          have HRF := Lib.hid hR
          have HKF := Lib.hid hKp
          clear hR ho hKp
          go_wp2
          go_ret
          exact ⟨by show Ending.returned (.int .i64 lf) = _; rw [HSM.out, HLF.out], HRF.out, HKF.out⟩
end Go.Proofs.YtdbcbbiplkikcaaGreat

namespace Go.Proofs.YtdbcbbiplkikcaaGreat
set_option linter.unusedVariables false

def endAt (f : Nat → Rq) (D : Int) (n : Nat) : Nat → Nat → Nat
  | 0, e => e
  | m + 1, e => if e < n ∧ (f e).day = D then endAt f D n m (e + 1) else e
theorem endAt_ge (f : Nat → Rq) (D : Int) (n : Nat) : ∀ m e, e ≤ endAt f D n m e := by
  intro m
  induction m with
  | zero => intro e; exact Nat.le_refl _
  | succ m ih => intro e; rw [endAt]; split
                 · have := ih (e + 1); omega
                 · exact Nat.le_refl _
theorem endAt_le (f : Nat → Rq) (D : Int) (n : Nat) : ∀ m e, e ≤ n → endAt f D n m e ≤ n := by
  intro m
  induction m with
  | zero => intro e he; exact he
  | succ m ih => intro e he; rw [endAt]; split
                 · exact ih (e + 1) (by omega)
                 · exact he
theorem endAt_in (f : Nat → Rq) (D : Int) (n : Nat) : ∀ m e k, e ≤ k → k < endAt f D n m e → (f k).day = D := by
  intro m
  induction m with
  | zero => intro e k h1 h2; rw [endAt] at h2; omega
  | succ m ih =>
    intro e k h1 h2
    rw [endAt] at h2
    split at h2
    · rename_i h3
      by_cases x : k = e
      · subst x; exact h3.2
      · exact ih (e + 1) k (by omega) h2
    · omega
theorem endAt_stop (f : Nat → Rq) (D : Int) (n : Nat) : ∀ m e, n ≤ e + m → e ≤ n → endAt f D n m e < n → (f (endAt f D n m e)).day ≠ D := by
  intro m
  induction m with
  | zero => intro e h1 h2 h3; rw [endAt] at h3; omega
  | succ m ih =>
    intro e h1 h2 h3
    rw [endAt] at h3 ⊢
    split
    · rename_i h4
      rw [if_pos h4] at h3
      exact ih (e + 1) (by omega) (by omega) h3
    · rename_i h4
      rw [if_neg h4] at h3
      exact fun x => h4 ⟨h3, x⟩
theorem endAt_step {f : Nat → Rq} {D : Int} {n m e : Nat} (h : e < n) (hd : (f e).day = D) : endAt f D n (m + 1) e = endAt f D n m (e + 1) := by rw [endAt, if_pos ⟨h, hd⟩]
theorem endAt_here {f : Nat → Rq} {D : Int} {n m e : Nat} (h : ¬ (e < n ∧ (f e).day = D)) : endAt f D n m e = e := by
  cases m with
  | zero => rfl
  | succ m => rw [endAt, if_neg h]
def runS (T : Int → Int) (n : Nat) : Nat → Nat → Int → Int → (Nat → Rq) → (Nat → Rq) × Int × Int
  | 0, _, tp, a, f => (f, tp, a)
  | m + 1, i, tp, a, f =>
    if i < n then
      runS T n m (endAt f (f i).day n n i) (T (f i).day) (max (a + (T (f i).day - tp) - (qsOf (dayReqs f i (endAt f (f i).day n n i - i))).sum) 0) (grantedF f i (endAt f (f i).day n n i - i) (a + (T (f i).day - tp)) (endAt f (f i).day n n i - i))
    else (f, tp, a)
theorem runS_step {T : Int → Int} {n m i : Nat} {tp a : Int} {f : Nat → Rq} (h : i < n) {D : Int} (hD : (f i).day = D) {e : Nat} (he : endAt f D n n i = e) : runS T n (m + 1) i tp a f = runS T n m e (T D) (max (a + (T D - tp) - (qsOf (dayReqs f i (e - i))).sum) 0) (grantedF f i (e - i) (a + (T D - tp)) (e - i)) := by
  rw [runS, if_pos h, hD, he]
theorem runS_end {T : Int → Int} {n m i : Nat} {tp a : Int} {f : Nat → Rq} (h : ¬ i < n) : runS T n m i tp a f = (f, tp, a) := by
  cases m with
  | zero => rfl
  | succ m => rw [runS, if_neg h]
def trSum (ys : List Fct) (D : Int) : Int := ((ys.filter (fun y => decide (y.day ≤ D))).map (·.qty)).sum
def trAll (ys : List Fct) : Int := (ys.map (·.qty)).sum
theorem sum_perm {l l' : List Int} (h : l.Perm l') : l.sum = l'.sum := by
  induction h with
  | nil => rfl
  | cons x _ ih => simp [ih]
  | swap x y l => simp; omega
  | trans _ _ ih1 ih2 => rw [ih1, ih2]
theorem trSum_perm {ys zs : List Fct} (h : ys.Perm zs) (D : Int) : trSum ys D = trSum zs D := sum_perm ((h.filter _).map _)
theorem trAll_perm {ys zs : List Fct} (h : ys.Perm zs) : trAll ys = trAll zs := sum_perm (h.map _)
theorem trSum_take {ys : List Fct} (hs : ByDay ys) {D : Int} {k : Nat} (hk : k ≤ ys.length) (h1 : ∀ i, i < k → ys[i]!.day ≤ D) (h2 : k < ys.length → D < ys[k]!.day) : trSum ys D = trAll (ys.take k) := by
  unfold trSum trAll
  have e : ys.filter (fun y => decide (y.day ≤ D)) = ys.take k := by
    have e1 : ys = ys.take k ++ ys.drop k := (List.take_append_drop k ys).symm
    rw [e1, List.filter_append]
    have a1 : (ys.take k).filter (fun y => decide (y.day ≤ D)) = ys.take k := by
      rw [List.filter_eq_self]
      intro y hy
      obtain ⟨i, hi, rfl⟩ := List.getElem_of_mem hy
      rw [List.length_take] at hi
      have := h1 i (by omega)
      rw [getElem!_pos ys i (by omega)] at this
      rw [List.getElem_take]
      simpa using this
    have a2 : (ys.drop k).filter (fun y => decide (y.day ≤ D)) = [] := by
      rw [List.filter_eq_nil_iff]
      intro y hy
      obtain ⟨i, hi, rfl⟩ := List.getElem_of_mem hy
      rw [List.length_drop] at hi
      have hlt := h2 (by omega)
      have hle : ys[k]!.day ≤ ys[k + i]!.day := by
        by_cases x : i = 0
        · subst x; exact Int.le_refl _
        · exact hs k (k + i) (by omega) (by omega)
      rw [getElem!_pos ys (k + i) (by omega)] at hle
      rw [List.getElem_drop]
      simp; omega
    rw [a1, a2, List.append_nil]
    simp
  rw [e]
end Go.Proofs.YtdbcbbiplkikcaaGreat

namespace Go.Proofs.YtdbcbbiplkikcaaGreat
open Go.RowKit
set_option linter.unusedVariables false

def Same3 (f f0 : Nat → Rq) : Prop := ∀ k, (f k).day = (f0 k).day ∧ (f k).id = (f0 k).id ∧ (f k).req = (f0 k).req
theorem Same3.refl (f : Nat → Rq) : Same3 f f := fun _ => ⟨rfl, rfl, rfl⟩
theorem Same3.granted {f f0 : Nat → Rq} (h : Same3 f f0) (i cnt : Nat) (t : Int) (p : Nat) : Same3 (grantedF f i cnt t p) f0 := fun k => by
  unfold grantedF
  split
  · exact h k
  · exact h k
def slLen : Value → Nat
  | .slice _ n _ => n
  | _ => 0
def TrAt (wx : World) (lo : Nat) (ys : List Fct) (j : Nat) (v : Value) : Prop := ∃ (A5 : Option Addr) (m5 c5 : Nat), v = .slice A5 m5 c5 ∧ m5 ≤ c5 ∧ c5 ≤ 9223372036854775807 ∧ j + m5 = ys.length ∧ Recs encF 5 wx A5 m5 (ys.drop j) ∧ ∀ b off, A5 = some ⟨b, off, none⟩ → lo ≤ b
theorem drop_cons (ys : List Fct) (j : Nat) (h : j < ys.length) : ys.drop j = ys[j]! :: ys.drop (j + 1) := by
  rw [List.drop_eq_getElem_cons h, getElem!_pos ys j h]
theorem Recs.tail {w : World} {b off n : Nat} {x : Fct} {xs : List Fct} (h : Recs encF 5 w (some ⟨b, off, none⟩) (n + 1) (x :: xs)) (s : Option Addr) (hs : 0 < n → s = some ⟨b, off + 5, none⟩) : Recs encF 5 w s n xs := by
  refine ⟨by have := h.1; simpa using this, fun h0 => ?_⟩
  obtain ⟨b', off', e, hb, hc⟩ := h.2 (by omega)
  injection e with e
  injection e with e1 e2
  subst e1 e2
  refine ⟨b, off + 5, hs h0, hb, fun i hi c hcc => ?_⟩
  have := hc (i + 1) (by omega) c hcc
  rw [show off + 5 + i * 5 + c = off + (i + 1) * 5 + c by omega, this]
  have hl := h.1
  rw [getElem!_pos (x :: xs) (i + 1) (by simp at hl ⊢; omega), getElem!_pos xs i (by simp at hl; omega)]
  rfl
theorem trAll_take (ys : List Fct) (j : Nat) (h : j < ys.length) : trAll (ys.take (j + 1)) = trAll (ys.take j) + ys[j]!.qty := by
  unfold trAll
  rw [take_succ_get ys j h]
  simp
theorem trAll_bounds {ys : List Fct} (h : ∀ y ∈ ys, 0 ≤ y.qty ∧ y.qty ≤ 1000000000) : 0 ≤ trAll ys ∧ trAll ys ≤ (ys.length : Int) * 1000000000 := by
  induction ys with
  | nil => simp [trAll]
  | cons y ys ih =>
    have h1 := ih fun z hz => h z (List.mem_cons_of_mem _ hz)
    have h2 := h y (List.mem_cons_self ..)
    unfold trAll at h1 ⊢
    simp
    omega
theorem TrAt.kp {w w' : World} {g lo j : Nat} {ys : List Fct} {v : Value} (h : TrAt w lo ys j v) (hK : Kp g w w') (hg : g < lo) : TrAt w' lo ys j v := by
  obtain ⟨A5, m5, c5, h1, h2, h3, h4, h5, h6⟩ := h
  refine ⟨A5, m5, c5, h1, h2, h3, h4, ⟨h5.1, fun h0 => ?_⟩, h6⟩
  obtain ⟨b, off, e, hb, hc⟩ := h5.2 h0
  refine ⟨b, off, e, Nat.lt_of_lt_of_le hb hK.size, fun i hi c hcc => ?_⟩
  rw [← hc i hi c hcc]
  exact World.cell?_of_block (hK.block b hb (fun x => by have := h6 b off e; omega))
theorem rq_ok {fs : List Fct} {rs : List Rq} (hrq : ReqList fs rs) (hf : ∀ x ∈ fs, FOk x) (hi1 : ∀ x ∈ fs, x.kind = 1 → 1 ≤ x.id) (k : Nat) (hk : k < rs.length) : 1 ≤ rs[k]!.id ∧ rs[k]!.id ≤ 1000000 ∧ 0 ≤ rs[k]!.req ∧ rs[k]!.req ≤ 1000000000 ∧ rs[k]!.day = (rqOf fs rs[k]!.id).day := by
  have hm : rs[k]! ∈ rs := by rw [getElem!_pos rs k hk]; exact List.getElem_mem _
  have h1 := (hrq.mem rs[k]!.id).1 ⟨_, hm, rfl⟩
  have h2 := hrq.val _ hm
  cases e : askOf fs rs[k]!.id
  · rw [e] at h1; cases h1
  · rename_i c
    obtain ⟨m1, m2, m3⟩ := ask_mem e
    have h3 := hf c m1
    have h4 := hi1 c m1 m2
    have h5 : rs[k]!.req = effOf fs rs[k]!.id c.qty := by
      have := congrArg Rq.req h2
      rw [this]
      unfold rqOf
      rw [e]
    have h6 := (ret_bounds hf rs[k]!.id).1
    unfold FOk at h3
    refine ⟨by omega, by omega, ?_, ?_, congrArg Rq.day h2⟩
    · rw [h5]; unfold effOf; split <;> omega
    · rw [h5]; unfold effOf; split <;> omega
theorem day_mono {fs : List Fct} {rs : List Rq} (hrq : ReqList fs rs) {i k : Nat} (h : i ≤ k) (hk : k < rs.length) : rs[i]!.day ≤ rs[k]!.day := by
  by_cases e : i = k
  · subst e; exact Int.le_refl _
  · rcases hrq.srt i k (by omega) hk with h1 | h1 <;> omega
theorem sum_nonneg' {xs : List (Int × Int)} (h : vErr xs = 0) : 0 ≤ (qsOf xs).sum := by
  have := (sum_take_bound (qsOf xs) 1000000000 (qs_bounds h) (qsOf xs).length (Nat.le_refl _)).1
  rwa [List.take_length] at this
theorem ids_same {f f0 : Nat → Rq} (h : Same3 f f0) (N : Nat) : ((List.range N).map f).map (·.id) = ((List.range N).map f0).map (·.id) := by
  rw [List.map_map, List.map_map]
  exact List.map_congr_left fun k _ => (h k).2.1
theorem trAll_split (ys : List Fct) (j : Nat) : trAll ys = trAll (ys.take j) + trAll (ys.drop j) := by
  unfold trAll
  rw [← List.sum_append, ← List.map_append, List.take_append_drop]
def SetRes (w : World) (fs : List Fct) (vol : Int) (e : Ending) (w' : World) : Prop := ∃ (B : Option Addr) (m d : Nat) (rs rs' : List Rq) (F : (Nat → Rq) × Int × Int), e = .returned (.tuple #[.slice B m d, .int .i64 (F.2.2 + (trAll (trOf fs) - F.2.1))]) ∧ ReqList fs rs ∧ rs.length = m ∧ m ≤ fs.length ∧ F = runS (trSum (trOf fs)) m m 0 0 vol (fun i => rs[i]!) ∧ rs'.Perm ((List.range m).map F.1) ∧ (∀ i j, i < j → j < m → rs'[i]!.id < rs'[j]!.id) ∧ w'.ownsRow w.heap.size 264 6 (.slice B m d) m (flat encR rs') ∧ RowKit.Below w.heap.size w w'

set_option maxRecDepth 100000 in
set_option maxHeartbeats 8000000 in
theorem settle_any (qid vol fr tod : Int) (A : Option Addr) (n c : Nat) (fs : List Fct) (w : World) (h : Recs encF 5 w A n fs) (hn : n ≤ 200) (hf : ∀ x ∈ fs, FOk x) (hi1 : ∀ x ∈ fs, x.kind = 1 → 1 ≤ x.id) (hv0 : 0 ≤ vol) (hv1 : vol ≤ 100000000000) :
    Calls Tryz.prog 156 #[.agg #[.int .i64 qid, .int .i64 vol, .int .i64 fr, .int .i64 tod, .slice A n c]] w (SetRes w fs vol) := by
  have HL := Lib.hid h.1
  have HF := Lib.hid hf
  have HI := Lib.hid hi1
  have hb0 : RowKit.Below w.heap.size w (w.alloc (.cells #[.int .i64 qid, .int .i64 vol, .int .i64 fr, .int .i64 tod, .slice A n c] 54)) := (Below.refl _ _).alloc (Nat.le_refl _) _
  have hx0 := Bl.new w 54 #[.int .i64 qid, .int .i64 vol, .int .i64 fr, .int .i64 tod, .slice A n c]
  have h0 := h.alloc (.cells #[.int .i64 qid, .int .i64 vol, .int .i64 fr, .int .i64 tod, .slice A n c] 54)
  clear hf hi1 h
  go_enter Tryz.func156, Tryz.ntmps156
  go_upto_region 1 with (fail)
  generalize w.alloc (.cells #[.int .i64 qid, .int .i64 vol, .int .i64 fr, .int .i64 tod, .slice A n c] 54) = W0 at *
  have p4 : W0.cell? ⟨w.heap.size, 4, none⟩ = some (.slice A n c) := hx0.cell 4
  have HR := Lib.hid (requestsOf_any A n c fs W0 h0 (by omega) HF.out)
  go_wp2_with fail
  refine HR.out.mono ?_
  rintro e w1 ⟨B1, N, d1, rs, rfl, hrl, hNf, hrq, ho1, hb1⟩
  have hx1 := hx0.keep hb1
  have q4 : w1.cell? ⟨w.heap.size, 4, none⟩ = some (.slice A n c) := hx1.cell 4
  have HT := Lib.hid (tranchesOf_any A n c fs w1 (h0.below hb1) (by omega))
  have HRL := Lib.hid hrl
  have HRQ := Lib.hid hrq
  have hB1 := hb0.trans (hb1.mono hb0.size)
  have hw01 := hb1.size
  have hw0 := hb0.size
  have HO1 := Lib.hid (own_mono ho1 hw0)
  have HN : Hid (N ≤ n) := by have := HL.out; show _ ≤ _; omega
  have hN200 : N ≤ 200 := by have := HN.out; omega
  clear HR p4 hx0 hb0 hb1 h0 ho1 hrl hrq hNf
  go_wp2_with fail
  refine HT.out.mono ?_
  rintro e w2 ⟨B2, M, d2, ys, rfl, hyp, hyd, hyl, hMf, ho2, hb2⟩
  have hx2 := hx1.keep hb2
  have r1 : w2.cell? ⟨w.heap.size, 1, none⟩ = some (.int .i64 vol) := hx2.cell 1
  have HYP := Lib.hid hyp
  have HYD := Lib.hid hyd
  have HYL := Lib.hid hyl
  have hB2 := hB1.trans (hb2.mono hB1.size)
  have HO2 := Lib.hid (own_below HO1.out hb2)
  have HY2 := Lib.hid ho2
  have hMn : M ≤ n := by have := HL.out; omega
  have HLT1 := Lib.hid (fun g hg => own_lt HO1.out g hg)
  clear HT q4 hx1 hyp hyd hyl ho2 HO1 hMf
  obtain ⟨f0, hf0⟩ : ∃ f : Nat → Rq, (fun i => rs[i]!) = f := ⟨_, rfl⟩
  have HF0 := Lib.hid hf0
  obtain ⟨R, hR⟩ : ∃ R, runS (trSum ys) N N 0 0 vol f0 = R := ⟨_, rfl⟩
  have HRR := Lib.hid hR
  have HYQ : Hid (∀ y ∈ ys, 0 ≤ y.qty ∧ y.qty ≤ 1000000000) := fun y hy => by
    have := HF.out y (List.mem_filter.1 (HYP.out.mem_iff.1 hy)).1
    unfold FOk at this
    omega
  have HTB : Hid (∀ j, 0 ≤ trAll (ys.take j) ∧ trAll (ys.take j) ≤ 200000000000) := fun j => by
    have := trAll_bounds (ys := ys.take j) fun y hy => HYQ.out y (List.mem_of_mem_take hy)
    have h2 : (ys.take j).length ≤ 200 := by rw [List.length_take]; have := HYL.out; omega
    have h3 : ((ys.take j).length : Int) ≤ 200 := by omega
    omega
  have HOR : Hid (w2.ownsRow w.heap.size 264 6 (.slice B1 N d1) N (flat encR ((List.range N).map f0))) := by
    have : (List.range N).map f0 = rs := by
      rw [← hf0]
      apply List.ext_getElem
      · simp [HRL.out]
      · intro i h1 h2
        rw [List.getElem_map, List.getElem_range, getElem!_pos rs i h2]
    show World.ownsRow _ _ _ _ _ _ _
    rw [this]
    exact HO2.out
  have HTR : Hid (TrAt w2 w1.heap.size ys 0 (.slice B2 M d2)) := by
    have hrc := Recs.of_own encF_len HY2.out HYL.out
    refine ⟨B2, M, d2, rfl, ?_, ?_, by rw [Nat.zero_add, HYL.out], by rw [List.drop_zero]; exact hrc, fun b off e => own_base HY2.out b (by rw [e]; rfl)⟩
    · rcases HY2.out.2 with ⟨e, _⟩ | ⟨g, cap, cur, e, _, _, h1, _⟩
      · injection e; omega
      · injection e with _ _ e3; omega
    · rcases HY2.out.2 with ⟨e, _⟩ | ⟨g, cap, cur, e, _, _, _, h1, _⟩
      · injection e; omega
      · injection e with _ _ e3; unfold maxLen at h1; omega
  clear hf0 hR HO2 HY2
  go_wp2_with fail
  clear r1 hx2
  go_loopw [5, 6, 7] (fun t5 t6 t7 wx => ∃ (i j mf : Nat) (a : Int) (f : Nat → Rq), t7 = .int .i64 i ∧ t6 = .int .i64 a ∧ Hid (TrAt wx w1.heap.size ys j t5) ∧ i ≤ N ∧ N ≤ i + mf ∧ 0 ≤ a ∧ Hid (a ≤ vol + trAll (ys.take j)) ∧ Hid (∀ x k, x < j → i ≤ k → k < N → ys[x]!.day ≤ (f0 k).day) ∧ Hid (runS (trSum ys) N mf i (trAll (ys.take j)) a f = R) ∧ Hid (Same3 f f0) ∧ wx.ownsRow w.heap.size 264 6 (.slice B1 N d1) N (flat encR ((List.range N).map f)) ∧ RowKit.Below w.heap.size w wx) (fun _ _ t7 _ => N - (intOf t7).toNat)
  case atStart => exact ⟨0, 0, N, vol, f0, rfl, rfl, HTR.out, Nat.zero_le _, by omega, hv0, by show _ ≤ _; simp [trAll], fun x k h1 => by omega, by show _ = _; simpa [trAll] using HRR.out, Same3.refl _, HOR.out, hB2⟩
  case round =>
    clear HTR HOR hB2
    obtain ⟨i, j, mf, a, f, rfl, rfl, HTA, hiN, hmf, ha0, HAB, HDY, HRS, HSM, ho, hb⟩ := hrel
    by_cases hlt : i < N
    · obtain ⟨g, arr, hB1, hgb, hBl, hRow, HSZ, hNd, HMX⟩ := own_rowK encR_len ho (by simp) (by omega)
      have hg1 : g < w1.heap.size := HLT1.out g (by rw [hB1]; rfl)
      subst hB1
      have HRW : Hid (RRow wr g N (d1 * 6) f) := ⟨arr, hBl, HSZ.out, fun p hp q hq => by
        have := hRow p hp q hq
        rw [this]
        congr 2
        simp [hp]⟩
      obtain ⟨D, hD⟩ : ∃ D, (f i).day = D := ⟨_, rfl⟩
      have kd : wr.cell? ⟨g, i * 6 + 1, none⟩ = some (.int .i64 D) := by
        have := HRW.out.cell hlt 1 (by omega)
        rw [this, ← hD]
        rfl
      have HDD := Lib.hid hD
      have hii : (i : Int) < N := by omega
      obtain ⟨tp, htp⟩ : ∃ v, trAll (ys.take j) = v := ⟨_, rfl⟩
      have HTP := Lib.hid htp
      rw [htp] at HAB HRS
      clear hD htp hRow hBl HSZ ho
      go_upto_block 2 with (fail)
      go_cut [5, 6] (fun t5 t6 wx => ∃ (J : Nat) (AA : Int), t6 = .int .i64 AA ∧ Hid (TrAt wr w1.heap.size ys J t5) ∧ 0 ≤ AA ∧ AA ≤ 1000000000000 ∧ Hid (AA = a + (trSum ys D - tp)) ∧ Hid (trSum ys D = trAll (ys.take J)) ∧ Hid (∀ x, x < J → ys[x]!.day ≤ D) ∧ wx = wr)
      case first =>
        go_wp2_with fail
        go_loop [5, 6] (fun t5 t6 => ∃ (J : Nat) (A : Int), t6 = .int .i64 A ∧ Hid (TrAt wr w1.heap.size ys J t5) ∧ j ≤ J ∧ 0 ≤ A ∧ A ≤ 1000000000000 ∧ Hid (A = a + (trAll (ys.take J) - tp)) ∧ Hid (∀ x, x < J → ys[x]!.day ≤ D)) (fun t5 _ => slLen t5)
        case atStart => exact ⟨j, a, rfl, HTA, Nat.le_refl _, ha0, by have := HAB.out; have := HTB.out j; have := HTP.out; omega, by show _ = _; rw [HTP.out]; omega, fun x hx => by have := HDY.out x i hx (Nat.le_refl _) hlt; have h2 := (HSM.out i).1; have h3 := HDD.out; omega⟩
        case round =>
          obtain ⟨J, AA, rfl, HTJ, hjJ, hA0, hA1, HAE, HAD⟩ := hrel
          obtain ⟨A5, m5, c5, hv5, hm5, hc5, hJm, hRc, hlo⟩ := HTJ.out
          subst hv5
          have HLO := Lib.hid hlo
          have HRC := Lib.hid hRc
          have HJM := Lib.hid hJm
          clear hlo hJm HTJ
          by_cases hm0 : 0 < m5
          · obtain ⟨b, off, y, hA5, hbl, c0, c1, c2, c3, c4, HX⟩ := hRc.getF hm0
            subst hA5
            have HYJ : Hid (ys[J]! = y) := by
              have := HX.out
              show _ = _
              rw [drop_cons ys J (by have := HJM.out; omega)] at this
              exact this
            have hyq := HYQ.out y (by rw [← HYJ.out, getElem!_pos ys J (by have := HJM.out; omega)]; exact List.getElem_mem _)
            have k2 : wr.cell? ⟨b, off + 2, none⟩ = some (.int .i64 y.day) := by simpa using c2
            have k4 : wr.cell? ⟨b, off + 4, none⟩ = some (.int .i64 y.qty) := by simpa using c4
            have hm5i : (0 : Int) < m5 := by omega
            clear c0 c1 c2 c3 c4 hRc
            by_cases hyD : y.day ≤ D
            · have HTS := Lib.hid (trAll_take ys J (by have := HJM.out; omega))
              rw [HYJ.out] at HTS
              have hq0 := hyq.1
              have hq1 := hyq.2
              have HA2 : Hid (AA + y.qty = a + (trAll (ys.take (J + 1)) - tp)) := by have := HAE.out; have := HTS.out; show _ = _; omega
              have hA2 : AA + y.qty ≤ 1000000000000 := by have h1 := HA2.out; have h2 := HAB.out; have h3 := HTB.out (J + 1); omega
              have HAD2 : Hid (∀ x, x < J + 1 → ys[x]!.day ≤ D) := fun x hx => by
                by_cases e : x = J
                · subst e; rw [HYJ.out]; exact hyD
                · exact HAD.out x (by omega)
              have HTA2 : Hid (∀ s' c', (0 < m5 - 1 → s' = some ⟨b, off + 5, none⟩) → (∀ b' off', s' = some ⟨b', off', none⟩ → w1.heap.size ≤ b') → m5 - 1 ≤ c' → c' ≤ 9223372036854775807 → TrAt wr w1.heap.size ys (J + 1) (.slice s' (m5 - 1) c')) := fun s' c' h1 h2 h3 h4 => by
                refine ⟨s', m5 - 1, c', rfl, h3, h4, by have := HJM.out; omega, ?_, h2⟩
                have hr := HRC.out
                rw [drop_cons ys J (by have := HJM.out; omega), show m5 = (m5 - 1) + 1 by omega] at hr
                exact hr.tail s' h1
              by_cases hc1 : c5 = 1
              · obtain rfl : m5 = 1 := by omega
                subst hc1
                have HTZ : Hid (TrAt wr w1.heap.size ys (J + 1) (.slice (some ⟨b, off, none⟩) 0 0)) := HTA2.out (some ⟨b, off, none⟩) 0 (fun h => by omega) (fun b' off' e => HLO.out b' off' e) (by omega) (by omega)
                clear HTA2
                go_wp2_with fail
                go_round
                case rel => exact ⟨J + 1, _, rfl, HTZ, by omega, by omega, hA2, HA2, HAD2⟩
                case measure => simp [slLen]
              · have hc2 : (1 : Int) < c5 := by omega
                have hc3 : 1 < c5 := by omega
                have HTZ : Hid (TrAt wr w1.heap.size ys (J + 1) (.slice (some ⟨b, off + 5, none⟩) (m5 - 1) (c5 - 1))) := HTA2.out (some ⟨b, off + 5, none⟩) (c5 - 1) (fun h => rfl) (fun b' off' e => by injection e with e; injection e with e1; have := HLO.out b off rfl; omega) (by omega) (by omega)
                clear HTA2
                go_wp2_with fail
                go_round
                case rel => exact ⟨J + 1, _, rfl, HTZ, by omega, by omega, hA2, HA2, HAD2⟩
                case measure => simp [slLen]; omega
            · have HTD : Hid (trSum ys D = trAll (ys.take J)) := trSum_take HYD.out (by have := HJM.out; omega) HAD.out (fun _ => by rw [HYJ.out]; omega)
              have HTJ : Hid (TrAt wr w1.heap.size ys J (.slice (some ⟨b, off, none⟩) m5 c5)) := ⟨_, m5, c5, rfl, hm5, hc5, HJM.out, HRC.out, HLO.out⟩
              have dd : decide (y.day ≤ D) = false := by simp; omega
              clear hyD
              go_wp2_with fail
              go_meet
              exact ⟨J, AA, rfl, HTJ, hA0, hA1, by show _ = _; rw [HTD.out]; exact HAE.out, HTD, HAD, rfl⟩
          · obtain rfl : m5 = 0 := by omega
            have HTD : Hid (trSum ys D = trAll (ys.take J)) := trSum_take HYD.out (by have := HJM.out; omega) HAD.out (fun h => by have := HJM.out; omega)
            have HTJ : Hid (TrAt wr w1.heap.size ys J (.slice A5 0 c5)) := ⟨_, 0, c5, rfl, hm5, hc5, HJM.out, HRC.out, HLO.out⟩
            go_wp2_with fail
            go_meet
            exact ⟨J, AA, rfl, HTJ, hA0, hA1, by show _ = _; rw [HTD.out]; exact HAE.out, HTD, HAD, rfl⟩
      case rest =>
        clear HTA
        obtain ⟨J, AA, rfl, HTJ, hA0, hA1, HAE, HTD, HAD, hw⟩ := hcut
        replace hw := hw.symm
        subst hw
        obtain ⟨E, hE⟩ : ∃ e, endAt f D N N i = e := ⟨_, rfl⟩
        have HE := Lib.hid hE
        clear hE
        go_upto_block 4 with (fail)
        go_cut [9] (fun t9 wx => t9 = .int .i64 E ∧ wx = wr)
        case first =>
          go_wp2_with fail
          go_loop [9] (fun t9 => ∃ (Q mq : Nat), t9 = .int .i64 Q ∧ i ≤ Q ∧ Q ≤ N ∧ N ≤ Q + mq ∧ Hid (endAt f D N mq Q = E)) (fun t9 => N - (intOf t9).toNat)
          case atStart => exact ⟨i, N, rfl, Nat.le_refl _, hiN, by omega, HE.out⟩
          case round =>
            obtain ⟨Q, mq, rfl, hQ1, hQ2, hQ3, HQE⟩ := hrel
            by_cases hQN : Q < N
            · obtain ⟨dq, hdq⟩ : ∃ v, (f Q).day = v := ⟨_, rfl⟩
              have kq : wr.cell? ⟨g, Q * 6 + 1, none⟩ = some (.int .i64 dq) := by
                have := HRW.out.cell hQN 1 (by omega)
                rw [this, ← hdq]
                rfl
              have hqi : (Q : Int) < N := by omega
              by_cases hqd : dq = D
              · have b1 : (dq == D) = true := by simpa using hqd
                have HQ2 : Hid (endAt f D N (mq - 1) (Q + 1) = E) := by
                  have := HQE.out
                  rw [show mq = (mq - 1) + 1 by omega, endAt_step hQN (hdq.trans hqd)] at this
                  exact this
                clear hqd hdq
                go_wp2_with fail
                go_round
                case rel => exact ⟨Q + 1, mq - 1, by go_num, by omega, by omega, by omega, HQ2⟩
                case measure => simp [intOf]; omega
              · have b1 : (dq == D) = false := by simpa using hqd
                have HQ2 : Hid (Q = E) := by
                  have := HQE.out
                  rw [endAt_here (fun h => hqd (hdq.symm.trans h.2))] at this
                  exact this
                clear hqd hdq
                go_wp2_with fail
                go_meet
                exact ⟨by rw [HQ2.out], rfl⟩
            · have HQ2 : Hid (Q = E) := by
                have := HQE.out
                rw [endAt_here (fun h => hQN h.1)] at this
                exact this
              go_wp2_with fail
              go_meet
              exact ⟨by rw [HQ2.out], rfl⟩
        case rest =>
          obtain ⟨rfl, hw⟩ := hcut
          replace hw := hw.symm
          subst hw
          have hEi : i ≤ E := by rw [← HE.out]; exact endAt_ge f D N N i
          have hEN : E ≤ N := by rw [← HE.out]; exact endAt_le f D N N i hiN
          have hEi1 : i < E := by
            have h1 := HE.out
            rw [show N = (N - 1) + 1 by omega, endAt_step (by omega) HDD.out] at h1
            have := endAt_ge f D (N - 1 + 1) (N - 1) (i + 1)
            omega
          have HVE : Hid (vErr (dayReqs f i (E - i)) = 0) := by
            refine vErr_ok (by rw [dayReqs_len]; omega) (fun p hp => ?_) (fun p hp => ?_)
            · rw [dayReqs_len] at hp
              rw [dayReqs_get f i (E - i) p hp]
              have h1 := rq_ok HRQ.out HF.out HI.out (i + p) (by rw [HRL.out]; omega)
              have h2 := HSM.out (i + p)
              rw [← HF0.out] at h2
              unfold okReq
              dsimp at h2 ⊢
              omega
            · rw [dayReqs_len] at hp
              rw [dayReqs_get f i (E - i) p (by omega), dayReqs_get f i (E - i) (p + 1) (by omega)]
              have h1 := HRQ.out.srt (i + p) (i + (p + 1)) (by omega) (by rw [HRL.out]; omega)
              have h2 := HSM.out (i + p)
              have h3 := HSM.out (i + (p + 1))
              have h4 := endAt_in f D N N i (i + p) (by omega) (by rw [HE.out]; omega)
              have h5 := endAt_in f D N N i (i + (p + 1)) (by omega) (by rw [HE.out]; omega)
              rw [← HF0.out] at h2 h3
              dsimp at h2 h3 ⊢
              omega
          have HAL := Lib.hid (fun cap => allocate_any g N (d1 * 6) i (E - i) cap f AA wr HRW.out (by omega) hN200 hA0 hA1 HVE.out)
          have hEii : (i : Int) ≤ E := by omega
          have hENi : (E : Int) ≤ N := by omega
          have hNdi : (N : Int) ≤ d1 := by omega
          have HNN := Lib.hid (sum_nonneg' HVE.out)
          clear kd
          go_wp2_with fail
          refine (HAL.out _).mono ?_
          rintro e w5 ⟨rfl, hR5, hK5⟩
          have HTA5 := Lib.hid (HTJ.out.kp hK5 hg1)
          have HO5 : Hid (w5.ownsRow w.heap.size 264 6 (.slice (some ⟨g, 0, none⟩) N d1) N (flat encR ((List.range N).map (grantedF f i (E - i) AA (E - i))))) := by
            obtain ⟨arr5, k1, k2, k3⟩ := hR5
            exact own_of_rowK encR_len (by omega) k1 k3 hgb k2 hNd HMX.out
          have HB5 : Hid (RowKit.Below w.heap.size w w5) := hK5.under hb hb.size hgb
          have HR5 : Hid (runS (trSum ys) N (mf - 1) E (trAll (ys.take J)) (max (AA - (qsOf (dayReqs f i (E - i))).sum) 0) (grantedF f i (E - i) AA (E - i)) = R) := by
            have h1 := HRS.out
            rw [show mf = (mf - 1) + 1 by omega, runS_step hlt HDD.out HE.out, ← HAE.out, HTD.out] at h1
            exact h1
          have HS5 : Hid (Same3 (grantedF f i (E - i) AA (E - i)) f0) := HSM.out.granted i (E - i) AA (E - i)
          have HA5 : Hid (max (AA - (qsOf (dayReqs f i (E - i))).sum) 0 ≤ vol + trAll (ys.take J)) := by
            have h1 := HNN.out
            have h2 := HAE.out
            have h3 := HTD.out
            have h4 := HAB.out
            have h5 := (HTB.out J).1
            show _ ≤ _
            omega
          have HD5 : Hid (∀ x k, x < J → E ≤ k → k < N → ys[x]!.day ≤ (f0 k).day) := fun x k h1 h2 h3 => by
            have h4 := HAD.out x h1
            have h5 := HDD.out
            have h6 := (HSM.out i).1
            have h7 := day_mono HRQ.out (i := i) (k := k) (by omega) (by rw [HRL.out]; exact h3)
            rw [← HF0.out] at h6 ⊢
            dsimp at h6 ⊢
            omega
          have ha5 : 0 ≤ max (AA - (qsOf (dayReqs f i (E - i))).sum) 0 := by omega
          generalize max (AA - (qsOf (dayReqs f i (E - i))).sum) 0 = a5 at *
          generalize grantedF f i (E - i) AA (E - i) = f5 at *
          clear hR5 hK5 HAL HTJ
          go_wp2_with fail
          go_roundw
          case rel => exact ⟨E, J, mf - 1, a5, f5, rfl, rfl, HTA5, hEN, by omega, ha5, HA5, HD5, HR5, HS5, HO5.out, HB5.out⟩
          case measure => simp [intOf]; omega
    · obtain rfl : N = i := by omega
      have HRE : Hid (R = (f, trAll (ys.take j), a)) := by
        have := HRS.out
        rw [runS_end (by omega)] at this
        exact this.symm
      obtain ⟨A5, m5, c5, hv5, hm5, hc5, hJm, hRc, hlo⟩ := HTA.out
      subst hv5
      have HJM := Lib.hid hJm
      have HDL : Hid ((ys.drop j).length = m5) := by show _ = _; rw [List.length_drop]; omega
      have hm200 : m5 ≤ 200 := by have := HYL.out; omega
      have HQB : Hid (∀ k, 0 ≤ trAll ((ys.drop j).take k) ∧ trAll ((ys.drop j).take k) ≤ 200000000000) := fun k => by
        have := trAll_bounds (ys := (ys.drop j).take k) fun y hy => HYQ.out y (List.mem_of_mem_drop (List.mem_of_mem_take hy))
        have h2 : ((ys.drop j).take k).length ≤ 200 := by rw [List.length_take]; have := HDL.out; omega
        have h3 : (((ys.drop j).take k).length : Int) ≤ 200 := by omega
        omega
      have ha1 : a ≤ 400000000000 := by have := HAB.out; have := HTB.out j; omega
      have HO := Lib.hid ho
      clear hJm hlo ho HTA HAB
      obtain ⟨W7, rfl⟩ : ∃ W, W = wr := ⟨_, rfl⟩
      go_wp2_with fail
      go_loopw [6, 76] (fun t6 t76 wx => ∃ k : Nat, k ≤ m5 ∧ t76 = .int .i64 k ∧ t6 = .int .i64 (a + trAll ((ys.drop j).take k)) ∧ RowKit.Below W7.heap.size W7 wx) (fun _ t76 _ => m5 - (intOf t76).toNat)
      case atStart => exact ⟨0, Nat.zero_le _, rfl, by simp [trAll], Below.refl _ _⟩
      case round =>
        obtain ⟨k, hk, rfl, rfl, hbk⟩ := hrel
        have hq := HQB.out k
        by_cases hlt2 : k < m5
        · obtain ⟨b, off, y, hA5, hbl, c0, c1, c2, c3, c4, HX⟩ := (hRc.below hbk).getF hlt2
          subst hA5
          have HTS := Lib.hid (trAll_take (ys.drop j) k (by have := HDL.out; omega))
          rw [HX.out] at HTS
          have hyq := HYQ.out y (by
            have h1 : (ys.drop j)[k]! ∈ ys.drop j := by rw [getElem!_pos (ys.drop j) k (by have := HDL.out; omega)]; exact List.getElem_mem _
            rw [HX.out] at h1
            exact List.mem_of_mem_drop h1)
          have hk1 : (k : Int) < m5 := by omega
          have hq0 := hyq.1
          have hq1 := hyq.2
          have hb8 : RowKit.Below W7.heap.size W7 (wr.alloc (.cells #[.int .i64 y.num, .int .i64 y.kind, .int .i64 y.day, .int .i64 y.id, .int .i64 y.qty] 122)) := hbk.alloc hbk.size _
          generalize trAll ((ys.drop j).take k) = tk at *
          go_wp2_with fail
          go_roundw
          case rel => exact ⟨k + 1, by omega, by go_num, by rw [HTS.out]; congr 1; omega, hb8⟩
          case measure => simp [intOf]; omega
        · obtain rfl : m5 = k := by omega
          rw [List.take_of_length_le (by have := HDL.out; omega)] at hq ⊢
          have HOk := Lib.hid (own_below HO.out hbk)
          have hBk := hb.trans (hbk.mono hb.size)
          have HS := Lib.hid (sortI_any B1 N d1 w.heap.size _ wr HOk.out (by simp) (by omega) hBk.size)
          have HLF : Hid (a + trAll (ys.drop j) = R.2.2 + (trAll (trOf fs) - R.2.1)) := by
            have h1 := trAll_split ys j
            have h2 := trAll_perm HYP.out
            show _ = _
            rw [HRE.out]
            dsimp
            omega
          have HRF : Hid (R = runS (trSum (trOf fs)) N N 0 0 vol (fun i => rs[i]!)) := by
            show _ = _
            rw [← HRR.out, HF0.out, show trSum ys = trSum (trOf fs) from funext fun D => trSum_perm HYP.out D]
          have HND : Hid ((((List.range N).map f).map (·.id)).Nodup) := by
            show List.Nodup _
            rw [ids_same HSM.out, ← HF0.out]
            have : (List.range N).map (fun i => rs[i]!) = rs := by
              apply List.ext_getElem
              · simp [HRL.out]
              · intro i h1 h2
                rw [List.getElem_map, List.getElem_range, getElem!_pos rs i h2]
            rw [this]
            exact HRQ.out.nodup
          have HR1 : Hid (R.1 = f) := by show _ = _; rw [HRE.out]
          generalize a + trAll (ys.drop j) = lf at *
          clear hRc hbk HOk
          go_wp2_with fail
          refine HS.out.mono ?_
          rintro e w9 ⟨rfl, rs', hp, hs, ho9, hb9⟩
          have HP := Lib.hid hp
          have HSO : Hid (∀ i j, i < j → j < N → rs'[i]!.id < rs'[j]!.id) := fun i j h1 h2 => by
            have h3 := hs i j h1 h2
            rw [ltI] at h3
            have h4 := of_decide_eq_false h3
            have h5 := nodup_get ((hp.map (·.id)).nodup_iff.2 HND.out) h1 (by rw [hp.length_eq]; simpa using h2)
            omega
          have HO9 := Lib.hid ho9
          have HB9 := Lib.hid (hBk.trans hb9)
          clear hp hs ho9 hb9 HS
          go_wp2
          go_ret2
          exact ⟨B1, N, d1, rs, rs', R, by show Ending.returned (.tuple #[.slice B1 N d1, .int .i64 lf]) = _; rw [HLF.out], HRQ.out, HRL.out, by have := HN.out; have := HL.out; omega, HRF.out, by rw [HR1.out]; exact HP.out, HSO.out, HO9.out, HB9.out⟩
end Go.Proofs.YtdbcbbiplkikcaaGreat

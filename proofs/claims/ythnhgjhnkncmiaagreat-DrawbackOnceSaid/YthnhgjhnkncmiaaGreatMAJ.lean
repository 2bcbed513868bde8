/-
  Contracts of drawback.valid, latent.Validate and drawback.find. No statement of the seat is proved here. Conditions: the lists read as slices or charges.
  Contracts of drawback.overlap and, at valid claims, of drawback.Validate. No statement of the seat is proved here. Conditions: the list reads as claims that are valid.
  Contracts of the reference's Put (where the new lots' numbers follow the others) and Without (customsref24). No statement of the seat is proved here. Conditions: the lists read as lots, at most 1000 of them.
  What is used of the reference's Next (customsref24): no action of an estate transfers a lot. No statement of the seat is proved here. Conditions: the procedure is from 1 to 12, the action one of an estate's.
  Words for the stock of an estate in memory, and what an act returns. No statement of the seat is proved here. No conditions.
-/
import Derived.Test.YthnhgjhnkncmiaaGreatMAI
import Derived.Test.YthnhgjhnkncmiaaGreatMAB
namespace Go.Proofs.YthnhgjhnkncmiaaGreat
open Go.RowKit
set_option linter.unusedVariables false

set_option maxRecDepth 100000 in
set_option maxHeartbeats 8000000 in
theorem valid29_any (x : Clm) (A : Option Addr) (n c : Nat) (w : World) (h : Recs encSl 3 w A n x.sl) :
    Calls Tryz.prog 27 #[.agg #[.int .i64 x.num, .int .i64 x.lot, .int .i64 x.sch, .int .i64 x.qty, .int .i64 x.rate, .slice A n c]] w (BRes w (clOk x)) := by
  have HX := Lib.hid h
  have HB : Hid (RowKit.Below w.heap.size w (w.alloc (.cells #[.int .i64 x.num, .int .i64 x.lot, .int .i64 x.sch, .int .i64 x.qty, .int .i64 x.rate, .slice A n c] 39))) := (Below.refl _ _).alloc (Nat.le_refl _) _
  have hx := Bl.new w 39 #[.int .i64 x.num, .int .i64 x.lot, .int .i64 x.sch, .int .i64 x.qty, .int .i64 x.rate, .slice A n c]
  have x0 := hx.cell 0
  have x1 := hx.cell 1
  have x2 := hx.cell 2
  have x3 := hx.cell 3
  have x4 := hx.cell 4
  have x5 := hx.cell 5
  have HV := Lib.hid lotValid_any
  have hno : ∀ P : Prop, P → (clOk x = true → ¬ P) → clOk x = false := fun P h1 h2 => by
    cases hc : clOk x
    · rfl
    · exact absurd h1 (h2 hc)
  clear hx h
  go_enter Tryz.func27, Tryz.ntmps27
  go_upto_region 1 with (fail)
  generalize w.alloc (.cells #[.int .i64 x.num, .int .i64 x.lot, .int .i64 x.sch, .int .i64 x.qty, .int .i64 x.rate, .slice A n c] 39) = w1 at *
  obtain ⟨gx, hgx⟩ : ∃ gx, w.heap.size = gx := ⟨_, rfl⟩
  rw [hgx] at x0 x1 x2 x3 x4 x5 ⊢
  have HGX := Lib.hid hgx
  clear hgx
  by_cases g0 : x.num < 1
  case pos =>
    have d0 : decide (x.num < 1) = true := decide_eq_true g0
    have hr := hno (x.num < 1) (by omega) (fun h => by have := clOk_yes h; omega)
    go_wp2
    go_ret
    exact ⟨by first | rfl | (rw [hr]; rfl), HB.out⟩
  case neg =>
  have d0 : decide (x.num < 1) = false := decide_eq_false g0
  by_cases g1 : x.num > 1000000000
  case pos =>
    have d1 : decide (x.num > 1000000000) = true := decide_eq_true g1
    have hr := hno (x.num > 1000000000) (by omega) (fun h => by have := clOk_yes h; omega)
    go_wp2
    go_ret
    exact ⟨by first | rfl | (rw [hr]; rfl), HB.out⟩
  case neg =>
  have d1 : decide (x.num > 1000000000) = false := decide_eq_false g1
  by_cases g2 : x.lot < 1
  case pos =>
    have d2 : decide (x.lot < 1) = true := decide_eq_true g2
    have hr := hno (x.lot < 1) (by omega) (fun h => by have := clOk_yes h; omega)
    go_wp2
    go_ret
    exact ⟨by first | rfl | (rw [hr]; rfl), HB.out⟩
  case neg =>
  have d2 : decide (x.lot < 1) = false := decide_eq_false g2
  by_cases g3 : x.lot > 1000000
  case pos =>
    have d3 : decide (x.lot > 1000000) = true := decide_eq_true g3
    have hr := hno (x.lot > 1000000) (by omega) (fun h => by have := clOk_yes h; omega)
    go_wp2
    go_ret
    exact ⟨by first | rfl | (rw [hr]; rfl), HB.out⟩
  case neg =>
  have d3 : decide (x.lot > 1000000) = false := decide_eq_false g3
  by_cases s1 : x.sch ≠ 1 ∧ x.sch ≠ 2
  case pos =>
    have hr := hno (x.sch ≠ 1 ∧ x.sch ≠ 2) s1 (fun h => by have := clOk_yes h; omega)

    have e1 : (x.sch != 1) = true := by simpa using s1.1
    have e2 : (x.sch != 2) = true := by simpa using s1.2
    clear s1
    go_wp2
    go_ret
    exact ⟨by first | rfl | (rw [hr]; rfl), HB.out⟩
  case neg =>
  by_cases g4 : x.qty < 1
  case pos =>
    have d4 : decide (x.qty < 1) = true := decide_eq_true g4
    have hr := hno (x.qty < 1) (by omega) (fun h => by have := clOk_yes h; omega)

    have hs : x.sch = 1 ∨ x.sch = 2 := by omega
    have e0 : (x.sch != 1) = false ∨ (x.sch != 2) = false := by rcases hs with e | e <;> simp [e]
    clear s1
    rcases hs with e | e
    · have e1 : (x.sch != 1) = false := by simp [e]
      clear e e0
      go_wp2
      go_ret
      exact ⟨by first | rfl | (rw [hr]; rfl), HB.out⟩
    · have e1 : (x.sch != 2) = false := by simp [e]
      have e2 : (x.sch != 1) = true := by simp [e]
      clear e e0
      go_wp2
      go_ret
      exact ⟨by first | rfl | (rw [hr]; rfl), HB.out⟩
  case neg =>
  have d4 : decide (x.qty < 1) = false := decide_eq_false g4
  by_cases g5 : x.qty > 1000000000
  case pos =>
    have d5 : decide (x.qty > 1000000000) = true := decide_eq_true g5
    have hr := hno (x.qty > 1000000000) (by omega) (fun h => by have := clOk_yes h; omega)

    have hs : x.sch = 1 ∨ x.sch = 2 := by omega
    have e0 : (x.sch != 1) = false ∨ (x.sch != 2) = false := by rcases hs with e | e <;> simp [e]
    clear s1
    rcases hs with e | e
    · have e1 : (x.sch != 1) = false := by simp [e]
      clear e e0
      go_wp2
      go_ret
      exact ⟨by first | rfl | (rw [hr]; rfl), HB.out⟩
    · have e1 : (x.sch != 2) = false := by simp [e]
      have e2 : (x.sch != 1) = true := by simp [e]
      clear e e0
      go_wp2
      go_ret
      exact ⟨by first | rfl | (rw [hr]; rfl), HB.out⟩
  case neg =>
  have d5 : decide (x.qty > 1000000000) = false := decide_eq_false g5
  by_cases g6 : x.rate < 0
  case pos =>
    have d6 : decide (x.rate < 0) = true := decide_eq_true g6
    have hr := hno (x.rate < 0) (by omega) (fun h => by have := clOk_yes h; omega)

    have hs : x.sch = 1 ∨ x.sch = 2 := by omega
    have e0 : (x.sch != 1) = false ∨ (x.sch != 2) = false := by rcases hs with e | e <;> simp [e]
    clear s1
    rcases hs with e | e
    · have e1 : (x.sch != 1) = false := by simp [e]
      clear e e0
      go_wp2
      go_ret
      exact ⟨by first | rfl | (rw [hr]; rfl), HB.out⟩
    · have e1 : (x.sch != 2) = false := by simp [e]
      have e2 : (x.sch != 1) = true := by simp [e]
      clear e e0
      go_wp2
      go_ret
      exact ⟨by first | rfl | (rw [hr]; rfl), HB.out⟩
  case neg =>
  have d6 : decide (x.rate < 0) = false := decide_eq_false g6
  by_cases g7 : x.rate > 10000000
  case pos =>
    have d7 : decide (x.rate > 10000000) = true := decide_eq_true g7
    have hr := hno (x.rate > 10000000) (by omega) (fun h => by have := clOk_yes h; omega)

    have hs : x.sch = 1 ∨ x.sch = 2 := by omega
    have e0 : (x.sch != 1) = false ∨ (x.sch != 2) = false := by rcases hs with e | e <;> simp [e]
    clear s1
    rcases hs with e | e
    · have e1 : (x.sch != 1) = false := by simp [e]
      clear e e0
      go_wp2
      go_ret
      exact ⟨by first | rfl | (rw [hr]; rfl), HB.out⟩
    · have e1 : (x.sch != 2) = false := by simp [e]
      have e2 : (x.sch != 1) = true := by simp [e]
      clear e e0
      go_wp2
      go_ret
      exact ⟨by first | rfl | (rw [hr]; rfl), HB.out⟩
  case neg =>
  have d7 : decide (x.rate > 10000000) = false := decide_eq_false g7
  have HX1 : Hid (Recs encSl 3 w1 A n x.sl) := HX.out.below HB.out
  have hs : x.sch = 1 ∨ x.sch = 2 := by omega
  have hyes : slErr x.sl = 0 → clOk x = true := fun h => by simp [clOk, h]; omega
  clear s1 g0 g1 g2 g3 g4 g5 g6 g7
  rcases hs with e | e
  · have e1 : (x.sch != 1) = false := by simp [e]
    clear e
    go_wp2_with fail
    refine (HV.out A n c x.sl w1 HX1.out).mono ?_
    rintro e2' w2 ⟨rfl, hb2⟩
    have HB2 : Hid (RowKit.Below w.heap.size w w2) := HB.out.trans (hb2.mono HB.out.size)
    cases hz : (slErr x.sl == 0)
    case false =>
      have hr : clOk x = false := hno (slErr x.sl ≠ 0) (by simpa using hz) (fun h k => k (clOk_yes h).2.2.2.2.2.2.2.2.2)

      go_wp2
      go_ret
      exact ⟨by first | rfl | (rw [hr]; rfl), HB2.out⟩
    case true =>
      have hr : clOk x = true := hyes (by simpa using hz)

      go_wp2
      go_ret
      exact ⟨by first | rfl | (rw [hr]; rfl), HB2.out⟩
  · have e1 : (x.sch != 2) = false := by simp [e]
    have e2 : (x.sch != 1) = true := by simp [e]
    clear e
    go_wp2_with fail
    refine (HV.out A n c x.sl w1 HX1.out).mono ?_
    rintro e2' w2 ⟨rfl, hb2⟩
    have HB2 : Hid (RowKit.Below w.heap.size w w2) := HB.out.trans (hb2.mono HB.out.size)
    cases hz : (slErr x.sl == 0)
    case false =>
      have hr : clOk x = false := hno (slErr x.sl ≠ 0) (by simpa using hz) (fun h k => k (clOk_yes h).2.2.2.2.2.2.2.2.2)

      go_wp2
      go_ret
      exact ⟨by first | rfl | (rw [hr]; rfl), HB2.out⟩
    case true =>
      have hr : clOk x = true := hyes (by simpa using hz)

      go_wp2
      go_ret
      exact ⟨by first | rfl | (rw [hr]; rfl), HB2.out⟩
end Go.Proofs.YthnhgjhnkncmiaaGreat

namespace Go.Proofs.YthnhgjhnkncmiaaGreat
open Go.RowKit
set_option linter.unusedVariables false

abbrev clms (bs : List Cb) : List Clm := bs.map (·.x)
theorem clms_get {bs : List Cb} {i : Nat} (hi : i < bs.length) : (clms bs)[i]! = bs[i]!.x := by
  rw [getElem!_pos (clms bs) i (by simpa using hi), getElem!_pos bs i hi]
  simp [clms]
theorem clms_len (bs : List Cb) : (clms bs).length = bs.length := by simp [clms]
theorem get_memK {α : Type} [Inhabited α] {l : List α} {i : Nat} (hi : i < l.length) : l[i]! ∈ l := by rw [getElem!_pos l i hi]; exact List.getElem_mem hi
set_option maxRecDepth 100000 in
set_option maxHeartbeats 16000000 in
theorem overlap29_any (A : Option Addr) (n c : Nat) (bs : List Cb) (w : World) (h : ClAt w A n bs) (hok : ∀ b ∈ bs, clOk b.x = true) (hn : n ≤ 65) :
    Calls Tryz.prog 35 #[.slice A n c] w (BRes w (!decide (Apart (clSl (clms bs))))) := by
  have HX := Lib.hid h
  have hxl : bs.length = n := h.cls.recs.1
  have HOK := Lib.hid hok
  have hcok : ∀ c ∈ clms bs, clOk c = true := fun c hc => by
    obtain ⟨b, hb, rfl⟩ := List.mem_map.1 hc
    exact hok b hb
  have HTL : Hid (∀ i, (clSl ((clms bs).take i)).length ≤ 4160) := fun i => clSl_take_len hcok i (by rw [clms_len]; omega)
  have HV : Hid (SlsOk (clSl (clms bs))) := clSl_ok hcok
  clear h hok hcok
  go_enter Tryz.func35, Tryz.ntmps35
  go_wp2_with fail
  go_loopw [3, 9] (fun s v wx => ∃ (i : Nat) (B : Option Addr) (k d : Nat) (xs : List Sl), v = .int .i64 (i : Int) ∧ s = .slice B k d ∧ i ≤ n ∧ Hid (xs = clSl ((clms bs).take i)) ∧ Hid (xs.length = k) ∧ Hid (wx.ownsRow w.heap.size 68 3 (.slice B k d) k (flat encSl xs)) ∧ Hid (RowKit.Below w.heap.size w wx)) (fun _ v _ => n - (intOf v).toNat)
  case atStart => exact ⟨0, none, 0, 0, [], rfl, rfl, Nat.zero_le _, rfl, rfl, ⟨by simp [flat], .inl ⟨rfl, rfl⟩⟩, Below.refl _ _⟩
  case round =>
    obtain ⟨i, B, k, d, xs, rfl, rfl, hi, HE, HK, HO, HB⟩ := hrel
    by_cases hlt : i < n
    case pos =>
      have dk : decide ((i : Int) < (n : Int)) = true := by simp; omega
      obtain ⟨b1, o1, rfl, hb1, ha⟩ := recs_at (HX.out.below HB.out).cls.recs hlt
      obtain ⟨y, hy⟩ : ∃ y, bs[i]! = y := ⟨_, rfl⟩
      rw [hy] at ha
      have a0 : wr.cell? ⟨b1, o1 + i * 6, none⟩ = some (.int .i64 y.x.num) := ha.out 0 (by omega)
      have a1 : wr.cell? ⟨b1, o1 + i * 6 + 1, none⟩ = some (.int .i64 y.x.lot) := ha.out 1 (by omega)
      have a2 : wr.cell? ⟨b1, o1 + i * 6 + 2, none⟩ = some (.int .i64 y.x.sch) := ha.out 2 (by omega)
      have a3 : wr.cell? ⟨b1, o1 + i * 6 + 3, none⟩ = some (.int .i64 y.x.qty) := ha.out 3 (by omega)
      have a4 : wr.cell? ⟨b1, o1 + i * 6 + 4, none⟩ = some (.int .i64 y.x.rate) := ha.out 4 (by omega)
      have a5 : wr.cell? ⟨b1, o1 + i * 6 + 5, none⟩ = some (.slice y.A y.n y.c) := ha.out 5 (by omega)
      have hmem : y ∈ bs := by rw [← hy]; exact get_memK (by omega)
      have HSL : Hid (SlAt w y.A y.n y.x.sl) := (HX.out.sls y hmem).1
      have hyl : y.n ≤ 64 := by rw [← HSL.out.recs.1]; exact (clOk_sl (HOK.out y hmem)).1
      have HE2 : Hid (clSl ((clms bs).take (i + 1)) = xs ++ y.x.sl) := by show _ = _; rw [clSl_take (by rw [clms_len]; omega), clms_get (by omega), hy, HE.out]
      have hkl : k ≤ 4160 := by rw [← HK.out, HE.out]; exact HTL.out i
      have hii : (i : Int) < (n : Int) := by omega
      have hiz : (0 : Int) ≤ (i : Int) := by omega
      have HBA : Hid (RowKit.Below w.heap.size w (wr.alloc (.cells #[.int .i64 y.x.num, .int .i64 y.x.lot, .int .i64 y.x.sch, .int .i64 y.x.qty, .int .i64 y.x.rate, .slice y.A y.n y.c] 39))) := HB.out.alloc HB.out.size _
      have HXB : Hid (Bl (wr.alloc (.cells #[.int .i64 y.x.num, .int .i64 y.x.lot, .int .i64 y.x.sch, .int .i64 y.x.qty, .int .i64 y.x.rate, .slice y.A y.n y.c] 39)) wr.heap.size 39 #[.int .i64 y.x.num, .int .i64 y.x.lot, .int .i64 y.x.sch, .int .i64 y.x.qty, .int .i64 y.x.rate, .slice y.A y.n y.c]) := Bl.new _ _ _
      have HOA : Hid ((wr.alloc (.cells #[.int .i64 y.x.num, .int .i64 y.x.lot, .int .i64 y.x.sch, .int .i64 y.x.qty, .int .i64 y.x.rate, .slice y.A y.n y.c] 39)).ownsRow w.heap.size 68 3 (.slice B k d) k (flat encSl xs)) := own_alloc HO.out _
      clear ha hy hmem
      go_upto_region 5 with (fail)
      clear a0 a1 a2 a3 a4 a5 HB hb1 HO
      generalize wr.alloc (.cells #[.int .i64 y.x.num, .int .i64 y.x.lot, .int .i64 y.x.sch, .int .i64 y.x.qty, .int .i64 y.x.rate, .slice y.A y.n y.c] 39) = W at *
      generalize wr.heap.size = gx at *
      have x5 : W.cell? ⟨gx, 5, none⟩ = some (.slice y.A y.n y.c) := HXB.out.cell 5
      have HRD : Hid (Rd W 3 y.A y.n (flat encSl y.x.sl)) := rd_of_recs encSl_len (by decide) (HSL.out.recs.below HBA.out)
      have HON : Hid (∀ v ∈ flat encSl y.x.sl, v.oneCell' = true) := flat_oneK encSl_one _
      have HM1 : Hid (k + y.n ≤ maxLen ∧ (k + y.n) * 24 ≤ 140737488355328) := ⟨by unfold maxLen; omega, by omega⟩
      go_wp2_with (at_builtin; refine wpList_append_rd _ rfl (.tmp 13) (.tmp 15) 34 rfl w.heap.size 68 _ 3 24 Tryz.underlying34 infoSl rfl (by decide) (.slice B k d) k (flat encSl xs) rfl HOA.out y.A y.n y.c (flat encSl y.x.sl) rfl HRD.out HON.out HM1.out.1 HM1.out.2 HBA.out.size ?_; intro v9 w9 ho9 hg9 hv9; obtain ⟨B9, d9, rfl⟩ := own_slice ho9)
      have HB9 : Hid (RowKit.Below w.heap.size w w9) := HBA.out.grown hg9 HBA.out.size (fun j hj => own_base HOA.out j hj)
      have HO9 : Hid (w9.ownsRow w.heap.size 68 3 (.slice B9 (k + y.n) d9) (k + y.n) (flat encSl (xs ++ y.x.sl))) := by rw [flat_append]; exact ho9
      have HK9 : Hid ((xs ++ y.x.sl).length = k + y.n) := by show _ = _; rw [List.length_append, HK.out, HSL.out.recs.1]
      clear ho9 hg9 hv9 HBA HOA HXB HRD x5
      go_wp2_with fail
      go_roundw
      case rel => exact ⟨i + 1, B9, k + y.n, d9, xs ++ y.x.sl, by go_num, rfl, by omega, HE2.out.symm, HK9, HO9, HB9⟩
      case measure => simp [intOf]; omega
    case neg =>
    have dk : decide ((i : Int) < (n : Int)) = false := by simp; omega
    have hke : k ≤ 4160 := by rw [← HK.out, HE.out]; exact HTL.out i
    have hE : xs = clSl (clms bs) := by rw [HE.out, List.take_of_length_le (by rw [clms_len]; omega)]
    rw [← hE] at HV
    have hkl : xs.length = k := HK.out
    have HEE := Lib.hid hE
    clear HE HK HTL hE HX HOK
    have HSO := Lib.hid (sortSd_any B k d w.heap.size xs wr HO.out hkl (by omega) HB.out.size)
    go_wp2_with fail
    refine HSO.out.mono ?_
    rintro e w2 ⟨rfl, rs, hp, hs, ho2, hb2⟩
    have hrl : rs.length = k := by rw [hp.length_eq, hkl]
    have HNA := Lib.hid (sorted_apart hp HV.out.lt (srt_le (fun i j h1 h2 => hs i j h1 (by omega))))
    have HR : Hid (Recs encSl 3 w2 B k rs) := Recs.of_own encSl_len ho2 hrl
    have HB2 : Hid (RowKit.Below w.heap.size w w2) := HB.out.trans hb2
    clear hp hs ho2 hb2 HO HB HSO hi hlt dk
    clear hxl hn
    go_wp2_with fail
    go_loopw [6] (fun v wx => ∃ i : Nat, v = .int .i64 (i : Int) ∧ 1 ≤ i ∧ i ≤ k + 1 ∧ (i ≤ k ∨ k = 0) ∧ Hid (∀ j, j + 1 < i → ¬ (rs[j + 1]!.src = rs[j]!.src ∧ rs[j + 1]!.fr < rs[j]!.to)) ∧ Hid (RowKit.Below w2.heap.size w2 wx)) (fun v _ => k + 1 - (intOf v).toNat)
    case atStart => exact ⟨1, rfl, by omega, by omega, by omega, (fun j hj => by omega), Below.refl _ _⟩
    case round =>
      obtain ⟨i, rfl, hi1, hi2, hi3, HN, HB⟩ := hrel
      by_cases hlt : i < k
      case neg =>
        have dk : decide ((i : Int) < (k : Int)) = false := by simp; omega
        have hap : Apart xs := HNA.out.1 fun j hj => HN.out j (by omega)
        have HBW : Hid (RowKit.Below w.heap.size w wr) := HB2.out.trans (HB.out.mono HB2.out.size)
        have hda : (!decide (Apart xs)) = false := by simp [hap]
        have HDA := Lib.hid hda
        clear hap hda
        go_wp2
        go_ret
        exact ⟨by rw [← HEE.out, HDA.out]; rfl, HBW.out⟩
      case pos =>
      have dk : decide ((i : Int) < (k : Int)) = true := by simp; omega
      obtain ⟨b1, o1, rfl, hb1, ha⟩ := recs_at (HR.out.below HB.out) hlt
      obtain ⟨b3, o3, e3, hb3, hd⟩ := recs_at (HR.out.below HB.out) (show i - 1 < k by omega)
      injection e3 with e3
      injection e3 with e4 e5
      subst e4 e5
      obtain ⟨x, hx⟩ : ∃ x, rs[i]! = x := ⟨_, rfl⟩
      obtain ⟨y, hy⟩ : ∃ y, rs[i - 1]! = y := ⟨_, rfl⟩
      rw [hx] at ha
      rw [hy] at hd
      have a0 : wr.cell? ⟨b1, o1 + i * 3, none⟩ = some (.int .i64 x.src) := ha.out 0 (by omega)
      have a1 : wr.cell? ⟨b1, o1 + i * 3 + 1, none⟩ = some (.int .i64 x.fr) := ha.out 1 (by omega)
      have c0 : wr.cell? ⟨b1, o1 + (i - 1) * 3, none⟩ = some (.int .i64 y.src) := hd.out 0 (by omega)
      have c2 : wr.cell? ⟨b1, o1 + (i - 1) * 3 + 2, none⟩ = some (.int .i64 y.to) := hd.out 2 (by omega)
      have HXI := Lib.hid hx
      have HYI := Lib.hid hy
      have hk1 : (i : Int) - 1 = ((i - 1 : Nat) : Int) := by omega
      have u1 : IntKind.i64.wrap ((i : Int) - 1) = ((i - 1 : Nat) : Int) := by rw [hk1]; exact IntWalk.i64_in _ (by omega)
      have hkk : ((i - 1 : Nat) : Int) < (k : Int) := by omega
      have hkz : (0 : Int) ≤ ((i - 1 : Nat) : Int) := by omega
      have hii : (i : Int) < (k : Int) := by omega
      have hiz : (0 : Int) ≤ (i : Int) := by omega
      clear ha hd hx hy hk1
      by_cases hadj : x.src = y.src ∧ x.fr < y.to
      case pos =>
        have d1 : (x.src == y.src) = true := by simpa using hadj.1
        have d2 : decide (x.fr < y.to) = true := decide_eq_true hadj.2
        have hnap : ¬ Apart xs := fun h => by
          have := HNA.out.2 h (i - 1) (by omega)
          rw [show i - 1 + 1 = i by omega, HXI.out, HYI.out] at this
          exact this hadj
        have hda : (!decide (Apart xs)) = true := by simp [hnap]
        have HDA := Lib.hid hda
        have HBW : Hid (RowKit.Below w.heap.size w wr) := HB2.out.trans (HB.out.mono HB2.out.size)
        clear hadj hnap hda
        go_upto_region 11 with (fail)
        go_quiet (fail)
        go_wp2
        go_ret
        exact ⟨by rw [← HEE.out, HDA.out]; rfl, below_drewN HBW.out _⟩
      case neg =>
      have HN2 : Hid (∀ j, j + 1 < i + 1 → ¬ (rs[j + 1]!.src = rs[j]!.src ∧ rs[j + 1]!.fr < rs[j]!.to)) := fun j hj => by
        by_cases e : j + 1 = i
        · have e2 : j = i - 1 := by omega
          rw [e, e2, HXI.out, HYI.out]
          exact hadj
        · exact HN.out j (by omega)
      by_cases hs1 : x.src = y.src
      case neg =>
        have d1 : (x.src == y.src) = false := by simpa using hs1
        clear hadj hs1
        go_upto_region 11 with (fail)
        go_quiet (fail)
        go_wp2_with fail
        go_roundw
        case rel => exact ⟨i + 1, by go_num, by omega, by omega, by omega, HN2, below_drewN HB.out _⟩
        case measure => simp [intOf]; omega
      case pos =>
        have d1 : (x.src == y.src) = true := by simpa using hs1
        have d2 : decide (x.fr < y.to) = false := decide_eq_false fun h => hadj ⟨hs1, h⟩
        clear hadj hs1
        go_upto_region 11 with (fail)
        go_quiet (fail)
        go_wp2_with fail
        go_roundw
        case rel => exact ⟨i + 1, by go_num, by omega, by omega, by omega, HN2, below_drewN HB.out _⟩
        case measure => simp [intOf]; omega
set_option maxRecDepth 100000 in
set_option maxHeartbeats 16000000 in
theorem Validate29_ok (A : Option Addr) (n c : Nat) (bs : List Cb) (w : World) (h : ClAt w A n bs) (hok : ClsOk (clms bs)) :
    Calls Tryz.prog 13 #[.slice A n c] w (EInt w 0) := by
  have HX := Lib.hid h
  have hxl : bs.length = n := h.cls.recs.1
  have hn : n ≤ 64 := by rw [← hxl, ← clms_len]; exact hok.few
  have HOK : Hid (∀ b ∈ bs, clOk b.x = true) := fun b hb => hok.ok b.x (List.mem_map.2 ⟨b, hb, rfl⟩)
  have HASC : Hid (∀ i, i + 1 < n → bs[i]!.x.num < bs[i + 1]!.x.num) := fun i hi => by
    have := hok.ascI (i := i) (by rw [clms_len]; omega)
    rwa [clms_get (by omega), clms_get (by omega)] at this
  have HV : Hid (∀ b ∈ bs, ∀ wx, RowKit.Below w.heap.size w wx → Calls Tryz.prog 27 #[.agg #[.int .i64 b.x.num, .int .i64 b.x.lot, .int .i64 b.x.sch, .int .i64 b.x.qty, .int .i64 b.x.rate, .slice b.A b.n b.c]] wx (BRes wx true)) := fun b hb wx hbw => by
    have := valid29_any b.x b.A b.n b.c wx ((HX.out.sls b hb).1.recs.below hbw)
    rwa [HOK.out b hb] at this
  have HOV : Hid (∀ wx, RowKit.Below w.heap.size w wx → Calls Tryz.prog 35 #[.slice A n c] wx (BRes wx false)) := fun wx hbw => by
    have := overlap29_any A n c bs wx (HX.out.below hbw) HOK.out (by omega)
    rwa [show (!decide (Apart (clSl (clms bs)))) = false by simp [hok.apart]] at this
  clear h hok
  have d0 : decide ((n : Int) > 64) = false := by simp; omega
  have d1 : decide (64 < n) = false := by simp; omega
  go_enter Tryz.func13, Tryz.ntmps13
  go_wp2_with fail
  clear d0 d1
  go_loopw [11] (fun v wx => ∃ i : Nat, v = .int .i64 (i : Int) ∧ i ≤ n ∧ Hid (RowKit.Below w.heap.size w wx)) (fun v _ => n - (intOf v).toNat)
  case atStart => exact ⟨0, rfl, Nat.zero_le _, Below.refl _ _⟩
  case round =>
    obtain ⟨i, rfl, hi, HB⟩ := hrel
    by_cases hlt : i < n
    case pos =>
      have dk : decide ((i : Int) < (n : Int)) = true := by simp; omega
      obtain ⟨b1, o1, rfl, hb1, ha⟩ := recs_at (HX.out.below HB.out).cls.recs hlt
      obtain ⟨y, hy⟩ : ∃ y, bs[i]! = y := ⟨_, rfl⟩
      rw [hy] at ha
      have a0 : wr.cell? ⟨b1, o1 + i * 6, none⟩ = some (.int .i64 y.x.num) := ha.out 0 (by omega)
      have a1 : wr.cell? ⟨b1, o1 + i * 6 + 1, none⟩ = some (.int .i64 y.x.lot) := ha.out 1 (by omega)
      have a2 : wr.cell? ⟨b1, o1 + i * 6 + 2, none⟩ = some (.int .i64 y.x.sch) := ha.out 2 (by omega)
      have a3 : wr.cell? ⟨b1, o1 + i * 6 + 3, none⟩ = some (.int .i64 y.x.qty) := ha.out 3 (by omega)
      have a4 : wr.cell? ⟨b1, o1 + i * 6 + 4, none⟩ = some (.int .i64 y.x.rate) := ha.out 4 (by omega)
      have a5 : wr.cell? ⟨b1, o1 + i * 6 + 5, none⟩ = some (.slice y.A y.n y.c) := ha.out 5 (by omega)
      have hmem : y ∈ bs := by rw [← hy]; exact get_memK (by omega)
      have HVY := Lib.hid (HV.out y hmem)
      have hii : (i : Int) < (n : Int) := by omega
      have hiz : (0 : Int) ≤ (i : Int) := by omega
      have HBA : Hid (RowKit.Below w.heap.size w (wr.alloc (.cells #[.int .i64 y.x.num, .int .i64 y.x.lot, .int .i64 y.x.sch, .int .i64 y.x.qty, .int .i64 y.x.rate, .slice y.A y.n y.c] 39))) := HB.out.alloc HB.out.size _
      have HXB : Hid (Bl (wr.alloc (.cells #[.int .i64 y.x.num, .int .i64 y.x.lot, .int .i64 y.x.sch, .int .i64 y.x.qty, .int .i64 y.x.rate, .slice y.A y.n y.c] 39)) wr.heap.size 39 #[.int .i64 y.x.num, .int .i64 y.x.lot, .int .i64 y.x.sch, .int .i64 y.x.qty, .int .i64 y.x.rate, .slice y.A y.n y.c]) := Bl.new _ _ _
      clear ha hy hmem
      go_upto_region 6 with (fail)
      clear a0 a1 a2 a3 a4 a5 HB hb1
      generalize wr.alloc (.cells #[.int .i64 y.x.num, .int .i64 y.x.lot, .int .i64 y.x.sch, .int .i64 y.x.qty, .int .i64 y.x.rate, .slice y.A y.n y.c] 39) = W at *
      generalize wr.heap.size = gx at *
      have x0 := HXB.out.cell 0
      have x1 := HXB.out.cell 1
      have x2 := HXB.out.cell 2
      have x3 := HXB.out.cell 3
      have x4 := HXB.out.cell 4
      have x5 := HXB.out.cell 5
      go_wp2_with fail
      refine (HVY.out W HBA.out).mono ?_
      rintro e w8 ⟨rfl, hb8⟩
      have HB8 : Hid (RowKit.Below w.heap.size w w8) := HBA.out.trans (hb8.mono HBA.out.size)
      clear hb8 x0 x1 x2 x3 x4 x5
      go_wp2_with fail
      go_roundw
      case rel => exact ⟨i + 1, by go_num, by omega, HB8⟩
      case measure => simp [intOf]; omega
    case neg =>
    have dk : decide ((i : Int) < (n : Int)) = false := by simp; omega
    clear HV
    go_wp2_with fail
    go_loopw [5] (fun v wx => ∃ i : Nat, v = .int .i64 (i : Int) ∧ 1 ≤ i ∧ i ≤ n + 1 ∧ (i ≤ n ∨ n = 0) ∧ Hid (RowKit.Below w.heap.size w wx)) (fun v _ => n + 1 - (intOf v).toNat)
    case atStart => exact ⟨1, rfl, by omega, by omega, by omega, HB⟩
    case round =>
      clear HB dk
      obtain ⟨i, rfl, hi1, hi2, hi3, HB⟩ := hrel
      by_cases hlt : i < n
      case neg =>
        have dk : decide ((i : Int) < (n : Int)) = false := by simp; omega
        have HOC := Lib.hid (HOV.out wr HB.out)
        go_wp2_with fail
        refine HOC.out.mono ?_
        rintro e w8 ⟨rfl, hb8⟩
        have HB8 : Hid (RowKit.Below w.heap.size w w8) := HB.out.trans (hb8.mono HB.out.size)
        clear hb8
        go_wp2
        go_ret
        exact ⟨rfl, HB8.out⟩
      case pos =>
      have dk : decide ((i : Int) < (n : Int)) = true := by simp; omega
      obtain ⟨b1, o1, rfl, hb1, ha⟩ := recs_at (HX.out.below HB.out).cls.recs hlt
      obtain ⟨b3, o3, e3, hb3, hd⟩ := recs_at (HX.out.below HB.out).cls.recs (show i - 1 < n by omega)
      injection e3 with e3
      injection e3 with e4 e5
      subst e4 e5
      obtain ⟨x, hx⟩ : ∃ x, bs[i]! = x := ⟨_, rfl⟩
      obtain ⟨y, hy⟩ : ∃ y, bs[i - 1]! = y := ⟨_, rfl⟩
      rw [hx] at ha
      rw [hy] at hd
      have a0 : wr.cell? ⟨b1, o1 + i * 6, none⟩ = some (.int .i64 x.x.num) := ha.out 0 (by omega)
      have c0 : wr.cell? ⟨b1, o1 + (i - 1) * 6, none⟩ = some (.int .i64 y.x.num) := hd.out 0 (by omega)
      have hlt2 : y.x.num < x.x.num := by
        have := HASC.out (i - 1) (by omega)
        rwa [show i - 1 + 1 = i by omega, hx, hy] at this
      generalize x.x.num = xn at *
      generalize y.x.num = yn at *
      have hk1 : (i : Int) - 1 = ((i - 1 : Nat) : Int) := by omega
      have u1 : IntKind.i64.wrap ((i : Int) - 1) = ((i - 1 : Nat) : Int) := by rw [hk1]; exact IntWalk.i64_in _ (by omega)
      have hkk : ((i - 1 : Nat) : Int) < (n : Int) := by omega
      have hkz : (0 : Int) ≤ ((i - 1 : Nat) : Int) := by omega
      have hii : (i : Int) < (n : Int) := by omega
      have hiz : (0 : Int) ≤ (i : Int) := by omega
      have d1 : decide (xn ≤ yn) = false := decide_eq_false (by omega)
      clear ha hd hx hy hk1 hlt2
      go_upto_region 12 with (fail)
      go_quiet (fail)
      go_wp2_with fail
      go_roundw
      case rel => exact ⟨i + 1, by go_num, by omega, by omega, by omega, below_drewN HB.out _⟩
      case measure => simp [intOf]; omega
end Go.Proofs.YthnhgjhnkncmiaaGreat

namespace Go.Proofs.YthnhgjhnkncmiaaGreat
open Go.RowKit
set_option linter.unusedVariables false

set_option maxRecDepth 100000 in
set_option maxHeartbeats 16000000 in
theorem Put_any (A : Option Addr) (n c : Nat) (ss : List Lb) (A2 : Option Addr) (m c2 : Nat) (ls : List Lb) (w : World) (h : Recs encL 5 w A n ss) (h2 : Recs encL 5 w A2 m ls) (hn : n ≤ 1000) (hm : m ≤ 1000) (hord : (ss ++ ls).Pairwise (fun a b => a.x.id < b.x.id)) :
    Calls Tryz.prog 75 #[.slice A n c, .slice A2 m c2] w (LtRes w (ss ++ ls)) := by
  have HX := Lib.hid h
  have HY := Lib.hid h2
  have HORD : Hid (∀ i j, i < j → j < n + m → ((ss ++ ls)[i]!).x.id < ((ss ++ ls)[j]!).x.id) := fun i j hij hj => by
    have hl : (ss ++ ls).length = n + m := by rw [List.length_append, h.1, h2.1]
    have := List.pairwise_iff_getElem.1 hord i j (by omega) (by omega) hij
    rwa [getElem!_pos (ss ++ ls) i (by omega), getElem!_pos (ss ++ ls) j (by omega)]
  have hxl : ss.length = n := h.1
  have hyl : ls.length = m := h2.1
  clear h h2 hord
  go_enter Tryz.func75, Tryz.ntmps75
  have HOW : Hid ((w.alloc (Obj.cells #[] 36)).ownsRow w.heap.size 36 5 (.slice (some ⟨w.heap.size, 0, none⟩) 0 0) 0 []) := own_empty (Bl.new _ _ _) (Nat.le_refl _)
  have HRD : Hid (Rd (w.alloc (Obj.cells #[] 36)) 5 A n (flat encL ss)) := (rd_of_recs encL_len (by decide) HX.out).keep ((Below.refl _ _).alloc (Nat.le_refl _) _)
  have HON : Hid (∀ v ∈ flat encL ss, v.oneCell' = true) := flat_oneK encL_one ss
  have HSZ : Hid (w.heap.size ≤ (w.alloc (Obj.cells #[] 36)).heap.size) := by show w.heap.size ≤ _; simp
  go_wp2_with (at_builtin; refine wpList_append_rd _ rfl (.tmp 8) (.tmp 9) 23 rfl w.heap.size 36 _ 5 64 Tryz.underlying23 infoLt rfl (by decide) (.slice (some ⟨w.heap.size, 0, none⟩) 0 0) 0 [] rfl HOW.out A n c (flat encL ss) rfl HRD.out HON.out (by unfold maxLen; omega) (by omega) HSZ.out ?_; intro v1 w1 ho1 hg1 hv1; obtain ⟨C1, d1, rfl⟩ := own_slice ho1)
  have HO1 : Hid (w1.ownsRow w.heap.size 36 5 (.slice C1 n d1) n (flat encL ss)) := by have := ho1; rwa [Nat.zero_add, List.nil_append] at this
  have HB1 : Hid (RowKit.Below w.heap.size w w1) := ((Below.refl _ _).alloc (Nat.le_refl _) _).grown hg1 HSZ.out (by intro g hg; simp [Value.ownBlock] at hg; omega)
  clear ho1 hg1 hv1 HOW HRD HON HSZ
  go_loopw [5, 6] (fun s v wx => ∃ (j : Nat) (C : Option Addr) (mm d : Nat) (os : List Lb), v = .int .i64 (j : Int) ∧ s = .slice C mm d ∧ j ≤ m ∧ Hid (mm = n + j) ∧ Hid (os = ss ++ ls.take j) ∧ Hid (os.length = mm) ∧ Hid (wx.ownsRow w.heap.size 36 5 (.slice C mm d) mm (flat encL os)) ∧ Hid (RowKit.Below w.heap.size w wx)) (fun _ v _ => m - (intOf v).toNat)
  case atStart => exact ⟨0, C1, n, d1, ss, rfl, rfl, Nat.zero_le _, rfl, (by show _ = _; simp), hxl, HO1.out, HB1.out⟩
  case round =>
    clear HO1 HB1
    obtain ⟨j, C, mm, d, os, rfl, rfl, hj, HMM, HOS, HOL, HO, HB⟩ := hrel
    by_cases hlt : j < m
    case neg =>
      have dk : decide ((j : Int) < (m : Int)) = false := by simp; omega
      have HF : Hid (os = ss ++ ls) := by show _ = _; rw [HOS.out, List.take_of_length_le (by omega)]
      go_wp2
      go_ret
      refine ⟨C, d, ?_, ?_, HB.out⟩
      · rw [← HF.out, HOL.out]; rfl
      · rw [← HF.out, HOL.out]; exact HO.out
    case pos =>
    have dk : decide ((j : Int) < (m : Int)) = true := by simp; omega
    obtain ⟨b1, o1, rfl, hb1, ha⟩ := recs_at (HY.out.below HB.out) hlt
    obtain ⟨x, hx⟩ : ∃ x, ls[j]! = x := ⟨_, rfl⟩
    rw [hx] at ha
    have a0 : wr.cell? ⟨b1, o1 + j * 5, none⟩ = some (.int .i64 x.x.id) := ha.out 0 (by omega)
    have a1 : wr.cell? ⟨b1, o1 + j * 5 + 1, none⟩ = some (.string x.x.code) := ha.out 1 (by omega)
    have a2 : wr.cell? ⟨b1, o1 + j * 5 + 2, none⟩ = some (.int .i64 x.x.qty) := ha.out 2 (by omega)
    have a3 : wr.cell? ⟨b1, o1 + j * 5 + 3, none⟩ = some (.int .i64 x.x.proc) := ha.out 3 (by omega)
    have a4 : wr.cell? ⟨b1, o1 + j * 5 + 4, none⟩ = some (.slice x.A x.n x.c) := ha.out 4 (by omega)
    have HOS2 : Hid (ss ++ ls.take (j + 1) = os ++ [x]) := by show _ = _; rw [take_snoc29 ls j (by omega), hx, ← List.append_assoc, ← HOS.out]
    have hmb : mm ≤ 2000 := by have := HMM.out; omega
    have HLT : Hid (∀ k, k < mm → os[k]!.x.id < x.x.id) := fun k hk => by
      have hmm := HMM.out
      have h1 := HORD.out k (n + j) (by omega) (by omega)
      have e1 : (ss ++ ls)[n + j]! = x := by rw [← hx, getElem!_pos (ss ++ ls) (n + j) (by rw [List.length_append]; omega), List.getElem_append_right (by omega), getElem!_pos ls j (by omega)]; congr 1; omega
      have e2 : os[k]! = (ss ++ ls)[k]! := by
        have hol := HOL.out
        rw [getElem!_pos os k (by omega), getElem!_pos (ss ++ ls) k (by rw [List.length_append]; omega)]
        have h3 : (ss ++ ls).take mm = os := by rw [HOS.out, hmm, List.take_append, hxl, List.take_of_length_le (by omega)]; congr 2; omega
        have h4 : os[k]? = (ss ++ ls)[k]? := by rw [← h3, List.getElem?_take_of_lt hk]
        rw [List.getElem?_eq_getElem (by omega), List.getElem?_eq_getElem (by rw [List.length_append]; omega)] at h4
        injection h4
      rw [e1] at h1
      rw [e2]
      exact h1
    have hjj : (j : Int) < (m : Int) := by omega
    have hjz : (0 : Int) ≤ (j : Int) := by omega
    clear ha hx HOS
    go_wp2_with fail
    go_loopw [7] (fun v wx => ∃ (k : Nat) (q : Nat), v = .int .i64 (k : Int) ∧ k ≤ mm ∧ Hid (wx = wr.drewN q)) (fun v _ => mm - (intOf v).toNat)
    case atStart => exact ⟨0, 0, rfl, Nat.zero_le _, rfl⟩
    case round =>
      obtain ⟨k, q, rfl, hk, HW⟩ := hrel
      obtain ⟨wz, hwz⟩ : ∃ wz, wz = wr := ⟨_, rfl⟩
      have hw := HW.out
      subst hw
      clear HW
      by_cases hlk : k < mm
      case pos =>
        have dk2 : decide (k < mm) = true := decide_eq_true hlk
        have hol := HOL.out
        obtain ⟨g, hC⟩ := own_addr HO.out (by omega)
        subst hC
        have c0 : wr.cell? ⟨g, k * 5, none⟩ = some (.int .i64 os[k]!.x.id) := own_cellK (c := 0) encL_len HO.out (by omega) (by decide) hol
        have hlo := HLT.out k hlk
        generalize os[k]!.x.id = y at c0 hlo
        have d3 : decide (y < x.x.id) = true := decide_eq_true hlo
        have hkk : (k : Int) < (mm : Int) := by omega
        have hkz : (0 : Int) ≤ (k : Int) := by omega
        go_upto_region 6 with (fail)
        go_quiet (fail)
        go_wp2_with fail
        go_roundw
        case rel => exact ⟨k + 1, q + nq, by go_num, by omega, rfl⟩
        case measure => simp [intOf]; omega
      case neg =>
        obtain rfl : k = mm := by omega
        have dk2 : decide (k < k) = false := by simp
        go_upto_region 6 with (fail)
        go_quiet (fail)
        go_upto_region 8 with (fail)
        have hol : os.length = k := HOL.out
        have HB7 : Hid (RowKit.Below w.heap.size w ((wr.drewN q).drewN nq)) := below_drewN (below_drewN HB.out q) nq
        have ho7 : ((wr.drewN q).drewN nq).ownsRow w.heap.size 36 5 (.slice C k d) k (flat encL os) := own_drewN (own_drewN HO.out q) nq
        have e0 : ((wr.drewN q).drewN nq).cell? ⟨b1, o1 + j * 5, none⟩ = some (.int .i64 x.x.id) := a0
        have e1 : ((wr.drewN q).drewN nq).cell? ⟨b1, o1 + j * 5 + 1, none⟩ = some (.string x.x.code) := a1
        have e2 : ((wr.drewN q).drewN nq).cell? ⟨b1, o1 + j * 5 + 2, none⟩ = some (.int .i64 x.x.qty) := a2
        have e3 : ((wr.drewN q).drewN nq).cell? ⟨b1, o1 + j * 5 + 3, none⟩ = some (.int .i64 x.x.proc) := a3
        have e4 : ((wr.drewN q).drewN nq).cell? ⟨b1, o1 + j * 5 + 4, none⟩ = some (.slice x.A x.n x.c) := a4
        have l1 : b1 < ((wr.drewN q).drewN nq).heap.size := hb1
        clear a0 a1 a2 a3 a4 hb1 HB HO
        generalize (wr.drewN q).drewN nq = W7 at *
        have hdm := own_boundsF ho7
        have HRDH : Hid (Rd W7 5 C k (flat encL (os.take k))) := by have := (Rd.of_own ho7).take (k := k) (by omega); rwa [← flat_takeK encL_len] at this
        have HRDL : Hid (Rd W7 5 (if d = k then C else C.map (·.add (k * 5))) (k - k) (flat encL (os.drop k))) := by have := (Rd.of_own ho7).drop (k := k) (c := d) (by omega) hdm.1; rwa [← flat_dropK encL_len] at this
        have HONE : Hid ((∀ u ∈ flat encL (os.take k), u.oneCell' = true) ∧ (∀ u ∈ flat encL (os.drop k), u.oneCell' = true)) := ⟨flat_oneK encL_one _, flat_oneK encL_one _⟩
        have HSE : Hid (os.take k ++ [x] ++ os.drop k = os ++ [x]) := by show _ = _; rw [List.take_of_length_le (by omega), List.drop_of_length_le (by omega), List.append_nil]
        have hkk : k ≤ 2000 := by omega
        clear ho7
        refine wp_region_rows [
            ⟨⟨some 36, [], []⟩, NoF, OwnR W7.heap.size 36 5 0 ([])⟩,
            ⟨⟨some 37, [], []⟩, fun _ v => v = .slice C k d, NoR⟩,
            ⟨⟨some 38, [], []⟩, fun _ v => v = .int .i64 (k : Int), NoR⟩,
            ⟨⟨some 39, [1, 2], []⟩, fun _ v => v = .slice C k d, NoR⟩,
            ⟨⟨some 40, [0, 3], [0]⟩, NoF, OwnR W7.heap.size 36 5 (k) (flat encL (os.take k))⟩,
            ⟨⟨some 41, [], []⟩, fun _ v => v = .slice (some ⟨b1, o1, none⟩) m c2, NoR⟩,
            ⟨⟨some 42, [], []⟩, fun _ v => v = .int .i64 (j : Int), NoR⟩,
            ⟨⟨some 43, [5, 6], []⟩, fun _ v => v = .pointer (some ⟨b1, o1 + j * 5, none⟩), NoR⟩,
            ⟨⟨some 44, [7], []⟩, fun _ v => v = .agg #[.int .i64 x.x.id, .string x.x.code, .int .i64 x.x.qty, .int .i64 x.x.proc, .slice x.A x.n x.c], NoR⟩,
            ⟨⟨some 45, [8], []⟩, NoF, LitR 36 (encL x).toArray 1⟩,
            ⟨⟨some 46, [4, 9], [4, 9]⟩, NoF, OwnR W7.heap.size 36 5 (k + 1) (flat encL (os.take k ++ [x]))⟩,
            ⟨⟨some 47, [], []⟩, fun _ v => v = .slice C k d, NoR⟩,
            ⟨⟨some 48, [], []⟩, fun _ v => v = .int .i64 (k : Int), NoR⟩,
            ⟨⟨some 49, [11, 12], []⟩, fun _ v => v = .slice (if d = k then C else C.map (·.add (k * 5))) (k - k) (d - k), NoR⟩,
            ⟨⟨some 50, [10, 13], [10]⟩, NoF, OwnR W7.heap.size 36 5 (k + 1 + (k - k)) (flat encL (os.take k ++ [x] ++ os.drop k))⟩,
            ⟨⟨some 5, [14], [14]⟩, NoF, OwnR W7.heap.size 36 5 (k + 1 + (k - k)) (flat encL (os.take k ++ [x] ++ os.drop k))⟩] (by kernel_rfl) (by kernel_rfl) (by kernel_rfl) ⟨OwnR.loc, NoR.loc, NoR.loc, NoR.loc, OwnR.loc, NoR.loc, NoR.loc, NoR.loc, NoR.loc, LitR.loc, OwnR.loc, NoR.loc, NoR.loc, NoR.loc, OwnR.loc, OwnR.loc, trivial⟩ ⟨?r0, ?r1, ?r2, ?r3, ?r4, ?r5, ?r6, ?r7, ?r8, ?r9, ?r10, ?r11, ?r12, ?r13, ?r14, ?r15, trivial⟩ ?fin
        case r0 =>
          refine step_of rfl rfl ?_
          intro a wx vs fp K hF hK
          refine op_value (v := .slice (some ⟨wx.heap.size, 0, none⟩) 0 0) (w' := wx.alloc (.cells #[] 36)) ?_ (hK _ _ _ (hF.made _ trivial ⟨own_lit (Bl.new _ _ _) hF.below.size rfl (by decide), rfl⟩))
          have ec : ∀ v, a.eval (.const v) = v := fun _ => rfl
          clear hF hK
          generalize a.eval = ρ at *
          go_simp
        case r1 =>
          refine step_of rfl rfl ?_
          intro a wx vs fp K hF hK
          exact op_move rfl (hF.at_ 5 rfl) (hK _ _ _ (hF.only rfl trivial))
        case r2 =>
          refine step_of rfl rfl ?_
          intro a wx vs fp K hF hK
          exact op_move rfl (hF.at_ 7 rfl) (hK _ _ _ (hF.only rfl trivial))
        case r3 =>
          refine step_of rfl rfl ?_
          intro a wx vs fp K hF hK
          exact op_hi (size := 5) rfl Tryz.underlying23 (by kernel_rfl) ((hF.ev 1 37 rfl rfl).trans (hF.va 1 rfl)) ((hF.ev 2 38 rfl rfl).trans (hF.va 2 rfl)) (by omega) (hK _ _ _ (hF.only rfl trivial))
        case r4 =>
          refine step_of rfl rfl ?_
          intro a wx vs fp K hF hK
          have hm : OwnR W7.heap.size 36 5 (0) ([]) [] (vs 0) (fp 0) wx := hF.me 0 rfl
          have hv : vs 3 = .slice C k d := hF.va 3 rfl
          have hrd := HRDH.out.keep hF.below
          refine op_append (.tmp 36) (.tmp 39) 23 rfl W7.heap.size 36 _ 5 64 Tryz.underlying23 infoLt rfl (by decide) (vs 0) (0) ([]) (hF.ev 0 36 rfl rfl) hm.1 C k d (flat encL (os.take k)) ((hF.ev 3 39 rfl rfl).trans hv) hrd (HONE.out.1) (by unfold maxLen; omega) (by omega) hF.below.size ?_
          intro v w' h1 h2 h3
          exact hK _ _ _ (hF.grown 0 rfl hm.2 h2 h3 (fun g hg => own_lt h1 g hg) trivial ⟨by simpa using h1, rfl⟩)
        case r5 =>
          refine step_of rfl rfl ?_
          intro a wx vs fp K hF hK
          exact op_move rfl (hF.at_ 1 rfl) (hK _ _ _ (hF.only rfl trivial))
        case r6 =>
          refine step_of rfl rfl ?_
          intro a wx vs fp K hF hK
          exact op_move rfl (hF.at_ 6 rfl) (hK _ _ _ (hF.only rfl trivial))
        case r7 =>
          refine step_of rfl rfl ?_
          intro a wx vs fp K hF hK
          have ev5 : a.eval (.tmp 41) = .slice (some ⟨b1, o1, none⟩) m c2 := (hF.ev 5 41 rfl rfl).trans (hF.va 5 rfl)
          have ev6 : a.eval (.tmp 42) = .int .i64 (j : Int) := (hF.ev 6 42 rfl rfl).trans (hF.va 6 rfl)
          refine op_value (v := .pointer (some ⟨b1, o1 + j * 5, none⟩)) ?_ (hK _ _ _ (hF.only rfl trivial))
          have ec : ∀ v, a.eval (.const v) = v := fun _ => rfl
          clear hF hK
          generalize a.eval = ρ at *
          go_simp
        case r8 =>
          refine step_of rfl rfl ?_
          intro a wx vs fp K hF hK
          have ev7 : a.eval (.tmp 43) = .pointer (some ⟨b1, o1 + j * 5, none⟩) := (hF.ev 7 43 rfl rfl).trans (hF.va 7 rfl)
          have m0 := (hF.below.cell (p := ⟨b1, o1 + j * 5, none⟩) l1).trans e0
          have m1 := (hF.below.cell (p := ⟨b1, o1 + j * 5 + 1, none⟩) l1).trans e1
          have m2 := (hF.below.cell (p := ⟨b1, o1 + j * 5 + 2, none⟩) l1).trans e2
          have m3 := (hF.below.cell (p := ⟨b1, o1 + j * 5 + 3, none⟩) l1).trans e3
          have m4 := (hF.below.cell (p := ⟨b1, o1 + j * 5 + 4, none⟩) l1).trans e4
          refine op_value (v := .agg #[.int .i64 x.x.id, .string x.x.code, .int .i64 x.x.qty, .int .i64 x.x.proc, .slice x.A x.n x.c]) ?_ (hK _ _ _ (hF.only rfl trivial))
          have ec : ∀ v, a.eval (.const v) = v := fun _ => rfl
          clear hF hK
          generalize a.eval = ρ at *
          go_simp
        case r9 =>
          refine step_of rfl rfl ?_
          intro a wx vs fp K hF hK
          have e8 : a.eval (.tmp 44) = .agg #[.int .i64 x.x.id, .string x.x.code, .int .i64 x.x.qty, .int .i64 x.x.proc, .slice x.A x.n x.c] := (hF.ev 8 44 rfl rfl).trans (hF.va 8 rfl)
          refine op_value (v := .slice (some ⟨wx.heap.size, 0, none⟩) 1 1) (w' := wx.alloc (.cells #[.int .i64 x.x.id, .string x.x.code, .int .i64 x.x.qty, .int .i64 x.x.proc, .slice x.A x.n x.c] 36)) ?_ (hK _ _ _ (hF.made _ trivial ⟨_, rfl, rfl, Bl.new _ _ _⟩))
          have ec : ∀ v, a.eval (.const v) = v := fun _ => rfl
          clear hF hK
          generalize a.eval = ρ at *
          go_simp
        case r10 =>
          refine step_of rfl rfl ?_
          intro a wx vs fp K hF hK
          have hm : OwnR W7.heap.size 36 5 (k) (flat encL (os.take k)) [] (vs 4) (fp 4) wx := hF.me 4 rfl
          have hv : LitR 36 (encL x).toArray (1) [] (vs 9) (fp 9) wx := hF.me 9 rfl
          obtain ⟨gy, hv, hfy, hbl⟩ := hv
          have hrd : Rd wx 5 (some ⟨gy, 0, none⟩) (1) (encL x) := rd_bl hbl rfl
          refine op_append (.tmp 40) (.tmp 45) 23 rfl W7.heap.size 36 _ 5 64 Tryz.underlying23 infoLt rfl (by decide) (vs 4) (k) (flat encL (os.take k)) (hF.ev 4 40 rfl rfl) hm.1 (some ⟨gy, 0, none⟩) (1) (1) (encL x) ((hF.ev 9 45 rfl rfl).trans hv) hrd (encL_one _) (by unfold maxLen; omega) (by omega) hF.below.size ?_
          intro v w' h1 h2 h3
          exact hK _ _ _ (hF.grown 4 rfl hm.2 h2 h3 (fun g hg => own_lt h1 g hg) trivial ⟨by (rw [flat_append, flat_one]; exact h1), rfl⟩)
        case r11 =>
          refine step_of rfl rfl ?_
          intro a wx vs fp K hF hK
          exact op_move rfl (hF.at_ 5 rfl) (hK _ _ _ (hF.only rfl trivial))
        case r12 =>
          refine step_of rfl rfl ?_
          intro a wx vs fp K hF hK
          exact op_move rfl (hF.at_ 7 rfl) (hK _ _ _ (hF.only rfl trivial))
        case r13 =>
          refine step_of rfl rfl ?_
          intro a wx vs fp K hF hK
          exact op_lo (size := 5) rfl Tryz.underlying23 (by kernel_rfl) ((hF.ev 11 47 rfl rfl).trans (hF.va 11 rfl)) ((hF.ev 12 48 rfl rfl).trans (hF.va 12 rfl)) (by omega) (hK _ _ _ (hF.only rfl trivial))
        case r14 =>
          refine step_of rfl rfl ?_
          intro a wx vs fp K hF hK
          have hm : OwnR W7.heap.size 36 5 (k + 1) (flat encL (os.take k ++ [x])) [] (vs 10) (fp 10) wx := hF.me 10 rfl
          have hv : vs 13 = .slice (if d = k then C else C.map (·.add (k * 5))) (k - k) (d - k) := hF.va 13 rfl
          have hrd := HRDL.out.keep hF.below
          refine op_append (.tmp 46) (.tmp 49) 23 rfl W7.heap.size 36 _ 5 64 Tryz.underlying23 infoLt rfl (by decide) (vs 10) (k + 1) (flat encL (os.take k ++ [x])) (hF.ev 10 46 rfl rfl) hm.1 (if d = k then C else C.map (·.add (k * 5))) (k - k) (d - k) (flat encL (os.drop k)) ((hF.ev 13 49 rfl rfl).trans hv) hrd (HONE.out.2) (by unfold maxLen; omega) (by omega) hF.below.size ?_
          intro v w' h1 h2 h3
          exact hK _ _ _ (hF.grown 10 rfl hm.2 h2 h3 (fun g hg => own_lt h1 g hg) trivial ⟨by (rw [flat_append]; exact h1), rfl⟩)
        case r15 =>
          refine step_of rfl rfl ?_
          intro a wx vs fp K hF hK
          have hm : OwnR W7.heap.size 36 5 (k + 1 + (k - k)) (flat encL (os.take k ++ [x] ++ os.drop k)) [] (vs 14) (fp 14) wx := hF.me 14 rfl
          exact op_assign rfl (hF.ev 14 50 rfl rfl) (hK _ _ _ (hF.hand 14 rfl trivial hm))
        case fin =>
          intro wz vs fp hI
          have hM : OwnR W7.heap.size 36 5 (k + 1 + (k - k)) (flat encL (os.take k ++ [x] ++ os.drop k)) [vs 14] (vs 15) (fp 15) wz := (hI.finM 15 (by decide) rfl).1
          have hbz := hI.below
          have ho9 := own_mono hM.1 HB7.out.size
          obtain ⟨B9, d9, hv9⟩ := own_slice hM.1
          rw [hv9] at ho9
          clear hI hM
          simp only [rj, number, putJ, List.map_cons, List.map_nil, if_true, Act.put, List.setIfInBounds_toArray, List.set_cons_zero, List.set_cons_succ, hv9]
          rw [show k + 1 + (k - k) = k + 1 by omega] at ho9 ⊢
          rw [HSE.out] at ho9
          generalize vs 0 = zv0
          generalize vs 1 = zv1
          generalize vs 2 = zv2
          generalize vs 3 = zv3
          generalize vs 4 = zv4
          generalize vs 5 = zv5
          generalize vs 6 = zv6
          generalize vs 7 = zv7
          generalize vs 8 = zv8
          generalize vs 9 = zv9
          generalize vs 10 = zv10
          generalize vs 11 = zv11
          generalize vs 12 = zv12
          generalize vs 13 = zv13
          generalize vs 14 = zv14
          have hB9 := HB7.out.trans (hbz.mono HB7.out.size)
          clear hv9 hbz HRDH HRDL HONE e0 e1 e2 e3 e4 HSE
          go_wp2_with fail
          go_roundw
          case rel => exact ⟨j + 1, B9, k + 1, d9, os ++ [x], by go_num, rfl, by omega, (by show _ = _; rw [HMM.out]; omega), (by show _ = _; rw [HOS2.out]), (by show _ = _; rw [List.length_append, HOL.out]; rfl), ho9, hB9⟩
          case measure => simp [intOf]; omega
set_option maxRecDepth 100000 in
set_option maxHeartbeats 8000000 in
theorem Without_any (A : Option Addr) (n c : Nat) (ss : List Lb) (A2 : Option Addr) (m c2 : Nat) (ids : List Int) (w : World) (h : Recs encL 5 w A n ss) (h2 : Ints w A2 m ids) (hn : n ≤ 1000) (hm : m ≤ 1000) :
    Calls Tryz.prog 80 #[.slice A n c, .slice A2 m c2] w (LtRes w (ss.filter fun b => decide (b.x.id ∉ ids))) := by
  have HX := Lib.hid h
  have HY := Lib.hid h2
  have HH := Lib.hid Has_any
  have hxl : ss.length = n := h.1
  clear h h2
  go_enter Tryz.func80, Tryz.ntmps80
  go_wp2_with fail
  go_loopw [5, 6] (fun s v wx => ∃ (j : Nat) (C : Option Addr) (k d : Nat) (os : List Lb), v = .int .i64 (j : Int) ∧ s = .slice C k d ∧ j ≤ n ∧ k ≤ j ∧ Hid (os = (ss.take j).filter fun b => decide (b.x.id ∉ ids)) ∧ Hid (os.length = k) ∧ Hid (wx.ownsRow w.heap.size 36 5 (.slice C k d) k (flat encL os)) ∧ Hid (RowKit.Below w.heap.size w wx)) (fun _ v _ => n - (intOf v).toNat)
  case atStart => exact ⟨0, none, 0, 0, [], rfl, rfl, Nat.zero_le _, Nat.le_refl _, (by show _ = _; simp), rfl, ⟨by simp [flat], .inl ⟨rfl, rfl⟩⟩, Below.refl _ _⟩
  case round =>
    obtain ⟨j, C, k, d, os, rfl, rfl, hj, hkj, HOS, HOL, HO, HB⟩ := hrel
    by_cases hlt : j < n
    case neg =>
      have dk : decide ((j : Int) < (n : Int)) = false := by simp; omega
      have HF : Hid (os = ss.filter fun b => decide (b.x.id ∉ ids)) := by show _ = _; rw [HOS.out, List.take_of_length_le (by omega)]
      go_wp2
      go_ret
      refine ⟨C, d, ?_, ?_, HB.out⟩
      · rw [← HF.out, HOL.out]; rfl
      · rw [← HF.out, HOL.out]; exact HO.out
    case pos =>
    have dk : decide ((j : Int) < (n : Int)) = true := by simp; omega
    obtain ⟨b1, o1, rfl, hb1, ha⟩ := recs_at (HX.out.below HB.out) hlt
    obtain ⟨x, hx⟩ : ∃ x, ss[j]! = x := ⟨_, rfl⟩
    rw [hx] at ha
    have a0 : wr.cell? ⟨b1, o1 + j * 5, none⟩ = some (.int .i64 x.x.id) := ha.out 0 (by omega)
    have a1 : wr.cell? ⟨b1, o1 + j * 5 + 1, none⟩ = some (.string x.x.code) := ha.out 1 (by omega)
    have a2 : wr.cell? ⟨b1, o1 + j * 5 + 2, none⟩ = some (.int .i64 x.x.qty) := ha.out 2 (by omega)
    have a3 : wr.cell? ⟨b1, o1 + j * 5 + 3, none⟩ = some (.int .i64 x.x.proc) := ha.out 3 (by omega)
    have a4 : wr.cell? ⟨b1, o1 + j * 5 + 4, none⟩ = some (.slice x.A x.n x.c) := ha.out 4 (by omega)
    have HOS2 : Hid ((ss.take (j + 1)).filter (fun b => decide (b.x.id ∉ ids)) = os ++ [x].filter (fun b => decide (b.x.id ∉ ids))) := by show _ = _; rw [take_snoc29 ss j (by omega), hx, List.filter_append, ← HOS.out]
    have HI : Hid (Ints wr A2 m ids) := HY.out.below HB.out
    have hjj : (j : Int) < (n : Int) := by omega
    have hjz : (0 : Int) ≤ (j : Int) := by omega
    clear ha hx HOS
    go_wp2_with fail
    refine (HH.out A2 m c2 ids x.x.id wr HI.out (by omega)).mono ?_
    rintro e w8 ⟨rfl, ⟨rfl, hin⟩ | ⟨rfl, hin⟩⟩
    · have HOS3 : Hid ((ss.take (j + 1)).filter (fun b => decide (b.x.id ∉ ids)) = os) := by show _ = _; rw [HOS2.out]; simp [hin]
      clear hin HOS2
      go_wp2_with fail
      go_roundw
      case rel => exact ⟨j + 1, C, k, d, os, by go_num, rfl, by omega, by omega, (by show _ = _; rw [HOS3.out]), HOL.out, HO.out, HB.out⟩
      case measure => simp [intOf]; omega
    · have HOS3 : Hid ((ss.take (j + 1)).filter (fun b => decide (b.x.id ∉ ids)) = os ++ [x]) := by show _ = _; rw [HOS2.out]; simp [hin]
      clear hin HOS2
      have HRD : Hid (Rd (w8.alloc (.cells #[.int .i64 x.x.id, .string x.x.code, .int .i64 x.x.qty, .int .i64 x.x.proc, .slice x.A x.n x.c] 36)) 5 (some ⟨w8.heap.size, 0, none⟩) 1 (encL x)) := rd_bl (xs := encL x) (Bl.new _ _ _) rfl
      have HON := Lib.hid (encL_one x)
      have HOA : Hid ((w8.alloc (.cells #[.int .i64 x.x.id, .string x.x.code, .int .i64 x.x.qty, .int .i64 x.x.proc, .slice x.A x.n x.c] 36)).ownsRow w.heap.size 36 5 (.slice C k d) k (flat encL os)) := own_alloc HO.out _
      have HBA : Hid (RowKit.Below w.heap.size w (w8.alloc (.cells #[.int .i64 x.x.id, .string x.x.code, .int .i64 x.x.qty, .int .i64 x.x.proc, .slice x.A x.n x.c] 36))) := HB.out.alloc HB.out.size _
      have HM1 : Hid (k + 1 ≤ maxLen ∧ (k + 1) * 64 ≤ 140737488355328) := ⟨by unfold maxLen; omega, by omega⟩
      go_wp2_with (at_builtin; refine wpList_append_rd _ rfl (.tmp 21) (.tmp 26) 23 rfl w.heap.size 36 _ 5 64 Tryz.underlying23 infoLt rfl (by decide) (.slice C k d) k (flat encL os) rfl HOA.out (some ⟨w8.heap.size, 0, none⟩) 1 _ (encL x) rfl HRD.out HON.out HM1.out.1 HM1.out.2 HBA.out.size ?_; intro v9 w9 ho9 hg9 hv9; obtain ⟨B9, d9, rfl⟩ := own_slice ho9)
      have hb9 : RowKit.Below w.heap.size w w9 := HBA.out.grown hg9 HBA.out.size (fun j hj => own_base HOA.out j hj)
      go_roundw
      case rel => exact ⟨j + 1, B9, k + 1, d9, os ++ [x], by go_num, rfl, by omega, by omega, (by show _ = _; rw [HOS3.out]), (by show _ = _; rw [List.length_append, HOL.out]; rfl), (by show World.ownsRow _ _ _ _ _ _ _; rw [flat_append, flat_one]; exact ho9), hb9⟩
      case measure => simp [intOf]; omega
end Go.Proofs.YthnhgjhnkncmiaaGreat

namespace Go.Proofs.YthnhgjhnkncmiaaGreat
open Go.RowKit
set_option linter.unusedVariables false

def NxRes (w : World) (e : Ending) (w' : World) : Prop := ∃ (t er : Int), e = .returned (.tuple #[.int .i64 t, .int .i64 er]) ∧ (er = 0 → 1 ≤ t ∧ t ≤ 12) ∧ RowKit.Below w.heap.size w w'
set_option maxRecDepth 100000 in
set_option maxHeartbeats 80000000 in
theorem Next_any (p a : Int) (w : World) (hp0 : 1 ≤ p) (hp1 : p ≤ 12) (ha0 : 1 ≤ a) (ha1 : a ≤ 14) (ha4 : a ≠ 4) : Calls Tryz.prog 76 #[.int .i64 p, .int .i64 a] w (NxRes w) := by
  have hp : p = 1 ∨ p = 2 ∨ p = 3 ∨ p = 4 ∨ p = 5 ∨ p = 6 ∨ p = 7 ∨ p = 8 ∨ p = 9 ∨ p = 10 ∨ p = 11 ∨ p = 12 := by omega
  have ha : a = 1 ∨ a = 2 ∨ a = 3 ∨ a = 5 ∨ a = 6 ∨ a = 7 ∨ a = 8 ∨ a = 9 ∨ a = 10 ∨ a = 11 ∨ a = 12 ∨ a = 13 ∨ a = 14 := by omega
  clear hp0 hp1 ha0 ha1 ha4
  rcases ha with rfl | rfl | rfl | rfl | rfl | rfl | rfl | rfl | rfl | rfl | rfl | rfl | rfl <;> rcases hp with rfl | rfl | rfl | rfl | rfl | rfl | rfl | rfl | rfl | rfl | rfl | rfl <;>
  · go_enter Tryz.func76, Tryz.ntmps76
    go_wp2
    go_ret2
    exact ⟨_, _, rfl, by decide, Below.refl _ _⟩
end Go.Proofs.YthnhgjhnkncmiaaGreat

namespace Go.Proofs.YthnhgjhnkncmiaaGreat
open Go.RowKit
set_option linter.unusedVariables false

/-- The lots of a stock in memory. -/
def lotsOf (bs : List Lb) : List Lt := bs.map (·.x)
/-- The block of a slice has its element type. -/
def TyA (w : World) (A : Option Addr) (T : TypeId) : Prop := ∀ b off, A = some ⟨b, off, none⟩ → ∃ cs, Bl w b T cs
theorem TyA.below {w w' : World} {A : Option Addr} {T : TypeId} (h : TyA w A T) (hb : RowKit.Below w.heap.size w w') : TyA w' A T := fun b off e => by
  obtain ⟨cs, hc⟩ := h b off e
  exact ⟨cs, (hb.block b hc.lt).trans hc⟩
theorem TyA.own {w : World} {N : Nat} {T : TypeId} {k n c : Nat} {A : Option Addr} {xs : List Value} (h : w.ownsRow N T k (.slice A n c) n xs) : TyA w A T := fun b off e => by
  rcases h.2 with ⟨hv, _⟩ | ⟨g, cap, cur, hv, _, hh, _⟩
  · injection hv with h5; rw [h5] at e; cases e
  · injection hv with h5
    rw [h5] at e
    injection e with e
    injection e with e1 e2
    subst e1
    exact ⟨cur, hh⟩
theorem TyA.nil (w : World) (T : TypeId) : TyA w none T := fun b off e => by cases e
theorem TyA.bl {w : World} {g off : Nat} {T : TypeId} {cs : Array Value} (h : Bl w g T cs) : TyA w (some ⟨g, off, none⟩) T := fun b o e => by
  injection e with e
  injection e with e1 e2
  subst e1
  exact ⟨cs, h⟩
/-- The stock of an estate in memory. -/
structure StM (w : World) (A : Option Addr) (n c : Nat) (bs : List Lb) : Prop where
  st : StAt w A n bs
  cap : n ≤ c ∧ c ≤ 9223372036854775807
  ty : ∀ b ∈ bs, TyA w b.A 68
  tyl : TyA w A 36
theorem StM.below {w w' : World} {A : Option Addr} {n c : Nat} {bs : List Lb} (h : StM w A n c bs) (hb : RowKit.Below w.heap.size w w') : StM w' A n c bs :=
  ⟨h.st.below hb, h.cap, fun b k => (h.ty b k).below hb, h.tyl.below hb⟩
theorem StM.len {w : World} {A : Option Addr} {n c : Nat} {bs : List Lb} (h : StM w A n c bs) : bs.length = n := h.st.lots.recs.1
theorem StM.empty (w : World) : StM w none 0 0 [] := ⟨⟨RRd.empty _ _ _, fun b k => (by cases k)⟩, ⟨Nat.le_refl _, by omega⟩, fun b k => (by cases k), TyA.nil _ _⟩
/-- A row of the call's own over lots whose slices are known. -/
theorem StM.own {w : World} {N : Nat} {A : Option Addr} {c : Nat} {bs : List Lb} (h : w.ownsRow N 36 5 (.slice A bs.length c) bs.length (flat encL bs)) (hs : ∀ b ∈ bs, (SlAt w b.A b.n b.x.sl ∧ b.n ≤ b.c ∧ b.c ≤ 9223372036854775807) ∧ TyA w b.A 68) : StM w A bs.length c bs :=
  ⟨⟨RRd.own encL_len h rfl, fun b k => (hs b k).1⟩, own_boundsF h, fun b k => (hs b k).2, TyA.own h⟩
theorem StM.sl {w : World} {A : Option Addr} {n c : Nat} {bs : List Lb} (h : StM w A n c bs) : ∀ b ∈ bs, (SlAt w b.A b.n b.x.sl ∧ b.n ≤ b.c ∧ b.c ≤ 9223372036854775807) ∧ TyA w b.A 68 := fun b k => ⟨h.st.sls b k, h.ty b k⟩
theorem sl_below {w w' : World} {b : Lb} (h : (SlAt w b.A b.n b.x.sl ∧ b.n ≤ b.c ∧ b.c ≤ 9223372036854775807) ∧ TyA w b.A 68) (hb : RowKit.Below w.heap.size w w') : (SlAt w' b.A b.n b.x.sl ∧ b.n ≤ b.c ∧ b.c ≤ 9223372036854775807) ∧ TyA w' b.A 68 := ⟨⟨h.1.1.below hb, h.1.2⟩, h.2.below hb⟩
/-- What an act on a stock returns. -/
def ActR (w : World) (R : List Lt → Prop) (e : Ending) (w' : World) : Prop := ∃ (B : Option Addr) (d : Nat) (er : Int) (bs : List Lb), e = .returned (.tuple #[.slice B bs.length d, .int .i64 er]) ∧ (er = 0 → StM w' B bs.length d bs ∧ R (lotsOf bs)) ∧ RowKit.Below w.heap.size w w'
theorem ActR.bad {w w' : World} {R : List Lt → Prop} {er : Int} (hr : er ≠ 0) (hb : RowKit.Below w.heap.size w w') : ActR w R (.returned (.tuple #[.slice none 0 0, .int .i64 er])) w' := ⟨none, 0, er, [], rfl, fun e => absurd e hr, hb⟩
theorem EstOk.ok {s : List Lb} {cs : List Ch} {free : Int} (h : EstOk (lotsOf s) cs free) : ∀ b ∈ s, LtOk b.x := fun b k => h.st.lots b.x (List.mem_map.2 ⟨b, k, rfl⟩)
theorem EstOk.few {s : List Lb} {cs : List Ch} {free : Int} (h : EstOk (lotsOf s) cs free) : s.length ≤ 64 := by have := h.st.few; simpa [lotsOf] using this
theorem EstOk.pair {s : List Lb} {cs : List Ch} {free : Int} (h : EstOk (lotsOf s) cs free) : s.Pairwise (fun a b => a.x.id < b.x.id) := by
  have := h.st.asc
  unfold lotsOf at this
  rwa [List.pairwise_map] at this
theorem EstOk.idb {s : List Lb} {cs : List Ch} {free : Int} (h : EstOk (lotsOf s) cs free) : ∀ b ∈ s, b.x.id < free := fun b k => h.ids b.x (List.mem_map.2 ⟨b, k, rfl⟩)
end Go.Proofs.YthnhgjhnkncmiaaGreat

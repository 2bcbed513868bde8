/-
  Contract of the reference's Merge (customsref24) at an estate. No statement of the seat is proved here. Conditions: the estate is sound; the number is its next one.
  Contracts of slices.Clone at claims and slices, of drawback.copied, of slices.Insert at the end, of slices.BinarySearchFunc below a number and of drawback.Lodge at a number above all others. No statement of the seat is proved here. Conditions: valid claims.
-/
import Derived.Test.YthnhgjhnkncmiaaGreatMAK
import Derived.Test.YthnhgjhnkncmiaaGreatMAJ
import Derived.Shelf.SlicesE.Clone
import Derived.Deep.RegionHeld3
namespace Go.Proofs.YthnhgjhnkncmiaaGreat
open Go.RowKit
set_option linter.unusedVariables false

theorem nodup_take29 {xs : List Int} (h : ∀ j, j < xs.length → xs.getD j 0 ∉ xs.take j) : xs.Nodup := by
  unfold List.Nodup
  rw [List.pairwise_iff_getElem]
  intro i j hi hj hij e
  refine h j hj ?_
  rw [List.getD_eq_getElem?_getD, List.getElem?_eq_getElem hj]
  show xs[j] ∈ _
  rw [← e, List.mem_take_iff_getElem]
  exact ⟨i, by omega, rfl⟩
theorem own_far29 {w : World} {base : Nat} {e t : TypeId} {size n g : Nat} {v : Value} {xs : List Value} {cs : Array Value} (h : w.ownsRow base e size v n xs) (hb : Bl w g t cs) (hne : e ≠ t) : v.ownBlock ≠ some g := by
  intro hv
  rcases h.2 with ⟨hv2, _⟩ | ⟨g2, cap, cur, hv2, _, hh, _⟩
  · rw [hv2] at hv; cases hv
  · rw [hv2] at hv
    have e2 : g2 = g := by simpa [Value.ownBlock] using hv
    subst e2
    have hc' : w.heap[g2]? = some (.cells cs t (0, 0)) := hb
    rw [hh] at hc'
    injection hc' with hc'
    injection hc' with _ h4
    exact hne h4
theorem lots_out (bs : List Lb) (xs : List Int) : lotsOf (bs.filter fun b => decide (b.x.id ∉ xs)) = (lotsOf bs).filter fun x => decide (x.id ∉ xs) := by
  unfold lotsOf
  rw [List.filter_map]
  rfl
set_option maxRecDepth 100000 in
set_option maxHeartbeats 32000000 in
theorem Merge_any (A : Option Addr) (n c : Nat) (bs : List Lb) (cs : List Ch) (free : Int) (P : Option Addr) (m pc : Nat) (xs : List Int) (w : World) (h : StM w A n c bs) (he : EstOk (lotsOf bs) cs free) (hps : Ints w P m xs) (hm : m ≤ 16) (hmc : m ≤ pc) (hpm : pc ≤ 9223372036854775807) :
    Calls Tryz.prog 53 #[.slice A n c, .slice P m pc, .int .i64 free] w (ActR w fun s => EstOk s cs (free + 1)) := by
  have HX := Lib.hid h
  have HE := Lib.hid he
  have HI := Lib.hid hps
  have hpl : xs.length = m := hps.1
  have hbl : bs.length = n := h.len
  have hn : n ≤ 64 := by have := he.few; omega
  have HSK := Lib.hid (Stock_any A n c bs w h.st hn he.ok)
  have HAT := Lib.hid At_any
  have HHA := Lib.hid Has_any
  have HRE := Lib.hid Rests_any
  have HTK := Lib.hid Taken_any
  have HJ := Lib.hid join29_any
  have HWO := Lib.hid Without_any
  have HPU := Lib.hid Put_any
  have hpos : 1 ≤ free := he.pos
  clear h he hps
  go_enter Tryz.func53, Tryz.ntmps53
  go_wp2_with fail
  refine HSK.out.mono ?_
  rintro e w1 ⟨er, rfl, hb1⟩
  have HB1 := Lib.hid hb1
  clear hb1 HSK
  cases de : (er == 0)
  case false =>
    have hne : er ≠ 0 := by simpa using de
    have HNE := Lib.hid hne
    clear hne
    go_wp2
    go_ret2
    exact ActR.bad HNE.out HB1.out
  case true =>
  obtain rfl : er = 0 := by simpa using de
  clear de
  by_cases g0 : m < 2
  case pos =>
    have d0 : decide ((m : Int) < 2) = true := by simp; omega
    go_wp2
    go_ret2
    exact ActR.bad (by decide) HB1.out
  case neg =>
  have d0 : decide ((m : Int) < 2) = false := by simp; omega
  have d1 : decide ((m : Int) > 16) = false := by simp; omega
  have d1' : decide (16 < (m : Int)) = false := by simp; omega
  have d2 : decide (free < 1) = false := by simp; omega
  by_cases g3 : free > 1000000
  case pos =>
    have d3 : decide (free > 1000000) = true := decide_eq_true g3
    go_wp2
    go_ret2
    exact ActR.bad (by decide) HB1.out
  case neg =>
  have d3 : decide (free > 1000000) = false := decide_eq_false g3
  have HF6 : Hid (free ≤ 1000000) := by show _ ≤ _; omega
  clear g3
  go_wp2_with fail
  clear d0 d1 d1' d2 d3
  go_loopw [9] (fun v wx => ∃ i : Nat, v = .int .i64 (i : Int) ∧ i ≤ m ∧ Hid (∀ j, j < i → ∃ x ∈ bs, x.x.id = xs.getD j 0) ∧ Hid (RowKit.Below w.heap.size w wx)) (fun v _ => m - (intOf v).toNat)
  case atStart => exact ⟨0, rfl, Nat.zero_le _, (fun j hj => by omega), HB1.out⟩
  case round =>
    clear HB1
    obtain ⟨i, rfl, hi2, HN, HB⟩ := hrel
    by_cases hlt : i < m
    case pos =>
      have dk : decide ((i : Int) < (m : Int)) = true := by simp; omega
      obtain ⟨b2, o2, z, rfl, hb2, hc, HZI⟩ := (HI.out.below HB.out).get hlt
      have hii : (i : Int) < (m : Int) := by omega
      have hiz : (0 : Int) ≤ (i : Int) := by omega
      have HRW : Hid (Recs encL 5 wr A n bs) := HX.out.st.lots.recs.below HB.out
      go_wp2_with fail
      refine (HAT.out A n c bs z wr HRW.out (by omega)).mono ?_
      rintro e w8 ⟨rfl, ⟨rfl, hno⟩ | ⟨ix, hi, rfl, hid⟩⟩
      · clear hno
        go_wp2
        go_ret2
        exact ActR.bad (by decide) HB.out
      have di : decide ((ix : Int) < 0) = false := decide_eq_false (by omega)
      have HN2 : Hid (∀ j, j < i + 1 → ∃ x ∈ bs, x.x.id = xs.getD j 0) := fun j hj => by
        by_cases e : j = i
        · subst e
          exact ⟨bs[ix]!, by rw [getElem!_pos bs ix (by omega)]; exact List.getElem_mem _, by rw [hid, HZI.out]⟩
        · exact HN.out j (by omega)
      clear hid hi
      go_wp2_with fail
      go_roundw
      case rel => exact ⟨i + 1, by go_num, by omega, HN2, HB⟩
      case measure => simp [intOf]; omega
    case neg =>
    have dk : decide ((i : Int) < (m : Int)) = false := by simp; omega
    have HAL : Hid (∀ j, j < m → ∃ x ∈ bs, x.x.id = xs.getD j 0) := fun j hj => HN.out j (by omega)
    clear HN
    go_wp2_with fail
    go_loopw [10] (fun v wx => ∃ i : Nat, v = .int .i64 (i : Int) ∧ i ≤ m ∧ Hid (∀ j, j < i → xs.getD j 0 ∉ xs.take j) ∧ Hid (RowKit.Below w.heap.size w wx)) (fun v _ => m - (intOf v).toNat)
    case atStart => exact ⟨0, rfl, Nat.zero_le _, (fun j hj => by omega), HB⟩
    case round =>
      clear HB dk hi2 hlt
      obtain ⟨i, rfl, hi2, HN, HB⟩ := hrel
      by_cases hlt : i < m
      case pos =>
        have dk : decide ((i : Int) < (m : Int)) = true := by simp; omega
        have HB7 : Hid (RowKit.Below w.heap.size w wr.drew) := HB.out.drew
        obtain ⟨b2, o2, z, rfl, hb2, hc, HZI⟩ := (HI.out.below HB7.out).get hlt
        have HP7 : Hid (Ints wr.drew (some ⟨b2, o2, none⟩) i (xs.take i)) := (HI.out.below HB7.out).take (by omega)
        have hii : (i : Int) < (m : Int) := by omega
        have hiz : (0 : Int) ≤ (i : Int) := by omega
        have hik : i ≤ pc := by omega
        have hikk : (i : Int) ≤ (pc : Int) := by omega
        go_upto_region 14 with (fail)
        go_still_tail 7, (by kernel_rfl)
        change wpList _ _ _ _ _ wr.drew
        clear HB
        generalize wr.drew = W7 at *
        go_wp2_with fail
        refine (HHA.out (some ⟨b2, o2, none⟩) i pc (xs.take i) z W7 HP7.out (by omega)).mono ?_
        rintro e w8 ⟨rfl, ⟨rfl, hin⟩ | ⟨rfl, hin⟩⟩
        · clear hin
          go_wp2
          go_ret2
          exact ActR.bad (by decide) HB7.out
        have HN2 : Hid (∀ j, j < i + 1 → xs.getD j 0 ∉ xs.take j) := fun j hj => by
          by_cases e : j = i
          · subst e; rw [HZI.out]; exact hin
          · exact HN.out j (by omega)
        clear hin
        go_wp2_with fail
        go_roundw
        case rel => exact ⟨i + 1, by go_num, by omega, HN2, HB7⟩
        case measure => simp [intOf]; omega
      case neg =>
      have dk : decide ((i : Int) < (m : Int)) = false := by simp; omega
      have HND : Hid (xs.Nodup) := nodup_take29 fun j hj => HN.out j (by omega)
      clear HN
      have HSW : Hid (StAt wr A n bs) := HX.out.st.below HB.out
      go_wp2_with fail
      refine (HTK.out A n c bs free wr HSW.out (by omega)).mono ?_
      rintro e w8 ⟨rfl, b, rfl⟩
      cases b
      case true =>
        go_wp2
        go_ret2
        exact ActR.bad (by decide) HB.out
      case false =>
      clear HSW dk
      go_wp2_with fail
      go_loopw [11] (fun v wx => ∃ i : Nat, v = .int .i64 (i : Int) ∧ i ≤ m ∧ Hid (RowKit.Below w.heap.size w wx)) (fun v _ => m - (intOf v).toNat)
      case atStart => exact ⟨0, rfl, Nat.zero_le _, HB⟩
      case round =>
        clear HB
        obtain ⟨i, rfl, hi2, HB⟩ := hrel
        by_cases hlt : i < m
        case pos =>
          have dk : decide ((i : Int) < (m : Int)) = true := by simp; omega
          obtain ⟨b2, o2, z, rfl, hb2, hc, HZI⟩ := (HI.out.below HB.out).get hlt
          have hii : (i : Int) < (m : Int) := by omega
          have hiz : (0 : Int) ≤ (i : Int) := by omega
          have HRW : Hid (Recs encL 5 wr A n bs) := HX.out.st.lots.recs.below HB.out
          go_wp2_with fail
          refine (HAT.out A n c bs z wr HRW.out (by omega)).mono ?_
          rintro e w8 ⟨rfl, ⟨rfl, hno⟩ | ⟨ix, hi, rfl, hid⟩⟩
          · obtain ⟨y, hy, hyi⟩ := HAL.out i hlt
            obtain ⟨k, hk, rfl⟩ := List.getElem_of_mem hy
            exact absurd (by rw [getElem!_pos bs k hk, hyi, HZI.out]) (hno k (by omega))
          clear hid
          obtain ⟨b1, o1, rfl, hb1, ha⟩ := recs_at HRW.out hi
          have a3 : w8.cell? ⟨b1, o1 + ix * 5 + 3, none⟩ = some (.int .i64 bs[ix]!.x.proc) := ha.out 3 (by omega)
          generalize bs[ix]!.x.proc = pr at a3
          have hxi : (ix : Int) < (n : Int) := by omega
          have hxz : (0 : Int) ≤ (ix : Int) := by omega
          clear ha
          go_wp2_with fail
          refine (HRE.out pr w8).mono ?_
          rintro e w9 ⟨b, rfl, hb9⟩
          have HB9 : Hid (RowKit.Below w.heap.size w w9) := HB.out.trans (hb9.mono HB.out.size)
          clear hb9 HB
          cases b
          case false =>
            go_wp2
            go_ret2
            exact ActR.bad (by decide) HB9.out
          case true =>
          go_wp2_with fail
          go_roundw
          case rel => exact ⟨i + 1, by go_num, by omega, HB9⟩
          case measure => simp [intOf]; omega
        case neg =>
        have dk : decide ((i : Int) < (m : Int)) = false := by simp; omega
        clear hi2
        obtain ⟨b2, o2, z, rfl, hb2, hc, HZI⟩ := (HI.out.below HB.out).get (show 0 < m by omega)
        have hii : (0 : Int) < (m : Int) := by omega
        have HRW : Hid (Recs encL 5 wr A n bs) := HX.out.st.lots.recs.below HB.out
        have hc0 : wr.cell? ⟨b2, o2, none⟩ = some (.int .i64 z) := by simpa using hc
        go_wp2_with fail
        refine (HAT.out A n c bs z wr HRW.out (by omega)).mono ?_
        rintro e w8 ⟨rfl, ⟨rfl, hno⟩ | ⟨ix, hi, rfl, hid⟩⟩
        · obtain ⟨y, hy, hyi⟩ := HAL.out 0 (by omega)
          obtain ⟨k, hk, rfl⟩ := List.getElem_of_mem hy
          exact absurd (by rw [getElem!_pos bs k hk, hyi, HZI.out]) (hno k (by omega))
        clear hid hc hc0 HZI dk
        obtain ⟨b1, o1, rfl, hb1, ha⟩ := recs_at HRW.out hi
        obtain ⟨x, hx⟩ : ∃ x, bs[ix]! = x := ⟨_, rfl⟩
        rw [hx] at ha
        have a0 : w8.cell? ⟨b1, o1 + ix * 5, none⟩ = some (.int .i64 x.x.id) := ha.out 0 (by omega)
        have a1 : w8.cell? ⟨b1, o1 + ix * 5 + 1, none⟩ = some (.string x.x.code) := ha.out 1 (by omega)
        have a2 : w8.cell? ⟨b1, o1 + ix * 5 + 2, none⟩ = some (.int .i64 x.x.qty) := ha.out 2 (by omega)
        have a3 : w8.cell? ⟨b1, o1 + ix * 5 + 3, none⟩ = some (.int .i64 x.x.proc) := ha.out 3 (by omega)
        have a4 : w8.cell? ⟨b1, o1 + ix * 5 + 4, none⟩ = some (.slice x.A x.n x.c) := ha.out 4 (by omega)
        have hxm : x ∈ bs := by rw [← hx, getElem!_pos bs ix (by omega)]; exact List.getElem_mem _
        have HLX : Hid (LtOk x.x) := HE.out.ok x hxm
        have hxi : (ix : Int) < (n : Int) := by omega
        have hxz : (0 : Int) ≤ (ix : Int) := by omega
        have HBX : Hid (Bl (w8.alloc (.cells #[.int .i64 x.x.id, .string x.x.code, .int .i64 x.x.qty, .int .i64 x.x.proc, .slice x.A x.n x.c] 36)) w8.heap.size 36 #[.int .i64 x.x.id, .string x.x.code, .int .i64 x.x.qty, .int .i64 x.x.proc, .slice x.A x.n x.c]) := Bl.new _ _ _
        have HB3 : Hid (RowKit.Below w.heap.size w (w8.alloc (.cells #[.int .i64 x.x.id, .string x.x.code, .int .i64 x.x.qty, .int .i64 x.x.proc, .slice x.A x.n x.c] 36))) := HB.out.alloc HB.out.size _
        clear ha hxm hx
        go_upto_region 24 with (fail)
        clear a0 a1 a2 a3 a4 HRW HB hb1
        generalize w8.alloc (.cells #[.int .i64 x.x.id, .string x.x.code, .int .i64 x.x.qty, .int .i64 x.x.proc, .slice x.A x.n x.c] 36) = w3 at *
        generalize w8.heap.size = gx at *
        have c1 := HBX.out.c1
        have c3 := HBX.out.c3
        obtain ⟨code, hco⟩ : ∃ code, x.x.code = code := ⟨_, rfl⟩
        obtain ⟨proc, hpr⟩ : ∃ proc, x.x.proc = proc := ⟨_, rfl⟩
        have HCP : Hid (code8 code ∧ 1 ≤ proc ∧ proc ≤ 12) := ⟨hco ▸ HLX.out.code, by have := HLX.out.proc; omega, by have := HLX.out.proc; omega⟩
        rw [hco] at c1
        rw [hpr] at c3
        clear HBX HLX hco hpr hi hxi hxz
        have HG : Hid (Bl (w3.alloc (.cells #[.int .i64 free, .string code, .int .i64 0, .int .i64 proc, .slice none 0 0] 36)) w3.heap.size 36 #[.int .i64 free, .string code, .int .i64 0, .int .i64 proc, .slice none 0 0]) := Bl.new _ _ _
        have HB4 : Hid (RowKit.Below w.heap.size w (w3.alloc (.cells #[.int .i64 free, .string code, .int .i64 0, .int .i64 proc, .slice none 0 0] 36))) := HB3.out.alloc HB3.out.size _
        have hgw : w.heap.size ≤ w3.heap.size := HB3.out.size
        go_upto_region 25 with (fail)
        clear c1 c3 HB3
        generalize w3.alloc (.cells #[.int .i64 free, .string code, .int .i64 0, .int .i64 proc, .slice none 0 0] 36) = w4 at *
        generalize w3.heap.size = gy at *
        go_wp2_with fail
        go_loopw [14, 15] (fun al v wx => ∃ (i : Nat) (C : Option Addr) (k d : Nat) (ys : List Sl) (Q : Int), v = .int .i64 (i : Int) ∧ al = .slice C k d ∧ i ≤ m ∧ (i : Int) ≤ Q ∧ Q ≤ (i : Int) * 1000000000 ∧ Hid (CollI (lotsOf bs) xs i ys) ∧ Hid (ys.length = k) ∧ Hid (wx.ownsRow w.heap.size 68 3 (.slice C k d) k (flat encSl ys)) ∧ Hid (Bl wx gy 36 #[.int .i64 free, .string code, .int .i64 Q, .int .i64 proc, .slice none 0 0]) ∧ Hid (RowKit.Below w.heap.size w wx)) (fun _ v _ => m - (intOf v).toNat)
        case atStart => exact ⟨0, none, 0, 0, [], 0, rfl, rfl, Nat.zero_le _, by omega, by omega, CollI.start _ _, rfl, ⟨by simp [flat], .inl ⟨rfl, rfl⟩⟩, HG.out, HB4.out⟩
        case round =>
          clear HG HB4 hii
          obtain ⟨i, C, k, d, ys, Q, rfl, rfl, hi2, hq0, hq1, HC, HK, HO, HG, HB⟩ := hrel
          by_cases hlt : i < m
          case pos =>
            have dk : decide ((i : Int) < (m : Int)) = true := by simp; omega
            obtain ⟨b3, o3, z2, e3, hb3, hc, HZI⟩ := (HI.out.below HB.out).get hlt
            injection e3 with e3
            injection e3 with e4 e5
            subst e4 e5
            have hii : (i : Int) < (m : Int) := by omega
            have hiz : (0 : Int) ≤ (i : Int) := by omega
            have HRW : Hid (Recs encL 5 wr (some ⟨b1, o1, none⟩) n bs) := HX.out.st.lots.recs.below HB.out
            go_wp2_with fail
            refine (HAT.out (some ⟨b1, o1, none⟩) n c bs z2 wr HRW.out (by omega)).mono ?_
            rintro e w8 ⟨rfl, ⟨rfl, hno⟩ | ⟨iy, hi, rfl, hid⟩⟩
            · obtain ⟨y, hy, hyi⟩ := HAL.out i hlt
              obtain ⟨k, hk, rfl⟩ := List.getElem_of_mem hy
              exact absurd (by rw [getElem!_pos bs k hk, hyi, HZI.out]) (hno k (by omega))
            obtain ⟨b3, o3, e3, hb3, ha⟩ := recs_at HRW.out hi
            injection e3 with e3
            injection e3 with e4 e5
            subst e4 e5
            obtain ⟨y, hy⟩ : ∃ y, bs[iy]! = y := ⟨_, rfl⟩
            rw [hy] at ha hid
            have a0 : w8.cell? ⟨b1, o1 + iy * 5, none⟩ = some (.int .i64 y.x.id) := ha.out 0 (by omega)
            have a1 : w8.cell? ⟨b1, o1 + iy * 5 + 1, none⟩ = some (.string y.x.code) := ha.out 1 (by omega)
            have a2 : w8.cell? ⟨b1, o1 + iy * 5 + 2, none⟩ = some (.int .i64 y.x.qty) := ha.out 2 (by omega)
            have a3 : w8.cell? ⟨b1, o1 + iy * 5 + 3, none⟩ = some (.int .i64 y.x.proc) := ha.out 3 (by omega)
            have a4 : w8.cell? ⟨b1, o1 + iy * 5 + 4, none⟩ = some (.slice y.A y.n y.c) := ha.out 4 (by omega)
            have hym : y ∈ bs := by rw [← hy, getElem!_pos bs iy (by omega)]; exact List.getElem_mem _
            have HYM := Lib.hid hym
            have HLY : Hid (LtOk y.x) := HE.out.ok y hym
            have HYI : Hid (y.x.id = xs.getD i 0) := by show _ = _; rw [hid, HZI.out]
            have hyi : (iy : Int) < (n : Int) := by omega
            have hyz : (0 : Int) ≤ (iy : Int) := by omega
            have HBY : Hid (Bl (w8.alloc (.cells #[.int .i64 y.x.id, .string y.x.code, .int .i64 y.x.qty, .int .i64 y.x.proc, .slice y.A y.n y.c] 36)) w8.heap.size 36 #[.int .i64 y.x.id, .string y.x.code, .int .i64 y.x.qty, .int .i64 y.x.proc, .slice y.A y.n y.c]) := Bl.new _ _ _
            have HBA : Hid (RowKit.Below w.heap.size w (w8.alloc (.cells #[.int .i64 y.x.id, .string y.x.code, .int .i64 y.x.qty, .int .i64 y.x.proc, .slice y.A y.n y.c] 36))) := HB.out.alloc HB.out.size _
            have HOA : Hid ((w8.alloc (.cells #[.int .i64 y.x.id, .string y.x.code, .int .i64 y.x.qty, .int .i64 y.x.proc, .slice y.A y.n y.c] 36)).ownsRow w.heap.size 68 3 (.slice C k d) k (flat encSl ys)) := own_alloc HO.out _
            have HGA : Hid (Bl (w8.alloc (.cells #[.int .i64 y.x.id, .string y.x.code, .int .i64 y.x.qty, .int .i64 y.x.proc, .slice y.A y.n y.c] 36)) gy 36 #[.int .i64 free, .string code, .int .i64 Q, .int .i64 proc, .slice none 0 0]) := HG.out.alloc _
            have hgz : w8.heap.size ≠ gy := fun e => by have := HG.out.lt; omega
            clear ha hym hy hid
            go_upto_region 30 with (fail)
            clear a0 a1 a2 a3 a4 HRW HB HO HG hc HZI dk
            generalize w8.alloc (.cells #[.int .i64 y.x.id, .string y.x.code, .int .i64 y.x.qty, .int .i64 y.x.proc, .slice y.A y.n y.c] 36) = W8 at *
            generalize w8.heap.size = gz at *
            have y1 := HBY.out.c1
            have y2 := HBY.out.c2
            have y3 := HBY.out.c3
            have g1 := HGA.out.c1
            have g2 := HGA.out.c2
            have g3 := HGA.out.c3
            have f2 := HGA.out.free 2
            by_cases e1 : y.x.code.toList = code.toList
            case neg =>
              go_wp2
              go_ret2
              exact ActR.bad (by decide) HBA.out
            case pos =>
            cases e3 : (y.x.proc == proc)
            case false =>
              go_wp2
              go_ret2
              exact ActR.bad (by decide) HBA.out
            case true =>
            have hqy := HLY.out.qty
            have u1 : IntKind.i64.wrap (Q + y.x.qty) = Q + y.x.qty := IntWalk.i64_in _ (by omega)
            have HGB : Hid (Bl (W8.setCell ⟨gy, 2, none⟩ (.int .i64 (Q + y.x.qty))) gy 36 #[.int .i64 free, .string code, .int .i64 (Q + y.x.qty), .int .i64 proc, .slice none 0 0]) := by show Bl _ _ _ _; have := HGA.out.put 2 (.int .i64 (Q + y.x.qty)); simpa using this
            have HOB : Hid ((W8.setCell ⟨gy, 2, none⟩ (.int .i64 (Q + y.x.qty))).ownsRow w.heap.size 68 3 (.slice C k d) k (flat encSl ys)) := own_of_block HOA.out fun g hg => Below.heap_setCell _ _ _ _ fun e => own_far29 HOA.out HGA.out (by decide) (hg.trans (congrArg some e))
            have HBB : Hid (RowKit.Below w.heap.size w (W8.setCell ⟨gy, 2, none⟩ (.int .i64 (Q + y.x.qty)))) := HBA.out.setCell (p := ⟨gy, 2, none⟩) hgw _
            have HYB : Hid (Bl (W8.setCell ⟨gy, 2, none⟩ (.int .i64 (Q + y.x.qty))) gz 36 #[.int .i64 y.x.id, .string y.x.code, .int .i64 y.x.qty, .int .i64 y.x.proc, .slice y.A y.n y.c]) := HBY.out.far (p := ⟨gy, 2, none⟩) hgz _
            go_upto_region 33 with (fail)
            clear y1 y2 y3 g1 g2 g3 f2 u1 e1 e3 HGA HOA HBA HBY
            generalize W8.setCell ⟨gy, 2, none⟩ (.int .i64 (Q + y.x.qty)) = W9 at *
            have y4 := HYB.out.c4
            have hyl : y.x.sl.length = y.n := (HX.out.sl y HYM.out).1.1.recs.1
            have hy64 : y.n ≤ 64 := by have := HLY.out.few; omega
            have hk64 : k ≤ i * 64 := by have := HC.out.len; have := HK.out; omega
            have HRD : Hid (Rd W9 3 y.A y.n (flat encSl y.x.sl)) := (rd_of_recs encSl_len (by decide) (HX.out.sl y HYM.out).1.1.recs).keep HBB.out
            have HON : Hid (∀ v ∈ flat encSl y.x.sl, v.oneCell' = true) := flat_oneK encSl_one _
            have HM1 : Hid (k + y.n ≤ maxLen ∧ (k + y.n) * 24 ≤ 140737488355328) := ⟨by unfold maxLen; omega, by omega⟩
            go_wp2_with (at_builtin; refine wpList_append_rd _ rfl (.tmp 133) (.tmp 135) 34 rfl w.heap.size 68 _ 3 24 Tryz.underlying34 infoSl rfl (by decide) (.slice C k d) k (flat encSl ys) rfl HOB.out y.A y.n y.c (flat encSl y.x.sl) rfl HRD.out HON.out HM1.out.1 HM1.out.2 HBB.out.size ?_; intro v9 w9 ho9 hg9 hv9; obtain ⟨B9, d9, rfl⟩ := own_slice ho9)
            have hg10 : Bl w9 gy 36 #[.int .i64 free, .string code, .int .i64 (Q + y.x.qty), .int .i64 proc, .slice none 0 0] := (hg9.block gy HGB.out.lt (fun e => own_far29 HOB.out HGB.out (by decide) e.symm)).trans HGB.out
            have hb9 : RowKit.Below w.heap.size w w9 := HBB.out.grown hg9 HBB.out.size (fun j hj => own_base HOB.out j hj)
            go_roundw
            case rel => exact ⟨i + 1, B9, k + y.n, d9, ys ++ y.x.sl, Q + y.x.qty, by go_num, rfl, by omega, by omega, by omega, HC.out.next HE.out.st (by omega) HND.out (List.mem_map.2 ⟨y, HYM.out, rfl⟩) HYI.out, (by show _ = _; rw [List.length_append, HK.out, hyl]), (by show World.ownsRow _ _ _ _ _ _ _; rw [flat_append]; exact ho9), hg10, hb9⟩
            case measure => simp [intOf]; omega
          case neg =>
          have dk : decide ((i : Int) < (m : Int)) = false := by simp; omega
          obtain rfl : m = i := by omega
          have g2 := HG.out.c2
          have HQ0 : Hid (1 ≤ Q) := by show _ ≤ _; omega
          by_cases gq : Q > 1000000000
          case pos =>
            have dq : decide (Q > 1000000000) = true := decide_eq_true gq
            go_wp2
            go_ret2
            exact ActR.bad (by decide) HB.out
          case neg =>
          have dq : decide (Q > 1000000000) = false := decide_eq_false gq
          have HRJ : Hid (Recs encSl 3 wr C k ys) := Recs.of_own encSl_len HO.out HK.out
          have hk64 : k ≤ m * 64 := by have := HC.out.len; have := HK.out; omega
          go_wp2_with fail
          refine (HJ.out C k d ys wr HRJ.out (by omega)).mono ?_
          rintro e w10 ⟨B2, d2, rfl, ho10, hb10⟩
          have HJO : Hid (SlsOk (joinS ys) ∧ Compact (joinS ys) ∧ unitsOf (joinS ys) = unitsOf ys) := ⟨join_ok HC.out.ok, join_compact HC.out.ok, join_units HC.out.ok⟩
          have HB10 : Hid (RowKit.Below w.heap.size w w10) := HB.out.trans (hb10.mono HB.out.size)
          have HG10 : Hid (Bl w10 gy 36 #[.int .i64 free, .string code, .int .i64 Q, .int .i64 proc, .slice none 0 0]) := (hb10.block gy HG.out.lt).trans HG.out
          clear hb10 HG HB HRJ HO HK g2
          generalize joinS ys = js at *
          obtain ⟨nb, hnb⟩ : ∃ nb : Lb, nb = ⟨⟨free, code, Q, proc, js⟩, B2, js.length, d2⟩ := ⟨_, rfl⟩
          have HNB := Lib.hid hnb
          clear hnb
          have f4 := HG10.out.free 4
          have y4 := HG10.out.c4
          have HG11 : Hid (Bl (w10.setCell ⟨gy, 4, none⟩ (.slice B2 js.length d2)) gy 36 #[.int .i64 nb.x.id, .string nb.x.code, .int .i64 nb.x.qty, .int .i64 nb.x.proc, .slice nb.A nb.n nb.c]) := by show Bl _ _ _ _; rw [HNB.out]; have := HG10.out.put 4 (.slice B2 js.length d2); simpa using this
          have HO11 : Hid ((w10.setCell ⟨gy, 4, none⟩ (.slice B2 js.length d2)).ownsRow wr.heap.size 68 3 (.slice B2 js.length d2) js.length (flat encSl js)) := own_of_block ho10 fun g hg => Below.heap_setCell _ _ _ _ fun e => own_far29 ho10 HG10.out (by decide) (hg.trans (congrArg some e))
          have HS11 : Hid (SlP (w10.setCell ⟨gy, 4, none⟩ (.slice B2 js.length d2)) B2 js.length d2 js) := SlP.own HO11.out
          have HB11 : Hid (RowKit.Below w.heap.size w (w10.setCell ⟨gy, 4, none⟩ (.slice B2 js.length d2))) := HB10.out.setCell (p := ⟨gy, 4, none⟩) hgw _
          clear ho10 HB10 HO11 HG10 hgw
          go_upto_region 37 with (fail)
          clear f4 y4 dq dk
          generalize w10.setCell ⟨gy, 4, none⟩ (.slice B2 js.length d2) = W at *
          have g4 : W.cell? ⟨gy, 4, none⟩ = some (.slice B2 js.length d2) := by have := HG11.out.c4; rw [HNB.out] at this; exact this
          obtain ⟨k2, hk2⟩ : ∃ k2, js.length = k2 := ⟨_, rfl⟩
          have HK2 := Lib.hid hk2
          rw [hk2] at g4
          clear hk2
          by_cases gl : k2 > 64
          case pos =>
            have dl : decide ((k2 : Int) > 64) = true := by simp; omega
            go_wp2
            go_ret2
            exact ActR.bad (by decide) HB11.out
          case neg =>
          have dl : decide ((k2 : Int) > 64) = false := by simp; omega
          have HLN : Hid (LtOk nb.x) := by
            show LtOk _
            rw [HNB.out]
            have h6 := HF6.out
            have h7 := HQ0.out
            exact ⟨⟨hpos, h6⟩, HCP.out.1, ⟨h7, by show Q ≤ _; omega⟩, HCP.out.2, by show js.length ≤ 64; rw [HK2.out]; omega, HJO.out.1, HJO.out.2.1⟩
          have HIDN : Hid (nb.x.id = free) := by show _ = _; rw [HNB.out]
          have HSN : Hid (SlP W nb.A nb.n nb.c nb.x.sl) := by show _ ∧ _; rw [HNB.out]; exact HS11.out
          have HUN : Hid (unitsOf nb.x.sl = unitsOf ys) := by show _ = _; rw [HNB.out]; exact HJO.out.2.2
          clear HNB HS11 HK2 HJO
          obtain ⟨bs5, hbs5⟩ : ∃ bs5, (bs.filter fun b => decide (b.x.id ∉ xs)) ++ [nb] = bs5 := ⟨_, rfl⟩
          have HLE : Hid ((bs.filter fun b => decide (b.x.id ∉ xs)).length ≤ 1000) := by
            have := List.length_filter_le (fun b : Lb => decide (b.x.id ∉ xs)) bs
            show _ ≤ _
            omega
          have HBS5 := Lib.hid hbs5
          have HORD : Hid (((bs.filter fun b => decide (b.x.id ∉ xs)) ++ [nb]).Pairwise (fun a b => a.x.id < b.x.id)) := by
            show List.Pairwise _ _
            rw [List.pairwise_append]
            exact ⟨HE.out.pair.sublist List.filter_sublist, List.pairwise_singleton _ _, fun a ha b hb => by rw [List.mem_singleton] at hb; subst hb; rw [HIDN.out]; exact HE.out.idb a (List.filter_sublist.subset ha)⟩
          have HRW : Hid (Recs encL 5 W (some ⟨b1, o1, none⟩) n bs) := HX.out.st.lots.recs.below HB11.out
          have HIW : Hid (Ints W (some ⟨b2, o2, none⟩) m xs) := HI.out.below HB11.out
          have HWW : Hid (gy < W.heap.size) := HG11.out.lt
          have m0 := HG11.out.c0
          have m1 := HG11.out.c1
          have m2 := HG11.out.c2
          have m3 := HG11.out.c3
          have m4 := HG11.out.c4
          generalize hfs : (bs.filter fun b => decide (b.x.id ∉ xs)) = fs at *
          have HWO2 : Hid (∀ wx, RowKit.Below W.heap.size W wx → Calls Tryz.prog 80 #[.slice (some ⟨b1, o1, none⟩) n c, .slice (some ⟨b2, o2, none⟩) m pc] wx (LtRes wx fs)) := fun wx hb => by
            have := HWO.out (some ⟨b1, o1, none⟩) n c bs (some ⟨b2, o2, none⟩) m pc xs wx (HRW.out.below hb) (HIW.out.below hb) (by omega) (by omega)
            rw [hfs] at this
            exact this
          clear HWO hbs5
          go_upto_region 39 with (fail)
          clear g4
          refine wp_region_rows [
              ⟨⟨some 147, [], []⟩, fun _ v => v = .slice (some ⟨b1, o1, none⟩) n c, NoR⟩,
              ⟨⟨some 148, [], []⟩, fun _ v => v = .slice (some ⟨b2, o2, none⟩) m pc, NoR⟩,
              ⟨⟨some 149, [0, 1], []⟩, NoF, OwnR W.heap.size 36 5 (fs.length) (flat encL fs)⟩,
              ⟨⟨some 150, [], []⟩, fun _ v => v = .agg #[.int .i64 nb.x.id, .string nb.x.code, .int .i64 nb.x.qty, .int .i64 nb.x.proc, .slice nb.A nb.n nb.c], NoR⟩,
              ⟨⟨some 151, [3], []⟩, NoF, LitR 36 (encL nb).toArray 1⟩,
              ⟨⟨some 152, [2, 4], [2, 4]⟩, NoF, OwnR W.heap.size 36 5 ((fs ++ [nb]).length) (flat encL (fs ++ [nb]))⟩,
              ⟨⟨some 6, [5], [5]⟩, NoF, OwnR W.heap.size 36 5 ((fs ++ [nb]).length) (flat encL (fs ++ [nb]))⟩,
              ⟨⟨some 7, [], []⟩, fun _ v => v = .int .i64 0, NoR⟩] (by kernel_rfl) (by kernel_rfl) (by kernel_rfl) ⟨NoR.loc, NoR.loc, OwnR.loc, NoR.loc, LitR.loc, OwnR.loc, OwnR.loc, NoR.loc, trivial⟩ ⟨?r0, ?r1, ?r2, ?r3, ?r4, ?r5, ?r6, ?r7, trivial⟩ ?fin
          case r0 =>
            refine step_of rfl rfl ?_
            intro a wx vs fp K hF hK
            exact op_move rfl (hF.at_ 0 rfl) (hK _ _ _ (hF.only rfl trivial))
          case r1 =>
            refine step_of rfl rfl ?_
            intro a wx vs fp K hF hK
            exact op_move rfl (hF.at_ 1 rfl) (hK _ _ _ (hF.only rfl trivial))
          case r2 =>
            refine step_of rfl rfl ?_
            intro a wx vs fp K hF hK
            have ea : a.eval (.tmp 147) = .slice (some ⟨b1, o1, none⟩) n c := (hF.ev 0 147 rfl rfl).trans (hF.va 0 rfl)
            have eb : a.eval (.tmp 148) = .slice (some ⟨b2, o2, none⟩) m pc := (hF.ev 1 148 rfl rfl).trans (hF.va 1 rfl)
            refine op_call (vals := #[.slice (some ⟨b1, o1, none⟩) n c, .slice (some ⟨b2, o2, none⟩) m pc]) rfl (by kernel_rfl) ?_ ((HWO2.out wx hF.below).mono ?_)
            · simp only [List.map_toArray, List.map_cons, List.map_nil, ea, eb]
            rintro e w' ⟨B, d, rfl, ho, hb⟩
            exact ⟨_, rfl, hK _ _ _ (hF.under hb trivial ⟨own_mono ho hF.below.size, rfl⟩ (fun g hg => ⟨own_base ho g (by simpa using hg), own_lt ho g (by simpa using hg)⟩))⟩
          case r3 =>
            refine step_of rfl rfl ?_
            intro a wx vs fp K hF hK
            have o13 : a.eval (.tmp 13) = .pointer (some ⟨gy, 0, none⟩) := hF.at_ 13 rfl
            have m0 := (hF.below.cell (p := ⟨gy, 0, none⟩) HWW.out).trans m0
            have m1 := (hF.below.cell (p := ⟨gy, 1, none⟩) HWW.out).trans m1
            have m2 := (hF.below.cell (p := ⟨gy, 2, none⟩) HWW.out).trans m2
            have m3 := (hF.below.cell (p := ⟨gy, 3, none⟩) HWW.out).trans m3
            have m4 := (hF.below.cell (p := ⟨gy, 4, none⟩) HWW.out).trans m4
            refine op_value (v := .agg #[.int .i64 nb.x.id, .string nb.x.code, .int .i64 nb.x.qty, .int .i64 nb.x.proc, .slice nb.A nb.n nb.c]) ?_ (hK _ _ _ (hF.only rfl trivial))
            have ec : ∀ v, a.eval (.const v) = v := fun _ => rfl
            clear hF hK
            generalize a.eval = ρ at *
            go_simp
          case r4 =>
            refine step_of rfl rfl ?_
            intro a wx vs fp K hF hK
            have e3 : a.eval (.tmp 150) = .agg #[.int .i64 nb.x.id, .string nb.x.code, .int .i64 nb.x.qty, .int .i64 nb.x.proc, .slice nb.A nb.n nb.c] := (hF.ev 3 150 rfl rfl).trans (hF.va 3 rfl)
            refine op_value (v := .slice (some ⟨wx.heap.size, 0, none⟩) 1 1) (w' := wx.alloc (.cells #[.int .i64 nb.x.id, .string nb.x.code, .int .i64 nb.x.qty, .int .i64 nb.x.proc, .slice nb.A nb.n nb.c] 36)) ?_ (hK _ _ _ (hF.made _ trivial ⟨_, rfl, rfl, Bl.new _ _ _⟩))
            have ec : ∀ v, a.eval (.const v) = v := fun _ => rfl
            clear hF hK
            generalize a.eval = ρ at *
            go_simp
          case r5 =>
            refine step_of rfl rfl ?_
            intro a wx vs fp K hF hK
            have hmea : OwnR W.heap.size 36 5 (fs.length) (flat encL fs) [] (vs 2) (fp 2) wx := hF.me 2 rfl
            obtain ⟨Bea, dea, hBea⟩ := own_slice hmea.1
            have hoea := hmea.1
            rw [hBea] at hoea
            have ea : a.eval (.tmp 149) = .slice Bea (fs.length) dea := (hF.ev 2 149 rfl rfl).trans hBea
            have hleb : LitR 36 (encL nb).toArray (1) [] (vs 4) (fp 4) wx := hF.me 4 rfl
            obtain ⟨geb, hgeb, hfeb, hbleb⟩ := hleb
            have eb : a.eval (.tmp 151) = .slice (some ⟨geb, 0, none⟩) (1) (1) := (hF.ev 4 151 rfl rfl).trans hgeb
            refine op_call (vals := #[.slice Bea fs.length dea, .slice (some ⟨geb, 0, none⟩) 1 1]) rfl (by kernel_rfl) ?_ ((HPU.out Bea fs.length dea fs (some ⟨geb, 0, none⟩) 1 1 [nb] wx (Recs.of_own encL_len hoea rfl) (recs_lit (xs := [nb]) encL_len hbleb) HLE.out (by decide) HORD.out).mono ?_)
            · simp only [List.map_toArray, List.map_cons, List.map_nil, ea, eb]
            rintro e w' ⟨B, d, rfl, ho, hb⟩
            exact ⟨_, rfl, hK _ _ _ (hF.under hb trivial ⟨own_mono ho hF.below.size, rfl⟩ (fun g hg => ⟨own_base ho g (by simpa using hg), own_lt ho g (by simpa using hg)⟩))⟩
          case r6 =>
            refine step_of rfl rfl ?_
            intro a wx vs fp K hF hK
            have hm : OwnR W.heap.size 36 5 ((fs ++ [nb]).length) (flat encL (fs ++ [nb])) [] (vs 5) (fp 5) wx := hF.me 5 rfl
            exact op_assign rfl (hF.ev 5 152 rfl rfl) (hK _ _ _ (hF.hand 5 rfl trivial hm))
          case r7 =>
            refine step_of rfl rfl ?_
            intro a wx vs fp K hF hK
            refine op_value (v := .int .i64 0) ?_ (hK _ _ _ (hF.only rfl trivial))
            have ec : ∀ v, a.eval (.const v) = v := fun _ => rfl
            clear hF hK
            generalize a.eval = ρ at *
            go_simp
          case fin =>
            intro wz vs fp hI
            have hM : OwnR W.heap.size 36 5 ((fs ++ [nb]).length) (flat encL (fs ++ [nb])) [vs 5] (vs 6) (fp 6) wz := (hI.finM 6 (by decide) rfl).1
            have h7 : vs 7 = .int .i64 0 := hI.fin 7 (by decide)
            have hbz := hI.below
            have ho9 := own_mono hM.1 HB11.out.size
            obtain ⟨B9, d9, hv9⟩ := own_slice hM.1
            rw [hv9] at ho9
            clear hI hM
            simp only [rj, number, putJ, List.map_cons, List.map_nil, if_true, Act.put, List.setIfInBounds_toArray, List.set_cons_zero, List.set_cons_succ, hv9, h7]
            generalize vs 0 = zv0
            generalize vs 1 = zv1
            generalize vs 2 = zv2
            generalize vs 3 = zv3
            generalize vs 4 = zv4
            generalize vs 5 = zv5
            have HB9 : Hid (RowKit.Below w.heap.size w wz) := HB11.out.trans (hbz.mono HB11.out.size)
            have HM9 : Hid (StM wz B9 (fs ++ [nb]).length d9 (fs ++ [nb])) := StM.own ho9 fun b hb => by
              rcases List.mem_append.1 hb with hb | hb
              · rw [← hfs] at hb
                exact sl_below (HX.out.sl b (List.filter_sublist.subset hb)) HB9.out
              · rw [List.mem_singleton] at hb
                subst hb
                exact HSN.out.below hbz
            have HR9 : Hid (EstOk (lotsOf (fs ++ [nb])) cs (free + 1)) := by
              show EstOk _ _ _
              have e1 : lotsOf (fs ++ [nb]) = ((lotsOf bs).filter fun x => decide (x.id ∉ xs)) ++ [nb.x] := by
                rw [← lots_out, hfs]; unfold lotsOf; rw [List.map_append]; rfl
              have e2 : stUnits [nb.x] = unitsOf ys := by rw [stUnits_cons, HUN.out]; simp [stUnits]
              have h4 := filter_out29 HE.out.st.asc HND.out fun i hi => by
                obtain ⟨j, hj, rfl⟩ := List.getElem_of_mem hi
                obtain ⟨x, hx, e⟩ := HAL.out j (by omega)
                exact ⟨x.x, List.mem_map.2 ⟨x, hx, rfl⟩, by rw [e, List.getD_eq_getElem?_getD, List.getElem?_eq_getElem hj]; rfl⟩
              have h5 : (lotsOf bs).length = n := by unfold lotsOf; rw [List.length_map]; exact hbl
              rw [e1]
              refine HE.out.over (fun x hx => ?_) (List.pairwise_singleton _ _) (fun x hx => ?_) (by omega) ?_ ?_ fun u hu => ?_
              · rw [List.mem_singleton] at hx; subst hx; exact HLN.out
              · rw [List.mem_singleton] at hx; subst hx; rw [HIDN.out]; omega
              · show _ + 1 ≤ 64
                omega
              · rw [e2]; exact HC.out.nd
              · rw [e2] at hu
                obtain ⟨x, hx, hxi, hxu⟩ := HC.out.sub u hu
                exact ⟨x, hx, List.mem_of_mem_take hxi, hxu⟩
            clear ho9 hv9 hbz h7 hfs HBS5 HORD
            generalize fs ++ [nb] = bs6 at *
            go_wp2
            go_ret2
            exact ⟨B9, d9, 0, bs6, rfl, fun _ => ⟨HM9.out, HR9.out⟩, HB9.out⟩
end Go.Proofs.YthnhgjhnkncmiaaGreat

namespace Go.Proofs.YthnhgjhnkncmiaaGreat
open Go.RowKit Go.Shelf
set_option linter.unusedVariables false

/-- What Clone returns: a row of the call's own. -/
def CloRes {α : Type} (enc : α → List Value) (T : TypeId) (k : Nat) (w : World) (n : Nat) (xs : List α) (e : Ending) (w' : World) : Prop := ∃ (B : Option Addr) (d : Nat), e = .returned (.slice B n d) ∧ w'.ownsRow w.heap.size T k (.slice B n d) n (flat enc xs) ∧ RowKit.Below w.heap.size w w'
theorem infoCl : (Tryz.prog.info? 39).map (fun i => (i.zero, i.size, i.bytes)) = some (some (.agg #[.int .i64 0, .int .i64 0, .int .i64 0, .int .i64 0, .int .i64 0, .slice none 0 0]), 6, 64) := by kernel_rfl
theorem own0C (w : World) (b : Nat) : w.ownsRow b 39 6 (.slice none 0 0) 0 (flat encCl []) := ⟨by simp [flat], .inl ⟨rfl, rfl⟩⟩
set_option maxRecDepth 100000 in
theorem cloneC_any (A : Option Addr) (n c : Nat) (xs : List Cb) (w : World) (h : RRd encCl 6 w A n xs) (hn : n ≤ 100000) :
    Calls Tryz.prog 34 #[.slice A n c] w (CloRes encCl 39 6 w n xs) := by
  rcases h.plain with rfl | ⟨b, off, rfl⟩
  · obtain rfl : n = 0 := h.nil rfl
    obtain rfl : xs = [] := List.eq_nil_of_length_eq_zero h.recs.1
    refine (AnyE.slices_Clone_nil Tryz.cloneC 0 c w).mono ?_
    rintro e w' ⟨rfl, rfl⟩
    exact ⟨none, 0, rfl, own0C _ _, Below.refl _ _⟩
  · obtain ⟨i0, hi, hz0, hz1, hz2⟩ := info_parts infoCl
    refine (AnyE.slices_Clone Tryz.cloneC i0 _ 6 64 hi hz0 hz1 hz2 rfl (by decide) Tryz.sizeOf39 b off n c (flat encCl xs) w (by rw [flat_length encCl_len, h.recs.1]) (by unfold maxLen; omega) (by omega) (Recs.cells encCl_len (by omega) h.recs) (fun u hu => by
      obtain ⟨x, _, hx⟩ := List.mem_flatMap.1 hu
      exact encCl_one x u hx)).mono ?_
    rintro e w' ⟨v', rfl, ho, _, hb⟩
    obtain ⟨B, d, rfl⟩ := own_slice ho
    exact ⟨B, d, rfl, ho, hb⟩
theorem own0S (w : World) (b : Nat) : w.ownsRow b 68 3 (.slice none 0 0) 0 (flat encSl []) := ⟨by simp [flat], .inl ⟨rfl, rfl⟩⟩
set_option maxRecDepth 100000 in
theorem cloneS_any (A : Option Addr) (n c : Nat) (xs : List Sl) (w : World) (h : RRd encSl 3 w A n xs) (hn : n ≤ 100000) :
    Calls Tryz.prog 58 #[.slice A n c] w (CloRes encSl 68 3 w n xs) := by
  rcases h.plain with rfl | ⟨b, off, rfl⟩
  · obtain rfl : n = 0 := h.nil rfl
    obtain rfl : xs = [] := List.eq_nil_of_length_eq_zero h.recs.1
    refine (AnyE.slices_Clone_nil Tryz.cloneS 0 c w).mono ?_
    rintro e w' ⟨rfl, rfl⟩
    exact ⟨none, 0, rfl, own0S _ _, Below.refl _ _⟩
  · obtain ⟨i0, hi, hz0, hz1, hz2⟩ := info_parts infoSl
    refine (AnyE.slices_Clone Tryz.cloneS i0 _ 3 24 hi hz0 hz1 hz2 rfl (by decide) Tryz.sizeOf68 b off n c (flat encSl xs) w (by rw [flat_length encSl_len, h.recs.1]) (by unfold maxLen; omega) (by omega) (Recs.cells encSl_len (by omega) h.recs) (fun u hu => by
      obtain ⟨x, _, hx⟩ := List.mem_flatMap.1 hu
      exact encSl_one x u hx)).mono ?_
    rintro e w' ⟨v', rfl, ho, _, hb⟩
    obtain ⟨B, d, rfl⟩ := own_slice ho
    exact ⟨B, d, rfl, ho, hb⟩
/-- The row of which the first k elements have rows of their own. -/
def CHalf (N : Nat) (W : World) (A : Option Addr) (n d : Nat) (qs : List Cb) (k : Nat) : Prop := ∃ xs : List Cb, xs.length = n ∧ W.ownsRow N 39 6 (.slice A n d) n (flat encCl xs) ∧ (∀ j, j < n → xs[j]!.x = qs[j]!.x ∧ xs[j]!.x.sl = qs[j]!.x.sl) ∧ (∀ j, j < k → W.ownsRow N 68 3 (.slice xs[j]!.A xs[j]!.n xs[j]!.c) xs[j]!.n (flat encSl xs[j]!.x.sl)) ∧ (∀ j, k ≤ j → j < n → xs[j]! = qs[j]!)
theorem CHalf.start {N : Nat} {W : World} {A : Option Addr} {n d : Nat} {qs : List Cb} (h : W.ownsRow N 39 6 (.slice A n d) n (flat encCl qs)) (hl : qs.length = n) : CHalf N W A n d qs 0 :=
  ⟨qs, hl, h, fun _ _ => ⟨rfl, rfl⟩, fun j hj => by omega, fun _ _ _ => rfl⟩
theorem CHalf.keep {N : Nat} {W W' : World} {A : Option Addr} {n d k : Nat} {qs : List Cb} (h : CHalf N W A n d qs k) (hb : RowKit.Below W.heap.size W W') : CHalf N W' A n d qs k := by
  obtain ⟨xs, h1, h2, h3, h4, h5⟩ := h
  exact ⟨xs, h1, own_below h2 hb, h3, fun j hj => own_below (h4 j hj) hb, h5⟩
theorem CHalf.get {N : Nat} {W : World} {A : Option Addr} {n d k : Nat} {qs : List Cb} (h : CHalf N W A n d qs k) (hk : k < n) : ∃ g, A = some ⟨g, 0, none⟩ ∧ g < W.heap.size ∧ (∀ c, c < 6 → W.cell? ⟨g, k * 6 + c, none⟩ = some ((encCl qs[k]!)[c]!)) ∧ (∀ o, W.frozen? ⟨g, o, none⟩ = false) := by
  obtain ⟨xs, h1, h2, h3, h4, h5⟩ := h
  obtain ⟨g, rfl⟩ := own_addr h2 (by omega)
  refine ⟨g, rfl, own_lt h2 g rfl, fun c hc => ?_, fun o => h2.frozenAt o⟩
  have hkx : k < xs.length := by omega
  have h6 := own_cellK (enc := encCl) (xs := xs) (i := k) (c := c) (fun _ => rfl) h2 hkx hc h1
  rw [h5 k (Nat.le_refl _) hk] at h6
  exact h6
theorem CHalf.step {N : Nat} {W : World} {g n d k : Nat} {A' : Option Addr} {qs : List Cb} {n' d' : Nat} (h : CHalf N W (some ⟨g, 0, none⟩) n d qs k) (hk : k < n) (ho : W.ownsRow N 68 3 (.slice A' n' d') n' (flat encSl qs[k]!.x.sl)) : CHalf N (W.setCell ⟨g, k * 6 + 5, none⟩ (.slice A' n' d')) (some ⟨g, 0, none⟩) n d qs (k + 1) := by
  obtain ⟨xs, h1, h2, h3, h4, h5⟩ := h
  have e5 := h5 k (Nat.le_refl _) hk
  have hkx : k < xs.length := by omega
  have hf : ∀ (B : Option Addr) (m e : Nat) (ys : List Value), W.ownsRow N 68 3 (.slice B m e) m ys → (W.setCell ⟨g, k * 6 + 5, none⟩ (.slice A' n' d')).ownsRow N 68 3 (.slice B m e) m ys := fun B m e ys hh =>
    own_of_block hh fun j hj => Below.heap_setCell _ _ _ j (fun e' => own_diff hh h2 (by decide) j hj (by rw [e']; rfl))
  refine ⟨xs.set k { xs[k]! with A := A', n := n', c := d' }, by simpa using h1, own_setK (enc := encCl) (k := 6) (c := 5) (fun _ => rfl) h2 (by omega) hkx rfl, fun j hj => ?_, fun j hj => ?_, fun j hkj hj => ?_⟩
  · rw [get_setK xs k j _ hkx]
    by_cases e : k = j
    · subst e; rw [if_pos rfl]; exact h3 k hk
    · rw [if_neg e]; exact h3 j hj
  · rw [get_setK xs k j _ hkx]
    by_cases e : k = j
    · subst e
      rw [if_pos rfl]
      have e6 := (h3 k hk).2
      show World.ownsRow _ _ _ _ (.slice A' n' d') n' (flat encSl xs[k]!.x.sl)
      rw [e6]
      exact hf _ _ _ _ ho
    · rw [if_neg e]; exact hf _ _ _ _ (h4 j (by omega))
  · rw [get_setK xs k j _ hkx, if_neg (by omega)]
    exact h5 j (by omega) hj
theorem CHalf.done {N : Nat} {W : World} {A : Option Addr} {n d : Nat} {qs : List Cb} (h : CHalf N W A n d qs n) (hl : qs.length = n) : ∃ xs : List Cb, W.ownsRow N 39 6 (.slice A n d) n (flat encCl xs) ∧ xs.map (fun b => (b.x, b.x.sl)) = qs.map (fun b => (b.x, b.x.sl)) ∧ ∀ b ∈ xs, W.ownsRow N 68 3 (.slice b.A b.n b.c) b.n (flat encSl b.x.sl) := by
  obtain ⟨xs, h1, h2, h3, h4, h5⟩ := h
  refine ⟨xs, h2, ?_, fun b hb => ?_⟩
  · apply List.ext_getElem (by simp [h1, hl])
    intro j hj hj'
    simp only [List.length_map] at hj hj'
    have := h3 j (by omega)
    rw [getElem!_pos xs j hj, getElem!_pos qs j hj'] at this
    simp [this.1]
  · obtain ⟨j, hj, rfl⟩ := List.getElem_of_mem hb
    have := h4 j (by omega)
    rwa [getElem!_pos xs j hj] at this
/-- What copied returns. -/
def CopRes (w : World) (n : Nat) (bs : List Cb) (e : Ending) (w' : World) : Prop := ∃ (B : Option Addr) (d : Nat) (xs : List Cb), e = .returned (.slice B n d) ∧ w'.ownsRow w.heap.size 39 6 (.slice B n d) n (flat encCl xs) ∧ xs.length = n ∧ clms xs = clms bs ∧ (∀ b ∈ xs, w'.ownsRow w.heap.size 68 3 (.slice b.A b.n b.c) b.n (flat encSl b.x.sl)) ∧ RowKit.Below w.heap.size w w'
set_option maxRecDepth 100000 in
set_option maxHeartbeats 8000000 in
theorem copied_any (A : Option Addr) (n c : Nat) (bs : List Cb) (w : World) (h : ClAt w A n bs) (hn : n ≤ 1000) (hs : ∀ b ∈ bs, b.n ≤ 100000) :
    Calls Tryz.prog 32 #[.slice A n c] w (CopRes w n bs) := by
  have HX := Lib.hid h
  have HS := Lib.hid hs
  have HL : Hid (bs.length = n) := h.cls.recs.1
  have HC0 := Lib.hid (cloneC_any A n c bs w h.cls (by omega))
  clear h hs
  go_enter Tryz.func32, Tryz.ntmps32
  go_wp2_with fail
  refine HC0.out.mono ?_
  rintro e w1 ⟨B, d, rfl, ho1, hb1⟩
  have HQ0 : Hid (CHalf w.heap.size w1 B n d bs 0) := CHalf.start ho1 HL.out
  have HB0 := Lib.hid hb1
  clear ho1 hb1 HC0
  go_wp2_with fail
  go_loopw [9] (fun v wx => ∃ k : Nat, v = .int .i64 (k : Int) ∧ k ≤ n ∧ Hid (RowKit.Below w.heap.size w wx) ∧ Hid (CHalf w.heap.size wx B n d bs k)) (fun v _ => n - (intOf v).toNat)
  case atStart => exact ⟨0, rfl, Nat.zero_le _, HB0, HQ0⟩
  case round =>
    clear HB0 HQ0
    obtain ⟨k, rfl, hk, HB, HQ⟩ := hrel
    by_cases hlt : k < n
    case pos =>
      have dk : decide ((k : Int) < (n : Int)) = true := by simp; omega
      obtain ⟨gq, hA, hgq, hcells, hfree⟩ := HQ.out.get hlt
      subst hA
      obtain ⟨b, hb⟩ : ∃ b, bs[k]! = b := ⟨_, rfl⟩
      rw [hb] at hcells
      have HBE := Lib.hid hb
      have hbm : b ∈ bs := by rw [← hb]; exact get_memK (by rw [HL.out]; exact hlt)
      have hki : (k : Int) < n := by omega
      have hkz : (0 : Int) ≤ (k : Int) := by omega
      have HSB : Hid (SlAt wr b.A b.n b.x.sl) := ((HX.out.below HB.out).sls b hbm).1
      have HCS := Lib.hid (cloneS_any b.A b.n b.c b.x.sl wr HSB.out (HS.out b hbm))
      have a5 : wr.cell? ⟨gq, k * 6 + 5, none⟩ = some (.slice b.A b.n b.c) := hcells 5 (by omega)
      clear hb hbm hcells hfree HSB
      go_wp2_with fail
      refine HCS.out.mono ?_
      rintro e w5 ⟨B', d', rfl, ho5, hb5⟩
      have f5 : w5.frozen? ⟨gq, k * 6 + 5, none⟩ = false := by
        obtain ⟨g2, hA2, _, _, hfree⟩ := (HQ.out.keep hb5).get hlt
        injection hA2 with hA2
        injection hA2 with hA2
        subst hA2
        exact hfree _
      have e5 : w5.cell? ⟨gq, k * 6 + 5, none⟩ = some (.slice b.A b.n b.c) := (hb5.cell (p := ⟨gq, k * 6 + 5, none⟩) hgq).trans a5
      have HQ5 : Hid (CHalf w.heap.size (w5.setCell ⟨gq, k * 6 + 5, none⟩ (.slice B' b.n d')) (some ⟨gq, 0, none⟩) n d bs (k + 1)) := (HQ.out.keep hb5).step hlt (by rw [HBE.out]; exact own_mono ho5 HB.out.size)
      have HB5 : Hid (RowKit.Below w.heap.size w (w5.setCell ⟨gq, k * 6 + 5, none⟩ (.slice B' b.n d'))) := (HB.out.trans (hb5.mono HB.out.size)).setCell (p := ⟨gq, k * 6 + 5, none⟩) (by obtain ⟨ys, _, h2, _⟩ := HQ.out; exact own_base h2 gq rfl) _
      clear ho5 hb5 HB HQ HCS a5
      go_wp2_with fail
      go_roundw
      case rel => exact ⟨k + 1, by go_num, by omega, HB5, HQ5⟩
      case measure => simp [intOf]; omega
    case neg =>
      have dk : decide ((k : Int) < (n : Int)) = false := by simp; omega
      obtain rfl : n = k := by omega
      obtain ⟨xs, hr1, hm1, hf1⟩ := HQ.out.done HL.out
      have hxl : xs.length = n := by rw [← HL.out]; have := congrArg List.length hm1; simpa using this
      have hcm : clms xs = clms bs := by
        have := congrArg (List.map Prod.fst) hm1
        simpa [clms, Function.comp_def] using this
      have HR : Hid (CopRes w n bs (.returned (.slice B n d)) wr) := ⟨B, d, xs, rfl, hr1, hxl, hcm, hf1, HB.out⟩
      clear hr1 hm1 hf1 hxl hcm HQ
      go_wp2
      go_ret
      exact HR.out
def InsRes29 (w : World) (N n : Nat) (fs : List Cb) (e : Ending) (w' : World) : Prop := ∃ (B : Option Addr) (d : Nat), e = .returned (.slice B (n + 1) d) ∧ w'.ownsRow N 39 6 (.slice B (n + 1) d) (n + 1) (flat encCl fs) ∧ RowKit.Below N w w'
set_option maxRecDepth 100000 in
set_option maxHeartbeats 4000000 in
theorem insert_end29 (N : Nat) (B : Option Addr) (n c : Nat) (fs : List Cb) (b : Cb) (vb : Nat) (w : World) (ho : w.ownsRow N 39 6 (.slice B n c) n (flat encCl fs)) (hv : Bl w vb 39 #[.int .i64 b.x.num, .int .i64 b.x.lot, .int .i64 b.x.sch, .int .i64 b.x.qty, .int .i64 b.x.rate, .slice b.A b.n b.c]) (hn : n ≤ 1000) (hN : N ≤ w.heap.size) :
    Calls Tryz.prog 33 #[.slice B n c, .int .i64 n, .slice (some ⟨vb, 0, none⟩) 1 1] w (InsRes29 w N n (fs ++ [b])) := by
  have HO := Lib.hid ho
  have HR : Hid (Rd w 6 (some ⟨vb, 0, none⟩) 1 (encCl b)) := rd_bl (xs := encCl b) hv rfl
  have HM : Hid (n + 1 ≤ maxLen ∧ (n + 1) * 64 ≤ 140737488355328) := ⟨by unfold maxLen; omega, by omega⟩
  have HN := Lib.hid hN
  have HON := Lib.hid (encCl_one b)
  clear ho hv hN
  have hbd := own_boundsF HO.out
  go_enter Tryz.func33, Tryz.ntmps33
  go_wp2_with (at_builtin; refine wpList_append_rd _ rfl (.tmp 23) (.tmp 24) 32 rfl N 39 _ 6 64 Tryz.underlying32 infoCl rfl (by decide) (.slice B n c) n (flat encCl fs) rfl HO.out (some ⟨vb, 0, none⟩) 1 1 (encCl b) rfl HR.out HON.out HM.out.1 HM.out.2 HN.out ?_; intro v6 w6 ho6 hg6 _; obtain ⟨B6, d6, rfl⟩ := own_slice ho6)
  all_goals go_ret
  all_goals exact ⟨B6, d6, rfl, by rw [flat_append, flat_one]; exact ho6, (Below.refl N w).grown hg6 HN.out (fun k hk => own_base HO.out k hk)⟩
theorem cmp_below {x t : Int} (h : x < t) : Lib.compareInt x t = -1 := by
  unfold Lib.compareInt
  rw [if_pos h]
set_option maxRecDepth 100000 in
set_option maxHeartbeats 1000000 in
theorem lodge1_any (y : Cb) (t : Int) (w : World) (h : y.x.num < t) : Calls Tryz.prog 29 #[.agg #[.int .i64 y.x.num, .int .i64 y.x.lot, .int .i64 y.x.sch, .int .i64 y.x.qty, .int .i64 y.x.rate, .slice y.A y.n y.c], .int .i64 t] w fun e w' => e = .returned (.int .i64 (-1)) ∧ RowKit.Below w.heap.size w w' := by
  have HC : Hid (∀ w, Calls Tryz.prog 30 #[.int .i64 y.x.num, .int .i64 t] w fun e w' => e = .returned (.int .i64 (-1)) ∧ w' = w) := fun w => by rw [← cmp_below h]; exact Tryz.cmp_Compare_int _ _ w
  go_enter Tryz.func29, Tryz.ntmps29
  go_wp2_with fail
  refine (HC.out _).mono ?_
  rintro e w1 ⟨rfl, rfl⟩
  go_wp2
  go_ret
  exact ⟨rfl, (Below.refl _ _).alloc (Nat.le_refl _) _⟩
set_option maxRecDepth 100000 in
set_option maxHeartbeats 4000000 in
theorem bsearch29_any (A : Option Addr) (n c : Nat) (bs : List Cb) (t : Int) (w : World) (h : ClAt w A n bs) (hn : n ≤ 1000) (hl : ∀ b ∈ bs, b.x.num < t) :
    Calls Tryz.prog 28 #[.slice A n c, .int .i64 t, .func (.func 29) #[] #[]] w fun e w' => e = .returned (.tuple #[.int .i64 (n : Int), .bool false]) ∧ RowKit.Below w.heap.size w w' := by
  have HX := Lib.hid h
  have hxl : bs.length = n := h.cls.recs.1
  have HL := Lib.hid hl
  clear h hl
  go_enter Tryz.func28, Tryz.ntmps28
  go_wp2_with fail
  go_loopw [9, 10] (fun i j wx => ∃ I : Nat, i = .int .i64 (I : Int) ∧ j = .int .i64 (n : Int) ∧ I ≤ n ∧ Hid (RowKit.Below w.heap.size w wx)) (fun i j _ => n - (intOf i).toNat)
  case atStart => exact ⟨0, rfl, rfl, Nat.zero_le _, Below.refl _ _⟩
  case round =>
    obtain ⟨I0, rfl, rfl, hI, HB⟩ := hrel
    by_cases hlt : I0 < n
    case pos =>
      have dk : decide ((I0 : Int) < (n : Int)) = true := by simp; omega
      go_upto_region 5 with (fail)
      obtain ⟨I, hH⟩ : ∃ q : Nat, ((I0 : Int) + (n : Int)) / 2 = (q : Int) := ⟨(I0 + n) / 2, by omega⟩
      have hH1 : I0 ≤ I := by omega
      have hH2 : I < n := by omega
      rw [hH]
      clear hH
      obtain ⟨b1, o1, rfl, hb1, ha⟩ := recs_at (HX.out.below HB.out).cls.recs hH2
      obtain ⟨y, hy⟩ : ∃ y, bs[I]! = y := ⟨_, rfl⟩
      rw [hy] at ha
      have a0 : wr.cell? ⟨b1, o1 + I * 6, none⟩ = some (.int .i64 y.x.num) := ha.out 0 (by omega)
      have a1 : wr.cell? ⟨b1, o1 + I * 6 + 1, none⟩ = some (.int .i64 y.x.lot) := ha.out 1 (by omega)
      have a2 : wr.cell? ⟨b1, o1 + I * 6 + 2, none⟩ = some (.int .i64 y.x.sch) := ha.out 2 (by omega)
      have a3 : wr.cell? ⟨b1, o1 + I * 6 + 3, none⟩ = some (.int .i64 y.x.qty) := ha.out 3 (by omega)
      have a4 : wr.cell? ⟨b1, o1 + I * 6 + 4, none⟩ = some (.int .i64 y.x.rate) := ha.out 4 (by omega)
      have a5 : wr.cell? ⟨b1, o1 + I * 6 + 5, none⟩ = some (.slice y.A y.n y.c) := ha.out 5 (by omega)
      have hmem : y ∈ bs := by rw [← hy]; exact get_memK (by omega)
      have HCM := Lib.hid (lodge1_any y t wr (HL.out y hmem))
      have hii : (I : Int) < (n : Int) := by omega
      have hiz : (0 : Int) ≤ (I : Int) := by omega
      have d1 : decide ((-1 : Int) < 0) = true := by decide
      clear ha hy hmem
      go_wp2_with fail
      refine HCM.out.mono ?_
      rintro e w8 ⟨rfl, hb8⟩
      have HB8 : Hid (RowKit.Below w.heap.size w w8) := HB.out.trans (hb8.mono HB.out.size)
      clear hb8 HB a0 a1 a2 a3 a4 a5
      go_wp2_with fail
      go_roundw
      case rel => exact ⟨I + 1, by go_num, rfl, by omega, HB8⟩
      case measure => simp [intOf]; omega
    case neg =>
      obtain rfl : n = I0 := by omega
      have dk : decide ((n : Int) < (n : Int)) = false := by simp
      have hd : decide (n < n) = false := by simp
      go_wp2
      go_ret2
      exact ⟨rfl, HB.out⟩
end Go.Proofs.YthnhgjhnkncmiaaGreat

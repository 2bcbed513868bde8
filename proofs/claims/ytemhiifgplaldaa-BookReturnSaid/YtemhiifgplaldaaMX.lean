/-
  The append onto a row of the call's own, in a region that draws its order. No statement of the seat is proved here.
  The contract of customsmade.Order: a permutation of the places. No statement of the seat is proved here. Conditions: at most 1000 places.
-/
import Derived.Test.YtemhiifgplaldaaMS
import Derived.Deep.RegionHeld3
namespace Go.Proofs.Ytemhiifgplaldaa
open Go.RowKit
set_option linter.unusedVariables false

/-- An empty slice that was written out. -/
theorem own_empty {w : World} {g base : Nat} {t : TypeId} {size : Nat} (h : Bl w g t #[]) (hb : base ≤ g) : w.ownsRow base t size (.slice (some ⟨g, 0, none⟩) 0 0) 0 [] :=
  ⟨by simp, .inr ⟨g, 0, #[], rfl, hb, h, Nat.le_refl _, Nat.zero_le _, by simp, by simp⟩⟩

/-- The append onto a row of the call's own, in a region that draws its order. -/
theorem step_append_rd {P : Program} (w : World) {ops : Array Oper} {o : Oper} {a : Act} {K : Act → World → Prop} {Q : Exit → Act → World → Prop} {E : Prop} (hgd : o.guard = none) (s x : Operand) (t : TypeId)
    (ho : o.op = .call { callee := .builtin .append, args := #[s, x], argTypes := #[t, t] })
    (base : Nat) (e : TypeId) (z : Value) (size bytes : Nat) (ht : P.underlying t = some (.slice e)) (hi : (P.info? e).map (fun i => (i.zero, i.size, i.bytes)) = some (some z, size, bytes)) (hzs : z.cells.size = size) (hsz : 0 < size)
    (v : Value) (n : Nat) (xs : List Value) (hs : a.eval s = v) (hown : w.ownsRow base e size v n xs)
    (A : Option Addr) (m c : Nat) (news : List Value) (hx : a.eval x = .slice A m c) (hr : Rd w size A m news) (h1 : ∀ u ∈ news, u.oneCell' = true)
    (h63 : n + m ≤ maxLen) (hbytes : (n + m) * bytes ≤ 140737488355328) (hbase : base ≤ w.heap.size)
    (h : ∀ v' w', w'.ownsRow base e size v' (n + m) (xs ++ news) → w.grownBy w' v.ownBlock → K (a.put o.dst v') w') :
    if Region.wanted o (yielded ops a.tmps) = true then Oper.wp P o a w K Q else E := by
  obtain ⟨i, hi0, hz, hsize, hby⟩ := info_parts hi
  have hw : Region.wanted o (yielded ops a.tmps) = true := by simp [Region.wanted, hgd]
  rw [if_pos hw]
  obtain ⟨v', w', hrun, h2, h3, _⟩ := run_append_rd (P := P) w base t o.type e i z size bytes ht hi0 hz hsize hby hzs hsz v n xs hown A m c news hr h1 h63 hbytes hbase
  unfold Oper.wp execOp
  simp only [ho, resolve, invoke, builtin, Sem.run_bind, Sem.run_pure, Result.andThen_ok, List.map_toArray, List.map_cons, List.map_nil, hs, hx, hrun]
  exact h v' w' h2 h3
theorem Rd.drew {w : World} {size n : Nat} {A : Option Addr} {xs : List Value} (h : Rd w size A n xs) : Rd w.drew size A n xs := h
end Go.Proofs.Ytemhiifgplaldaa

namespace Go.Proofs.Ytemhiifgplaldaa
open Go.RowKit
set_option linter.unusedVariables false

set_option maxRecDepth 100000 in
set_option maxHeartbeats 2000000 in
theorem next_big (g : Nat) (A : Option Addr) (n c I : Nat) (xs : List Int) (k : Int) (w0 w : World) (hS : Src w g A n c I) (hI : Ints w0 A n xs) (hb : RowKit.Below w0.heap.size w0 w) (hg : w0.heap.size ≤ g) (hn : n ≤ 9223372036854775807) (hk : 0 < k) (hk' : k ≤ 4000000000000000000) :
    Calls Try.prog 29 #[.pointer (some ⟨g, 0, none⟩), .int .i64 k] w (NextRes w g A n c (nextV xs n I k) (nextI n I)) := by
  have c0 : w.cell? ⟨g, 0, none⟩ = some (.slice A n c) := hS.cell 0
  have c1 : w.cell? ⟨g, 1, none⟩ = some (.int .i64 I) := hS.cell 1
  have f1 : w.frozen? ⟨g, 1, none⟩ = false := hS.free 1
  by_cases hlt : I < n
  · have eV : nextV xs n I k = xs.getD I 0 % k := by unfold nextV; rw [if_pos hlt]
    have eI : nextI n I = I + 1 := by unfold nextI; rw [if_pos hlt]
    rw [eV, eI]
    obtain ⟨b, off, x, rfl, hbl, hx, HX⟩ := hI.get hlt
    rw [HX.out]
    have hx' : w.cell? ⟨b, off + I, none⟩ = some (.int .i64 x) := (hb.cell (p := ⟨b, off + I, none⟩) hbl).trans hx
    have hd : decide ((n : Int) ≤ (I : Int)) = false := by simp; omega
    have hne : b ≠ g := by omega
    have HW := Lib.hid (fun w => within_any x k w hk hk')
    have i1 : (0 : Int) ≤ (I : Int) := by omega
    have i2 : (I : Int) < (n : Int) := by omega
    have u1 : IntKind.i64.wrap ((I : Int) + 1) = (I : Int) + 1 := IntWalk.i64_in _ (by omega)
    have u2 : IntKind.i64.wrap ((I : Int) + 1 - 1) = (I : Int) := (IntWalk.i64_in _ (by omega)).trans (by omega)
    have u3 : IntKind.i64.wrap (I : Int) = (I : Int) := IntWalk.i64_in _ (by omega)
    clear eV eI hx
    go_enter Try.func29, Try.ntmps29
    go_wp2
    go_quiet (fail)
    go_wp2_with fail
    have hS1 : Bl ((w.drewN nq).setCell ⟨g, 1, none⟩ (.int .i64 ((I : Int) + 1))) g 69 #[.slice (some ⟨b, off, none⟩) n c, .int .i64 ((I : Int) + 1)] := by simpa using (hS.drewN nq).put 1 (.int .i64 ((I : Int) + 1))
    have hO1 := ((Only.refl g w).drewN nq).setCell 1 (.int .i64 ((I : Int) + 1))
    have hx1 : ((w.drewN nq).setCell ⟨g, 1, none⟩ (.int .i64 ((I : Int) + 1))).cell? ⟨b, off + I, none⟩ = some (.int .i64 x) := (World.cell?_of_block (hO1.block b hne)).trans hx'
    generalize (w.drewN nq).setCell ⟨g, 1, none⟩ (.int .i64 ((I : Int) + 1)) = W at *
    have e0 : W.cell? ⟨g, 0, none⟩ = some (.slice (some ⟨b, off, none⟩) n c) := hS1.cell 0
    have e1 : W.cell? ⟨g, 1, none⟩ = some (.int .i64 ((I : Int) + 1)) := hS1.cell 1
    clear c0 c1 f1 hx'
    go_quiet ((go_at_call 16; exact quiet_left (HW.out _)))
    go_wp2
    go_ret
    exact ⟨rfl, hO1.drewN _, by show Bl _ _ _ _; rw [Int.natCast_add]; exact hS1.drewN _⟩
  · have eV : nextV xs n I k = 0 := by unfold nextV; rw [if_neg hlt]
    have eI : nextI n I = I := by unfold nextI; rw [if_neg hlt]
    rw [eV, eI]
    have hd : decide ((n : Int) ≤ (I : Int)) = true := by simp; omega
    go_enter Try.func29, Try.ntmps29
    go_wp2
    go_quiet (fail)
    go_wp2
    go_ret
    exact ⟨rfl, (Only.refl _ _).drewN _, hS.drewN _⟩

/-- A list of places as integers. -/
def nv (L : List Nat) : List Value := L.map fun i : Nat => Value.int .i64 (i : Int)
theorem nv_append (a b : List Nat) : nv (a ++ b) = nv a ++ nv b := by simp [nv]
theorem nv_len (a : List Nat) : (nv a).length = a.length := by simp [nv]
theorem nv_one (L : List Nat) : ∀ u ∈ nv L, u.oneCell' = true := fun u hu => by
  obtain ⟨x, _, rfl⟩ := List.mem_map.1 hu
  rfl
theorem own_cellsI {w : World} {base n c : Nat} {A : Option Addr} {L : List Nat} (h : w.ownsRow base 3 1 (.slice A n c) n (nv L)) (h0 : 0 < n) : ∃ g, A = some ⟨g, 0, none⟩ ∧ g < w.heap.size ∧ L.length = n ∧ n ≤ c ∧ c ≤ 9223372036854775807 ∧ ∀ i, i < n → w.cell? ⟨g, i, none⟩ = some (.int .i64 (L[i]! : Int)) := by
  have hl : L.length = n := by have := h.1; rw [nv_len] at this; omega
  have hbd := own_boundsF h
  rcases h.2 with ⟨hv, h1⟩ | ⟨g, cap, cur, hv, _, hh, _⟩
  · omega
  · injection hv with e1 e2 e3
    subst e1
    have hlt : g < w.heap.size := by
      rcases Nat.lt_or_ge g w.heap.size with h4 | h4
      · exact h4
      · rw [Array.getElem?_eq_none h4] at hh; cases hh
    refine ⟨g, rfl, hlt, hl, hbd.1, hbd.2, fun i hi => ?_⟩
    rw [h.cellAt (g := g) i (by omega)]
    unfold nv
    rw [List.getElem?_map, List.getElem?_eq_getElem (by omega), getElem!_pos L i (by omega)]
    rfl
theorem rd_part {w : World} {g n off k : Nat} {L : List Nat} {s : Option Addr} (hg : g < w.heap.size) (hc : ∀ i, i < n → w.cell? ⟨g, i, none⟩ = some (.int .i64 (L[i]! : Int))) (hl : L.length = n) (hk : off + k ≤ n) (hs : 0 < k → s = some ⟨g, off, none⟩) : Rd w 1 s k (nv ((L.drop off).take k)) := by
  refine ⟨by rw [nv_len, List.length_take, List.length_drop]; omega, fun h0 => ⟨g, off, hs h0, hg, fun j u hu => ?_⟩⟩
  unfold nv at hu
  rw [List.getElem?_map, List.getElem?_take] at hu
  split at hu
  · rename_i hj
    rw [List.getElem?_drop, List.getElem?_eq_getElem (by omega)] at hu
    simp at hu
    rw [hc (off + j) (by omega), getElem!_pos L (off + j) (by omega), ← hu]
  · simp at hu
theorem perm_out {L O R : List Nat} {k : Nat} (hk : k < L.length) (h : (L ++ O).Perm R) : ((L.take k ++ L.drop (k + 1)) ++ (O ++ [L[k]!])).Perm R := by
  refine List.Perm.trans ?_ h
  have e : L = L.take k ++ L[k]! :: L.drop (k + 1) := by
    rw [getElem!_pos L k hk, ← List.drop_eq_getElem_cons hk, List.take_append_drop]
  generalize L[k]! = x at *
  generalize L.take k = a at *
  generalize L.drop (k + 1) = b at *
  subst e
  have h1 : (a ++ b ++ (O ++ [x])).Perm (x :: (a ++ b ++ O)) := by
    rw [← List.append_assoc]
    exact List.perm_append_comm.trans (by simp)
  have h2 : (a ++ x :: b ++ O).Perm (x :: (a ++ b ++ O)) := by
    rw [List.append_assoc, List.append_assoc, List.cons_append]
    exact List.perm_middle
  exact h1.trans h2.symm
/-- What Order returns. -/
def OrdRes (w : World) (n : Nat) (e : Ending) (w' : World) : Prop := ∃ (B : Option Addr) (d : Nat) (O : List Nat), e = .returned (.slice B n d) ∧ O.Perm (List.range n) ∧ w'.ownsRow w.heap.size 3 1 (.slice B n d) n (nv O) ∧ RowKit.Below w.heap.size w w'
theorem infoInt : (Try.prog.info? 3).map (fun i => (i.zero, i.size, i.bytes)) = some (some (.int .i64 0), 1, 8) := by kernel_rfl

set_option maxRecDepth 100000 in
set_option maxHeartbeats 8000000 in
theorem order_any (n : Nat) (A : Option Addr) (m c : Nat) (xs : List Int) (w : World) (h : Ints w A m xs) (hmc : m ≤ c) (hcm : c ≤ 9223372036854775807) (hn : n ≤ 1000) :
    Calls Try.prog 18 #[.int .i64 n, .slice A m c] w (OrdRes w n) := by
  have HN : Hid (∀ (k : Int) (I : Nat) (wx : World), 0 < k → k ≤ 1000 → Src wx w.heap.size A m c I → RowKit.Below w.heap.size w wx → Calls Try.prog 29 #[.pointer (some ⟨w.heap.size, 0, none⟩), .int .i64 k] wx fun e w' => ∃ v : Int, e = .returned (.int .i64 v) ∧ 0 ≤ v ∧ v < k ∧ Only w.heap.size wx w' ∧ Src w' w.heap.size A m c (nextI m I)) := fun k I wx k1 k2 hS hb =>
    (next_big w.heap.size A m c I xs k w wx hS h hb (Nat.le_refl _) (by omega) k1 (by omega)).mono fun e w' ⟨h1, h2, h3⟩ => ⟨_, h1, (nextV_bounds xs m I k k1).1, (nextV_bounds xs m I k k1).2, h2, h3⟩
  have hS0 : Src (w.alloc (.cells #[.slice A m c, .int .i64 0] 69)) w.heap.size A m c 0 := Bl.new w _ _
  have hb0 : RowKit.Below w.heap.size w (w.alloc (.cells #[.slice A m c, .int .i64 0] 69)) := (Below.refl _ _).alloc (Nat.le_refl _) _
  clear h hmc hcm
  go_enter Try.func18, Try.ntmps18
  go_upto_region 2 with (fail)
  generalize w.alloc (.cells #[.slice A m c, .int .i64 0] 69) = W0 at *
  have hs0 : w.heap.size < W0.heap.size := hS0.lt'
  go_wp2_with fail
  go_loopw [6, 8] (fun v i wx => ∃ (k : Nat) (B : Option Addr) (d : Nat), k ≤ n ∧ v = .slice B k d ∧ i = .int .i64 k ∧ wx.ownsRow W0.heap.size 3 1 (.slice B k d) k (nv (List.range k)) ∧ RowKit.Below W0.heap.size W0 wx) (fun _ i _ => n - (intOf i).toNat)
  case atStart => exact ⟨0, none, 0, Nat.zero_le _, rfl, rfl, ⟨rfl, .inl ⟨rfl, rfl⟩⟩, Below.refl _ _⟩
  case round =>
    obtain ⟨k, B, d, hk, rfl, rfl, ho, hb⟩ := hrel
    by_cases hlt : k < n
    · have hki : (k : Int) < n := by omega
      have HOE := Lib.hid (own_alloc ho (.cells #[.int .i64 (k : Int)] 3))
      have HRD : Hid (Rd (wr.alloc (.cells #[.int .i64 (k : Int)] 3)) 1 (some ⟨wr.heap.size, 0, none⟩) 1 (nv [k])) := rd_new wr 3 (nv [k])
      have HON := Lib.hid (nv_one [k])
      have HM1 : Hid (k + 1 ≤ maxLen ∧ (k + 1) * 8 ≤ 140737488355328) := ⟨by unfold maxLen; omega, by omega⟩
      have HBA : Hid (RowKit.Below W0.heap.size W0 (wr.alloc (.cells #[.int .i64 (k : Int)] 3))) := hb.alloc hb.size _
      have HOB := Lib.hid (fun j hj => own_base ho j hj)
      clear ho hb
      go_wp2_with (at_builtin; refine wpList_append_rd _ rfl (.tmp 18) (.tmp 20) 33 rfl W0.heap.size 3 _ 1 8 Try.underlying33 infoInt rfl (by decide) (.slice B k d) k _ rfl HOE.out (some ⟨wr.heap.size, 0, none⟩) 1 _ (nv [k]) rfl HRD.out HON.out HM1.out.1 HM1.out.2 HBA.out.size ?_; intro v6 w6 ho6 hg6 _; obtain ⟨B6, d6, rfl⟩ := own_slice ho6)
      have HB6 : Hid (RowKit.Below W0.heap.size W0 w6) := HBA.out.grown hg6 HBA.out.size (fun j hj => HOB.out j hj)
      have HO6 : Hid (w6.ownsRow W0.heap.size 3 1 (.slice B6 (k + 1) d6) (k + 1) (nv (List.range (k + 1)))) := by
        show World.ownsRow _ _ _ _ _ _ _
        rw [List.range_succ, nv_append]
        exact ho6
      clear ho6 hg6
      go_roundw
      case rel => exact ⟨k + 1, B6, d6, by omega, rfl, by go_num, HO6.out, HB6.out⟩
      case measure => simp [intOf]; omega
    · obtain rfl : n = k := by omega
      have hS1 : Src wr w.heap.size A m c 0 := hS0.keep hb
      have hb1 := hb0.trans (hb.mono hb0.size)
      have hsz := hb.size
      have hd0 : decide ((n : Int) < n) = false := by simp
      clear hlt hb hS0
      go_wp2_with fail
      go_loopw [6, 7] (fun v o wx => ∃ (L O : List Nat) (B : Option Addr) (j d : Nat) (C : Option Addr) (i e : Nat) (I : Nat), v = .slice B j d ∧ o = .slice C i e ∧ L.length = j ∧ O.length = i ∧ j + i = n ∧ Hid ((L ++ O).Perm (List.range n)) ∧ wx.ownsRow W0.heap.size 3 1 (.slice B j d) j (nv L) ∧ wx.ownsRow W0.heap.size 3 1 (.slice C i e) i (nv O) ∧ Hid (∀ g, (Value.slice B j d).ownBlock = some g → (Value.slice C i e).ownBlock ≠ some g) ∧ Src wx w.heap.size A m c I ∧ RowKit.Below w.heap.size w wx ∧ W0.heap.size ≤ wx.heap.size) (fun v _ _ => slLen v)
      case atStart => exact ⟨List.range n, [], B, n, d, none, 0, 0, 0, rfl, rfl, by simp, rfl, rfl, by rw [List.append_nil]; exact .refl _, ho, ⟨rfl, .inl ⟨rfl, rfl⟩⟩, fun g _ h => (by cases h), hS1, hb1, hsz⟩
      case round =>
        clear ho hS1 hb1 hsz
        obtain ⟨L, O, B, j, d, C, i, e, I, rfl, rfl, hL, hO, hji, HPM, ho, hp, HAP, hS, hb, hsz⟩ := hrel
        by_cases hlt : 0 < j
        · have hji2 : (0 : Int) < j := by omega
          go_wp2_with fail
          refine (HN.out j I _ (by omega) (by omega) hS hb).mono ?_
          rintro e1 w1 ⟨v, rfl, hv0, hv1, hO1, hS1⟩
          obtain ⟨k, rfl⟩ : ∃ k : Nat, v = k := ⟨v.toNat, by omega⟩
          have hkj : k < j := by omega
          have hne1 : ∀ (vv : Value) (nn : Nat) (ys : List Value), wr.ownsRow W0.heap.size 3 1 vv nn ys → some w.heap.size ≠ vv.ownBlock := fun vv nn ys hh e => by have := own_base hh w.heap.size e.symm; omega
          have ho1 := own_keep ho hO1 (hne1 _ _ _ ho)
          have hp1 := own_keep hp hO1 (hne1 _ _ _ hp)
          have hb1 := hb.trans (hO1.below (Nat.le_refl _))
          have hsz1 : W0.heap.size ≤ w1.heap.size := by rw [hO1.size]; exact hsz
          clear ho hp hb hS hsz hne1 hO1
          obtain ⟨g, rfl, hgl, hLl, hjd, hdm, hcell⟩ := own_cellsI ho1 hlt
          have HCELL := Lib.hid hcell
          have ck : w1.cell? ⟨g, k, none⟩ = some (.int .i64 (L[k]! : Int)) := hcell k hkj
          obtain ⟨y, hy⟩ : ∃ y, L[k]! = y := ⟨_, rfl⟩
          rw [hy] at ck
          have HYK := Lib.hid hy
          have HPO : Hid (((L.take k ++ L.drop (k + 1)) ++ (O ++ [y])).Perm (List.range n)) := by
            have := perm_out (k := k) (by omega) HPM.out
            rwa [hy] at this
          have HOE := Lib.hid (own_alloc hp1 (.cells #[.int .i64 (y : Int)] 3))
          have HRD : Hid (Rd (w1.alloc (.cells #[.int .i64 (y : Int)] 3)) 1 (some ⟨w1.heap.size, 0, none⟩) 1 (nv [y])) := rd_new w1 3 (nv [y])
          have HON := Lib.hid (nv_one [y])
          have HM1 : Hid (i + 1 ≤ maxLen ∧ (i + 1) * 8 ≤ 140737488355328) := ⟨by unfold maxLen; omega, by omega⟩
          have HBA : Hid (RowKit.Below w.heap.size w (w1.alloc (.cells #[.int .i64 (y : Int)] 3))) := hb1.alloc hb1.size _
          have HOB := Lib.hid (fun z hz => own_base hp1 z hz)
          have HSZ : Hid (W0.heap.size ≤ (w1.alloc (.cells #[.int .i64 (y : Int)] 3)).heap.size) := by show _ ≤ _; simp; omega
          have HOL := Lib.hid (own_alloc ho1 (.cells #[.int .i64 (y : Int)] 3))
          have HS1 := Lib.hid (hS1.alloc' (.cells #[.int .i64 (y : Int)] 3))
          clear hy hp1 hb1 ho1 hcell hS1
          go_upto_region 9 with (fail)
          go_wp2_with (first
            | (at_builtin; refine wpList_append_rd _ rfl (.tmp 29) (.tmp 34) 33 rfl W0.heap.size 3 _ 1 8 Try.underlying33 infoInt rfl (by decide) (.slice C i e) i _ rfl HOE.out (some ⟨w1.heap.size, 0, none⟩) 1 _ (nv [y]) rfl HRD.out HON.out HM1.out.1 HM1.out.2 HSZ.out ?_; intro v6 w6 ho6 hg6 hat6; obtain ⟨B6, d6, rfl⟩ := own_slice ho6)
            | fail)
          have hgne : some g ≠ (Value.slice C i e).ownBlock := fun hh => HAP.out g rfl hh.symm
          have hlS : w.heap.size < (w1.alloc (.cells #[.int .i64 (y : Int)] 3)).heap.size := by simp; omega
          have hS6 : Src w6 w.heap.size A m c (nextI m I) := (hg6.block _ hlS (fun hh => by have := HOB.out _ hh.symm; omega)).trans HS1.out
          have ho7 : w6.ownsRow W0.heap.size 3 1 (.slice (some ⟨g, 0, none⟩) j d) j (nv L) := own_of_block HOL.out (fun z hz => by
            obtain rfl : g = z := by simpa [Value.ownBlock] using hz
            exact hg6.block g (by simp; omega) hgne)
          have HP6 : Hid (w6.ownsRow W0.heap.size 3 1 (.slice B6 (i + 1) d6) (i + 1) (nv (O ++ [y]))) := by
            show World.ownsRow _ _ _ _ _ _ _
            rw [nv_append]
            exact ho6
          have hb6 : RowKit.Below w.heap.size w w6 := HBA.out.grown hg6 HBA.out.size (fun z hz => by have := HOB.out z hz; omega)
          have hsz6 : W0.heap.size ≤ w6.heap.size := Nat.le_trans HSZ.out hg6.size
          obtain ⟨g', hg', hgl6, hLl6, _, _, hcell6⟩ := own_cellsI ho7 hlt
          obtain rfl : g = g' := by injection hg' with h1; injection h1
          have HR1 : Hid (∀ wx : World, wx.heap[g]? = w6.heap[g]? → g < wx.heap.size → Rd wx 1 (some ⟨g, 0, none⟩) k (nv (L.take k))) := fun wx h1 h2 => by
            have := rd_part (s := some ⟨g, 0, none⟩) (off := 0) (k := k) (L := L) h2 (fun z hz => (World.cell?_of_block (a := ⟨g, z, none⟩) h1).trans (hcell6 z hz)) hLl6 (by omega) (fun _ => rfl)
            rwa [List.drop_zero] at this
          have HR2 : Hid (∀ (wx : World) (s : Option Addr), wx.heap[g]? = w6.heap[g]? → g < wx.heap.size → (0 < j - (k + 1) → s = some ⟨g, k + 1, none⟩) → Rd wx 1 s (j - (k + 1)) (nv (L.drop (k + 1)))) := fun wx s h1 h2 h3 => by
            have := rd_part (s := s) (off := k + 1) (k := j - (k + 1)) (L := L) h2 (fun z hz => (World.cell?_of_block (a := ⟨g, z, none⟩) h1).trans (hcell6 z hz)) hLl6 (by omega) h3
            rwa [List.take_of_length_le (by rw [List.length_drop]; omega)] at this
          have HM2 : Hid (0 + k ≤ maxLen ∧ (0 + k) * 8 ≤ 140737488355328 ∧ (0 + k) + (j - (k + 1)) ≤ maxLen ∧ (0 + k + (j - (k + 1))) * 8 ≤ 140737488355328) := ⟨by unfold maxLen; omega, by omega, by unfold maxLen; omega, by omega⟩
          have HN1 := Lib.hid (nv_one (L.take k))
          have HN2 := Lib.hid (nv_one (L.drop (k + 1)))
          have HNX : Hid ((nv (L.take k) ++ nv (L.drop (k + 1))) = nv (L.take k ++ L.drop (k + 1))) := (nv_append _ _).symm
          have HLX : Hid ((L.take k ++ L.drop (k + 1)).length = j - 1) := by show _ = _; rw [List.length_append, List.length_take, List.length_drop]; omega
          have HLO : Hid ((O ++ [y]).length = i + 1) := by show _ = _; rw [List.length_append]; simp; omega
          have HLT6 := Lib.hid (fun z hz => own_lt HP6.out z hz)
          have mixed : Try.prog.follows Departure.mixedOrders = true := rfl
          have hkk : (k : Int) < j := by omega
          have hkj3 : (k : Int) + 1 ≤ j := by omega
          have hb5 : (0 : Int) ≤ (k : Int) + 1 := by omega
          have htn : ((k : Int) + 1).toNat = k + 1 := by omega
          have hk0 : (0 : Int) ≤ (k : Int) := by omega
          have hkd : (k : Int) ≤ (d : Int) := by omega
          have hjd2 : (j : Int) ≤ (d : Int) := by omega
          have hkj4 : (k : Int) ≤ (j : Int) := by omega
          have hw1' : IntKind.i64.wrap ((k : Int) + 1) = (k : Int) + 1 := IntWalk.i64_in _ (by omega)
          clear ho6 hg6 HOE HRD HON HM1 HBA HOB HSZ HOL HS1 HAP ho7 ck hcell6 HCELL HYK HPM hat6 hg'
          by_cases hdk : d = k + 1
          · have hz0 : d - (k + 1) = 0 := by omega
            have hq1 : (k : Int) ≤ (k : Int) + 1 := by omega
            go_region_held3 (fun _ => True)
              (trivial)
              (first
                | (refine step_append_rd _ (by rfl) (.tmp 36) (.tmp 39) _ (by rfl) w6.heap.size 3 _ 1 8 Try.underlying33 infoInt rfl (by decide) (.slice (some ⟨w6.heap.size, 0, none⟩) 0 0) 0 [] (by rfl) (own_empty (Bl.new w6 _ _).drew (Nat.le_refl _)) (some ⟨g, 0, none⟩) k _ (nv (L.take k)) (by rfl) (HR1.out _ (Below.heap_alloc w6 _ g hgl6) (by simp; omega)) HN1.out HM2.out.1 HM2.out.2.1 (by simp) ?_; intro v8 w8 ho8 hg8; have HG8 := Lib.hid hg8; have HO8 := Lib.hid ho8; clear hg8 ho8)
                | (refine step_append_rd _ (by rfl) (.tmp 40) (.tmp 44) _ (by rfl) w6.heap.size 3 _ 1 8 Try.underlying33 infoInt rfl (by decide) v8 (0 + k) _ (by rfl) HO8.out _ (j - (k + 1)) _ (nv (L.drop (k + 1))) (by rfl) (HR2.out w8 _ ((HG8.out.block g (by simp; omega) (by simp [Value.ownBlock]; omega)).trans (Below.heap_alloc w6 _ g hgl6)) (Nat.lt_of_lt_of_le (by simp; omega) HG8.out.size) (by intro h; first | rfl | omega)) HN2.out HM2.out.2.2.1 HM2.out.2.2.2 (Nat.le_trans (by simp) HG8.out.size) ?_; intro v9 w9 ho9 hg9; have HG9 := Lib.hid hg9; have HO9 := Lib.hid ho9; clear hg9 ho9))
            · obtain ⟨B9, d9, rfl⟩ := own_slice HO9.out
              have e9 : 0 + k + (j - (k + 1)) = j - 1 := by omega
              have HOF : Hid (w9.ownsRow W0.heap.size 3 1 (.slice B9 (j - 1) d9) (j - 1) (nv (L.take k ++ L.drop (k + 1)))) := by
                have := own_mono HO9.out hsz6
                rw [List.nil_append, e9, HNX.out] at this
                exact this
              have HB8 : ∀ z, z < w6.heap.size → w9.heap[z]? = w6.heap[z]? := fun z hz => by
                have h1 : w8.heap[z]? = w6.heap[z]? := (HG8.out.block z (by simp; omega) (by simp [Value.ownBlock]; omega)).trans (Below.heap_alloc w6 _ z hz)
                refine (HG9.out.block z (Nat.lt_of_lt_of_le (by simp; omega) HG8.out.size) (fun hh => ?_)).trans h1
                have := own_base HO8.out z hh.symm
                omega
              have HPF : Hid (w9.ownsRow W0.heap.size 3 1 (.slice B6 (i + 1) d6) (i + 1) (nv (O ++ [y]))) := own_of_block HP6.out fun z hz => HB8 z (HLT6.out z hz)
              have HSF : Hid (Src w9 w.heap.size A m c (nextI m I)) := (HB8 _ hS6.lt').trans hS6
              have h69 : w6.heap.size ≤ w9.heap.size := Nat.le_trans (Nat.le_trans (by simp) HG8.out.size) HG9.out.size
              have HBF : Hid (RowKit.Below w.heap.size w w9) := ((hb6.alloc hb6.size _).drew.grown HG8.out (by have := hb6.size; simp; omega) (fun z hz => by simp [Value.ownBlock] at hz; have := hb6.size; omega)).grown HG9.out (Nat.le_trans (Nat.le_trans hb6.size (by simp)) HG8.out.size) (fun z hz => by have := own_base HO8.out z hz; have := hb6.size; omega)
              have HAF : Hid (∀ z, (Value.slice B9 (j - 1) d9).ownBlock = some z → (Value.slice B6 (i + 1) d6).ownBlock ≠ some z) := fun z h1 h2 => by
                have h3 := own_base HO9.out z (by rw [← h1]; cases B9 <;> rfl)
                have h4 := HLT6.out z h2
                omega
              clear HB8 HO9 HG9 HO8 HG8 HP6 hb6 hS6
              rw [e9]
              go_wp2_with fail
              go_roundw
              case rel => exact ⟨_, _, B9, j - 1, d9, B6, i + 1, d6, _, rfl, rfl, HLX.out, HLO.out, by omega, HPO, HOF.out, HPF.out, HAF, HSF.out, HBF.out, Nat.le_trans hsz6 h69⟩
              case measure => simp [slLen]; omega
          · go_region_held3 (fun _ => True)
              (trivial)
              (first
                | (refine step_append_rd _ (by rfl) (.tmp 36) (.tmp 39) _ (by rfl) w6.heap.size 3 _ 1 8 Try.underlying33 infoInt rfl (by decide) (.slice (some ⟨w6.heap.size, 0, none⟩) 0 0) 0 [] (by rfl) (own_empty (Bl.new w6 _ _).drew (Nat.le_refl _)) (some ⟨g, 0, none⟩) k _ (nv (L.take k)) (by rfl) (HR1.out _ (Below.heap_alloc w6 _ g hgl6) (by simp; omega)) HN1.out HM2.out.1 HM2.out.2.1 (by simp) ?_; intro v8 w8 ho8 hg8; have HG8 := Lib.hid hg8; have HO8 := Lib.hid ho8; clear hg8 ho8)
                | (refine step_append_rd _ (by rfl) (.tmp 40) (.tmp 44) _ (by rfl) w6.heap.size 3 _ 1 8 Try.underlying33 infoInt rfl (by decide) v8 (0 + k) _ (by rfl) HO8.out _ (j - (k + 1)) _ (nv (L.drop (k + 1))) (by rfl) (HR2.out w8 _ ((HG8.out.block g (by simp; omega) (by simp [Value.ownBlock]; omega)).trans (Below.heap_alloc w6 _ g hgl6)) (Nat.lt_of_lt_of_le (by simp; omega) HG8.out.size) (by intro h; first | rfl | omega)) HN2.out HM2.out.2.2.1 HM2.out.2.2.2 (Nat.le_trans (by simp) HG8.out.size) ?_; intro v9 w9 ho9 hg9; have HG9 := Lib.hid hg9; have HO9 := Lib.hid ho9; clear hg9 ho9))
            · obtain ⟨B9, d9, rfl⟩ := own_slice HO9.out
              have e9 : 0 + k + (j - (k + 1)) = j - 1 := by omega
              have HOF : Hid (w9.ownsRow W0.heap.size 3 1 (.slice B9 (j - 1) d9) (j - 1) (nv (L.take k ++ L.drop (k + 1)))) := by
                have := own_mono HO9.out hsz6
                rw [List.nil_append, e9, HNX.out] at this
                exact this
              have HB8 : ∀ z, z < w6.heap.size → w9.heap[z]? = w6.heap[z]? := fun z hz => by
                have h1 : w8.heap[z]? = w6.heap[z]? := (HG8.out.block z (by simp; omega) (by simp [Value.ownBlock]; omega)).trans (Below.heap_alloc w6 _ z hz)
                refine (HG9.out.block z (Nat.lt_of_lt_of_le (by simp; omega) HG8.out.size) (fun hh => ?_)).trans h1
                have := own_base HO8.out z hh.symm
                omega
              have HPF : Hid (w9.ownsRow W0.heap.size 3 1 (.slice B6 (i + 1) d6) (i + 1) (nv (O ++ [y]))) := own_of_block HP6.out fun z hz => HB8 z (HLT6.out z hz)
              have HSF : Hid (Src w9 w.heap.size A m c (nextI m I)) := (HB8 _ hS6.lt').trans hS6
              have h69 : w6.heap.size ≤ w9.heap.size := Nat.le_trans (Nat.le_trans (by simp) HG8.out.size) HG9.out.size
              have HBF : Hid (RowKit.Below w.heap.size w w9) := ((hb6.alloc hb6.size _).drew.grown HG8.out (by have := hb6.size; simp; omega) (fun z hz => by simp [Value.ownBlock] at hz; have := hb6.size; omega)).grown HG9.out (Nat.le_trans (Nat.le_trans hb6.size (by simp)) HG8.out.size) (fun z hz => by have := own_base HO8.out z hz; have := hb6.size; omega)
              have HAF : Hid (∀ z, (Value.slice B9 (j - 1) d9).ownBlock = some z → (Value.slice B6 (i + 1) d6).ownBlock ≠ some z) := fun z h1 h2 => by
                have h3 := own_base HO9.out z (by rw [← h1]; cases B9 <;> rfl)
                have h4 := HLT6.out z h2
                omega
              clear HB8 HO9 HG9 HO8 HG8 HP6 hb6 hS6
              rw [e9]
              go_wp2_with fail
              go_roundw
              case rel => exact ⟨_, _, B9, j - 1, d9, B6, i + 1, d6, _, rfl, rfl, HLX.out, HLO.out, by omega, HPO, HOF.out, HPF.out, HAF, HSF.out, HBF.out, Nat.le_trans hsz6 h69⟩
              case measure => simp [slLen]; omega
        · obtain rfl : j = 0 := by omega
          obtain rfl : i = n := by omega
          obtain rfl : L = [] := List.eq_nil_of_length_eq_zero hL
          have hj0 : decide ((0 : Int) < 0) = false := by simp
          clear hlt
          go_wp2
          go_ret
          exact ⟨C, e, O, rfl, HPM.out, own_mono hp (by omega), hb⟩
end Go.Proofs.Ytemhiifgplaldaa

/-
  Contract of valuation.Values. No statement of the seat is proved here. Conditions: lengths fit an int, strings fit.
  Contract of customstop.fixed: it returns true. No statement of the seat is proved here. Conditions: the lengths of codes and the library's number lie in their variables. Printed by gen/clsg20.py.
-/
import Derived.Test.YtbokkeooahodaaaGreatDoorKAW
import Derived.Laws.CopyOwn
import Derived.RegionTactic
import Derived.Test.YtbokkeooahodaaaGreatDoorKAV
import Derived.Test.YtbokkeooahodaaaGreatDoorKAO
namespace Go.Proofs.YtbokkeooahodaaaGreatDoor
open Go.RowKit
set_option linter.unusedVariables false

section
variable {t : List Exch} {cur : List UInt8} {day : Int} {ls : List (Int × Int)} {cs : List Chg}
theorem val_no {er : Int} (h : valErr t cur day ls cs = er) (hn : er ≠ 0) : valErr t cur day ls cs = er ∧ valOut t cur day ls cs = [] := ⟨h, by unfold valOut; rw [if_neg (by omega)]⟩
theorem val_inv (h : invErr day ls cs ≠ 0) : valErr t cur day ls cs = invErr day ls cs ∧ valOut t cur day ls cs = [] := val_no (by unfold valErr; rw [if_pos h]) h
theorem val_over (h : invErr day ls cs = 0) (h2 : 1000000000000 < (pricesOf ls).sum) : valErr t cur day ls cs = 3 ∧ valOut t cur day ls cs = [] := val_no (by unfold valErr; rw [if_neg (by omega), if_pos h2]) (by omega)
theorem val_conv (h : invErr day ls cs = 0) (h2 : ¬ 1000000000000 < (pricesOf ls).sum) (h3 : convErr t (pricesOf ls).sum cur day ≠ 0) : valErr t cur day ls cs = convErr t (pricesOf ls).sum cur day ∧ valOut t cur day ls cs = [] := val_no (by unfold valErr; rw [if_neg (by omega), if_neg h2, if_pos h3]) h3
theorem val_chg (h : invErr day ls cs = 0) (h2 : ¬ 1000000000000 < (pricesOf ls).sum) (h3 : convErr t (pricesOf ls).sum cur day = 0) (k : Nat) (hk : k < cs.length) (h4 : ∀ i, i < k → chgErr t day cs i = 0) (h5 : chgErr t day cs k ≠ 0) : valErr t cur day ls cs = chgErr t day cs k ∧ valOut t cur day ls cs = [] := by
  have e := firstErr_at h4 h5 _ hk
  exact val_no (by unfold valErr; rw [if_neg (by omega), if_neg h2, if_neg (by omega), e, if_pos h5]) h5
theorem val_end (h : invErr day ls cs = 0) (h2 : ¬ 1000000000000 < (pricesOf ls).sum) (h3 : convErr t (pricesOf ls).sum cur day = 0) (h4 : ∀ i, i < cs.length → chgErr t day cs i = 0) : valErr t cur day ls cs = endErr ls.length (valTo t cur day ls cs cs.length) := valErr_ok h (by omega) h3 h4
end

theorem slres_err {w w' : World} {er er' : Int} {out : List Int} (h : er' = er ∧ out = []) (hb : RowKit.Below w.heap.size w w') : SlRes w er' out (.returned (.tuple #[.slice none 0 0, .int .i64 er])) w' := by
  rw [h.1, h.2]
  exact ⟨none, 0, 0, rfl, own_nil _ _ _, hb⟩

def ChSz (cs : List Chg) : Prop := ∀ i, i < cs.length → cs[i]!.cur.size ≤ 9223372036854775807

theorem splice_all (cur cs : List Value) (h : cur.length = cs.length) : splice cur 0 cs = cs := by
  unfold splice
  simp [h]

theorem wpList_copy_new {w : World} {ops : Array Oper} {rest : List Oper} {o : Oper} {a : Act} {Q : Exit → Act → World → Prop} (hgd : o.guard = none) (d s : Operand)
    (ho : o.op = .call { callee := .builtin .copy, args := #[d, s], argTypes := #[22, 22] }) (g n : Nat) (C : Array Value) (A : Option Addr) (c : Nat) (xs : List Int)
    (hd : a.eval d = .slice (some ⟨g, 0, none⟩) n n) (hs : a.eval s = .slice A n c) (hB : Bl w g 3 C) (hC : C.size = n) (hI : Ints w A n xs) (w0 : World) (hb : RowKit.Below g w0 w)
    (h : ∀ w', Bl w' g 3 (xs.map (Value.int .i64)).toArray → RowKit.Below g w0 w' → wpList Tryz.prog ops Q rest (a.put o.dst (goInt n)) w') :
    wpList Tryz.prog ops Q (o :: rest) a w := by
  have hl : (xs.map (Value.int .i64)).length = n := by rw [List.length_map]; exact hI.1
  refine wpList_copy_splice hgd d s 22 22 ho 3 Tryz.underlying22 (by kernel_rfl) _ _ n n n c hd hs g 0 C.toList 3 (by unfold Bl at hB; simpa using hB) (xs.map (Value.int .i64)) (by rw [hl]; simp) (fun hp => ?_) (by rw [hl]; simp [hC]) (one_ints _ _) g w0 hb (Nat.le_refl _) ?_
  · refine ⟨rfl, ?_⟩
    obtain ⟨b, off, e, _, hc⟩ := (Rd.of_ints hI).2 (by omega)
    refine ⟨⟨b, off, none⟩, e, fun j v hv => ?_⟩
    have := hc j v hv
    by_cases hj0 : j = 0
    · subst hj0; simpa [Addr.add] using this
    · simpa [Addr.add, hj0] using this
  · intro w' H hb'
    have := h w' (by
      unfold Bl
      rw [H.out, splice_all _ _ (by rw [hl]; simp [hC])]) hb'
    rw [hl]
    exact this
theorem row_list (f : Nat → Int) (n : Nat) : IntRow ((((List.range n).map f).map (Value.int .i64)).toArray) n f := ⟨by simp, fun j hj => by simp [hj]⟩

theorem getD_list (l : List Int) (n : Nat) (h : l.length = n) : (List.range n).map (fun j => l.getD j 0) = l := by
  subst h
  apply List.ext_getElem
  · simp
  · intro i h1 h2
    simp [List.getD, List.getElem?_eq_getElem h2]

set_option maxRecDepth 100000 in
set_option maxHeartbeats 16000000 in
theorem values_any (T : Option Addr) (tn tc : Nat) (ts : List Exch) (cu : ByteArray) (day : Int) (A B : Option Addr) (n c m d : Nat) (ls : List (Int × Int)) (cs : List Chg) (w : World)
    (hT : Recs encX 3 w T tn ts) (htn : tn ≤ 9223372036854775807) (hz : ExSz ts) (hcu : cu.size ≤ 9223372036854775807) (h : Recs enc2 2 w A n ls) (hm : n ≤ 9223372036854775807) (h2 : Recs encC 5 w B m cs) (hm2 : m ≤ 9223372036854775807) (hcz : ChSz cs) :
    Calls Tryz.prog 34 #[.slice T tn tc, .agg #[.string cu, .int .i64 day, .slice A n c, .slice B m d]] w (SlRes w (valErr ts cu.toList day ls cs) (valOut ts cu.toList day ls cs)) := by
  have HL := Lib.hid h.1
  have HM := Lib.hid h2.1
  have HBx := Bl.new w 110 #[.string cu, .int .i64 day, .slice A n c, .slice B m d]
  have hb0 : RowKit.Below w.heap.size w (w.alloc (.cells #[.string cu, .int .i64 day, .slice A n c, .slice B m d] 110)) := (Below.refl _ _).alloc (Nat.le_refl _) _
  have h' := h.alloc (.cells #[.string cu, .int .i64 day, .slice A n c, .slice B m d] 110)
  have h2' := h2.alloc (.cells #[.string cu, .int .i64 day, .slice A n c, .slice B m d] 110)
  have hT' := hT.alloc (.cells #[.string cu, .int .i64 day, .slice A n c, .slice B m d] 110)
  have HV := Lib.hid (validate17_any cu day A B n c m d ls cs _ h' hm h2' hm2)
  by_cases hi : invErr day ls cs = 0
  case neg =>
    have E := Lib.hid (val_inv (t := ts) (cur := cu.toList) hi)
    have b1 : (invErr day ls cs != 0) = true := by simpa using hi
    clear hi
    generalize invErr day ls cs = er at *
    go_enter Tryz.func34, Tryz.ntmps34
    go_wp2_with fail
    refine HV.out.mono ?_
    rintro e w1 ⟨rfl, hb1⟩
    go_wp2
    go_ret2
    exact slres_err E.out (hb0.trans (hb1.mono hb0.size))
  rw [hi] at HV
  obtain ⟨v1, v2, v3, v4, v5, v6, v7⟩ := invErr_zero hi
  have HLO := Lib.hid v6
  have HCO := Lib.hid v7
  have HIV := Lib.hid hi
  have hn0 : 0 < n := by have := HL.out; omega
  have hn1 : n ≤ 100 := by have := HL.out; omega
  have hm1 : m ≤ 50 := by have := HM.out; omega
  have HPI := Lib.hid (prices_in v6)
  have HCZ := Lib.hid hcz
  have HZ := Lib.hid hz
  obtain ⟨C1, HC1, hmk1⟩ := make_any (P := Tryz.prog) 22 3 _ 1 8 n Tryz.underlying22 infoI (by omega) (by omega)
  clear v1 v2 v3 v6 v7 hi hcz hz
  go_enter Tryz.func34, Tryz.ntmps34
  go_wp2_with fail
  refine HV.out.mono ?_
  rintro e w1 ⟨rfl, hb1⟩
  have hB1 := hb0.trans (hb1.mono hb0.size)
  have HBx1 := HBx.keep hb1
  have hx1 := h'.below hb1
  have hx2 := h2'.below hb1
  have hxT := hT'.below hb1
  generalize w.alloc (.cells #[.string cu, .int .i64 day, .slice A n c, .slice B m d] 110) = W0 at *
  have x0 : w1.cell? ⟨w.heap.size, 0, none⟩ = some (.string cu) := HBx1.cell 0
  have x1 : w1.cell? ⟨w.heap.size, 1, none⟩ = some (.int .i64 day) := HBx1.cell 1
  have x2 : w1.cell? ⟨w.heap.size, 2, none⟩ = some (.slice A n c) := HBx1.cell 2
  have x3 : w1.cell? ⟨w.heap.size, 3, none⟩ = some (.slice B m d) := HBx1.cell 3
  have hxl : w.heap.size < w1.heap.size := HBx1.lt
  have hne1 : w.heap.size ≠ w1.heap.size := by omega
  have hne2 : w.heap.size ≠ w1.heap.size + 1 := by omega
  clear HBx h' h2' hT' HV hb1 hb0 hT h h2
  have HMK := Lib.hid hmk1
  have HCS : Hid (C1.size = n) := HC1.out.1.trans (by omega)
  go_wp2
  clear hmk1
  go_loopw [7, 38] (fun sm i wr => ∃ (k : Nat) (c1 c2 : Array Value), k ≤ n ∧ i = .int .i64 k ∧ sm = .int .i64 ((pricesOf ls).take k).sum ∧ Bl wr w1.heap.size 3 c1 ∧ IntRow c1 n (fun j => if j < k then (pricesOf ls).getD j 0 else 0) ∧ Bl wr (w1.heap.size + 1) 3 c2 ∧ IntRow c2 n (fun j => if j < k then (weightsOf ls).getD j 0 else 0) ∧ RowKit.Below w1.heap.size w1 wr) (fun _ i _ => n - (intOf i).toNat)
  case atStart => exact ⟨0, C1, C1, Nat.zero_le _, rfl, by simp, (Bl.new w1 _ _).alloc _, (IntRow.zeros HC1.out).congr (fun j _ => by simp), Bl.new1 _ _ _ _, (IntRow.zeros HC1.out).congr (fun j _ => by simp), ((Below.refl _ _).alloc (Nat.le_refl _) _).alloc (by simp) _⟩
  case round =>
    obtain ⟨k, c1, c2, hk, rfl, rfl, HB1, HR1, HB2, HR2, hbel⟩ := hrel
    by_cases hlt : k < n
    · obtain ⟨b, off, x, y, hA, hbl, hc1, hc2, HX⟩ := hx1.get2 hlt
      subst hA
      have hd1 : wr.cell? ⟨b, off + k * 2, none⟩ = some (.int .i64 x) := (hbel.cell (p := ⟨b, off + k * 2, none⟩) hbl).trans hc1
      have hd2 : wr.cell? ⟨b, off + k * 2 + 1, none⟩ = some (.int .i64 y) := (hbel.cell (p := ⟨b, off + k * 2 + 1, none⟩) hbl).trans hc2
      have hkl : k < ls.length := by have := HL.out; omega
      have hpx : (pricesOf ls).getD k 0 = x := by rw [prices_get k hkl, HX.out]
      have hwy : (weightsOf ls).getD k 0 = y := by rw [weights_get k hkl, HX.out]
      have hbs := sum_take_bound (pricesOf ls) 1000000000000 HPI.out k (by rw [prices_len]; omega)
      have hb0 := HPI.out k
      have HSS := Lib.hid (sum_take_succ (pricesOf ls) k (by rw [prices_len]; exact hkl))
      rw [hpx] at hb0 HSS
      have k1 := HR1.cell HB1 hlt
      have k2 := HR2.cell HB2 hlt
      rw [if_neg (by omega)] at k1 k2
      have f1 : wr.frozen? ⟨w1.heap.size, k, none⟩ = false := HB1.free k
      have f2 : wr.frozen? ⟨w1.heap.size + 1, k, none⟩ = false := HB2.free k
      have hsz2 := HB2.lt
      have HS1 : Hid (IntRow (c1.setIfInBounds k (.int .i64 x)) n (fun j => if j < k + 1 then (pricesOf ls).getD j 0 else 0)) := HR1.set k x (fun j hj => by
        by_cases e : j = k
        · subst e; rw [if_pos (by omega), if_pos rfl, hpx]
        · rw [if_neg e]; by_cases e2 : j < k
          · rw [if_pos e2, if_pos (by omega)]
          · rw [if_neg e2, if_neg (by omega)])
      have HS2 : Hid (IntRow (c2.setIfInBounds k (.int .i64 y)) n (fun j => if j < k + 1 then (weightsOf ls).getD j 0 else 0)) := HR2.set k y (fun j hj => by
        by_cases e : j = k
        · subst e; rw [if_pos (by omega), if_pos rfl, hwy]
        · rw [if_neg e]; by_cases e2 : j < k
          · rw [if_pos e2, if_pos (by omega)]
          · rw [if_neg e2, if_neg (by omega)])
      generalize ((pricesOf ls).take k).sum = s at *
      have n1 : w1.heap.size ≠ wr.heap.size := by omega
      have n2 : w1.heap.size + 1 ≠ wr.heap.size := by omega
      have n3 : w1.heap.size ≠ w1.heap.size + 1 := by omega
      have i1 : (0 : Int) ≤ (k : Int) := by omega
      have i2 : (k : Int) < (n : Int) := by omega
      have HB1' := HB1.alloc (.cells #[.int .i64 x, .int .i64 y] 106)
      have HB2' := HB2.alloc (.cells #[.int .i64 x, .int .i64 y] 106)
      have hbel' := hbel.alloc hbel.size (.cells #[.int .i64 x, .int .i64 y] 106)
      have HBn := Bl.new wr 106 #[.int .i64 x, .int .i64 y]
      clear hpx hwy hc1 hc2
      go_wp2
      generalize wr.alloc (.cells #[.int .i64 x, .int .i64 y] 106) = W at *
      have y0 : W.cell? ⟨wr.heap.size, 0, none⟩ = some (.int .i64 x) := HBn.cell 0
      have y1 : W.cell? ⟨wr.heap.size, 1, none⟩ = some (.int .i64 y) := HBn.cell 1
      have k1' : W.cell? ⟨w1.heap.size, k, none⟩ = some (.int .i64 0) := (HB1'.cell k).trans ((HB1.cell k).symm.trans k1)
      have k2' : W.cell? ⟨w1.heap.size + 1, k, none⟩ = some (.int .i64 0) := (HB2'.cell k).trans ((HB2.cell k).symm.trans k2)
      have f1' : W.frozen? ⟨w1.heap.size, k, none⟩ = false := HB1'.free k
      have f2' : W.frozen? ⟨w1.heap.size + 1, k, none⟩ = false := HB2'.free k
      clear k1 k2 f1 f2 hd1 hd2 HB1 HB2 HR1 HR2
      go_region
      go_wp2
      go_roundw
      case rel => exact ⟨k + 1, _, _, by omega, by go_num, by rw [HSS.out], (HB1'.put _ _).far (p := ⟨w1.heap.size + 1, k, none⟩) n3 _, HS1.out, (HB2'.far (p := ⟨w1.heap.size, k, none⟩) n3.symm _).put _ _, HS2.out, ((hbel'.setCell (p := ⟨w1.heap.size, k, none⟩) (Nat.le_refl _) _).setCell (p := ⟨w1.heap.size + 1, k, none⟩) (by show w1.heap.size ≤ w1.heap.size + 1; omega) _).drew⟩
      case measure => simp [intOf]; omega
    · obtain rfl : k = n := by omega
      rw [List.take_of_length_le (by rw [prices_len]; have := HL.out; omega)]
      have hIp : Ints wr (some ⟨w1.heap.size, 0, none⟩) k (pricesOf ls) := by
        have how := (HR1.congr (g := fun j => (pricesOf ls).getD j 0) (fun j hj => by simp [hj])).own HB1 (Nat.le_refl _) (by omega)
        rw [getD_list (pricesOf ls) k (by rw [prices_len]; exact HL.out)] at how
        exact IntsK.of_own how
      have hIw : Ints wr (some ⟨w1.heap.size + 1, 0, none⟩) k (weightsOf ls) := by
        have how := (HR2.congr (g := fun j => (weightsOf ls).getD j 0) (fun j hj => by simp [hj])).own HB2 (Nat.zero_le _) (by omega)
        rw [getD_list (weightsOf ls) k (by rw [weights_len]; exact HL.out)] at how
        exact IntsK.of_own how
      have HBx2 := HBx1.keep hbel
      have hB2 := hB1.trans (hbel.mono hB1.size)
      have hy2 := hx2.below hbel
      have hyT := hxT.below hbel
      have hgl : w1.heap.size + 1 < wr.heap.size := HB2.lt
      have hS := sum_take_bound (pricesOf ls) 1000000000000 HPI.out (pricesOf ls).length (Nat.le_refl _)
      rw [List.take_length, prices_len, HL.out] at hS
      obtain ⟨S, hSe⟩ : ∃ S, (pricesOf ls).sum = S := ⟨_, rfl⟩
      rw [hSe] at hS ⊢
      have HSE := Lib.hid hSe
      have z0 : wr.cell? ⟨w.heap.size, 0, none⟩ = some (.string cu) := HBx2.cell 0
      have z1 : wr.cell? ⟨w.heap.size, 1, none⟩ = some (.int .i64 day) := HBx2.cell 1
      clear HR1 HR2 HB1 HB2 hx1 hx2 hxT hlt x0 x1 x2 x3 hSe hbel hB1 HC1
      by_cases g1 : 1000000000000 < S
      · have d1 : decide (1000000000000 < S) = true := by simpa using g1
        have E := Lib.hid (val_over (t := ts) (cur := cu.toList) HIV.out (by rw [HSE.out]; exact g1))
        go_wp2
        go_ret2
        exact slres_err E.out hB2
      have d1 : decide (1000000000000 < S) = false := by simpa using g1
      have HCV := Lib.hid (convert_any T tn tc ts S cu day wr hyT htn HZ.out hcu hS.1 (by omega))
      have HVC := Lib.hid (val_conv (t := ts) (cur := cu.toList) HIV.out (by rw [HSE.out]; exact g1))
      rw [HSE.out] at HVC
      have hcb := convOut_bounds (xs := ts) (amt := S) (c := cu.toList) (day := day) hS.1
      by_cases g2 : convErr ts S cu.toList day = 0
      case neg =>
        have E := Lib.hid (HVC.out g2)
        have b2 : (convErr ts S cu.toList day != 0) = true := by simpa using g2
        generalize convErr ts S cu.toList day = er at *
        generalize convOut ts S cu.toList day = tot at *
        clear g2
        go_wp2_with fail
        refine HCV.out.mono ?_
        rintro e w2 ⟨rfl, hb2⟩
        go_wp2
        go_ret2
        exact slres_err E.out (hB2.trans (hb2.mono hB2.size))
      have G2 := Lib.hid g2
      rw [g2] at HCV
      have HVE : Hid (∀ k, k < cs.length → (∀ i, i < k → chgErr ts day cs i = 0) → chgErr ts day cs k ≠ 0 → valErr ts cu.toList day ls cs = chgErr ts day cs k ∧ valOut ts cu.toList day ls cs = []) := fun k hk h4 h5 => val_chg HIV.out (by rw [HSE.out]; exact g1) (by rw [HSE.out]; exact g2) k hk h4 h5
      have HVF : Hid ((∀ i, i < cs.length → chgErr ts day cs i = 0) → valErr ts cu.toList day ls cs = endErr ls.length (valTo ts cu.toList day ls cs cs.length)) := fun h4 => val_end HIV.out (by rw [HSE.out]; exact g1) (by rw [HSE.out]; exact g2) h4
      have HV0 : Hid (∀ j, valTo ts cu.toList day ls cs 0 j = shareI (convOut ts S cu.toList day) (pricesOf ls) j) := fun j => by unfold valTo; rw [sumN_zero, HSE.out]; omega
      clear g2
      obtain ⟨tot, hto⟩ : ∃ tot, convOut ts S cu.toList day = tot := ⟨_, rfl⟩
      rw [hto] at HCV hcb HV0
      clear hto HVC
      have hck := chk_ok (t := tot) (ws := pricesOf ls) hcb.1 hcb.2 (by rw [prices_len]; have := HL.out; omega) (by rw [prices_len]; have := HL.out; omega) HPI.out
      have HSO : Hid (shareOut tot (pricesOf ls) = (List.range k).map (valTo ts cu.toList day ls cs 0)) := by
        show _ = _
        unfold shareOut shareL
        rw [if_pos hck, prices_len, HL.out]
        exact List.map_congr_left fun j _ => (HV0.out j).symm
      have HCK := Lib.hid hck
      clear hck
      go_wp2_with fail
      refine HCV.out.mono ?_
      rintro e w2 ⟨rfl, hb2⟩
      have HSH := Lib.hid (share_any tot (some ⟨w1.heap.size, 0, none⟩) k k (pricesOf ls) w2 (hIp.below hb2) (by omega))
      rw [HCK.out, HSO.out] at HSH
      go_wp2_with fail
      refine HSH.out.mono ?_
      rintro e w3 ⟨A3, n3, c3, rfl, ho3, hb3⟩
      have hn3 := own_len ho3
      rw [List.length_map, List.length_range] at hn3
      subst hn3
      have hb23 := hb2.trans (hb3.mono hb2.size)
      have HBx3 := HBx2.keep hb23
      have hB3 := hB2.trans (hb23.mono hB2.size)
      have hv2 := hy2.below hb23
      have hvT := hyT.below hb23
      have hIp3 := hIp.below hb23
      have hIw3 := hIw.below hb23
      have hI3 := IntsK.of_own ho3
      have t0 : w3.cell? ⟨w.heap.size, 0, none⟩ = some (.string cu) := HBx3.cell 0
      have t1 : w3.cell? ⟨w.heap.size, 1, none⟩ = some (.int .i64 day) := HBx3.cell 1
      have t2 : w3.cell? ⟨w.heap.size, 2, none⟩ = some (.slice A k c) := HBx3.cell 2
      have t3 : w3.cell? ⟨w.heap.size, 3, none⟩ = some (.slice B m d) := HBx3.cell 3
      have ht3 : w.heap.size < w3.heap.size := HBx3.lt
      have hne3 : w.heap.size ≠ w3.heap.size := by omega
      have hgl3 : w1.heap.size + 1 < w3.heap.size := by have := hb23.size; omega
      clear hb2 hb3 HBx1 HBx2 hB2 hy2 hyT hIp hIw hb23 HCV HSH z0 z1 ho3 HCK
      have hmk1 := HMK.out
      have HB5 := Lib.hid (Bl.new w3 3 C1)
      have HI5 := Lib.hid (hI3.alloc (.cells C1 3))
      have HB6 : Hid (RowKit.Below w3.heap.size w3 (w3.alloc (.cells C1 3))) := (Below.refl _ _).alloc (Nat.le_refl _) _
      go_wp2_with (with_reducible refine wpList_copy_new rfl (.tmp 86) (.tmp 87) rfl w3.heap.size k C1 A3 c3 _ rfl rfl HB5.out HCS.out HI5.out w3 HB6.out ?_; intro w4 HB4 hb4; have s3 : w4.cell? ⟨w.heap.size, 3, none⟩ = some (.slice B m d) := (hb4.cell (p := ⟨w.heap.size, 3, none⟩) ht3).trans t3)
      clear hmk1 HB5 HI5 HB6 hI3
      have HRL : Hid (∀ r, r < cs.length → ∀ cc kk aa ss ll, cs[r]! = ⟨kk, aa, cc, ss, ll⟩ → kk ≠ 9 → ∀ j, j < k → bookV kk (valTo ts cu.toList day ls cs r) (partsOf ls ⟨kk, aa, cc, ss, ll⟩ (convOut ts aa cc.toList day)) j = valTo ts cu.toList day ls cs (r + 1) j) := fun r hr cc kk aa ss ll e hk9 j hj => by
        rw [valTo_succ, e]
        unfold bookV contrib
        rw [partsOf_get _ _ _ _ (by rw [HL.out]; exact hj), if_neg hk9]
        by_cases x : kk ≤ 5
        · rw [if_pos x, if_pos x]
        · rw [if_neg x, if_neg x]; dsimp only; omega
      have HR9 : Hid (∀ r, r < cs.length → ∀ cc kk aa ss ll, cs[r]! = ⟨kk, aa, cc, ss, ll⟩ → kk = 9 → ∀ j, valTo ts cu.toList day ls cs r j = valTo ts cu.toList day ls cs (r + 1) j) := fun r hr cc kk aa ss ll e hk9 j => by
        rw [valTo_succ, e]
        unfold contrib
        rw [if_pos hk9]; omega
      go_loopw [92] (fun i wr => ∃ (r : Nat) (ds : Array Value), r ≤ m ∧ i = .int .i64 r ∧ Bl wr w3.heap.size 3 ds ∧ IntRow ds k (valTo ts cu.toList day ls cs r) ∧ Hid (∀ i, i < r → chgErr ts day cs i = 0) ∧ RowKit.Below w3.heap.size w3 wr) (fun i _ => m - (intOf i).toNat)
      case atStart => exact ⟨0, _, Nat.zero_le _, rfl, HB4, row_list _ _, fun i hi => absurd hi (by omega), hb4⟩
      case round =>
        clear HB4 hb4 s3
        obtain ⟨r, ds, hr, rfl, HB, HR, HE, hbi⟩ := hrel
        have hBd := hB3.trans (hbi.mono hB3.size)
        have HBx4 := HBx3.keep hbi
        by_cases hlt2 : r < m
        · have hrc : r < cs.length := by have := HM.out; omega
          obtain ⟨b, off, kk, aa, cc, ss, ll, hA, hbl, hc1, hc2, hc3, hc4, hc5, HX⟩ := (hv2.below hbi).getC hlt2
          subst hA
          have hok := HCO.out r hrc
          have hcz := HCZ.out r hrc
          rw [HX.out] at hok hcz
          rw [HL.out] at hok
          have HOK := Lib.hid hok
          unfold chgOk at hok
          dsimp only at hok hcz
          have y1 : wr.cell? ⟨w.heap.size, 1, none⟩ = some (.int .i64 day) := HBx4.cell 1
          have hxw : w.heap.size < wr.heap.size := HBx4.lt
          have hnx : w.heap.size ≠ wr.heap.size := by omega
          have hgw : w3.heap.size < wr.heap.size := HB.lt
          have HBn := Bl.new wr 160 #[.int .i64 kk, .int .i64 aa, .string cc, .int .i64 ss, .int .i64 ll]
          have hal : RowKit.Below wr.heap.size wr (wr.alloc (.cells #[.int .i64 kk, .int .i64 aa, .string cc, .int .i64 ss, .int .i64 ll] 160)) := (Below.refl _ _).alloc (Nat.le_refl _) _
          have hbi5 := hbi.trans (hal.mono hbi.size)
          by_cases g9 : kk = 9
          · have b9 : (kk == 9) = true := by simpa using g9
            have HE' : Hid (∀ i, i < r + 1 → chgErr ts day cs i = 0) := fun i hi => by
              by_cases e : i = r
              · subst e; unfold chgErr; rw [HX.out, if_pos g9]
              · exact HE.out i (by omega)
            have HRN := Lib.hid (HR.congr (fun j _ => HR9.out r hrc cc kk aa ss ll HX.out g9 j))
            clear g9
            go_wp2
            go_roundw
            case rel => exact ⟨r + 1, ds, by omega, by go_num, HB.alloc _, HRN.out, HE'.out, hbi5⟩
            case measure => simp [intOf]; omega
          have b9 : (kk == 9) = false := by simpa using g9
          have HCE : Hid (chgErr ts day cs r = convErr ts aa cc.toList day) := by show _ = _; unfold chgErr; rw [HX.out, if_neg g9]
          have HCV := Lib.hid (convert_any T tn tc ts aa cc day _ (hvT.below hbi5) htn HZ.out hcz (by omega) (by omega))
          have hcb2 := convOut_bounds (xs := ts) (amt := aa) (c := cc.toList) (day := day) (by omega)
          have HRN := Lib.hid (HRL.out r hrc cc kk aa ss ll HX.out g9)
          clear g9
          have hok2 := hok.1
          clear hok
          go_wp2_with fail
          refine HCV.out.mono ?_
          rintro e w5 ⟨rfl, hb5⟩
          have hB5 := hBd.trans ((hal.trans (hb5.mono hal.size)).mono hBd.size)
          by_cases g2 : convErr ts aa cc.toList day = 0
          case neg =>
            have E := Lib.hid (HVE.out r hrc HE.out (by rw [HCE.out]; exact g2))
            rw [HCE.out] at E
            have b2 : (convErr ts aa cc.toList day != 0) = true := by simpa using g2
            clear HCV HCE g2
            generalize convErr ts aa cc.toList day = er at *
            go_wp2
            go_ret2
            exact slres_err E.out hB5
          have HE' : Hid (∀ i, i < r + 1 → chgErr ts day cs i = 0) := fun i hi => by
            by_cases e : i = r
            · subst e; rw [HCE.out]; exact g2
            · exact HE.out i (by omega)
          rw [g2]
          clear g2 HCE HE HCV
          generalize convOut ts aa cc.toList day = amt at *
          have hal5 := hal.trans (hb5.mono hal.size)
          have hbi6 := hbi.trans (hal5.mono hbi.size)
          have HBn5 := HBn.keep hb5
          have q0 : w5.cell? ⟨wr.heap.size, 0, none⟩ = some (.int .i64 kk) := HBn5.cell 0
          have q1 : w5.cell? ⟨wr.heap.size, 1, none⟩ = some (.int .i64 aa) := HBn5.cell 1
          have q2 : w5.cell? ⟨wr.heap.size, 2, none⟩ = some (.string cc) := HBn5.cell 2
          have q3 : w5.cell? ⟨wr.heap.size, 3, none⟩ = some (.int .i64 ss) := HBn5.cell 3
          have q4 : w5.cell? ⟨wr.heap.size, 4, none⟩ = some (.int .i64 ll) := HBn5.cell 4
          have HDV := Lib.hid (divide_any kk aa ss ll cc amt (some ⟨w1.heap.size, 0, none⟩) (some ⟨w1.heap.size + 1, 0, none⟩) k k k ls w5 (hIp3.below hbi6) (hIw3.below hbi6) hn0 hn1 HLO.out HOK.out hcb2.1 hcb2.2)
          go_wp2_with fail
          refine HDV.out.mono ?_
          rintro e w6 ⟨A6, n6, c6, rfl, ho6, hb6⟩
          have hn6 := own_len ho6
          rw [partsOf_len, HL.out] at hn6
          subst hn6
          have HBn6 := HBn5.keep hb6
          have p0 : w6.cell? ⟨wr.heap.size, 0, none⟩ = some (.int .i64 kk) := HBn6.cell 0
          have hal6 := hal5.trans (hb6.mono hal5.size)
          have HB6 := HB.keep hal6
          have hgw5 : w3.heap.size < w5.heap.size := by have := hal5.size; omega
          have HAN : Hid (∀ b off, A6 = some ⟨b, off, none⟩ → b ≠ w3.heap.size) := fun b off e => by
            have := own_base ho6 b (by rw [e]; rfl)
            omega
          have HBK := Lib.hid (book_any w3.heap.size k k A6 c6 ds (valTo ts cu.toList day ls cs r) (partsOf ls ⟨kk, aa, cc, ss, ll⟩ amt) kk w6 HB6 HR (IntsK.of_own ho6) HAN.out hn1
            (fun j hj => by
              have h1 := valTo_bounds (t := ts) (cur := cu.toList) (day := day) HLO.out (by rw [HL.out]; exact hn0) HCO.out (by rw [HSE.out]; exact hS.1) r (by omega) j (by rw [HL.out]; exact hj)
              omega)
            (fun j hj => by
              rw [partsOf_get _ _ _ _ (by rw [HL.out]; exact hj)]
              have h1 := partV_bounds HLO.out (by rw [HL.out]; exact hn0) ⟨kk, aa, cc, ss, ll⟩ amt hcb2.1 j (by rw [HL.out]; exact hj)
              omega))
          clear HDV q0 q1 q2 q3 q4
          go_wp2_with fail
          refine HBK.out.mono ?_
          rintro e w7 ⟨rfl, hO7, ds7, HB7, HR7⟩
          have HR7' := Lib.hid (HR7.congr HRN.out)
          have hbi7 := (hbi.trans (hal6.mono hbi.size)).trans (hO7.below (Nat.le_refl _))
          clear HBK HR7
          go_wp2
          go_roundw
          case rel => exact ⟨r + 1, ds7, by omega, by go_num, HB7, HR7'.out, HE'.out, hbi7⟩
          case measure => simp [intOf]; omega
        · obtain rfl : r = m := by omega
          have how := HR.own HB (Nat.le_refl _) (by omega)
          have hIv := IntsK.of_own how
          have HCK := Lib.hid (checkValues_any (some ⟨w3.heap.size, 0, none⟩) k k _ wr hIv (by omega))
          have e1 : endErr k (fun j => ((List.range k).map (valTo ts cu.toList day ls cs r)).getD j 0) = endErr k (valTo ts cu.toList day ls cs r) := endErr_congr fun j hj => by simp [List.getD, hj]
          rw [e1] at HCK
          have HF := Lib.hid (HVF.out (fun i hi => HE.out i (by have := HM.out; omega)))
          rw [HL.out, HM.out] at HF
          clear e1
          by_cases g3 : endErr k (valTo ts cu.toList day ls cs r) = 0
          · rw [g3] at HCK HF
            have HVO : Hid (valOut ts cu.toList day ls cs = (List.range k).map (valTo ts cu.toList day ls cs r)) := by show _ = _; unfold valOut; rw [if_pos HF.out, HL.out, HM.out]
            clear g3
            go_wp2_with fail
            refine HCK.out.mono ?_
            rintro e w9 ⟨rfl, rfl⟩
            go_wp2
            go_ret2
            rw [HF.out, HVO.out]
            exact ⟨_, _, _, rfl, own_mono how (by omega), hBd⟩
          · have E := Lib.hid (val_no HF.out g3)
            have b3 : (endErr k (valTo ts cu.toList day ls cs r) != 0) = true := by simpa using g3
            clear g3 HF
            generalize endErr k (valTo ts cu.toList day ls cs r) = er at *
            go_wp2_with fail
            refine HCK.out.mono ?_
            rintro e w9 ⟨rfl, rfl⟩
            go_wp2
            go_ret2
            exact slres_err E.out hBd
end Go.Proofs.YtbokkeooahodaaaGreatDoor

namespace Go.Proofs.YtbokkeooahodaaaGreatDoor
open Go.RowKit
set_option linter.unusedVariables false

abbrev fixM : Ms := ⟨1, 1, s94, [], 0, 0, 100, -1, ⟨50000, 0, 0, false, 0, false, 0⟩⟩
abbrev fixMA : MsA := ⟨fixM, none, 0, 0⟩
abbrev fixX : It := ⟨(⟨#[57, 52, 48, 49, 48, 48, 48, 48]⟩ : ByteArray), (⟨#[65, 65]⟩ : ByteArray), false, 0, 0, 1, 1000, 0⟩
theorem lit_recs20 (w : World) (T : TypeId) (xs : List (Int × Int)) : Recs enc2 2 (w.alloc (.cells (flat enc2 xs).toArray T)) (some ⟨w.heap.size, 0, none⟩) xs.length xs :=
  ⟨rfl, fun _ => ⟨w.heap.size, 0, rfl, by simp, fun i hi c hc => by
    rw [Nat.zero_add, (Bl.new w T _).cell]
    simpa using flat_get enc2_len xs i c hi hc⟩⟩
theorem fix_out : (asOut [fixM] fixX).1 = 0 ∧ sumA (asOut [fixM] fixX).2 = 50 := by decide +kernel
theorem fix_val : valErr [] eur 0 [(1000, 0)] [] = 0 ∧ valOut [] eur 0 [(1000, 0)] [] = [1000] := by decide +kernel
set_option maxRecDepth 100000 in
set_option maxHeartbeats 16000000 in
theorem fixed20 (w : World) (hM : MaxG w) (hG : LenG w) : Calls Tryz.prog 10 #[] w (BRes w true) := by
  have HM := Lib.hid hM
  have HG := Lib.hid hG
  clear hM hG
  go_enter Tryz.func10, Tryz.ntmps10
  go_wp2_with fail
  refine (gparse20 w HM.out).mono ?_
  rintro e w1 ⟨D, d, rfl, hd, hS, hb⟩
  have HS1 := Lib.hid hS
  have HD := Lib.hid hd
  have HB1 := Lib.hid hb
  clear hS hd hb
  have HY2 : Hid (Bl (w1.alloc (.cells #[.slice D 2 d, .slice none 0 0, .slice none 0 0, .bool false] 90)) w1.heap.size 90 #[.slice D 2 d, .slice none 0 0, .slice none 0 0, .bool false]) := Bl.new _ _ _
  have HB2 := Lib.hid (HB1.out.alloc HB1.out.size (.cells #[.slice D 2 d, .slice none 0 0, .slice none 0 0, .bool false] 90))
  have HS2 := Lib.hid (HS1.out.below ((Below.refl w1.heap.size w1).alloc (Nat.le_refl _) (.cells #[.slice D 2 d, .slice none 0 0, .slice none 0 0, .bool false] 90)))
  go_upto_region 2 with (fail)
  generalize w1.alloc (.cells #[.slice D 2 d, .slice none 0 0, .slice none 0 0, .bool false] 90) = w2 at *
  skip
  have hs1 : (w2.alloc (.cells #[.string sChair] 9)).heap.size = w2.heap.size + 1 := by simp
  have hs2 : ((w2.alloc (.cells #[.string sChair] 9)).alloc (.cells #[.slice (some ⟨w2.heap.size, 0, none⟩) 1 1] 60)).heap.size = w2.heap.size + 1 + 1 := by simp
  have hs3 : (((w2.alloc (.cells #[.string sChair] 9)).alloc (.cells #[.slice (some ⟨w2.heap.size, 0, none⟩) 1 1] 60)).alloc (.cells #[.string s94, .int .i64 0, .int .i64 100, .slice none 0 0, .bool false, .string s9401, .int .i64 0, .int .i64 100, .slice (some ⟨w2.heap.size + 1, 0, none⟩) 1 1, .bool false] 95)).heap.size = w2.heap.size + 1 + 1 + 1 := by simp
  have hb3 : RowKit.Below w2.heap.size w2 ((((w2.alloc (.cells #[.string sChair] 9)).alloc (.cells #[.slice (some ⟨w2.heap.size, 0, none⟩) 1 1] 60)).alloc (.cells #[.string s94, .int .i64 0, .int .i64 100, .slice none 0 0, .bool false, .string s9401, .int .i64 0, .int .i64 100, .slice (some ⟨w2.heap.size + 1, 0, none⟩) 1 1, .bool false] 95)).alloc (.cells #[.slice (some ⟨w2.heap.size + 1 + 1, 0, none⟩) 2 2, .slice none 0 0] 99)) := ((((Below.refl _ w2).alloc (Nat.le_refl _) _).alloc (by simp) _).alloc (by simp; omega) _).alloc (by simp; omega) _
  have k1 : Bl ((((w2.alloc (.cells #[.string sChair] 9)).alloc (.cells #[.slice (some ⟨w2.heap.size, 0, none⟩) 1 1] 60)).alloc (.cells #[.string s94, .int .i64 0, .int .i64 100, .slice none 0 0, .bool false, .string s9401, .int .i64 0, .int .i64 100, .slice (some ⟨w2.heap.size + 1, 0, none⟩) 1 1, .bool false] 95)).alloc (.cells #[.slice (some ⟨w2.heap.size + 1 + 1, 0, none⟩) 2 2, .slice none 0 0] 99)) w2.heap.size 9 #[.string sChair] := (((Bl.new w2 _ _).alloc _).alloc _).alloc _
  have k2 : Bl ((((w2.alloc (.cells #[.string sChair] 9)).alloc (.cells #[.slice (some ⟨w2.heap.size, 0, none⟩) 1 1] 60)).alloc (.cells #[.string s94, .int .i64 0, .int .i64 100, .slice none 0 0, .bool false, .string s9401, .int .i64 0, .int .i64 100, .slice (some ⟨w2.heap.size + 1, 0, none⟩) 1 1, .bool false] 95)).alloc (.cells #[.slice (some ⟨w2.heap.size + 1 + 1, 0, none⟩) 2 2, .slice none 0 0] 99)) (w2.heap.size + 1) 60 #[.slice (some ⟨w2.heap.size, 0, none⟩) 1 1] := by
    have h := ((Bl.new (w2.alloc (.cells #[.string sChair] 9)) 60 #[.slice (some ⟨w2.heap.size, 0, none⟩) 1 1]).alloc (.cells #[.string s94, .int .i64 0, .int .i64 100, .slice none 0 0, .bool false, .string s9401, .int .i64 0, .int .i64 100, .slice (some ⟨w2.heap.size + 1, 0, none⟩) 1 1, .bool false] 95)).alloc (.cells #[.slice (some ⟨w2.heap.size + 1 + 1, 0, none⟩) 2 2, .slice none 0 0] 99)
    rwa [hs1] at h
  have k3 : Bl ((((w2.alloc (.cells #[.string sChair] 9)).alloc (.cells #[.slice (some ⟨w2.heap.size, 0, none⟩) 1 1] 60)).alloc (.cells #[.string s94, .int .i64 0, .int .i64 100, .slice none 0 0, .bool false, .string s9401, .int .i64 0, .int .i64 100, .slice (some ⟨w2.heap.size + 1, 0, none⟩) 1 1, .bool false] 95)).alloc (.cells #[.slice (some ⟨w2.heap.size + 1 + 1, 0, none⟩) 2 2, .slice none 0 0] 99)) (w2.heap.size + 1 + 1) 95 #[.string s94, .int .i64 0, .int .i64 100, .slice none 0 0, .bool false, .string s9401, .int .i64 0, .int .i64 100, .slice (some ⟨w2.heap.size + 1, 0, none⟩) 1 1, .bool false] := by
    have h := (Bl.new ((w2.alloc (.cells #[.string sChair] 9)).alloc (.cells #[.slice (some ⟨w2.heap.size, 0, none⟩) 1 1] 60)) 95 #[.string s94, .int .i64 0, .int .i64 100, .slice none 0 0, .bool false, .string s9401, .int .i64 0, .int .i64 100, .slice (some ⟨w2.heap.size + 1, 0, none⟩) 1 1, .bool false]).alloc (.cells #[.slice (some ⟨w2.heap.size + 1 + 1, 0, none⟩) 2 2, .slice none 0 0] 99)
    rwa [hs2] at h
  have k4 : Bl ((((w2.alloc (.cells #[.string sChair] 9)).alloc (.cells #[.slice (some ⟨w2.heap.size, 0, none⟩) 1 1] 60)).alloc (.cells #[.string s94, .int .i64 0, .int .i64 100, .slice none 0 0, .bool false, .string s9401, .int .i64 0, .int .i64 100, .slice (some ⟨w2.heap.size + 1, 0, none⟩) 1 1, .bool false] 95)).alloc (.cells #[.slice (some ⟨w2.heap.size + 1 + 1, 0, none⟩) 2 2, .slice none 0 0] 99)) (w2.heap.size + 1 + 1 + 1) 99 #[.slice (some ⟨w2.heap.size + 1 + 1, 0, none⟩) 2 2, .slice none 0 0] := by
    have h := Bl.new (((w2.alloc (.cells #[.string sChair] 9)).alloc (.cells #[.slice (some ⟨w2.heap.size, 0, none⟩) 1 1] 60)).alloc (.cells #[.string s94, .int .i64 0, .int .i64 100, .slice none 0 0, .bool false, .string s9401, .int .i64 0, .int .i64 100, .slice (some ⟨w2.heap.size + 1, 0, none⟩) 1 1, .bool false] 95)) 99 #[.slice (some ⟨w2.heap.size + 1 + 1, 0, none⟩) 2 2, .slice none 0 0]
    rwa [hs3] at h
  have HBK : Hid (BkR ((((w2.alloc (.cells #[.string sChair] 9)).alloc (.cells #[.slice (some ⟨w2.heap.size, 0, none⟩) 1 1] 60)).alloc (.cells #[.string s94, .int .i64 0, .int .i64 100, .slice none 0 0, .bool false, .string s9401, .int .i64 0, .int .i64 100, .slice (some ⟨w2.heap.size + 1, 0, none⟩) 1 1, .bool false] 95)).alloc (.cells #[.slice (some ⟨w2.heap.size + 1 + 1, 0, none⟩) 2 2, .slice none 0 0] 99)) (w2.heap.size + 1 + 1) (some ⟨w2.heap.size + 1, 0, none⟩) 1) := ⟨k3, w2.heap.size + 1, 0, some ⟨w2.heap.size, 0, none⟩, 1, rfl, k2.lt, k2.cell 0, Sr.lit [sChair] k1 rfl (by decide) (fun s hs => by simp at hs; subst hs; decide)⟩
  have HX3 := Lib.hid k4
  have HY3 := Lib.hid (HY2.out.keep hb3)
  have HB3 := Lib.hid (HB2.out.trans (hb3.mono HB2.out.size))
  have HS3 := Lib.hid (HS2.out.below hb3)
  clear k1 k2 k3 k4 hb3 HS2 HB2 HY2 HS1
  go_upto_region 3 with (fail)
  try simp only [hs1, hs2, hs3]
  clear hs1 hs2 hs3
  generalize (((w2.alloc (.cells #[.string sChair] 9)).alloc (.cells #[.slice (some ⟨w2.heap.size, 0, none⟩) 1 1] 60)).alloc (.cells #[.string s94, .int .i64 0, .int .i64 100, .slice none 0 0, .bool false, .string s9401, .int .i64 0, .int .i64 100, .slice (some ⟨w2.heap.size + 1, 0, none⟩) 1 1, .bool false] 95)).alloc (.cells #[.slice (some ⟨w2.heap.size + 1 + 1, 0, none⟩) 2 2, .slice none 0 0] 99) = w3 at *
  generalize w2.heap.size = m0 at *
  clear HB1
  have q1 : w3.cell? ⟨(m0 + 1 + 1 + 1), 0, none⟩ = some (.slice (some ⟨m0 + 1 + 1, 0, none⟩) 2 2) := HX3.out.cell 0
  have q2 : w3.cell? ⟨(m0 + 1 + 1 + 1), 1, none⟩ = some (.slice none 0 0) := HX3.out.cell 1
  have q3 : w3.cell? ⟨w1.heap.size, 0, none⟩ = some (.slice D 2 d) := HY3.out.cell 0
  have q4 : w3.cell? ⟨w1.heap.size, 1, none⟩ = some (.slice none 0 0) := HY3.out.cell 1
  have q5 : w3.cell? ⟨w1.heap.size, 2, none⟩ = some (.slice none 0 0) := HY3.out.cell 2
  have q6 : w3.cell? ⟨w1.heap.size, 3, none⟩ = some (.bool false) := HY3.out.cell 3
  go_wp2_with fail
  refine (classify20 (m0 + 1 + 1) (some ⟨m0 + 1, 0, none⟩) 1 D d w3 HBK.out HS3.out (HG.out.below HB3.out)).mono ?_
  rintro e w4 ⟨ST, sn, sc, rfl, hb⟩
  have HB4 := Lib.hid (HB3.out.trans (hb.mono HB3.out.size))
  clear q1 q2 q3 q4 q5 q6 hb HX3 HY3 HBK HS3 HB3 HD
  have HV : Hid (Calls Tryz.prog 34 #[.slice none 0 0, .agg #[.string ⟨#[69, 85, 82]⟩, .int .i64 0, .slice (some ⟨w4.heap.size, 0, none⟩) 1 1, .slice none 0 0]] (w4.alloc (.cells #[.int .i64 1000, .int .i64 0] 106)) (SlRes (w4.alloc (.cells #[.int .i64 1000, .int .i64 0] 106)) 0 [1000])) := by
    have h := values_any none 0 0 [] ⟨#[69, 85, 82]⟩ 0 (some ⟨w4.heap.size, 0, none⟩) none 1 1 0 0 [(1000, 0)] [] (w4.alloc (.cells #[.int .i64 1000, .int .i64 0] 106)) Recs.nil (by decide) (fun i hi => absurd hi (Nat.not_lt_zero _)) (by decide) (lit_recs20 w4 106 [(1000, 0)]) (by decide) Recs.nil (by decide) (fun i hi => absurd hi (Nat.not_lt_zero _))
    rw [show (⟨#[69, 85, 82]⟩ : ByteArray).toList = eur by decide +kernel, fix_val.1, fix_val.2] at h
    exact h
  have HB5 := Lib.hid (HB4.out.alloc HB4.out.size (.cells #[.int .i64 1000, .int .i64 0] 106))
  have e1 : (s9401.toList != s9401.toList) = false := by decide +kernel
  go_wp2_with fail
  refine HV.out.mono ?_
  rintro e w6 ⟨VA, vn, vc, rfl, hv, hb⟩
  obtain rfl : vn = 1 := by have := hv.1; simp at this; omega
  obtain ⟨vb, vo, hA, hlt, hcv⟩ := (IntsK.of_own hv).2 (by decide)
  subst hA
  have HVC : Hid (w6.cell? ⟨vb, vo, none⟩ = some (.int .i64 1000)) := by show _ = _; exact hcv 0 (by decide)
  have HVL := Lib.hid hlt
  have HB6 := Lib.hid (HB5.out.trans (hb.mono HB5.out.size))
  clear hv hb hcv hlt HB5 HB4 HV
  have hb7 : RowKit.Below w6.heap.size w6 (w6.alloc (.cells #[.int .i64 1, .int .i64 1, .string s94, .slice none 0 0, .int .i64 0, .int .i64 0, .int .i64 100, .int .i64 (-1), .int .i64 50000, .int .i64 0, .int .i64 0, .bool false, .int .i64 0, .bool false, .int .i64 0] 62)) := (Below.refl _ _).alloc (Nat.le_refl _) _
  have hk7 : Bl (w6.alloc (.cells #[.int .i64 1, .int .i64 1, .string s94, .slice none 0 0, .int .i64 0, .int .i64 0, .int .i64 100, .int .i64 (-1), .int .i64 50000, .int .i64 0, .int .i64 0, .bool false, .int .i64 0, .bool false, .int .i64 0] 62)) w6.heap.size 62 #[.int .i64 1, .int .i64 1, .string s94, .slice none 0 0, .int .i64 0, .int .i64 0, .int .i64 100, .int .i64 (-1), .int .i64 50000, .int .i64 0, .int .i64 0, .bool false, .int .i64 0, .bool false, .int .i64 0] := Bl.new _ _ _
  have HMR : Hid (MsR (w6.alloc (.cells #[.int .i64 1, .int .i64 1, .string s94, .slice none 0 0, .int .i64 0, .int .i64 0, .int .i64 100, .int .i64 (-1), .int .i64 50000, .int .i64 0, .int .i64 0, .bool false, .int .i64 0, .bool false, .int .i64 0] 62)) (some ⟨w6.heap.size, 0, none⟩) 1 [fixMA]) := by
    refine ⟨⟨rfl, fun _ => ⟨w6.heap.size, 0, rfl, hk7.lt, fun i hi c hc => ?_⟩⟩, by decide, fun i hi => ?_⟩
    · obtain rfl : i = 0 := by omega
      rw [Nat.zero_mul, Nat.zero_add, hk7.cell c]
      match c, hc with
      | 0, _ => rfl
      | 1, _ => rfl
      | 2, _ => rfl
      | 3, _ => rfl
      | 4, _ => rfl
      | 5, _ => rfl
      | 6, _ => rfl
      | 7, _ => rfl
      | 8, _ => rfl
      | 9, _ => rfl
      | 10, _ => rfl
      | 11, _ => rfl
      | 12, _ => rfl
      | 13, _ => rfl
      | 14, _ => rfl
    · obtain rfl : i = 0 := by omega
      exact ⟨Sr.nil, by decide⟩
  have HVC7 : Hid ((w6.alloc (.cells #[.int .i64 1, .int .i64 1, .string s94, .slice none 0 0, .int .i64 0, .int .i64 0, .int .i64 100, .int .i64 (-1), .int .i64 50000, .int .i64 0, .int .i64 0, .bool false, .int .i64 0, .bool false, .int .i64 0] 62)).cell? ⟨vb, vo, none⟩ = some (.int .i64 1000)) := (hb7.cell (p := ⟨vb, vo, none⟩) HVL.out).trans HVC.out
  have HVL7 : Hid (vb < (w6.alloc (.cells #[.int .i64 1, .int .i64 1, .string s94, .slice none 0 0, .int .i64 0, .int .i64 0, .int .i64 100, .int .i64 (-1), .int .i64 50000, .int .i64 0, .int .i64 0, .bool false, .int .i64 0, .bool false, .int .i64 0] 62)).heap.size) := Nat.lt_of_lt_of_le HVL.out hb7.size
  have HB7 := Lib.hid (HB6.out.trans (hb7.mono HB6.out.size))
  clear hb7 hk7 HVC HVL HB6
  go_upto_region 8 with (fail)
  generalize w6.alloc (.cells #[.int .i64 1, .int .i64 1, .string s94, .slice none 0 0, .int .i64 0, .int .i64 0, .int .i64 100, .int .i64 (-1), .int .i64 50000, .int .i64 0, .int .i64 0, .bool false, .int .i64 0, .bool false, .int .i64 0] 62) = w7 at *
  generalize w6.heap.size = gm at *
  have HTO : Hid (∀ wx, RowKit.Below w7.heap.size w7 wx → Calls Tryz.prog 35 #[.slice (some ⟨gm, 0, none⟩) 1 1, .agg #[.string ⟨#[57, 52, 48, 49, 48, 48, 48, 48]⟩, .string ⟨#[65, 65]⟩, .bool false, .int .i64 0, .int .i64 0, .int .i64 1, .int .i64 1000, .int .i64 0]] wx (fun e w' => e = .returned (.tuple #[.int .i64 50, .int .i64 0]) ∧ RowKit.Below wx.heap.size wx w')) := fun wx hb => by
    have h := total20_any (some ⟨gm, 0, none⟩) 1 1 [fixMA] fixX wx (HMR.out.below hb) (HG.out.below (HB7.out.trans (hb.mono HB7.out.size))) (by decide) (by decide)
    refine h.mono ?_
    rintro e w' ⟨rfl, h2⟩
    refine ⟨?_, h2⟩
    have e1 : (asOut (msL [fixMA]) fixX).1 = 0 := fix_out.1
    have e2 : sumA (asOut (msL [fixMA]) fixX).2 = 50 := fix_out.2
    rw [e1, e2]
  have HLN : Hid (∀ wx, Calls Tryz.prog 36 #[.string s9401] wx (fun e w' => e = .returned (.string ⟨#[57, 52, 48, 49, 48, 48, 48, 48]⟩) ∧ wx = w')) := fun wx => line20 wx
  have HSS : Hid (∀ wx, RowKit.Below w7.heap.size w7 wx → wx.cell? ⟨vb, vo, none⟩ = some (.int .i64 1000)) := fun wx hb => (hb.cell (p := ⟨vb, vo, none⟩) HVL7.out).trans HVC7.out
  have hk0 : Hid (RowKit.Below w7.heap.size w7 w7.drew) := (Below.refl _ _).drew
  have hk00 : Hid (RowKit.Below w7.heap.size w7 w7) := Below.refl _ _
  have q1 := HSS.out _ hk00.out
  go_region_held3 (fun wx => wx.cell? ⟨vb, vo, none⟩ = some (.int .i64 1000))
    (first | with_reducible exact HSS.out _ hkz.out | with_reducible exact HSS.out _ hk0.out | with_reducible exact HSS.out _ hk00.out)
    (first | (go_at_call 36; with_reducible (refine (HLN.out _).mono ?_); rintro e wz ⟨rfl, rfl⟩) | (go_at_call 35; with_reducible (refine (HTO.out _ hk0.out).mono ?_); rintro e wz ⟨rfl, hbz⟩; have hkz := Lib.hid (hk0.out.trans (hbz.mono hk0.out.size))) | fail)
  all_goals
    have HBZ := Lib.hid (HB7.out.trans (hkz.out.mono HB7.out.size))
    go_wp2_with fail
    go_ret
    exact ⟨rfl, HBZ.out⟩
end Go.Proofs.YtbokkeooahodaaaGreatDoor

/-
  Contract of the reference's Values (customsref17). No statement of the seat is proved here. Conditions: lengths fit an int, strings fit.
-/
import Derived.Test.YtknbbamlpadfdaaVal17b
import Derived.Test.YtknbbamlpadfdaaTwoRows
import Derived.Deep.CutBlock
import Derived.Deep.DeepCutAuto
namespace Go.Proofs.Ytknbbamlpadfdaa
open Go.RowKit
set_option linter.unusedVariables false

theorem take_snoc_get (xs : List Int) (k : Nat) (h : k < xs.length) : (xs.take (k + 1)).map (Value.int .i64) = (xs.take k).map (Value.int .i64) ++ [Value.int .i64 (xs.getD k 0)] := by
  rw [List.take_succ_eq_append_getElem h, List.map_append]
  simp [List.getD, List.getElem?_eq_getElem h]

theorem book_step {ts : List Exch} {cur : List UInt8} {day : Int} {ls : List (Int × Int)} {cs : List Chg} {r j : Nat} {cc : ByteArray} {kk aa ss ll : Int} (e : cs[r]! = ⟨kk, aa, cc, ss, ll⟩) (hk9 : kk ≠ 9) (hj : j < ls.length) :
    bookV kk (valTo ts cur day ls cs r) (partsOf ls ⟨kk, aa, cc, ss, ll⟩ (convOut ts aa cc.toList day)) j = valTo ts cur day ls cs (r + 1) j := by
  rw [valTo_succ, e]
  unfold bookV contrib
  rw [partsOf_get _ _ _ _ hj, if_neg hk9]
  by_cases x : kk ≤ 5
  · rw [if_pos x, if_pos x]
  · rw [if_neg x, if_neg x]; dsimp only; omega
theorem nine_step {ts : List Exch} {cur : List UInt8} {day : Int} {ls : List (Int × Int)} {cs : List Chg} {r : Nat} {cc : ByteArray} {kk aa ss ll : Int} (e : cs[r]! = ⟨kk, aa, cc, ss, ll⟩) (hk9 : kk = 9) (j : Nat) :
    valTo ts cur day ls cs r j = valTo ts cur day ls cs (r + 1) j := by
  rw [valTo_succ, e]
  unfold contrib
  rw [if_pos hk9]; omega

set_option maxRecDepth 100000 in
set_option maxHeartbeats 16000000 in
theorem rvalues_any (T : Option Addr) (tn tc : Nat) (ts : List Exch) (cu : ByteArray) (day : Int) (A B : Option Addr) (n c m d : Nat) (ls : List (Int × Int)) (cs : List Chg) (w : World)
    (hT : Recs encX 3 w T tn ts) (htn : tn ≤ 9223372036854775807) (hz : ExSz ts) (h : Recs enc2 2 w A n ls) (hm : n ≤ 9223372036854775807) (h2 : Recs encC 5 w B m cs) (hm2 : m ≤ 9223372036854775807) :
    Calls Try.prog 17 #[.slice T tn tc, .agg #[.string cu, .int .i64 day, .slice A n c, .slice B m d]] w (SlRes w (valErr ts cu.toList day ls cs) (valOut ts cu.toList day ls cs)) := by
  have HL := Lib.hid h.1
  have HM := Lib.hid h2.1
  have HBx := Bl.new w 25 #[.string cu, .int .i64 day, .slice A n c, .slice B m d]
  have hb0 : RowKit.Below w.heap.size w (w.alloc (.cells #[.string cu, .int .i64 day, .slice A n c, .slice B m d] 25)) := (Below.refl _ _).alloc (Nat.le_refl _) _
  have h' := h.alloc (.cells #[.string cu, .int .i64 day, .slice A n c, .slice B m d] 25)
  have h2' := h2.alloc (.cells #[.string cu, .int .i64 day, .slice A n c, .slice B m d] 25)
  have hT' := hT.alloc (.cells #[.string cu, .int .i64 day, .slice A n c, .slice B m d] 25)
  have HV := Lib.hid (rinvoice_any cu day A B n c m d ls cs _ h' hm h2' hm2)
  by_cases hi : invErr day ls cs = 0
  case neg =>
    have E := Lib.hid (val_inv (t := ts) (cur := cu.toList) hi)
    have b1 : (invErr day ls cs != 0) = true := by simpa using hi
    clear hi
    generalize invErr day ls cs = er at *
    go_enter Try.func17, Try.ntmps17
    go_wp2_with fail
    refine HV.out.mono ?_
    rintro e w1 ⟨rfl, hb1⟩
    go_wp2
    go_ret2
    exact slres_err E.out (hb0.trans (hb1.mono hb0.size))
  rw [hi] at HV
  obtain ⟨v1, v2, v3, v4, v5, v6, v7⟩ := invErr_zero hi
  have HLO := Lib.hid v6
  have HCO := Lib.hid v7
  have HIV := Lib.hid hi
  have hn0 : 0 < n := by have := HL.out; omega
  have hn1 : n ≤ 100 := by have := HL.out; omega
  have hm1 : m ≤ 50 := by have := HM.out; omega
  have HPI := Lib.hid (prices_in v6)
  have HWI := Lib.hid (weights_in v6)
  have HZ := Lib.hid hz
  obtain ⟨i0, hi0, hz0, hz1, hz2⟩ := info_parts infoI
  obtain ⟨C1, HC1, hmk1⟩ := make_any (P := Try.prog) 26 3 _ 1 8 n Try.underlying26 infoI (by omega) (by omega)
  have HMK := Lib.hid hmk1
  clear hmk1
  clear v1 v2 v3 v6 v7 hi hz
  go_enter Try.func17, Try.ntmps17
  go_wp2_with fail
  refine HV.out.mono ?_
  rintro e w1 ⟨rfl, hb1⟩
  have hB1 := hb0.trans (hb1.mono hb0.size)
  have HBx1 := HBx.keep hb1
  have hx1 := h'.below hb1
  have hx2 := h2'.below hb1
  have hxT := hT'.below hb1
  generalize w.alloc (.cells #[.string cu, .int .i64 day, .slice A n c, .slice B m d] 25) = W0 at *
  have hxl : w.heap.size < w1.heap.size := HBx1.lt
  clear HBx h' h2' hT' HV hb1 hb0 hT h h2
  go_wp2
  go_loopw [7, 8, 9, 10] (fun sm v u i wr => ∃ k : Nat, k ≤ n ∧ i = .int .i64 k ∧ sm = .int .i64 ((pricesOf ls).take k).sum ∧ wr.ownsRow w1.heap.size 3 1 v k (((pricesOf ls).take k).map (Value.int .i64)) ∧ wr.ownsRow w1.heap.size 3 1 u k (((weightsOf ls).take k).map (Value.int .i64)) ∧ Apart v u ∧ RowKit.Below w1.heap.size w1 wr) (fun _ _ _ i _ => n - (intOf i).toNat)
  case atStart => exact ⟨0, Nat.zero_le _, rfl, by simp, ⟨rfl, .inl ⟨rfl, rfl⟩⟩, ⟨rfl, .inl ⟨rfl, rfl⟩⟩, (fun g hg => by simp [Value.ownBlock] at hg), Below.refl _ _⟩
  case round =>
    obtain ⟨k, hk, rfl, rfl, hown8, hown9, hD, hbel⟩ := hrel
    have HBx2 := HBx1.keep hbel
    have x2 : wr.cell? ⟨w.heap.size, 2, none⟩ = some (.slice A n c) := HBx2.cell 2
    by_cases hlt : k < n
    · obtain ⟨b, off, x, y, hA, hbl, hc1, hc2, HX⟩ := hx1.get2 hlt
      subst hA
      have hd1 : wr.cell? ⟨b, off + k * 2, none⟩ = some (.int .i64 x) := (hbel.cell (p := ⟨b, off + k * 2, none⟩) hbl).trans hc1
      have hd2 : wr.cell? ⟨b, off + k * 2 + 1, none⟩ = some (.int .i64 y) := (hbel.cell (p := ⟨b, off + k * 2 + 1, none⟩) hbl).trans hc2
      have hkl : k < ls.length := by have := HL.out; omega
      have hpx : (pricesOf ls).getD k 0 = x := by rw [prices_get k hkl, HX.out]
      have hwy : (weightsOf ls).getD k 0 = y := by rw [weights_get k hkl, HX.out]
      have hbs := sum_take_bound (pricesOf ls) 1000000000000 HPI.out k (by rw [prices_len]; omega)
      have hb0 := HPI.out k
      have HSS := Lib.hid (sum_take_succ (pricesOf ls) k (by rw [prices_len]; exact hkl))
      have HT1 := Lib.hid (take_snoc_get (pricesOf ls) k (by rw [prices_len]; exact hkl))
      have HT2 := Lib.hid (take_snoc_get (weightsOf ls) k (by rw [weights_len]; exact hkl))
      rw [hpx] at hb0 HSS HT1
      rw [hwy] at HT2
      have hsz := hbel.size
      have i1 : (0 : Int) ≤ (k : Int) := by omega
      have i2 : (k : Int) < (n : Int) := by omega
      have hxw : w.heap.size < wr.heap.size := by omega
      have hbw : b < wr.heap.size := by omega
      have ne1 : u8.ownBlock ≠ some b := fun e => by have := own_base hown8 b e; omega
      have ne2 : u9.ownBlock ≠ some b := fun e => by have := own_base hown9 b e; omega
      have ne3 : u8.ownBlock ≠ some w.heap.size := fun e => by have := own_base hown8 _ e; omega
      have ne4 : u9.ownBlock ≠ some w.heap.size := fun e => by have := own_base hown9 _ e; omega
      have h64 : k + 1 ≤ maxLen ∧ (k + 1) * 8 ≤ 140737488355328 := ⟨by unfold maxLen; omega, by omega⟩
      generalize ((pricesOf ls).take k).sum = s at *
      generalize ((pricesOf ls).take k).map (Value.int .i64) = ps at *
      generalize ((weightsOf ls).take k).map (Value.int .i64) = qs at *
      have HO8 := Lib.hid hown8
      have HO9 := Lib.hid hown9
      have HD := Lib.hid hD
      clear hpx hwy hc1 hc2 hown8 hown9 hD
      go_wp2
      go_region_held3 (fun w' => w'.cell? ⟨w.heap.size, 2, none⟩ = some (.slice (some ⟨b, off, none⟩) n c) ∧ w'.cell? ⟨b, off + k * 2, none⟩ = some (.int .i64 x) ∧ w'.cell? ⟨b, off + k * 2 + 1, none⟩ = some (.int .i64 y))
        (first
          | go_keep
          | (go_split_ands
             refine ⟨?_, ?_, ?_⟩
             · (rw [hg5.cell_far _ (by simp; omega) (Ne.symm ne4)]; assumption)
             · (rw [hg5.cell_far _ (by simp; omega) (Ne.symm ne2)]; assumption)
             · (rw [hg5.cell_far _ (by simp; omega) (Ne.symm ne2)]; assumption))
          | (go_split_ands
             refine ⟨?_, ?_, ?_⟩
             · (rw [hg4.cell_far _ (by simp; omega) (Ne.symm ne3)]; assumption)
             · (rw [hg4.cell_far _ (by simp; omega) (Ne.symm ne1)]; assumption)
             · (rw [hg4.cell_far _ (by simp; omega) (Ne.symm ne1)]; assumption)))
        (first
          | (refine step_append_lies _ (by rfl) (.tmp 43) (.tmp 50) _ (by rfl) w1.heap.size 3 i0 _ 1 8 Try.underlying26 hi0 hz0 hz1 hz2 rfl (by omega) u8 k ps (by rfl) (own_alloc HO8.out _) ⟨wr.heap.size, 0, none⟩ 1 1 [.int .i64 x] (by rfl) (by rfl) (World.news_of_block (cs := #[.int .i64 x]) (t := 3) (fr := (0, 0)) (heap_alloc_new wr _)) (by simp [Value.oneCell']) (by omega) h64.1 h64.2 (by simp; omega) (wr.heap.size + 1) (by simp) ?_; intro g4 c4 w4 ho4 hg4 hat4 hlt4; have hs4 : wr.heap.size ≤ w4.heap.size := Nat.le_trans (by first | (simp; done) | (simp; omega)) hg4.size)
          | (refine step_append_lies _ (by rfl) (.tmp 43) (.tmp 50) _ (by rfl) w1.heap.size 3 i0 _ 1 8 Try.underlying26 hi0 hz0 hz1 hz2 rfl (by omega) u8 k ps (by rfl) (own_alloc (own_alloc HO8.out _) _) ⟨wr.heap.size, 0, none⟩ 1 1 [.int .i64 x] (by rfl) (by rfl) (World.news_of_block (cs := #[.int .i64 x]) (t := 3) (fr := (0, 0)) ((Bl.new wr 3 #[.int .i64 x]).alloc _)) (by simp [Value.oneCell']) (by omega) h64.1 h64.2 (by simp; omega) (wr.heap.size + 2) (by simp) ?_; intro g4 c4 w4 ho4 hg4 hat4 hlt4; have hs4 : wr.heap.size ≤ w4.heap.size := Nat.le_trans (by first | (simp; done) | (simp; omega)) hg4.size)
          | (refine step_append_lies _ (by rfl) (.tmp 43) (.tmp 50) _ (by rfl) w1.heap.size 3 i0 _ 1 8 Try.underlying26 hi0 hz0 hz1 hz2 rfl (by omega) u8 k ps (by rfl) (own_alloc (own_alloc HO8.out _) _) ⟨wr.heap.size + 1, 0, none⟩ 1 1 [.int .i64 x] (by rfl) (by rfl) (World.news_of_block (cs := #[.int .i64 x]) (t := 3) (fr := (0, 0)) (Bl.new1 wr _ 3 #[.int .i64 x])) (by simp [Value.oneCell']) (by omega) h64.1 h64.2 (by simp; omega) (wr.heap.size + 2) (by simp) ?_; intro g4 c4 w4 ho4 hg4 hat4 hlt4; have hs4 : wr.heap.size ≤ w4.heap.size := Nat.le_trans (by first | (simp; done) | (simp; omega)) hg4.size)
          | (refine step_append_lies _ (by rfl) (.tmp 52) (.tmp 59) _ (by rfl) w1.heap.size 3 i0 _ 1 8 Try.underlying26 hi0 hz0 hz1 hz2 rfl (by omega) u9 k qs (by rfl) (own_thru HO9.out HD.out ((Below.refl _ _).alloc (Nat.le_refl _) _).drew hg4 ((Below.refl _ _).alloc (Nat.le_refl _) _)) ⟨w4.heap.size, 0, none⟩ 1 1 [.int .i64 y] (by rfl) (by rfl) (World.news_of_block (cs := #[.int .i64 y]) (t := 3) (fr := (0, 0)) (heap_alloc_new w4 _)) (by simp [Value.oneCell']) (by omega) h64.1 h64.2 (by simp; omega) (w4.heap.size + 1) (by simp) ?_; intro g5 c5 w5 ho5 hg5 hat5 hlt5)
          | (refine step_append_lies _ (by rfl) (.tmp 52) (.tmp 59) _ (by rfl) w1.heap.size 3 i0 _ 1 8 Try.underlying26 hi0 hz0 hz1 hz2 rfl (by omega) u9 k qs (by rfl) (own_thru HO9.out HD.out (((Below.refl _ _).alloc (Nat.le_refl _) _).alloc (by simp) _).drew hg4 (Below.refl _ _)) ⟨wr.heap.size + 1, 0, none⟩ 1 1 [.int .i64 y] (by rfl) (by rfl) (World.news_of_block (cs := #[.int .i64 y]) (t := 3) (fr := (0, 0)) (news_thru HO8.out (Bl.new1 wr _ 3 #[.int .i64 y]).drew (Nat.le_succ _) hg4)) (by simp [Value.oneCell']) (by omega) h64.1 h64.2 (by omega) w4.heap.size rfl ?_; intro g5 c5 w5 ho5 hg5 hat5 hlt5)
          | (refine step_append_lies _ (by rfl) (.tmp 52) (.tmp 59) _ (by rfl) w1.heap.size 3 i0 _ 1 8 Try.underlying26 hi0 hz0 hz1 hz2 rfl (by omega) u9 k qs (by rfl) (own_thru HO9.out HD.out (((Below.refl _ _).alloc (Nat.le_refl _) _).alloc (by simp) _).drew hg4 (Below.refl _ _)) ⟨wr.heap.size, 0, none⟩ 1 1 [.int .i64 y] (by rfl) (by rfl) (World.news_of_block (cs := #[.int .i64 y]) (t := 3) (fr := (0, 0)) (news_thru HO8.out ((Bl.new wr 3 #[.int .i64 y]).alloc _).drew (Nat.le_refl _) hg4)) (by simp [Value.oneCell']) (by omega) h64.1 h64.2 (by omega) w4.heap.size rfl ?_; intro g5 c5 w5 ho5 hg5 hat5 hlt5))
      all_goals
        obtain ⟨r1, r2, r3⟩ : w5.ownsRow w1.heap.size 3 1 (.slice (some ⟨g4, 0, none⟩) (k + 1) c4) (k + 1) (ps ++ [.int .i64 x]) ∧ Apart (.slice (some ⟨g4, 0, none⟩) (k + 1) c4) (.slice (some ⟨g5, 0, none⟩) (k + 1) c5) ∧ RowKit.Below w1.heap.size wr w5 := by
          first
          | exact two_rows HO8.out HO9.out HD.out hsz ((Below.refl _ _).alloc (Nat.le_refl _) _).drew hg4 ((Below.refl _ _).alloc (Nat.le_refl _) _) hg5 ho4 hat4 (by omega) hlt4 hat5 (by omega)
          | exact two_rows HO8.out HO9.out HD.out hsz (((Below.refl _ _).alloc (Nat.le_refl _) _).alloc (by simp) _).drew hg4 (Below.refl _ _) hg5 ho4 hat4 (by omega) hlt4 hat5 (by omega)
        have hbel5 := hbel.trans r3
        clear hg4 hg5 ho4 r3 hat4 hat5
        go_wp2
        go_roundw
        case rel => exact ⟨k + 1, by omega, by go_num, by rw [HSS.out], by rw [HT1.out]; exact r1, by rw [HT2.out]; exact ho5, r2, hbel5⟩
        case measure => simp [intOf]; omega
    · obtain rfl : k = n := by omega
      rw [List.take_of_length_le (by rw [prices_len]; have := HL.out; omega)] at hown8 ⊢
      rw [List.take_of_length_le (by rw [weights_len]; have := HL.out; omega)] at hown9
      obtain ⟨A8, c8, hv8⟩ := own_slice hown8
      obtain ⟨A9, c9, hv9⟩ := own_slice hown9
      rw [hv8] at hown8 ⊢
      rw [hv9] at hown9 ⊢
      have hIp : Ints wr A8 k (pricesOf ls) := IntsK.of_own hown8
      have hIw : Ints wr A9 k (weightsOf ls) := IntsK.of_own hown9
      have hB2 := hB1.trans (hbel.mono hB1.size)
      have hy2 := hx2.below hbel
      have hyT := hxT.below hbel
      have hgl : w1.heap.size ≤ wr.heap.size := hbel.size
      have hS := sum_take_bound (pricesOf ls) 1000000000000 HPI.out (pricesOf ls).length (Nat.le_refl _)
      rw [List.take_length, prices_len, HL.out] at hS
      obtain ⟨S, hSe⟩ : ∃ S, (pricesOf ls).sum = S := ⟨_, rfl⟩
      rw [hSe] at hS ⊢
      have HSE := Lib.hid hSe
      have z0 : wr.cell? ⟨w.heap.size, 0, none⟩ = some (.string cu) := HBx2.cell 0
      have z1 : wr.cell? ⟨w.heap.size, 1, none⟩ = some (.int .i64 day) := HBx2.cell 1
      clear hown8 hown9 hD hv8 hv9 hx1 hx2 hxT hlt hSe hbel hB1
      by_cases g1 : 1000000000000 < S
      · have d1 : decide (1000000000000 < S) = true := by simpa using g1
        have E := Lib.hid (val_over (t := ts) (cur := cu.toList) HIV.out (by rw [HSE.out]; exact g1))
        go_wp2
        go_ret2
        exact slres_err E.out hB2
      have d1 : decide (1000000000000 < S) = false := by simpa using g1
      have HCV := Lib.hid (rconvert_any T tn tc ts S cu day wr hyT htn HZ.out hS.1 (by omega))
      have HVC := Lib.hid (val_conv (t := ts) (cur := cu.toList) HIV.out (by rw [HSE.out]; exact g1))
      rw [HSE.out] at HVC
      have hcb := convOut_bounds (xs := ts) (amt := S) (c := cu.toList) (day := day) hS.1
      by_cases g2 : convErr ts S cu.toList day = 0
      case neg =>
        have E := Lib.hid (HVC.out g2)
        have b2 : (convErr ts S cu.toList day != 0) = true := by simpa using g2
        generalize convErr ts S cu.toList day = er at *
        generalize convOut ts S cu.toList day = tot at *
        clear g2
        go_wp2_with fail
        refine HCV.out.mono ?_
        rintro e w2 ⟨rfl, hb2⟩
        go_wp2
        go_ret2
        exact slres_err E.out (hB2.trans (hb2.mono hB2.size))
      rw [g2] at HCV
      have HVE : Hid (∀ k, k < cs.length → (∀ i, i < k → chgErr ts day cs i = 0) → chgErr ts day cs k ≠ 0 → valErr ts cu.toList day ls cs = chgErr ts day cs k ∧ valOut ts cu.toList day ls cs = []) := fun k hk h4 h5 => val_chg HIV.out (by rw [HSE.out]; exact g1) (by rw [HSE.out]; exact g2) k hk h4 h5
      have HVF : Hid ((∀ i, i < cs.length → chgErr ts day cs i = 0) → valErr ts cu.toList day ls cs = endErr ls.length (valTo ts cu.toList day ls cs cs.length)) := fun h4 => val_end HIV.out (by rw [HSE.out]; exact g1) (by rw [HSE.out]; exact g2) h4
      have HV0 : Hid (∀ j, valTo ts cu.toList day ls cs 0 j = shareI (convOut ts S cu.toList day) (pricesOf ls) j) := fun j => by unfold valTo; rw [sumN_zero, HSE.out]; omega
      clear g2
      obtain ⟨tot, hto⟩ : ∃ tot, convOut ts S cu.toList day = tot := ⟨_, rfl⟩
      rw [hto] at HCV hcb HV0
      clear hto HVC
      have hck := chk_ok (t := tot) (ws := pricesOf ls) hcb.1 hcb.2 (by rw [prices_len]; have := HL.out; omega) (by rw [prices_len]; have := HL.out; omega) HPI.out
      have HSO : Hid (shareOut tot (pricesOf ls) = (List.range k).map (valTo ts cu.toList day ls cs 0)) := by
        show _ = _
        unfold shareOut shareL
        rw [if_pos hck, prices_len, HL.out]
        exact List.map_congr_left fun j _ => (HV0.out j).symm
      have HCK := Lib.hid hck
      clear hck
      go_wp2_with fail
      refine HCV.out.mono ?_
      rintro e w2 ⟨rfl, hb2⟩
      have HSH := Lib.hid (rshare_any tot A8 k c8 (pricesOf ls) w2 (hIp.below hb2) (by omega))
      rw [HCK.out, HSO.out] at HSH
      have HBx3 := HBx2.keep hb2
      have hB3 := hB2.trans (hb2.mono hB2.size)
      have hv2 := hy2.below hb2
      have hvT := hyT.below hb2
      have hIp3 := hIp.below hb2
      have hIw3 := hIw.below hb2
      have hgw2 : w.heap.size < w2.heap.size := HBx3.lt
      go_wp2_with fail
      refine HSH.out.mono ?_
      rintro e w3 ⟨A3, n3, c3, rfl, ho3, hb3⟩
      have hn3 := own_len ho3
      rw [List.length_map, List.length_range] at hn3
      subst hn3
      obtain ⟨g, ds0, hA3, hgb, HB3, hcs3, hcm3, HR3⟩ := own_prow ho3 hn0
      subst hA3
      have HR3' := Lib.hid (HR3.congr (g := valTo ts cu.toList day ls cs 0) (fun j hj => by simp [List.getD, hj]))
      clear hb2 HBx1 HBx2 hB2 hy2 hyT hIp hIw HCV HSH z0 z1 ho3 HCK HR3 x2
      go_wp2
      go_loopw [15] (fun i wr => ∃ (r : Nat) (ds : Array Value), r ≤ m ∧ i = .int .i64 r ∧ Bl wr g 3 ds ∧ ds.size = c3 ∧ PRow ds k (valTo ts cu.toList day ls cs r) ∧ Hid (∀ i, i < r → chgErr ts day cs i = 0) ∧ RowKit.Below w2.heap.size w2 wr) (fun i _ => m - (intOf i).toNat)
      case atStart => exact ⟨0, ds0, Nat.zero_le _, rfl, HB3, hcs3, HR3'.out, fun i hi => absurd hi (by omega), hb3⟩
      case round =>
        clear HB3 hb3 HR3' hcs3
        obtain ⟨r, ds, hr, rfl, HB, hds, HR, HE, hbi⟩ := hrel
        have HDS := Lib.hid hds
        clear hds
        have hBd := hB3.trans (hbi.mono hB3.size)
        have HBx4 := HBx3.keep hbi
        have y1 : wr.cell? ⟨w.heap.size, 1, none⟩ = some (.int .i64 day) := HBx4.cell 1
        have y3 : wr.cell? ⟨w.heap.size, 3, none⟩ = some (.slice B m d) := HBx4.cell 3
        have hxw : w.heap.size < wr.heap.size := HBx4.lt
        by_cases hlt2 : r < m
        · have hrc : r < cs.length := by have := HM.out; omega
          obtain ⟨b, off, kk, aa, cc, ss, ll, hA, hbl, hc1, hc2, hc3, hc4, hc5, HX⟩ := (hv2.below hbi).getC hlt2
          subst hA
          have hok := HCO.out r hrc
          rw [HX.out, HL.out] at hok
          have HOK := Lib.hid hok
          unfold chgOk at hok
          dsimp only at hok
          have hnx : w.heap.size ≠ wr.heap.size := by omega
          have hgw : g < wr.heap.size := HB.lt
          have HBn := Bl.new wr 33 #[.int .i64 kk, .int .i64 aa, .string cc, .int .i64 ss, .int .i64 ll]
          have hal : RowKit.Below wr.heap.size wr (wr.alloc (.cells #[.int .i64 kk, .int .i64 aa, .string cc, .int .i64 ss, .int .i64 ll] 33)) := (Below.refl _ _).alloc (Nat.le_refl _) _
          have hbi5 := hbi.trans (hal.mono hbi.size)
          by_cases g9 : kk = 9
          · have b9 : (kk == 9) = true := by simpa using g9
            have HE' : Hid (∀ i, i < r + 1 → chgErr ts day cs i = 0) := fun i hi => by
              by_cases e : i = r
              · subst e; unfold chgErr; rw [HX.out, if_pos g9]
              · exact HE.out i (by omega)
            have HRN := Lib.hid (HR.congr (fun j _ => nine_step HX.out g9 j))
            clear g9
            go_wp2
            go_roundw
            case rel => exact ⟨r + 1, ds, by omega, by go_num, HB.alloc _, HDS.out, HRN.out, HE'.out, hbi5⟩
            case measure => simp [intOf]; omega
          have b9 : (kk == 9) = false := by simpa using g9
          have HCE : Hid (chgErr ts day cs r = convErr ts aa cc.toList day) := by show _ = _; unfold chgErr; rw [HX.out, if_neg g9]
          have HCV := Lib.hid (rconvert_any T tn tc ts aa cc day _ (hvT.below hbi5) htn HZ.out (by omega) (by omega))
          have hcb2 := convOut_bounds (xs := ts) (amt := aa) (c := cc.toList) (day := day) (by omega)
          have HRN : Hid (∀ j, j < k → bookV kk (valTo ts cu.toList day ls cs r) (partsOf ls ⟨kk, aa, cc, ss, ll⟩ (convOut ts aa cc.toList day)) j = valTo ts cu.toList day ls cs (r + 1) j) := fun j hj => book_step HX.out g9 (by rw [HL.out]; exact hj)
          clear g9
          go_wp2_with fail
          refine HCV.out.mono ?_
          rintro e w5 ⟨rfl, hb5⟩
          have hB5 := hBd.trans ((hal.trans (hb5.mono hal.size)).mono hBd.size)
          by_cases g2 : convErr ts aa cc.toList day = 0
          case neg =>
            have E := Lib.hid (HVE.out r hrc HE.out (by rw [HCE.out]; exact g2))
            rw [HCE.out] at E
            have b2 : (convErr ts aa cc.toList day != 0) = true := by simpa using g2
            clear HCV HCE g2
            generalize convErr ts aa cc.toList day = er at *
            go_wp2
            go_ret2
            exact slres_err E.out hB5
          have HE' : Hid (∀ i, i < r + 1 → chgErr ts day cs i = 0) := fun i hi => by
            by_cases e : i = r
            · subst e; rw [HCE.out]; exact g2
            · exact HE.out i (by omega)
          rw [g2]
          clear g2 HCE HE HCV
          generalize convOut ts aa cc.toList day = amt at *
          have hal5 := hal.trans (hb5.mono hal.size)
          have hbi6 := hbi.trans (hal5.mono hbi.size)
          have HBn5 := HBn.keep hb5
          have HBg5 := HB.keep hal5
          have q0 : w5.cell? ⟨wr.heap.size, 0, none⟩ = some (.int .i64 kk) := HBn5.cell 0
          have q3 : w5.cell? ⟨wr.heap.size, 3, none⟩ = some (.int .i64 ss) := HBn5.cell 3
          have q4 : w5.cell? ⟨wr.heap.size, 4, none⟩ = some (.int .i64 ll) := HBn5.cell 4
          have hw5 : wr.heap.size < w5.heap.size := HBn5.lt
          have hnw : wr.heap.size ≠ w5.heap.size := by omega
          have HP1 := Lib.hid (parts_prices (c := ⟨kk, aa, cc, ss, ll⟩) HLO.out (by rw [HL.out]; exact hn0) (by rw [HL.out]; exact hn1) hcb2.1 hcb2.2)
          have HP2 := Lib.hid (parts_weights (c := ⟨kk, aa, cc, ss, ll⟩) HLO.out (by rw [HL.out]; exact hn0) (by rw [HL.out]; exact hn1) hcb2.1 hcb2.2)
          have HP3 := Lib.hid (parts_line (ls := ls) (c := ⟨kk, aa, cc, ss, ll⟩) (amt := amt))
          have hmk1 := HMK.out
          clear hc1 hc2 hc3 hc4 hc5 hb5 hal HBn
          go_upto_block 4 with (fail)
          go_cut [19] (fun pv wx => ∃ (A6 : Option Addr) (c6 : Nat), pv = .slice A6 k c6 ∧ Ints wx A6 k (partsOf ls ⟨kk, aa, cc, ss, ll⟩ amt) ∧ Hid (∀ b off, A6 = some ⟨b, off, none⟩ → w5.heap.size ≤ b) ∧ RowKit.Below w5.heap.size w5 wx)
          case first =>
            have hal7 : RowKit.Below w5.heap.size w5 (w5.alloc (.cells C1 3)) := (Below.refl _ _).alloc (Nat.le_refl _) _
            have hbi7 := hbi6.trans (hal7.mono hbi6.size)
            by_cases g1 : ss = 1
            · obtain ⟨e1, e2⟩ := HP1.out g1
              have HS := Lib.hid (rshare_any amt A8 k c8 (pricesOf ls) _ (hIp3.below hbi7) (by omega))
              rw [e1, e2] at HS
              have b1 : (ss == 1) = true := by simpa using g1
              clear g1 e1 e2
              go_wp2_with fail
              refine HS.out.mono ?_
              rintro e w6 ⟨A6, n6, c6, rfl, ho6, hb6⟩
              have hn6 := own_len ho6
              rw [partsOf_len, HL.out] at hn6
              subst hn6
              go_wp2_with fail
              go_meet
              exact ⟨A6, c6, rfl, IntsK.of_own ho6, (fun b off e => by have := own_base ho6 b (by rw [e]; rfl); simp at this; omega), hal7.trans (hb6.mono hal7.size)⟩
            have b1 : (ss == 1) = false := by simpa using g1
            by_cases g2 : ss = 2
            · obtain ⟨e1, e2⟩ := HP2.out g2
              have HS := Lib.hid (rshare_any amt A9 k c9 (weightsOf ls) _ (hIw3.below hbi7) (by omega))
              rw [e1, e2] at HS
              have b2 : (ss == 2) = true := by simpa using g2
              clear g2 e1 e2
              go_wp2_with fail
              refine HS.out.mono ?_
              rintro e w6 ⟨A6, n6, c6, rfl, ho6, hb6⟩
              have hn6 := own_len ho6
              rw [partsOf_len, HL.out] at hn6
              subst hn6
              go_wp2_with fail
              go_meet
              exact ⟨A6, c6, rfl, IntsK.of_own ho6, (fun b off e => by have := own_base ho6 b (by rw [e]; rfl); simp at this; omega), hal7.trans (hb6.mono hal7.size)⟩
            have b2 : (ss == 2) = false := by simpa using g2
            have e3 := HP3.out g1 g2
            rw [HL.out] at e3
            have hl0 : 0 ≤ ll := by omega
            have hl1 : ll < (k : Int) := by omega
            obtain ⟨j, rfl⟩ : ∃ j : Nat, ll = j := ⟨ll.toNat, by omega⟩
            have hjk : j < k := by omega
            have HRw : Hid (IntRow (C1.setIfInBounds j (.int .i64 amt)) k (fun i => if (i : Int) = (j : Int) then amt else 0)) := (IntRow.zeros HC1.out).set j amt (fun i hi => by
              by_cases e : i = j
              · subst e; rw [if_pos rfl, if_pos rfl]
              · rw [if_neg (by omega), if_neg e])
            have k0 : C1[j]? = some (.int .i64 0) := (IntRow.zeros HC1.out).2 j (by omega)
            have E3 := Lib.hid e3
            clear e3
            go_wp2_with fail
            go_meet
            have how := HRw.out.own (Bl.new w5 3 _) (Nat.le_refl _) (by omega)
            rw [← E3.out] at how
            exact ⟨_, _, rfl, IntsK.of_own how, (fun b off e => by injection e with e; injection e with e; omega), (Below.refl _ _).alloc (Nat.le_refl _) _⟩
          case rest =>
            obtain ⟨A6, c6, rfl, hI6, HA6, hb6⟩ := hcut
            have HBn6 := HBn5.keep hb6
            have HBg6 := HBg5.keep hb6
            have hgne : g ≠ wr.heap.size := by omega
            have HF := Lib.hid (fun j (hj : j < k) => valTo_bounds (t := ts) (cur := cu.toList) (day := day) HLO.out (by rw [HL.out]; exact hn0) HCO.out (by rw [HSE.out]; exact hS.1) r (by have := HM.out; omega) j (by rw [HL.out]; exact hj))
            have HP : Hid (∀ j, j < k → 0 ≤ (partsOf ls ⟨kk, aa, cc, ss, ll⟩ amt).getD j 0 ∧ (partsOf ls ⟨kk, aa, cc, ss, ll⟩ amt).getD j 0 ≤ 1000000000000) := fun j hj => by
              rw [partsOf_get _ _ _ _ (by rw [HL.out]; exact hj)]
              have h1 := partV_bounds HLO.out (by rw [HL.out]; exact hn0) ⟨kk, aa, cc, ss, ll⟩ amt hcb2.1 j (by rw [HL.out]; exact hj)
              omega
            have hbi8 := hbi6.trans (hb6.mono hbi6.size)
            have hrm : r ≤ 50 := by omega
            clear HP1 HP2 HP3 q0 q3 q4 HBg5 HBn5 hmk1
            generalize partsOf ls ⟨kk, aa, cc, ss, ll⟩ amt = parts at *
            obtain ⟨wo, hwo⟩ : ∃ wo : World, wo = wr := ⟨_, rfl⟩
            obtain ⟨gb, hgb0⟩ : ∃ gb, wr.heap.size = gb := ⟨_, rfl⟩
            rw [hgb0] at HBn6 hgne ⊢
            clear hwo hgb0
            have hg5 : g < w5.heap.size := by omega
            go_wp2
            go_loopw [20] (fun i wi => ∃ (q : Nat) (es : Array Value), q ≤ k ∧ i = .int .i64 q ∧ Only g wc wi ∧ Bl wi g 3 es ∧ Hid (es.size = c3) ∧ PRow es k (fun j => if j < q then bookV kk (valTo ts cu.toList day ls cs r) parts j else valTo ts cu.toList day ls cs r j)) (fun i _ => k - (intOf i).toNat)
            case atStart => exact ⟨0, ds, Nat.zero_le _, rfl, Only.refl _ _, HBg6, HDS.out, HR.congr (fun j _ => by simp)⟩
            case round =>
              clear HBg6 HDS HR
              obtain ⟨q, es, hq, rfl, hO, HBe, HES, HRe⟩ := hrel
              have HBb := hO.bl HBn6 hgne.symm
              have p0 : wr.cell? ⟨gb, 0, none⟩ = some (.int .i64 kk) := HBb.cell 0
              by_cases hlt3 : q < k
              · obtain ⟨b6, off6, x, hA6, hbl6, hc6, HX6⟩ := hI6.get hlt3
                have hne6 : b6 ≠ g := by have := HA6.out b6 off6 hA6; omega
                subst hA6
                have p1 : wr.cell? ⟨b6, off6 + q, none⟩ = some (.int .i64 x) := (World.cell?_of_block (hO.block b6 hne6)).trans hc6
                have p2 := HRe.cell HBe hlt3
                rw [if_neg (by omega)] at p2
                have f2 : wr.frozen? ⟨g, q, none⟩ = false := HBe.free q
                have hf1 := HF.out q hlt3
                have hx1 := HP.out q hlt3
                rw [HX6.out] at hx1
                have HRA : Hid (∀ v, (if kk ≤ 5 then valTo ts cu.toList day ls cs r q + x else valTo ts cu.toList day ls cs r q - x) = v → PRow (es.setIfInBounds q (.int .i64 v)) k (fun j => if j < q + 1 then bookV kk (valTo ts cu.toList day ls cs r) parts j else valTo ts cu.toList day ls cs r j)) := fun v hv => HRe.set q v hlt3 (fun j hj => by
                  by_cases e : j = q
                  · subst e; rw [if_pos (by omega), if_pos rfl, ← hv, ← HX6.out]; rfl
                  · rw [if_neg e]; by_cases e2 : j < q
                    · rw [if_pos e2, if_pos (by omega)]
                    · rw [if_neg e2, if_neg (by omega)])
                have p3 : wr.cell? ⟨g, q, none⟩ = some (.int .i64 (valTo ts cu.toList day ls cs r q)) := p2
                clear p2
                generalize valTo ts cu.toList day ls cs r q = fr at *
                have hfr : -100000000000000 ≤ fr ∧ fr ≤ 100000000000000 := by omega
                have i1 : (0 : Int) ≤ (q : Int) := by omega
                have i2 : (q : Int) < (k : Int) := by omega
                clear hc6 hf1
                have HSZ : Hid (∀ v : Value, (es.setIfInBounds q v).size = c3) := fun v => by rw [Array.size_setIfInBounds]; exact HES.out
                have hsz5 : k + 1 ≤ maxLen := by unfold maxLen; omega
                by_cases g5 : kk ≤ 5
                · have d5 : decide (kk ≤ 5) = true := by simpa using g5
                  have HRB := Lib.hid (HRA.out (fr + x) (if_pos g5))
                  have u1 : IntKind.i64.wrap (fr + x) = fr + x := IntWalk.i64_in _ (by omega)
                  clear HRA
                  go_wp2
                  go_region
                  go_wp2
                  go_roundw
                  case rel => exact ⟨q + 1, _, by omega, by go_num, (hO.setCell q _).drewN 1, HBe.put _ _, HSZ.out _, HRB.out⟩
                  case measure => simp [intOf]; omega
                · have d5 : decide (kk ≤ 5) = false := by simpa using g5
                  have HRB := Lib.hid (HRA.out (fr - x) (if_neg g5))
                  have u1 : IntKind.i64.wrap (fr - x) = fr - x := IntWalk.i64_in _ (by omega)
                  clear HRA
                  go_wp2
                  go_region
                  go_wp2
                  go_roundw
                  case rel => exact ⟨q + 1, _, by omega, by go_num, (hO.setCell q _).drewN 1, HBe.put _ _, HSZ.out _, HRB.out⟩
                  case measure => simp [intOf]; omega
              · have HRF := Lib.hid (HRe.congr (g := valTo ts cu.toList day ls cs (r + 1)) (fun j hj => by rw [if_pos (by omega)]; exact HRN.out j hj))
                have hbi9 := hbi8.trans (hO.below hgb)
                clear HRe
                go_wp2
                go_roundw
                case rel => exact ⟨r + 1, es, by omega, by go_num, HBe, HES.out, HRF.out, HE'.out, hbi9⟩
                case measure => simp [intOf]; omega
        · obtain rfl : r = m := by omega
          have HF := Lib.hid (HVF.out (fun i hi => HE.out i (by have := HM.out; omega)))
          rw [HL.out, HM.out] at HF
          have how := HR.own HB hgb HDS.out hcm3
          have hIv := IntsK.of_own how
          have HOW := Lib.hid how
          have HGV : Hid (∀ j, j < k → ((List.range k).map (valTo ts cu.toList day ls cs r)).getD j 0 = valTo ts cu.toList day ls cs r j) := fun j hj => by simp [List.getD, hj]
          clear how HR HB HE HVE HVF
          go_wp2
          go_loop [21] (fun i => ∃ q : Nat, q ≤ k ∧ i = .int .i64 q ∧ Hid (∀ j, j < q → 0 ≤ valTo ts cu.toList day ls cs r j)) (fun i => k - (intOf i).toNat)
          case atStart => exact ⟨0, Nat.zero_le _, rfl, fun j hj => absurd hj (by omega)⟩
          case round =>
            obtain ⟨q, hq, rfl, HA⟩ := hrel
            by_cases hlt3 : q < k
            · obtain ⟨b6, off6, x, hA6, hbl6, hc6, HX6⟩ := hIv.get hlt3
              rw [HGV.out q hlt3] at HX6
              simp only [Option.some.injEq, Addr.mk.injEq, and_true] at hA6
              obtain ⟨rfl, rfl⟩ := hA6
              rw [Nat.zero_add] at hc6
              by_cases g1 : x < 0
              · have d1 : decide (x < 0) = true := by simpa using g1
                have e1 := endErr_neg (n := k) (v := valTo ts cu.toList day ls cs r) q hlt3 (by rw [HX6.out]; exact g1)
                rw [e1] at HF
                have E := Lib.hid (val_no HF.out (by omega))
                clear e1
                go_wp2
                go_ret2
                exact slres_err E.out hBd
              have d1 : decide (x < 0) = false := by simpa using g1
              have HA' : Hid (∀ j, j < q + 1 → 0 ≤ valTo ts cu.toList day ls cs r j) := fun j hj => by
                by_cases e : j = q
                · subst e; rw [HX6.out]; omega
                · exact HA.out j (by omega)
              go_wp2
              go_round
              case rel => exact ⟨q + 1, by omega, by go_num, HA'.out⟩
              case measure => simp [intOf]; omega
            · have HN : Hid (∀ j, j < k → 0 ≤ valTo ts cu.toList day ls cs r j) := fun j hj => HA.out j (by omega)
              clear HA
              go_wp2
              go_loop [22] (fun i => ∃ q : Nat, q ≤ k ∧ i = .int .i64 q ∧ Hid (∀ j, j < q → valTo ts cu.toList day ls cs r j ≤ 1000000000000)) (fun i => k - (intOf i).toNat)
              case atStart => exact ⟨0, Nat.zero_le _, rfl, fun j hj => absurd hj (by omega)⟩
              case round =>
                obtain ⟨q, hq, rfl, HA⟩ := hrel
                by_cases hlt3 : q < k
                · obtain ⟨b6, off6, x, hA6, hbl6, hc6, HX6⟩ := hIv.get hlt3
                  rw [HGV.out q hlt3] at HX6
                  simp only [Option.some.injEq, Addr.mk.injEq, and_true] at hA6
                  obtain ⟨rfl, rfl⟩ := hA6
                  rw [Nat.zero_add] at hc6
                  by_cases g1 : 1000000000000 < x
                  · have d1 : decide (1000000000000 < x) = true := by simpa using g1
                    have e1 := endErr_over (n := k) (v := valTo ts cu.toList day ls cs r) HN.out q hlt3 (by rw [HX6.out]; exact g1)
                    rw [e1] at HF
                    have E := Lib.hid (val_no HF.out (by omega))
                    clear e1
                    go_wp2
                    go_ret2
                    exact slres_err E.out hBd
                  have d1 : decide (1000000000000 < x) = false := by simpa using g1
                  have HA' : Hid (∀ j, j < q + 1 → valTo ts cu.toList day ls cs r j ≤ 1000000000000) := fun j hj => by
                    by_cases e : j = q
                    · subst e; rw [HX6.out]; omega
                    · exact HA.out j (by omega)
                  go_wp2
                  go_round
                  case rel => exact ⟨q + 1, by omega, by go_num, HA'.out⟩
                  case measure => simp [intOf]; omega
                · have e1 := endErr_ok (n := k) (v := valTo ts cu.toList day ls cs r) (fun j hj => ⟨HN.out j hj, HA.out j (by omega)⟩)
                  rw [e1] at HF
                  have HVO : Hid (valOut ts cu.toList day ls cs = (List.range k).map (valTo ts cu.toList day ls cs r)) := by show _ = _; unfold valOut; rw [if_pos HF.out, HL.out, HM.out]
                  clear e1
                  go_wp2
                  go_ret2
                  rw [HF.out, HVO.out]
                  exact ⟨_, _, _, rfl, own_mono HOW.out (by omega), hBd⟩
end Go.Proofs.Ytknbbamlpadfdaa

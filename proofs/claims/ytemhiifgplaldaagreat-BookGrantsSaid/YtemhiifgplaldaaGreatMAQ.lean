/-
  Contract of the reference's Allocate (customsref21): a grant for each request and what is left, or an error. No statement of the seat is proved here. Conditions: the list's length fits an int.
  The contract of the reference's Days. No statement of the seat is proved here. Conditions: as typed.
-/
import Derived.Test.YtemhiifgplaldaaGreatMAP
import Derived.Test.YtemhiifgplaldaaGreatMAG
import Derived.Deep.RegionHeld3
import Derived.Deep.AppendLies
import Derived.Test.YtemhiifgplaldaaGreatMAK
import Derived.Test.YtemhiifgplaldaaGreatMAO
namespace Go.Proofs.YtemhiifgplaldaaGreat
open Go.RowKit
set_option linter.unusedVariables false

theorem grant_get (t : Int) (xs : List (Int × Int)) (i : Nat) (h : i < xs.length) : (grantsOf t xs)[i]! = (xs[i]!.1, grantV t xs i) := by
  rw [getElem!_pos _ i (by rw [grantsOf_len]; exact h)]
  simp [grantsOf]

theorem qs_grants (t : Int) (xs : List (Int × Int)) : qsOf (grantsOf t xs) = if (qsOf xs).sum ≤ t then qsOf xs else shareL t (qsOf xs) := by
  have h1 : qsOf (grantsOf t xs) = (List.range xs.length).map (grantV t xs) := by simp [qsOf, grantsOf]
  rw [h1]
  by_cases h : (qsOf xs).sum ≤ t
  · rw [if_pos h]
    conv => rhs; rw [← range_getD (qsOf xs) xs.length (qsOf_len xs)]
    refine List.map_congr_left fun i hi => ?_
    rw [qsOf_get xs i (List.mem_range.1 hi)]
    unfold grantV
    rw [if_pos h]
  · rw [if_neg h]
    unfold shareL
    rw [qsOf_len]
    refine List.map_congr_left fun i hi => ?_
    unfold grantV
    rw [if_neg h]

theorem qs_in {xs : List (Int × Int)} (h : okAll xs) (i : Nat) : 0 ≤ (qsOf xs).getD i 0 ∧ (qsOf xs).getD i 0 ≤ 1000000000 := by
  by_cases hi : i < xs.length
  · rw [qsOf_get xs i hi]; exact ⟨(h i hi).2.2.1, (h i hi).2.2.2⟩
  · simp [List.getD, List.getElem?_eq_none (show (qsOf xs).length ≤ i by rw [qsOf_len]; omega)]

/-- What valid requests are granted. -/
theorem grant_facts (t : Int) (xs : List (Int × Int)) (ht0 : 0 ≤ t) (ht1 : t ≤ 1000000000000) (hl : xs.length ≤ 200) (ha : okAll xs) :
    (∀ i, i < xs.length → 0 ≤ grantV t xs i ∧ grantV t xs i ≤ xs[i]!.2) ∧ (qsOf (grantsOf t xs)).sum = min t (qsOf xs).sum := by
  have hA : AllIn (qsOf xs) := fun i => by have := qs_in ha i; omega
  obtain ⟨f1, f2, f3, f4⟩ := cap_facts t (qsOf xs) ht0 ht1 (by rw [qsOf_len]; omega) hA
  have hO : ∀ _ : ¬ xs.length = 0, capOut t (qsOf xs) = if (qsOf xs).sum ≤ t then qsOf xs else shareL t (qsOf xs) := fun h0 => by
    unfold capOut
    rw [if_pos (chk_ok ht0 ht1 (by rw [qsOf_len]; omega) (by rw [qsOf_len]; omega) hA)]
  by_cases h0 : xs.length = 0
  · have e : xs = [] := List.eq_nil_of_length_eq_zero h0
    subst e
    refine ⟨fun i hi => by simp at hi, ?_⟩
    rw [qs_grants, if_pos (by simpa [qsOf] using ht0)]
    simp [qsOf]
    omega
  · have hO := hO h0
    have hq := qs_grants t xs
    rw [← hO] at hq
    refine ⟨fun i hi => ?_, by rw [hq, f4]⟩
    have h1 := f3 i (by rw [qsOf_len]; exact hi)
    rw [← hq, qsOf_get _ i (by rw [grantsOf_len]; exact hi), grant_get t xs i hi, qsOf_get xs i hi] at h1
    exact h1
theorem take_snoc_get (xs : List Int) (k : Nat) (h : k < xs.length) : (xs.take (k + 1)).map (Value.int .i64) = (xs.take k).map (Value.int .i64) ++ [Value.int .i64 (xs.getD k 0)] := by
  rw [List.take_succ_eq_append_getElem h, List.map_append]
  simp [List.getD, List.getElem?_eq_getElem h]

theorem grants_take_succ (t : Int) (xs : List (Int × Int)) (k : Nat) (h : k < xs.length) : flat enc2 ((grantsOf t xs).take (k + 1)) = flat enc2 ((grantsOf t xs).take k) ++ enc2 (xs[k]!.1, grantV t xs k) := by
  have hg := grant_get t xs k h
  rw [getElem!_pos _ k (by rw [grantsOf_len]; exact h)] at hg
  rw [List.take_succ_eq_append_getElem (by rw [grantsOf_len]; exact h), flat_append, flat_one, hg]

set_option maxRecDepth 100000 in
set_option maxHeartbeats 4000000 in
theorem ralloc_any (t : Int) (A : Option Addr) (n c : Nat) (xs : List (Int × Int)) (w : World) (h : Recs enc2 2 w A n xs) (hm : n ≤ 9223372036854775807) :
    Calls Tryz.prog 44 #[.int .i64 t, .slice A n c] w (AllocRes w 75 (allocOut t xs) (allocLeft t xs) (allocErr t xs)) := by
  by_cases h1 : t < 0
  · have E : allocErr t xs = 2 := by unfold allocErr; rw [if_pos (by omega)]
    unfold allocOut allocLeft
    rw [E, if_neg (by omega), if_neg (by omega)]
    clear E
    have d1 : decide (t < 0) = true := by simpa using h1
    go_enter Tryz.func44, Tryz.ntmps44
    go_wp2
    go_ret3
    exact ⟨_, _, _, rfl, rfl, own_nil2 _ _ _, Below.refl _ _⟩
  have d1 : decide (t < 0) = false := by simpa using h1
  by_cases h2 : 1000000000000 < t
  · have E : allocErr t xs = 2 := by unfold allocErr; rw [if_pos (by omega)]
    unfold allocOut allocLeft
    rw [E, if_neg (by omega), if_neg (by omega)]
    clear E
    have d2 : decide (1000000000000 < t) = true := by simpa using h2
    go_enter Tryz.func44, Tryz.ntmps44
    go_wp2
    go_ret3
    exact ⟨_, _, _, rfl, rfl, own_nil2 _ _ _, Below.refl _ _⟩
  have d2 : decide (1000000000000 < t) = false := by simpa using h2
  have E : allocErr t xs = vErr xs := by unfold allocErr; rw [if_neg (by omega)]
  have HV := Lib.hid (rvalid_any A n c xs w h hm)
  by_cases h3 : vErr xs = 0
  · obtain ⟨v1, v2, v3⟩ := vErr_zero h3
    unfold allocOut allocLeft
    rw [E, h3, if_pos rfl, if_pos rfl]
    rw [h3] at HV
    have hl := h.1
    have hq : ∀ i : Nat, 0 ≤ (qsOf xs).getD i 0 ∧ (qsOf xs).getD i 0 ≤ 1000000000 := qs_in v2
    have HQ := Lib.hid hq
    have HL := Lib.hid hl
    have hn : n ≤ 200 := by omega
    clear E h3 v1 v2 v3 hq hl
    go_enter Tryz.func44, Tryz.ntmps44
    go_wp2_with fail
    refine HV.out.mono ?_
    rintro e w1 ⟨rfl, hb1⟩
    have h' := h.below hb1
    go_wp2
    go_loopw [8, 9, 10] (fun s v i wr => ∃ k : Nat, k ≤ n ∧ i = .int .i64 k ∧ s = .int .i64 ((qsOf xs).take k).sum ∧ wr.ownsRow w1.heap.size 3 1 v k (((qsOf xs).take k).map (Value.int .i64)) ∧ RowKit.Below w1.heap.size w1 wr) (fun _ _ i _ => n - (intOf i).toNat)
    case atStart => exact ⟨0, Nat.zero_le _, rfl, by simp, ⟨rfl, .inl ⟨rfl, rfl⟩⟩, Below.refl _ _⟩
    case round =>
      obtain ⟨k, hk, rfl, rfl, hown, hbel⟩ := hrel
      by_cases hlt : k < n
      · obtain ⟨b, off, x, y, hA, hbl, hc1, hc2, HX⟩ := h'.get2 hlt
        subst hA
        have hc3 : wr.cell? ⟨b, off + k * 2 + 1, none⟩ = some (.int .i64 y) := (hbel.cell (p := ⟨b, off + k * 2 + 1, none⟩) hbl).trans hc2
        have hy : (qsOf xs).getD k 0 = y := by rw [qsOf_get xs k (by have := HL.out; omega), HX.out]
        have hbs := sum_take_bound (qsOf xs) 1000000000 HQ.out k (by rw [qsOf_len]; have := HL.out; omega)
        have hb0 := HQ.out k
        have HSS := Lib.hid (sum_take_succ (qsOf xs) k (by rw [qsOf_len]; have := HL.out; omega))
        have HTS := Lib.hid (take_snoc_get (qsOf xs) k (by rw [qsOf_len]; have := HL.out; omega))
        rw [hy] at hb0 HSS HTS
        have hsz := hbel.size
        have HOW := Lib.hid (own_alloc hown (.cells #[.int .i64 y] 3))
        have HRD : Hid (Rd (wr.alloc (.cells #[.int .i64 y] 3)) 1 (some ⟨wr.heap.size, 0, none⟩) 1 [.int .i64 y]) := rd_new wr _ _
        have HSZ : Hid (w1.heap.size ≤ (wr.alloc (.cells #[.int .i64 y] 3)).heap.size) := by show _ ≤ _; simp; omega
        generalize ((qsOf xs).take k).sum = s at *
        clear hy hc1 hc2 hown
        go_wp2_with (at_builtin; refine wpList_append_rd _ rfl (.tmp 38) (.tmp 44) 22 rfl w1.heap.size 3 _ 1 8 Tryz.underlying22 infoI rfl (by decide) u9 k (((qsOf xs).take k).map (Value.int .i64)) rfl HOW.out (some ⟨wr.heap.size, 0, none⟩) 1 1 [.int .i64 y] rfl HRD.out (one_ints _ [y]) (by unfold maxLen; omega) (by omega) HSZ.out ?_; intro v4 w4 ho4 hg4 hat4)
        go_roundw
        case rel => exact ⟨k + 1, by omega, by go_num, by rw [HSS.out], by rw [HTS.out]; exact ho4, (hbel.alloc hsz _).grown hg4 HSZ.out (fun g hg => own_base HOW.out g hg)⟩
        case measure => simp [intOf]; omega
      · obtain rfl : k = n := by omega
        rw [List.take_of_length_le (by rw [qsOf_len]; have := HL.out; omega)] at hown ⊢
        have hS := sum_take_bound (qsOf xs) 1000000000 HQ.out (qsOf xs).length (Nat.le_refl _)
        rw [List.take_length, qsOf_len, HL.out] at hS
        obtain ⟨A2, c2, hv⟩ := own_slice hown
        rw [hv] at hown ⊢
        clear hv
        have hIq : Ints wr A2 k (qsOf xs) := IntsK.of_own hown
        have hb := hb1.trans (hbel.mono hb1.size)
        have hx := h'.below hbel
        clear hown
        obtain ⟨S, hSe⟩ : ∃ S, (qsOf xs).sum = S := ⟨_, rfl⟩
        rw [hSe] at hS ⊢
        have HSE := Lib.hid hSe
        clear hSe
        go_upto_if 50 with (fail)
        go_cut [9, 11] (fun g l wx => ∃ (A2 : Option Addr) (c2 : Nat) (G : List Int) (lv : Int), g = .slice A2 k c2 ∧ l = .int .i64 lv ∧ Ints wx A2 k G ∧ Hid (lv = max (t - S) 0 ∧ ∀ i, i < k → G.getD i 0 = grantV t xs i) ∧ RowKit.Below w.heap.size w wx ∧ Recs enc2 2 wx A k xs)
        case first =>
          by_cases hle : S ≤ t
          · go_wp2_with fail
            go_meet
            exact ⟨_, _, qsOf xs, _, rfl, rfl, hIq, ⟨by omega, fun i hi => by unfold grantV; rw [HSE.out, if_pos hle, qsOf_get xs i (by have := HL.out; omega)]⟩, hb, hx⟩
          · go_wp2_with fail
            refine (r21share_any t A2 k c2 (qsOf xs) _ hIq (by omega) (by omega) (by rw [HSE.out]; omega) (by omega) (fun i => by have := HQ.out i; omega)).mono ?_
            rintro e w3 ⟨A3, c3, rfl, ho3, hb3⟩
            have hI3 := IntsK.of_own ho3
            clear ho3
            go_wp2_with fail
            go_meet
            exact ⟨_, _, shareL t (qsOf xs), _, rfl, rfl, hI3, ⟨by omega, fun i hi => by unfold grantV; rw [HSE.out, if_neg (by omega), shareL_get t (qsOf xs) i (by rw [qsOf_len]; have := HL.out; omega)]⟩, hb.trans (hb3.mono hb.size), hx.below hb3⟩
        case rest =>
          clear hIq hb hx
          obtain ⟨A2, c2, G, lv, rfl, rfl, hIG, HG, hbx, hx⟩ := hcut
          go_wp2
          go_loopw [12, 13] (fun v i wr => ∃ p : Nat, p ≤ k ∧ i = .int .i64 p ∧ wr.ownsRow wc.heap.size 75 2 v p (flat enc2 ((grantsOf t xs).take p)) ∧ RowKit.Below wc.heap.size wc wr) (fun _ i _ => k - (intOf i).toNat)
          case atStart => exact ⟨0, Nat.zero_le _, rfl, ⟨rfl, .inl ⟨rfl, rfl⟩⟩, Below.refl _ _⟩
          case round =>
            obtain ⟨p, hp, rfl, hown, hbel2⟩ := hrel
            by_cases hlt2 : p < k
            · obtain ⟨b, off, x, y, hA, hbl, hc1, hc2, HX⟩ := hx.get2 hlt2
              subst hA
              obtain ⟨b2, off2, gv, hA2, hbl2, hc3, HX2⟩ := hIG.get hlt2
              subst hA2
              have e1 : wr.cell? ⟨b, off + p * 2, none⟩ = some (.int .i64 x) := (hbel2.cell (p := ⟨b, off + p * 2, none⟩) hbl).trans hc1
              have e2 : wr.cell? ⟨b2, off2 + p, none⟩ = some (.int .i64 gv) := (hbel2.cell (p := ⟨b2, off2 + p, none⟩) hbl2).trans hc3
              have hgv : grantV t xs p = gv := by rw [← HG.out.2 p hlt2, HX2.out]
              have HTS := Lib.hid (grants_take_succ t xs p (by have := HL.out; omega))
              rw [HX.out, hgv] at HTS
              have hsz := hbel2.size
              have i1 : (0 : Int) ≤ (p : Int) := by omega
              have i2 : (p : Int) < (k : Int) := by omega
              clear hc1 hc2 hc3 hgv
              go_wp2
              have ne1 : u12.ownBlock ≠ some b := fun e => by have := own_base hown b e; omega
              have ne2 : u12.ownBlock ≠ some b2 := fun e => by have := own_base hown b2 e; omega
              have hpl : p + 1 ≤ 200 := by omega
              obtain ⟨i0, hi0, hz0, hz1, hz2⟩ := info_parts infoG
              have HBA := Lib.hid (own_base hown)
              have HOW := Lib.hid ((own_alloc hown (.cells #[.int .i64 x, .int .i64 gv] 75)))
              go_region_held3 (fun w' => w'.cell? ⟨b, off + p * 2, none⟩ = some (.int .i64 x) ∧ w'.cell? ⟨b2, off2 + p, none⟩ = some (.int .i64 gv))
                (first
                  | go_keep
                  | (go_split_ands
                     refine ⟨?_, ?_⟩
                     · (rw [hg4.cell_far _ (by simp; omega) (Ne.symm ne1)]; assumption)
                     · (rw [hg4.cell_far _ (by simp; omega) (Ne.symm ne2)]; assumption)))
                ((refine step_append_lies _ (by rfl) _ _ _ (by rfl) wc.heap.size 75 i0 _ 2 16 Tryz.underlying38 hi0 hz0 hz1 hz2 rfl (by omega) u12 p (flat enc2 ((grantsOf t xs).take p)) (by rfl) HOW.out
                    ⟨wr.heap.size, 0, none⟩ 1 1 [.int .i64 x, .int .i64 gv] (by rfl) (by rfl) (World.news_of_block (cs := #[.int .i64 x, .int .i64 gv]) (t := 75) (fr := (0, 0)) (heap_alloc_new wr _)) (by simp [Value.oneCell'])
                    (by omega) (by unfold maxLen; omega) (by omega) (by simp; omega) (wr.heap.size + 1) (by simp) ?_; intro g4 cap4 w4 ho4 hg4 hat4 hlt4))
              clear HOW
              go_wp2
              go_roundw
              case rel => exact ⟨p + 1, by omega, by go_num, by rw [HTS.out]; exact ho4, ((hbel2.alloc hsz _).drew).grown hg4 (by simp; omega) (fun g hg => HBA.out g hg)⟩
              case measure => simp [intOf]; omega
            · obtain rfl : p = k := by omega
              obtain ⟨A4, c4, hv⟩ := own_slice hown
              rw [hv] at hown ⊢
              clear hv
              rw [List.take_of_length_le (by rw [grantsOf_len]; have := HL.out; omega)] at hown
              have how := own_mono hown hbx.size
              go_wp2
              go_ret3
              rw [HSE.out, ← HG.out.1]
              exact ⟨_, _, _, rfl, by rw [grantsOf_len]; exact HL.out, how, hbx.trans (hbel2.mono hbx.size)⟩
  · unfold allocOut allocLeft
    rw [E, if_neg h3, if_neg h3]
    have b1 : (vErr xs != 0) = true := by simpa using h3
    clear E h3
    generalize vErr xs = er at *
    go_enter Tryz.func44, Tryz.ntmps44
    go_wp2_with fail
    refine HV.out.mono ?_
    rintro e w1 ⟨rfl, hb1⟩
    go_wp2
    go_ret3
    exact ⟨_, _, _, rfl, rfl, own_nil2 _ _ _, hb1⟩
end Go.Proofs.YtemhiifgplaldaaGreat

namespace Go.Proofs.YtemhiifgplaldaaGreat
open Go.RowKit
set_option linter.unusedVariables false

theorem fErr_in {q : Qt} {x : Fct} (h : fErr q x = 0) : (x.kind = 1 ∨ x.kind = 4 → q.fr ≤ x.day ∧ x.day < q.tod) ∧ (x.kind ≠ 4 → 1 ≤ x.id ∧ x.id ≤ 1000000) := by
  unfold fErr at h
  split at h
  · omega
  split at h
  · omega
  split at h
  · omega
  split at h
  · omega
  · omega
theorem infoD : (Tryz.prog.info? 73).map (fun i => (i.zero, i.size, i.bytes)) = some (some (.agg #[.int .i64 0, .int .i64 0, .int .i64 0, .slice none 0 0]), 4, 48) := by kernel_rfl
/-- The grants of the days lie in rows of their own. -/
def MemD (w : World) (N : Nat) (ds : List DayR) : Prop := ∀ d ∈ ds, w.ownsRow N 75 2 (.slice d.A d.n d.c) d.n (flat enc2 d.grants) ∧ d.grants.length = d.n
theorem MemD.keep {w w' : World} {N : Nat} {ds : List DayR} (h : MemD w N ds) (hk : ∀ d ∈ ds, ∀ g, (Value.slice d.A d.n d.c).ownBlock = some g → w'.heap[g]? = w.heap[g]?) : MemD w' N ds := fun d hd => ⟨own_of_block (h d hd).1 (hk d hd), (h d hd).2⟩
theorem MemD.below {w w' : World} {N : Nat} {ds : List DayR} (h : MemD w N ds) (hb : RowKit.Below w.heap.size w w') : MemD w' N ds := h.keep fun d hd g hg => hb.block g (own_lt (h d hd).1 g hg)
theorem MemD.far {w : World} {N g : Nat} {ds : List DayR} {T : TypeId} {cs : Array Value} (h : MemD w N ds) (hb : Bl w g T cs) (hT : 75 ≠ T) (o : Nat) (u : Value) : MemD (w.setCell ⟨g, o, none⟩ u) N ds := h.keep fun d hd k hk => Below.heap_setCell w ⟨g, o, none⟩ u k (fun e => own_apart (h d hd).1 hb hT (by rw [hk]; exact congrArg some e.symm))
/-- Rows of two types are two rows. -/
theorem own_two {w : World} {base base' size size' n n' : Nat} {e e' : TypeId} {v v' : Value} {xs xs' : List Value} (h : w.ownsRow base e size v n xs) (h' : w.ownsRow base' e' size' v' n' xs') (hne : e ≠ e') : ∀ g, v.ownBlock = some g → some g ≠ v'.ownBlock := fun g hg e2 => by
  rcases h.2 with ⟨rfl, _⟩ | ⟨k, cap, cur, rfl, _, hk, _⟩
  · cases hg
  · rcases h'.2 with ⟨rfl, _⟩ | ⟨k', cap', cur', rfl, _, hk', _⟩
    · cases e2
    · simp [Value.ownBlock] at hg e2
      rw [← hg] at e2
      subst e2
      have := hk.symm.trans hk'
      injection this with this
      injection this with _ e3
      exact hne e3
theorem MemD.grown {w w' : World} {N : Nat} {ds : List DayR} {base size n : Nat} {T : TypeId} {v : Value} {xs : List Value} (h : MemD w N ds) (ho : w.ownsRow base T size v n xs) (hT : 75 ≠ T) (hg : w.grownBy w' v.ownBlock) : MemD w' N ds := h.keep fun d hd k hk => hg.block k (own_lt (h d hd).1 k hk) (own_two (h d hd).1 ho hT k hk)
theorem own_grown {w w' : World} {base base' size size' n n' : Nat} {e e' : TypeId} {v v' : Value} {xs xs' : List Value} (h : w.ownsRow base e size v n xs) (h' : w.ownsRow base' e' size' v' n' xs') (hne : e ≠ e') (hg : w.grownBy w' v'.ownBlock) : w'.ownsRow base e size v n xs := own_of_block h fun g hgv => hg.block g (own_lt h g hgv) (own_two h h' hne g hgv)
theorem own_far {w : World} {base size n g : Nat} {e T : TypeId} {v : Value} {xs : List Value} {cs : Array Value} (h : w.ownsRow base e size v n xs) (hb : Bl w g T cs) (hT : e ≠ T) (o : Nat) (u : Value) : (w.setCell ⟨g, o, none⟩ u).ownsRow base e size v n xs := own_of_block h fun k hk => Below.heap_setCell w ⟨g, o, none⟩ u k (fun e2 => own_apart h hb hT (by rw [hk]; exact congrArg some e2.symm))

/-- The tranches of a day. -/
def trDay (fs : List Fct) (D : Int) : Int := ((fs.filter fun y => y.kind == 4 && y.day == D).map (·.qty)).sum
theorem trDay_snoc (fs : List Fct) (x : Fct) (D : Int) : trDay (fs ++ [x]) D = trDay fs D + if x.kind = 4 ∧ x.day = D then x.qty else 0 := by
  unfold trDay
  rw [List.filter_append, List.map_append, List.sum_append]
  by_cases e : x.kind = 4 ∧ x.day = D
  · rw [if_pos e]; simp [e.1, e.2]
  · rw [if_neg e]
    have : (x.kind == 4 && x.day == D) = false := by simpa using e
    simp [this]
theorem trDay_sum (fs : List Fct) (D : Int) : trDay fs D = trSum (trOf fs) D - trSum (trOf fs) (D - 1) := by
  induction fs with
  | nil => rfl
  | cons x fs ih =>
    unfold trDay trSum trOf at ih ⊢
    by_cases e4 : x.kind = 4
    · rw [List.filter_cons_of_pos (p := fun f : Fct => f.kind == 4) (by simpa using e4)]
      by_cases e1 : x.day = D
      · rw [List.filter_cons_of_pos (by simp [e4, e1]), List.filter_cons_of_pos (by simp; omega), List.filter_cons_of_neg (by simp; omega)]
        simp only [List.map_cons, List.sum_cons]
        omega
      · rw [List.filter_cons_of_neg (by simp [e1])]
        by_cases e2 : x.day ≤ D
        · rw [List.filter_cons_of_pos (by simpa using e2), List.filter_cons_of_pos (by simp; omega)]
          simp only [List.map_cons, List.sum_cons]
          omega
        · rw [List.filter_cons_of_neg (by simpa using e2), List.filter_cons_of_neg (by simp; omega)]
          exact ih
    · rw [List.filter_cons_of_neg (p := fun f : Fct => f.kind == 4) (by simpa using e4), List.filter_cons_of_neg (by simp [e4])]
      exact ih
theorem trDay_nonneg {fs : List Fct} (h : ∀ x ∈ fs, 0 ≤ x.qty) (D : Int) : 0 ≤ trDay fs D := sum_nn fun z hz => by
  obtain ⟨y, hy, rfl⟩ := List.mem_map.1 hz
  exact h y (List.mem_filter.1 hy).1
theorem trDay_le {fs : List Fct} (h : ∀ x ∈ fs, 0 ≤ x.qty ∧ x.qty ≤ 1000000000) (D : Int) : trDay fs D ≤ (fs.length : Int) * 1000000000 := by
  induction fs with
  | nil => simp [trDay]
  | cons x fs ih =>
    have h1 := ih fun y hy => h y (List.mem_cons_of_mem _ hy)
    have h2 := h x (List.mem_cons_self ..)
    unfold trDay at h1 ⊢
    by_cases e : (x.kind == 4 && x.day == D) = true
    · rw [List.filter_cons_of_pos (by exact e)]; simp only [List.map_cons, List.sum_cons, List.length_cons]; omega
    · rw [List.filter_cons_of_neg (by exact e)]; simp only [List.length_cons]; omega
/-- No tranche lies between two days. -/
theorem trSum_gap {fs : List Fct} {a b : Int} (hab : a ≤ b) (h : ∀ y ∈ fs, y.kind = 4 → a < y.day → b < y.day) : trSum (trOf fs) b = trSum (trOf fs) a := by
  unfold trSum
  congr 2
  refine List.filter_congr fun y hy => ?_
  have h1 := List.mem_filter.1 hy
  have h2 := h y h1.1 (by simpa using h1.2)
  by_cases e : y.day ≤ a
  · simp [e]; omega
  · simp [e]; omega
theorem trSum_all {fs : List Fct} {D : Int} (h : ∀ y ∈ fs, y.kind = 4 → y.day < D) : trSum (trOf fs) (D - 1) = trAll (trOf fs) := by
  unfold trSum trAll
  rw [List.filter_eq_self.2 fun y hy => ?_]
  have h1 := List.mem_filter.1 hy
  have := h y h1.1 (by simpa using h1.2)
  simp
  omega
theorem trSum_top {fs : List Fct} (h : ∀ x ∈ fs, 0 ≤ x.qty ∧ x.qty ≤ 1000000000) (D : Int) : trSum (trOf fs) D ≤ (fs.length : Int) * 1000000000 := by
  have key : ∀ (p : Fct → Bool) (gs : List Fct), (∀ x ∈ gs, 0 ≤ x.qty ∧ x.qty ≤ 1000000000) → ((gs.filter p).map (·.qty)).sum ≤ (gs.length : Int) * 1000000000 := by
    intro p gs
    induction gs with
    | nil => intro _; simp
    | cons x gs ih =>
      intro hg
      have h1 := ih fun y hy => hg y (List.mem_cons_of_mem _ hy)
      have h2 := hg x (List.mem_cons_self ..)
      by_cases e : p x = true
      · rw [List.filter_cons_of_pos e]; simp only [List.map_cons, List.sum_cons, List.length_cons]; omega
      · rw [List.filter_cons_of_neg e]; simp only [List.length_cons]; omega
  have h1 := key (fun y => decide (y.day ≤ D)) (trOf fs) fun x hx => h x (List.mem_filter.1 hx).1
  have h2 : (trOf fs).length ≤ fs.length := List.length_filter_le _ _
  have h3 : ((trOf fs).length : Int) ≤ fs.length := by omega
  unfold trSum
  omega
/-- The requests of a day among the first ones. -/
def dayQ (os : List Ak) (D : Int) : List (Int × Int) := (os.filter fun o => o.day == D).map fun o => (o.id, o.qty)
theorem dayQ_snoc (os : List Ak) (x : Ak) (D : Int) : dayQ (os ++ [x]) D = dayQ os D ++ if x.day = D then [(x.id, x.qty)] else [] := by
  unfold dayQ
  rw [List.filter_append, List.map_append]
  by_cases e : x.day = D <;> simp [e]
theorem dayQ_len (os : List Ak) (D : Int) : (dayQ os D).length ≤ os.length := by unfold dayQ; rw [List.length_map]; exact List.length_filter_le _ _
theorem qs_sum_le {xs : List (Int × Int)} (h : ∀ p ∈ xs, 0 ≤ p.2 ∧ p.2 ≤ 1000000000) : 0 ≤ (qsOf xs).sum ∧ (qsOf xs).sum ≤ (xs.length : Int) * 1000000000 := by
  unfold qsOf
  induction xs with
  | nil => simp
  | cons x xs ih =>
    have h1 := ih fun p hp => h p (List.mem_cons_of_mem _ hp)
    have h2 := h x (List.mem_cons_self ..)
    simp only [List.map_cons, List.sum_cons, List.length_cons]
    omega
theorem dayQ_mem {os : List Ak} {D : Int} {p : Int × Int} (h : p ∈ dayQ os D) : ∃ o ∈ os, o.day = D ∧ p = (o.id, o.qty) := by
  unfold dayQ at h
  obtain ⟨o, ho, rfl⟩ := List.mem_map.1 h
  have := List.mem_filter.1 ho
  exact ⟨o, this.1, by simpa using this.2, rfl⟩
theorem dayQ_valid {fs fs1 : List Fct} {os : List Ak} (h : EffP fs fs1 os) (hl : os.length ≤ 200) (hq : ∀ o ∈ os, 0 ≤ o.qty ∧ o.qty ≤ 1000000000) (hi : ∀ o ∈ os, 1 ≤ o.id ∧ o.id ≤ 1000000) (D : Int) : vErr (dayQ os D) = 0 := by
  refine vErr_ok (by have := dayQ_len os D; omega) (fun i hi2 => ?_) (fun r hr => ?_)
  · have hm : (dayQ os D)[i]! ∈ dayQ os D := by rw [getElem!_pos _ i hi2]; exact List.getElem_mem _
    obtain ⟨o, ho, _, e⟩ := dayQ_mem hm
    rw [e]
    have h1 := hq o ho; have h2 := hi o ho
    exact ⟨h2.1, h2.2, h1.1, h1.2⟩
  · have hp : (dayQ os D).Pairwise (fun a b => a.1 < b.1) := by
      unfold dayQ
      rw [List.pairwise_map]
      exact h.asc.filter _
    have := List.pairwise_iff_getElem.1 hp r (r + 1) (by omega) (by omega) (by omega)
    rw [getElem!_pos _ r (by omega), getElem!_pos _ (r + 1) (by omega)]
    exact this
theorem eff_ids {fs fs1 : List Fct} {os : List Ak} (h : EffP fs fs1 os) (hf : ∀ f ∈ fs, f.kind = 1 → 1 ≤ f.id ∧ f.id ≤ 1000000) : ∀ o ∈ os, 1 ≤ o.id ∧ o.id ≤ 1000000 := fun o ho => by
  obtain ⟨f, hfo⟩ := Option.isSome_iff_exists.1 ((h.mem o.id).1 ⟨o, ho, rfl⟩)
  have h1 := List.find?_some hfo
  simp only [Bool.and_eq_true, beq_iff_eq] at h1
  have := hf f (List.mem_of_find?_eq_some hfo) h1.1
  rw [h1.2] at this
  exact this
theorem eff_days {fs fs1 : List Fct} {os : List Ak} (h : EffP fs fs1 os) {a b : Int} (hf : ∀ f ∈ fs, f.kind = 1 → a ≤ f.day ∧ f.day < b) : ∀ o ∈ os, a ≤ o.day ∧ o.day < b := fun o ho => by
  obtain ⟨f, hfo⟩ := Option.isSome_iff_exists.1 ((h.mem o.id).1 ⟨o, ho, rfl⟩)
  have h1 := List.find?_some hfo
  simp only [Bool.and_eq_true, beq_iff_eq] at h1
  have := hf f (List.mem_of_find?_eq_some hfo) h1.1
  rw [(h.val o ho f hfo).1]
  exact this
/-- Where the requests lie, the settlement's requests lie. -/
theorem eff_rs {fs : List Fct} {os : List Ak} {rs : List Rq} (h : EffP fs fs os) (hr : ReqList fs rs) {P : Int → Prop} (hp : ∀ o ∈ os, P o.day) : ∀ r ∈ rs, P r.day := fun r hrr => by
  obtain ⟨o, ho, e⟩ := (h.mem r.id).2 ((hr.mem r.id).1 ⟨r, hrr, rfl⟩)
  obtain ⟨f, hf⟩ := Option.isSome_iff_exists.1 ((h.mem o.id).1 ⟨o, ho, rfl⟩)
  have h1 := (h.val o ho f hf).1
  have h2 := hr.val r hrr
  unfold rqOf at h2
  rw [← e, hf] at h2
  have h3 : r.day = f.day := by rw [h2]
  rw [h3, ← h1]
  exact hp o ho
end Go.Proofs.YtemhiifgplaldaaGreat

/-
  The law BookReturn: it returns true. Conditions: the list reads as integers, its length is at most its capacity.
-/
import Derived.Test.YtemhiifgplaldaaNC
namespace Go.Proofs.Ytemhiifgplaldaa
open Go.RowKit
set_option linter.unusedVariables false

theorem flat_cons {α : Type} (enc : α → List Value) (x : α) (xs : List α) : flat enc (x :: xs) = enc x ++ flat enc xs := by simp [flat]
/-- What a box of a book holds, and where it lies. -/
theorem BoxR.out {q : Qt} {n : Nat} {l : List Fct} {vs : List Value} {v : Value} {f : List Nat} {w : World} {N s : Nat} (h : BoxR q n l vs v f w) (hb : ∀ g ∈ f, N ≤ g ∧ g < s) :
    ∃ g B d fs, vs[0]? = some (.pointer (some ⟨g, 0, none⟩)) ∧ Bl w g 26 #[.int .i64 q.id, .int .i64 q.vol, .int .i64 q.fr, .int .i64 q.tod, .slice B n d] ∧ BOk q fs ∧ fs.Perm l ∧ FRd w B n d fs ∧ N ≤ g ∧ ∀ b, (Value.slice B n d).ownBlock = some b → N ≤ b := by
  obtain ⟨g, B, d, f2, h1, rfl, h2, fs, h3, h4, h5, rfl⟩ := h
  exact ⟨g, B, d, fs, h1, h2, h3, h4, h5, (hb g (by simp)).1, fun b e => (hb b (by simp [e])).1⟩
theorem rd_far {w : World} {size : Nat} {A : Option Addr} {n : Nat} {xs : List Value} {p : Addr} (h : Rd w size A n xs) (hp : ∀ b off, A = some ⟨b, off, none⟩ → 0 < n → b ≠ p.block) (v : Value) : Rd (w.setCell p v) size A n xs :=
  ⟨h.1, fun h0 => by
    obtain ⟨b, off, e, hb, hc⟩ := h.2 h0
    exact ⟨b, off, e, by simpa [World.setCell] using hb, fun j u hu => (World.cell?_of_block (a := ⟨b, off + j, none⟩) (Below.heap_setCell w p v b (hp b off e h0))).trans (hc j u hu)⟩⟩
theorem fErr_rt {q : Qt} {bk : Int} (h0 : 0 ≤ bk) (h1 : bk ≤ 100) : fErr q ⟨101, 2, 0, 50, bk⟩ = 0 := by
  unfold fErr
  simp only
  rw [if_neg (by omega), if_neg (by omega), if_neg (by omega), if_neg (by omega)]
theorem fErr_ak {q : Qt} {dy ak : Int} (hq : 0 ≤ q.fr ∧ q.tod ≤ 36525) (h0 : 0 ≤ ak) (h1 : ak ≤ 100) (h2 : q.fr ≤ dy) (h3 : dy < q.tod) : fErr q ⟨100, 1, dy, 50, ak⟩ = 0 := by
  unfold fErr
  simp only
  rw [if_neg (by omega), if_neg (by omega), if_neg (by omega), if_neg (by omega)]

set_option maxRecDepth 100000 in
set_option maxHeartbeats 8000000 in
theorem bookReturn_any (A : Option Addr) (n c : Nat) (xs : List Int) (day ask back : Int) (w : World) (h : Ints w A n xs) (hnc : n ≤ c) (hcm : c ≤ 9223372036854775807) :
    Calls Try.prog 8 #[.slice A n c, .int .i64 day, .int .i64 ask, .int .i64 back] w (BRes w true) := by
  have HAW := Lib.hid awake22_any
  have HQF := Lib.hid (quotaFacts_any A n c xs w h hnc hcm)
  have HWA := Lib.hid (fun w => within_any ask 100 w (by omega) (by omega))
  have ha0 := Int.emod_nonneg ask (show (100 : Int) ≠ 0 by omega)
  have ha1 := Int.emod_lt_of_pos ask (show (0 : Int) < 100 by omega)
  generalize ask % 100 = ak at *
  have HWB := Lib.hid (fun w => within_any back (ak + 1) w (by omega) (by omega))
  have hk0 := Int.emod_nonneg back (show ak + 1 ≠ 0 by omega)
  have hk1 := Int.emod_lt_of_pos back (show 0 < ak + 1 by omega)
  generalize back % (ak + 1) = bk at *
  have ua : IntKind.i64.wrap (ak + 1) = ak + 1 := IntWalk.i64_in _ (by omega)
  clear h hnc hcm
  go_enter Try.func8, Try.ntmps8
  go_wp2_with fail
  refine HQF.out.mono ?_
  rintro e w1 ⟨q, l, B1, n1, d1, rfl, hqf, hl1, ho1, hb1⟩
  have HF := Lib.hid hqf
  have HL := Lib.hid hl1
  have hn24 : n1 ≤ 24 := by have := hqf.len; omega
  have hx1 := Bl.new w1 23 #[.int .i64 q.id, .int .i64 q.vol, .int .i64 q.fr, .int .i64 q.tod]
  have hB1 : RowKit.Below w.heap.size w (w1.alloc (.cells #[.int .i64 q.id, .int .i64 q.vol, .int .i64 q.fr, .int .i64 q.tod] 23)) := hb1.alloc hb1.size _
  have hr1 := (Recs.of_own encF_len ho1 hl1).alloc (.cells #[.int .i64 q.id, .int .i64 q.vol, .int .i64 q.fr, .int .i64 q.tod] 23)
  have hqv := qOk_yes hqf.qok
  obtain ⟨qv1, qv2, qv3, qv4, qv5, qv6, qv7⟩ := hqv
  have hq9 : 0 ≤ q.fr ∧ q.fr < q.tod ∧ q.tod ≤ 36525 := by omega
  clear hqf hl1 ho1 hb1 HQF qv1 qv2 qv3 qv4 qv5 qv6 qv7
  go_upto_region 2 with (fail)
  generalize w1.alloc (.cells #[.int .i64 q.id, .int .i64 q.vol, .int .i64 q.fr, .int .i64 q.tod] 23) = W1 at *
  generalize w1.heap.size = g3 at *
  go_wp2_with fail
  refine (HWA.out _).mono ?_
  rintro e w' ⟨rfl, rfl⟩
  go_wp2_with fail
  refine (HWB.out _).mono ?_
  rintro e w' ⟨rfl, rfl⟩
  have HWC := Lib.hid (fun w => within_any day (q.tod - q.fr) w (by omega) (by omega))
  have hd0 := Int.emod_nonneg day (show q.tod - q.fr ≠ 0 by omega)
  have hd1 := Int.emod_lt_of_pos day (show 0 < q.tod - q.fr by omega)
  generalize day % (q.tod - q.fr) = dv at *
  obtain ⟨dy, hdy⟩ : ∃ dy : Int, q.fr + dv = dy := ⟨_, rfl⟩
  have HDY := Lib.hid (show q.fr ≤ dy ∧ dy < q.tod by omega)
  have u1 : IntKind.i64.wrap (q.tod - q.fr) = q.tod - q.fr := IntWalk.i64_in _ (by omega)
  have u2 : IntKind.i64.wrap (q.fr + dv) = dy := by rw [hdy]; exact IntWalk.i64_in _ (by omega)
  have c2 : W1.cell? ⟨g3, 2, none⟩ = some (.int .i64 q.fr) := hx1.cell 2
  have c3 : W1.cell? ⟨g3, 3, none⟩ = some (.int .i64 q.tod) := hx1.cell 3
  clear HWA HWB ua hdy
  go_upto_region 4 with (fail)
  go_cut [11] from 16 (fun v wx => ∃ g, v = .pointer (some ⟨g, 0, none⟩) ∧ Bl wx g 39 #[.int .i64 100, .int .i64 1, .int .i64 dy, .int .i64 50, .int .i64 ak] ∧ RowKit.Below W1.heap.size W1 wx ∧ g = W1.heap.size)
  case first =>
    go_region_held3 (fun w' => w'.cell? ⟨g3, 2, none⟩ = some (.int .i64 q.fr) ∧ w'.cell? ⟨g3, 3, none⟩ = some (.int .i64 q.tod))
      (first
        | go_keep)
      (first
        | (go_at_call 16; with_reducible (refine (HWC.out _).mono ?_); rintro e w' ⟨rfl, rfl⟩))
    all_goals
      (go_wp2_with fail
       go_meet
       exact ⟨_, rfl, (Bl.new _ _ _).drew, ((Below.refl _ _).alloc (Nat.le_refl _) _).drew, rfl⟩)
  case rest =>
    obtain ⟨g4, rfl, hx11, hbc, hg4⟩ := hcut
    have HAPT : Hid (∀ b off, B1 = some ⟨b, off, none⟩ → 0 < n1 → b ≠ g4) := fun b off e h0 => by
      obtain ⟨b', off', e', hb', _⟩ := hr1.2 h0
      rw [e] at e'
      injection e' with e'
      injection e' with e1 e2 e3
      omega
    have hg4w : w.heap.size ≤ g4 := by rw [hg4]; exact hB1.size
    clear hg4
    have hx4 := hx1.keep hbc
    have hr4 := hr1.below hbc
    have hB4 := hB1.trans (hbc.mono hB1.size)
    clear hx1 hr1 hB1 hbc c2 c3 u1 u2 HWC hd0 hd1
    generalize wc = W4 at *
    have HRF : Hid (Rd W4 5 B1 n1 (flat encF l)) := ⟨by rw [flat_length encF_len, hr4.1], fun h0 => by
      obtain ⟨b, off, e, hb', _⟩ := hr4.2 h0
      subst e
      exact ⟨b, off, rfl, hb', Recs.cells encF_len (by omega) hr4⟩⟩
    have HONE : Hid (∀ u ∈ flat encF l, u.oneCell' = true) := fun u hu => by
      obtain ⟨x, _, hx⟩ := List.mem_flatMap.1 hu
      exact encF_one x u hx
    have HAPA : Hid (∀ (wx : World) (B : Option Addr) (d : Nat), RowKit.Below W4.heap.size W4 wx → wx.ownsRow W4.heap.size 39 5 (.slice B (1 + n1 + 1) d) (1 + n1 + 1) (flat encF (⟨101, 2, 0, 50, bk⟩ :: (l ++ [⟨100, 1, dy, 50, ak⟩]))) → Calls Try.prog 15 #[.agg #[.int .i64 q.id, .int .i64 q.vol, .int .i64 q.fr, .int .i64 q.tod], .slice B (1 + n1 + 1) d] wx (LaOwn wx q (1 + n1 + 1) (⟨101, 2, 0, 50, bk⟩ :: (l ++ [⟨100, 1, dy, 50, ak⟩])))) := fun wx B d hb ho => by
      refine lapply_own q B (1 + n1 + 1) d _ wx (Recs.of_own encF_len ho (by rw [List.length_cons, List.length_append, HL.out]; simp; omega)) (by omega) HF.out.qok (fun x hx => ?_) ?_
      · rcases List.mem_cons.1 hx with rfl | hx
        · exact fErr_rt hk0 (by omega)
        · rcases List.mem_append.1 hx with hx | hx
          · exact (HF.out.each x hx).1
          · rw [List.mem_singleton] at hx; subst hx; exact fErr_ak (by omega) ha0 (by omega) HDY.out.1 HDY.out.2
      · rw [List.map_cons, List.nodup_cons]
        refine ⟨fun hm => ?_, nodup_new HF.out 100 (by omega)⟩
        obtain ⟨z, hz, hz2⟩ := List.mem_map.1 hm
        rcases List.mem_append.1 hz with hz | hz
        · have := (HF.out.each z hz).2.1
          simp at hz2
          omega
        · rw [List.mem_singleton] at hz; subst hz; simp at hz2
    have c0 : W4.cell? ⟨g3, 0, none⟩ = some (.int .i64 q.id) := hx4.cell 0
    have c1 : W4.cell? ⟨g3, 1, none⟩ = some (.int .i64 q.vol) := hx4.cell 1
    have c2 : W4.cell? ⟨g3, 2, none⟩ = some (.int .i64 q.fr) := hx4.cell 2
    have c3 : W4.cell? ⟨g3, 3, none⟩ = some (.int .i64 q.tod) := hx4.cell 3
    have e0 : W4.cell? ⟨g4, 0, none⟩ = some (.int .i64 100) := hx11.cell 0
    have e1 : W4.cell? ⟨g4, 1, none⟩ = some (.int .i64 1) := hx11.cell 1
    have e2 : W4.cell? ⟨g4, 2, none⟩ = some (.int .i64 dy) := hx11.cell 2
    have e3 : W4.cell? ⟨g4, 3, none⟩ = some (.int .i64 50) := hx11.cell 3
    have e4 : W4.cell? ⟨g4, 4, none⟩ = some (.int .i64 ak) := hx11.cell 4
    go_upto_region 5 with (fail)
    refine wp_region_rows [
        ⟨⟨some 40, [], []⟩, fun _ v => v = .agg #[.int .i64 q.id, .int .i64 q.vol, .int .i64 q.fr, .int .i64 q.tod], NoR⟩,
        ⟨⟨some 41, [], []⟩, fun _ v => v = .int .i64 bk, NoR⟩,
        ⟨⟨some 42, [1], []⟩, fun _ v => v = .agg #[.int .i64 101, .int .i64 2, .int .i64 0, .int .i64 50, .int .i64 bk], NoR⟩,
        ⟨⟨some 43, [2], []⟩, NoF, OwnR W4.heap.size 39 5 1 (encF ⟨101, 2, 0, 50, bk⟩)⟩,
        ⟨⟨some 44, [], []⟩, fun _ v => v = .slice B1 n1 d1, NoR⟩,
        ⟨⟨some 45, [3, 4], [3]⟩, NoF, OwnR W4.heap.size 39 5 (1 + n1) (encF ⟨101, 2, 0, 50, bk⟩ ++ flat encF l)⟩,
        ⟨⟨some 46, [], []⟩, fun _ v => v = .agg #[.int .i64 100, .int .i64 1, .int .i64 dy, .int .i64 50, .int .i64 ak], NoR⟩,
        ⟨⟨some 47, [6], []⟩, NoF, LitR 39 (encF ⟨100, 1, dy, 50, ak⟩).toArray 1⟩,
        ⟨⟨some 48, [5, 7], [5, 7]⟩, NoF, OwnR W4.heap.size 39 5 (1 + n1 + 1) (flat encF (⟨101, 2, 0, 50, bk⟩ :: (l ++ [⟨100, 1, dy, 50, ak⟩])))⟩,
        ⟨⟨some 49, [0, 8], [8]⟩, NoF, BkR q (1 + n1 + 1) (⟨101, 2, 0, 50, bk⟩ :: (l ++ [⟨100, 1, dy, 50, ak⟩])) (fun b => .tuple #[b, .bool true])⟩,
        ⟨⟨some 39, [9], [9]⟩, fun _ v => ∃ x, v = .tuple #[x, .bool true], BkR q (1 + n1 + 1) (⟨101, 2, 0, 50, bk⟩ :: (l ++ [⟨100, 1, dy, 50, ak⟩])) (fun b => .tuple #[b, .bool true])⟩,
        ⟨⟨some 50, [10], [10]⟩, NoF, BkR q (1 + n1 + 1) (⟨101, 2, 0, 50, bk⟩ :: (l ++ [⟨100, 1, dy, 50, ak⟩])) (fun b => b)⟩,
        ⟨⟨some 51, [10], []⟩, fun _ v => v = .bool true, NoR⟩,
        ⟨⟨some 12, [], []⟩, NoF, PtrR 26 #[.int .i64 0, .int .i64 0, .int .i64 0, .int .i64 0, .slice none 0 0]⟩,
        ⟨⟨none, [13, 11], [13, 11]⟩, NoF, BoxR q (1 + n1 + 1) (⟨101, 2, 0, 50, bk⟩ :: (l ++ [⟨100, 1, dy, 50, ak⟩]))⟩,
        ⟨⟨some 13, [12], []⟩, fun _ v => v = .bool true, NoR⟩] (by kernel_rfl) (by kernel_rfl) (by kernel_rfl) ⟨NoR.loc, NoR.loc, NoR.loc, OwnR.loc, NoR.loc, OwnR.loc, NoR.loc, LitR.loc, OwnR.loc, BkR.loc (mk := fun b => .tuple #[b, .bool true]), BkR.loc (mk := fun b => .tuple #[b, .bool true]), BkR.loc (mk := fun b => b), NoR.loc, PtrR.loc, BoxR.loc, NoR.loc, trivial⟩ ⟨?r0, ?r1, ?r2, ?r3, ?r4, ?r5, ?r6, ?r7, ?r8, ?r9, ?r10, ?r11, ?r12, ?r13, ?r14, ?r15, trivial⟩ ?fin
    case r0 =>
      refine step_of rfl rfl ?_
      intro a wx vs fp K hF hK
      have ea : a.eval (.tmp 9) = .pointer (some ⟨g3, 0, none⟩) := hF.at_ 9 rfl
      have m0 := (hF.below.cell (p := ⟨g3, 0, none⟩) hx4.lt).trans c0
      have m1 := (hF.below.cell (p := ⟨g3, 1, none⟩) hx4.lt).trans c1
      have m2 := (hF.below.cell (p := ⟨g3, 2, none⟩) hx4.lt).trans c2
      have m3 := (hF.below.cell (p := ⟨g3, 3, none⟩) hx4.lt).trans c3
      refine op_value (v := .agg #[.int .i64 q.id, .int .i64 q.vol, .int .i64 q.fr, .int .i64 q.tod]) ?_ (hK _ _ _ (hF.only rfl trivial))
      have ec : ∀ v, a.eval (.const v) = v := fun _ => rfl
      clear hF hK
      generalize a.eval = ρ at *
      go_simp
    case r1 =>
      refine step_of rfl rfl ?_
      intro a wx vs fp K hF hK
      exact op_move rfl (hF.at_ 3 rfl) (hK _ _ _ (hF.only rfl trivial))
    case r2 =>
      refine step_of rfl rfl ?_
      intro a wx vs fp K hF hK
      have e1 : a.eval (.tmp 41) = .int .i64 bk := (hF.ev 1 41 rfl rfl).trans (hF.va 1 rfl)
      refine op_value (v := .agg #[.int .i64 101, .int .i64 2, .int .i64 0, .int .i64 50, .int .i64 bk]) ?_ (hK _ _ _ (hF.only rfl trivial))
      have ec : ∀ v, a.eval (.const v) = v := fun _ => rfl
      clear hF hK
      generalize a.eval = ρ at *
      go_simp
    case r3 =>
      refine step_of rfl rfl ?_
      intro a wx vs fp K hF hK
      have e2 : a.eval (.tmp 42) = .agg #[.int .i64 101, .int .i64 2, .int .i64 0, .int .i64 50, .int .i64 bk] := (hF.ev 2 42 rfl rfl).trans (hF.va 2 rfl)
      refine op_value (v := .slice (some ⟨wx.heap.size, 0, none⟩) 1 1) (w' := wx.alloc (.cells #[.int .i64 101, .int .i64 2, .int .i64 0, .int .i64 50, .int .i64 bk] 39)) ?_ (hK _ _ _ (hF.made _ trivial ⟨own_lit (Bl.new _ _ _) hF.below.size rfl (by decide), rfl⟩))
      have ec : ∀ v, a.eval (.const v) = v := fun _ => rfl
      clear hF hK
      generalize a.eval = ρ at *
      go_simp
    case r4 =>
      refine step_of rfl rfl ?_
      intro a wx vs fp K hF hK
      exact op_move rfl (hF.at_ 10 rfl) (hK _ _ _ (hF.only rfl trivial))
    case r5 =>
      refine step_of rfl rfl ?_
      intro a wx vs fp K hF hK
      have hm : OwnR W4.heap.size 39 5 (1) (encF ⟨101, 2, 0, 50, bk⟩) [] (vs 3) (fp 3) wx := hF.me 3 rfl
      have hv : vs 4 = .slice B1 n1 d1 := hF.va 4 rfl
      have hrd := HRF.out.keep hF.below
      refine op_append (.tmp 43) (.tmp 44) 24 rfl W4.heap.size 39 _ 5 40 Try.underlying24 infoF rfl (by decide) (vs 3) (1) (encF ⟨101, 2, 0, 50, bk⟩) (hF.ev 3 43 rfl rfl) hm.1 B1 n1 d1 (flat encF l) ((hF.ev 4 44 rfl rfl).trans hv) hrd (HONE.out) (by unfold maxLen; omega) (by omega) hF.below.size ?_
      intro v w' h1 h2 h3
      exact hK _ _ _ (hF.grown 3 rfl hm.2 h2 h3 (fun g hg => own_lt h1 g hg) trivial ⟨by exact h1, rfl⟩)
    case r6 =>
      refine step_of rfl rfl ?_
      intro a wx vs fp K hF hK
      have ea : a.eval (.tmp 11) = .pointer (some ⟨g4, 0, none⟩) := hF.at_ 11 rfl
      have m0 := (hF.below.cell (p := ⟨g4, 0, none⟩) hx11.lt).trans e0
      have m1 := (hF.below.cell (p := ⟨g4, 1, none⟩) hx11.lt).trans e1
      have m2 := (hF.below.cell (p := ⟨g4, 2, none⟩) hx11.lt).trans e2
      have m3 := (hF.below.cell (p := ⟨g4, 3, none⟩) hx11.lt).trans e3
      have m4 := (hF.below.cell (p := ⟨g4, 4, none⟩) hx11.lt).trans e4
      refine op_value (v := .agg #[.int .i64 100, .int .i64 1, .int .i64 dy, .int .i64 50, .int .i64 ak]) ?_ (hK _ _ _ (hF.only rfl trivial))
      have ec : ∀ v, a.eval (.const v) = v := fun _ => rfl
      clear hF hK
      generalize a.eval = ρ at *
      go_simp
    case r7 =>
      refine step_of rfl rfl ?_
      intro a wx vs fp K hF hK
      have e6 : a.eval (.tmp 46) = .agg #[.int .i64 100, .int .i64 1, .int .i64 dy, .int .i64 50, .int .i64 ak] := (hF.ev 6 46 rfl rfl).trans (hF.va 6 rfl)
      refine op_value (v := .slice (some ⟨wx.heap.size, 0, none⟩) 1 1) (w' := wx.alloc (.cells #[.int .i64 100, .int .i64 1, .int .i64 dy, .int .i64 50, .int .i64 ak] 39)) ?_ (hK _ _ _ (hF.made _ trivial ⟨_, rfl, rfl, Bl.new _ _ _⟩))
      have ec : ∀ v, a.eval (.const v) = v := fun _ => rfl
      clear hF hK
      generalize a.eval = ρ at *
      go_simp
    case r8 =>
      refine step_of rfl rfl ?_
      intro a wx vs fp K hF hK
      have hm : OwnR W4.heap.size 39 5 (1 + n1) (encF ⟨101, 2, 0, 50, bk⟩ ++ flat encF l) [] (vs 5) (fp 5) wx := hF.me 5 rfl
      have hv : LitR 39 (encF ⟨100, 1, dy, 50, ak⟩).toArray (1) [] (vs 7) (fp 7) wx := hF.me 7 rfl
      obtain ⟨gy, hv, hfy, hbl⟩ := hv
      have hrd : Rd wx 5 (some ⟨gy, 0, none⟩) (1) (encF ⟨100, 1, dy, 50, ak⟩) := rd_bl hbl rfl
      refine op_append (.tmp 45) (.tmp 47) 24 rfl W4.heap.size 39 _ 5 40 Try.underlying24 infoF rfl (by decide) (vs 5) (1 + n1) (encF ⟨101, 2, 0, 50, bk⟩ ++ flat encF l) (hF.ev 5 45 rfl rfl) hm.1 (some ⟨gy, 0, none⟩) (1) (1) (encF ⟨100, 1, dy, 50, ak⟩) ((hF.ev 7 47 rfl rfl).trans hv) hrd (encF_one _) (by unfold maxLen; omega) (by omega) hF.below.size ?_
      intro v w' h1 h2 h3
      exact hK _ _ _ (hF.grown 5 rfl hm.2 h2 h3 (fun g hg => own_lt h1 g hg) trivial ⟨by (rw [flat_cons, flat_append, flat_one, ← List.append_assoc]; exact h1), rfl⟩)
    case r9 =>
      refine step_of rfl rfl ?_
      intro a wx vs fp K hF hK
      have hq0 : vs 0 = .agg #[.int .i64 q.id, .int .i64 q.vol, .int .i64 q.fr, .int .i64 q.tod] := hF.va 0 rfl
      have hm : OwnR W4.heap.size 39 5 (1 + n1 + 1) (flat encF (⟨101, 2, 0, 50, bk⟩ :: (l ++ [⟨100, 1, dy, 50, ak⟩]))) [] (vs 8) (fp 8) wx := hF.me 8 rfl
      obtain ⟨B, d, hB⟩ := own_slice hm.1
      have ho := hm.1
      rw [hB] at ho
      refine op_call (vals := #[vs 0, vs 8]) rfl (by kernel_rfl) ?_ ?_
      · simp only [List.map_toArray, List.map_cons, List.map_nil, hF.ev 0 40 rfl rfl, hF.ev 8 48 rfl rfl]
      rw [hq0, hB]
      refine (HAPA.out wx B d hF.below ho).mono ?_
      rintro e w' ⟨fs, B2, d2, rfl, h1, h2, h3, h4, h5⟩
      refine ⟨_, rfl, hK _ _ (Value.slice B2 (1 + n1 + 1) d2).ownBlock.toList (hF.under h5 trivial ⟨B2, d2, rfl, fs, h1, h2, h3, rfl⟩ (fun g hg => ?_))⟩
      have hg2 : (Value.slice B2 (1 + n1 + 1) d2).ownBlock = some g := by simpa using hg
      refine ⟨?_, h3.lt g hg2⟩
      obtain ⟨b, off, rfl, _⟩ := h3.recs.2 (by omega)
      have := h4 b off rfl
      simp [Value.ownBlock] at hg2
      omega
    case r10 =>
      refine step_of rfl rfl ?_
      intro a wx vs fp K hF hK
      have hm : BkR q (1 + n1 + 1) (⟨101, 2, 0, 50, bk⟩ :: (l ++ [⟨100, 1, dy, 50, ak⟩])) (fun b => .tuple #[b, .bool true]) [] (vs 9) (fp 9) wx := hF.me 9 rfl
      exact op_move rfl (hF.ev 9 49 rfl rfl) (hK _ _ _ (hF.hand 9 rfl (by obtain ⟨B, d, h, _⟩ := hm; exact ⟨_, h⟩) hm))
    case r11 =>
      refine step_of rfl rfl ?_
      intro a wx vs fp K hF hK
      have hm : BkR q (1 + n1 + 1) (⟨101, 2, 0, 50, bk⟩ :: (l ++ [⟨100, 1, dy, 50, ak⟩])) (fun b => .tuple #[b, .bool true]) [] (vs 10) (fp 10) wx := hF.me 10 rfl
      obtain ⟨B, d, hv, hb⟩ := hm
      exact op_extract rfl ((hF.ev 10 39 rfl rfl).trans hv) rfl (hK _ _ _ (hF.hand 10 rfl trivial ⟨B, d, rfl, hb⟩))
    case r12 =>
      refine step_of rfl rfl ?_
      intro a wx vs fp K hF hK
      have hm : ∃ x, vs 10 = .tuple #[x, .bool true] := hF.va 10 rfl
      obtain ⟨y, hv⟩ := hm
      exact op_extract rfl ((hF.ev 10 39 rfl rfl).trans hv) rfl (hK _ _ _ (hF.only rfl trivial))
    case r13 =>
      refine step_of rfl rfl ?_
      intro a wx vs fp K hF hK
      refine op_value (v := .pointer (some ⟨wx.heap.size, 0, none⟩)) (w' := wx.alloc (.cells #[.int .i64 0, .int .i64 0, .int .i64 0, .int .i64 0, .slice none 0 0] 26)) ?_ (hK _ _ _ (hF.made _ trivial ⟨_, rfl, rfl, Bl.new _ _ _⟩))
      have ec : ∀ v, a.eval (.const v) = v := fun _ => rfl
      clear hF hK
      generalize a.eval = ρ at *
      go_simp
    case r14 =>
      refine step_of rfl rfl ?_
      intro a wx vs fp K hF hK
      have hm : PtrR 26 #[.int .i64 0, .int .i64 0, .int .i64 0, .int .i64 0, .slice none 0 0] [] (vs 13) (fp 13) wx := hF.me 13 rfl
      have hb : BkR q (1 + n1 + 1) (⟨101, 2, 0, 50, bk⟩ :: (l ++ [⟨100, 1, dy, 50, ak⟩])) (fun b => b) [] (vs 11) (fp 11) wx := hF.me 11 rfl
      obtain ⟨g, hg, hfg, hbl⟩ := hm
      obtain ⟨B, d, hv, hbk⟩ := hb
      have e1 : a.eval (.tmp 12) = .pointer (some ⟨g, 0, none⟩) := (hF.ev 13 12 rfl rfl).trans hg
      have e2 : a.eval (.tmp 50) = .agg #[.int .i64 q.id, .int .i64 q.vol, .int .i64 q.fr, .int .i64 q.tod, .slice B (1 + n1 + 1) d] := (hF.ev 11 50 rfl rfl).trans hv
      have y0 := hbl.c0
      have f0 := hbl.free 0
      have y1 := hbl.c1
      have f1 := hbl.free 1
      have y2 := hbl.c2
      have f2 := hbl.free 2
      have y3 := hbl.c3
      have f3 := hbl.free 3
      have y4 := hbl.c4
      have f4 := hbl.free 4
      refine op_skip (w' := ((((wx.setCell ⟨g, 0, none⟩ (.int .i64 q.id)).setCell ⟨g, 1, none⟩ (.int .i64 q.vol)).setCell ⟨g, 2, none⟩ (.int .i64 q.fr)).setCell ⟨g, 3, none⟩ (.int .i64 q.tod)).setCell ⟨g, 4, none⟩ (.slice B (1 + n1 + 1) d)) ?_ (hK undef _ _ (hF.box (by decide) hg hfg hbl hbk trivial fun _ _ h => h))
      have ec : ∀ v, a.eval (.const v) = v := fun _ => rfl
      clear hF hK
      generalize a.eval = ρ at *
      go_simp
    case r15 =>
      refine step_of rfl rfl ?_
      intro a wx vs fp K hF hK
      exact op_assign rfl (hF.ev 12 51 rfl rfl) (hK _ _ _ (hF.only (hF.va 12 rfl) trivial))
    case fin =>
      intro w5 vs fp hI
      have hok : vs 15 = .bool true := hI.fin 15 (by decide)
      have hM0 : BoxR q (1 + n1 + 1) (⟨101, 2, 0, 50, bk⟩ :: (l ++ [⟨100, 1, dy, 50, ak⟩])) [vs 13, vs 11] (vs 14) (fp 14) w5 := (hI.finM 14 (by decide) rfl).1
      have hM := hM0.out (hI.finM 14 (by decide) rfl).2
      clear hM0
      obtain ⟨ga, BA, dA, fa, hga, hya, hboa, hpma, hfra, hyag, hyab⟩ := hM
      have hga' : vs 13 = .pointer (some ⟨ga, 0, none⟩) := by simpa using hga
      have hb5 := hI.below
      clear hga hI
      simp only [rj, number, putJ, List.map_cons, List.map_nil, if_true, Act.put, List.setIfInBounds_toArray, List.set_cons_zero, List.set_cons_succ, hok, hga']
      generalize vs 0 = gav0
      generalize vs 1 = gav1
      generalize vs 2 = gav2
      generalize vs 3 = gav3
      generalize vs 4 = gav4
      generalize vs 5 = gav5
      generalize vs 6 = gav6
      generalize vs 7 = gav7
      generalize vs 8 = gav8
      generalize vs 9 = gav9
      generalize vs 10 = gav10
      generalize vs 11 = gav11
      generalize vs 12 = gav12
      clear hok hga'
      have hx5 := hx4.keep hb5
      have hx12 : Bl (w5.setCell ⟨g4, 4, none⟩ (.int .i64 (ak - bk))) g4 39 #[.int .i64 100, .int .i64 1, .int .i64 dy, .int .i64 50, .int .i64 (ak - bk)] := by have := (hx11.keep hb5).put 4 (.int .i64 (ak - bk)); simpa using this
      have hne4 : g3 ≠ g4 := fun e => by
        have h1 := hx4
        rw [e] at h1
        have h2 := hx11.symm.trans h1
        simp at h2
      have hx6 : Bl (w5.setCell ⟨g4, 4, none⟩ (.int .i64 (ak - bk))) g3 23 #[.int .i64 q.id, .int .i64 q.vol, .int .i64 q.fr, .int .i64 q.tod] := hx5.far (p := ⟨g4, 4, none⟩) hne4 _
      have hl4 : g4 < W4.heap.size := hx11.lt
      have hB6 : RowKit.Below w.heap.size w (w5.setCell ⟨g4, 4, none⟩ (.int .i64 (ak - bk))) := (hB4.trans (hb5.mono hB4.size)).setCell (p := ⟨g4, 4, none⟩) hg4w _
      have hya6 : Bl (w5.setCell ⟨g4, 4, none⟩ (.int .i64 (ak - bk))) ga 26 #[.int .i64 q.id, .int .i64 q.vol, .int .i64 q.fr, .int .i64 q.tod, .slice BA (1 + n1 + 1) dA] := hya.far (p := ⟨g4, 4, none⟩) (by show ga ≠ g4; omega) _
      have hfra6 : FRd (w5.setCell ⟨g4, 4, none⟩ (.int .i64 (ak - bk))) BA (1 + n1 + 1) dA fa := hfra.of_block (by simp [World.setCell]) fun b e => Below.heap_setCell w5 ⟨g4, 4, none⟩ _ b (by have := hyab b e; show b ≠ g4; omega)
      have HRF2 : Hid (Rd (w5.setCell ⟨g4, 4, none⟩ (.int .i64 (ak - bk))) 5 B1 n1 (flat encF l)) := rd_far (HRF.out.keep hb5) (fun b off e h0 => HAPT.out b off e h0) _
      have y0 : w5.cell? ⟨g4, 4, none⟩ = some (.int .i64 ak) := (hx11.keep hb5).cell 4
      have y1 : w5.frozen? ⟨g4, 4, none⟩ = false := (hx11.keep hb5).free 4
      have us : IntKind.i64.wrap (ak - bk) = ak - bk := IntWalk.i64_in _ (by omega)
      have HBOA := Lib.hid hboa
      have HPMA := Lib.hid hpma
      clear c0 c1 c2 c3 e0 e1 e2 e3 e4 HAPA HRF hx4 hr4 hB4 hx11 hx5 hya hfra hb5 hboa hpma hyab hyag
      go_upto_region 7 with (fail)
      clear y0 y1
      generalize w5.setCell ⟨g4, 4, none⟩ (.int .i64 (ak - bk)) = W6 at *
      have HAPB : Hid (∀ (wx : World) (B : Option Addr) (d : Nat), RowKit.Below W6.heap.size W6 wx → wx.ownsRow W6.heap.size 39 5 (.slice B (n1 + 1) d) (n1 + 1) (flat encF (l ++ [⟨100, 1, dy, 50, ak - bk⟩])) → Calls Try.prog 15 #[.agg #[.int .i64 q.id, .int .i64 q.vol, .int .i64 q.fr, .int .i64 q.tod], .slice B (n1 + 1) d] wx (LaOwn wx q (n1 + 1) (l ++ [⟨100, 1, dy, 50, ak - bk⟩]))) := fun wx B d hb ho => by
        refine lapply_own q B (n1 + 1) d _ wx (Recs.of_own encF_len ho (by rw [List.length_append, HL.out]; simp)) (by omega) HF.out.qok (fun x hx => ?_) (nodup_new HF.out 100 (by omega))
        rcases List.mem_append.1 hx with hx | hx
        · exact (HF.out.each x hx).1
        · rw [List.mem_singleton] at hx; subst hx; exact fErr_ak (by omega) (by omega) (by omega) HDY.out.1 HDY.out.2
      have c0 : W6.cell? ⟨g3, 0, none⟩ = some (.int .i64 q.id) := hx6.cell 0
      have c1 : W6.cell? ⟨g3, 1, none⟩ = some (.int .i64 q.vol) := hx6.cell 1
      have c2 : W6.cell? ⟨g3, 2, none⟩ = some (.int .i64 q.fr) := hx6.cell 2
      have c3 : W6.cell? ⟨g3, 3, none⟩ = some (.int .i64 q.tod) := hx6.cell 3
      have e0 : W6.cell? ⟨g4, 0, none⟩ = some (.int .i64 100) := hx12.cell 0
      have e1 : W6.cell? ⟨g4, 1, none⟩ = some (.int .i64 1) := hx12.cell 1
      have e2 : W6.cell? ⟨g4, 2, none⟩ = some (.int .i64 dy) := hx12.cell 2
      have e3 : W6.cell? ⟨g4, 3, none⟩ = some (.int .i64 50) := hx12.cell 3
      have e4 : W6.cell? ⟨g4, 4, none⟩ = some (.int .i64 (ak - bk)) := hx12.cell 4
      refine wp_region_rows [
          ⟨⟨some 57, [], []⟩, fun _ v => v = .agg #[.int .i64 q.id, .int .i64 q.vol, .int .i64 q.fr, .int .i64 q.tod], NoR⟩,
          ⟨⟨some 58, [], []⟩, NoF, OwnR W6.heap.size 39 5 0 ([])⟩,
          ⟨⟨some 59, [], []⟩, fun _ v => v = .slice B1 n1 d1, NoR⟩,
          ⟨⟨some 60, [1, 2], [1]⟩, NoF, OwnR W6.heap.size 39 5 (n1) (flat encF l)⟩,
          ⟨⟨some 61, [], []⟩, fun _ v => v = .agg #[.int .i64 100, .int .i64 1, .int .i64 dy, .int .i64 50, .int .i64 (ak - bk)], NoR⟩,
          ⟨⟨some 62, [4], []⟩, NoF, LitR 39 (encF ⟨100, 1, dy, 50, ak - bk⟩).toArray 1⟩,
          ⟨⟨some 63, [3, 5], [3, 5]⟩, NoF, OwnR W6.heap.size 39 5 (n1 + 1) (flat encF (l ++ [⟨100, 1, dy, 50, ak - bk⟩]))⟩,
          ⟨⟨some 64, [0, 6], [6]⟩, NoF, BkR q (n1 + 1) (l ++ [⟨100, 1, dy, 50, ak - bk⟩]) (fun b => .tuple #[b, .bool true])⟩,
          ⟨⟨some 56, [7], [7]⟩, fun _ v => ∃ x, v = .tuple #[x, .bool true], BkR q (n1 + 1) (l ++ [⟨100, 1, dy, 50, ak - bk⟩]) (fun b => .tuple #[b, .bool true])⟩,
          ⟨⟨some 65, [8], [8]⟩, NoF, BkR q (n1 + 1) (l ++ [⟨100, 1, dy, 50, ak - bk⟩]) (fun b => b)⟩,
          ⟨⟨some 66, [8], []⟩, fun _ v => v = .bool true, NoR⟩,
          ⟨⟨some 14, [], []⟩, NoF, PtrR 26 #[.int .i64 0, .int .i64 0, .int .i64 0, .int .i64 0, .slice none 0 0]⟩,
          ⟨⟨none, [11, 9], [11, 9]⟩, NoF, BoxR q (n1 + 1) (l ++ [⟨100, 1, dy, 50, ak - bk⟩])⟩,
          ⟨⟨some 15, [10], []⟩, fun _ v => v = .bool true, NoR⟩] (by kernel_rfl) (by kernel_rfl) (by kernel_rfl) ⟨NoR.loc, OwnR.loc, NoR.loc, OwnR.loc, NoR.loc, LitR.loc, OwnR.loc, BkR.loc (mk := fun b => .tuple #[b, .bool true]), BkR.loc (mk := fun b => .tuple #[b, .bool true]), BkR.loc (mk := fun b => b), NoR.loc, PtrR.loc, BoxR.loc, NoR.loc, trivial⟩ ⟨?r0, ?r1, ?r2, ?r3, ?r4, ?r5, ?r6, ?r7, ?r8, ?r9, ?r10, ?r11, ?r12, ?r13, trivial⟩ ?fin
      case r0 =>
        refine step_of rfl rfl ?_
        intro a wx vs fp K hF hK
        have ea : a.eval (.tmp 9) = .pointer (some ⟨g3, 0, none⟩) := hF.at_ 9 rfl
        have m0 := (hF.below.cell (p := ⟨g3, 0, none⟩) hx6.lt).trans c0
        have m1 := (hF.below.cell (p := ⟨g3, 1, none⟩) hx6.lt).trans c1
        have m2 := (hF.below.cell (p := ⟨g3, 2, none⟩) hx6.lt).trans c2
        have m3 := (hF.below.cell (p := ⟨g3, 3, none⟩) hx6.lt).trans c3
        refine op_value (v := .agg #[.int .i64 q.id, .int .i64 q.vol, .int .i64 q.fr, .int .i64 q.tod]) ?_ (hK _ _ _ (hF.only rfl trivial))
        have ec : ∀ v, a.eval (.const v) = v := fun _ => rfl
        clear hF hK
        generalize a.eval = ρ at *
        go_simp
      case r1 =>
        refine step_of rfl rfl ?_
        intro a wx vs fp K hF hK
        refine op_value (v := .slice (some ⟨wx.heap.size, 0, none⟩) 0 0) (w' := wx.alloc (.cells #[] 39)) ?_ (hK _ _ _ (hF.made _ trivial ⟨own_lit (Bl.new _ _ _) hF.below.size rfl (by decide), rfl⟩))
        have ec : ∀ v, a.eval (.const v) = v := fun _ => rfl
        clear hF hK
        generalize a.eval = ρ at *
        go_simp
      case r2 =>
        refine step_of rfl rfl ?_
        intro a wx vs fp K hF hK
        exact op_move rfl (hF.at_ 10 rfl) (hK _ _ _ (hF.only rfl trivial))
      case r3 =>
        refine step_of rfl rfl ?_
        intro a wx vs fp K hF hK
        have hm : OwnR W6.heap.size 39 5 (0) ([]) [] (vs 1) (fp 1) wx := hF.me 1 rfl
        have hv : vs 2 = .slice B1 n1 d1 := hF.va 2 rfl
        have hrd := HRF2.out.keep hF.below
        refine op_append (.tmp 58) (.tmp 59) 24 rfl W6.heap.size 39 _ 5 40 Try.underlying24 infoF rfl (by decide) (vs 1) (0) ([]) (hF.ev 1 58 rfl rfl) hm.1 B1 n1 d1 (flat encF l) ((hF.ev 2 59 rfl rfl).trans hv) hrd (HONE.out) (by unfold maxLen; omega) (by omega) hF.below.size ?_
        intro v w' h1 h2 h3
        exact hK _ _ _ (hF.grown 1 rfl hm.2 h2 h3 (fun g hg => own_lt h1 g hg) trivial ⟨by simpa using h1, rfl⟩)
      case r4 =>
        refine step_of rfl rfl ?_
        intro a wx vs fp K hF hK
        have ea : a.eval (.tmp 11) = .pointer (some ⟨g4, 0, none⟩) := hF.at_ 11 rfl
        have m0 := (hF.below.cell (p := ⟨g4, 0, none⟩) hx12.lt).trans e0
        have m1 := (hF.below.cell (p := ⟨g4, 1, none⟩) hx12.lt).trans e1
        have m2 := (hF.below.cell (p := ⟨g4, 2, none⟩) hx12.lt).trans e2
        have m3 := (hF.below.cell (p := ⟨g4, 3, none⟩) hx12.lt).trans e3
        have m4 := (hF.below.cell (p := ⟨g4, 4, none⟩) hx12.lt).trans e4
        refine op_value (v := .agg #[.int .i64 100, .int .i64 1, .int .i64 dy, .int .i64 50, .int .i64 (ak - bk)]) ?_ (hK _ _ _ (hF.only rfl trivial))
        have ec : ∀ v, a.eval (.const v) = v := fun _ => rfl
        clear hF hK
        generalize a.eval = ρ at *
        go_simp
      case r5 =>
        refine step_of rfl rfl ?_
        intro a wx vs fp K hF hK
        have e4 : a.eval (.tmp 61) = .agg #[.int .i64 100, .int .i64 1, .int .i64 dy, .int .i64 50, .int .i64 (ak - bk)] := (hF.ev 4 61 rfl rfl).trans (hF.va 4 rfl)
        refine op_value (v := .slice (some ⟨wx.heap.size, 0, none⟩) 1 1) (w' := wx.alloc (.cells #[.int .i64 100, .int .i64 1, .int .i64 dy, .int .i64 50, .int .i64 (ak - bk)] 39)) ?_ (hK _ _ _ (hF.made _ trivial ⟨_, rfl, rfl, Bl.new _ _ _⟩))
        have ec : ∀ v, a.eval (.const v) = v := fun _ => rfl
        clear hF hK
        generalize a.eval = ρ at *
        go_simp
      case r6 =>
        refine step_of rfl rfl ?_
        intro a wx vs fp K hF hK
        have hm : OwnR W6.heap.size 39 5 (n1) (flat encF l) [] (vs 3) (fp 3) wx := hF.me 3 rfl
        have hv : LitR 39 (encF ⟨100, 1, dy, 50, ak - bk⟩).toArray (1) [] (vs 5) (fp 5) wx := hF.me 5 rfl
        obtain ⟨gy, hv, hfy, hbl⟩ := hv
        have hrd : Rd wx 5 (some ⟨gy, 0, none⟩) (1) (encF ⟨100, 1, dy, 50, ak - bk⟩) := rd_bl hbl rfl
        refine op_append (.tmp 60) (.tmp 62) 24 rfl W6.heap.size 39 _ 5 40 Try.underlying24 infoF rfl (by decide) (vs 3) (n1) (flat encF l) (hF.ev 3 60 rfl rfl) hm.1 (some ⟨gy, 0, none⟩) (1) (1) (encF ⟨100, 1, dy, 50, ak - bk⟩) ((hF.ev 5 62 rfl rfl).trans hv) hrd (encF_one _) (by unfold maxLen; omega) (by omega) hF.below.size ?_
        intro v w' h1 h2 h3
        exact hK _ _ _ (hF.grown 3 rfl hm.2 h2 h3 (fun g hg => own_lt h1 g hg) trivial ⟨by (rw [flat_append, flat_one]; exact h1), rfl⟩)
      case r7 =>
        refine step_of rfl rfl ?_
        intro a wx vs fp K hF hK
        have hq0 : vs 0 = .agg #[.int .i64 q.id, .int .i64 q.vol, .int .i64 q.fr, .int .i64 q.tod] := hF.va 0 rfl
        have hm : OwnR W6.heap.size 39 5 (n1 + 1) (flat encF (l ++ [⟨100, 1, dy, 50, ak - bk⟩])) [] (vs 6) (fp 6) wx := hF.me 6 rfl
        obtain ⟨B, d, hB⟩ := own_slice hm.1
        have ho := hm.1
        rw [hB] at ho
        refine op_call (vals := #[vs 0, vs 6]) rfl (by kernel_rfl) ?_ ?_
        · simp only [List.map_toArray, List.map_cons, List.map_nil, hF.ev 0 57 rfl rfl, hF.ev 6 63 rfl rfl]
        rw [hq0, hB]
        refine (HAPB.out wx B d hF.below ho).mono ?_
        rintro e w' ⟨fs, B2, d2, rfl, h1, h2, h3, h4, h5⟩
        refine ⟨_, rfl, hK _ _ (Value.slice B2 (n1 + 1) d2).ownBlock.toList (hF.under h5 trivial ⟨B2, d2, rfl, fs, h1, h2, h3, rfl⟩ (fun g hg => ?_))⟩
        have hg2 : (Value.slice B2 (n1 + 1) d2).ownBlock = some g := by simpa using hg
        refine ⟨?_, h3.lt g hg2⟩
        obtain ⟨b, off, rfl, _⟩ := h3.recs.2 (by omega)
        have := h4 b off rfl
        simp [Value.ownBlock] at hg2
        omega
      case r8 =>
        refine step_of rfl rfl ?_
        intro a wx vs fp K hF hK
        have hm : BkR q (n1 + 1) (l ++ [⟨100, 1, dy, 50, ak - bk⟩]) (fun b => .tuple #[b, .bool true]) [] (vs 7) (fp 7) wx := hF.me 7 rfl
        exact op_move rfl (hF.ev 7 64 rfl rfl) (hK _ _ _ (hF.hand 7 rfl (by obtain ⟨B, d, h, _⟩ := hm; exact ⟨_, h⟩) hm))
      case r9 =>
        refine step_of rfl rfl ?_
        intro a wx vs fp K hF hK
        have hm : BkR q (n1 + 1) (l ++ [⟨100, 1, dy, 50, ak - bk⟩]) (fun b => .tuple #[b, .bool true]) [] (vs 8) (fp 8) wx := hF.me 8 rfl
        obtain ⟨B, d, hv, hb⟩ := hm
        exact op_extract rfl ((hF.ev 8 56 rfl rfl).trans hv) rfl (hK _ _ _ (hF.hand 8 rfl trivial ⟨B, d, rfl, hb⟩))
      case r10 =>
        refine step_of rfl rfl ?_
        intro a wx vs fp K hF hK
        have hm : ∃ x, vs 8 = .tuple #[x, .bool true] := hF.va 8 rfl
        obtain ⟨y, hv⟩ := hm
        exact op_extract rfl ((hF.ev 8 56 rfl rfl).trans hv) rfl (hK _ _ _ (hF.only rfl trivial))
      case r11 =>
        refine step_of rfl rfl ?_
        intro a wx vs fp K hF hK
        refine op_value (v := .pointer (some ⟨wx.heap.size, 0, none⟩)) (w' := wx.alloc (.cells #[.int .i64 0, .int .i64 0, .int .i64 0, .int .i64 0, .slice none 0 0] 26)) ?_ (hK _ _ _ (hF.made _ trivial ⟨_, rfl, rfl, Bl.new _ _ _⟩))
        have ec : ∀ v, a.eval (.const v) = v := fun _ => rfl
        clear hF hK
        generalize a.eval = ρ at *
        go_simp
      case r12 =>
        refine step_of rfl rfl ?_
        intro a wx vs fp K hF hK
        have hm : PtrR 26 #[.int .i64 0, .int .i64 0, .int .i64 0, .int .i64 0, .slice none 0 0] [] (vs 11) (fp 11) wx := hF.me 11 rfl
        have hb : BkR q (n1 + 1) (l ++ [⟨100, 1, dy, 50, ak - bk⟩]) (fun b => b) [] (vs 9) (fp 9) wx := hF.me 9 rfl
        obtain ⟨g, hg, hfg, hbl⟩ := hm
        obtain ⟨B, d, hv, hbk⟩ := hb
        have e1 : a.eval (.tmp 14) = .pointer (some ⟨g, 0, none⟩) := (hF.ev 11 14 rfl rfl).trans hg
        have e2 : a.eval (.tmp 65) = .agg #[.int .i64 q.id, .int .i64 q.vol, .int .i64 q.fr, .int .i64 q.tod, .slice B (n1 + 1) d] := (hF.ev 9 65 rfl rfl).trans hv
        have y0 := hbl.c0
        have f0 := hbl.free 0
        have y1 := hbl.c1
        have f1 := hbl.free 1
        have y2 := hbl.c2
        have f2 := hbl.free 2
        have y3 := hbl.c3
        have f3 := hbl.free 3
        have y4 := hbl.c4
        have f4 := hbl.free 4
        refine op_skip (w' := ((((wx.setCell ⟨g, 0, none⟩ (.int .i64 q.id)).setCell ⟨g, 1, none⟩ (.int .i64 q.vol)).setCell ⟨g, 2, none⟩ (.int .i64 q.fr)).setCell ⟨g, 3, none⟩ (.int .i64 q.tod)).setCell ⟨g, 4, none⟩ (.slice B (n1 + 1) d)) ?_ (hK undef _ _ (hF.box (by decide) hg hfg hbl hbk trivial fun _ _ h => h))
        have ec : ∀ v, a.eval (.const v) = v := fun _ => rfl
        clear hF hK
        generalize a.eval = ρ at *
        go_simp
      case r13 =>
        refine step_of rfl rfl ?_
        intro a wx vs fp K hF hK
        exact op_assign rfl (hF.ev 10 66 rfl rfl) (hK _ _ _ (hF.only (hF.va 10 rfl) trivial))
      case fin =>
        intro w7 vs fp hI
        have hok : vs 13 = .bool true := hI.fin 13 (by decide)
        have hM0 : BoxR q (n1 + 1) (l ++ [⟨100, 1, dy, 50, ak - bk⟩]) [vs 11, vs 9] (vs 12) (fp 12) w7 := (hI.finM 12 (by decide) rfl).1
        have hM := hM0.out (hI.finM 12 (by decide) rfl).2
        clear hM0
        obtain ⟨gb, BB, dB, fb, hga, hzb, hbob, hpmb, hfrb, hzbg, hzbb⟩ := hM
        have hga' : vs 11 = .pointer (some ⟨gb, 0, none⟩) := by simpa using hga
        have hb7 := hI.below
        clear hga hI
        simp only [rj, number, putJ, List.map_cons, List.map_nil, if_true, Act.put, List.setIfInBounds_toArray, List.set_cons_zero, List.set_cons_succ, hok, hga']
        generalize vs 0 = gbv0
        generalize vs 1 = gbv1
        generalize vs 2 = gbv2
        generalize vs 3 = gbv3
        generalize vs 4 = gbv4
        generalize vs 5 = gbv5
        generalize vs 6 = gbv6
        generalize vs 7 = gbv7
        generalize vs 8 = gbv8
        generalize vs 9 = gbv9
        generalize vs 10 = gbv10
        clear hok hga'
        have HY := Lib.hid (hya6.keep hb7)
        have HZ := Lib.hid hzb
        have hB5 := hB6.trans (hb7.mono hB6.size)
        have HFA := Lib.hid (hfra6.below hb7)
        have HFB := Lib.hid hfrb
        have HBOB := Lib.hid hbob
        have HPMB := Lib.hid hpmb
        clear c0 c1 c2 c3 e0 e1 e2 e3 e4 HAPB HRF2 HONE hx6 hx12 hya6 hfra6 hzb hfrb hbob hpmb hb7 hB6 hzbg hzbb
        have HRS : Hid (∀ (g1 g2 : List Rq) (b1 b2 : Int), Settled fa q.vol g1 b1 → Settled fb q.vol g2 b2 → g1 = g2 ∧ b1 = b2) := fun g1 g2 b1 b2 s1 s2 => return_same (fun x hx => (HF.out.each x hx).2.2.1) hk0 (by omega) HPMA.out HBOA.out.asc HPMB.out HBOB.out.asc s1 s2
        generalize w7 = W5 at *
        have HGA : Hid (∀ wx, RowKit.Below W5.heap.size W5 wx → Calls Try.prog 20 #[.agg #[.int .i64 q.id, .int .i64 q.vol, .int .i64 q.fr, .int .i64 q.tod, .slice BA (1 + n1 + 1) dA]] wx fun e w' => ∃ (C : Option Addr) (mm dd : Nat) (gs : List Rq) (bal : Int), e = .returned (.slice C mm dd) ∧ Hid (Settled fa q.vol gs bal) ∧ mm ≤ 200 ∧ Hid (Recs enc2 2 w' C mm (grs gs)) ∧ Hid (RowKit.Below W5.heap.size W5 w')) := fun wx hb => (grants_any q BA (1 + n1 + 1) dA fa wx (HFA.out.recs.below hb) HBOA.out).mono fun e w' ⟨C, mm, dd, gs, bal, h1, h2, h3, h4, h5, h6⟩ => ⟨C, mm, dd, gs, bal, h1, h2, h4, Recs.of_own enc2_len h5 (by rw [grs_len, h3]), hb.trans (h6.mono hb.size)⟩
        have HGB : Hid (∀ wx, RowKit.Below W5.heap.size W5 wx → Calls Try.prog 20 #[.agg #[.int .i64 q.id, .int .i64 q.vol, .int .i64 q.fr, .int .i64 q.tod, .slice BB (n1 + 1) dB]] wx fun e w' => ∃ (C : Option Addr) (mm dd : Nat) (gs : List Rq) (bal : Int), e = .returned (.slice C mm dd) ∧ Hid (Settled fb q.vol gs bal) ∧ mm ≤ 200 ∧ Hid (Recs enc2 2 w' C mm (grs gs)) ∧ Hid (RowKit.Below W5.heap.size W5 w') ∧ Hid (RowKit.Below wx.heap.size wx w')) := fun wx hb => (grants_any q BB (n1 + 1) dB fb wx (HFB.out.recs.below hb) HBOB.out).mono fun e w' ⟨C, mm, dd, gs, bal, h1, h2, h3, h4, h5, h6⟩ => ⟨C, mm, dd, gs, bal, h1, h2, h4, Recs.of_own enc2_len h5 (by rw [grs_len, h3]), hb.trans (h6.mono hb.size), h6⟩
        have HSG : Hid (∀ (C1 : Option Addr) (m1 d1 : Nat) (g1 : List Rq) (b1 : Int) (C2 : Option Addr) (m2 d2 : Nat) (g2 : List Rq) (b2 : Int) (w2 w3 : World), Settled fa q.vol g1 b1 → Recs enc2 2 w2 C1 m1 (grs g1) → m1 ≤ 200 → Settled fb q.vol g2 b2 → Recs enc2 2 w3 C2 m2 (grs g2) → RowKit.Below w2.heap.size w2 w3 → RowKit.Below W5.heap.size W5 w3 → Calls Try.prog 19 #[.slice C1 m1 d1, .slice C2 m2 d2] w3 fun e w' => e = .returned (.bool true) ∧ Hid (RowKit.Below W5.heap.size W5 w')) := fun C1 m1 d1 g1 b1 C2 m2 d2 g2 b2 w2 w3 s1 r1 hm s2 r2 hb hbW => by
          obtain ⟨rfl, _⟩ := HRS.out _ _ _ _ s1 s2
          obtain rfl : m1 = m2 := r1.1.symm.trans r2.1
          exact (sameGrants_true C1 C2 m1 d1 d2 _ w3 (r1.below hb) r2 (by omega)).mono fun e w' ⟨h1, h2⟩ => ⟨h1, hbW.trans (h2.mono hbW.size)⟩
        have HBAa : Hid (∀ (wx : World) (g2 : List Rq) (b2 : Int), Settled fa q.vol g2 b2 → RowKit.Below W5.heap.size W5 wx → Calls Try.prog 21 #[.agg #[.int .i64 q.id, .int .i64 q.vol, .int .i64 q.fr, .int .i64 q.tod, .slice BA (1 + n1 + 1) dA]] wx fun e w' => e = .returned (.int .i64 b2) ∧ Hid (RowKit.Below W5.heap.size W5 w')) := fun wx g2 b2 hs hb => (balance_any q BA (1 + n1 + 1) dA fa wx (HFA.out.recs.below hb) HBOA.out).mono fun e w' ⟨gs, bal, h1, h2, h3⟩ => ⟨by rw [h1, (h2.unique hs).2], hb.trans (h3.mono hb.size)⟩
        have HBAb : Hid (∀ (wx : World) (g2 : List Rq) (b2 : Int), Settled fa q.vol g2 b2 → RowKit.Below W5.heap.size W5 wx → Calls Try.prog 21 #[.agg #[.int .i64 q.id, .int .i64 q.vol, .int .i64 q.fr, .int .i64 q.tod, .slice BB (n1 + 1) dB]] wx fun e w' => e = .returned (.int .i64 b2) ∧ Hid (RowKit.Below W5.heap.size W5 w')) := fun wx g2 b2 hs hb => (balance_any q BB (n1 + 1) dB fb wx (HFB.out.recs.below hb) HBOB.out).mono fun e w' ⟨gs, bal, h1, h2, h3⟩ => ⟨by rw [h1, (HRS.out _ _ _ _ hs h2).2], hb.trans (h3.mono hb.size)⟩
        have HAW2 : Hid (∀ wx, RowKit.Below W5.heap.size W5 wx → Calls Try.prog 13 #[] wx fun e w' => e = .returned (.bool true) ∧ Hid (RowKit.Below W5.heap.size W5 w')) := fun wx hb => (HAW.out wx).mono fun e w' ⟨h1, h2⟩ => ⟨h1, hb.trans (h2.mono hb.size)⟩
        have hv1 : Hid (RowKit.Below W5.heap.size W5 W5.drew) := (Below.refl _ _).drew
        go_upto_region 8 with (fail)
        go_region_held3 (fun w' => w'.cell? ⟨ga, 0, none⟩ = some (.int .i64 q.id) ∧ w'.cell? ⟨ga, 1, none⟩ = some (.int .i64 q.vol) ∧ w'.cell? ⟨ga, 2, none⟩ = some (.int .i64 q.fr) ∧ w'.cell? ⟨ga, 3, none⟩ = some (.int .i64 q.tod) ∧ w'.cell? ⟨ga, 4, none⟩ = some (.slice BA (1 + n1 + 1) dA) ∧ w'.cell? ⟨gb, 0, none⟩ = some (.int .i64 q.id) ∧ w'.cell? ⟨gb, 1, none⟩ = some (.int .i64 q.vol) ∧ w'.cell? ⟨gb, 2, none⟩ = some (.int .i64 q.fr) ∧ w'.cell? ⟨gb, 3, none⟩ = some (.int .i64 q.tod) ∧ w'.cell? ⟨gb, 4, none⟩ = some (.slice BB (n1 + 1) dB))
          (first
            | with_reducible exact ⟨(HY.out.keep hv7.out).c0, (HY.out.keep hv7.out).c1, (HY.out.keep hv7.out).c2, (HY.out.keep hv7.out).c3, (HY.out.keep hv7.out).c4, (HZ.out.keep hv7.out).c0, (HZ.out.keep hv7.out).c1, (HZ.out.keep hv7.out).c2, (HZ.out.keep hv7.out).c3, (HZ.out.keep hv7.out).c4⟩
            | with_reducible exact ⟨(HY.out.keep hv6.out).c0, (HY.out.keep hv6.out).c1, (HY.out.keep hv6.out).c2, (HY.out.keep hv6.out).c3, (HY.out.keep hv6.out).c4, (HZ.out.keep hv6.out).c0, (HZ.out.keep hv6.out).c1, (HZ.out.keep hv6.out).c2, (HZ.out.keep hv6.out).c3, (HZ.out.keep hv6.out).c4⟩
            | with_reducible exact ⟨(HY.out.keep hv5.out).c0, (HY.out.keep hv5.out).c1, (HY.out.keep hv5.out).c2, (HY.out.keep hv5.out).c3, (HY.out.keep hv5.out).c4, (HZ.out.keep hv5.out).c0, (HZ.out.keep hv5.out).c1, (HZ.out.keep hv5.out).c2, (HZ.out.keep hv5.out).c3, (HZ.out.keep hv5.out).c4⟩
            | with_reducible exact ⟨(HY.out.keep hv4.out).c0, (HY.out.keep hv4.out).c1, (HY.out.keep hv4.out).c2, (HY.out.keep hv4.out).c3, (HY.out.keep hv4.out).c4, (HZ.out.keep hv4.out).c0, (HZ.out.keep hv4.out).c1, (HZ.out.keep hv4.out).c2, (HZ.out.keep hv4.out).c3, (HZ.out.keep hv4.out).c4⟩
            | with_reducible exact ⟨(HY.out.keep hv3.out).c0, (HY.out.keep hv3.out).c1, (HY.out.keep hv3.out).c2, (HY.out.keep hv3.out).c3, (HY.out.keep hv3.out).c4, (HZ.out.keep hv3.out).c0, (HZ.out.keep hv3.out).c1, (HZ.out.keep hv3.out).c2, (HZ.out.keep hv3.out).c3, (HZ.out.keep hv3.out).c4⟩
            | with_reducible exact ⟨(HY.out.keep hv2.out).c0, (HY.out.keep hv2.out).c1, (HY.out.keep hv2.out).c2, (HY.out.keep hv2.out).c3, (HY.out.keep hv2.out).c4, (HZ.out.keep hv2.out).c0, (HZ.out.keep hv2.out).c1, (HZ.out.keep hv2.out).c2, (HZ.out.keep hv2.out).c3, (HZ.out.keep hv2.out).c4⟩
            | with_reducible exact ⟨(HY.out.keep hv1.out).c0, (HY.out.keep hv1.out).c1, (HY.out.keep hv1.out).c2, (HY.out.keep hv1.out).c3, (HY.out.keep hv1.out).c4, (HZ.out.keep hv1.out).c0, (HZ.out.keep hv1.out).c1, (HZ.out.keep hv1.out).c2, (HZ.out.keep hv1.out).c3, (HZ.out.keep hv1.out).c4⟩
            | go_keep)
          (first
            | (go_at_call 20; with_reducible (refine (HGA.out _ hv1.out).mono ?_); rintro e v2 ⟨C2, m2, e2, s2, b2, rfl, hs2, hm2, hr2, hv2⟩)
            | (go_at_call 20; with_reducible (refine (HGB.out _ hv2.out).mono ?_); rintro e v3 ⟨C3, m3, e3, s3, b3, rfl, hs3, hm3, hr3, hv3, hvv3⟩)
            | (go_at_call 19; with_reducible (refine (HSG.out _ _ _ _ _ _ _ _ _ _ _ _ hs2.out hr2.out hm2 hs3.out hr3.out hvv3.out hv3.out).mono ?_); rintro e v4 ⟨rfl, hv4⟩)
            | (go_at_call 21; with_reducible (refine (HBAa.out _ _ _ hs2.out hv4.out).mono ?_); rintro e v5 ⟨rfl, hv5⟩)
            | (go_at_call 21; with_reducible (refine (HBAb.out _ _ _ hs2.out hv5.out).mono ?_); rintro e v6 ⟨rfl, hv6⟩)
            | (go_at_call 13; with_reducible (refine (HAW2.out _ hv6.out).mono ?_); rintro e v7 ⟨rfl, hv7⟩))
        go_wp2
        go_ret
        exact ⟨rfl, hB5.trans (hv7.out.mono hB5.size)⟩
end Go.Proofs.Ytemhiifgplaldaa

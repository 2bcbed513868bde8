/-
  Contracts of customsmade's Currency, Currencies and Table. No statement of the seat is proved here. Conditions: the list reads as integers, its length is at most its capacity.
-/
import Derived.Test.YtknbbamlpadfdaaTot17
namespace Go.Proofs.Ytknbbamlpadfdaa
open Go.RowKit
set_option linter.unusedVariables false

def StrRes (w : World) (e : Ending) (w' : World) : Prop := ∃ s : ByteArray, e = .returned (.string s) ∧ s.size = 3 ∧ RowKit.Below w.heap.size w w'

set_option maxRecDepth 100000 in
set_option maxHeartbeats 1000000 in
theorem currency_any (x : Int) (w : World) : Calls Try.prog 22 #[.int .i64 x] w (StrRes w) := by
  have HW := Lib.hid (fun w => within_any x 5 w (by omega) (by omega))
  have h0 := Int.emod_nonneg x (show (5 : Int) ≠ 0 by omega)
  have h1 := Int.emod_lt_of_pos x (show (0 : Int) < 5 by omega)
  generalize x % 5 = y at *
  obtain ⟨k, rfl⟩ : ∃ k : Nat, y = k := ⟨y.toNat, by omega⟩
  have hc : ∃ s : ByteArray, (#[Value.string ⟨#[67, 72, 70]⟩, .string ⟨#[71, 66, 80]⟩, .string ⟨#[85, 83, 68]⟩, .string ⟨#[69, 85, 82]⟩, .string ⟨#[88, 88, 88]⟩] : Array Value)[k]? = some (.string s) ∧ s.size = 3 := by
    have hk : k = 0 ∨ k = 1 ∨ k = 2 ∨ k = 3 ∨ k = 4 := by omega
    rcases hk with rfl | rfl | rfl | rfl | rfl
    · exact ⟨⟨#[67, 72, 70]⟩, rfl, rfl⟩
    · exact ⟨⟨#[71, 66, 80]⟩, rfl, rfl⟩
    · exact ⟨⟨#[85, 83, 68]⟩, rfl, rfl⟩
    · exact ⟨⟨#[69, 85, 82]⟩, rfl, rfl⟩
    · exact ⟨⟨#[88, 88, 88]⟩, rfl, rfl⟩
  obtain ⟨s, hs, hz⟩ := hc
  have hq := ((Bl.new w 9 #[Value.string ⟨#[67, 72, 70]⟩, .string ⟨#[71, 66, 80]⟩, .string ⟨#[85, 83, 68]⟩, .string ⟨#[69, 85, 82]⟩, .string ⟨#[88, 88, 88]⟩]).cell k).trans hs
  have HB : Hid (RowKit.Below w.heap.size w (w.alloc (.cells #[Value.string ⟨#[67, 72, 70]⟩, .string ⟨#[71, 66, 80]⟩, .string ⟨#[85, 83, 68]⟩, .string ⟨#[69, 85, 82]⟩, .string ⟨#[88, 88, 88]⟩] 9))) := (Below.refl _ _).alloc (Nat.le_refl _) _
  have HZ := Lib.hid hz
  have i1 : (0 : Int) ≤ (k : Int) := by omega
  have i2 : (k : Int) < 5 := by omega
  clear hs hz
  go_enter Try.func22, Try.ntmps22
  go_wp2_with fail
  generalize w.alloc (.cells #[Value.string ⟨#[67, 72, 70]⟩, .string ⟨#[71, 66, 80]⟩, .string ⟨#[85, 83, 68]⟩, .string ⟨#[69, 85, 82]⟩, .string ⟨#[88, 88, 88]⟩] 9) = W at *
  refine (HW.out _).mono ?_
  rintro e w1 ⟨rfl, rfl⟩
  go_wp2
  go_ret
  exact ⟨s, rfl, HZ.out, HB.out⟩

/-- Three strings of three bytes. -/
def curs3 : Array Value := #[Value.string ⟨#[67, 72, 70]⟩, .string ⟨#[71, 66, 80]⟩, .string ⟨#[85, 83, 68]⟩]
theorem curs3_get (k : Nat) (h : k < 3) : ∃ s : ByteArray, curs3[k]? = some (.string s) ∧ s.size = 3 := by
  have hk : k = 0 ∨ k = 1 ∨ k = 2 := by omega
  rcases hk with rfl | rfl | rfl
  · exact ⟨⟨#[67, 72, 70]⟩, rfl, rfl⟩
  · exact ⟨⟨#[71, 66, 80]⟩, rfl, rfl⟩
  · exact ⟨⟨#[85, 83, 68]⟩, rfl, rfl⟩
theorem currencies_any (w : World) : Calls Try.prog 28 #[] w fun e w' => e = .returned (.slice (some ⟨w.heap.size, 0, none⟩) 3 3) ∧ w' = w.alloc (.cells curs3 9) := by
  go_enter Try.func28, Try.ntmps28
  go_wp2
  go_ret
  exact ⟨rfl, rfl⟩

theorem infoX : (Try.prog.info? 61).map (fun i => (i.zero, i.size, i.bytes)) = some (some (.agg #[.string ⟨#[]⟩, .int .i64 0, .int .i64 0]), 3, 32) := by kernel_rfl

/-- The table that is made. -/
def TabRes (w : World) (T : TypeId) (e : Ending) (w' : World) : Prop := ∃ (A : Option Addr) (n c : Nat) (ts : List Exch), e = .returned (.slice A n c) ∧ ts.length = n ∧ n ≤ 9 ∧ (∀ x ∈ ts, x.cur.size = 3) ∧ w'.ownsRow w.heap.size T 3 (.slice A n c) n (flat encX ts) ∧ RowKit.Below w.heap.size w w'

set_option maxRecDepth 100000 in
set_option maxHeartbeats 8000000 in
theorem table_any (A : Option Addr) (n c : Nat) (xs : List Int) (w : World) (h : Ints w A n xs) (hnc : n ≤ c) (hcm : c ≤ 9223372036854775807) :
    Calls Try.prog 15 #[.slice A n c] w (TabRes w 61) := by
  have hT := h.take (m := min n 40) (by omega)
  obtain ⟨m, hm⟩ : ∃ m, m = min n 40 := ⟨_, rfl⟩
  have HC := Lib.hid (cut_any A n c 40 xs w h hnc hcm (by omega) (by omega))
  unfold CutRes at HC
  rw [← hm] at hT HC
  have hm1 : m ≤ 40 := by omega
  clear hm h
  obtain ⟨i0, hi0, hz0, hz1, hz2⟩ := info_parts infoX
  go_enter Try.func15, Try.ntmps15
  go_wp2_with fail
  refine HC.out.mono ?_
  rintro e w' ⟨rfl, rfl⟩
  go_wp2_with fail
  refine (currencies_any _).mono ?_
  rintro e w1 ⟨rfl, rfl⟩
  have hS0 : Src ((w.alloc (.cells #[.slice A m c, .int .i64 0] 53)).alloc (.cells curs3 9)) w.heap.size A m c 0 := (Bl.new w _ _).alloc _
  have hC0 : Bl ((w.alloc (.cells #[.slice A m c, .int .i64 0] 53)).alloc (.cells curs3 9)) (w.heap.size + 1) 9 curs3 := Bl.new1 _ _ _ _
  have hB0 : RowKit.Below w.heap.size w ((w.alloc (.cells #[.slice A m c, .int .i64 0] 53)).alloc (.cells curs3 9)) := ((Below.refl _ _).alloc (Nat.le_refl _) _).alloc (by simp) _
  have hz0' : (w.alloc (.cells #[.slice A m c, .int .i64 0] 53)).heap.size = w.heap.size + 1 := by simp
  rw [hz0']
  clear hz0'
  generalize (w.alloc (.cells #[.slice A m c, .int .i64 0] 53)).alloc (.cells curs3 9) = W at *
  have HN : Hid (∀ (kk : Int) (I : Nat) (wx : World), 0 < kk → kk ≤ 4000000000000000000 → Src wx w.heap.size A m c I → RowKit.Below w.heap.size w wx → Calls Try.prog 24 #[.pointer (some ⟨w.heap.size, 0, none⟩), .int .i64 kk] wx (NextRes wx w.heap.size A m c (nextV (xs.take m) m I kk) (nextI m I))) := fun kk I wx h0 h1 hS hb => next_any w.heap.size A m c I (xs.take m) kk w wx hS hT hb (Nat.le_refl _) (by omega) h0 h1
  go_wp2
  go_loopw [4, 6] (fun v i wr => ∃ (k I : Nat) (ts : List Exch), k ≤ 3 ∧ i = .int .i64 k ∧ Hid (ts.length ≤ 3 * k ∧ ∀ x ∈ ts, x.cur.size = 3) ∧ wr.ownsRow w.heap.size 61 3 v ts.length (flat encX ts) ∧ Src wr w.heap.size A m c I ∧ Bl wr (w.heap.size + 1) 9 curs3 ∧ RowKit.Below w.heap.size w wr) (fun _ i _ => 3 - (intOf i).toNat)
  case atStart => exact ⟨0, 0, [], Nat.zero_le _, rfl, ⟨by simp, by simp⟩, ⟨rfl, .inl ⟨rfl, rfl⟩⟩, hS0, hC0, hB0⟩
  case round =>
    clear hS0 hC0 hB0
    obtain ⟨k, I, ts, hk, rfl, HTS, hown, hS, hC, hbel⟩ := hrel
    by_cases hlt : k < 3
    · have hb1 := nextV_bounds (xs.take m) m I 20 (by omega)
      have HN1 := Lib.hid (HN.out 20 I wr (by omega) (by omega) hS hbel)
      obtain ⟨d1, hd1⟩ : ∃ d, nextV (xs.take m) m I 20 = d := ⟨_, rfl⟩
      obtain ⟨I1, hI1⟩ : ∃ I1, nextI m I = I1 := ⟨_, rfl⟩
      rw [hd1, hI1] at HN1
      rw [hd1] at hb1
      have hb2 := nextV_bounds (xs.take m) m I1 4 (by omega)
      obtain ⟨d2, hd2⟩ : ∃ d, nextV (xs.take m) m I1 4 = d := ⟨_, rfl⟩
      rw [hd2] at hb2
      have HD2 := Lib.hid hd2
      clear hd1 hI1 hd2
      go_wp2_with fail
      refine HN1.out.mono ?_
      rintro e w2 ⟨rfl, hO2, hS2⟩
      have hB2 := hbel.trans (hO2.below (Nat.le_refl _))
      have hne := own_apart hown hS (by decide)
      have hown2 := own_keep hown hO2 hne
      have hC2 := hO2.bl hC (by omega)
      have HN2 := Lib.hid (HN.out 4 I1 w2 (by omega) (by omega) hS2 hB2)
      rw [HD2.out] at HN2
      go_wp2_with fail
      refine HN2.out.mono ?_
      rintro e w3 ⟨rfl, hO3, hS3⟩
      have hB3 := hB2.trans (hO3.below (Nat.le_refl _))
      have hown3 := own_keep hown2 hO3 hne
      have hC3 := hO3.bl hC2 (by omega)
      obtain ⟨I2, hI2⟩ : ∃ I2, nextI m I1 = I2 := ⟨_, rfl⟩
      rw [hI2] at hS3
      obtain ⟨r0, hr0⟩ : ∃ r : Nat, d2 = r := ⟨d2.toNat, by omega⟩
      subst hr0
      obtain ⟨s, hsk, hsz⟩ := curs3_get k hlt
      have HSZ := Lib.hid hsz
      clear hI2 hown hown2 hS hS2 hC hC2 hO2 hO3 HN1 HN2 HD2 hB2 hbel hsz hne
      go_wp2
      go_loopw [4, 7, 8] (fun v dy nn wi => ∃ (r I : Nat) (d : Int) (us : List Exch), r ≤ 3 ∧ nn = .int .i64 r ∧ dy = .int .i64 d ∧ 0 ≤ d ∧ d ≤ 100 - 21 * (r : Int) ∧ us.length + r ≤ 3 * k + 3 ∧ Hid (∀ x ∈ us, x.cur.size = 3) ∧ wi.ownsRow w.heap.size 61 3 v us.length (flat encX us) ∧ Src wi w.heap.size A m c I ∧ Bl wi (w.heap.size + 1) 9 curs3 ∧ RowKit.Below w.heap.size w wi) (fun _ _ nn _ => (intOf nn).toNat)
      case atStart => exact ⟨r0, I2, d1, ts, by omega, rfl, rfl, hb1.1, by omega, by have := HTS.out.1; omega, HTS.out.2, hown3, hS3, hC3, hB3⟩
      case round =>
        clear hown3 hS3 hC3 hB3 HTS hb1 hb2
        obtain ⟨r, I, d, us, hr, rfl, rfl, hd0, hd1, hul, HUS, hown, hS, hC, hbel⟩ := hrel
        by_cases hr0 : 0 < r
        · have hpos : (0 : Int) < (r : Int) := by omega
          have hb1 := nextV_bounds (xs.take m) m I 1000000000 (by omega)
          have HN1 := Lib.hid (fun wx => HN.out 1000000000 I wx (by omega) (by omega))
          obtain ⟨pv, hpv⟩ : ∃ d, nextV (xs.take m) m I 1000000000 = d := ⟨_, rfl⟩
          obtain ⟨I1, hI1⟩ : ∃ I1, nextI m I = I1 := ⟨_, rfl⟩
          rw [hpv] at HN1 hb1
          rw [hI1] at HN1
          have hb2 := nextV_bounds (xs.take m) m I1 20 (by omega)
          obtain ⟨d2, hd2⟩ : ∃ d, nextV (xs.take m) m I1 20 = d := ⟨_, rfl⟩
          rw [hd2] at hb2
          have HD2 := Lib.hid hd2
          clear hpv hI1 hd2
          have q1 : wr.cell? ⟨w.heap.size + 1, k, none⟩ = some (.string s) := (hC.cell k).trans hsk
          have hne := own_apart hown hS (by decide)
          have hne2 := own_apart hown hC (by decide)
          have HU1 : Hid (us.length + 1 ≤ maxLen ∧ (us.length + 1) * 32 ≤ 140737488355328) := ⟨by unfold maxLen; omega, by omega⟩
          have u1 : IntKind.i64.wrap (1 + pv) = 1 + pv := IntWalk.i64_in _ (by omega)
          have i1 : (0 : Int) ≤ (k : Int) := by omega
          have i2 : (k : Int) < 3 := by omega
          have nb : w.heap.size + 1 ≠ w.heap.size := by omega
          have hsz0 := hbel.size
          have hCl := hC.lt
          go_wp2
          go_region_held3 (fun w' => w'.cell? ⟨w.heap.size + 1, k, none⟩ = some (.string s))
            (first
              | go_keep
              | exact (World.cell?_of_block (a := ⟨w.heap.size + 1, k, none⟩) (hO2.block _ nb)).trans (by assumption)
              | (rw [hg4.cell_far _ (Nat.lt_of_lt_of_le hCl (Nat.le_trans hs2 (by simp))) hne2]; assumption))
            (first
              | (go_at_call 24; refine (HN1.out _ hS.drew hbel.drew).mono ?_; rintro e w2 ⟨rfl, hO2, hS2⟩; have hs2 : wr.heap.size ≤ w2.heap.size := Nat.le_of_eq hO2.size.symm)
              | (refine step_append_lies _ (by rfl) _ _ _ (by rfl) w.heap.size 61 i0 _ 3 32 Try.underlying38 hi0 hz0 hz1 hz2 rfl (by omega) u4 us.length (flat encX us) (by rfl) (own_alloc (own_keep hown.drew hO2 hne) _) ⟨w2.heap.size, 0, none⟩ 1 1 [.string s, .int .i64 d, .int .i64 (1 + pv)] (by rfl) (by rfl) (World.news_of_block (cs := #[.string s, .int .i64 d, .int .i64 (1 + pv)]) (t := 61) (fr := (0, 0)) (heap_alloc_new w2 _)) (by simp [Value.oneCell']) (by omega) HU1.out.1 HU1.out.2 (Nat.le_trans hsz0 (Nat.le_trans (Nat.le_of_eq hO2.size.symm) (by simp))) (w2.heap.size + 1) (by simp) ?_; intro g4 c4 w4 ho4 hg4 hat4 hlt4))
          have hC4 : Bl w4 (w.heap.size + 1) 9 curs3 := (hg4.block _ (Nat.lt_of_lt_of_le hCl (Nat.le_trans hs2 (by simp))) hne2).trans ((hO2.bl hC nb).alloc _)
          have hS4 : Src w4 w.heap.size A m c I1 := (hg4.block _ (Nat.lt_of_lt_of_le hS.lt (Nat.le_trans hs2 (by simp))) hne).trans (hS2.alloc _)
          have hB4 : RowKit.Below w.heap.size w w4 := (((hbel.drew).trans (hO2.below (Nat.le_refl _))).alloc (Nat.le_trans hsz0 hs2) _).grown hg4 (by have := Nat.le_trans hsz0 hs2; simp; omega) (fun g hg => own_base hown g hg)
          have HO4 : Hid (w4.ownsRow w.heap.size 61 3 (.slice (some ⟨g4, 0, none⟩) (us ++ [(⟨s, d, 1 + pv⟩ : Exch)]).length c4) (us ++ [(⟨s, d, 1 + pv⟩ : Exch)]).length (flat encX (us ++ [(⟨s, d, 1 + pv⟩ : Exch)]))) := by
            show World.ownsRow _ _ _ _ _ _ _
            rw [flat_append, flat_one, List.length_append]
            exact ho4
          have HU2 : Hid (∀ x ∈ us ++ [(⟨s, d, 1 + pv⟩ : Exch)], x.cur.size = 3) := fun x hx => by
            rcases List.mem_append.1 hx with hx | hx
            · exact HUS.out x hx
            · simp at hx; subst hx; exact HSZ.out
          have HN2 := Lib.hid (HN.out 20 I1 w4 (by omega) (by omega) hS4 hB4)
          rw [HD2.out] at HN2
          have hap := own_apart HO4.out hS4 (by decide)
          clear hg4 hO2 hS2 ho4 hat4 HN1 HD2 hne hne2 u1
          go_wp2_with fail
          refine HN2.out.mono ?_
          rintro e w5 ⟨rfl, hO5, hS5⟩
          have HO5 := Lib.hid (own_keep HO4.out hO5 hap)
          have hC5 := hO5.bl hC4 (by omega)
          have hB5 := hB4.trans (hO5.below (Nat.le_refl _))
          have HLE : Hid ((us ++ [(⟨s, d, 1 + pv⟩ : Exch)]).length = us.length + 1) := by show _ = _; simp
          clear HO4 hS4 hC4 hB4 hO5 HN2
          obtain ⟨r', rfl⟩ : ∃ r', r = r' + 1 := ⟨r - 1, by omega⟩
          go_wp2
          go_roundw
          case rel => exact ⟨r', nextI m I1, d + 1 + d2, us ++ [(⟨s, d, 1 + pv⟩ : Exch)], by omega, by go_num, rfl, by omega, by omega, by rw [HLE.out]; omega, HU2.out, (by have := HO5.out; rw [HLE.out] at this ⊢; exact this), hS5, hC5, hB5⟩
          case measure => simp [intOf] <;> omega
        · obtain rfl : r = 0 := by omega
          go_wp2
          go_roundw
          case rel => exact ⟨k + 1, I, us, by omega, by go_num, ⟨by omega, HUS.out⟩, hown, hS, hC, hbel⟩
          case measure => simp [intOf] <;> omega
    · obtain ⟨A4, c4, hv⟩ := own_slice hown
      rw [hv] at hown ⊢
      clear hv
      go_wp2
      go_ret
      exact ⟨A4, _, c4, ts, rfl, rfl, by have := HTS.out.1; omega, HTS.out.2, hown, hbel⟩
end Go.Proofs.Ytknbbamlpadfdaa

/-
  Contract of the closure of duty.Evaluate. No statement of the seat is proved here. Conditions: the boxes of value and per lie in the world; the numbers are in their ranges.
  Contract of duty.Evaluate. No statement of the seat is proved here. No conditions.
-/
import Derived.Test.YtbokkeooahodaaaGreatDoorKAK
import Derived.Test.YtbokkeooahodaaaGreatDoorKAF
import Derived.Test.YtbokkeooahodaaaGreatDoorKAG
import Derived.Deep.QuietTactic
import Derived.BigQuiet
import Derived.Deep.RegionHeld3
import Derived.Deep.DeepCutAuto
namespace Go.Proofs.YtbokkeooahodaaaGreatDoor
open Go.RowKit
set_option linter.unusedVariables false

theorem set2_bl {w : World} {g : Nat} {T : TypeId} {z0 z1 : Value} (h : Bl w g T #[z0, z1]) (a b : Value) : Bl ((w.setCell ⟨g, 0, none⟩ a).setCell ⟨g, 1, none⟩ b) g T #[a, b] := by
  have := (h.put 0 a).put 1 b
  simpa using this
def wideA (x : Int) : Array Value := #[.int .u64 (x / 18446744073709551616), .int .u64 (x % 18446744073709551616)]
def WRes (w : World) (x : Int) (e : Ending) (w' : World) : Prop := e = .returned (.agg (wideA x)) ∧ RowKit.Below w.heap.size w w'
set_option maxRecDepth 100000 in
set_option maxHeartbeats 2000000 in
theorem part18_any (r v pe : Int) (bv bp : Nat) (w : World) (hbv : bv < w.heap.size) (hbp : bp < w.heap.size) (hv : w.cell? ⟨bv, 0, none⟩ = some (.int .i64 v)) (hp : w.cell? ⟨bp, 0, none⟩ = some (.int .u64 pe)) (hr0 : 0 ≤ r) (hr1 : r ≤ 10000000) (hv0 : 0 ≤ v) (hv1 : v ≤ 1000000000000) (hp0 : 1 ≤ pe) (hp1 : pe ≤ 1000000) :
    Calls Tryz.prog 97 #[.int .i64 r, .pointer (some ⟨bv, 0, none⟩), .pointer (some ⟨bp, 0, none⟩)] w (WRes w (r * v * pe)) := by
  obtain ⟨x0, x1⟩ := mul_bound hr0 hr1 hv0 hv1
  obtain ⟨x, hx⟩ : ∃ x, r * v = x := ⟨_, rfl⟩
  rw [hx] at x0 x1 ⊢
  have HM := Lib.hid (fun w : World => mul_any x pe w x0 (by omega) (by omega) (by omega))
  have hal : ∀ o, RowKit.Below w.heap.size w (w.alloc o) := fun o => (Below.refl _ _).alloc (Nat.le_refl _) _
  unfold WRes wideA
  generalize x * pe / 18446744073709551616 = hi at *
  generalize x * pe % 18446744073709551616 = lo at *
  have u1 : IntKind.u64.wrap r = r := IntWalk.u64_in _ (by omega)
  have u2 : IntKind.u64.wrap v = v := IntWalk.u64_in _ (by omega)
  have u3 : IntKind.u64.wrap x = x := IntWalk.u64_in _ (by omega)
  have c1 := ((hal (.cells #[.int .u64 0, .int .u64 0] 197)).cell (p := ⟨bv, 0, none⟩) hbv).trans hv
  have c2 := ((hal (.cells #[.int .u64 0, .int .u64 0] 197)).cell (p := ⟨bp, 0, none⟩) hbp).trans hp
  have HB := Lib.hid (hal (.cells #[.int .u64 0, .int .u64 0] 197))
  have HX := Bl.new w 197 #[.int .u64 0, .int .u64 0]
  clear hal hv hp
  go_enter Tryz.func97, Tryz.ntmps97
  go_wp2_with fail
  refine (HM.out _).mono ?_
  rintro e w2 ⟨rfl, hb2⟩
  have HY := HX.keep hb2
  have z0 : w2.cell? ⟨w.heap.size, 0, none⟩ = some (.int .u64 0) := HY.cell 0
  have z1 : w2.cell? ⟨w.heap.size, 1, none⟩ = some (.int .u64 0) := HY.cell 1
  have f0 : w2.frozen? ⟨w.heap.size, 0, none⟩ = false := HY.free 0
  have f1 : w2.frozen? ⟨w.heap.size, 1, none⟩ = false := HY.free 1
  have HB2 := Lib.hid (HB.out.trans (hb2.mono HB.out.size))
  clear hb2
  go_wp2
  have HZ := set2_bl HY (.int .u64 hi) (.int .u64 lo)
  have HB3 := Lib.hid ((HB2.out.setCell (p := ⟨w.heap.size, 0, none⟩) (Nat.le_refl _) (.int .u64 hi)).setCell (p := ⟨w.heap.size, 1, none⟩) (Nat.le_refl _) (.int .u64 lo))
  generalize (w2.setCell ⟨w.heap.size, 0, none⟩ (.int .u64 hi)).setCell ⟨w.heap.size, 1, none⟩ (.int .u64 lo) = W at *
  have y0 : W.cell? ⟨w.heap.size, 0, none⟩ = some (.int .u64 hi) := HZ.cell 0
  have y1 : W.cell? ⟨w.heap.size, 1, none⟩ = some (.int .u64 lo) := HZ.cell 1
  refine bodyPost_ret (v := .agg #[.int .u64 hi, .int .u64 lo]) (by simp [results, Tryz.results97, go_sem, y0, y1]) rfl ⟨rfl, HB3.out⟩
end Go.Proofs.YtbokkeooahodaaaGreatDoor

namespace Go.Proofs.YtbokkeooahodaaaGreatDoor
open Go.RowKit
set_option linter.unusedVariables false

def hiW (n : Int) : Int := n / 18446744073709551616
def loW (n : Int) : Int := n % 18446744073709551616
theorem hl_join (n : Int) : hiW n * 18446744073709551616 + loW n = n := by unfold hiW loW; omega
theorem mul_w (a b n : Int) (w : World) (hn : a * b = n) (ha : 0 ≤ a) (ha' : a ≤ 18446744073709551615) (hb : 0 ≤ b) (hb' : b ≤ 18446744073709551615) :
    Calls Tryz.prog 98 #[.int .u64 a, .int .u64 b] w fun e w' => e = .returned (.agg #[.int .u64 (hiW n), .int .u64 (loW n)]) ∧ RowKit.Below w.heap.size w w' := by
  rw [← hn]
  exact mul_any a b w ha ha' hb hb'
theorem add_w (P Q : Int) (w : World) (h0 : 0 ≤ P) (h1 : P ≤ 10000000000000000000000000) (h2 : 0 ≤ Q) (h3 : Q ≤ 10000000000000000000000000) :
    Calls Tryz.prog 99 #[.agg #[.int .u64 (hiW P), .int .u64 (loW P)], .agg #[.int .u64 (hiW Q), .int .u64 (loW Q)]] w fun e w' => e = .returned (.tuple #[.agg #[.int .u64 (hiW (P + Q)), .int .u64 (loW (P + Q))], .int .i64 0]) ∧ RowKit.Below w.heap.size w w' := by
  have h4 : hiW P + hiW Q < 18446744073709551615 := by unfold hiW; omega
  have := wadd_any (hiW P) (loW P) (hiW Q) (loW Q) w (by unfold hiW; omega) (by unfold loW; omega) (by unfold loW; omega) (by unfold hiW; omega) (by unfold loW; omega) (by unfold loW; omega) h4
  rw [hl_join P, hl_join Q] at this
  exact this
theorem cmp_w (P Q : Int) (w : World) (h0 : 0 ≤ P) (h2 : 0 ≤ Q) :
    Calls Tryz.prog 100 #[.agg #[.int .u64 (hiW P), .int .u64 (loW P)], .agg #[.int .u64 (hiW Q), .int .u64 (loW Q)]] w fun e w' => e = .returned (.int .i64 (cmpV P Q)) ∧ RowKit.Below w.heap.size w w' := by
  have := cmpW_any (hiW P) (loW P) (hiW Q) (loW Q) w (by unfold hiW; omega) (by unfold loW; omega) (by unfold loW; omega) (by unfold hiW; omega) (by unfold loW; omega) (by unfold loW; omega)
  rw [hl_join P, hl_join Q] at this
  exact this
theorem div_w (P c m : Int) (w : World) (h0 : 0 ≤ P) (h1 : P ≤ 20000000000000000000000000) (hc : 0 ≤ c) (hc' : c ≤ 18446744073709551615) :
    Calls Tryz.prog 101 #[.agg #[.int .u64 (hiW P), .int .u64 (loW P)], .int .u64 c, .int .i64 m] w fun e w' => e = .returned (.tuple #[.int .u64 (divOut P c m).1, .int .i64 (divOut P c m).2]) ∧ RowKit.Below w.heap.size w w' := by
  have := div_any (hiW P) (loW P) c m w (by unfold hiW; omega) (by unfold hiW; omega) (by unfold loW; omega) (by unfold loW; omega) hc hc'
  rw [hl_join P] at this
  exact this
def ERes (w : World) (o : Int × Int) (e : Ending) (w' : World) : Prop := e = .returned (.tuple #[.int .i64 o.1, .int .i64 o.2]) ∧ RowKit.Below w.heap.size w w'
theorem ERes.of {w w' : World} {o : Int × Int} {a b : Int} (h : o = (a, b)) (hb : RowKit.Below w.heap.size w w') : ERes w o (.returned (.tuple #[.int .i64 a, .int .i64 b])) w' := ⟨by rw [h], hb⟩
structure EvB (w : World) (N bp gs : Nat) (cs : Array Value) (v pp n : Int) (wx : World) : Prop where
  below : RowKit.Below N w wx
  d : Bl wx N 58 cs
  v : Bl wx (N + 1) 3 #[.int .i64 v]
  p : Bl wx bp 168 #[.int .u64 pp]
  s : Bl wx gs 197 #[.int .u64 (hiW n), .int .u64 (loW n)]
  base : N ≤ gs
section
variable {w wx w' : World} {N bp gs : Nat} {cs : Array Value} {v pp n : Int}
theorem EvB.size (h : EvB w N bp gs cs v pp n wx) : N ≤ wx.heap.size := Nat.le_of_lt h.d.lt
theorem EvB.under (h : EvB w N bp gs cs v pp n wx) (hb : RowKit.Below wx.heap.size wx w') : EvB w N bp gs cs v pp n w' :=
  ⟨h.below.trans (hb.mono h.size), h.d.keep hb, h.v.keep hb, h.p.keep hb, h.s.keep hb, h.base⟩
theorem EvB.drew (h : EvB w N bp gs cs v pp n wx) : EvB w N bp gs cs v pp n wx.drew := ⟨h.below.drew, h.d, h.v, h.p, h.s, h.base⟩
theorem EvB.drewN (h : EvB w N bp gs cs v pp n wx) (q : Nat) : EvB w N bp gs cs v pp n (wx.drewN q) := ⟨below_drewN h.below q, h.d, h.v, h.p, h.s, h.base⟩
theorem EvB.only (h : EvB w N bp gs cs v pp n wx) (hO : Only gs wx w') {n2 : Int} (hs : Bl w' gs 197 #[.int .u64 (hiW n2), .int .u64 (loW n2)]) : EvB w N bp gs cs v pp n2 w' :=
  ⟨h.below.trans (hO.below h.base), hO.bl h.d (bl_far h.d h.s (by decide)), hO.bl h.v (bl_far h.v h.s (by decide)), hO.bl h.p (bl_far h.p h.s (by decide)), hs, h.base⟩
theorem EvB.put (h : EvB w N bp gs cs v pp n wx) (n2 : Int) : EvB w N bp gs cs v pp n2 ((wx.setCell ⟨gs, 0, none⟩ (.int .u64 (hiW n2))).setCell ⟨gs, 1, none⟩ (.int .u64 (loW n2))) :=
  h.only (((Only.refl gs wx).setCell 0 _).setCell 1 _) (set2_bl h.s _ _)
theorem EvB.part (h : EvB w N bp gs cs v pp n wx) (r x : Int) (hx : r * v * pp = x) (hr0 : 0 ≤ r) (hr1 : r ≤ 10000000) (hv0 : 0 ≤ v) (hv1 : v ≤ 1000000000000) (hp0 : 1 ≤ pp) (hp1 : pp ≤ 1000000) :
    Calls Tryz.prog 97 #[.int .i64 r, .pointer (some ⟨N + 1, 0, none⟩), .pointer (some ⟨bp, 0, none⟩)] wx fun e w' => e = .returned (.agg #[.int .u64 (hiW x), .int .u64 (loW x)]) ∧ EvB w N bp gs cs v pp n w' := by
  rw [← hx]
  exact (part18_any r v pp (N + 1) bp wx h.v.lt h.p.lt (h.v.cell 0) (h.p.cell 0) hr0 hr1 hv0 hv1 hp0 hp1).mono fun e w' ⟨h1, h2⟩ => ⟨h1, h.under h2⟩
theorem EvB.cmp (h : EvB w N bp gs cs v pp n wx) (x : Int) (h0 : 0 ≤ n) (hx : 0 ≤ x) :
    Calls Tryz.prog 100 #[.agg #[.int .u64 (hiW n), .int .u64 (loW n)], .agg #[.int .u64 (hiW x), .int .u64 (loW x)]] wx fun e w' => e = .returned (.int .i64 (cmpV n x)) ∧ EvB w N bp gs cs v pp n w' :=
  (cmp_w n x wx h0 hx).mono fun e w' ⟨h1, h2⟩ => ⟨h1, h.under h2⟩
theorem cmp_gt (x y : Int) : decide (cmpV x y > 0) = decide (y < x) := by
  unfold cmpV
  by_cases h : x < y
  · rw [if_pos h, decide_eq_false (by omega), decide_eq_false (by omega)]
  · rw [if_neg h]
    by_cases e : x = y
    · rw [if_pos e, decide_eq_false (by omega), decide_eq_false (by omega)]
    · rw [if_neg e, decide_eq_true (by omega), decide_eq_true (by omega)]
theorem cmp_lt (x y : Int) : decide (cmpV x y < 0) = decide (x < y) := by
  unfold cmpV
  by_cases h : x < y
  · rw [if_pos h, decide_eq_true (by omega), decide_eq_true (by omega)]
  · rw [if_neg h]
    by_cases e : x = y
    · rw [if_pos e, decide_eq_false (by omega), decide_eq_false (by omega)]
    · rw [if_neg e, decide_eq_false (by omega), decide_eq_false (by omega)]
end
set_option maxRecDepth 100000 in
set_option maxHeartbeats 8000000 in
theorem evaluate_any (d : Du) (v q : Int) (w : World) :
    Calls Tryz.prog 56 #[.agg (duA d), .int .i64 v, .int .i64 q] w (ERes w (evalOut d v q)) := by
  obtain ⟨r, am, pe, hm, mo, hl, le⟩ := d
  have HV := Lib.hid (fun w' => dvalidate_any r am pe mo le hm hl w')
  have HBad := Lib.hid (fun h => evalOut_bad (d := ⟨r, am, pe, hm, mo, hl, le⟩) (v := v) (q := q) h)
  have HRng := Lib.hid (fun h h2 => evalOut_range (d := ⟨r, am, pe, hm, mo, hl, le⟩) (v := v) (q := q) h h2)
  have HZ := Lib.hid (fun h => duErr_zero (d := ⟨r, am, pe, hm, mo, hl, le⟩) h)
  have hal : RowKit.Below w.heap.size w ((w.alloc (.cells #[.int .i64 r, .int .i64 am, .int .i64 pe, .bool hm, .int .i64 mo, .bool hl, .int .i64 le] 58)).alloc (.cells #[.int .i64 v] 3)) := ((Below.refl _ _).alloc (Nat.le_refl _) _).alloc (by simp) _
  have HX := (Bl.new w 58 #[.int .i64 r, .int .i64 am, .int .i64 pe, .bool hm, .int .i64 mo, .bool hl, .int .i64 le]).alloc (.cells #[.int .i64 v] 3)
  have HXv := Bl.new (w.alloc (.cells #[.int .i64 r, .int .i64 am, .int .i64 pe, .bool hm, .int .i64 mo, .bool hl, .int .i64 le] 58)) 3 #[.int .i64 v]
  have hsz : (w.alloc (.cells #[.int .i64 r, .int .i64 am, .int .i64 pe, .bool hm, .int .i64 mo, .bool hl, .int .i64 le] 58)).heap.size = w.heap.size + 1 := by simp
  rw [hsz] at HXv
  unfold duA at *
  dsimp only at *
  go_enter Tryz.func56, Tryz.ntmps56
  go_wp2_with fail
  refine (HV.out _).mono ?_
  rintro e w1 ⟨rfl, hb1⟩
  have HX1 := HX.keep hb1
  have HXv1 := HXv.keep hb1
  have HB1 := Lib.hid (hal.trans (hb1.mono hal.size))
  clear HX HXv hal hb1 hsz HV
  obtain ⟨de, hde⟩ : ∃ q, duErr ⟨r, am, pe, hm, mo, hl, le⟩ = q := ⟨_, rfl⟩
  rw [hde] at HBad HRng HZ ⊢
  have hde2 := hde
  clear hde
  have cv : w1.cell? ⟨w.heap.size + 1, 0, none⟩ = some (.int .i64 v) := HXv1.cell 0
  by_cases z1 : de = 0
  · have y1 : (de == 0) = true := by simpa using z1
    have y1n : (de != 0) = false := by simpa using z1
    by_cases g1 : v < 0
    · have d1 : decide (v < 0) = true := by simp; omega
      have E := Lib.hid (HRng.out z1 (fun hx => by unfold inRange at hx; omega))
      clear z1 HBad HRng HZ
      go_wp2
      go_ret2
      exact ERes.of E.out HB1.out
    have d1 : decide (v < 0) = false := by simp; omega
    by_cases g2 : 1000000000000 < v
    · have d2 : decide (1000000000000 < v) = true := by simp; omega
      have E := Lib.hid (HRng.out z1 (fun hx => by unfold inRange at hx; omega))
      clear z1 HBad HRng HZ
      go_wp2
      go_ret2
      exact ERes.of E.out HB1.out
    have d2 : decide (1000000000000 < v) = false := by simp; omega
    by_cases g3 : q < 0
    · have d3 : decide (q < 0) = true := by simp; omega
      have E := Lib.hid (HRng.out z1 (fun hx => by unfold inRange at hx; omega))
      clear z1 HBad HRng HZ
      go_wp2
      go_ret2
      exact ERes.of E.out HB1.out
    have d3 : decide (q < 0) = false := by simp; omega
    by_cases g4 : 1000000000 < q
    · have d4 : decide (1000000000 < q) = true := by simp; omega
      have E := Lib.hid (HRng.out z1 (fun hx => by unfold inRange at hx; omega))
      clear z1 HBad HRng HZ
      go_wp2
      go_ret2
      exact ERes.of E.out HB1.out
    have d4 : decide (1000000000 < q) = false := by simp; omega
    obtain ⟨hdr, hdf⟩ := HZ.out z1
    have hir : inRange v q := by unfold inRange; omega
    have HDR := Lib.hid hdr
    have HIR := Lib.hid hir
    have HP := Lib.hid (perOf_pos ⟨r, am, pe, hm, mo, hl, le⟩)
    have HP2 := Lib.hid (perOf_le hdr)
    have hde0 := hde2.trans z1
    clear HBad HRng HZ hdf z1 hir
    obtain ⟨pp, hpp⟩ : ∃ x, perOf ⟨r, am, pe, hm, mo, hl, le⟩ = x := ⟨_, rfl⟩
    have q2 : w1.cell? ⟨w.heap.size, 2, none⟩ = some (.int .i64 pe) := HX1.cell 2
    have hmx : max pe 1 = pp := by rw [← hpp]; unfold perOf; simp only []; split <;> omega
    have u0 : IntKind.u64.wrap pp = pp := IntWalk.u64_in _ (by have := HP.out; have := HP2.out; omega)
    go_wp2
    have HWp := Bl.new w1 168 #[.int .u64 pp]
    have hW : RowKit.Below w1.heap.size w1 (w1.alloc (.cells #[.int .u64 pp] 168)) := (Below.refl _ _).alloc (Nat.le_refl _) _
    have HXw := HX1.keep hW
    have HXvw := HXv1.keep hW
    have HBW := Lib.hid (HB1.out.trans (hW.mono HB1.out.size))
    clear HX1 HXv1 HB1 hW cv q2 hmx
    generalize hWW : w1.alloc (.cells #[.int .u64 pp] 168) = W at *
    clear hWW
    obtain ⟨r0, r1, am0, am1, _, _, mo0, mo1, le0, le1⟩ : 0 ≤ r ∧ r ≤ 10000000 ∧ 0 ≤ am ∧ am ≤ 100000000 ∧ (0 < am → 1 ≤ pe ∧ pe ≤ 1000000) ∧ (am = 0 → pe = 0) ∧ 0 ≤ mo ∧ mo ≤ 10000000 ∧ 0 ≤ le ∧ le ≤ 10000000 := HDR.out
    obtain ⟨v0, v1, qq0, qq1⟩ := HIR.out
    have pp0 : 1 ≤ pp := by have := HP.out; omega
    have pp1 : pp ≤ 1000000 := by have := HP2.out; omega
    obtain ⟨x0, x1⟩ := mul_bound r0 r1 v0 v1
    obtain ⟨y0, y1b⟩ := mul_bound am0 am1 qq0 qq1
    obtain ⟨k0, k1⟩ := mul_bound x0 x1 (show 0 ≤ pp by omega) pp1
    obtain ⟨mb0, mb1⟩ := mul_bound mo0 mo1 v0 v1
    obtain ⟨lb0, lb1⟩ := mul_bound le0 le1 v0 v1
    obtain ⟨mc0, mc1⟩ := mul_bound mb0 mb1 (show 0 ≤ pp by omega) pp1
    obtain ⟨lc0, lc1⟩ := mul_bound lb0 lb1 (show 0 ≤ pp by omega) pp1
    have lW0 : w.heap.size < W.heap.size := HXw.lt
    have lW1 : w.heap.size + 1 < W.heap.size := HXvw.lt
    have lW2 : w1.heap.size < W.heap.size := HWp.lt
    have q0 : W.cell? ⟨w.heap.size, 0, none⟩ = some (.int .i64 r) := HXw.cell 0
    have q1 : W.cell? ⟨w.heap.size, 1, none⟩ = some (.int .i64 am) := HXw.cell 1
    have u1 : IntKind.u64.wrap am = am := IntWalk.u64_in _ (by omega)
    have u2 : IntKind.u64.wrap q = q := IntWalk.u64_in _ (by omega)
    obtain ⟨p0, hp0⟩ : ∃ x, r * v * pp = x := ⟨_, rfl⟩
    obtain ⟨ms, hms⟩ : ∃ x, mo * v * pp = x := ⟨_, rfl⟩
    obtain ⟨ls, hls⟩ : ∃ x, le * v * pp = x := ⟨_, rfl⟩
    obtain ⟨y, hy⟩ : ∃ x, am * q = x := ⟨_, rfl⟩
    rw [hp0] at k0 k1
    rw [hms] at mc0 mc1
    rw [hls] at lc0 lc1
    rw [hy] at y0 y1b
    obtain ⟨ym, hym⟩ : ∃ x, y * 1000000 = x := ⟨_, rfl⟩
    obtain ⟨n0, hn0⟩ : ∃ x, p0 + ym = x := ⟨_, rfl⟩
    have b0 : 0 ≤ n0 ∧ n0 ≤ 10100000000000000000000000 := by omega
    have hN0 : num0 ⟨r, am, pe, hm, mo, hl, le⟩ v q = n0 := by
      show r * v * perOf ⟨r, am, pe, hm, mo, hl, le⟩ + am * q * 1000000 = n0
      rw [hpp, hp0, hy, hym, hn0]
    have HN1 : Hid (num1 ⟨r, am, pe, hm, mo, hl, le⟩ v q = if hm = true ∧ ms < n0 then ms else n0) := by
      show (if hm = true ∧ mo * v * perOf ⟨r, am, pe, hm, mo, hl, le⟩ < num0 ⟨r, am, pe, hm, mo, hl, le⟩ v q then mo * v * perOf ⟨r, am, pe, hm, mo, hl, le⟩ else num0 ⟨r, am, pe, hm, mo, hl, le⟩ v q) = _
      rw [hpp, hms, hN0]
    have HN2 : Hid (num2 ⟨r, am, pe, hm, mo, hl, le⟩ v q = if hl = true ∧ num1 ⟨r, am, pe, hm, mo, hl, le⟩ v q < ls then ls else num1 ⟨r, am, pe, hm, mo, hl, le⟩ v q) := by
      show (if hl = true ∧ num1 ⟨r, am, pe, hm, mo, hl, le⟩ v q < le * v * perOf ⟨r, am, pe, hm, mo, hl, le⟩ then le * v * perOf ⟨r, am, pe, hm, mo, hl, le⟩ else num1 ⟨r, am, pe, hm, mo, hl, le⟩ v q) = _
      rw [hpp, hls]
    have HQ : Hid (quo18 ⟨r, am, pe, hm, mo, hl, le⟩ v q = divOut (num2 ⟨r, am, pe, hm, mo, hl, le⟩ v q) (1000000 * pp) 2) := by
      show divOut _ (1000000 * perOf ⟨r, am, pe, hm, mo, hl, le⟩) 2 = _
      rw [hpp]
    have HOV := Lib.hid (fun h => evalOut_over (d := ⟨r, am, pe, hm, mo, hl, le⟩) (v := v) (q := q) hde0 HIR.out h)
    have HOK := Lib.hid (fun h => evalOut_ok (d := ⟨r, am, pe, hm, mo, hl, le⟩) (v := v) (q := q) hde0 HIR.out h)
    have HPt : Hid (∀ wx, RowKit.Below W.heap.size W wx → Calls Tryz.prog 97 #[.int .i64 r, .pointer (some ⟨w.heap.size + 1, 0, none⟩), .pointer (some ⟨w1.heap.size, 0, none⟩)] wx fun e w' => e = .returned (.agg #[.int .u64 (hiW p0), .int .u64 (loW p0)]) ∧ RowKit.Below wx.heap.size wx w') := fun wx hb => by
      rw [← hp0]
      exact part18_any r v pp _ _ wx (Nat.lt_of_lt_of_le lW1 hb.size) (Nat.lt_of_lt_of_le lW2 hb.size) ((HXvw.keep hb).cell 0) ((HWp.keep hb).cell 0) r0 r1 v0 v1 pp0 pp1
    have HMl : Hid (∀ wx, Calls Tryz.prog 98 #[.int .u64 y, .int .u64 1000000] wx fun e w' => e = .returned (.agg #[.int .u64 (hiW ym), .int .u64 (loW ym)]) ∧ RowKit.Below wx.heap.size wx w') := fun wx => mul_w y 1000000 ym wx hym y0 (by omega) (by omega) (by omega)
    have HAd : Hid (∀ wx, Calls Tryz.prog 99 #[.agg #[.int .u64 (hiW p0), .int .u64 (loW p0)], .agg #[.int .u64 (hiW ym), .int .u64 (loW ym)]] wx fun e w' => e = .returned (.tuple #[.agg #[.int .u64 (hiW n0), .int .u64 (loW n0)], .int .i64 0]) ∧ RowKit.Below wx.heap.size wx w') := fun wx => by
      rw [← hn0]
      exact add_w p0 ym wx k0 (Int.le_trans k1 (by decide)) (by omega) (by omega)
    have HPM : Hid (∀ (n : Int) gs wx, EvB w w.heap.size w1.heap.size gs #[.int .i64 r, .int .i64 am, .int .i64 pe, .bool hm, .int .i64 mo, .bool hl, .int .i64 le] v pp n wx → Calls Tryz.prog 97 #[.int .i64 mo, .pointer (some ⟨w.heap.size + 1, 0, none⟩), .pointer (some ⟨w1.heap.size, 0, none⟩)] wx fun e w' => e = .returned (.agg #[.int .u64 (hiW ms), .int .u64 (loW ms)]) ∧ EvB w w.heap.size w1.heap.size gs #[.int .i64 r, .int .i64 am, .int .i64 pe, .bool hm, .int .i64 mo, .bool hl, .int .i64 le] v pp n w') := fun n gs wx h => h.part mo ms hms mo0 mo1 v0 v1 pp0 pp1
    have HPL : Hid (∀ (n : Int) gs wx, EvB w w.heap.size w1.heap.size gs #[.int .i64 r, .int .i64 am, .int .i64 pe, .bool hm, .int .i64 mo, .bool hl, .int .i64 le] v pp n wx → Calls Tryz.prog 97 #[.int .i64 le, .pointer (some ⟨w.heap.size + 1, 0, none⟩), .pointer (some ⟨w1.heap.size, 0, none⟩)] wx fun e w' => e = .returned (.agg #[.int .u64 (hiW ls), .int .u64 (loW ls)]) ∧ EvB w w.heap.size w1.heap.size gs #[.int .i64 r, .int .i64 am, .int .i64 pe, .bool hm, .int .i64 mo, .bool hl, .int .i64 le] v pp n w') := fun n gs wx h => h.part le ls hls le0 le1 v0 v1 pp0 pp1
    have HCM : Hid (∀ (n x : Int) gs wx, EvB w w.heap.size w1.heap.size gs #[.int .i64 r, .int .i64 am, .int .i64 pe, .bool hm, .int .i64 mo, .bool hl, .int .i64 le] v pp n wx → 0 ≤ n → 0 ≤ x → Calls Tryz.prog 100 #[.agg #[.int .u64 (hiW n), .int .u64 (loW n)], .agg #[.int .u64 (hiW x), .int .u64 (loW x)]] wx fun e w' => e = .returned (.int .i64 (cmpV n x)) ∧ EvB w w.heap.size w1.heap.size gs #[.int .i64 r, .int .i64 am, .int .i64 pe, .bool hm, .int .i64 mo, .bool hl, .int .i64 le] v pp n w') := fun n x gs wx h h0 hx => h.cmp x h0 hx
    have u3 : IntKind.u64.wrap y = y := IntWalk.u64_in _ (by omega)
    have u3b : IntKind.u64.wrap (am * q) = y := by rw [hy]; exact u3
    clear hp0 hms hls hy hym hn0 hN0 hpp x0 x1 mb0 mb1 lb0 lb1

    refine wp_region_rows [
        ⟨⟨some 39, [], []⟩, fun _ v => v = .func (.func 97) #[] #[.pointer (some ⟨w.heap.size + 1, 0, none⟩), .pointer (some ⟨w1.heap.size, 0, none⟩)], NoR⟩,
        ⟨⟨some 40, [], []⟩, fun _ v => v = .pointer (some ⟨w.heap.size, 0, none⟩), NoR⟩,
        ⟨⟨some 41, [1], []⟩, fun _ v => v = .int .i64 r, NoR⟩,
        ⟨⟨some 42, [2, 0], []⟩, fun _ v => v = .agg #[.int .u64 (hiW p0), .int .u64 (loW p0)], NoR⟩,
        ⟨⟨some 43, [], []⟩, fun _ v => v = .pointer (some ⟨w.heap.size, 1, none⟩), NoR⟩,
        ⟨⟨some 44, [4], []⟩, fun _ v => v = .int .i64 am, NoR⟩,
        ⟨⟨some 45, [5], []⟩, fun _ v => v = .int .u64 am, NoR⟩,
        ⟨⟨some 46, [], []⟩, fun _ v => v = .int .i64 q, NoR⟩,
        ⟨⟨some 47, [7], []⟩, fun _ v => v = .int .u64 q, NoR⟩,
        ⟨⟨some 48, [6, 8], []⟩, fun _ v => v = .int .u64 y, NoR⟩,
        ⟨⟨some 49, [9], []⟩, fun _ v => v = .agg #[.int .u64 (hiW ym), .int .u64 (loW ym)], NoR⟩,
        ⟨⟨some 50, [3, 10], []⟩, fun _ v => v = .tuple #[.agg #[.int .u64 (hiW n0), .int .u64 (loW n0)], .int .i64 0], NoR⟩,
        ⟨⟨some 38, [11], []⟩, fun _ v => v = .tuple #[.agg #[.int .u64 (hiW n0), .int .u64 (loW n0)], .int .i64 0], NoR⟩,
        ⟨⟨some 51, [12], []⟩, fun _ v => v = .agg #[.int .u64 (hiW n0), .int .u64 (loW n0)], NoR⟩,
        ⟨⟨some 52, [12], []⟩, fun _ v => v = .int .i64 0, NoR⟩,
        ⟨⟨some 11, [], []⟩, NoF, PtrR 197 #[.int .u64 0, .int .u64 0]⟩,
        ⟨⟨none, [15, 13], [15]⟩, NoF, PutR 197 #[.int .u64 (hiW n0), .int .u64 (loW n0)]⟩,
        ⟨⟨some 12, [14], []⟩, fun _ v => v = .int .i64 0, NoR⟩] (by kernel_rfl) (by kernel_rfl) (by kernel_rfl) ⟨NoR.loc, NoR.loc, NoR.loc, NoR.loc, NoR.loc, NoR.loc, NoR.loc, NoR.loc, NoR.loc, NoR.loc, NoR.loc, NoR.loc, NoR.loc, NoR.loc, NoR.loc, PtrR.loc, PutR.loc, NoR.loc, trivial⟩ ⟨?r0, ?r1, ?r2, ?r3, ?r4, ?r5, ?r6, ?r7, ?r8, ?r9, ?r10, ?r11, ?r12, ?r13, ?r14, ?r15, ?r16, ?r17, trivial⟩ ?fin
    case r0 =>
      refine step_of rfl rfl ?_
      intro a wx vs fp K hF hK
      exact op_move rfl (hF.at_ 10 rfl) (hK _ _ _ (hF.only rfl trivial))
    case r1 =>
      refine step_of rfl rfl ?_
      intro a wx vs fp K hF hK
      have ea : a.eval (.tmp 3) = .pointer (some ⟨w.heap.size, 0, none⟩) := hF.at_ 3 rfl
      refine op_value (v := .pointer (some ⟨w.heap.size, 0, none⟩)) ?_ (hK _ _ _ (hF.only rfl trivial))
      clear hF hK
      generalize a.eval = ρ at *
      go_simp
    case r2 =>
      refine step_of rfl rfl ?_
      intro a wx vs fp K hF hK
      have ea : a.eval (.tmp 40) = .pointer (some ⟨w.heap.size, 0, none⟩) := (hF.ev 1 40 rfl rfl).trans (hF.va 1 rfl)
      have mc := (hF.below.cell (p := ⟨w.heap.size, 0, none⟩) lW0).trans q0
      refine op_value (v := .int .i64 r) ?_ (hK _ _ _ (hF.only rfl trivial))
      clear hF hK
      generalize a.eval = ρ at *
      go_simp
    case r3 =>
      refine step_of rfl rfl ?_
      intro a wx vs fp K hF hK
      have e0 : a.eval (.tmp 41) = .int .i64 r := (hF.ev 2 41 rfl rfl).trans (hF.va 2 rfl)
      have ef : a.eval (.tmp 39) = .func (.func 97) #[] #[.pointer (some ⟨w.heap.size + 1, 0, none⟩), .pointer (some ⟨w1.heap.size, 0, none⟩)] := (hF.ev 0 39 rfl rfl).trans (hF.va 0 rfl)
      refine op_callf (vals := #[.int .i64 r]) rfl ef (by kernel_rfl) ?_ rfl ((HPt.out wx hF.below).mono ?_)
      · simp only [List.map_toArray, List.map_cons, List.map_nil, e0] <;> rfl
      rintro e w' ⟨rfl, hb⟩
      exact ⟨_, rfl, hK _ _ [] (hF.under hb rfl trivial (fun g hg => (by cases hg)))⟩
    case r4 =>
      refine step_of rfl rfl ?_
      intro a wx vs fp K hF hK
      have ea : a.eval (.tmp 3) = .pointer (some ⟨w.heap.size, 0, none⟩) := hF.at_ 3 rfl
      refine op_value (v := .pointer (some ⟨w.heap.size, 1, none⟩)) ?_ (hK _ _ _ (hF.only rfl trivial))
      clear hF hK
      generalize a.eval = ρ at *
      go_simp
    case r5 =>
      refine step_of rfl rfl ?_
      intro a wx vs fp K hF hK
      have ea : a.eval (.tmp 43) = .pointer (some ⟨w.heap.size, 1, none⟩) := (hF.ev 4 43 rfl rfl).trans (hF.va 4 rfl)
      have mc := (hF.below.cell (p := ⟨w.heap.size, 1, none⟩) lW0).trans q1
      refine op_value (v := .int .i64 am) ?_ (hK _ _ _ (hF.only rfl trivial))
      clear hF hK
      generalize a.eval = ρ at *
      go_simp
    case r6 =>
      refine step_of rfl rfl ?_
      intro a wx vs fp K hF hK
      have ev5 : a.eval (.tmp 44) = .int .i64 am := (hF.ev 5 44 rfl rfl).trans (hF.va 5 rfl)
      refine op_value (v := .int .u64 am) ?_ (hK _ _ _ (hF.only rfl trivial))
      have ec : ∀ v, a.eval (.const v) = v := fun _ => rfl
      clear hF hK
      generalize a.eval = ρ at *
      go_simp
    case r7 =>
      refine step_of rfl rfl ?_
      intro a wx vs fp K hF hK
      exact op_move rfl (hF.at_ 2 rfl) (hK _ _ _ (hF.only rfl trivial))
    case r8 =>
      refine step_of rfl rfl ?_
      intro a wx vs fp K hF hK
      have ev7 : a.eval (.tmp 46) = .int .i64 q := (hF.ev 7 46 rfl rfl).trans (hF.va 7 rfl)
      refine op_value (v := .int .u64 q) ?_ (hK _ _ _ (hF.only rfl trivial))
      have ec : ∀ v, a.eval (.const v) = v := fun _ => rfl
      clear hF hK
      generalize a.eval = ρ at *
      go_simp
    case r9 =>
      refine step_of rfl rfl ?_
      intro a wx vs fp K hF hK
      have ev6 : a.eval (.tmp 45) = .int .u64 am := (hF.ev 6 45 rfl rfl).trans (hF.va 6 rfl)
      have ev8 : a.eval (.tmp 47) = .int .u64 q := (hF.ev 8 47 rfl rfl).trans (hF.va 8 rfl)
      refine op_value (v := .int .u64 y) ?_ (hK _ _ _ (hF.only rfl trivial))
      have ec : ∀ v, a.eval (.const v) = v := fun _ => rfl
      clear hF hK
      generalize a.eval = ρ at *
      go_simp
    case r10 =>
      refine step_of rfl rfl ?_
      intro a wx vs fp K hF hK
      have e0 : a.eval (.tmp 48) = .int .u64 y := (hF.ev 9 48 rfl rfl).trans (hF.va 9 rfl)
      refine op_call (vals := #[.int .u64 y, .int .u64 1000000]) rfl (by kernel_rfl) ?_ ((HMl.out wx).mono ?_)
      · simp only [List.map_toArray, List.map_cons, List.map_nil, e0] <;> rfl
      rintro e w' ⟨rfl, hb⟩
      exact ⟨_, rfl, hK _ _ [] (hF.under hb rfl trivial (fun g hg => (by cases hg)))⟩
    case r11 =>
      refine step_of rfl rfl ?_
      intro a wx vs fp K hF hK
      have e0 : a.eval (.tmp 42) = .agg #[.int .u64 (hiW p0), .int .u64 (loW p0)] := (hF.ev 3 42 rfl rfl).trans (hF.va 3 rfl)
      have e1 : a.eval (.tmp 49) = .agg #[.int .u64 (hiW ym), .int .u64 (loW ym)] := (hF.ev 10 49 rfl rfl).trans (hF.va 10 rfl)
      refine op_call (vals := #[.agg #[.int .u64 (hiW p0), .int .u64 (loW p0)], .agg #[.int .u64 (hiW ym), .int .u64 (loW ym)]]) rfl (by kernel_rfl) ?_ ((HAd.out wx).mono ?_)
      · simp only [List.map_toArray, List.map_cons, List.map_nil, e0, e1] <;> rfl
      rintro e w' ⟨rfl, hb⟩
      exact ⟨_, rfl, hK _ _ [] (hF.under hb rfl trivial (fun g hg => (by cases hg)))⟩
    case r12 =>
      refine step_of rfl rfl ?_
      intro a wx vs fp K hF hK
      exact op_move rfl ((hF.ev 11 50 rfl rfl).trans (hF.va 11 rfl)) (hK _ _ _ (hF.only rfl trivial))
    case r13 =>
      refine step_of rfl rfl ?_
      intro a wx vs fp K hF hK
      exact op_extract rfl ((hF.ev 12 38 rfl rfl).trans (hF.va 12 rfl)) rfl (hK _ _ _ (hF.only rfl trivial))
    case r14 =>
      refine step_of rfl rfl ?_
      intro a wx vs fp K hF hK
      exact op_extract rfl ((hF.ev 12 38 rfl rfl).trans (hF.va 12 rfl)) rfl (hK _ _ _ (hF.only rfl trivial))
    case r15 =>
      refine step_of rfl rfl ?_
      intro a wx vs fp K hF hK
      refine op_value (v := .pointer (some ⟨wx.heap.size, 0, none⟩)) (w' := wx.alloc (.cells #[.int .u64 0, .int .u64 0] 197)) ?_ (hK _ _ _ (hF.made _ trivial ⟨_, rfl, rfl, Bl.new _ _ _⟩))
      have ec : ∀ v, a.eval (.const v) = v := fun _ => rfl
      clear hF hK
      generalize a.eval = ρ at *
      go_simp
    case r16 =>
      refine step_of rfl rfl ?_
      intro a wx vs fp K hF hK
      have hm : PtrR 197 #[.int .u64 0, .int .u64 0] [] (vs 15) (fp 15) wx := hF.me 15 rfl
      obtain ⟨g, hg, hfg, hbl⟩ := hm
      have e1 : a.eval (.tmp 11) = .pointer (some ⟨g, 0, none⟩) := (hF.ev 15 11 rfl rfl).trans hg
      have e2 : a.eval (.tmp 51) = .agg #[.int .u64 (hiW n0), .int .u64 (loW n0)] := (hF.ev 13 51 rfl rfl).trans (hF.va 13 rfl)
      have y0 : wx.cell? ⟨g, 0, none⟩ = some (.int .u64 0) := hbl.cell 0
      have y1 : wx.cell? ⟨g, 1, none⟩ = some (.int .u64 0) := hbl.cell 1
      have f0 : wx.frozen? ⟨g, 0, none⟩ = false := hbl.free 0
      have f1 : wx.frozen? ⟨g, 1, none⟩ = false := hbl.free 1
      refine op_skip (w' := (wx.setCell ⟨g, 0, none⟩ (.int .u64 (hiW n0))).setCell ⟨g, 1, none⟩ (.int .u64 (loW n0))) ?_ (hK undef _ _ (hF.wrote 15 rfl hfg (((Only.refl g wx).setCell 0 _).setCell 1 _) trivial ⟨g, congrArg some hg, rfl, set2_bl hbl _ _⟩))
      have ec : ∀ v, a.eval (.const v) = v := fun _ => rfl
      clear hF hK
      generalize a.eval = ρ at *
      go_simp
    case r17 =>
      refine step_of rfl rfl ?_
      intro a wx vs fp K hF hK
      exact op_assign rfl ((hF.ev 14 52 rfl rfl).trans (hF.va 14 rfl)) (hK _ _ _ (hF.only rfl trivial))
    case fin =>
      intro wz vs fp hI
      obtain ⟨⟨gs, hg, hfg, hbl⟩, hgo⟩ : PutR 197 #[.int .u64 (hiW n0), .int .u64 (loW n0)] [vs 15, vs 13] (vs 16) (fp 16) wz ∧ _ := hI.finM 16 (by decide) rfl
      have hv15 : vs 15 = .pointer (some ⟨gs, 0, none⟩) := by simpa using hg
      have hv17 : vs 17 = .int .i64 0 := hI.fin 17 (by decide)
      have hgs : W.heap.size ≤ gs := (hgo gs (by rw [hfg]; simp)).1
      have HBz := HBW.out.trans (hI.below.mono HBW.out.size)
      have HE0 : Hid (EvB w w.heap.size w1.heap.size gs #[.int .i64 r, .int .i64 am, .int .i64 pe, .bool hm, .int .i64 mo, .bool hl, .int .i64 le] v pp n0 wz) := ⟨HBz, HXw.keep hI.below, HXvw.keep hI.below, HWp.keep hI.below, hbl, Nat.le_trans HBW.out.size hgs⟩
      clear hI hg hbl hgs HBz hgo hfg
      simp only [rj, number, putJ, List.map_cons, List.map_nil, if_true, Act.put, List.setIfInBounds_toArray, List.set_cons_zero, List.set_cons_succ, hv15, hv17]
      generalize vs 0 = zv0
      generalize vs 1 = zv1
      generalize vs 2 = zv2
      generalize vs 3 = zv3
      generalize vs 4 = zv4
      generalize vs 5 = zv5
      generalize vs 6 = zv6
      generalize vs 7 = zv7
      generalize vs 8 = zv8
      generalize vs 9 = zv9
      generalize vs 10 = zv10
      generalize vs 11 = zv11
      generalize vs 12 = zv12
      generalize vs 13 = zv13
      generalize vs 14 = zv14
      generalize vs 16 = zv16
      clear hv15 hv17
      clear q0 q1 HPt HMl HAd HWp HXw HXvw HBW lW0 lW1 lW2 HDR HIR HP HP2
      go_upto_region 11 with (fail)
      clear u0 u1 u2 u3 u3b
      have e3 : wz.cell? ⟨w.heap.size, 3, none⟩ = some (.bool hm) := HE0.out.d.cell 3
      have e4 : wz.cell? ⟨w.heap.size, 4, none⟩ = some (.int .i64 mo) := HE0.out.d.cell 4
      have s0 : wz.cell? ⟨gs, 0, none⟩ = some (.int .u64 (hiW n0)) := HE0.out.s.cell 0
      have s1 : wz.cell? ⟨gs, 1, none⟩ = some (.int .u64 (loW n0)) := HE0.out.s.cell 1
      go_cut [65] (fun b wx => b = .bool (hm && decide (ms < n0)) ∧ Hid (EvB w w.heap.size w1.heap.size gs #[.int .i64 r, .int .i64 am, .int .i64 pe, .bool hm, .int .i64 mo, .bool hl, .int .i64 le] v pp n0 wx))
      case first =>
        cases hm
        case false =>
          go_quiet (fail)
          go_wp2_with fail
          go_meet
          exact ⟨rfl, HE0.out.drewN _⟩
        case true =>
          have dc : decide (cmpV n0 ms > 0) = decide (ms < n0) := cmp_gt _ _
          have HS : Hid (∀ wx, EvB w w.heap.size w1.heap.size gs #[.int .i64 r, .int .i64 am, .int .i64 pe, .bool true, .int .i64 mo, .bool hl, .int .i64 le] v pp n0 wx → wx.cell? ⟨w.heap.size, 3, none⟩ = some (.bool true) ∧ wx.cell? ⟨w.heap.size, 4, none⟩ = some (.int .i64 mo) ∧ wx.cell? ⟨gs, 0, none⟩ = some (.int .u64 (hiW n0)) ∧ wx.cell? ⟨gs, 1, none⟩ = some (.int .u64 (loW n0))) := fun wx h => ⟨h.d.cell 3, h.d.cell 4, h.s.cell 0, h.s.cell 1⟩
          have hk0 := Lib.hid HE0.out.drew
          go_region_held3 (fun wx => wx.cell? ⟨w.heap.size, 3, none⟩ = some (.bool true) ∧ wx.cell? ⟨w.heap.size, 4, none⟩ = some (.int .i64 mo) ∧ wx.cell? ⟨gs, 0, none⟩ = some (.int .u64 (hiW n0)) ∧ wx.cell? ⟨gs, 1, none⟩ = some (.int .u64 (loW n0)))
            (first
              | with_reducible exact HS.out _ hkb.out
              | with_reducible exact HS.out _ hka.out
              | with_reducible exact HS.out _ hk0.out
              | with_reducible exact HS.out _ HE0.out)
            (first
              | (go_at_call 97; with_reducible (refine (HPM.out _ _ _ hk0.out).mono ?_); rintro e wa ⟨rfl, ha⟩; have hka := Lib.hid ha)
              | (go_at_call 100; with_reducible (refine (HCM.out _ _ _ _ hka.out b0.1 mc0).mono ?_); rintro e wb ⟨rfl, hb⟩; have hkb := Lib.hid hb))
          all_goals (go_wp2_with fail; go_meet; exact ⟨by rw [Bool.true_and], hkb.out⟩)
      case rest =>
      obtain ⟨rfl, HE1a⟩ := hcut
      clear e3 e4 s0 s1
      go_upto_if 65 with (fail)
      go_cut [11] (fun a wx => ∃ n : Int, a = .pointer (some ⟨gs, 0, none⟩) ∧ (0 ≤ n ∧ n ≤ 10100000000000000000000000) ∧ Hid (num1 ⟨r, am, pe, hm, mo, hl, le⟩ v q = n) ∧ Hid (EvB w w.heap.size w1.heap.size gs #[.int .i64 r, .int .i64 am, .int .i64 pe, .bool hm, .int .i64 mo, .bool hl, .int .i64 le] v pp n wx))
      case first =>
        cases hb : (hm && decide (ms < n0))
        case false =>
          go_wp2_with fail
          go_meet
          exact ⟨n0, rfl, b0, (by show _ = _; rw [HN1.out, if_neg (by intro h; rw [h.1] at hb; simp at hb; omega)]), HE1a.out⟩
        case true =>
          have e4 : wc.cell? ⟨w.heap.size, 4, none⟩ = some (.int .i64 mo) := HE1a.out.d.cell 4
          go_wp2_with fail
          refine (HPM.out _ _ _ HE1a.out).mono ?_
          rintro e wa ⟨rfl, ha⟩
          have s0 : wa.cell? ⟨gs, 0, none⟩ = some (.int .u64 (hiW n0)) := ha.s.cell 0
          have s1 : wa.cell? ⟨gs, 1, none⟩ = some (.int .u64 (loW n0)) := ha.s.cell 1
          have f0 : wa.frozen? ⟨gs, 0, none⟩ = false := ha.s.free 0
          have f1 : wa.frozen? ⟨gs, 1, none⟩ = false := ha.s.free 1
          have HA := Lib.hid (ha.put ms)
          clear ha
          go_wp2_with fail
          go_meet
          exact ⟨ms, rfl, by omega, (by show _ = _; rw [HN1.out, if_pos (by simpa using hb)]), HA.out⟩
      case rest =>
      obtain ⟨n1, rfl, hn1, HNM1, HE1⟩ := hcut
      clear HE1a
      go_upto_region 13 with (fail)
      have e3 : wc.cell? ⟨w.heap.size, 5, none⟩ = some (.bool hl) := HE1.out.d.cell 5
      have e4 : wc.cell? ⟨w.heap.size, 6, none⟩ = some (.int .i64 le) := HE1.out.d.cell 6
      have s0 : wc.cell? ⟨gs, 0, none⟩ = some (.int .u64 (hiW n1)) := HE1.out.s.cell 0
      have s1 : wc.cell? ⟨gs, 1, none⟩ = some (.int .u64 (loW n1)) := HE1.out.s.cell 1
      go_cut [80] (fun b wx => b = .bool (hl && decide (n1 < ls)) ∧ Hid (EvB w w.heap.size w1.heap.size gs #[.int .i64 r, .int .i64 am, .int .i64 pe, .bool hm, .int .i64 mo, .bool hl, .int .i64 le] v pp n1 wx))
      case first =>
        cases hl
        case false =>
          go_quiet (fail)
          go_wp2_with fail
          go_meet
          exact ⟨rfl, HE1.out.drewN _⟩
        case true =>
          have dc : decide (cmpV n1 ls < 0) = decide (n1 < ls) := cmp_lt _ _
          have HS : Hid (∀ wx, EvB w w.heap.size w1.heap.size gs #[.int .i64 r, .int .i64 am, .int .i64 pe, .bool hm, .int .i64 mo, .bool true, .int .i64 le] v pp n1 wx → wx.cell? ⟨w.heap.size, 5, none⟩ = some (.bool true) ∧ wx.cell? ⟨w.heap.size, 6, none⟩ = some (.int .i64 le) ∧ wx.cell? ⟨gs, 0, none⟩ = some (.int .u64 (hiW n1)) ∧ wx.cell? ⟨gs, 1, none⟩ = some (.int .u64 (loW n1))) := fun wx h => ⟨h.d.cell 5, h.d.cell 6, h.s.cell 0, h.s.cell 1⟩
          have hk0 := Lib.hid HE1.out.drew
          go_region_held3 (fun wx => wx.cell? ⟨w.heap.size, 5, none⟩ = some (.bool true) ∧ wx.cell? ⟨w.heap.size, 6, none⟩ = some (.int .i64 le) ∧ wx.cell? ⟨gs, 0, none⟩ = some (.int .u64 (hiW n1)) ∧ wx.cell? ⟨gs, 1, none⟩ = some (.int .u64 (loW n1)))
            (first
              | with_reducible exact HS.out _ hkb.out
              | with_reducible exact HS.out _ hka.out
              | with_reducible exact HS.out _ hk0.out
              | with_reducible exact HS.out _ HE1.out)
            (first
              | (go_at_call 97; with_reducible (refine (HPL.out _ _ _ hk0.out).mono ?_); rintro e wa ⟨rfl, ha⟩; have hka := Lib.hid ha)
              | (go_at_call 100; with_reducible (refine (HCM.out _ _ _ _ hka.out hn1.1 lc0).mono ?_); rintro e wb ⟨rfl, hb⟩; have hkb := Lib.hid hb))
          all_goals (go_wp2_with fail; go_meet; exact ⟨by rw [Bool.true_and], hkb.out⟩)
      case rest =>
      obtain ⟨rfl, HE2a⟩ := hcut
      clear e3 e4 s0 s1
      go_upto_if 80 with (fail)
      go_cut [11] (fun a wx => ∃ n : Int, a = .pointer (some ⟨gs, 0, none⟩) ∧ (0 ≤ n ∧ n ≤ 10100000000000000000000000) ∧ Hid (num2 ⟨r, am, pe, hm, mo, hl, le⟩ v q = n) ∧ Hid (EvB w w.heap.size w1.heap.size gs #[.int .i64 r, .int .i64 am, .int .i64 pe, .bool hm, .int .i64 mo, .bool hl, .int .i64 le] v pp n wx))
      case first =>
        cases hb : (hl && decide (n1 < ls))
        case false =>
          go_wp2_with fail
          go_meet
          exact ⟨n1, rfl, hn1, (by show _ = _; rw [HN2.out, HNM1.out, if_neg (by intro h; rw [h.1] at hb; simp at hb; omega)]), HE2a.out⟩
        case true =>
          have e4 : wc.cell? ⟨w.heap.size, 6, none⟩ = some (.int .i64 le) := HE2a.out.d.cell 6
          go_wp2_with fail
          refine (HPL.out _ _ _ HE2a.out).mono ?_
          rintro e wa ⟨rfl, ha⟩
          have s0 : wa.cell? ⟨gs, 0, none⟩ = some (.int .u64 (hiW n1)) := ha.s.cell 0
          have s1 : wa.cell? ⟨gs, 1, none⟩ = some (.int .u64 (loW n1)) := ha.s.cell 1
          have f0 : wa.frozen? ⟨gs, 0, none⟩ = false := ha.s.free 0
          have f1 : wa.frozen? ⟨gs, 1, none⟩ = false := ha.s.free 1
          have HA := Lib.hid (ha.put ls)
          clear ha
          go_wp2_with fail
          go_meet
          exact ⟨ls, rfl, by omega, (by show _ = _; rw [HN2.out, HNM1.out, if_pos (by simpa using hb)]), HA.out⟩
      case rest =>
      obtain ⟨n2, rfl, hn2, HNM2, HE2⟩ := hcut
      clear HE2a
      have s0 : wc.cell? ⟨gs, 0, none⟩ = some (.int .u64 (hiW n2)) := HE2.out.s.cell 0
      have s1 : wc.cell? ⟨gs, 1, none⟩ = some (.int .u64 (loW n2)) := HE2.out.s.cell 1
      have p0' : wc.cell? ⟨w1.heap.size, 0, none⟩ = some (.int .u64 pp) := HE2.out.p.cell 0
      have w6 : IntKind.u64.wrap (1000000 * pp) = 1000000 * pp := IntWalk.u64_in _ (by omega)
      have HDV := Lib.hid (div_w n2 (1000000 * pp) 2 wc hn2.1 (by omega) (by omega) (by omega))
      rw [← HNM2.out, ← HQ.out] at HDV
      obtain ⟨qq, hqq⟩ : ∃ x, quo18 ⟨r, am, pe, hm, mo, hl, le⟩ v q = x := ⟨_, rfl⟩
      rw [hqq] at HDV HOV HOK
      clear hqq HQ
      obtain ⟨qv, qe⟩ := qq
      dsimp only at HDV HOV HOK
      rw [HNM2.out] at HDV
      go_wp2_with fail
      refine HDV.out.mono ?_
      rintro e wd ⟨rfl, hbd⟩
      have HBD := Lib.hid (HE2.out.under hbd).below
      clear hbd s0 s1 p0' HDV HE2
      by_cases h1 : qe = 0
      case neg =>
        have d1 : (qe != 0) = true := by simpa using h1
        have E := Lib.hid (HOV.out (.inl h1))
        clear h1
        go_wp2
        go_ret2
        exact ERes.of E.out HBD.out
      case pos =>
      have d1 : (qe != 0) = false := by simpa using h1
      by_cases h2 : 1000000000000 < qv
      case pos =>
        have d2 : decide (qv > 1000000000000) = true := by simp; omega
        have d2b : decide (1000000000000 < qv) = true := by simp; omega
        have E := Lib.hid (HOV.out (.inr h2))
        clear h1 h2
        go_wp2
        go_ret2
        exact ERes.of E.out HBD.out
      case neg =>
      have d2 : decide (qv > 1000000000000) = false := by simp; omega
      have d2b : decide (1000000000000 < qv) = false := by simp; omega
      have E := Lib.hid (HOK.out (by rintro (h | h); exact h h1; exact h2 h))
      have hq0 := evalOut_bounds (d := ⟨r, am, pe, hm, mo, hl, le⟩) (v := v) (q := q) (by rw [E.out])
      rw [E.out] at hq0
      have w7 : IntKind.i64.wrap qv = qv := IntWalk.i64_in _ (by have := hq0.1; have := hq0.2; dsimp only at *; omega)
      clear h1 h2 hq0
      go_wp2
      go_ret2
      exact ERes.of E.out HBD.out
  · have y1 : (de == 0) = false := by simpa using z1
    have y1n : (de != 0) = true := by simpa using z1
    have E := Lib.hid (HBad.out z1)
    clear z1 HBad HRng HZ
    go_wp2
    go_ret2
    exact ERes.of E.out HB1.out
end Go.Proofs.YtbokkeooahodaaaGreatDoor

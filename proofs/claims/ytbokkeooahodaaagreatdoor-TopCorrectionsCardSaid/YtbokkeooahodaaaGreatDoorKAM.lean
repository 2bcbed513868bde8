/-
  Contract of assess.leastDuty. No statement of the seat is proved here. Conditions: the measures and the kinds lie in memory.
  Contract of measure.Validate. No statement of the seat is proved here. Conditions: the table of lengths is laid; the row of measures reads as a list.
-/
import Derived.Test.YtbokkeooahodaaaGreatDoorKAL
import Derived.Test.YtbokkeooahodaaaGreatDoorKAG
import Derived.Test.YtbokkeooahodaaaGreatDoorKAI
import Derived.Test.YtbokkeooahodaaaGreatDoorKAK
namespace Go.Proofs.YtbokkeooahodaaaGreatDoor
open Go.RowKit
set_option linter.unusedVariables false

theorem set5_bl {w : World} {g : Nat} {T : TypeId} {z0 z1 z2 z3 z4 : Value} (h : Bl w g T #[z0, z1, z2, z3, z4]) (a b c d e : Value) : Bl (((((w.setCell ⟨g, 0, none⟩ a).setCell ⟨g, 1, none⟩ b).setCell ⟨g, 2, none⟩ c).setCell ⟨g, 3, none⟩ d).setCell ⟨g, 4, none⟩ e) g T #[a, b, c, d, e] := by
  have := ((((h.put 0 a).put 1 b).put 2 c).put 3 d).put 4 e
  simpa using this
theorem only5 (g : Nat) (w : World) (a b c d e : Value) : Only g w (((((w.setCell ⟨g, 0, none⟩ a).setCell ⟨g, 1, none⟩ b).setCell ⟨g, 2, none⟩ c).setCell ⟨g, 3, none⟩ d).setCell ⟨g, 4, none⟩ e) :=
  (((((Only.refl g w).setCell 0 a).setCell 1 b).setCell 2 c).setCell 3 d).setCell 4 e
def dlA (x : Dl) : Array Value := #[.int .i64 x.kind, .int .i64 x.meas, .int .i64 x.qty, .int .i64 x.val, .int .i64 x.amt]
def LeRes (w : World) (o : Int × Option Dl) (e : Ending) (w' : World) : Prop := e = .returned (.tuple #[.agg (dlA (bestL o)), .bool (fndOf o), .int .i64 o.1]) ∧ RowKit.Below w.heap.size w w'
structure LdB (w : World) (N : Nat) (cs : Array Value) (x : Dl) (wx : World) : Prop where
  below : RowKit.Below N w wx
  p : Bl wx N 74 cs
  r : Bl wx (N + 1) 38 #[.int .i64 0, .int .i64 0, .int .i64 0, .int .i64 0, .int .i64 0]
  b : Bl wx (N + 2) 38 #[.int .i64 x.kind, .int .i64 x.meas, .int .i64 x.qty, .int .i64 x.val, .int .i64 x.amt]
section
variable {w wx w' : World} {N : Nat} {cs : Array Value} {x : Dl}
theorem LdB.size (h : LdB w N cs x wx) : N ≤ wx.heap.size := Nat.le_of_lt h.p.lt
theorem LdB.under (h : LdB w N cs x wx) (hb : RowKit.Below wx.heap.size wx w') : LdB w N cs x w' :=
  ⟨h.below.trans (hb.mono h.size), h.p.keep hb, h.r.keep hb, h.b.keep hb⟩
theorem LdB.alloc (h : LdB w N cs x wx) (o : Obj) : LdB w N cs x (wx.alloc o) := h.under ((Below.refl _ _).alloc (Nat.le_refl _) _)
theorem LdB.put (h : LdB w N cs x wx) (k m q v a : Int) : LdB w N cs ⟨k, m, q, v, a⟩ (((((wx.setCell ⟨N + 2, 0, none⟩ (.int .i64 k)).setCell ⟨N + 2, 1, none⟩ (.int .i64 m)).setCell ⟨N + 2, 2, none⟩ (.int .i64 q)).setCell ⟨N + 2, 3, none⟩ (.int .i64 v)).setCell ⟨N + 2, 4, none⟩ (.int .i64 a)) := by
  have hO := only5 (N + 2) wx (.int .i64 k) (.int .i64 m) (.int .i64 q) (.int .i64 v) (.int .i64 a)
  exact ⟨h.below.trans (hO.below (by omega)), hO.bl h.p (by omega), hO.bl h.r (by omega), set5_bl h.b _ _ _ _ _⟩
theorem LdB.res (h : LdB w N cs x wx) (y : Dl) : RowKit.Below N w (((((wx.setCell ⟨N + 1, 0, none⟩ (.int .i64 y.kind)).setCell ⟨N + 1, 1, none⟩ (.int .i64 y.meas)).setCell ⟨N + 1, 2, none⟩ (.int .i64 y.qty)).setCell ⟨N + 1, 3, none⟩ (.int .i64 y.val)).setCell ⟨N + 1, 4, none⟩ (.int .i64 y.amt)) ∧ Bl (((((wx.setCell ⟨N + 1, 0, none⟩ (.int .i64 y.kind)).setCell ⟨N + 1, 1, none⟩ (.int .i64 y.meas)).setCell ⟨N + 1, 2, none⟩ (.int .i64 y.qty)).setCell ⟨N + 1, 3, none⟩ (.int .i64 y.val)).setCell ⟨N + 1, 4, none⟩ (.int .i64 y.amt)) (N + 1) 38 #[.int .i64 y.kind, .int .i64 y.meas, .int .i64 y.qty, .int .i64 y.val, .int .i64 y.amt] :=
  ⟨h.below.trans ((only5 (N + 1) wx _ _ _ _ _).below (by omega)), set5_bl h.r _ _ _ _ _⟩
end
set_option maxRecDepth 100000 in
set_option maxHeartbeats 16000000 in
theorem leastDuty_any (A : Option Addr) (n c : Nat) (xs : List MsA) (qty val : Int) (KA : Option Addr) (kn kc : Nat) (ks : List Int) (w : World) (h : Recs encM 15 w A n xs) (hk : Ints w KA kn ks) (hn : n ≤ 1000000) (hkn : kn ≤ 1000000) :
    Calls Tryz.prog 26 #[.slice A n c, .agg #[.int .i64 qty, .int .i64 val, .slice KA kn kc]] w (LeRes w (leastOf (msL xs) ⟨qty, val, ks⟩)) := by
  have HX := Lib.hid h
  have HK := Lib.hid hk
  have hxl : (msL xs).length = n := by rw [msL_len]; exact h.1
  have hkl : ks.length = kn := hk.1
  obtain ⟨pt, hpt⟩ : ∃ pt : Pt, pt = ⟨qty, val, ks⟩ := ⟨_, rfl⟩
  obtain ⟨l, hl⟩ : ∃ l, msL xs = l := ⟨_, rfl⟩
  have HG : Hid (∀ i : Nat, l[i]! = xs[i]!.m) := fun i => by rw [← hl, msL_get]
  have HEV : Hid (∀ (y : MsA) wx, Calls Tryz.prog 56 #[.agg #[.int .i64 y.m.du.rate, .int .i64 y.m.du.am, .int .i64 y.m.du.per, .bool y.m.du.hm, .int .i64 y.m.du.most, .bool y.m.du.hl, .int .i64 y.m.du.least], .int .i64 val, .int .i64 qty] wx fun e w' => e = .returned (.tuple #[.int .i64 (evalOut y.m.du pt.val pt.qty).1, .int .i64 (evalOut y.m.du pt.val pt.qty).2]) ∧ RowKit.Below wx.heap.size wx w') := fun y wx => by
    rw [hpt]
    exact evaluate_any y.m.du val qty wx
  have HPK : Hid (pt.kinds = ks) := by rw [hpt]; exact Lib.hid rfl
  have HQ : Hid (pt.qty = qty ∧ pt.val = val) := by rw [hpt]; exact ⟨rfl, rfl⟩
  rw [hl] at hxl ⊢
  rw [← hpt]
  clear h hk hl hpt
  obtain ⟨N, hN⟩ : ∃ N, w.heap.size = N := ⟨_, rfl⟩
  have HL0 : Hid (LdB w N #[.int .i64 qty, .int .i64 val, .slice KA kn kc] (bestL (0, none)) (((w.alloc (.cells #[.int .i64 qty, .int .i64 val, .slice KA kn kc] 74)).alloc (.cells #[.int .i64 0, .int .i64 0, .int .i64 0, .int .i64 0, .int .i64 0] 38)).alloc (.cells #[.int .i64 0, .int .i64 0, .int .i64 0, .int .i64 0, .int .i64 0] 38))) := by
    subst hN
    exact ⟨(((Below.refl _ _).alloc (Nat.le_refl _) _).alloc (by simp) _).alloc (by simp; omega) _, Bl.alloc (Bl.alloc (Bl.new _ _ _) _) _, by have := Bl.alloc (Bl.new (w.alloc (.cells #[.int .i64 qty, .int .i64 val, .slice KA kn kc] 74)) 38 #[.int .i64 0, .int .i64 0, .int .i64 0, .int .i64 0, .int .i64 0]) (.cells #[.int .i64 0, .int .i64 0, .int .i64 0, .int .i64 0, .int .i64 0] 38); simpa using this, by have := Bl.new ((w.alloc (.cells #[.int .i64 qty, .int .i64 val, .slice KA kn kc] 74)).alloc (.cells #[.int .i64 0, .int .i64 0, .int .i64 0, .int .i64 0, .int .i64 0] 38)) 38 #[.int .i64 0, .int .i64 0, .int .i64 0, .int .i64 0, .int .i64 0]; simpa [bestL] using this⟩
  go_enter Tryz.func26, Tryz.ntmps26
  go_upto_region 2 with (fail)
  have s1 : (w.alloc (.cells #[.int .i64 qty, .int .i64 val, .slice KA kn kc] 74)).heap.size = N + 1 := by rw [← hN]; simp
  have s2 : ((w.alloc (.cells #[.int .i64 qty, .int .i64 val, .slice KA kn kc] 74)).alloc (.cells #[.int .i64 0, .int .i64 0, .int .i64 0, .int .i64 0, .int .i64 0] 38)).heap.size = N + 2 := by rw [← hN]; simp
  try rw [s1]
  try rw [s2]
  try rw [hN]
  try rw [show N + 1 + 1 = N + 2 from rfl]
  generalize ((w.alloc (.cells #[.int .i64 qty, .int .i64 val, .slice KA kn kc] 74)).alloc (.cells #[.int .i64 0, .int .i64 0, .int .i64 0, .int .i64 0, .int .i64 0] 38)).alloc (.cells #[.int .i64 0, .int .i64 0, .int .i64 0, .int .i64 0, .int .i64 0] 38) = W0 at *
  clear s1 s2
  have c2 : W0.cell? ⟨N, 2, none⟩ = some (.slice KA kn kc) := HL0.out.p.cell 2
  go_wp2_with fail
  go_loopw [8, 18] (fun f v wx => ∃ (j : Nat) (s : Int × Option Dl), v = .int .i64 (j : Int) ∧ f = .bool (fndOf s) ∧ j ≤ kn ∧ Hid (leF l pt j = s) ∧ s.1 = 0 ∧ Hid (LdB w N #[.int .i64 qty, .int .i64 val, .slice KA kn kc] (bestL s) wx)) (fun _ v _ => kn - (intOf v).toNat)
  case atStart => exact ⟨0, (0, none), rfl, rfl, Nat.zero_le _, rfl, rfl, HL0.out⟩
  case round =>
    clear HL0 c2
    obtain ⟨j, s, rfl, rfl, hj, HS, hs0, HL⟩ := hrel
    by_cases hlt : j < kn
    case neg =>
      obtain rfl : j = kn := by omega
      have dj : decide ((j : Int) < (j : Int)) = false := by simp
      have HE : Hid (leastOf l pt = s) := by
        show _ = _
        rw [← HS.out, ← leF_all, HPK.out, hkl]
      have e0 : wr.cell? ⟨N + 2, 0, none⟩ = some (.int .i64 (bestL s).kind) := HL.out.b.cell 0
      have e1 : wr.cell? ⟨N + 2, 1, none⟩ = some (.int .i64 (bestL s).meas) := HL.out.b.cell 1
      have e2 : wr.cell? ⟨N + 2, 2, none⟩ = some (.int .i64 (bestL s).qty) := HL.out.b.cell 2
      have e3 : wr.cell? ⟨N + 2, 3, none⟩ = some (.int .i64 (bestL s).val) := HL.out.b.cell 3
      have e4 : wr.cell? ⟨N + 2, 4, none⟩ = some (.int .i64 (bestL s).amt) := HL.out.b.cell 4
      have z0 : wr.cell? ⟨N + 1, 0, none⟩ = some (.int .i64 0) := HL.out.r.cell 0
      have f0 : wr.frozen? ⟨N + 1, 0, none⟩ = false := HL.out.r.free 0
      have z1 : wr.cell? ⟨N + 1, 1, none⟩ = some (.int .i64 0) := HL.out.r.cell 1
      have f1 : wr.frozen? ⟨N + 1, 1, none⟩ = false := HL.out.r.free 1
      have z2 : wr.cell? ⟨N + 1, 2, none⟩ = some (.int .i64 0) := HL.out.r.cell 2
      have f2 : wr.frozen? ⟨N + 1, 2, none⟩ = false := HL.out.r.free 2
      have z3 : wr.cell? ⟨N + 1, 3, none⟩ = some (.int .i64 0) := HL.out.r.cell 3
      have f3 : wr.frozen? ⟨N + 1, 3, none⟩ = false := HL.out.r.free 3
      have z4 : wr.cell? ⟨N + 1, 4, none⟩ = some (.int .i64 0) := HL.out.r.cell 4
      have f4 : wr.frozen? ⟨N + 1, 4, none⟩ = false := HL.out.r.free 4
      have HR := Lib.hid (HL.out.res (bestL s))
      have HRS : Hid (∀ w', RowKit.Below N w w' → LeRes w (leastOf l pt) (.returned (.tuple #[.agg #[.int .i64 (bestL s).kind, .int .i64 (bestL s).meas, .int .i64 (bestL s).qty, .int .i64 (bestL s).val, .int .i64 (bestL s).amt], .bool (fndOf s), .int .i64 0])) w') := fun w' hb => by
        rw [HE.out]
        unfold LeRes dlA
        rw [hs0, hN]
        exact ⟨rfl, hb⟩
      clear hs0 HS HE
      generalize fndOf s = fb at *
      generalize (bestL s).kind = k0 at *
      generalize (bestL s).meas = k1 at *
      generalize (bestL s).qty = k2 at *
      generalize (bestL s).val = k3 at *
      generalize (bestL s).amt = k4 at *
      go_wp2
      generalize (((((wr.setCell ⟨N + 1, 0, none⟩ (.int .i64 k0)).setCell ⟨N + 1, 1, none⟩ (.int .i64 k1)).setCell ⟨N + 1, 2, none⟩ (.int .i64 k2)).setCell ⟨N + 1, 3, none⟩ (.int .i64 k3)).setCell ⟨N + 1, 4, none⟩ (.int .i64 k4)) = W5 at *
      have y0 : W5.cell? ⟨N + 1, 0, none⟩ = some (.int .i64 k0) := HR.out.2.cell 0
      have y1 : W5.cell? ⟨N + 1, 1, none⟩ = some (.int .i64 k1) := HR.out.2.cell 1
      have y2 : W5.cell? ⟨N + 1, 2, none⟩ = some (.int .i64 k2) := HR.out.2.cell 2
      have y3 : W5.cell? ⟨N + 1, 3, none⟩ = some (.int .i64 k3) := HR.out.2.cell 3
      have y4 : W5.cell? ⟨N + 1, 4, none⟩ = some (.int .i64 k4) := HR.out.2.cell 4
      refine bodyPost_ret (v := .tuple #[.agg #[.int .i64 k0, .int .i64 k1, .int .i64 k2, .int .i64 k3, .int .i64 k4], .bool fb, .int .i64 0]) (by simp [results, Tryz.results26, go_sem, y0, y1, y2, y3, y4]) rfl (HRS.out _ HR.out.1)
    case pos =>
    have dj : decide ((j : Int) < (kn : Int)) = true := by simp; omega
    obtain ⟨bk, ok, kd, rfl, hbk, hck, hkd⟩ := (HK.out).get hlt
    have HKD : Hid (pt.kinds[j]! = kd) := by
      show _ = _
      rw [HPK.out, getElem!_pos ks j (by omega), ← hkd.out, List.getD_eq_getElem?_getD, List.getElem?_eq_getElem (by omega)]
      rfl
    have hNs : w.heap.size ≤ N := by omega
    have c3 : wr.cell? ⟨bk, ok + j, none⟩ = some (.int .i64 kd) := (HL.out.below.cell (p := ⟨bk, ok + j, none⟩) (show bk < N by omega)).trans hck
    have hjj : (j : Int) < (kn : Int) := by omega
    have hjz : (0 : Int) ≤ (j : Int) := by omega
    clear hck hkd
    go_wp2_with fail
    go_loopw [8, 24] (fun f v wx => ∃ (i : Nat) (s : Int × Option Dl), v = .int .i64 (i : Int) ∧ f = .bool (fndOf s) ∧ i ≤ n ∧ Hid (leG l pt j i = s) ∧ s.1 = 0 ∧ Hid (LdB w N #[.int .i64 qty, .int .i64 val, .slice (some ⟨bk, ok, none⟩) kn kc] (bestL s) wx)) (fun _ v _ => n - (intOf v).toNat)
    case atStart => exact ⟨0, s, rfl, rfl, Nat.zero_le _, HS.out, hs0, HL.out⟩
    case round =>
      clear HL HS hs0 c3
      obtain ⟨i, s, rfl, rfl, hi, HS, hs0, HL⟩ := hrel
      by_cases hlti : i < n
      case neg =>
        obtain rfl : i = n := by omega
        have di : decide ((i : Int) < (i : Int)) = false := by simp
        have HS2 : Hid (leF l pt (j + 1) = s) := by
          show _ = _
          rw [leF_step (by rw [HPK.out]; omega), hxl]
          exact HS.out
        have uj : IntKind.i64.wrap ((j : Int) + 1) = ((j + 1 : Nat) : Int) := IntWalk.i64_in _ (by omega)
        go_wp2_with fail
        go_roundw
        case rel => exact ⟨j + 1, s, by go_num, rfl, by omega, HS2.out, hs0, HL.out⟩
        case measure => simp [intOf]; omega
      case pos =>
      have di : decide ((i : Int) < (n : Int)) = true := by simp; omega
      obtain ⟨b1, o1, hA, hb1, ha⟩ := HX.out.at_ hlti
      subst hA
      obtain ⟨y, hy⟩ : ∃ y, xs[i]! = y := ⟨_, rfl⟩
      rw [hy] at ha
      have HY : Hid (l[i]! = y.m) := by show _ = _; rw [HG.out, hy]
      have a0 : wr.cell? ⟨b1, o1 + i * 15, none⟩ = some (.int .i64 y.m.id) := (HL.out.below.cell (p := ⟨b1, o1 + i * 15, none⟩) (show b1 < N by omega)).trans (ha 0 (by omega))
      have a1 : wr.cell? ⟨b1, o1 + i * 15 + 1, none⟩ = some (.int .i64 y.m.kind) := (HL.out.below.cell (p := ⟨b1, o1 + i * 15 + 1, none⟩) (show b1 < N by omega)).trans (ha 1 (by omega))
      have a2 : wr.cell? ⟨b1, o1 + i * 15 + 2, none⟩ = some (.string y.m.pre) := (HL.out.below.cell (p := ⟨b1, o1 + i * 15 + 2, none⟩) (show b1 < N by omega)).trans (ha 2 (by omega))
      have a3 : wr.cell? ⟨b1, o1 + i * 15 + 3, none⟩ = some (.slice y.A y.n y.c) := (HL.out.below.cell (p := ⟨b1, o1 + i * 15 + 3, none⟩) (show b1 < N by omega)).trans (ha 3 (by omega))
      have a4 : wr.cell? ⟨b1, o1 + i * 15 + 4, none⟩ = some (.int .i64 y.m.co) := (HL.out.below.cell (p := ⟨b1, o1 + i * 15 + 4, none⟩) (show b1 < N by omega)).trans (ha 4 (by omega))
      have a5 : wr.cell? ⟨b1, o1 + i * 15 + 5, none⟩ = some (.int .i64 y.m.fr) := (HL.out.below.cell (p := ⟨b1, o1 + i * 15 + 5, none⟩) (show b1 < N by omega)).trans (ha 5 (by omega))
      have a6 : wr.cell? ⟨b1, o1 + i * 15 + 6, none⟩ = some (.int .i64 y.m.til) := (HL.out.below.cell (p := ⟨b1, o1 + i * 15 + 6, none⟩) (show b1 < N by omega)).trans (ha 6 (by omega))
      have a7 : wr.cell? ⟨b1, o1 + i * 15 + 7, none⟩ = some (.int .i64 y.m.reg) := (HL.out.below.cell (p := ⟨b1, o1 + i * 15 + 7, none⟩) (show b1 < N by omega)).trans (ha 7 (by omega))
      have a8 : wr.cell? ⟨b1, o1 + i * 15 + 8, none⟩ = some (.int .i64 y.m.du.rate) := (HL.out.below.cell (p := ⟨b1, o1 + i * 15 + 8, none⟩) (show b1 < N by omega)).trans (ha 8 (by omega))
      have a9 : wr.cell? ⟨b1, o1 + i * 15 + 9, none⟩ = some (.int .i64 y.m.du.am) := (HL.out.below.cell (p := ⟨b1, o1 + i * 15 + 9, none⟩) (show b1 < N by omega)).trans (ha 9 (by omega))
      have a10 : wr.cell? ⟨b1, o1 + i * 15 + 10, none⟩ = some (.int .i64 y.m.du.per) := (HL.out.below.cell (p := ⟨b1, o1 + i * 15 + 10, none⟩) (show b1 < N by omega)).trans (ha 10 (by omega))
      have a11 : wr.cell? ⟨b1, o1 + i * 15 + 11, none⟩ = some (.bool y.m.du.hm) := (HL.out.below.cell (p := ⟨b1, o1 + i * 15 + 11, none⟩) (show b1 < N by omega)).trans (ha 11 (by omega))
      have a12 : wr.cell? ⟨b1, o1 + i * 15 + 12, none⟩ = some (.int .i64 y.m.du.most) := (HL.out.below.cell (p := ⟨b1, o1 + i * 15 + 12, none⟩) (show b1 < N by omega)).trans (ha 12 (by omega))
      have a13 : wr.cell? ⟨b1, o1 + i * 15 + 13, none⟩ = some (.bool y.m.du.hl) := (HL.out.below.cell (p := ⟨b1, o1 + i * 15 + 13, none⟩) (show b1 < N by omega)).trans (ha 13 (by omega))
      have a14 : wr.cell? ⟨b1, o1 + i * 15 + 14, none⟩ = some (.int .i64 y.m.du.least) := (HL.out.below.cell (p := ⟨b1, o1 + i * 15 + 14, none⟩) (show b1 < N by omega)).trans (ha 14 (by omega))
      have hii : (i : Int) < (n : Int) := by omega
      have hiz : (0 : Int) ≤ (i : Int) := by omega
      have ui : IntKind.i64.wrap ((i : Int) + 1) = ((i + 1 : Nat) : Int) := IntWalk.i64_in _ (by omega)
      clear ha hy
      have HLA : Hid (LdB w N #[.int .i64 qty, .int .i64 val, .slice (some ⟨bk, ok, none⟩) kn kc] (bestL s) (wr.alloc (.cells #[.int .i64 y.m.id, .int .i64 y.m.kind, .string y.m.pre, .slice y.A y.n y.c, .int .i64 y.m.co, .int .i64 y.m.fr, .int .i64 y.m.til, .int .i64 y.m.reg, .int .i64 y.m.du.rate, .int .i64 y.m.du.am, .int .i64 y.m.du.per, .bool y.m.du.hm, .int .i64 y.m.du.most, .bool y.m.du.hl, .int .i64 y.m.du.least] 62))) := HL.out.alloc _
      have HBY : Hid (Bl (wr.alloc (.cells #[.int .i64 y.m.id, .int .i64 y.m.kind, .string y.m.pre, .slice y.A y.n y.c, .int .i64 y.m.co, .int .i64 y.m.fr, .int .i64 y.m.til, .int .i64 y.m.reg, .int .i64 y.m.du.rate, .int .i64 y.m.du.am, .int .i64 y.m.du.per, .bool y.m.du.hm, .int .i64 y.m.du.most, .bool y.m.du.hl, .int .i64 y.m.du.least] 62)) wr.heap.size 62 #[.int .i64 y.m.id, .int .i64 y.m.kind, .string y.m.pre, .slice y.A y.n y.c, .int .i64 y.m.co, .int .i64 y.m.fr, .int .i64 y.m.til, .int .i64 y.m.reg, .int .i64 y.m.du.rate, .int .i64 y.m.du.am, .int .i64 y.m.du.per, .bool y.m.du.hm, .int .i64 y.m.du.most, .bool y.m.du.hl, .int .i64 y.m.du.least]) := Bl.new _ _ _
      go_upto_region 9 with (fail)
      clear HL a0 a1 a2 a3 a4 a5 a6 a7 a8 a9 a10 a11 a12 a13 a14
      generalize wr.alloc (.cells #[.int .i64 y.m.id, .int .i64 y.m.kind, .string y.m.pre, .slice y.A y.n y.c, .int .i64 y.m.co, .int .i64 y.m.fr, .int .i64 y.m.til, .int .i64 y.m.reg, .int .i64 y.m.du.rate, .int .i64 y.m.du.am, .int .i64 y.m.du.per, .bool y.m.du.hm, .int .i64 y.m.du.most, .bool y.m.du.hl, .int .i64 y.m.du.least] 62) = W1 at *
      generalize wr.heap.size = gy at *
      have g1 : W1.cell? ⟨gy, 1, none⟩ = some (.int .i64 y.m.kind) := HBY.out.cell 1
      have g8 : W1.cell? ⟨gy, 8, none⟩ = some (.int .i64 y.m.du.rate) := HBY.out.cell 8
      have g9 : W1.cell? ⟨gy, 9, none⟩ = some (.int .i64 y.m.du.am) := HBY.out.cell 9
      have g10 : W1.cell? ⟨gy, 10, none⟩ = some (.int .i64 y.m.du.per) := HBY.out.cell 10
      have g11 : W1.cell? ⟨gy, 11, none⟩ = some (.bool y.m.du.hm) := HBY.out.cell 11
      have g12 : W1.cell? ⟨gy, 12, none⟩ = some (.int .i64 y.m.du.most) := HBY.out.cell 12
      have g13 : W1.cell? ⟨gy, 13, none⟩ = some (.bool y.m.du.hl) := HBY.out.cell 13
      have g14 : W1.cell? ⟨gy, 14, none⟩ = some (.int .i64 y.m.du.least) := HBY.out.cell 14
      by_cases hkd : y.m.kind = kd
      case neg =>
        have dk : (y.m.kind == kd) = false := by simpa using hkd
        have dkn : (y.m.kind != kd) = true := by simpa using hkd
        have HS2 : Hid (leG l pt j (i + 1) = s) := by
          show _ = _
          rw [leG_skip (by omega) (by rw [HY.out, HKD.out]; exact hkd)]
          exact HS.out
        clear hkd
        go_wp2_with fail
        go_roundw
        case rel => exact ⟨i + 1, s, by go_num, rfl, by omega, HS2.out, hs0, HLA.out⟩
        case measure => simp [intOf]; omega
      case pos =>
      have dk : (y.m.kind == kd) = true := by simpa using hkd
      have dkn : (y.m.kind != kd) = false := by simpa using hkd
      have HST : Hid (leG l pt j (i + 1) = stepL pt s y.m) := by
        show _ = _
        rw [leG_step (by omega) (by rw [HY.out, HKD.out]; exact hkd), HS.out, HY.out]
      have p0 : W1.cell? ⟨N, 0, none⟩ = some (.int .i64 qty) := HLA.out.p.cell 0
      have p1 : W1.cell? ⟨N, 1, none⟩ = some (.int .i64 val) := HLA.out.p.cell 1
      clear hkd
      go_wp2_with fail
      refine (HEV.out y _).mono ?_
      rintro e w2 ⟨rfl, hb2⟩
      have HL2 : Hid (LdB w N #[.int .i64 qty, .int .i64 val, .slice (some ⟨bk, ok, none⟩) kn kc] (bestL s) w2) := HLA.out.under hb2
      have HY2 : Hid (Bl w2 gy 62 #[.int .i64 y.m.id, .int .i64 y.m.kind, .string y.m.pre, .slice y.A y.n y.c, .int .i64 y.m.co, .int .i64 y.m.fr, .int .i64 y.m.til, .int .i64 y.m.reg, .int .i64 y.m.du.rate, .int .i64 y.m.du.am, .int .i64 y.m.du.per, .bool y.m.du.hm, .int .i64 y.m.du.most, .bool y.m.du.hl, .int .i64 y.m.du.least]) := HBY.out.keep hb2
      clear p0 p1 HLA HBY g1 g8 g9 g10 g11 g12 g13 g14 hb2
      have HBN := Lib.hid (fun h : (evalOut y.m.du pt.val pt.qty).2 = 0 => evalOut_bounds h)
      obtain ⟨am, ham⟩ : ∃ am, (evalOut y.m.du pt.val pt.qty).1 = am := ⟨_, rfl⟩
      obtain ⟨er, her⟩ : ∃ er, (evalOut y.m.du pt.val pt.qty).2 = er := ⟨_, rfl⟩
      have HER := Lib.hid her
      have HAM := Lib.hid ham
      rw [ham, her]
      clear ham her
      by_cases he : er = 0
      case neg =>
        have de : (er == 0) = false := by simpa using he
        have den : (er != 0) = true := by simpa using he
        have HE : Hid (leastOf l pt = (er, none)) := by
          have h1 : leG l pt j (i + 1) = (er, none) := by rw [HST.out, stepL_bad hs0 (by rw [HER.out]; exact he), HER.out]
          show _ = _
          rw [← h1]
          exact least_err (by rw [HPK.out]; omega) (by omega) (by rw [h1]; exact he)
        have HR := Lib.hid (HL2.out.res ⟨0, 0, 0, 0, 0⟩)
        have z0 : w2.cell? ⟨N + 1, 0, none⟩ = some (.int .i64 0) := HL2.out.r.cell 0
        have f0 : w2.frozen? ⟨N + 1, 0, none⟩ = false := HL2.out.r.free 0
        have z1 : w2.cell? ⟨N + 1, 1, none⟩ = some (.int .i64 0) := HL2.out.r.cell 1
        have f1 : w2.frozen? ⟨N + 1, 1, none⟩ = false := HL2.out.r.free 1
        have z2 : w2.cell? ⟨N + 1, 2, none⟩ = some (.int .i64 0) := HL2.out.r.cell 2
        have f2 : w2.frozen? ⟨N + 1, 2, none⟩ = false := HL2.out.r.free 2
        have z3 : w2.cell? ⟨N + 1, 3, none⟩ = some (.int .i64 0) := HL2.out.r.cell 3
        have f3 : w2.frozen? ⟨N + 1, 3, none⟩ = false := HL2.out.r.free 3
        have z4 : w2.cell? ⟨N + 1, 4, none⟩ = some (.int .i64 0) := HL2.out.r.cell 4
        have f4 : w2.frozen? ⟨N + 1, 4, none⟩ = false := HL2.out.r.free 4
        have HRS : Hid (∀ w', RowKit.Below N w w' → LeRes w (leastOf l pt) (.returned (.tuple #[.agg #[.int .i64 0, .int .i64 0, .int .i64 0, .int .i64 0, .int .i64 0], .bool false, .int .i64 er])) w') := fun w' hb => by
          rw [HE.out]
          unfold LeRes dlA bestL fndOf
          rw [hN]
          exact ⟨rfl, hb⟩
        clear hs0 HS HE HST HER HAM HBN
        dsimp only at HR
        go_wp2
        generalize (((((w2.setCell ⟨N + 1, 0, none⟩ (.int .i64 0)).setCell ⟨N + 1, 1, none⟩ (.int .i64 0)).setCell ⟨N + 1, 2, none⟩ (.int .i64 0)).setCell ⟨N + 1, 3, none⟩ (.int .i64 0)).setCell ⟨N + 1, 4, none⟩ (.int .i64 0)) = W5 at *
        have y0 : W5.cell? ⟨N + 1, 0, none⟩ = some (.int .i64 0) := HR.out.2.cell 0
        have y1 : W5.cell? ⟨N + 1, 1, none⟩ = some (.int .i64 0) := HR.out.2.cell 1
        have y2 : W5.cell? ⟨N + 1, 2, none⟩ = some (.int .i64 0) := HR.out.2.cell 2
        have y3 : W5.cell? ⟨N + 1, 3, none⟩ = some (.int .i64 0) := HR.out.2.cell 3
        have y4 : W5.cell? ⟨N + 1, 4, none⟩ = some (.int .i64 0) := HR.out.2.cell 4
        refine bodyPost_ret (v := .tuple #[.agg #[.int .i64 0, .int .i64 0, .int .i64 0, .int .i64 0, .int .i64 0], .bool false, .int .i64 er]) (by simp [results, Tryz.results26, go_sem, y0, y1, y2, y3, y4]) rfl (HRS.out _ HR.out.1)
      case pos =>
      subst he
      have hb0 := HBN.out HER.out
      rw [HAM.out] at hb0
      cases hf : fndOf s
      case false =>
        have HS2 : Hid (leG l pt j (i + 1) = (0, some ⟨y.m.kind, y.m.id, qty, val, am⟩)) := by
          show _ = _
          rw [HST.out, stepL_take hs0 HER.out (.inl hf), HAM.out, HQ.out.1, HQ.out.2]
        have b0 : w2.cell? ⟨N + 2, 0, none⟩ = some (.int .i64 (bestL s).kind) := HL2.out.b.cell 0
        have b1' : w2.cell? ⟨N + 2, 1, none⟩ = some (.int .i64 (bestL s).meas) := HL2.out.b.cell 1
        have b2' : w2.cell? ⟨N + 2, 2, none⟩ = some (.int .i64 (bestL s).qty) := HL2.out.b.cell 2
        have b3' : w2.cell? ⟨N + 2, 3, none⟩ = some (.int .i64 (bestL s).val) := HL2.out.b.cell 3
        have b4' : w2.cell? ⟨N + 2, 4, none⟩ = some (.int .i64 (bestL s).amt) := HL2.out.b.cell 4
        have f0 : w2.frozen? ⟨N + 2, 0, none⟩ = false := HL2.out.b.free 0
        have f1 : w2.frozen? ⟨N + 2, 1, none⟩ = false := HL2.out.b.free 1
        have f2 : w2.frozen? ⟨N + 2, 2, none⟩ = false := HL2.out.b.free 2
        have f3 : w2.frozen? ⟨N + 2, 3, none⟩ = false := HL2.out.b.free 3
        have f4 : w2.frozen? ⟨N + 2, 4, none⟩ = false := HL2.out.b.free 4
        have g0 : w2.cell? ⟨gy, 0, none⟩ = some (.int .i64 y.m.id) := HY2.out.cell 0
        have g1 : w2.cell? ⟨gy, 1, none⟩ = some (.int .i64 y.m.kind) := HY2.out.cell 1
        have p0 : w2.cell? ⟨N, 0, none⟩ = some (.int .i64 qty) := HL2.out.p.cell 0
        have p1 : w2.cell? ⟨N, 1, none⟩ = some (.int .i64 val) := HL2.out.p.cell 1
        have HL3 := Lib.hid (HL2.out.put y.m.kind y.m.id qty val am)
        clear HST HBN HL2 HY2
        go_wp2_with fail
        go_roundw
        case rel => exact ⟨i + 1, _, by go_num, rfl, by omega, HS2.out, rfl, HL3.out⟩
        case measure => simp [intOf]; omega
      case true =>
      have b4 : w2.cell? ⟨N + 2, 4, none⟩ = some (.int .i64 (bestL s).amt) := HL2.out.b.cell 4
      by_cases hlt2 : am < (bestL s).amt
      case pos =>
        have d2 : decide (am < (bestL s).amt) = true := decide_eq_true hlt2
        have HS2 : Hid (leG l pt j (i + 1) = (0, some ⟨y.m.kind, y.m.id, qty, val, am⟩)) := by
          show _ = _
          rw [HST.out, stepL_take hs0 HER.out (.inr (by rw [HAM.out]; exact hlt2)), HAM.out, HQ.out.1, HQ.out.2]
        have b0 : w2.cell? ⟨N + 2, 0, none⟩ = some (.int .i64 (bestL s).kind) := HL2.out.b.cell 0
        have b1' : w2.cell? ⟨N + 2, 1, none⟩ = some (.int .i64 (bestL s).meas) := HL2.out.b.cell 1
        have b2' : w2.cell? ⟨N + 2, 2, none⟩ = some (.int .i64 (bestL s).qty) := HL2.out.b.cell 2
        have b3' : w2.cell? ⟨N + 2, 3, none⟩ = some (.int .i64 (bestL s).val) := HL2.out.b.cell 3
        have b4' : w2.cell? ⟨N + 2, 4, none⟩ = some (.int .i64 (bestL s).amt) := HL2.out.b.cell 4
        have f0 : w2.frozen? ⟨N + 2, 0, none⟩ = false := HL2.out.b.free 0
        have f1 : w2.frozen? ⟨N + 2, 1, none⟩ = false := HL2.out.b.free 1
        have f2 : w2.frozen? ⟨N + 2, 2, none⟩ = false := HL2.out.b.free 2
        have f3 : w2.frozen? ⟨N + 2, 3, none⟩ = false := HL2.out.b.free 3
        have f4 : w2.frozen? ⟨N + 2, 4, none⟩ = false := HL2.out.b.free 4
        have g0 : w2.cell? ⟨gy, 0, none⟩ = some (.int .i64 y.m.id) := HY2.out.cell 0
        have g1 : w2.cell? ⟨gy, 1, none⟩ = some (.int .i64 y.m.kind) := HY2.out.cell 1
        have p0 : w2.cell? ⟨N, 0, none⟩ = some (.int .i64 qty) := HL2.out.p.cell 0
        have p1 : w2.cell? ⟨N, 1, none⟩ = some (.int .i64 val) := HL2.out.p.cell 1
        have HL3 := Lib.hid (HL2.out.put y.m.kind y.m.id qty val am)
        clear HST HBN HL2 HY2
        go_wp2_with fail
        go_roundw
        case rel => exact ⟨i + 1, _, by go_num, rfl, by omega, HS2.out, rfl, HL3.out⟩
        case measure => simp [intOf]; omega
      case neg =>
        have d2 : decide (am < (bestL s).amt) = false := decide_eq_false hlt2
        have HS2 : Hid (leG l pt j (i + 1) = s) := by
          show _ = _
          rw [HST.out, stepL_keep hs0 HER.out hf (by rw [HAM.out]; exact hlt2)]
        clear HST hlt2 HBN
        go_wp2_with fail
        go_roundw
        case rel => exact ⟨i + 1, s, by go_num, by rw [hf], by omega, HS2.out, hs0, HL2.out⟩
        case measure => simp [intOf]; omega
end Go.Proofs.YtbokkeooahodaaaGreatDoor

namespace Go.Proofs.YtbokkeooahodaaaGreatDoor
open Go.RowKit
set_option linter.unusedVariables false

theorem mssErr_long {l : List Ms} (h : 300 < l.length) : mssErr l = 8 := by unfold mssErr; rw [if_pos h]
theorem mssErr_at {l : List Ms} (h : l.length ≤ 300) (k : Nat) (hk : k < l.length) (h0 : ∀ i, i < k → msErr l i = 0) {er : Int} (he : msErr l k = er) (hn : er ≠ 0) : mssErr l = er := by
  unfold mssErr; rw [if_neg (by omega), firstErr_at h0 (by rw [he]; exact hn) _ hk, he]
theorem mssErr_ok {l : List Ms} (h : l.length ≤ 300) (h0 : ∀ i, i < l.length → msErr l i = 0) : mssErr l = 0 := by
  unfold mssErr; rw [if_neg (by omega), firstErr_zero h0]
set_option maxRecDepth 100000 in
set_option maxHeartbeats 16000000 in
theorem mvalidate20_any (A : Option Addr) (n c : Nat) (xs : List MsA) (w : World) (h : MsR w A n xs) (hG : LenG w) :
    Calls Tryz.prog 20 #[.slice A n c] w (VRes w (mssErr (msL xs))) := by
  have HL : Hid ((msL xs).length = n) := by unfold Hid; rw [msL_len, h.len]
  have HGl := Lib.hid hG
  clear hG
  have hn := h.2.1
  by_cases hl : 300 < n
  · have E := Lib.hid (mssErr_long (l := msL xs) (by have := HL.out; omega))
    have d1 : decide ((300 : Int) < (n : Int)) = true := by simp; omega
    go_enter Tryz.func20, Tryz.ntmps20
    go_wp2
    go_ret
    exact ⟨ret_int' E.out.symm, Below.refl _ _⟩
  have d1 : decide ((300 : Int) < (n : Int)) = false := by simp; omega
  go_enter Tryz.func20, Tryz.ntmps20
  go_wp2
  go_loopw [11] (fun i wr => ∃ k : Nat, k ≤ n ∧ i = .int .i64 k ∧ Hid (∀ i, i < k → msErr (msL xs) i = 0) ∧ RowKit.Below w.heap.size w wr) (fun i _ => n - (intOf i).toNat)
  case atStart => exact ⟨0, Nat.zero_le _, rfl, fun i hi => absurd hi (by omega), Below.refl _ _⟩
  case round =>
    obtain ⟨k, hk, rfl, HA, hbel⟩ := hrel
    by_cases hlt : k < n
    · obtain ⟨b, off, x, rfl, hbl, hcs, hsr, hps, HX⟩ := (h.below hbel).get hlt
      have HT : Hid (∀ er : Int, msErr (msL xs) k = er → er ≠ 0 → mssErr (msL xs) = er) := fun er he hx => mssErr_at (by have := HL.out; omega) k (by have := HL.out; omega) HA.out he hx
      have HA' : Hid (msErr (msL xs) k = 0 → ∀ i, i < k + 1 → msErr (msL xs) i = 0) := fun h0 i hi => by
        by_cases e : i = k
        · subst e; exact h0
        · exact HA.out i (by omega)
      have HS0 : Hid (msErr (msL xs) k = if ¬ msHead x.m then 2
          else if 0 < k ∧ x.m.id ≤ (msL xs)[k - 1]!.id then 9
          else if levelV x.m.pre = 0 then 1
          else if 20 < x.n then 8
          else if ¬ orgsOk x.m.orgs then 1
          else if ¬ msTime x.m then 2
          else duErr x.m.du) := by
        unfold Hid msErr
        rw [msL_get, HX.out, hsr.len]
      have HLv := Lib.hid (fun w' (hb : RowKit.Below w.heap.size w w') => level_any x.m.pre w' (HGl.out.below hb) hps)
      have HVo := Lib.hid (fun w' (hb : RowKit.Below wr.heap.size wr w') => vorgs_any x.A x.n x.c x.m.orgs w' (hsr.below hb))
      have HDv := Lib.hid (fun w' => dvalidate_any x.m.du.rate x.m.du.am x.m.du.per x.m.du.most x.m.du.least x.m.du.hm x.m.du.hl w')
      have hnn : x.n ≤ 1000000 := hsr.2.1
      clear HX hsr HA
      obtain ⟨⟨id, ki, pre, orgs, co, fr, til, reg, ⟨ra, am, pe, hm, mo, hl, le⟩⟩, A', n', c'⟩ := x
      unfold MsCells at hcs
      unfold msHead msTime at HS0
      unfold duA at HDv
      dsimp only at *
      obtain ⟨c0, c1, c2, c3, c4, c5, c6, c7, c8, c9, c10, c11, c12, c13, c14⟩ := hcs
      generalize msErr (msL xs) k = er at *
      generalize mssErr (msL xs) = res at *
      have HB1 : Hid (∀ o, RowKit.Below w.heap.size w (wr.alloc o)) := fun o => hbel.alloc hbel.size _
      by_cases g1 : id < 1
      · have d1 : decide (id < 1) = true := by simp; omega
        have E := Lib.hid (HT.out 2 (by rw [HS0.out, if_pos (by omega)]) (by omega))
        clear HS0 HT HA' HLv HVo HDv
        go_wp2
        go_ret
        exact ⟨ret_int' E.out.symm, HB1.out _⟩
      have d1 : decide (id < 1) = false := by simp; omega
      by_cases g2 : 1000000 < id
      · have d2 : decide (1000000 < id) = true := by simp; omega
        have E := Lib.hid (HT.out 2 (by rw [HS0.out, if_pos (by omega)]) (by omega))
        clear HS0 HT HA' HLv HVo HDv
        go_wp2
        go_ret
        exact ⟨ret_int' E.out.symm, HB1.out _⟩
      have d2 : decide (1000000 < id) = false := by simp; omega
      by_cases g3 : ki < 1
      · have d3 : decide (ki < 1) = true := by simp; omega
        have E := Lib.hid (HT.out 2 (by rw [HS0.out, if_pos (by omega)]) (by omega))
        clear HS0 HT HA' HLv HVo HDv
        go_wp2
        go_ret
        exact ⟨ret_int' E.out.symm, HB1.out _⟩
      have d3 : decide (ki < 1) = false := by simp; omega
      by_cases g4 : 6 < ki
      · have d4 : decide (6 < ki) = true := by simp; omega
        have E := Lib.hid (HT.out 2 (by rw [HS0.out, if_pos (by omega)]) (by omega))
        clear HS0 HT HA' HLv HVo HDv
        go_wp2
        go_ret
        exact ⟨ret_int' E.out.symm, HB1.out _⟩
      have d4 : decide (6 < ki) = false := by simp; omega
      by_cases g5 : co < 0
      · have d5 : decide (co < 0) = true := by simp; omega
        have E := Lib.hid (HT.out 2 (by rw [HS0.out, if_pos (by omega)]) (by omega))
        clear HS0 HT HA' HLv HVo HDv
        go_wp2
        go_ret
        exact ⟨ret_int' E.out.symm, HB1.out _⟩
      have d5 : decide (co < 0) = false := by simp; omega
      by_cases g6 : 999 < co
      · have d6 : decide (999 < co) = true := by simp; omega
        have E := Lib.hid (HT.out 2 (by rw [HS0.out, if_pos (by omega)]) (by omega))
        clear HS0 HT HA' HLv HVo HDv
        go_wp2
        go_ret
        exact ⟨ret_int' E.out.symm, HB1.out _⟩
      have d6 : decide (999 < co) = false := by simp; omega
      have HS1 := Lib.hid (HS0.out.trans (if_neg (by omega)))
      clear HS0
      have hsz0 : wr.heap.size < (wr.alloc (.cells #[.int .i64 id, .int .i64 ki, .string pre, .slice A' n' c', .int .i64 co, .int .i64 fr, .int .i64 til, .int .i64 reg, .int .i64 ra, .int .i64 am, .int .i64 pe, .bool hm, .int .i64 mo, .bool hl, .int .i64 le] 62)).heap.size := by simp
      have HBx := Bl.new wr 62 #[.int .i64 id, .int .i64 ki, .string pre, .slice A' n' c', .int .i64 co, .int .i64 fr, .int .i64 til, .int .i64 reg, .int .i64 ra, .int .i64 am, .int .i64 pe, .bool hm, .int .i64 mo, .bool hl, .int .i64 le]
      have hW : RowKit.Below wr.heap.size wr (wr.alloc (.cells #[.int .i64 id, .int .i64 ki, .string pre, .slice A' n' c', .int .i64 co, .int .i64 fr, .int .i64 til, .int .i64 reg, .int .i64 ra, .int .i64 am, .int .i64 pe, .bool hm, .int .i64 mo, .bool hl, .int .i64 le] 62)) := (Below.refl _ _).alloc (Nat.le_refl _) _
      have HBW := Lib.hid (HB1.out (.cells #[.int .i64 id, .int .i64 ki, .string pre, .slice A' n' c', .int .i64 co, .int .i64 fr, .int .i64 til, .int .i64 reg, .int .i64 ra, .int .i64 am, .int .i64 pe, .bool hm, .int .i64 mo, .bool hl, .int .i64 le] 62))
      clear HB1
      by_cases hk0 : 0 < k
      · obtain ⟨b', off', y, hA, _, hcy, _, _, HY⟩ := (h.below hbel).get (show k - 1 < n by omega)
        obtain ⟨rfl, rfl⟩ : b = b' ∧ off = off' := by simpa using hA
        have k1 := hcy.1
        have HS2 : Hid (er = if y.m.id < id ∧ False ∨ id ≤ y.m.id then 9
          else if levelV pre = 0 then 1
          else if 20 < n' then 8
          else if ¬ orgsOk orgs then 1
          else if ¬ (0 ≤ fr ∧ fr < til ∧ til ≤ 36525 ∧ -1 ≤ reg ∧ reg ≤ fr) then 2
          else duErr ⟨ra, am, pe, hm, mo, hl, le⟩) := by
          have := HS1.out
          rw [msL_get, HY.out] at this
          unfold Hid
          rw [this]
          congr 1
          simp [hk0]
        clear hcy hA HY HS1
        obtain ⟨pid, hpid⟩ : ∃ q, y.m.id = q := ⟨_, rfl⟩
        rw [hpid] at k1 HS2
        clear hpid
        obtain ⟨r, hr⟩ : ∃ r : Nat, k = r + 1 := ⟨k - 1, by omega⟩
        subst hr
        simp only [Nat.add_sub_cancel] at k1
        have i1 : (0 : Int) ≤ (r : Int) := by omega
        have i2 : (r : Int) < (n : Int) := by omega
        have d20 : decide (0 < (r : Int) + 1) = true := by simp
        have u1 : IntKind.i64.wrap ((r : Int) + 1 - 1) = (r : Int) := (IntWalk.i64_in _ (by omega)).trans (by omega)
        have u2 : IntKind.i64.wrap (r : Int) = (r : Int) := IntWalk.i64_in _ (by omega)
        by_cases g20 : id ≤ pid
        · have d21 : decide (id ≤ pid) = true := by simp; omega
          have E := Lib.hid (HT.out 9 (by rw [HS2.out, if_pos (.inr g20)]) (by omega))
          clear HS2 HT HA' HLv HVo HDv
          go_wp2
          have q0 := HBx.cell 0
          have k2 := (hW.cell (p := ⟨b, off + r * 15, none⟩) hbl).trans k1
          generalize wr.alloc (.cells #[.int .i64 id, .int .i64 ki, .string pre, .slice A' n' c', .int .i64 co, .int .i64 fr, .int .i64 til, .int .i64 reg, .int .i64 ra, .int .i64 am, .int .i64 pe, .bool hm, .int .i64 mo, .bool hl, .int .i64 le] 62) = W at *
          go_quiet (fail)
          go_wp2
          go_ret
          exact ⟨ret_int' E.out.symm, below_drewN HBW.out _⟩
        · have d21 : decide (id ≤ pid) = false := by simp; omega
          have HS3 := Lib.hid (HS2.out.trans (if_neg (fun hx => hx.elim (fun a => a.2.elim) g20)))
          clear HS2
          go_wp2
          have q0 := HBx.cell 0
          have k2 := (hW.cell (p := ⟨b, off + r * 15, none⟩) hbl).trans k1
          generalize wr.alloc (.cells #[.int .i64 id, .int .i64 ki, .string pre, .slice A' n' c', .int .i64 co, .int .i64 fr, .int .i64 til, .int .i64 reg, .int .i64 ra, .int .i64 am, .int .i64 pe, .bool hm, .int .i64 mo, .bool hl, .int .i64 le] 62) = W at *
          go_quiet (fail)
          have HBq := HBx.drewN nq
          have hWq := below_drewN hW nq
          have HBWq := Lib.hid (below_drewN HBW.out nq)
          generalize W.drewN nq = W1 at *
          have q2 : W1.cell? ⟨wr.heap.size, 2, none⟩ = some (.string pre) := HBq.cell 2
          have HL1 := Lib.hid (HLv.out W1 HBWq.out)
          clear HLv
          generalize levelV pre = lv at *
          go_wp2_with fail
          refine HL1.out.mono ?_
          rintro e w2 ⟨rfl, hb2⟩
          have HB2 := HBq.keep hb2
          have HW2 := Lib.hid (hWq.trans (hb2.mono hWq.size))
          have HBW2 := Lib.hid (HBWq.out.trans (hb2.mono HBWq.out.size))
          have t3 : w2.cell? ⟨wr.heap.size, 3, none⟩ = some (.slice A' n' c') := HB2.cell 3
          have t5 : w2.cell? ⟨wr.heap.size, 5, none⟩ = some (.int .i64 fr) := HB2.cell 5
          have t6 : w2.cell? ⟨wr.heap.size, 6, none⟩ = some (.int .i64 til) := HB2.cell 6
          have t7 : w2.cell? ⟨wr.heap.size, 7, none⟩ = some (.int .i64 reg) := HB2.cell 7
          have t8 : w2.cell? ⟨wr.heap.size, 8, none⟩ = some (.int .i64 ra) := HB2.cell 8
          have t9 : w2.cell? ⟨wr.heap.size, 9, none⟩ = some (.int .i64 am) := HB2.cell 9
          have t10 : w2.cell? ⟨wr.heap.size, 10, none⟩ = some (.int .i64 pe) := HB2.cell 10
          have t11 : w2.cell? ⟨wr.heap.size, 11, none⟩ = some (.bool hm) := HB2.cell 11
          have t12 : w2.cell? ⟨wr.heap.size, 12, none⟩ = some (.int .i64 mo) := HB2.cell 12
          have t13 : w2.cell? ⟨wr.heap.size, 13, none⟩ = some (.bool hl) := HB2.cell 13
          have t14 : w2.cell? ⟨wr.heap.size, 14, none⟩ = some (.int .i64 le) := HB2.cell 14
          clear HBq hWq HBWq q2 HL1 hb2 HB2 HBx
          by_cases z1 : lv = 0
          · have y1 : (lv == 0) = true := by simpa using z1
            have E := Lib.hid (HT.out 1 (by rw [HS3.out, if_pos z1]) (by omega))
            clear HT HA' HVo HDv
            go_wp2
            go_ret
            exact ⟨ret_int' E.out.symm, HBW2.out⟩
          have y1 : (lv == 0) = false := by simpa using z1
          have HS4 := Lib.hid (HS3.out.trans (if_neg z1))
          clear HS3 z1
          by_cases z2 : 20 < n'
          · have y2 : decide ((20 : Int) < (n' : Int)) = true := by simp; omega
            have E := Lib.hid (HT.out 8 (by rw [HS4.out, if_pos z2]) (by omega))
            clear HT HA' HVo HDv
            go_wp2
            go_ret
            exact ⟨ret_int' E.out.symm, HBW2.out⟩
          have y2 : decide ((20 : Int) < (n' : Int)) = false := by simp; omega
          have HS5 := Lib.hid (HS4.out.trans (if_neg z2))
          clear HS4
          have HV1 := Lib.hid (HVo.out w2 HW2.out)
          clear HVo
          cases z3 : decide (orgsOk orgs) with
          | false =>
            rw [z3] at HV1
            have E := Lib.hid (HT.out 1 (by rw [HS5.out, if_pos (of_decide_eq_false z3)]) (by omega))
            clear HT HA' HDv z3
            go_wp2_with fail
            refine HV1.out.mono ?_
            rintro e w3 ⟨rfl, rfl⟩
            go_wp2
            go_ret
            exact ⟨ret_int' E.out.symm, HBW2.out⟩
          | true =>
            rw [z3] at HV1
            have HS6 := Lib.hid (HS5.out.trans (if_neg (fun hx => hx (of_decide_eq_true z3))))
            clear HS5 z3
            go_wp2_with fail
            refine HV1.out.mono ?_
            rintro e w3 ⟨rfl, rfl⟩
            clear HV1
            by_cases v1 : fr < 0
            · have v1d : decide (fr < 0) = true := by simp; omega
              have E := Lib.hid (HT.out 2 (by rw [HS6.out, if_pos (by omega)]) (by omega))
              clear HT HA' HDv
              go_wp2
              go_ret
              exact ⟨ret_int' E.out.symm, HBW2.out⟩
            have v1d : decide (fr < 0) = false := by simp; omega
            by_cases v2 : til ≤ fr
            · have v2d : decide (til ≤ fr) = true := by simp; omega
              have E := Lib.hid (HT.out 2 (by rw [HS6.out, if_pos (by omega)]) (by omega))
              clear HT HA' HDv
              go_wp2
              go_ret
              exact ⟨ret_int' E.out.symm, HBW2.out⟩
            have v2d : decide (til ≤ fr) = false := by simp; omega
            by_cases v3 : 36525 < til
            · have v3d : decide (36525 < til) = true := by simp; omega
              have E := Lib.hid (HT.out 2 (by rw [HS6.out, if_pos (by omega)]) (by omega))
              clear HT HA' HDv
              go_wp2
              go_ret
              exact ⟨ret_int' E.out.symm, HBW2.out⟩
            have v3d : decide (36525 < til) = false := by simp; omega
            by_cases v4 : reg < -1
            · have v4d : decide (reg < -1) = true := by simp; omega
              have E := Lib.hid (HT.out 2 (by rw [HS6.out, if_pos (by omega)]) (by omega))
              clear HT HA' HDv
              go_wp2
              go_ret
              exact ⟨ret_int' E.out.symm, HBW2.out⟩
            have v4d : decide (reg < -1) = false := by simp; omega
            by_cases v5 : fr < reg
            · have v5d : decide (fr < reg) = true := by simp; omega
              have E := Lib.hid (HT.out 2 (by rw [HS6.out, if_pos (by omega)]) (by omega))
              clear HT HA' HDv
              go_wp2
              go_ret
              exact ⟨ret_int' E.out.symm, HBW2.out⟩
            have v5d : decide (fr < reg) = false := by simp; omega
            have HS7 := Lib.hid (HS6.out.trans (if_neg (by omega)))
            clear HS6
            generalize duErr ⟨ra, am, pe, hm, mo, hl, le⟩ = de at *
            go_wp2_with fail
            refine (HDv.out _).mono ?_
            rintro e w4 ⟨rfl, hb4⟩
            have HBW4 := Lib.hid (HBW2.out.trans (hb4.mono HBW2.out.size))
            by_cases z4 : de = 0
            · have y4 : (de == 0) = true := by simpa using z4
              have y4n : (de != 0) = false := by simpa using z4
              have HA2 := Lib.hid (HA'.out (by rw [HS7.out, z4]))
              clear HT HA' HS7 z4
              go_wp2
              go_roundw
              case rel => exact ⟨r + 1 + 1, by omega, by go_num, HA2.out, HBW4.out⟩
              case measure => simp [intOf]; omega
            · have y4 : (de == 0) = false := by simpa using z4
              have y4n : (de != 0) = true := by simpa using z4
              have E := Lib.hid (HT.out de (by rw [HS7.out]) z4)
              clear HT HA' HS7 z4
              go_wp2
              go_ret
              exact ⟨ret_int' E.out.symm, HBW4.out⟩
      · have d20 : decide ((0 : Int) < (k : Int)) = false := by simp; omega
        have HS3 := Lib.hid (HS1.out.trans (if_neg (fun hx => hk0 hx.1)))
        clear HS1
        go_wp2
        generalize wr.alloc (.cells #[.int .i64 id, .int .i64 ki, .string pre, .slice A' n' c', .int .i64 co, .int .i64 fr, .int .i64 til, .int .i64 reg, .int .i64 ra, .int .i64 am, .int .i64 pe, .bool hm, .int .i64 mo, .bool hl, .int .i64 le] 62) = W at *
        go_quiet (fail)
        have HBq := HBx.drewN nq
        have hWq := below_drewN hW nq
        have HBWq := Lib.hid (below_drewN HBW.out nq)
        generalize W.drewN nq = W1 at *
        have q2 : W1.cell? ⟨wr.heap.size, 2, none⟩ = some (.string pre) := HBq.cell 2
        have HL1 := Lib.hid (HLv.out W1 HBWq.out)
        clear HLv
        generalize levelV pre = lv at *
        go_wp2_with fail
        refine HL1.out.mono ?_
        rintro e w2 ⟨rfl, hb2⟩
        have HB2 := HBq.keep hb2
        have HW2 := Lib.hid (hWq.trans (hb2.mono hWq.size))
        have HBW2 := Lib.hid (HBWq.out.trans (hb2.mono HBWq.out.size))
        have t3 : w2.cell? ⟨wr.heap.size, 3, none⟩ = some (.slice A' n' c') := HB2.cell 3
        have t5 : w2.cell? ⟨wr.heap.size, 5, none⟩ = some (.int .i64 fr) := HB2.cell 5
        have t6 : w2.cell? ⟨wr.heap.size, 6, none⟩ = some (.int .i64 til) := HB2.cell 6
        have t7 : w2.cell? ⟨wr.heap.size, 7, none⟩ = some (.int .i64 reg) := HB2.cell 7
        have t8 : w2.cell? ⟨wr.heap.size, 8, none⟩ = some (.int .i64 ra) := HB2.cell 8
        have t9 : w2.cell? ⟨wr.heap.size, 9, none⟩ = some (.int .i64 am) := HB2.cell 9
        have t10 : w2.cell? ⟨wr.heap.size, 10, none⟩ = some (.int .i64 pe) := HB2.cell 10
        have t11 : w2.cell? ⟨wr.heap.size, 11, none⟩ = some (.bool hm) := HB2.cell 11
        have t12 : w2.cell? ⟨wr.heap.size, 12, none⟩ = some (.int .i64 mo) := HB2.cell 12
        have t13 : w2.cell? ⟨wr.heap.size, 13, none⟩ = some (.bool hl) := HB2.cell 13
        have t14 : w2.cell? ⟨wr.heap.size, 14, none⟩ = some (.int .i64 le) := HB2.cell 14
        clear HBq hWq HBWq q2 HL1 hb2 HB2 HBx
        by_cases z1 : lv = 0
        · have y1 : (lv == 0) = true := by simpa using z1
          have E := Lib.hid (HT.out 1 (by rw [HS3.out, if_pos z1]) (by omega))
          clear HT HA' HVo HDv
          go_wp2
          go_ret
          exact ⟨ret_int' E.out.symm, HBW2.out⟩
        have y1 : (lv == 0) = false := by simpa using z1
        have HS4 := Lib.hid (HS3.out.trans (if_neg z1))
        clear HS3 z1
        by_cases z2 : 20 < n'
        · have y2 : decide ((20 : Int) < (n' : Int)) = true := by simp; omega
          have E := Lib.hid (HT.out 8 (by rw [HS4.out, if_pos z2]) (by omega))
          clear HT HA' HVo HDv
          go_wp2
          go_ret
          exact ⟨ret_int' E.out.symm, HBW2.out⟩
        have y2 : decide ((20 : Int) < (n' : Int)) = false := by simp; omega
        have HS5 := Lib.hid (HS4.out.trans (if_neg z2))
        clear HS4
        have HV1 := Lib.hid (HVo.out w2 HW2.out)
        clear HVo
        cases z3 : decide (orgsOk orgs) with
        | false =>
          rw [z3] at HV1
          have E := Lib.hid (HT.out 1 (by rw [HS5.out, if_pos (of_decide_eq_false z3)]) (by omega))
          clear HT HA' HDv z3
          go_wp2_with fail
          refine HV1.out.mono ?_
          rintro e w3 ⟨rfl, rfl⟩
          go_wp2
          go_ret
          exact ⟨ret_int' E.out.symm, HBW2.out⟩
        | true =>
          rw [z3] at HV1
          have HS6 := Lib.hid (HS5.out.trans (if_neg (fun hx => hx (of_decide_eq_true z3))))
          clear HS5 z3
          go_wp2_with fail
          refine HV1.out.mono ?_
          rintro e w3 ⟨rfl, rfl⟩
          clear HV1
          by_cases v1 : fr < 0
          · have v1d : decide (fr < 0) = true := by simp; omega
            have E := Lib.hid (HT.out 2 (by rw [HS6.out, if_pos (by omega)]) (by omega))
            clear HT HA' HDv
            go_wp2
            go_ret
            exact ⟨ret_int' E.out.symm, HBW2.out⟩
          have v1d : decide (fr < 0) = false := by simp; omega
          by_cases v2 : til ≤ fr
          · have v2d : decide (til ≤ fr) = true := by simp; omega
            have E := Lib.hid (HT.out 2 (by rw [HS6.out, if_pos (by omega)]) (by omega))
            clear HT HA' HDv
            go_wp2
            go_ret
            exact ⟨ret_int' E.out.symm, HBW2.out⟩
          have v2d : decide (til ≤ fr) = false := by simp; omega
          by_cases v3 : 36525 < til
          · have v3d : decide (36525 < til) = true := by simp; omega
            have E := Lib.hid (HT.out 2 (by rw [HS6.out, if_pos (by omega)]) (by omega))
            clear HT HA' HDv
            go_wp2
            go_ret
            exact ⟨ret_int' E.out.symm, HBW2.out⟩
          have v3d : decide (36525 < til) = false := by simp; omega
          by_cases v4 : reg < -1
          · have v4d : decide (reg < -1) = true := by simp; omega
            have E := Lib.hid (HT.out 2 (by rw [HS6.out, if_pos (by omega)]) (by omega))
            clear HT HA' HDv
            go_wp2
            go_ret
            exact ⟨ret_int' E.out.symm, HBW2.out⟩
          have v4d : decide (reg < -1) = false := by simp; omega
          by_cases v5 : fr < reg
          · have v5d : decide (fr < reg) = true := by simp; omega
            have E := Lib.hid (HT.out 2 (by rw [HS6.out, if_pos (by omega)]) (by omega))
            clear HT HA' HDv
            go_wp2
            go_ret
            exact ⟨ret_int' E.out.symm, HBW2.out⟩
          have v5d : decide (fr < reg) = false := by simp; omega
          have HS7 := Lib.hid (HS6.out.trans (if_neg (by omega)))
          clear HS6
          generalize duErr ⟨ra, am, pe, hm, mo, hl, le⟩ = de at *
          go_wp2_with fail
          refine (HDv.out _).mono ?_
          rintro e w4 ⟨rfl, hb4⟩
          have HBW4 := Lib.hid (HBW2.out.trans (hb4.mono HBW2.out.size))
          by_cases z4 : de = 0
          · have y4 : (de == 0) = true := by simpa using z4
            have y4n : (de != 0) = false := by simpa using z4
            have HA2 := Lib.hid (HA'.out (by rw [HS7.out, z4]))
            clear HT HA' HS7 z4
            go_wp2
            go_roundw
            case rel => exact ⟨k + 1, by omega, by go_num, HA2.out, HBW4.out⟩
            case measure => simp [intOf]; omega
          · have y4 : (de == 0) = false := by simpa using z4
            have y4n : (de != 0) = true := by simpa using z4
            have E := Lib.hid (HT.out de (by rw [HS7.out]) z4)
            clear HT HA' HS7 z4
            go_wp2
            go_ret
            exact ⟨ret_int' E.out.symm, HBW4.out⟩
    · have E := Lib.hid (mssErr_ok (l := msL xs) (by have := HL.out; omega) (fun i hi => HA.out i (by have := HL.out; omega)))
      go_wp2
      go_ret
      exact ⟨ret_int' E.out.symm, hbel⟩
end Go.Proofs.YtbokkeooahodaaaGreatDoor

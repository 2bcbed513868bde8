/-
  The law TopCorrections returns true. Conditions: the measures and the items read as integers, the lengths of codes and the library's number lie in their variables. Printed by gen/corr20.py.
  How a list of lists of integers that came in is opened. No statement of the seat is proved here. No conditions.
-/
import Derived.Test.YtbokkeooahodaaaGreatDoorKAY
import Derived.Test.YtbokkeooahodaaaGreatDoorKAO
import Derived.Lib.SmallJoins
namespace Go.Proofs.YtbokkeooahodaaaGreatDoor
open Go.RowKit
set_option linter.unusedVariables false

structure LsA where
  A : Option Addr
  n : Nat
  c : Nat
  xs : List Int
instance : Inhabited LsA := ⟨⟨none, 0, 0, []⟩⟩
def encLs (x : LsA) : List Value := [.slice x.A x.n x.c]
def LsR (w : World) (A : Option Addr) (n : Nat) (ls : List LsA) : Prop := Recs encLs 1 w A n ls ∧ ∀ i, i < n → Ints w ls[i]!.A ls[i]!.n ls[i]!.xs ∧ ls[i]!.n ≤ ls[i]!.c ∧ ls[i]!.c ≤ 9223372036854775807
theorem LsR.below {w w' : World} {A : Option Addr} {n : Nat} {ls : List LsA} (h : LsR w A n ls) (hb : RowKit.Below w.heap.size w w') : LsR w' A n ls := ⟨h.1.below hb, fun i hi => ⟨(h.2 i hi).1.below hb, (h.2 i hi).2⟩⟩
structure CoW (w : World) (gb gl : Nat) (K : Option Addr) (k kc : Nat) (kl : List Dl) (L : Option Addr) (l lc : Nat) (ll : List Dl) (wx : World) : Prop where
  below : RowKit.Below w.heap.size w wx
  bk : Bl wx gb 28 #[.slice K k kc, .int .i64 0]
  ls : Bl wx gl 28 #[.slice L l lc, .int .i64 (sumA ll)]
  ko : wx.ownsRow w.heap.size 38 5 (.slice K k kc) k (flat encDl kl)
  lo : wx.ownsRow w.heap.size 38 5 (.slice L l lc) l (flat encDl ll)
  sep : ∀ g, (Value.slice K k kc).ownBlock = some g → (Value.slice L l lc).ownBlock ≠ some g
  kln : kl.length = k
  lln : ll.length = l
  base : w.heap.size ≤ gb ∧ gb < gl
  ok : ∀ d ∈ ll, DlOk d
  l4 : l ≤ 4
  tot : ∀ a b, totA kl a b = totA ll a b
  kin : AmtIn kl
  sum : 0 ≤ sumA ll ∧ sumA ll ≤ 1000000000000
section
variable {w wx w' : World} {gb gl : Nat} {K : Option Addr} {k kc : Nat} {kl : List Dl} {L : Option Addr} {l lc : Nat} {ll : List Dl}
theorem CoW.under (h : CoW w gb gl K k kc kl L l lc ll wx) (hb : RowKit.Below wx.heap.size wx w') : CoW w gb gl K k kc kl L l lc ll w' :=
  ⟨h.below.trans (hb.mono h.below.size), h.bk.keep hb, h.ls.keep hb, own_below h.ko hb, own_below h.lo hb, h.sep, h.kln, h.lln, h.base, h.ok, h.l4, h.tot, h.kin, h.sum⟩
theorem CoW.drewN (h : CoW w gb gl K k kc kl L l lc ll wx) (n : Nat) : CoW w gb gl K k kc kl L l lc ll (wx.drewN n) :=
  ⟨⟨h.below.os, h.below.tape, h.below.output, h.below.size, h.below.block⟩, h.bk, h.ls, h.ko, h.lo, h.sep, h.kln, h.lln, h.base, h.ok, h.l4, h.tot, h.kin, h.sum⟩
theorem CoW.kr (h : CoW w gb gl K k kc kl L l lc ll wx) : Recs encDl 5 wx K k kl := Recs.of_own encDl_len h.ko h.kln
theorem CoW.lr (h : CoW w gb gl K k kc kl L l lc ll wx) : Recs encDl 5 wx L l ll := Recs.of_own encDl_len h.lo h.lln
theorem CoW.next (h : CoW w gb gl K k kc kl L l lc ll wx) (hg : wx.grownBy w' (Value.slice K k kc).ownBlock) {K' : Option Addr} {k' kc' : Nat} {cl : List Dl} (ho : w'.ownsRow w.heap.size 38 5 (.slice K' k' kc') k' (flat encDl kl ++ flat encDl cl)) (hv : (Value.slice K' k' kc').ownBlock = (Value.slice K k kc).ownBlock ∨ (Value.slice K' k' kc').ownBlock = some wx.heap.size)
    {L' : Option Addr} {l' lc' : Nat} {lb : List Dl} (hl : wx.ownsRow w.heap.size 38 5 (.slice L' l' lc') l' (flat encDl lb)) (hs : ∀ g, (Value.slice K k kc).ownBlock = some g → (Value.slice L' l' lc').ownBlock ≠ some g) (hlb : lb.length = l') (hl4 : l' ≤ 4) (hok : ∀ d ∈ lb, DlOk d) (hk : kl.length + cl.length = k') (hcl : AmtIn cl) (ht : ∀ a b, totA cl a b = totA lb a b - totA ll a b) (hsum : 0 ≤ sumA lb ∧ sumA lb ≤ 1000000000000) :
    CoW w gb gl K' k' kc' (kl ++ cl) L' l' lc' lb (((w'.setCell ⟨gb, 0, none⟩ (.slice K' k' kc')).setCell ⟨gl, 0, none⟩ (.slice L' l' lc')).setCell ⟨gl, 1, none⟩ (.int .i64 (sumA lb))) := by
  have hB : RowKit.Below w.heap.size w w' := h.below.grown hg h.below.size (fun g e => own_base h.ko g e)
  have hbk : Bl w' gb 28 #[.slice K k kc, .int .i64 0] := (hg.block gb h.bk.lt (fun e => own_apart h.ko h.bk (by decide) e)).trans h.bk
  have hls : Bl w' gl 28 #[.slice L l lc, .int .i64 (sumA ll)] := (hg.block gl h.ls.lt (fun e => own_apart h.ko h.ls (by decide) e)).trans h.ls
  have hlo : w'.ownsRow w.heap.size 38 5 (.slice L' l' lc') l' (flat encDl lb) := own_of_block hl fun g hgb => hg.block g (own_lt hl g hgb) (fun e => hs g e.symm hgb)
  have hb := h.base
  have hne : gb ≠ gl := by omega
  have hc1 : RowKit.Below w.heap.size w (((w'.setCell ⟨gb, 0, none⟩ (.slice K' k' kc')).setCell ⟨gl, 0, none⟩ (.slice L' l' lc')).setCell ⟨gl, 1, none⟩ (.int .i64 (sumA lb))) :=
    ((hB.setCell (p := ⟨gb, 0, none⟩) hb.1 _).setCell (p := ⟨gl, 0, none⟩) (by show w.heap.size ≤ gl; omega) _).setCell (p := ⟨gl, 1, none⟩) (by show w.heap.size ≤ gl; omega) _
  have hrow : ∀ {e : TypeId} {size n : Nat} {v : Value} {xs : List Value}, w'.ownsRow w.heap.size e size v n xs → e ≠ 28 → (((w'.setCell ⟨gb, 0, none⟩ (.slice K' k' kc')).setCell ⟨gl, 0, none⟩ (.slice L' l' lc')).setCell ⟨gl, 1, none⟩ (.int .i64 (sumA lb))).ownsRow w.heap.size e size v n xs := fun {e size n v xs} hr he =>
    own_set20 (own_set20 (own_set20 hr (fun q hq e1 => by subst e1; exact own_apart hr hbk he hq.symm) 0 _) (fun q hq e1 => by subst e1; exact own_apart hr hls he hq.symm) 0 _) (fun q hq e1 => by subst e1; exact own_apart hr hls he hq.symm) 1 _
  refine ⟨hc1, ?_, ?_, hrow (by rw [flat_append]; exact ho) (by decide), hrow hlo (by decide), fun g h1 h2 => ?_, by rw [List.length_append]; exact hk, hlb, h.base, hok, hl4, fun a b => by rw [totA_append, h.tot, ht]; omega, fun d hd => ?_, hsum⟩
  · have h1 := (((hbk.put 0 (.slice K' k' kc')).far (p := ⟨gl, 0, none⟩) hne (.slice L' l' lc')).far (p := ⟨gl, 1, none⟩) hne (.int .i64 (sumA lb)))
    simpa using h1
  · have h1 := ((hls.far (p := ⟨gb, 0, none⟩) (Ne.symm hne) (.slice K' k' kc')).put 0 (.slice L' l' lc')).put 1 (.int .i64 (sumA lb))
    simpa using h1
  · rcases hv with hv | hv
    · exact hs g (hv ▸ h1) h2
    · have e : g = wx.heap.size := by rw [hv] at h1; injection h1 with h1; exact h1.symm
      have := own_lt hl g h2
      omega
  · rcases List.mem_append.1 hd with h1 | h1
    · exact h.kin d h1
    · exact hcl d h1
end
set_option maxRecDepth 100000 in
set_option maxHeartbeats 32000000 in
theorem topCorrections_any (A1 : Option Addr) (n1 c1 : Nat) (xs1 : List Int) (A2 : Option Addr) (n2 c2 : Nat) (ls : List LsA) (w : World) (h1 : Ints w A1 n1 xs1) (hnc1 : n1 ≤ c1) (hcm1 : c1 ≤ 9223372036854775807) (h2 : LsR w A2 n2 ls) (hn2 : n2 ≤ 9223372036854775807) (hM : MaxG w) (hG : LenG w) :
    Calls Tryz.prog 3 #[.slice A1 n1 c1, .slice A2 n2 c2] w (BRes w true) := by
  have HI := Lib.hid h2
  have HM := Lib.hid hM
  have HG := Lib.hid hG
  have HMS := Lib.hid (measures20_any A1 n1 c1 xs1 w h1 hnc1 hcm1)
  clear h1 hnc1 hcm1 h2 hM hG
  go_enter Tryz.func3, Tryz.ntmps3
  go_wp2_with fail
  refine HMS.out.mono ?_
  rintro e w1 ⟨R, mc, ys, rfl, hms, hml, hb⟩
  have HMR := Lib.hid hms
  have HB1 := Lib.hid hb
  clear hms hb HMS
  have hs1 : (w1.alloc (.cells #[.slice none 0 0, .int .i64 0] 28)).heap.size = w1.heap.size + 1 := by simp
  have HC0 : Hid (CoW w1 w1.heap.size (w1.heap.size + 1) none 0 0 [] none 0 0 [] ((w1.alloc (.cells #[.slice none 0 0, .int .i64 0] 28)).alloc (.cells #[.slice none 0 0, .int .i64 0] 28))) := by
    refine ⟨((Below.refl _ _).alloc (Nat.le_refl _) _).alloc (by simp) _, (Bl.new _ _ _).alloc _, ?_, ⟨by simp [flat], .inl ⟨rfl, rfl⟩⟩, ⟨by simp [flat], .inl ⟨rfl, rfl⟩⟩, fun g hg => (by cases hg), rfl, rfl, ⟨Nat.le_refl _, Nat.lt_succ_self _⟩, fun d hd => (by cases hd), by omega, fun a b => rfl, fun d hd => (by cases hd), by simp [sumA_nil]⟩
    rw [← hs1]
    exact Bl.new _ _ _
  go_upto_region 4 with (fail)
  try rw [hs1]
  clear hs1
  generalize (w1.alloc (.cells #[.slice none 0 0, .int .i64 0] 28)).alloc (.cells #[.slice none 0 0, .int .i64 0] 28) = W0 at *
  generalize hgb : w1.heap.size = gb at *
  generalize gb + 1 = gl at *
  go_wp2_with fail
  go_loopw [8] (fun v wx => ∃ (i : Nat) (K : Option Addr) (k kc : Nat) (kl : List Dl) (L : Option Addr) (l lc : Nat) (ll : List Dl), v = .int .i64 (i : Int) ∧ i ≤ n2 ∧ i ≤ 6 ∧ k ≤ 8 * i ∧ Hid (CoW w1 gb gl K k kc kl L l lc ll wx)) (fun v _ => n2 - (intOf v).toNat)
  case atStart => exact ⟨0, none, 0, 0, [], none, 0, 0, [], rfl, Nat.zero_le _, by omega, by omega, HC0.out⟩
  case round =>
    clear HC0
    obtain ⟨i, K, k, kc, kl, L, l, lc, ll, rfl, hin, hi6, hk8, HC⟩ := hrel
    go_upto_region 5 with (fail)
    go_cut [26] from 19 to 57 (fun v wx => v = .bool (decide ((i : Int) < n2) && decide ((i : Int) < 6)) ∧ wx = wr)
    case first =>
      by_cases e1 : i < n2
      case neg =>
        have h1 : decide ((i : Int) < (n2 : Int)) = false := by simp; omega
        go_wp2_with fail
        go_meet
        exact ⟨by rw [h1]; rfl, rfl⟩
      case pos =>
        have h1 : decide ((i : Int) < (n2 : Int)) = true := by simp; omega
        by_cases e2 : i < 6
        case neg =>
          have h2 : decide ((i : Int) < 6) = false := by simp; omega
          go_wp2_with fail
          go_meet
          exact ⟨by rw [h1, h2]; rfl, rfl⟩
        case pos =>
          have h2 : decide ((i : Int) < 6) = true := by simp; omega
          go_wp2_with fail
          go_meet
          exact ⟨by rw [h1, h2]; rfl, rfl⟩
    case rest =>
    obtain ⟨rfl, rfl⟩ := hcut
    obtain ⟨cb, hcb⟩ : ∃ cb, (decide ((i : Int) < n2) && decide ((i : Int) < 6)) = cb := ⟨_, rfl⟩
    rw [hcb]
    cases cb
    case false =>
      clear hcb
      go_wp2_with fail
      have hk48 : k ≤ 48 := by omega
      clear hin hi6 hk8
      go_loopw [12] (fun v wx => ∃ p : Nat, v = .int .i64 (p : Int) ∧ p ≤ k ∧ Hid (CoW w1 gb gl K k kc kl L l lc ll wx)) (fun v _ => k - (intOf v).toNat)
      case atStart => exact ⟨0, rfl, Nat.zero_le _, HC.out⟩
      case round =>
        clear HC
        obtain ⟨p, rfl, hp, HC⟩ := hrel
        by_cases hlt : p < k
        case neg =>
          obtain rfl : p = k := by omega
          have di : decide ((p : Int) < (p : Int)) = false := by simp
          have HSA : Hid (sumA kl = sumA ll) := by
            have h := sumA_diff (a := []) (b := ll) (c := kl) (fun a b => by rw [totA_nil, HC.out.tot]; omega)
            rw [sumA_nil] at h
            show _ = _
            omega
          have HWr := Lib.hid (HB1.out.trans (HC.out.below.mono HB1.out.size))
          have hk0 : Hid (RowKit.Below wr.heap.size wr wr.drew) := (Below.refl _ _).drew
          have hk00 : Hid (RowKit.Below wr.heap.size wr wr) := Below.refl _ _
          have HAD : Hid (Calls Tryz.prog 9 #[.slice K p kc] wr.drew fun e w' => e = .returned (.int .i64 (sumA ll)) ∧ wr.drew = w') := by
            have hr : Recs encDl 5 wr.drew K p kl := HC.out.kr.below hk0.out
            have h := amounts_any K p kc kl wr.drew hr HC.out.kin (by omega)
            rw [HSA.out] at h
            exact h
          have HFX : Hid (Calls Tryz.prog 10 #[] wr.drew fun e w' => e = .returned (.bool true) ∧ RowKit.Below wr.drew.heap.size wr.drew w') := fixed20 wr.drew (HM.out.below (HWr.out.trans (hk0.out.mono HWr.out.size))) (HG.out.below (HWr.out.trans (hk0.out.mono HWr.out.size)))
          have HSS : Hid (∀ wx : World, RowKit.Below wr.heap.size wr wx → wx.cell? ⟨gb, 0, none⟩ = some (.slice K p kc) ∧ wx.cell? ⟨gl, 1, none⟩ = some (.int .i64 (sumA ll))) := fun wx hb => ⟨(HC.out.bk.keep hb).cell 0, (HC.out.ls.keep hb).cell 1⟩
          have q1 : (sumA ll == sumA ll) = true := by simp
          have b0 : wr.cell? ⟨gb, 0, none⟩ = some (.slice K p kc) := HC.out.bk.cell 0
          have b1 : wr.cell? ⟨gl, 1, none⟩ = some (.int .i64 (sumA ll)) := HC.out.ls.cell 1
          go_upto_region 30 with (fail)
          go_region_held3 (fun wx => wx.cell? ⟨gb, 0, none⟩ = some (.slice K p kc) ∧ wx.cell? ⟨gl, 1, none⟩ = some (.int .i64 (sumA ll)))
            (first | with_reducible exact HSS.out _ hkz.out | with_reducible exact HSS.out _ hk0.out | with_reducible exact HSS.out _ hk00.out)
            (first | (go_at_call 9; with_reducible (refine HAD.out.mono ?_); rintro e wz ⟨rfl, rfl⟩) | (go_at_call 10; with_reducible (refine HFX.out.mono ?_); rintro e wz ⟨rfl, hbz⟩; have hkz := Lib.hid (hk0.out.trans (hbz.mono hk0.out.size))) | fail)
          all_goals
            have HBZ := Lib.hid (HWr.out.trans (hkz.out.mono HWr.out.size))
            go_wp2_with fail
            go_ret
            exact ⟨rfl, HBZ.out⟩
        case pos =>
        have di : decide ((p : Int) < (k : Int)) = true := by simp; omega
        have up : IntKind.i64.wrap ((p : Int) + 1) = ((p + 1 : Nat) : Int) := IntWalk.i64_in _ (by omega)
        obtain ⟨x, hx⟩ : ∃ x, kl[p]! = x := ⟨_, rfl⟩
        have HX := Lib.hid hx
        clear hx
        obtain ⟨bk, ok, hK, _, _⟩ := HC.out.kr.at_ hlt
        subst hK
        have b0 : wr.cell? ⟨gb, 0, none⟩ = some (.slice (some ⟨bk, ok, none⟩) k kc) := HC.out.bk.cell 0
        go_wp2_with fail
        clear b0 di
        go_loopw [13, 14] (fun s v wx => ∃ j : Nat, v = .int .i64 (j : Int) ∧ j ≤ k ∧ s = .int .i64 (totA (kl.take j) x.kind x.meas) ∧ Hid (CoW w1 gb gl (some ⟨bk, ok, none⟩) k kc kl L l lc ll wx)) (fun _ v _ => k - (intOf v).toNat)
        case atStart => exact ⟨0, rfl, Nat.zero_le _, rfl, HC.out⟩
        case round =>
          clear HC
          obtain ⟨j, rfl, hj, rfl, HC⟩ := hrel
          have b0 : wr.cell? ⟨gb, 0, none⟩ = some (.slice (some ⟨bk, ok, none⟩) k kc) := HC.out.bk.cell 0
          have hkk := HC.out.kln
          by_cases hlj : j < k
          case neg =>
            obtain rfl : j = k := by omega
            have di : decide ((j : Int) < (j : Int)) = false := by simp
            have HTK : Hid (totA (kl.take j) x.kind x.meas = totA kl x.kind x.meas) := by
              show _ = _
              rw [List.take_of_length_le (by omega)]
            rw [HTK.out]
            go_wp2_with fail
            clear b0 di
            go_loopw [13, 15] (fun s v wx => ∃ q : Nat, v = .int .i64 (q : Int) ∧ q ≤ l ∧ s = .int .i64 (totA kl x.kind x.meas - totA (ll.take q) x.kind x.meas) ∧ Hid (CoW w1 gb gl (some ⟨bk, ok, none⟩) j kc kl L l lc ll wx)) (fun _ v _ => l - (intOf v).toNat)
            case atStart => exact ⟨0, rfl, Nat.zero_le _, by rw [List.take_zero, totA_nil, Int.sub_zero], HC.out⟩
            case round =>
              clear HC
              obtain ⟨q, rfl, hq, rfl, HC⟩ := hrel
              have b0 : wr.cell? ⟨gb, 0, none⟩ = some (.slice (some ⟨bk, ok, none⟩) j kc) := HC.out.bk.cell 0
              have b1 : wr.cell? ⟨gl, 0, none⟩ = some (.slice L l lc) := HC.out.ls.cell 0
              have hll := HC.out.lln
              have hl4 := HC.out.l4
              by_cases hlq : q < l
              case neg =>
                obtain rfl : q = l := by omega
                have di : decide ((q : Int) < (q : Int)) = false := by simp
                have HZ : Hid (totA kl x.kind x.meas - totA (ll.take q) x.kind x.meas = 0) := by
                  show _ = _
                  rw [List.take_of_length_le (by omega), HC.out.tot]
                  omega
                rw [HZ.out]
                have qz : ((0 : Int) != 0) = false := by decide
                go_wp2_with fail
                go_roundw
                case rel => exact ⟨p + 1, by go_num, by omega, HC.out⟩
                case measure => simp [intOf]; omega
              case pos =>
              have di : decide ((q : Int) < (l : Int)) = true := by simp; omega
              have uq : IntKind.i64.wrap ((q : Int) + 1) = ((q + 1 : Nat) : Int) := IntWalk.i64_in _ (by omega)
              obtain ⟨bl, ol, hL, _, hcq⟩ := HC.out.lr.at_ hlq
              subst hL
              obtain ⟨b2, o2, hK2, _, hcp⟩ := HC.out.kr.at_ hlt
              obtain ⟨rfl, rfl⟩ : bk = b2 ∧ ok = o2 := by simpa using hK2
              obtain ⟨z, hz⟩ : ∃ z, ll[q]! = z := ⟨_, rfl⟩
              rw [hz] at hcq
              rw [HX.out] at hcp
              have a0 : wr.cell? ⟨bl, ol + q * 5, none⟩ = some (.int .i64 z.kind) := hcq 0 (by omega)
              have a1 : wr.cell? ⟨bl, ol + q * 5 + 1, none⟩ = some (.int .i64 z.meas) := hcq 1 (by omega)
              have a4 : wr.cell? ⟨bl, ol + q * 5 + 4, none⟩ = some (.int .i64 z.amt) := hcq 4 (by omega)
              have x0 : wr.cell? ⟨bk, ok + p * 5, none⟩ = some (.int .i64 x.kind) := hcp 0 (by omega)
              have x1 : wr.cell? ⟨bk, ok + p * 5 + 1, none⟩ = some (.int .i64 x.meas) := hcp 1 (by omega)
              have i1 : (q : Int) < (l : Int) := by omega
              have i2 : (0 : Int) ≤ (q : Int) := by omega
              have i3 : (p : Int) < (j : Int) := by omega
              have i4 : (0 : Int) ≤ (p : Int) := by omega
              have HTN : Hid (totA (ll.take (q + 1)) x.kind x.meas = totA (ll.take q) x.kind x.meas + (if z.kind = x.kind ∧ z.meas = x.meas then z.amt else 0)) := by
                show _ = _
                rw [take_snoc20 ll (by omega), totA_append, hz, totA_cons, totA_nil]
                omega
              have hb1 := tot_bound (B := 20000000000000) (by decide) HC.out.kin x.kind x.meas
              have hb2 := tot_bound (es := ll.take q) (B := 1000000000000) (by decide) (fun e he => by have := (HC.out.ok e (List.mem_of_mem_take he)).1; omega) x.kind x.meas
              rw [List.length_take] at hb2
              have hza : 0 ≤ z.amt ∧ z.amt ≤ 1000000000000 := (HC.out.ok z (by rw [← hz, getElem!_pos ll q (by omega)]; exact List.getElem_mem _)).1
              generalize totA (ll.take q) x.kind x.meas = t2 at *
              generalize totA kl x.kind x.meas = t1 at *
              have us : IntKind.i64.wrap (t1 - t2 - z.amt) = t1 - t2 - z.amt := IntWalk.i64_in _ (by omega)
              clear hcq hcp hz hK2
              by_cases hkz : z.kind = x.kind
              case neg =>
                have q1 : (z.kind == x.kind) = false := by simpa using hkz
                have HT2 : Hid (totA (ll.take (q + 1)) x.kind x.meas = t2) := by show _ = _; rw [HTN.out, if_neg (fun h => hkz h.1)]; omega
                clear hkz HTN
                go_upto_region 26 with (fail)
                go_quiet (fail)
                go_wp2_with fail
                go_roundw
                case rel => exact ⟨q + 1, by go_num, by omega, by rw [HT2.out], HC.out.drewN _⟩
                case measure => simp [intOf]; omega
              case pos =>
              have q1 : (z.kind == x.kind) = true := by simpa using hkz
              by_cases hmz : z.meas = x.meas
              case neg =>
                have q2 : (z.meas == x.meas) = false := by simpa using hmz
                have HT2 : Hid (totA (ll.take (q + 1)) x.kind x.meas = t2) := by show _ = _; rw [HTN.out, if_neg (fun h => hmz h.2)]; omega
                clear hkz hmz HTN
                go_upto_region 26 with (fail)
                go_quiet (fail)
                go_wp2_with fail
                go_roundw
                case rel => exact ⟨q + 1, by go_num, by omega, by rw [HT2.out], HC.out.drewN _⟩
                case measure => simp [intOf]; omega
              case pos =>
              have q2 : (z.meas == x.meas) = true := by simpa using hmz
              have HT2 : Hid (totA (ll.take (q + 1)) x.kind x.meas = t2 + z.amt) := by show _ = _; rw [HTN.out, if_pos ⟨hkz, hmz⟩]
              clear hkz hmz HTN
              go_upto_region 26 with (fail)
              go_quiet (fail)
              go_wp2_with fail
              go_roundw
              case rel => exact ⟨q + 1, by go_num, by omega, by rw [HT2.out]; congr 1; omega, HC.out.drewN _⟩
              case measure => simp [intOf]; omega
          case pos =>
          have di : decide ((j : Int) < (k : Int)) = true := by simp; omega
          have uj : IntKind.i64.wrap ((j : Int) + 1) = ((j + 1 : Nat) : Int) := IntWalk.i64_in _ (by omega)
          obtain ⟨b2, o2, hK2, _, hcp⟩ := HC.out.kr.at_ hlt
          obtain ⟨rfl, rfl⟩ : bk = b2 ∧ ok = o2 := by simpa using hK2
          obtain ⟨b3, o3, hK3, _, hcj⟩ := HC.out.kr.at_ hlj
          obtain ⟨rfl, rfl⟩ : bk = b3 ∧ ok = o3 := by simpa using hK3
          obtain ⟨z, hz⟩ : ∃ z, kl[j]! = z := ⟨_, rfl⟩
          rw [hz] at hcj
          rw [HX.out] at hcp
          have a0 : wr.cell? ⟨bk, ok + j * 5, none⟩ = some (.int .i64 z.kind) := hcj 0 (by omega)
          have a1 : wr.cell? ⟨bk, ok + j * 5 + 1, none⟩ = some (.int .i64 z.meas) := hcj 1 (by omega)
          have a4 : wr.cell? ⟨bk, ok + j * 5 + 4, none⟩ = some (.int .i64 z.amt) := hcj 4 (by omega)
          have x0 : wr.cell? ⟨bk, ok + p * 5, none⟩ = some (.int .i64 x.kind) := hcp 0 (by omega)
          have x1 : wr.cell? ⟨bk, ok + p * 5 + 1, none⟩ = some (.int .i64 x.meas) := hcp 1 (by omega)
          have i1 : (j : Int) < (k : Int) := by omega
          have i2 : (0 : Int) ≤ (j : Int) := by omega
          have i3 : (p : Int) < (k : Int) := by omega
          have i4 : (0 : Int) ≤ (p : Int) := by omega
          have HTN : Hid (totA (kl.take (j + 1)) x.kind x.meas = totA (kl.take j) x.kind x.meas + (if z.kind = x.kind ∧ z.meas = x.meas then z.amt else 0)) := by
            show _ = _
            rw [take_snoc20 kl (by omega), totA_append, hz, totA_cons, totA_nil]
            omega
          have hb2 := tot_bound (es := kl.take j) (B := 20000000000000) (by decide) (fun e he => HC.out.kin e (List.mem_of_mem_take he)) x.kind x.meas
          rw [List.length_take] at hb2
          have hza := HC.out.kin z (by rw [← hz, getElem!_pos kl j (by omega)]; exact List.getElem_mem _)
          generalize totA (kl.take j) x.kind x.meas = t2 at *
          have us : IntKind.i64.wrap (t2 + z.amt) = t2 + z.amt := IntWalk.i64_in _ (by omega)
          clear hcj hcp hz hK2 hK3
          by_cases hkz : z.kind = x.kind
          case neg =>
            have q1 : (z.kind == x.kind) = false := by simpa using hkz
            have HT2 : Hid (totA (kl.take (j + 1)) x.kind x.meas = t2) := by show _ = _; rw [HTN.out, if_neg (fun h => hkz h.1)]; omega
            clear hkz HTN
            go_upto_region 21 with (fail)
            go_quiet (fail)
            go_wp2_with fail
            go_roundw
            case rel => exact ⟨j + 1, by go_num, by omega, by rw [HT2.out], HC.out.drewN _⟩
            case measure => simp [intOf]; omega
          case pos =>
          have q1 : (z.kind == x.kind) = true := by simpa using hkz
          by_cases hmz : z.meas = x.meas
          case neg =>
            have q2 : (z.meas == x.meas) = false := by simpa using hmz
            have HT2 : Hid (totA (kl.take (j + 1)) x.kind x.meas = t2) := by show _ = _; rw [HTN.out, if_neg (fun h => hmz h.2)]; omega
            clear hkz hmz HTN
            go_upto_region 21 with (fail)
            go_quiet (fail)
            go_wp2_with fail
            go_roundw
            case rel => exact ⟨j + 1, by go_num, by omega, by rw [HT2.out], HC.out.drewN _⟩
            case measure => simp [intOf]; omega
          case pos =>
          have q2 : (z.meas == x.meas) = true := by simpa using hmz
          have HT2 : Hid (totA (kl.take (j + 1)) x.kind x.meas = t2 + z.amt) := by show _ = _; rw [HTN.out, if_pos ⟨hkz, hmz⟩]
          clear hkz hmz HTN
          go_upto_region 21 with (fail)
          go_quiet (fail)
          go_wp2_with fail
          go_roundw
          case rel => exact ⟨j + 1, by go_num, by omega, by rw [HT2.out], HC.out.drewN _⟩
          case measure => simp [intOf]; omega
    case true =>
    have hlt : i < n2 ∧ i < 6 := by simp at hcb; omega
    clear hcb
    have HWr := Lib.hid (HB1.out.trans (HC.out.below.mono HB1.out.size))
    obtain ⟨b2, o2, hA2, hlt2, hc2⟩ := (HI.out.1.below HWr.out).at_ hlt.1
    obtain ⟨y, hy⟩ : ∃ y, ls[i]! = y := ⟨_, rfl⟩
    rw [hy] at hc2
    have hyl := HI.out.2 i hlt.1
    rw [hy] at hyl
    have HIT := Lib.hid (item20_any y.A y.n y.c y.xs wc (hyl.1.below HWr.out) hyl.2.1 hyl.2.2)
    subst hA2
    have c0 : wc.cell? ⟨b2, o2 + i, none⟩ = some (.slice y.A y.n y.c) := by
      have := hc2 0 (by decide)
      rw [Nat.mul_one, Nat.add_zero] at this
      exact this
    have hii : (i : Int) < (n2 : Int) := by omega
    have hiz : (0 : Int) ≤ (i : Int) := by omega
    have ui : IntKind.i64.wrap ((i : Int) + 1) = ((i + 1 : Nat) : Int) := IntWalk.i64_in _ (by omega)
    clear hc2 hy hyl hlt2
    go_wp2_with fail
    refine HIT.out.mono ?_
    rintro e wa ⟨x, rfl, hx, hb⟩
    have HX := Lib.hid hx
    have HCa := Lib.hid (HC.out.under hb)
    have HWa := Lib.hid (HWr.out.trans (hb.mono HWr.out.size))
    clear hb hx HC HWr HIT c0
    go_wp2_with fail
    refine (assess_any R ys.length mc ys x wa (HMR.out.below HCa.out.below) (HG.out.below HWa.out) (by have := HX.out.code; omega) (by have := HX.out.org; omega)).mono ?_
    have HOK : Hid (∀ d ∈ (asOut (msL ys) x).2, DlOk d) := fun d hd => asOut_ok hd
    have hol := asOut_len (msL ys) x
    have hos := asOut_sum (msL ys) x
    generalize asOut (msL ys) x = o at *
    obtain ⟨er, lb⟩ := o
    rintro e wb ⟨DA, dc, rfl, hd, hb⟩
    dsimp only at hd hol hos HOK
    have HD := Lib.hid hd
    have HCb := Lib.hid (HCa.out.under hb)
    have HWb := Lib.hid (HWa.out.trans (hb.mono HWa.out.size))
    have hla : Hid (w1.heap.size ≤ wa.heap.size) := HCa.out.below.size
    have HSP : Hid (∀ g, (Value.slice K k kc).ownBlock = some g → (Value.slice DA lb.length dc).ownBlock ≠ some g) := fun g h1 h2 => by have := own_lt HCa.out.ko g h1; have := own_base hd g h2; omega
    have HD2 : Hid ((wb.alloc (.cells #[.slice DA lb.length dc, .int .i64 (sumA lb)] 28)).ownsRow w1.heap.size 38 5 (.slice DA lb.length dc) lb.length (flat encDl lb)) := own_alloc (own_mono hd hla.out) _
    have HC2 : Hid (CoW w1 gb gl K k kc kl L l lc ll (wb.alloc (.cells #[.slice DA lb.length dc, .int .i64 (sumA lb)] 28))) := HCb.out.under ((Below.refl _ _).alloc (Nat.le_refl _) _)
    have HDB : Hid (Bl (wb.alloc (.cells #[.slice DA lb.length dc, .int .i64 (sumA lb)] 28)) wb.heap.size 28 #[.slice DA lb.length dc, .int .i64 (sumA lb)]) := Bl.new _ _ _
    have HGE : Hid (gl < wb.heap.size) := HCb.out.ls.lt
    clear hd hb hla HCa HWa HD HCb HX
    go_upto_region 8 with (fail)
    generalize wb.alloc (.cells #[.slice DA lb.length dc, .int .i64 (sumA lb)] 28) = W2 at *
    generalize wb.heap.size = gd at *
    by_cases he : er = 0
    case neg =>
      have q1 : (er != 0) = true := by simpa using he
      go_wp2_with fail
      go_roundw
      case rel => exact ⟨i + 1, K, k, kc, kl, L, l, lc, ll, by go_num, by omega, by omega, by omega, HC2.out⟩
      case measure => simp [intOf]; omega
    case pos =>
    subst he
    have q1 : ((0 : Int) != 0) = false := by decide
    have e0 : W2.cell? ⟨gl, 0, none⟩ = some (.slice L l lc) := HC2.out.ls.cell 0
    have e1 : W2.cell? ⟨gl, 1, none⟩ = some (.int .i64 (sumA ll)) := HC2.out.ls.cell 1
    have d0 : W2.cell? ⟨gd, 0, none⟩ = some (.slice DA lb.length dc) := HDB.out.cell 0
    have d1 : W2.cell? ⟨gd, 1, none⟩ = some (.int .i64 (sumA lb)) := HDB.out.cell 1
    have hl4 := HC2.out.l4
    go_wp2_with fail
    refine (difference_any L l lc ll (sumA ll) DA lb.length dc lb (sumA lb) W2 HC2.out.lr (Recs.of_own encDl_len HD2.out rfl) (by omega) (by omega) HC2.out.ok HOK.out).mono ?_
    rintro e w3 ⟨C, cc, cl, rfl, hco, htot, hcin, hcl, hb⟩
    have HC3 := Lib.hid (HC2.out.under hb)
    have HDB3 := Lib.hid (HDB.out.keep hb)
    have HD3 := Lib.hid (own_below HD2.out hb)
    have HCO := Lib.hid hco
    have HTO := Lib.hid htot
    have HCI : Hid (AmtIn cl) := fun d hd => (hcin d hd).1
    have hlln := HC2.out.lln
    have hcl8 : cl.length ≤ 8 := by omega
    have HAM : Hid (∀ wx : World, wx.heap = w3.heap → Calls Tryz.prog 9 #[.slice C cl.length cc] wx fun e w' => e = .returned (.int .i64 (sumA lb - sumA ll)) ∧ wx = w') := fun wx hw => by
      have hr : Recs encDl 5 wx C cl.length cl := Recs.of_own encDl_len (own_of_block HCO.out fun g _ => by rw [hw]) rfl
      have h := amounts_any C cl.length cc cl wx hr HCI.out (by omega)
      rw [sumA_diff HTO.out] at h
      exact h
    clear e0 e1 d0 d1 hco htot hcin hb HC2 HDB HD2
    have hsl := HC3.out.sum
    have us : IntKind.i64.wrap (sumA lb - sumA ll) = sumA lb - sumA ll := IntWalk.i64_in _ (by omega)
    have q2 : ((sumA lb - sumA ll) != (sumA lb - sumA ll)) = false := by simp
    go_upto_region 10 with (fail)
    have HAD : Hid (Calls Tryz.prog 9 #[.slice C cl.length cc] w3.drew fun e w' => e = .returned (.int .i64 (sumA lb - sumA ll)) ∧ w3.drew = w') := HAM.out w3.drew rfl
    have k1 : w3.cell? ⟨gd, 1, none⟩ = some (.int .i64 (sumA lb)) := HDB3.out.cell 1
    have k2 : w3.cell? ⟨gl, 1, none⟩ = some (.int .i64 (sumA ll)) := HC3.out.ls.cell 1
    have HS3 : Hid (∀ wx : World, wx.heap = w3.heap → wx.cell? ⟨gd, 1, none⟩ = some (.int .i64 (sumA lb)) ∧ wx.cell? ⟨gl, 1, none⟩ = some (.int .i64 (sumA ll))) := fun wx hw => by
      have h1 : Bl wx gd 28 #[.slice DA lb.length dc, .int .i64 (sumA lb)] := by unfold Bl; rw [hw]; exact HDB3.out
      have h2 : Bl wx gl 28 #[.slice L l lc, .int .i64 (sumA ll)] := by unfold Bl; rw [hw]; exact HC3.out.ls
      exact ⟨h1.cell 1, h2.cell 1⟩
    have hq0 : Hid (w3.drew.heap = w3.heap) := rfl
    have hq1 : Hid (w3.heap = w3.heap) := rfl
    go_region_held3 (fun wx => wx.cell? ⟨gd, 1, none⟩ = some (.int .i64 (sumA lb)) ∧ wx.cell? ⟨gl, 1, none⟩ = some (.int .i64 (sumA ll)))
      (first | with_reducible exact HS3.out _ hq0.out | with_reducible exact HS3.out _ hq1.out)
      (first | (go_at_call 9; with_reducible (refine HAD.out.mono ?_); rintro e wz ⟨rfl, rfl⟩) | fail)
    all_goals
      clear k1 k2
      have HC4 : Hid (CoW w1 gb gl K k kc kl L l lc ll w3.drew) := HC3.out.drewN 1
      have HD4 : Hid (w3.drew.ownsRow w1.heap.size 38 5 (.slice DA lb.length dc) lb.length (flat encDl lb)) := HD3.out
      have HDB4 : Hid (Bl w3.drew gd 28 #[.slice DA lb.length dc, .int .i64 (sumA lb)]) := HDB3.out
      have HCO4 : Hid (Rd w3.drew 5 C cl.length (flat encDl cl)) := Rd.of_own HCO.out
      generalize w3.drew = w4 at *
      have HNK : Hid (∀ w5 : World, w4.grownBy w5 (Value.slice K k kc).ownBlock → Bl w5 gb 28 #[.slice K k kc, .int .i64 0] ∧ Bl w5 gl 28 #[.slice L l lc, .int .i64 (sumA ll)] ∧ Bl w5 gd 28 #[.slice DA lb.length dc, .int .i64 (sumA lb)]) := fun w5 hg => by
        have hko := HC4.out.ko
        exact ⟨(hg.block gb HC4.out.bk.lt (fun e => own_apart hko HC4.out.bk (by decide) e)).trans HC4.out.bk, (hg.block gl HC4.out.ls.lt (fun e => own_apart hko HC4.out.ls (by decide) e)).trans HC4.out.ls, (hg.block gd HDB4.out.lt (fun e => own_apart hko HDB4.out (by decide) e)).trans HDB4.out⟩
      have HON : Hid (∀ u ∈ flat encDl cl, u.oneCell' = true) := fun u hu => by
        obtain ⟨d, _, hd⟩ := List.mem_flatMap.1 hu
        exact encDl_one d u hd
      have HM1 : Hid (k + cl.length ≤ maxLen ∧ (k + cl.length) * 40 ≤ 140737488355328) := ⟨by unfold maxLen; omega, by omega⟩
      have HKO := Lib.hid HC4.out.ko
      have HSZ : Hid (w1.heap.size ≤ w4.heap.size) := HC4.out.below.size
      have hbl := HC4.out.base
      have hne1 : gd ≠ gb := by have := HGE.out; omega
      have hne2 : gl ≠ gb := by omega
      have hne3 : gd ≠ gl := by have := HGE.out; omega
      have b0 : w4.cell? ⟨gb, 0, none⟩ = some (.slice K k kc) := HC4.out.bk.cell 0
      go_wp2_with (at_builtin; go_loud (refine wpList_append_rd _ rfl (.tmp 53) (.tmp 54) 26 rfl w1.heap.size 38 _ 5 40 Tryz.underlying26 infoDl rfl (by decide) (.slice K k kc) k (flat encDl kl) rfl HKO.out C cl.length cc (flat encDl cl) rfl HCO4.out HON.out HM1.out.1 HM1.out.2 HSZ.out ?_; intro v5a w5 ho5 hg5 hv5; obtain ⟨K5, d5, rfl⟩ := own_slice ho5; obtain ⟨j1, j2, j3⟩ := HNK.out w5 hg5; have z1 : w5.cell? ⟨gb, 0, none⟩ = some (.slice K k kc) := j1.cell 0; have z2 : w5.frozen? ⟨gb, 0, none⟩ = false := j1.free 0; have j4 := j3.far (p := ⟨gb, 0, none⟩) hne1 (.slice K5 (k + cl.length) d5); have j5 := j2.far (p := ⟨gb, 0, none⟩) hne2 (.slice K5 (k + cl.length) d5); have z3 : (w5.setCell ⟨gb, 0, none⟩ (.slice K5 (k + cl.length) d5)).cell? ⟨gd, 0, none⟩ = some (.slice DA lb.length dc) := j4.cell 0; have z4 : (w5.setCell ⟨gb, 0, none⟩ (.slice K5 (k + cl.length) d5)).cell? ⟨gd, 1, none⟩ = some (.int .i64 (sumA lb)) := j4.cell 1; have z5 : (w5.setCell ⟨gb, 0, none⟩ (.slice K5 (k + cl.length) d5)).cell? ⟨gl, 0, none⟩ = some (.slice L l lc) := j5.cell 0; have z6 : (w5.setCell ⟨gb, 0, none⟩ (.slice K5 (k + cl.length) d5)).frozen? ⟨gl, 0, none⟩ = false := j5.free 0; have z7 : (w5.setCell ⟨gb, 0, none⟩ (.slice K5 (k + cl.length) d5)).cell? ⟨gl, 1, none⟩ = some (.int .i64 (sumA ll)) := j5.cell 1; have z8 : (w5.setCell ⟨gb, 0, none⟩ (.slice K5 (k + cl.length) d5)).frozen? ⟨gl, 1, none⟩ = false := j5.free 1; have j6 := j5.put 0 (.slice DA lb.length dc); have z9 : ((w5.setCell ⟨gb, 0, none⟩ (.slice K5 (k + cl.length) d5)).setCell ⟨gl, 0, none⟩ (.slice DA lb.length dc)).cell? ⟨gl, 1, none⟩ = some (.int .i64 (sumA ll)) := j6.cell 1; have z10 : ((w5.setCell ⟨gb, 0, none⟩ (.slice K5 (k + cl.length) d5)).setCell ⟨gl, 0, none⟩ (.slice DA lb.length dc)).frozen? ⟨gl, 1, none⟩ = false := j6.free 1))
      have HC9 : Hid (CoW w1 gb gl K5 (k + cl.length) d5 (kl ++ cl) DA lb.length dc lb (((w5.setCell ⟨gb, 0, none⟩ (.slice K5 (k + cl.length) d5)).setCell ⟨gl, 0, none⟩ (.slice DA lb.length dc)).setCell ⟨gl, 1, none⟩ (.int .i64 (sumA lb)))) := HC4.out.next hg5 ho5 hv5 HD4.out HSP.out rfl (by omega) HOK.out (by rw [HC4.out.kln]) HCI.out HTO.out (by omega)
      clear ho5 hg5 hv5 j1 j2 j3 j4 j5 j6 z1 z2 z3 z4 z5 z6 z7 z8 z9 z10
      go_roundw
      case rel => exact ⟨i + 1, K5, k + cl.length, d5, kl ++ cl, DA, lb.length, dc, lb, by go_num, by omega, by omega, by omega, HC9.out⟩
      case measure => simp [intOf]; omega
end Go.Proofs.YtbokkeooahodaaaGreatDoor

namespace Go.Proofs.YtbokkeooahodaaaGreatDoor
open Go.RowKit Go.ChangeShapes Go.WideShapes Go.Deep
set_option linter.unusedVariables false

theorem ints_of_recs {w : World} {A : Option Addr} {n : Nat} {zs : List Int} (h : Recs (fun z : Int => [Value.int .i64 z]) 1 w A n zs) : Ints w A n zs := by
  refine ⟨h.1, fun h0 => ?_⟩
  obtain ⟨b, off, e, hb, hc⟩ := h.2 h0
  refine ⟨b, off, e, hb, fun i hi => ?_⟩
  have := hc i hi 0 (by omega)
  rw [Nat.mul_one, Nat.add_zero] at this
  rw [this]
  have hl := h.1
  rw [getElem!_pos zs i (by omega)]
  simp [hl, hi]

section
variable {H : Type} {enc : TypeId × Value → H} {P : Program} {w : World} {base : Nat} {spare : Nat → Bool} {held : Bool}
theorem open_recs {α : Type} [Inhabited α] {en : α → List Value} {Q : α → Prop} {k : Nat} (hk : 0 < k) {t e : TypeId} {fuel : Nat} {A : Option Addr} {len cap : Nat} {x : DataW H × List MemPlace}
    (ht : P.underlying t = some (.slice e)) (ce : P.cellsOf e = k) (hrd : ∀ cs' n y, cs'.length = k → DataW.trod enc P w base spare held n e cs' = some y → ∃ a : α, cs' = en a ∧ Q a)
    (h : DataW.trod enc P w base spare held fuel t [.slice A len cap] = some x) :
    ∃ xs : List α, Recs en k w A len xs ∧ len ≤ cap ∧ cap ≤ 9223372036854775807 ∧ (A = none → len = 0 ∧ cap = 0) ∧ ∀ a ∈ xs, Q a := by
  rcases open_slice ht h with ⟨hcs, _⟩ | ⟨a, l, c, m, n, D, Pl, hcs, _, hl, hm, hmm, _, hi⟩
  · simp at hcs
    obtain ⟨rfl, rfl, rfl⟩ := hcs
    exact ⟨[], Recs.nil, Nat.le_refl _, by omega, fun _ => ⟨rfl, rfl⟩, by simp⟩
  · simp at hcs
    obtain ⟨rfl, rfl, rfl⟩ := hcs
    have hlm : len ≤ m := by rw [hmm]; split <;> omega
    obtain ⟨F, hF⟩ := choose_lt (α := α) (n := len) (p := fun i r => (∀ j, j < k → w.cell? ((a.add (i * k)).add j) = (en r)[j]?) ∧ (en r).length = k ∧ Q r) (fun i hil => by
      obtain ⟨cs', h1, h2⟩ := hi i (by omega)
      rw [ce] at h1
      obtain ⟨_, hlen, hcell⟩ := World.cells?_some h1
      obtain ⟨r, rfl, hq⟩ := hrd cs' _ _ hlen h2
      exact ⟨r, hcell, hlen, hq⟩)
    refine ⟨(List.range len).map F, ⟨by simp, fun h0 => ?_⟩, hl, by unfold maxLen at hm; omega, (fun h => by cases h), fun r hr => ?_⟩
    · obtain ⟨b, off, spot⟩ := a
      have hz := hF 0 h0
      have h1 := hz.1 0 hk
      rw [List.getElem?_eq_getElem (by rw [hz.2.1]; exact hk)] at h1
      have hs : spot = none := by simpa [Addr.add] using World.cell?_spot h1
      subst hs
      have hb : b < w.heap.size := by
        rcases Nat.lt_or_ge b w.heap.size with h2 | h2
        · exact h2
        · simp [Addr.add, World.cell?, Array.getElem?_eq_none h2] at h1
      refine ⟨b, off, rfl, hb, fun i hil c hc => ?_⟩
      have g := hF i hil
      have g1 := g.1 c hc
      rw [add_none b off _ none rfl, add_none b _ _ none rfl] at g1
      rw [g1, List.getElem?_eq_getElem (by rw [g.2.1]; exact hc)]
      have e : ((List.range len).map F)[i]! = F i := by simp [hil]
      rw [e, getElem!_pos _ c (by rw [g.2.1]; exact hc)]
    · obtain ⟨i, hil, rfl⟩ := List.mem_map.1 hr
      exact (hF i (List.mem_range.1 hil)).2.2

theorem slice_cell {t e : TypeId} {fuel : Nat} {v : Value} {x : DataW H × List MemPlace} (ht : P.underlying t = some (.slice e)) (h : DataW.trod enc P w base spare held fuel t [v] = some x) : ∃ A len cap, v = .slice A len cap := by
  rcases open_slice ht h with ⟨hcs, _⟩ | ⟨a, l, c, m, n, D, Pl, hcs, _⟩
  · exact ⟨_, _, _, by simpa using hcs⟩
  · exact ⟨_, _, _, by simpa using hcs⟩
end
section
variable {H : Type} {enc : TypeId × Value → H} {w : World} {base : Nat} {spare : Nat → Bool} {held : Bool}
set_option maxRecDepth 100000 in
theorem open_lists {r : Reach} {b0 : Nat} {v : Value} {dd : DataW H} {p : List MemPlace} (hv : Value.okWide Tryz.prog w r b0 23 v) (h : DataW.Trod enc Tryz.prog w base spare held 23 v dd p) :
    ∃ (A : Option Addr) (n c : Nat) (ls : List LsA), v = .slice A n c ∧ LsR w A n ls ∧ n ≤ c ∧ c ≤ 9223372036854775807 := by
  obtain ⟨A, n, c, rfl⟩ := okWide_slice Tryz.underlying23 hv
  obtain ⟨fuel, hf⟩ := h
  obtain ⟨ls, h1, h2, h3, h4, h5⟩ := open_recs (en := encLs) (Q := fun x : LsA => Ints w x.A x.n x.xs ∧ x.n ≤ x.c ∧ x.c ≤ 9223372036854775807) (k := 1) (by omega) Tryz.underlying23 (by kernel_rfl) (fun cs' n y hlen h2 => by
    match cs', hlen with
    | [v0], _ =>
      obtain ⟨A', l, c', rfl⟩ := slice_cell Tryz.underlying22 h2
      obtain ⟨zs, k1, k2, k3, _⟩ := open_recs (en := fun z : Int => [Value.int .i64 z]) (Q := fun _ => True) (k := 1) (by omega) Tryz.underlying22 (by kernel_rfl) (fun cs2 n2 y2 hlen2 h3 => by
        match cs2, hlen2 with
        | [v1], _ =>
          obtain ⟨z, e0, _⟩ := DataW.trod_int Tryz.underlying3 h3
          exact ⟨z, e0, trivial⟩) h2
      exact ⟨⟨A', l, c', zs⟩, rfl, ints_of_recs k1, k2, k3⟩) hf
  refine ⟨A, n, c, ls, rfl, ⟨h1, fun i hi => ?_⟩, h2, h3⟩
  have hl := h1.1
  have hm : ls[i]! ∈ ls := by rw [getElem!_pos ls i (by omega)]; exact List.getElem_mem _
  exact h5 _ hm
end
end Go.Proofs.YtbokkeooahodaaaGreatDoor

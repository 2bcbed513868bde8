/-
  The walk of the law InvoiceErrors. No statement of the seat is proved here. Conditions: the slices read as integers and as records.
-/
import Derived.Test.YtknbbamlpadfdaaLaw17a
import Derived.Test.YtknbbamlpadfdaaFew17
import Derived.Deep.DeepCutAuto
namespace Go.Proofs.Ytknbbamlpadfdaa
open Go.RowKit
set_option linter.unusedVariables false

/-- The slice's block is not g. -/
def Off (g : Nat) (A : Option Addr) (n : Nat) : Prop := 0 < n → ∀ b off, A = some ⟨b, off, none⟩ → b ≠ g
theorem Recs.far {α : Type} [Inhabited α] {enc : α → List Value} {k : Nat} {w : World} {A : Option Addr} {n : Nat} {xs : List α} (h : Recs enc k w A n xs) {g : Nat} (hg : Off g A n) (o : Nat) (v : Value) : Recs enc k (w.setCell ⟨g, o, none⟩ v) A n xs :=
  ⟨h.1, fun hn => by
    obtain ⟨b, off, e, hb, hc⟩ := h.2 hn
    have hne := hg hn b off e
    refine ⟨b, off, e, by simp [World.setCell]; exact hb, fun i hi c hcc => ?_⟩
    rw [← hc i hi c hcc]
    exact World.cell?_of_block (Below.heap_setCell w ⟨g, o, none⟩ v b hne)⟩
theorem Recs.off {α : Type} [Inhabited α] {enc : α → List Value} {k : Nat} {w : World} {A : Option Addr} {n : Nat} {xs : List α} (h : Recs enc k w A n xs) {g : Nat} (hg : w.heap.size ≤ g) : Off g A n := fun hn b off e => by
  obtain ⟨b', off', e', hb, _⟩ := h.2 hn
  rw [e] at e'
  injection e' with e'
  injection e' with e1
  omega
theorem own_off {w : World} {base : Nat} {e : TypeId} {size n c : Nat} {A : Option Addr} {xs : List Value} (h : w.ownsRow base e size (.slice A n c) n xs) {g : Nat} (hg : g < base) : Off g A n := fun hn b off ea => by
  have := own_base h b (by rw [ea]; rfl)
  omega

/-- An invoice in block gx. -/
def InvAt (w : World) (gx : Nat) (cu : ByteArray) (day : Int) (A : Option Addr) (n c : Nat) (B : Option Addr) (m d : Nat) (ls : List (Int × Int)) (cs : List Chg) : Prop :=
  Bl w gx 25 #[.string cu, .int .i64 day, .slice A n c, .slice B m d] ∧ Recs enc2 2 w A n ls ∧ n ≤ 9223372036854775807 ∧ Recs encC 5 w B m cs ∧ m ≤ 9223372036854775807 ∧ ChSz cs ∧ cu.size ≤ 9223372036854775807 ∧ Off gx A n ∧ Off gx B m

def TabAt (w : World) (T : Option Addr) (tn : Nat) (ts : List Exch) (gx : Nat) : Prop := Recs encX 3 w T tn ts ∧ tn ≤ 9223372036854775807 ∧ ExSz ts ∧ Off gx T tn

theorem InvAt.below {w w' : World} {gx : Nat} {cu : ByteArray} {day : Int} {A : Option Addr} {n c : Nat} {B : Option Addr} {m d : Nat} {ls : List (Int × Int)} {cs : List Chg} (h : InvAt w gx cu day A n c B m d ls cs) (hb : RowKit.Below w.heap.size w w') : InvAt w' gx cu day A n c B m d ls cs :=
  ⟨h.1.keep hb, h.2.1.below hb, h.2.2.1, h.2.2.2.1.below hb, h.2.2.2.2⟩
theorem TabAt.below {w w' : World} {T : Option Addr} {tn : Nat} {ts : List Exch} {gx : Nat} (h : TabAt w T tn ts gx) (hb : RowKit.Below w.heap.size w w') : TabAt w' T tn ts gx := ⟨h.1.below hb, h.2⟩
theorem TabAt.far {w : World} {T : Option Addr} {tn : Nat} {ts : List Exch} {gx : Nat} (h : TabAt w T tn ts gx) (o : Nat) (v : Value) : TabAt (w.setCell ⟨gx, o, none⟩ v) T tn ts gx := ⟨h.1.far h.2.2.2 o v, h.2⟩
theorem take_exsz {ts : List Exch} (h : ExSz ts) (m : Nat) : ExSz (ts.take m) := fun i hi => by
  have hi2 : i < ts.length := by simp at hi; omega
  have := h i hi2
  rw [getElem!_pos ts i hi2] at this
  rw [getElem!_pos (ts.take m) i hi, List.getElem_take]
  exact this
theorem take_chsz {ts : List Chg} (h : ChSz ts) (m : Nat) : ChSz (ts.take m) := fun i hi => by
  have hi2 : i < ts.length := by simp at hi; omega
  have := h i hi2
  rw [getElem!_pos ts i hi2] at this
  rw [getElem!_pos (ts.take m) i hi, List.getElem_take]
  exact this

set_option maxRecDepth 100000 in
set_option maxHeartbeats 16000000 in
theorem walkInvoiceErrors (T : Option Addr) (tn tc : Nat) (ts : List Exch) (cu : ByteArray) (day : Int) (A B : Option Addr) (n c m d : Nat) (ls : List (Int × Int)) (cs : List Chg) (A0 : Option Addr) (n0 c0 : Nat) (xs : List Int) (A1 : Option Addr) (n1 c1 : Nat) (ys : List Int) (which : Int) (cx : ByteArray) (w : World)
    (hT : Recs encX 3 w T tn ts) (htc : tn ≤ tc) (htm : tc ≤ 9223372036854775807) (hTn : T = none → tn = 0 ∧ tc = 0) (hTz : ExSz ts)
    (hcu : cu.size ≤ 9223372036854775807) (h : Recs enc2 2 w A n ls) (hn : n ≤ c) (hc : c ≤ 9223372036854775807) (hA : A = none → n = 0 ∧ c = 0)
    (h2 : Recs encC 5 w B m cs) (hm : m ≤ d) (hd : d ≤ 9223372036854775807) (hB : B = none → m = 0 ∧ d = 0) (hcz : ChSz cs)
    (h0 : Ints w A0 n0 xs) (hl0 : n0 ≤ c0) (hc0 : c0 ≤ 9223372036854775807) (h1 : Ints w A1 n1 ys) (hl1 : n1 ≤ c1) (hc1 : c1 ≤ 9223372036854775807) (hcx : cx.size ≤ 9223372036854775807) :
    Calls Try.prog 5 #[.slice T tn tc, .agg #[.string cu, .int .i64 day, .slice A n c, .slice B m d], .slice A0 n0 c0, .slice A1 n1 c1, .int .i64 which, .string cx] w fun e w' => e = .returned (.bool true) ∧ RowKit.Below w.heap.size w w' := by
  have T1 : Hid ((min (tn : Int) 300).toNat = min tn 300) := by show _ = _; omega
  have l1 : (0 : Int) ≤ min (tn : Int) 300 := by omega
  have l2 : min (tn : Int) 300 ≤ (tc : Int) := by omega
  have HF := Lib.hid (fun w => few_any cu day A B n c m d w hn hc hA hm hd hB)
  have hTt := hT.take (m := min tn 300) (by omega)
  have hlt := h.take (m := min n 105) (by omega)
  have hct := h2.take (m := min m 55) (by omega)
  have HTZ := Lib.hid (take_exsz hTz (min tn 300))
  have HCZ := Lib.hid (take_chsz hcz (min m 55))
  obtain ⟨tn', htn'⟩ : ∃ k, min tn 300 = k := ⟨_, rfl⟩
  obtain ⟨n', hn'⟩ : ∃ k, min n 105 = k := ⟨_, rfl⟩
  obtain ⟨m', hm'⟩ : ∃ k, min m 55 = k := ⟨_, rfl⟩
  rw [htn'] at hTt HTZ T1
  rw [hn'] at hlt HF
  rw [hm'] at hct HF HCZ
  have e1 : tn' ≤ 300 := by omega
  have e2 : n' ≤ 105 := by omega
  have e3 : m' ≤ 55 := by omega
  have hb0 : RowKit.Below w.heap.size w (w.alloc (.cells #[.string cu, .int .i64 day, .slice A n c, .slice B m d] 25)) := (Below.refl _ _).alloc (Nat.le_refl _) _
  clear htn' hn' hm' hT h h2 hTz hcz hA hB
  have hx0 := Bl.new w 25 #[.string cu, .int .i64 day, .slice A n c, .slice B m d]
  go_enter Try.func5, Try.ntmps5
  go_upto_region 1 with (fail)
  generalize w.alloc (.cells #[.string cu, .int .i64 day, .slice A n c, .slice B m d] 25) = W0 at *
  go_cut [0] (fun tb wx => tb = .slice T tn' tc ∧ wx = W0)
  case first =>
    cases T with
    | none =>
      obtain ⟨rfl, rfl⟩ := hTn rfl
      go_wp2_with fail
      go_meet
      exact ⟨by rw [← T1.out]; rfl, rfl⟩
    | some a =>
      go_wp2_with fail
      go_meet
      exact ⟨by rw [← T1.out], rfl⟩
  case rest =>
    obtain ⟨rfl, rfl⟩ := hcut
    have p0 : wc.cell? ⟨w.heap.size, 0, none⟩ = some (.string cu) := hx0.cell 0
    have p1 : wc.cell? ⟨w.heap.size, 1, none⟩ = some (.int .i64 day) := hx0.cell 1
    have p2 : wc.cell? ⟨w.heap.size, 2, none⟩ = some (.slice A n c) := hx0.cell 2
    have p3 : wc.cell? ⟨w.heap.size, 3, none⟩ = some (.slice B m d) := hx0.cell 3
    go_wp2_with fail
    refine (HF.out _).mono ?_
    rintro e w1 ⟨rfl, hb1⟩
    have hB1 := hb0.trans (hb1.mono hb0.size)
    have hIA : InvAt (w1.alloc (.cells #[.string cu, .int .i64 day, .slice A n' c, .slice B m' d] 25)) w1.heap.size cu day A n' c B m' d (ls.take n') (cs.take m') :=
      ⟨Bl.new w1 _ _, (hlt.below hB1).alloc _, by omega, (hct.below hB1).alloc _, by omega, HCZ.out, hcu, hlt.off hB1.size, hct.off hB1.size⟩
    have hTA : TabAt (w1.alloc (.cells #[.string cu, .int .i64 day, .slice A n' c, .slice B m' d] 25)) T tn' (ts.take tn') w1.heap.size := ⟨(hTt.below hB1).alloc _, by omega, HTZ.out, hTt.off hB1.size⟩
    have hB2 := hB1.alloc hB1.size (.cells #[.string cu, .int .i64 day, .slice A n' c, .slice B m' d] 25)
    go_upto_if 27 with (fail)
    generalize w1.alloc (.cells #[.string cu, .int .i64 day, .slice A n' c, .slice B m' d] 25) = W1 at *
    have hgx0 := hB1.size
    generalize w1.heap.size = gx at *
    generalize ls.take n' = ls' at *
    generalize cs.take m' = cs' at *
    generalize ts.take tn' = ts' at *
    clear hlt hct hTt HCZ HTZ hb0 hb1 hB1 hx0 HF p0 p1 p2 p3 T1
    obtain ⟨k1, hk1⟩ : ∃ k, bits .and .i64 which 1 = k := ⟨_, rfl⟩
    obtain ⟨k2, hk2⟩ : ∃ k, bits .and .i64 which 2 = k := ⟨_, rfl⟩
    obtain ⟨k4, hk4⟩ : ∃ k, bits .and .i64 which 4 = k := ⟨_, rfl⟩
    rw [hk1]
    go_cut [0] (fun tb wx => ∃ (T : Option Addr) (tn tc : Nat) (ts : List Exch), tb = .slice T tn tc ∧ TabAt wx T tn ts gx ∧ InvAt wx gx cu day A n' c B m' d ls' cs' ∧ RowKit.Below w.heap.size w wx)
    case first =>
      by_cases g : k1 = 1
      · have b : (k1 == 1) = true := by simpa using g
        clear hk1 g
        go_wp2_with fail
        refine (table_any A0 n0 c0 xs W1 (h0.below hB2) hl0 hc0).mono ?_
        rintro e w2 ⟨T2, tn2, tc2, ts2, rfl, htl, htn, hts, hot, hb2⟩
        go_wp2_with fail
        go_meet
        exact ⟨T2, tn2, tc2, ts2, rfl, ⟨Recs.of_own encX_len hot htl, by omega, exsz_of hts, own_off hot hIA.1.lt⟩, hIA.below hb2, hB2.trans (hb2.mono hB2.size)⟩
      · have b : (k1 == 1) = false := by simpa using g
        clear hk1 g
        go_wp2_with fail
        go_meet
        exact ⟨T, tn', tc, ts', rfl, hTA, hIA, hB2⟩
    case rest =>
      clear hTA hIA hB2 hTn hk1
      obtain ⟨T2, tn2, tc2, ts2, rfl, hTA, hIA, hB2⟩ := hcut
      obtain ⟨W2, rfl⟩ : ∃ W, W = wc := ⟨_, rfl⟩
      go_upto_if 32 with (fail)
      go_cut [] (fun wx => ∃ (cu : ByteArray) (day : Int) (A : Option Addr) (n c : Nat) (B : Option Addr) (m d : Nat) (ls : List (Int × Int)) (cs : List Chg), InvAt wx gx cu day A n c B m d ls cs ∧ TabAt wx T2 tn2 ts2 gx ∧ RowKit.Below w.heap.size w wx)
      case first =>
        by_cases g : k2 = 2
        · have b : (k2 == 2) = true := by simpa using g
          clear hk2 g
          go_wp2_with fail
          refine (invoice_any A1 n1 c1 ys W2 (h1.below hB2) hl1 hc1).mono ?_
          rintro e w3 ⟨cu3, day3, A3, n3, c3, B3, m3, d3, ls3, cs3, rfl, hcu3, hie, hn3, hm3, hcs, hln, hcm, hol, hoc, hb3⟩
          have hI3 := hIA.below hb3
          have hT3 := hTA.below hb3
          have hB3 := hB2.trans (hb3.mono hB2.size)
          have hx3 := hI3.1
          have q0 : w3.cell? ⟨gx, 0, none⟩ = some (.string cu) := hx3.cell 0
          have q1 : w3.cell? ⟨gx, 1, none⟩ = some (.int .i64 day) := hx3.cell 1
          have q2 : w3.cell? ⟨gx, 2, none⟩ = some (.slice A n' c) := hx3.cell 2
          have q3 : w3.cell? ⟨gx, 3, none⟩ = some (.slice B m' d) := hx3.cell 3
          have f0 : w3.frozen? ⟨gx, 0, none⟩ = false := hx3.free 0
          have f1 : w3.frozen? ⟨gx, 1, none⟩ = false := hx3.free 1
          have f2 : w3.frozen? ⟨gx, 2, none⟩ = false := hx3.free 2
          have f3 : w3.frozen? ⟨gx, 3, none⟩ = false := hx3.free 3
          have o1 : Off gx A3 n3 := own_off hol hIA.1.lt
          have o2 : Off gx B3 m3 := own_off hoc hIA.1.lt
          have r1 := Recs.of_own enc2_len hol hln
          have r2 := Recs.of_own encC_len hoc hcm
          have HX : Hid (Bl ((((w3.setCell ⟨gx, 0, none⟩ (.string cu3)).setCell ⟨gx, 1, none⟩ (.int .i64 day3)).setCell ⟨gx, 2, none⟩ (.slice A3 n3 c3)).setCell ⟨gx, 3, none⟩ (.slice B3 m3 d3)) gx 25 #[.string cu3, .int .i64 day3, .slice A3 n3 c3, .slice B3 m3 d3]) := by
            have := (((hx3.put 0 (.string cu3)).put 1 (.int .i64 day3)).put 2 (.slice A3 n3 c3)).put 3 (.slice B3 m3 d3)
            show Bl _ _ _ _
            simpa using this
          have HCS := Lib.hid (chsz_of hcs)
          clear hcs hie
          go_wp2_with fail
          go_meet
          exact ⟨cu3, day3, A3, n3, c3, B3, m3, d3, ls3, cs3, ⟨HX.out, (((r1.far o1 0 _).far o1 1 _).far o1 2 _).far o1 3 _, by omega, (((r2.far o2 0 _).far o2 1 _).far o2 2 _).far o2 3 _, by omega, HCS.out, by omega, o1, o2⟩, (((hT3.far 0 _).far 1 _).far 2 _).far 3 _, (((hB3.setCell (p := ⟨gx, 0, none⟩) hgx0 _).setCell (p := ⟨gx, 1, none⟩) hgx0 _).setCell (p := ⟨gx, 2, none⟩) hgx0 _).setCell (p := ⟨gx, 3, none⟩) hgx0 _⟩
        · have b : (k2 == 2) = false := by simpa using g
          clear hk2 g
          go_wp2_with fail
          go_meet
          exact ⟨cu, day, A, n', c, B, m', d, ls', cs', hIA, hTA, hB2⟩
      case rest =>
        clear hTA hIA hB2 hk2
        obtain ⟨cu3, day3, A3, n3, c3, B3, m3, d3, ls3, cs3, hIA, hTA, hB2⟩ := hcut
        obtain ⟨W3, rfl⟩ : ∃ W, W = wc := ⟨_, rfl⟩
        go_upto_if 37 with (fail)
        go_cut [] (fun wx => ∃ cu : ByteArray, InvAt wx gx cu day3 A3 n3 c3 B3 m3 d3 ls3 cs3 ∧ TabAt wx T2 tn2 ts2 gx ∧ RowKit.Below w.heap.size w wx)
        case first =>
          by_cases g : k4 = 4
          · have b : (k4 == 4) = true := by simpa using g
            clear hk4 g
            have hx3 := hIA.1
            have q0 : W3.cell? ⟨gx, 0, none⟩ = some (.string cu3) := hx3.cell 0
            have f0 : W3.frozen? ⟨gx, 0, none⟩ = false := hx3.free 0
            have HX : Hid (Bl (W3.setCell ⟨gx, 0, none⟩ (.string cx)) gx 25 #[.string cx, .int .i64 day3, .slice A3 n3 c3, .slice B3 m3 d3]) := by
              have := hx3.put 0 (.string cx)
              show Bl _ _ _ _
              simpa using this
            obtain ⟨_, r1, s1, r2, s2, s3, s4, o1, o2⟩ := hIA
            go_wp2_with fail
            go_meet
            exact ⟨cx, ⟨HX.out, r1.far o1 0 _, s1, r2.far o2 0 _, s2, s3, hcx, o1, o2⟩, hTA.far 0 _, hB2.setCell (p := ⟨gx, 0, none⟩) hgx0 _⟩
          · have b : (k4 == 4) = false := by simpa using g
            clear hk4 g
            go_wp2_with fail
            go_meet
            exact ⟨cu3, hIA, hTA, hB2⟩
        case rest =>
          clear hTA hIA hB2 hk4
          obtain ⟨cu4, ⟨hx, hl, hnm, hc5, hmm, hcz, hcu4, _, _⟩, ⟨hT5, htm5, htz, _⟩, hB4⟩ := hcut
          have HCZ := Lib.hid hcz
          have HTZ := Lib.hid htz
          have q0 : wc.cell? ⟨gx, 0, none⟩ = some (.string cu4) := hx.cell 0
          have q1 : wc.cell? ⟨gx, 1, none⟩ = some (.int .i64 day3) := hx.cell 1
          have q2 : wc.cell? ⟨gx, 2, none⟩ = some (.slice A3 n3 c3) := hx.cell 2
          have q3 : wc.cell? ⟨gx, 3, none⟩ = some (.slice B3 m3 d3) := hx.cell 3
          clear hcz htz
          go_wp2_with fail
          refine (values_any T2 tn2 tc2 ts2 cu4 day3 A3 B3 n3 c3 m3 d3 ls3 cs3 _ hT5 htm5 HTZ.out hcu4 hl hnm hc5 hmm HCZ.out).mono ?_
          rintro e w4 ⟨Av, nv, cv, rfl, hov, hb4⟩
          have hx4 := hx.keep hb4
          have p0 : w4.cell? ⟨gx, 0, none⟩ = some (.string cu4) := hx4.cell 0
          have p1 : w4.cell? ⟨gx, 1, none⟩ = some (.int .i64 day3) := hx4.cell 1
          have p2 : w4.cell? ⟨gx, 2, none⟩ = some (.slice A3 n3 c3) := hx4.cell 2
          have p3 : w4.cell? ⟨gx, 3, none⟩ = some (.slice B3 m3 d3) := hx4.cell 3
          have hl4 := hl.below hb4
          have hc4 := hc5.below hb4
          have hT4 := hT5.below hb4
          have hB5 := hB4.trans (hb4.mono hB4.size)
          have hIv := IntsK.of_own hov
          have HLv := Lib.hid (own_len hov)
          have HMv := Lib.hid (own_le hov)
          clear hx hl hc5 hT5 hB4 hb4 hov q0 q1 q2 q3
          go_wp2_with fail
          refine (rvalues_any T2 tn2 tc2 ts2 cu4 day3 A3 B3 n3 c3 m3 d3 ls3 cs3 w4 hT4 htm5 HTZ.out hl4 hnm hc4 hmm).mono ?_
          rintro e w5 ⟨Au, nu, cu2, rfl, hou, hb5⟩
          have hB6 := hB5.trans (hb5.mono hB5.size)
          have hIu := IntsK.of_own hou
          have hnn : nv = nu := by rw [← HLv.out, ← own_len hou]
          subst hnn
          have hIv5 := hIv.below hb5
          clear hx4 hl4 hc4 hT4 hB5 hb5 hou hIv p0 p1 p2 p3
          generalize valErr ts2 cu4.toList day3 ls3 cs3 = e1 at *
          generalize valOut ts2 cu4.toList day3 ls3 cs3 = vs at *
          go_wp2_with fail
          refine (same_true Av Au nv cv cu2 vs w5 hIv5 hIu HMv.out).mono ?_
          rintro e w8 ⟨rfl, q, rfl⟩
          have hB8 := below_drewN hB6 q
          go_wp2_with fail
          refine (awake17_any _).mono ?_
          rintro e w9 ⟨rfl, hb9⟩
          go_wp2
          go_ret
          exact ⟨rfl, hB8.trans (hb9.mono hB8.size)⟩
end Go.Proofs.Ytknbbamlpadfdaa

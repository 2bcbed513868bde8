/-
  The closure of central.fact: whether a book has a number. No statement of the seat is proved here. Conditions: the message's box lies in the world.
  The contract of central.fact. No statement of the seat is proved here. Conditions: rows of the call's own, at most 100 messages before, a message that was not refused.
-/
import Derived.Test.YtdbcbbiplkikcaaGreatNAL
import Derived.Test.YtdbcbbiplkikcaaGreatNAQ
namespace Go.Proofs.YtdbcbbiplkikcaaGreat
open Go.RowKit
set_option linter.unusedVariables false

set_option maxRecDepth 100000 in
set_option maxHeartbeats 2000000 in
theorem fact1_any (b : Qb) (g : Nat) (oth : Int) (w : World) (hg : g < w.heap.size) (h : w.cell? ⟨g, 6, none⟩ = some (.int .i64 oth)) :
    Calls Tryz.prog 75 #[.agg #[.int .i64 b.q.id, .int .i64 b.q.vol, .int .i64 b.q.fr, .int .i64 b.q.tod, .slice b.A b.n b.c], .pointer (some ⟨g, 0, none⟩)] w (BRes w (b.q.id == oth)) := by
  have hx := Bl.new w 54 #[.int .i64 b.q.id, .int .i64 b.q.vol, .int .i64 b.q.fr, .int .i64 b.q.tod, .slice b.A b.n b.c]
  have hb0 : RowKit.Below w.heap.size w (w.alloc (.cells #[.int .i64 b.q.id, .int .i64 b.q.vol, .int .i64 b.q.fr, .int .i64 b.q.tod, .slice b.A b.n b.c] 54)) := (Below.refl _ _).alloc (Nat.le_refl _) _
  have h1 := (hb0.cell (p := ⟨g, 6, none⟩) hg).trans h
  clear h
  go_enter Tryz.func75, Tryz.ntmps75
  go_upto_region 1 with (fail)
  generalize w.alloc (.cells #[.int .i64 b.q.id, .int .i64 b.q.vol, .int .i64 b.q.fr, .int .i64 b.q.tod, .slice b.A b.n b.c] 54) = W0 at *
  have c0 : W0.cell? ⟨w.heap.size, 0, none⟩ = some (.int .i64 b.q.id) := hx.cell 0
  go_wp2
  go_ret
  exact ⟨rfl, hb0⟩
def IdxRes (w : World) (n : Nat) (ids : Nat → Int) (oth : Int) (e : Ending) (w' : World) : Prop := ((∃ I : Nat, e = .returned (.int .i64 I) ∧ I < n ∧ ids I = oth) ∨ (e = .returned (.int .i64 (-1)) ∧ ∀ j, j < n → ids j ≠ oth)) ∧ RowKit.Below w.heap.size w w'
set_option maxRecDepth 100000 in
set_option maxHeartbeats 4000000 in
theorem idxB_any (A : Option Addr) (n c : Nat) (bs : List Qb) (g : Nat) (oth : Int) (w : World) (h : Recs encB 5 w A n bs) (hn : n ≤ 1000000) (hg : g < w.heap.size) (hc : w.cell? ⟨g, 6, none⟩ = some (.int .i64 oth)) :
    Calls Tryz.prog 74 #[.slice A n c, .func (.func 75) #[] #[.pointer (some ⟨g, 0, none⟩)]] w (IdxRes w n (fun j => bs[j]!.q.id) oth) := by
  have HS := Lib.hid h
  have HC : Hid (∀ (b : Qb) (w' : World), RowKit.Below w.heap.size w w' → Calls Tryz.prog 75 #[.agg #[.int .i64 b.q.id, .int .i64 b.q.vol, .int .i64 b.q.fr, .int .i64 b.q.tod, .slice b.A b.n b.c], .pointer (some ⟨g, 0, none⟩)] w' (BRes w' (b.q.id == oth))) := fun b w' hb => fact1_any b g oth w' (Nat.lt_of_lt_of_le hg hb.size) ((hb.cell (p := ⟨g, 6, none⟩) hg).trans hc)
  clear h hg hc
  go_enter Tryz.func74, Tryz.ntmps74
  go_wp2_with fail
  go_loopw [8] (fun i wx => ∃ k : Nat, k ≤ n ∧ i = .int .i64 k ∧ Hid (∀ j, j < k → bs[j]!.q.id ≠ oth) ∧ Hid (RowKit.Below w.heap.size w wx)) (fun i _ => n - (intOf i).toNat)
  case atStart => exact ⟨0, Nat.zero_le _, rfl, fun j hj => by omega, Below.refl _ _⟩
  case round =>
    obtain ⟨k, hk, rfl, HA, HB⟩ := hrel
    by_cases hlt : k < n
    · obtain ⟨b, off, hA, hbl, hc⟩ := (HS.out.below HB.out).at_ hlt
      obtain ⟨x, hxx⟩ : ∃ x, bs[k]! = x := ⟨_, rfl⟩
      rw [hxx] at hc
      subst hA
      have hki : (k : Int) < n := by omega
      have a0 : wr.cell? ⟨b, off + k * 5, none⟩ = some (.int .i64 x.q.id) := hc 0 (by omega)
      have a1 : wr.cell? ⟨b, off + k * 5 + 1, none⟩ = some (.int .i64 x.q.vol) := hc 1 (by omega)
      have a2 : wr.cell? ⟨b, off + k * 5 + 2, none⟩ = some (.int .i64 x.q.fr) := hc 2 (by omega)
      have a3 : wr.cell? ⟨b, off + k * 5 + 3, none⟩ = some (.int .i64 x.q.tod) := hc 3 (by omega)
      have a4 : wr.cell? ⟨b, off + k * 5 + 4, none⟩ = some (.slice x.A x.n x.c) := hc 4 (by omega)
      have HXX := Lib.hid hxx
      have HCX := Lib.hid (HC.out x wr HB.out)
      obtain ⟨r, hr⟩ : ∃ r, (x.q.id == oth) = r := ⟨_, rfl⟩
      have HR := Lib.hid hr
      rw [hr] at HCX
      clear hc hxx hr hbl
      go_wp2_with fail
      refine HCX.out.mono ?_
      rintro e w1 ⟨rfl, hb1⟩
      have HB1 := Lib.hid (HB.out.trans (hb1.mono HB.out.size))
      clear a0 a1 a2 a3 a4 hb1 HB HCX
      cases r
      case true =>
        have E : Hid (bs[k]!.q.id = oth) := by show _ = _; rw [HXX.out]; simpa using HR.out
        go_wp2
        go_ret
        exact ⟨.inl ⟨k, rfl, hlt, E.out⟩, HB1.out⟩
      have HA2 : Hid (∀ j, j < k + 1 → bs[j]!.q.id ≠ oth) := fun j hj => by
        by_cases e : j = k
        · subst e; rw [HXX.out]; simpa using HR.out
        · exact HA.out j (by omega)
      go_wp2_with fail
      go_roundw
      case rel => exact ⟨k + 1, by omega, by go_num, HA2, HB1⟩
      case measure => simp [intOf]; omega
    · obtain rfl : n = k := by omega
      go_wp2
      go_ret
      exact ⟨.inr ⟨rfl, HA.out⟩, HB.out⟩
end Go.Proofs.YtdbcbbiplkikcaaGreat

namespace Go.Proofs.YtdbcbbiplkikcaaGreat
open Go.RowKit
set_option linter.unusedVariables false

def Mid8 (N : Nat) (W : World) (q : Qt) (fs : List Fct) (f : Fct) (v7 v8 v9 : Value) (wx : World) : Prop :=
  ∃ (g7 : Nat) (a : Qt) (B : Option Addr) (n' d : Nat) (C : Option Addr) (m d2 : Nat) (er : Int), v7 = .pointer (some ⟨g7, 0, none⟩) ∧ v8 = .slice C m d2 ∧ v9 = .int .i64 er ∧ Bl wx g7 54 #[.int .i64 a.id, .int .i64 a.vol, .int .i64 a.fr, .int .i64 a.tod, .slice B n' d] ∧ W.heap.size ≤ g7 ∧ RowKit.Below W.heap.size W wx ∧ ApRel q fs f N wx a B n' d C m d2 er
theorem Mid8.a {N : Nat} {W w5 : World} {q : Qt} {fs : List Fct} {f : Fct} {a : Qt} {B : Option Addr} {n' d : Nat} {C : Option Addr} {m d2 : Nat} {er : Int} (hv5 : RowKit.Below W.heap.size W w5) (hap : ApRel q fs f N w5 a B n' d C m d2 er) : Mid8 N W q fs f (.pointer (some ⟨w5.heap.size, 0, none⟩)) (.slice C m d2) (.int .i64 er) (w5.alloc (.cells #[.int .i64 a.id, .int .i64 a.vol, .int .i64 a.fr, .int .i64 a.tod, .slice B n' d] 54)) :=
  ⟨w5.heap.size, a, B, n', d, C, m, d2, er, rfl, rfl, rfl, Bl.new _ _ _, hv5.size, hv5.alloc hv5.size _, hap.alloc _⟩
theorem Mid8.b {N g : Nat} {W w5 : World} {q : Qt} {fs : List Fct} {f : Fct} {a : Qt} {B : Option Addr} {n' d : Nat} {C : Option Addr} {m d2 : Nat} {er : Int} {z0 z1 z2 z3 z4 : Value} (hv5 : RowKit.Below W.heap.size W w5) (hz : Bl w5 g 54 #[z0, z1, z2, z3, z4]) (hg : W.heap.size ≤ g) (hap : ApRel q fs f N w5 a B n' d C m d2 er) : Mid8 N W q fs f (.pointer (some ⟨g, 0, none⟩)) (.slice C m d2) (.int .i64 er) (((((w5.setCell ⟨g, 0, none⟩ (.int .i64 a.id)).setCell ⟨g, 1, none⟩ (.int .i64 a.vol)).setCell ⟨g, 2, none⟩ (.int .i64 a.fr)).setCell ⟨g, 3, none⟩ (.int .i64 a.tod)).setCell ⟨g, 4, none⟩ (.slice B n' d)) :=
  ⟨g, a, B, n', d, C, m, d2, er, rfl, rfl, rfl, set5_bl hz _ _ _ _ _, hg, put5 hv5 hg _ _ _ _ _, hap.set5 hz _ _ _ _ _⟩
theorem getB {w : World} {N : Nat} {A : Option Addr} {n c : Nat} {xs : List Qb} (h : w.ownsRow N 54 5 (.slice A n c) n (flat encB xs)) {I : Nat} (hI : I < n) : ∃ g b, A = some ⟨g, 0, none⟩ ∧ g < w.heap.size ∧ w.cell? ⟨g, I * 5, none⟩ = some (.int .i64 b.q.id) ∧ w.cell? ⟨g, I * 5 + 1, none⟩ = some (.int .i64 b.q.vol) ∧ w.cell? ⟨g, I * 5 + 2, none⟩ = some (.int .i64 b.q.fr) ∧ w.cell? ⟨g, I * 5 + 3, none⟩ = some (.int .i64 b.q.tod) ∧ w.cell? ⟨g, I * 5 + 4, none⟩ = some (.slice b.A b.n b.c) ∧ Hid (xs[I]! = b) ∧ Hid (b ∈ xs) ∧ Hid (∀ o, w.frozen? ⟨g, o, none⟩ = false) := by
  obtain ⟨g, rfl⟩ := own_addr h (by omega)
  have hl := own_lenK encB_len (by omega) h
  have hc : ∀ c, c < 5 → w.cell? ⟨g, I * 5 + c, none⟩ = some ((encB xs[I]!)[c]!) := fun c hc => own_cellK encB_len h (by omega) hc hl
  exact ⟨g, xs[I]!, rfl, own_lt h g rfl, hc 0 (by omega), hc 1 (by omega), hc 2 (by omega), hc 3 (by omega), hc 4 (by omega), rfl, (by show _ ∈ _; rw [getElem!_pos xs I (by omega)]; exact List.getElem_mem _), fun o => h.frozenAt o⟩

set_option maxRecDepth 100000 in
set_option maxHeartbeats 8000000 in
theorem fact37_any (N : Nat) (H : Hds) (C : Cen) (m : Mg) (k : Nat) (w : World) (hO : CenO N w H C) (ha : CovApart H C) (hN : N ≤ w.heap.size) (hI : CInv k C) (hk : k ≤ 100) (hm : MOk m) :
    Calls Tryz.prog 43 #[.agg #[.slice H.s.A H.s.n H.s.c, .slice H.q.A H.q.n H.q.c, .slice H.g.A H.g.n H.g.c, .slice H.k.A H.k.n H.k.c, .slice H.m.A H.m.n H.m.c], .agg #[.int .i64 m.kind, .int .i64 m.frm, .int .i64 m.dst, .int .i64 m.num, .int .i64 m.day, .int .i64 m.lot, .int .i64 m.oth, .string m.code, .string m.ctry, .int .i64 m.qty, .int .i64 m.amt, .slice m.LA m.ln m.lc, .string m.text]] w (ActRes N w H C m k) := by
  obtain ⟨Hs, ⟨qA, qn, qc⟩, Hg, Hk, ⟨mA, mn, mc⟩⟩ := H
  obtain ⟨_, bf1, bf2, bn1, bn2, _, _, bl1, bl2, _⟩ := hm.bounds
  have HO := Lib.hid hO
  have HA := Lib.hid ha
  have HN := Lib.hid hN
  have HI := Lib.hid hI
  have HQN : Hid (C.qs.length = qn) := own_lenK encB_len (by omega) hO.qs
  have HMN : Hid (C.sent.length = mn) := own_lenK encS_len (by omega) hO.sent
  have hqn : qn ≤ 16 := by have := hI.nq; have := HQN.out; omega
  have hmn : mn ≤ 20100 := by have := hI.sent; have := HMN.out; omega
  have HML : Hid (∀ g, (Value.slice mA mn mc).ownBlock = some g → g < w.heap.size) := fun g e => own_lt hO.sent g e
  have HK := Lib.hid hk
  clear hO ha hN hI hk hm
  obtain ⟨W0, hW0⟩ : ∃ W, W = ((w.alloc (.cells #[.slice Hs.A Hs.n Hs.c, .slice qA qn qc, .slice Hg.A Hg.n Hg.c, .slice Hk.A Hk.n Hk.c, .slice mA mn mc] 37)).alloc (.cells #[.int .i64 m.kind, .int .i64 m.frm, .int .i64 m.dst, .int .i64 m.num, .int .i64 m.day, .int .i64 m.lot, .int .i64 m.oth, .string m.code, .string m.ctry, .int .i64 m.qty, .int .i64 m.amt, .slice m.LA m.ln m.lc, .string m.text] 48)).alloc (.cells #[.slice none 0 0, .slice none 0 0, .slice none 0 0, .slice none 0 0, .slice none 0 0] 37) := ⟨_, rfl⟩
  have hx : Bl W0 w.heap.size 37 #[.slice Hs.A Hs.n Hs.c, .slice qA qn qc, .slice Hg.A Hg.n Hg.c, .slice Hk.A Hk.n Hk.c, .slice mA mn mc] := by rw [hW0]; exact ((Bl.new w _ _).alloc _).alloc _
  have hmb : Bl W0 (w.heap.size + 1) 48 #[.int .i64 m.kind, .int .i64 m.frm, .int .i64 m.dst, .int .i64 m.num, .int .i64 m.day, .int .i64 m.lot, .int .i64 m.oth, .string m.code, .string m.ctry, .int .i64 m.qty, .int .i64 m.amt, .slice m.LA m.ln m.lc, .string m.text] := by rw [hW0]; have := (Bl.new (w.alloc (.cells #[.slice Hs.A Hs.n Hs.c, .slice qA qn qc, .slice Hg.A Hg.n Hg.c, .slice Hk.A Hk.n Hk.c, .slice mA mn mc] 37)) 48 #[.int .i64 m.kind, .int .i64 m.frm, .int .i64 m.dst, .int .i64 m.num, .int .i64 m.day, .int .i64 m.lot, .int .i64 m.oth, .string m.code, .string m.ctry, .int .i64 m.qty, .int .i64 m.amt, .slice m.LA m.ln m.lc, .string m.text]).alloc (.cells #[.slice none 0 0, .slice none 0 0, .slice none 0 0, .slice none 0 0, .slice none 0 0] 37); simpa using this
  have hr : Bl W0 (w.heap.size + 1 + 1) 37 #[.slice none 0 0, .slice none 0 0, .slice none 0 0, .slice none 0 0, .slice none 0 0] := by rw [hW0]; have := Bl.new ((w.alloc (.cells #[.slice Hs.A Hs.n Hs.c, .slice qA qn qc, .slice Hg.A Hg.n Hg.c, .slice Hk.A Hk.n Hk.c, .slice mA mn mc] 37)).alloc (.cells #[.int .i64 m.kind, .int .i64 m.frm, .int .i64 m.dst, .int .i64 m.num, .int .i64 m.day, .int .i64 m.lot, .int .i64 m.oth, .string m.code, .string m.ctry, .int .i64 m.qty, .int .i64 m.amt, .slice m.LA m.ln m.lc, .string m.text] 48)) 37 #[.slice none 0 0, .slice none 0 0, .slice none 0 0, .slice none 0 0, .slice none 0 0]; simpa using this
  have hb0 : RowKit.Below w.heap.size w W0 := by rw [hW0]; exact (((Below.refl _ _).alloc (Nat.le_refl _) _).alloc (by simp) _).alloc (by simp; omega) _
  have HO0 := Lib.hid (HO.out.below hb0)
  have HCL := Lib.hid (idxB_any qA qn qc C.qs (w.heap.size + 1) m.oth W0 HO0.out.at_.qs.recs (by omega) hmb.lt (hmb.cell 6))
  have HX0 := Lib.hid hx
  have HM0 := Lib.hid hmb
  have HR0 := Lib.hid hr
  have HB0 := Lib.hid hb0
  have hmf : ∀ (fn : Fn) (first cap : Array Value) (w : World), (Instr.makeFunc fn first cap).run Tryz.prog w = .ok (.func fn first cap) w := fun _ _ _ _ => rfl
  clear hx hmb hr hb0
  go_enter Tryz.func43, Tryz.ntmps43
  go_upto_region 1 with (fail)
  rw [← hW0]
  clear hW0
  have x1 : W0.cell? ⟨w.heap.size, 1, none⟩ = some (.slice qA qn qc) := HX0.out.c1
  go_wp2_with fail
  refine HCL.out.mono ?_
  rintro e w1 ⟨hor, hb1⟩
  have HX := Lib.hid (HX0.out.keep hb1)
  have HM := Lib.hid (HM0.out.keep hb1)
  have HR := Lib.hid (HR0.out.keep hb1)
  have HB : Hid (RowKit.Below w.heap.size w w1) := HB0.out.trans (hb1.mono HB0.out.size)
  have HO1 := Lib.hid (HO0.out.below hb1)
  clear x1 HX0 HM0 HR0 HB0 HO0 HCL hb1 hmf
  have HOR := Lib.hid hor
  clear hor
  by_cases hneg : ∃ I : Nat, e = .returned (.int .i64 I) ∧ I < qn ∧ C.qs[I]!.q.id = m.oth
  case neg =>
    obtain ⟨rfl, hno⟩ : e = .returned (.int .i64 (-1)) ∧ ∀ j, j < qn → C.qs[j]!.q.id ≠ m.oth := by
      rcases HOR.out with h | h
      · exact absurd h hneg
      · exact h
    have HAW : Hid (AwEx C m 6 C) := AwEx.noId HQN.out hno
    clear HOR hneg hno
    have x0 : w1.cell? ⟨w.heap.size, 0, none⟩ = some (.slice Hs.A Hs.n Hs.c) := HX.out.c0
    have x1 : w1.cell? ⟨w.heap.size, 1, none⟩ = some (.slice qA qn qc) := HX.out.c1
    have x2 : w1.cell? ⟨w.heap.size, 2, none⟩ = some (.slice Hg.A Hg.n Hg.c) := HX.out.c2
    have x3 : w1.cell? ⟨w.heap.size, 3, none⟩ = some (.slice Hk.A Hk.n Hk.c) := HX.out.c3
    have x4 : w1.cell? ⟨w.heap.size, 4, none⟩ = some (.slice mA mn mc) := HX.out.c4
    have r0 : w1.cell? ⟨w.heap.size + 1 + 1, 0, none⟩ = some (.slice none 0 0) := HR.out.c0
    have rf0 : w1.frozen? ⟨w.heap.size + 1 + 1, 0, none⟩ = false := HR.out.free 0
    have r1 : w1.cell? ⟨w.heap.size + 1 + 1, 1, none⟩ = some (.slice none 0 0) := HR.out.c1
    have rf1 : w1.frozen? ⟨w.heap.size + 1 + 1, 1, none⟩ = false := HR.out.free 1
    have r2 : w1.cell? ⟨w.heap.size + 1 + 1, 2, none⟩ = some (.slice none 0 0) := HR.out.c2
    have rf2 : w1.frozen? ⟨w.heap.size + 1 + 1, 2, none⟩ = false := HR.out.free 2
    have r3 : w1.cell? ⟨w.heap.size + 1 + 1, 3, none⟩ = some (.slice none 0 0) := HR.out.c3
    have rf3 : w1.frozen? ⟨w.heap.size + 1 + 1, 3, none⟩ = false := HR.out.free 3
    have r4 : w1.cell? ⟨w.heap.size + 1 + 1, 4, none⟩ = some (.slice none 0 0) := HR.out.c4
    have rf4 : w1.frozen? ⟨w.heap.size + 1 + 1, 4, none⟩ = false := HR.out.free 4
    go_wp2
    refine bodyPost_ret (v := .tuple #[.agg #[.slice Hs.A Hs.n Hs.c, .slice qA qn qc, .slice Hg.A Hg.n Hg.c, .slice Hk.A Hk.n Hk.c, .slice mA mn mc], .int .i64 6]) (by simp [results, Tryz.results43, go_sem, r0, r1, r2, r3, r4]) rfl ?_
    exact ActRes.same (H := ⟨Hs, ⟨qA, qn, qc⟩, Hg, Hk, ⟨mA, mn, mc⟩⟩) (HO1.out.far HR.out (fun b hb => heap_set5 hb _ _ _ _ _)) HA.out HI.out (RowsFix.of_below (put5 HB.out (by omega) _ _ _ _ _)) (put5 (HB.out.mono HN.out) (Nat.le_trans HN.out (by omega)) _ _ _ _ _) HAW.out
  case pos =>
    obtain ⟨I, rfl, hI1, hI2⟩ := hneg
    clear HOR hI2
    have d0 : decide ((I : Int) < 0) = false := by simp
    have y10 : w1.cell? ⟨w.heap.size + 1, 10, none⟩ = some (.int .i64 m.amt) := HM.out.cell 10
    by_cases ha1 : m.amt < 1
    · have d1 : decide (m.amt < 1) = true := by simpa using ha1
      have HAW : Hid (AwEx C m 2 C) := AwEx.amt (.inl ha1)
      clear ha1
      have x0 : w1.cell? ⟨w.heap.size, 0, none⟩ = some (.slice Hs.A Hs.n Hs.c) := HX.out.c0
      have x1 : w1.cell? ⟨w.heap.size, 1, none⟩ = some (.slice qA qn qc) := HX.out.c1
      have x2 : w1.cell? ⟨w.heap.size, 2, none⟩ = some (.slice Hg.A Hg.n Hg.c) := HX.out.c2
      have x3 : w1.cell? ⟨w.heap.size, 3, none⟩ = some (.slice Hk.A Hk.n Hk.c) := HX.out.c3
      have x4 : w1.cell? ⟨w.heap.size, 4, none⟩ = some (.slice mA mn mc) := HX.out.c4
      have r0 : w1.cell? ⟨w.heap.size + 1 + 1, 0, none⟩ = some (.slice none 0 0) := HR.out.c0
      have rf0 : w1.frozen? ⟨w.heap.size + 1 + 1, 0, none⟩ = false := HR.out.free 0
      have r1 : w1.cell? ⟨w.heap.size + 1 + 1, 1, none⟩ = some (.slice none 0 0) := HR.out.c1
      have rf1 : w1.frozen? ⟨w.heap.size + 1 + 1, 1, none⟩ = false := HR.out.free 1
      have r2 : w1.cell? ⟨w.heap.size + 1 + 1, 2, none⟩ = some (.slice none 0 0) := HR.out.c2
      have rf2 : w1.frozen? ⟨w.heap.size + 1 + 1, 2, none⟩ = false := HR.out.free 2
      have r3 : w1.cell? ⟨w.heap.size + 1 + 1, 3, none⟩ = some (.slice none 0 0) := HR.out.c3
      have rf3 : w1.frozen? ⟨w.heap.size + 1 + 1, 3, none⟩ = false := HR.out.free 3
      have r4 : w1.cell? ⟨w.heap.size + 1 + 1, 4, none⟩ = some (.slice none 0 0) := HR.out.c4
      have rf4 : w1.frozen? ⟨w.heap.size + 1 + 1, 4, none⟩ = false := HR.out.free 4
      go_wp2
      refine bodyPost_ret (v := .tuple #[.agg #[.slice Hs.A Hs.n Hs.c, .slice qA qn qc, .slice Hg.A Hg.n Hg.c, .slice Hk.A Hk.n Hk.c, .slice mA mn mc], .int .i64 2]) (by simp [results, Tryz.results43, go_sem, r0, r1, r2, r3, r4]) rfl ?_
      exact ActRes.same (H := ⟨Hs, ⟨qA, qn, qc⟩, Hg, Hk, ⟨mA, mn, mc⟩⟩) (HO1.out.far HR.out (fun b hb => heap_set5 hb _ _ _ _ _)) HA.out HI.out (RowsFix.of_below (put5 HB.out (by omega) _ _ _ _ _)) (put5 (HB.out.mono HN.out) (Nat.le_trans HN.out (by omega)) _ _ _ _ _) HAW.out
    have d1 : decide (m.amt < 1) = false := by simpa using ha1
    by_cases ha3 : 3 < m.amt
    · have d3 : decide (3 < m.amt) = true := by simpa using ha3
      have HAW : Hid (AwEx C m 2 C) := AwEx.amt (.inr ha3)
      clear ha1 ha3
      have x0 : w1.cell? ⟨w.heap.size, 0, none⟩ = some (.slice Hs.A Hs.n Hs.c) := HX.out.c0
      have x1 : w1.cell? ⟨w.heap.size, 1, none⟩ = some (.slice qA qn qc) := HX.out.c1
      have x2 : w1.cell? ⟨w.heap.size, 2, none⟩ = some (.slice Hg.A Hg.n Hg.c) := HX.out.c2
      have x3 : w1.cell? ⟨w.heap.size, 3, none⟩ = some (.slice Hk.A Hk.n Hk.c) := HX.out.c3
      have x4 : w1.cell? ⟨w.heap.size, 4, none⟩ = some (.slice mA mn mc) := HX.out.c4
      have r0 : w1.cell? ⟨w.heap.size + 1 + 1, 0, none⟩ = some (.slice none 0 0) := HR.out.c0
      have rf0 : w1.frozen? ⟨w.heap.size + 1 + 1, 0, none⟩ = false := HR.out.free 0
      have r1 : w1.cell? ⟨w.heap.size + 1 + 1, 1, none⟩ = some (.slice none 0 0) := HR.out.c1
      have rf1 : w1.frozen? ⟨w.heap.size + 1 + 1, 1, none⟩ = false := HR.out.free 1
      have r2 : w1.cell? ⟨w.heap.size + 1 + 1, 2, none⟩ = some (.slice none 0 0) := HR.out.c2
      have rf2 : w1.frozen? ⟨w.heap.size + 1 + 1, 2, none⟩ = false := HR.out.free 2
      have r3 : w1.cell? ⟨w.heap.size + 1 + 1, 3, none⟩ = some (.slice none 0 0) := HR.out.c3
      have rf3 : w1.frozen? ⟨w.heap.size + 1 + 1, 3, none⟩ = false := HR.out.free 3
      have r4 : w1.cell? ⟨w.heap.size + 1 + 1, 4, none⟩ = some (.slice none 0 0) := HR.out.c4
      have rf4 : w1.frozen? ⟨w.heap.size + 1 + 1, 4, none⟩ = false := HR.out.free 4
      go_wp2
      refine bodyPost_ret (v := .tuple #[.agg #[.slice Hs.A Hs.n Hs.c, .slice qA qn qc, .slice Hg.A Hg.n Hg.c, .slice Hk.A Hk.n Hk.c, .slice mA mn mc], .int .i64 2]) (by simp [results, Tryz.results43, go_sem, r0, r1, r2, r3, r4]) rfl ?_
      exact ActRes.same (H := ⟨Hs, ⟨qA, qn, qc⟩, Hg, Hk, ⟨mA, mn, mc⟩⟩) (HO1.out.far HR.out (fun b hb => heap_set5 hb _ _ _ _ _)) HA.out HI.out (RowsFix.of_below (put5 HB.out (by omega) _ _ _ _ _)) (put5 (HB.out.mono HN.out) (Nat.le_trans HN.out (by omega)) _ _ _ _ _) HAW.out
    have d3 : decide (3 < m.amt) = false := by simpa using ha3
    clear ha1 ha3
    have y5 : w1.cell? ⟨w.heap.size + 1, 5, none⟩ = some (.int .i64 m.lot) := HM.out.cell 5
    have y1 : w1.cell? ⟨w.heap.size + 1, 1, none⟩ = some (.int .i64 m.frm) := HM.out.cell 1
    by_cases hper : m.lot / 10000 = m.frm
    case neg =>
      have b1 : (m.lot / 10000 != m.frm) = true := by simpa using hper
      have HAW : Hid (AwEx C m 15 C) := AwEx.per hper
      clear hper
      have x0 : w1.cell? ⟨w.heap.size, 0, none⟩ = some (.slice Hs.A Hs.n Hs.c) := HX.out.c0
      have x1 : w1.cell? ⟨w.heap.size, 1, none⟩ = some (.slice qA qn qc) := HX.out.c1
      have x2 : w1.cell? ⟨w.heap.size, 2, none⟩ = some (.slice Hg.A Hg.n Hg.c) := HX.out.c2
      have x3 : w1.cell? ⟨w.heap.size, 3, none⟩ = some (.slice Hk.A Hk.n Hk.c) := HX.out.c3
      have x4 : w1.cell? ⟨w.heap.size, 4, none⟩ = some (.slice mA mn mc) := HX.out.c4
      have r0 : w1.cell? ⟨w.heap.size + 1 + 1, 0, none⟩ = some (.slice none 0 0) := HR.out.c0
      have rf0 : w1.frozen? ⟨w.heap.size + 1 + 1, 0, none⟩ = false := HR.out.free 0
      have r1 : w1.cell? ⟨w.heap.size + 1 + 1, 1, none⟩ = some (.slice none 0 0) := HR.out.c1
      have rf1 : w1.frozen? ⟨w.heap.size + 1 + 1, 1, none⟩ = false := HR.out.free 1
      have r2 : w1.cell? ⟨w.heap.size + 1 + 1, 2, none⟩ = some (.slice none 0 0) := HR.out.c2
      have rf2 : w1.frozen? ⟨w.heap.size + 1 + 1, 2, none⟩ = false := HR.out.free 2
      have r3 : w1.cell? ⟨w.heap.size + 1 + 1, 3, none⟩ = some (.slice none 0 0) := HR.out.c3
      have rf3 : w1.frozen? ⟨w.heap.size + 1 + 1, 3, none⟩ = false := HR.out.free 3
      have r4 : w1.cell? ⟨w.heap.size + 1 + 1, 4, none⟩ = some (.slice none 0 0) := HR.out.c4
      have rf4 : w1.frozen? ⟨w.heap.size + 1 + 1, 4, none⟩ = false := HR.out.free 4
      go_wp2
      refine bodyPost_ret (v := .tuple #[.agg #[.slice Hs.A Hs.n Hs.c, .slice qA qn qc, .slice Hg.A Hg.n Hg.c, .slice Hk.A Hk.n Hk.c, .slice mA mn mc], .int .i64 15]) (by simp [results, Tryz.results43, go_sem, r0, r1, r2, r3, r4]) rfl ?_
      exact ActRes.same (H := ⟨Hs, ⟨qA, qn, qc⟩, Hg, Hk, ⟨mA, mn, mc⟩⟩) (HO1.out.far HR.out (fun b hb => heap_set5 hb _ _ _ _ _)) HA.out HI.out (RowsFix.of_below (put5 HB.out (by omega) _ _ _ _ _)) (put5 (HB.out.mono HN.out) (Nat.le_trans HN.out (by omega)) _ _ _ _ _) HAW.out
    case pos =>
    have b1 : (m.lot / 10000 != m.frm) = false := by simpa using hper
    clear hper
    obtain ⟨gq, b, hA, hgq, a0, a1, a2, a3, a4, HBI, HBM, HFR⟩ := getB HO1.out.qs hI1
    simp only at hA
    subst hA
    have hgw : gq < w.heap.size := own_lt HO.out.qs gq rfl
    have hIi : (I : Int) < qn := by omega
    have hIz : (0 : Int) ≤ (I : Int) := by omega
    have u1 : IntKind.i64.wrap (1000000 * m.frm) = 1000000 * m.frm := IntWalk.i64_in _ (by omega)
    have u2 : IntKind.i64.wrap (1000000 * m.frm + m.num) = 1000000 * m.frm + m.num := IntWalk.i64_in _ (by omega)
    have hbk := HI.out.books b HBM.out
    have HBK := Lib.hid hbk
    have HAC : Hid (∀ wx, RowKit.Below w1.heap.size w1 wx → Calls Tryz.prog 76 #[.agg #[.int .i64 b.q.id, .int .i64 b.q.vol, .int .i64 b.q.fr, .int .i64 b.q.tod, .slice b.A b.n b.c], .agg #[.int .i64 (1000000 * m.frm + m.num), .int .i64 m.amt, .int .i64 m.day, .int .i64 m.lot, .int .i64 m.qty]] wx fun e w' => ∃ (a : Qt) (B : Option Addr) (n' d : Nat) (C' : Option Addr) (cm d2 : Nat) (er : Int), e = .returned (.tuple #[.agg #[.int .i64 a.id, .int .i64 a.vol, .int .i64 a.fr, .int .i64 a.tod, .slice B n' d], .slice C' cm d2, .int .i64 er]) ∧ Hid (ApRel b.q b.fs ⟨1000000 * m.frm + m.num, m.amt, m.day, m.lot, m.qty⟩ N w' a B n' d C' cm d2 er) ∧ Hid (RowKit.Below w1.heap.size w1 w') ∧ Hid (RowKit.Below wx.heap.size wx w')) := fun wx hb =>
      (apply_all b.q b.A b.n b.c b.fs ⟨1000000 * m.frm + m.num, m.amt, m.day, m.lot, m.qty⟩ wx ((HO1.out.below hb).at_.facts b HBM.out) HBK.out.1 (by have := HBK.out.2; have := HK.out; omega)).mono fun e w' ⟨a, B, n', d, C', cm, d2, er, h1, h2, h3⟩ => ⟨a, B, n', d, C', cm, d2, er, h1, h2.mono (Nat.le_trans HN.out (Nat.le_trans HB.out.size hb.size)), hb.trans (h3.mono hb.size), h3⟩
    have x1 : w1.cell? ⟨w.heap.size, 1, none⟩ = some (.slice (some ⟨gq, 0, none⟩) qn qc) := HX.out.c1
    have y3 : w1.cell? ⟨w.heap.size + 1, 3, none⟩ = some (.int .i64 m.num) := HM.out.cell 3
    have y4 : w1.cell? ⟨w.heap.size + 1, 4, none⟩ = some (.int .i64 m.day) := HM.out.cell 4
    have y9 : w1.cell? ⟨w.heap.size + 1, 9, none⟩ = some (.int .i64 m.qty) := HM.out.cell 9
    have hv1 : Hid (RowKit.Below w1.heap.size w1 w1.drew) := (Below.refl _ _).drew
    have hv2 : Hid (RowKit.Below w1.heap.size w1 (w1.alloc (.cells #[.int .i64 0, .int .i64 0, .int .i64 0, .int .i64 0, .slice none 0 0] 54)).drew) := ((Below.refl _ _).alloc (Nat.le_refl _) _).drew
    have HKS : Hid (∀ wx, RowKit.Below w1.heap.size w1 wx → wx.cell? ⟨w.heap.size, 1, none⟩ = some (.slice (some ⟨gq, 0, none⟩) qn qc) ∧ wx.cell? ⟨gq, I * 5, none⟩ = some (.int .i64 b.q.id) ∧ wx.cell? ⟨gq, I * 5 + 1, none⟩ = some (.int .i64 b.q.vol) ∧ wx.cell? ⟨gq, I * 5 + 2, none⟩ = some (.int .i64 b.q.fr) ∧ wx.cell? ⟨gq, I * 5 + 3, none⟩ = some (.int .i64 b.q.tod) ∧ wx.cell? ⟨gq, I * 5 + 4, none⟩ = some (.slice b.A b.n b.c) ∧ wx.cell? ⟨w.heap.size + 1, 1, none⟩ = some (.int .i64 m.frm) ∧ wx.cell? ⟨w.heap.size + 1, 3, none⟩ = some (.int .i64 m.num) ∧ wx.cell? ⟨w.heap.size + 1, 4, none⟩ = some (.int .i64 m.day) ∧ wx.cell? ⟨w.heap.size + 1, 5, none⟩ = some (.int .i64 m.lot) ∧ wx.cell? ⟨w.heap.size + 1, 9, none⟩ = some (.int .i64 m.qty) ∧ wx.cell? ⟨w.heap.size + 1, 10, none⟩ = some (.int .i64 m.amt)) := fun wx hb => ⟨(HX.out.keep hb).c1, (hb.cell (p := ⟨gq, I * 5, none⟩) hgq).trans a0, (hb.cell (p := ⟨gq, I * 5 + 1, none⟩) hgq).trans a1, (hb.cell (p := ⟨gq, I * 5 + 2, none⟩) hgq).trans a2, (hb.cell (p := ⟨gq, I * 5 + 3, none⟩) hgq).trans a3, (hb.cell (p := ⟨gq, I * 5 + 4, none⟩) hgq).trans a4, (HM.out.keep hb).cell 1, (HM.out.keep hb).cell 3, (HM.out.keep hb).cell 4, (HM.out.keep hb).cell 5, (HM.out.keep hb).cell 9, (HM.out.keep hb).cell 10⟩
    clear hbk
    go_upto_region 8 with (fail)
    go_cut [7, 8, 9] from 36 (fun v7 v8 v9 wx => Mid8 N w1 b.q b.fs ⟨1000000 * m.frm + m.num, m.amt, m.day, m.lot, m.qty⟩ v7 v8 v9 wx)
    case first =>
      go_region_held3 (fun w' => w'.cell? ⟨w.heap.size, 1, none⟩ = some (.slice (some ⟨gq, 0, none⟩) qn qc) ∧ w'.cell? ⟨gq, I * 5, none⟩ = some (.int .i64 b.q.id) ∧ w'.cell? ⟨gq, I * 5 + 1, none⟩ = some (.int .i64 b.q.vol) ∧ w'.cell? ⟨gq, I * 5 + 2, none⟩ = some (.int .i64 b.q.fr) ∧ w'.cell? ⟨gq, I * 5 + 3, none⟩ = some (.int .i64 b.q.tod) ∧ w'.cell? ⟨gq, I * 5 + 4, none⟩ = some (.slice b.A b.n b.c) ∧ w'.cell? ⟨w.heap.size + 1, 1, none⟩ = some (.int .i64 m.frm) ∧ w'.cell? ⟨w.heap.size + 1, 3, none⟩ = some (.int .i64 m.num) ∧ w'.cell? ⟨w.heap.size + 1, 4, none⟩ = some (.int .i64 m.day) ∧ w'.cell? ⟨w.heap.size + 1, 5, none⟩ = some (.int .i64 m.lot) ∧ w'.cell? ⟨w.heap.size + 1, 9, none⟩ = some (.int .i64 m.qty) ∧ w'.cell? ⟨w.heap.size + 1, 10, none⟩ = some (.int .i64 m.amt))
        (first
          | with_reducible exact HKS.out _ hv6.out
          | with_reducible exact HKS.out _ hv5.out
          | with_reducible exact HKS.out _ hv2.out
          | with_reducible exact HKS.out _ hv1.out
          | go_keep)
        (first
          | (go_at_call 76; (with_reducible refine (HAC.out _ hv1.out).mono ?_); rintro e w5 ⟨a, B, n', d, C', cm, d2, er, rfl, hap, hv5, hvv⟩; have hv6 : Hid (RowKit.Below w1.heap.size w1 (w5.alloc (.cells #[.int .i64 a.id, .int .i64 a.vol, .int .i64 a.fr, .int .i64 a.tod, .slice B n' d] 54))) := hv5.out.alloc hv5.out.size _)
          | (go_at_call 76; (with_reducible refine (HAC.out _ hv2.out).mono ?_); rintro e w5 ⟨a, B, n', d, C', cm, d2, er, rfl, hap, hv5, hvv⟩; have hv6 : Hid (RowKit.Below w1.heap.size w1 (((((w5.setCell ⟨w1.heap.size, 0, none⟩ (.int .i64 a.id)).setCell ⟨w1.heap.size, 1, none⟩ (.int .i64 a.vol)).setCell ⟨w1.heap.size, 2, none⟩ (.int .i64 a.fr)).setCell ⟨w1.heap.size, 3, none⟩ (.int .i64 a.tod)).setCell ⟨w1.heap.size, 4, none⟩ (.slice B n' d))) := put5 hv5.out (Nat.le_refl _) _ _ _ _ _; have HZ5 := Lib.hid (((Bl.new w1 54 #[.int .i64 0, .int .i64 0, .int .i64 0, .int .i64 0, .slice none 0 0]).drew).keep hvv.out); have z0 : w5.cell? ⟨w1.heap.size, 0, none⟩ = some (.int .i64 0) := HZ5.out.c0; have zf0 : w5.frozen? ⟨w1.heap.size, 0, none⟩ = false := HZ5.out.free 0; have z1 : w5.cell? ⟨w1.heap.size, 1, none⟩ = some (.int .i64 0) := HZ5.out.c1; have zf1 : w5.frozen? ⟨w1.heap.size, 1, none⟩ = false := HZ5.out.free 1; have z2 : w5.cell? ⟨w1.heap.size, 2, none⟩ = some (.int .i64 0) := HZ5.out.c2; have zf2 : w5.frozen? ⟨w1.heap.size, 2, none⟩ = false := HZ5.out.free 2; have z3 : w5.cell? ⟨w1.heap.size, 3, none⟩ = some (.int .i64 0) := HZ5.out.c3; have zf3 : w5.frozen? ⟨w1.heap.size, 3, none⟩ = false := HZ5.out.free 3; have z4 : w5.cell? ⟨w1.heap.size, 4, none⟩ = some (.slice none 0 0) := HZ5.out.c4; have zf4 : w5.frozen? ⟨w1.heap.size, 4, none⟩ = false := HZ5.out.free 4))
      all_goals
        (go_wp2_with fail
         go_meet
         first
           | with_reducible exact Mid8.a hv5.out hap.out
           | with_reducible exact Mid8.b hv5.out HZ5.out (Nat.le_refl _) hap.out)
    case rest =>
      obtain ⟨g7, a, B, n', d, cA, cm, cd, er, rfl, rfl, rfl, hg7, hg7w, hb8, hap⟩ := hcut
      have HX8 := Lib.hid (HX.out.keep hb8)
      have HM8 := Lib.hid (HM.out.keep hb8)
      have HR8 := Lib.hid (HR.out.keep hb8)
      have HB8 : Hid (RowKit.Below w.heap.size w wc) := HB.out.trans (hb8.mono HB.out.size)
      have HO8 := Lib.hid (HO1.out.below hb8)
      have HG8 := Lib.hid hg7
      have HAP := Lib.hid hap
      have hsz : w.heap.size + 1 + 1 < w1.heap.size := HR.out.lt
      have HF8 : Hid (∀ o, wc.frozen? ⟨gq, o, none⟩ = false) := fun o => (hb8.frozen (p := ⟨gq, o, none⟩) hgq).trans (HFR.out o)
      have E0 := Lib.hid ((hb8.cell (p := ⟨gq, I * 5, none⟩) hgq).trans a0)
      have E1 := Lib.hid ((hb8.cell (p := ⟨gq, I * 5 + 1, none⟩) hgq).trans a1)
      have E2 := Lib.hid ((hb8.cell (p := ⟨gq, I * 5 + 2, none⟩) hgq).trans a2)
      have E3 := Lib.hid ((hb8.cell (p := ⟨gq, I * 5 + 3, none⟩) hgq).trans a3)
      have E4 := Lib.hid ((hb8.cell (p := ⟨gq, I * 5 + 4, none⟩) hgq).trans a4)
      clear hg7 hb8 hap HX HM HR HB HO1 HFR HAC HKS hv1 hv2 x1 y3 y4 y9 y10 y5 y1 a0 a1 a2 a3 a4 u1 u2 d0 d1 d3 b1 hgq
      have HX := HX8
      have HM := HM8
      have HR := HR8
      have HB := HB8
      clear HX8 HM8 HR8 HB8
      by_cases her : er = 0
      case neg =>
        have b1 : (er != 0) = true := by simpa using her
        have HAW : Hid (AwEx C m er C) := AwEx.bad (I := I) (by have := HQN.out; omega) HBI.out (HAP.out.2 her)
        clear her E0 E1 E2 E3 E4
        have x0 : wc.cell? ⟨w.heap.size, 0, none⟩ = some (.slice Hs.A Hs.n Hs.c) := HX.out.c0
        have x1 : wc.cell? ⟨w.heap.size, 1, none⟩ = some (.slice (some ⟨gq, 0, none⟩) qn qc) := HX.out.c1
        have x2 : wc.cell? ⟨w.heap.size, 2, none⟩ = some (.slice Hg.A Hg.n Hg.c) := HX.out.c2
        have x3 : wc.cell? ⟨w.heap.size, 3, none⟩ = some (.slice Hk.A Hk.n Hk.c) := HX.out.c3
        have x4 : wc.cell? ⟨w.heap.size, 4, none⟩ = some (.slice mA mn mc) := HX.out.c4
        have r0 : wc.cell? ⟨w.heap.size + 1 + 1, 0, none⟩ = some (.slice none 0 0) := HR.out.c0
        have rf0 : wc.frozen? ⟨w.heap.size + 1 + 1, 0, none⟩ = false := HR.out.free 0
        have r1 : wc.cell? ⟨w.heap.size + 1 + 1, 1, none⟩ = some (.slice none 0 0) := HR.out.c1
        have rf1 : wc.frozen? ⟨w.heap.size + 1 + 1, 1, none⟩ = false := HR.out.free 1
        have r2 : wc.cell? ⟨w.heap.size + 1 + 1, 2, none⟩ = some (.slice none 0 0) := HR.out.c2
        have rf2 : wc.frozen? ⟨w.heap.size + 1 + 1, 2, none⟩ = false := HR.out.free 2
        have r3 : wc.cell? ⟨w.heap.size + 1 + 1, 3, none⟩ = some (.slice none 0 0) := HR.out.c3
        have rf3 : wc.frozen? ⟨w.heap.size + 1 + 1, 3, none⟩ = false := HR.out.free 3
        have r4 : wc.cell? ⟨w.heap.size + 1 + 1, 4, none⟩ = some (.slice none 0 0) := HR.out.c4
        have rf4 : wc.frozen? ⟨w.heap.size + 1 + 1, 4, none⟩ = false := HR.out.free 4
        go_wp2
        refine bodyPost_ret (v := .tuple #[.agg #[.slice Hs.A Hs.n Hs.c, .slice (some ⟨gq, 0, none⟩) qn qc, .slice Hg.A Hg.n Hg.c, .slice Hk.A Hk.n Hk.c, .slice mA mn mc], .int .i64 er]) (by simp [results, Tryz.results43, go_sem, r0, r1, r2, r3, r4]) rfl ?_
        exact ActRes.same (H := ⟨Hs, ⟨some ⟨gq, 0, none⟩, qn, qc⟩, Hg, Hk, ⟨mA, mn, mc⟩⟩) (HO8.out.far HR.out (fun b hb => heap_set5 hb _ _ _ _ _)) HA.out HI.out (RowsFix.of_below (put5 HB.out (by omega) _ _ _ _ _)) (put5 (HB.out.mono HN.out) (Nat.le_trans HN.out (by omega)) _ _ _ _ _) HAW.out
      case pos =>
        subst her
        have b1 : ((0 : Int) != 0) = false := rfl
        obtain ⟨haq, fs', cs, hok, hfl, hcl, hof, hoc⟩ := HAP.out.1 rfl
        subst haq
        have HOK := Lib.hid hok
        have HCL := Lib.hid hcl
        have HOF := Lib.hid hof
        have HOC := Lib.hid hoc
        have HFL := Lib.hid hfl
        have hcm : cm ≤ 101 := by have := hok.few; have := HBK.out.2; have := HK.out; omega
        have x1 : wc.cell? ⟨w.heap.size, 1, none⟩ = some (.slice (some ⟨gq, 0, none⟩) qn qc) := HX.out.c1
        have k0 : wc.cell? ⟨g7, 0, none⟩ = some (.int .i64 b.q.id) := HG8.out.c0
        have k1 : wc.cell? ⟨g7, 1, none⟩ = some (.int .i64 b.q.vol) := HG8.out.c1
        have k2 : wc.cell? ⟨g7, 2, none⟩ = some (.int .i64 b.q.fr) := HG8.out.c2
        have k3 : wc.cell? ⟨g7, 3, none⟩ = some (.int .i64 b.q.tod) := HG8.out.c3
        have k4 : wc.cell? ⟨g7, 4, none⟩ = some (.slice B n' d) := HG8.out.c4
        have e0 : wc.cell? ⟨gq, I * 5, none⟩ = some (.int .i64 b.q.id) := E0.out
        have e1 : wc.cell? ⟨gq, I * 5 + 1, none⟩ = some (.int .i64 b.q.vol) := E1.out
        have e2 : wc.cell? ⟨gq, I * 5 + 2, none⟩ = some (.int .i64 b.q.fr) := E2.out
        have e3 : wc.cell? ⟨gq, I * 5 + 3, none⟩ = some (.int .i64 b.q.tod) := E3.out
        have e4 : wc.cell? ⟨gq, I * 5 + 4, none⟩ = some (.slice b.A b.n b.c) := E4.out
        have z0 : wc.frozen? ⟨gq, I * 5, none⟩ = false := HF8.out _
        have z1 : wc.frozen? ⟨gq, I * 5 + 1, none⟩ = false := HF8.out _
        have z2 : wc.frozen? ⟨gq, I * 5 + 2, none⟩ = false := HF8.out _
        have z3 : wc.frozen? ⟨gq, I * 5 + 3, none⟩ = false := HF8.out _
        have z4 : wc.frozen? ⟨gq, I * 5 + 4, none⟩ = false := HF8.out _
        have HOB := Lib.hid (cenO_book (I := I) (q := b.q) HO8.out rfl (by have := HQN.out; omega) hof)
        have hne0 : w.heap.size ≠ gq := by omega
        have hne1 : w.heap.size + 1 ≠ gq := by omega
        have hne2 : w.heap.size + 1 + 1 ≠ gq := by omega
        have HHP : Hid (∀ j, j ≠ gq → (((((wc.setCell ⟨gq, I * 5, none⟩ (.int .i64 b.q.id)).setCell ⟨gq, I * 5 + 1, none⟩ (.int .i64 b.q.vol)).setCell ⟨gq, I * 5 + 2, none⟩ (.int .i64 b.q.fr)).setCell ⟨gq, I * 5 + 3, none⟩ (.int .i64 b.q.tod)).setCell ⟨gq, I * 5 + 4, none⟩ (.slice B n' d)).heap[j]? = wc.heap[j]?) := fun j hj => heap_set5o hj _ _ _ _ _
        have HXB : Hid (Bl (((((wc.setCell ⟨gq, I * 5, none⟩ (.int .i64 b.q.id)).setCell ⟨gq, I * 5 + 1, none⟩ (.int .i64 b.q.vol)).setCell ⟨gq, I * 5 + 2, none⟩ (.int .i64 b.q.fr)).setCell ⟨gq, I * 5 + 3, none⟩ (.int .i64 b.q.tod)).setCell ⟨gq, I * 5 + 4, none⟩ (.slice B n' d)) w.heap.size 37 #[.slice Hs.A Hs.n Hs.c, .slice (some ⟨gq, 0, none⟩) qn qc, .slice Hg.A Hg.n Hg.c, .slice Hk.A Hk.n Hk.c, .slice mA mn mc]) := (HHP.out _ hne0).trans HX.out
        have HMB : Hid (Bl (((((wc.setCell ⟨gq, I * 5, none⟩ (.int .i64 b.q.id)).setCell ⟨gq, I * 5 + 1, none⟩ (.int .i64 b.q.vol)).setCell ⟨gq, I * 5 + 2, none⟩ (.int .i64 b.q.fr)).setCell ⟨gq, I * 5 + 3, none⟩ (.int .i64 b.q.tod)).setCell ⟨gq, I * 5 + 4, none⟩ (.slice B n' d)) (w.heap.size + 1) 48 #[.int .i64 m.kind, .int .i64 m.frm, .int .i64 m.dst, .int .i64 m.num, .int .i64 m.day, .int .i64 m.lot, .int .i64 m.oth, .string m.code, .string m.ctry, .int .i64 m.qty, .int .i64 m.amt, .slice m.LA m.ln m.lc, .string m.text]) := (HHP.out _ hne1).trans HM.out
        have HRB : Hid (Bl (((((wc.setCell ⟨gq, I * 5, none⟩ (.int .i64 b.q.id)).setCell ⟨gq, I * 5 + 1, none⟩ (.int .i64 b.q.vol)).setCell ⟨gq, I * 5 + 2, none⟩ (.int .i64 b.q.fr)).setCell ⟨gq, I * 5 + 3, none⟩ (.int .i64 b.q.tod)).setCell ⟨gq, I * 5 + 4, none⟩ (.slice B n' d)) (w.heap.size + 1 + 1) 37 #[.slice none 0 0, .slice none 0 0, .slice none 0 0, .slice none 0 0, .slice none 0 0]) := (HHP.out _ hne2).trans HR.out
        have HOC2 : Hid ((((((wc.setCell ⟨gq, I * 5, none⟩ (.int .i64 b.q.id)).setCell ⟨gq, I * 5 + 1, none⟩ (.int .i64 b.q.vol)).setCell ⟨gq, I * 5 + 2, none⟩ (.int .i64 b.q.fr)).setCell ⟨gq, I * 5 + 3, none⟩ (.int .i64 b.q.tod)).setCell ⟨gq, I * 5 + 4, none⟩ (.slice B n' d)).ownsRow N 167 3 (.slice cA cm cd) cm (flat encG cs)) := own_of_block hoc fun j hj => HHP.out j (fun e => own_diff hoc HO8.out.qs (by decide) j hj (by rw [e]; rfl))
        have HSB : Hid (wc.heap.size = (((((wc.setCell ⟨gq, I * 5, none⟩ (.int .i64 b.q.id)).setCell ⟨gq, I * 5 + 1, none⟩ (.int .i64 b.q.vol)).setCell ⟨gq, I * 5 + 2, none⟩ (.int .i64 b.q.fr)).setCell ⟨gq, I * 5 + 3, none⟩ (.int .i64 b.q.tod)).setCell ⟨gq, I * 5 + 4, none⟩ (.slice B n' d)).heap.size) := (by show _ = _; simp)
        have HFX : Hid (RowsFix w (((((wc.setCell ⟨gq, I * 5, none⟩ (.int .i64 b.q.id)).setCell ⟨gq, I * 5 + 1, none⟩ (.int .i64 b.q.vol)).setCell ⟨gq, I * 5 + 2, none⟩ (.int .i64 b.q.fr)).setCell ⟨gq, I * 5 + 3, none⟩ (.int .i64 b.q.tod)).setCell ⟨gq, I * 5 + 4, none⟩ (.slice B n' d)) ⟨Hs, ⟨some ⟨gq, 0, none⟩, qn, qc⟩, Hg, Hk, ⟨mA, mn, mc⟩⟩) := fun j hj hq _ _ _ => (HHP.out j (fun e => hq (by rw [e]; rfl))).trans (HB.out.block j hj)
        have HBN : Hid (RowKit.Below N w (((((wc.setCell ⟨gq, I * 5, none⟩ (.int .i64 b.q.id)).setCell ⟨gq, I * 5 + 1, none⟩ (.int .i64 b.q.vol)).setCell ⟨gq, I * 5 + 2, none⟩ (.int .i64 b.q.fr)).setCell ⟨gq, I * 5 + 3, none⟩ (.int .i64 b.q.tod)).setCell ⟨gq, I * 5 + 4, none⟩ (.slice B n' d))) := ((((HB.out.mono HN.out).setCell (p := ⟨gq, I * 5, none⟩) (own_base HO8.out.qs gq rfl) _).setCell (p := ⟨gq, I * 5 + 1, none⟩) (own_base HO8.out.qs gq rfl) _).setCell (p := ⟨gq, I * 5 + 2, none⟩) (own_base HO8.out.qs gq rfl) _).setCell (p := ⟨gq, I * 5 + 3, none⟩) (own_base HO8.out.qs gq rfl) _ |>.setCell (p := ⟨gq, I * 5 + 4, none⟩) (own_base HO8.out.qs gq rfl) _
        have hs0 : w.heap.size + 1 + 1 < wc.heap.size := HR.out.lt
        clear hok hcl hof hoc hfl E0 E1 E2 E3 E4 HAP hne0 hne1 hne2
        go_upto_region 12 with (fail)
        clear x1 k0 k1 k2 k3 k4 e0 e1 e2 e3 e4 z0 z1 z2 z3 z4 b1 HX HM HR HB HO8 HG8 HF8 HOF HOC HHP
        generalize ((((wc.setCell ⟨gq, I * 5, none⟩ (.int .i64 b.q.id)).setCell ⟨gq, I * 5 + 1, none⟩ (.int .i64 b.q.vol)).setCell ⟨gq, I * 5 + 2, none⟩ (.int .i64 b.q.fr)).setCell ⟨gq, I * 5 + 3, none⟩ (.int .i64 b.q.tod)).setCell ⟨gq, I * 5 + 4, none⟩ (.slice B n' d) = W9 at *
        go_wp2_with fail
        have HMV : Hid ((Value.slice mA mn mc).ownBlock = (Value.slice mA mn mc).ownBlock ∨ ∃ g, wc.heap.size ≤ g ∧ (Value.slice mA mn mc).ownBlock = some g) := .inl rfl
        have hs9 : wc.heap.size ≤ W9.heap.size := by rw [HSB.out]; exact Nat.le_refl _
        have HC9 : Hid (CenO N W9 ⟨Hs, ⟨some ⟨gq, 0, none⟩, qn, qc⟩, Hg, Hk, ⟨mA, mn + 0, mc⟩⟩ { C with qs := C.qs.set I ⟨b.q, B, n', d, fs'⟩, sent := C.sent ++ [] }) := by
          show CenO _ _ _ _
          rw [List.append_nil]
          exact HOB.out
        go_loopw [71] (fun i wx => ∃ (j : Nat) (mB : Option Addr) (md : Nat) (ss : List Snt), j ≤ cm ∧ i = .int .i64 j ∧ Hid (Bl wx w.heap.size 37 #[.slice Hs.A Hs.n Hs.c, .slice (some ⟨gq, 0, none⟩) qn qc, .slice Hg.A Hg.n Hg.c, .slice Hk.A Hk.n Hk.c, .slice mB (mn + j) md]) ∧ Hid (Bl wx (w.heap.size + 1) 48 #[.int .i64 m.kind, .int .i64 m.frm, .int .i64 m.dst, .int .i64 m.num, .int .i64 m.day, .int .i64 m.lot, .int .i64 m.oth, .string m.code, .string m.ctry, .int .i64 m.qty, .int .i64 m.amt, .slice m.LA m.ln m.lc, .string m.text]) ∧ Hid (Bl wx (w.heap.size + 1 + 1) 37 #[.slice none 0 0, .slice none 0 0, .slice none 0 0, .slice none 0 0, .slice none 0 0]) ∧ Hid (CenO N wx ⟨Hs, ⟨some ⟨gq, 0, none⟩, qn, qc⟩, Hg, Hk, ⟨mB, mn + j, md⟩⟩ { C with qs := C.qs.set I ⟨b.q, B, n', d, fs'⟩, sent := C.sent ++ ss }) ∧ Hid (ss.length = j ∧ ss.map sKey = (cs.take j).map cKey) ∧ Hid ((Value.slice mB (mn + j) md).ownBlock = (Value.slice mA mn mc).ownBlock ∨ ∃ g, wc.heap.size ≤ g ∧ (Value.slice mB (mn + j) md).ownBlock = some g) ∧ Hid (wx.ownsRow N 167 3 (.slice cA cm cd) cm (flat encG cs)) ∧ Hid (RowsFix w wx ⟨Hs, ⟨some ⟨gq, 0, none⟩, qn, qc⟩, Hg, Hk, ⟨mA, mn, mc⟩⟩) ∧ Hid (RowKit.Below N w wx) ∧ wc.heap.size ≤ wx.heap.size) (fun i _ => cm - (intOf i).toNat)
        case atStart => exact ⟨0, mA, mc, [], Nat.zero_le _, rfl, HXB, HMB, HRB, HC9, ⟨rfl, rfl⟩, HMV, HOC2, HFX, HBN, hs9⟩
        case round =>
          clear HXB HMB HRB HC9 HMV HOC2 HFX HBN hs9 HOB
          obtain ⟨j, mB, md, ss, hj, rfl, HX, HM, HR, HO2, HSS, HMV, HC2, HFX, HB, hsz9⟩ := hrel
          by_cases hlt : j < cm
          · obtain ⟨gc, hA⟩ := own_addr HC2.out (by omega)
            subst hA
            obtain ⟨x, hx⟩ : ∃ x, cs[j]! = x := ⟨_, rfl⟩
            have hcell : ∀ c, c < 3 → wr.cell? ⟨gc, j * 3 + c, none⟩ = some ((encG x)[c]!) := fun c hc => by rw [← hx]; exact own_cellK (enc := encG) (xs := cs) (i := j) (c := c) encG_len HC2.out (by rw [HCL.out]; exact hlt) hc HCL.out
            have hxm : x ∈ cs := by rw [← hx, getElem!_pos cs j (by rw [HCL.out]; exact hlt)]; exact List.getElem_mem _
            obtain ⟨xi1, xi2⟩ := HOK.out.ids x hxm
            have HXJ := Lib.hid hx
            have a0 : wr.cell? ⟨gc, j * 3, none⟩ = some (.int .i64 x.id) := hcell 0 (by omega)
            have a1 : wr.cell? ⟨gc, j * 3 + 1, none⟩ = some (.int .i64 x.before) := hcell 1 (by omega)
            have a2 : wr.cell? ⟨gc, j * 3 + 2, none⟩ = some (.int .i64 x.after) := hcell 2 (by omega)
            have hji : (j : Int) < cm := by omega
            have hjz : (0 : Int) ≤ (j : Int) := by omega
            have hal : RowKit.Below wr.heap.size wr (wr.alloc (.cells #[.int .i64 x.id, .int .i64 x.before, .int .i64 x.after] 167)) := (Below.refl _ _).alloc (Nat.le_refl _) _
            have HX4 := Lib.hid (HX.out.keep hal)
            have HM4 := Lib.hid (HM.out.keep hal)
            have HR4 := Lib.hid (HR.out.keep hal)
            have HO4 := Lib.hid (HO2.out.below hal)
            have HC4 := Lib.hid (own_below HC2.out hal)
            have HFX4 : Hid (RowsFix w (wr.alloc (.cells #[.int .i64 x.id, .int .i64 x.before, .int .i64 x.after] 167)) ⟨Hs, ⟨some ⟨gq, 0, none⟩, qn, qc⟩, Hg, Hk, ⟨mA, mn, mc⟩⟩) := fun b' h1 h2 h3 h4 h5 => (hal.block b' (Nat.lt_of_lt_of_le h1 HB.out.size)).trans (HFX.out b' h1 h2 h3 h4 h5)
            have HB4 : Hid (RowKit.Below N w (wr.alloc (.cells #[.int .i64 x.id, .int .i64 x.before, .int .i64 x.after] 167))) := HB.out.alloc (Nat.le_trans HN.out HB.out.size) _
            have hsz4 : wc.heap.size ≤ (wr.alloc (.cells #[.int .i64 x.id, .int .i64 x.before, .int .i64 x.after] 167)).heap.size := Nat.le_trans hsz9 hal.size
            have hy := Bl.new wr 167 #[.int .i64 x.id, .int .i64 x.before, .int .i64 x.after]
            clear hcell hx hxm hal HX HM HR HO2 HC2 HFX HB
            go_upto_region 15 with (fail)
            clear a0 a1 a2
            generalize wr.alloc (.cells #[.int .i64 x.id, .int .i64 x.before, .int .i64 x.after] 167) = W4 at *
            generalize wr.heap.size = g4 at *
            have hwN : N ≤ W4.heap.size := Nat.le_trans HN.out HB4.out.size
            have HCS := Lib.hid (send_any N ⟨Hs, ⟨some ⟨gq, 0, none⟩, qn, qc⟩, Hg, Hk, ⟨mB, mn + j, md⟩⟩ { C with qs := C.qs.set I ⟨b.q, B, n', d, fs'⟩, sent := C.sent ++ ss } 30 (x.id / 10000) m.day x.id m.oth x.after 0 W4 HO4.out hwN (by simp only; omega))
            have x0 : W4.cell? ⟨w.heap.size, 0, none⟩ = some (.slice Hs.A Hs.n Hs.c) := HX4.out.c0
            have x1 : W4.cell? ⟨w.heap.size, 1, none⟩ = some (.slice (some ⟨gq, 0, none⟩) qn qc) := HX4.out.c1
            have x2 : W4.cell? ⟨w.heap.size, 2, none⟩ = some (.slice Hg.A Hg.n Hg.c) := HX4.out.c2
            have x3 : W4.cell? ⟨w.heap.size, 3, none⟩ = some (.slice Hk.A Hk.n Hk.c) := HX4.out.c3
            have x4 : W4.cell? ⟨w.heap.size, 4, none⟩ = some (.slice mB (mn + j) md) := HX4.out.c4
            have q0 : W4.cell? ⟨g4, 0, none⟩ = some (.int .i64 x.id) := hy.cell 0
            have q2 : W4.cell? ⟨g4, 2, none⟩ = some (.int .i64 x.after) := hy.cell 2
            have y4 : W4.cell? ⟨w.heap.size + 1, 4, none⟩ = some (.int .i64 m.day) := HM4.out.cell 4
            have y6 : W4.cell? ⟨w.heap.size + 1, 6, none⟩ = some (.int .i64 m.oth) := HM4.out.cell 6
            go_wp2_with fail
            refine HCS.out.mono ?_
            rintro e w5 ⟨num, B5, d5, rfl, hO5, hb5, hmv5, hfx5⟩
            have hnM : ∀ g, g < wc.heap.size → w.heap.size ≤ g → some g ≠ (Value.slice mB (mn + j) md).ownBlock := fun g h1 h2 e => by
              rcases HMV.out with h | ⟨g', h3, h⟩
              · rw [h] at e
                have := HML.out g e.symm
                omega
              · rw [h] at e
                injection e with e
                omega
            have HX5 : Hid (Bl w5 w.heap.size 37 #[.slice Hs.A Hs.n Hs.c, .slice (some ⟨gq, 0, none⟩) qn qc, .slice Hg.A Hg.n Hg.c, .slice Hk.A Hk.n Hk.c, .slice mB (mn + j) md]) := ((hfx5 w.heap.size (by omega) (hnM _ (by omega) (by omega))).trans HX4.out)
            have HM5 : Hid (Bl w5 (w.heap.size + 1) 48 #[.int .i64 m.kind, .int .i64 m.frm, .int .i64 m.dst, .int .i64 m.num, .int .i64 m.day, .int .i64 m.lot, .int .i64 m.oth, .string m.code, .string m.ctry, .int .i64 m.qty, .int .i64 m.amt, .slice m.LA m.ln m.lc, .string m.text]) := ((hfx5 (w.heap.size + 1) (by omega) (hnM _ (by omega) (by omega))).trans HM4.out)
            have HR5 : Hid (Bl w5 (w.heap.size + 1 + 1) 37 #[.slice none 0 0, .slice none 0 0, .slice none 0 0, .slice none 0 0, .slice none 0 0]) := ((hfx5 (w.heap.size + 1 + 1) (by omega) (hnM _ (by omega) (by omega))).trans HR4.out)
            have HC5 := Lib.hid (own_of_block HC4.out fun g e => hfx5 g (own_lt HC4.out g e) (own_diff HC4.out HO4.out.sent (by decide) g e))
            have HO5 := Lib.hid hO5
            have HMV5 := Lib.hid hmv5
            have HFX5 : Hid (RowsFix w w5 ⟨Hs, ⟨some ⟨gq, 0, none⟩, qn, qc⟩, Hg, Hk, ⟨mA, mn, mc⟩⟩) := fun b' h1 h2 h3 h4 h5 => (hfx5 b' (Nat.lt_of_lt_of_le h1 HB4.out.size) (fun e => by
              rcases HMV.out with h | ⟨g', h6, h⟩
              · exact h5 (e.trans h)
              · rw [h] at e
                injection e with e
                omega)).trans (HFX4.out b' h1 h2 h3 h4 h5)
            have HB5 : Hid (RowKit.Below N w w5) := HB4.out.trans hb5
            have HSZ5 := Lib.hid hb5.size
            clear hO5 hb5 hmv5 hfx5 hnM x0 x1 x2 x3 x4 q0 q2 y4 y6 HX4 HM4 HR4 HC4 HO4 HFX4 HB4 HCS hy
            have x0 : w5.cell? ⟨w.heap.size, 0, none⟩ = some (.slice Hs.A Hs.n Hs.c) := HX5.out.cell 0
            have x1 : w5.cell? ⟨w.heap.size, 1, none⟩ = some (.slice (some ⟨gq, 0, none⟩) qn qc) := HX5.out.cell 1
            have x2 : w5.cell? ⟨w.heap.size, 2, none⟩ = some (.slice Hg.A Hg.n Hg.c) := HX5.out.cell 2
            have x3 : w5.cell? ⟨w.heap.size, 3, none⟩ = some (.slice Hk.A Hk.n Hk.c) := HX5.out.cell 3
            have x4 : w5.cell? ⟨w.heap.size, 4, none⟩ = some (.slice mB (mn + j) md) := HX5.out.cell 4
            have xf0 : w5.frozen? ⟨w.heap.size, 0, none⟩ = false := Bl.free HX5.out 0
            have xf1 : w5.frozen? ⟨w.heap.size, 1, none⟩ = false := Bl.free HX5.out 1
            have xf2 : w5.frozen? ⟨w.heap.size, 2, none⟩ = false := Bl.free HX5.out 2
            have xf3 : w5.frozen? ⟨w.heap.size, 3, none⟩ = false := Bl.free HX5.out 3
            have xf4 : w5.frozen? ⟨w.heap.size, 4, none⟩ = false := Bl.free HX5.out 4
            go_wp2_with fail
            go_roundw
            case rel =>
              refine ⟨j + 1, B5, d5, ss ++ [⟨30, x.id / 10000, num, m.day, x.id, m.oth, x.after, 0⟩], by omega, by go_num, set5_bl HX5.out _ _ _ _ _, HM5.out.far5 (by omega) _ _ _ _ _, HR5.out.far5 (by omega) _ _ _ _ _, ?_, ⟨by simp [HSS.out.1], ?_⟩, ?_, own5 HC5.out (fun g hg e => own_apart HC5.out HX5.out (by decide) (by rw [hg, e])) _ _ _ _ _, fun b' h1 h2 h3 h4 h5 => (heap_set5 (by omega) _ _ _ _ _).trans (HFX5.out b' h1 h2 h3 h4 h5), put5 HB5.out HN.out _ _ _ _ _, by have := HSZ5.out; simp; omega⟩
              · have h1 := HO5.out.far HX5.out (fun b hb => heap_set5 hb (.slice Hs.A Hs.n Hs.c) (.slice (some ⟨gq, 0, none⟩) qn qc) (.slice Hg.A Hg.n Hg.c) (.slice Hk.A Hk.n Hk.c) (.slice B5 (mn + j + 1) d5))
                simp only [List.append_assoc] at h1
                exact h1
              · rw [map_take_snoc cKey cs j (by rw [HCL.out]; exact hlt) HXJ.out, List.map_append, HSS.out.2]
                rfl
              · rcases HMV5.out with h | ⟨g, h1, h⟩
                · exact HMV.out.imp (fun e => h.trans e) (fun ⟨g, h1, e⟩ => ⟨g, h1, h.trans e⟩)
                · exact .inr ⟨g, by omega, h⟩
            case measure => simp [intOf]; omega
          · obtain rfl : cm = j := by omega
            have x0 : wr.cell? ⟨w.heap.size, 0, none⟩ = some (.slice Hs.A Hs.n Hs.c) := HX.out.c0
            have x1 : wr.cell? ⟨w.heap.size, 1, none⟩ = some (.slice (some ⟨gq, 0, none⟩) qn qc) := HX.out.c1
            have x2 : wr.cell? ⟨w.heap.size, 2, none⟩ = some (.slice Hg.A Hg.n Hg.c) := HX.out.c2
            have x3 : wr.cell? ⟨w.heap.size, 3, none⟩ = some (.slice Hk.A Hk.n Hk.c) := HX.out.c3
            have x4 : wr.cell? ⟨w.heap.size, 4, none⟩ = some (.slice mB (mn + cm) md) := HX.out.c4
            have r0 : wr.cell? ⟨w.heap.size + 1 + 1, 0, none⟩ = some (.slice none 0 0) := HR.out.c0
            have rf0 : wr.frozen? ⟨w.heap.size + 1 + 1, 0, none⟩ = false := HR.out.free 0
            have r1 : wr.cell? ⟨w.heap.size + 1 + 1, 1, none⟩ = some (.slice none 0 0) := HR.out.c1
            have rf1 : wr.frozen? ⟨w.heap.size + 1 + 1, 1, none⟩ = false := HR.out.free 1
            have r2 : wr.cell? ⟨w.heap.size + 1 + 1, 2, none⟩ = some (.slice none 0 0) := HR.out.c2
            have rf2 : wr.frozen? ⟨w.heap.size + 1 + 1, 2, none⟩ = false := HR.out.free 2
            have r3 : wr.cell? ⟨w.heap.size + 1 + 1, 3, none⟩ = some (.slice none 0 0) := HR.out.c3
            have rf3 : wr.frozen? ⟨w.heap.size + 1 + 1, 3, none⟩ = false := HR.out.free 3
            have r4 : wr.cell? ⟨w.heap.size + 1 + 1, 4, none⟩ = some (.slice none 0 0) := HR.out.c4
            have rf4 : wr.frozen? ⟨w.heap.size + 1 + 1, 4, none⟩ = false := HR.out.free 4
            have HAW : Hid (AwEx C m 0 { C with qs := C.qs.set I ⟨b.q, B, n', d, fs'⟩, sent := C.sent ++ ss }) := AwEx.good (I := I) (b := b) (by have := HQN.out; omega) HBI.out HOK.out rfl (by rw [HSS.out.2, List.take_of_length_le (by rw [HCL.out]; exact Nat.le_refl _)])
            have HIN : Hid (CInv (k + 1) { C with qs := C.qs.set I ⟨b.q, B, n', d, fs'⟩, sent := C.sent ++ ss }) := CInv.fact HI.out HK.out (b := ⟨b.q, B, n', d, fs'⟩) HOK.out.ok (by have := HOK.out.len; have := HBK.out.2; show fs'.length ≤ _; omega) (by have := HSS.out.1; have := HOK.out.few; have := HBK.out.2; have := HCL.out; omega)
            go_wp2
            refine bodyPost_ret (v := .tuple #[.agg #[.slice Hs.A Hs.n Hs.c, .slice (some ⟨gq, 0, none⟩) qn qc, .slice Hg.A Hg.n Hg.c, .slice Hk.A Hk.n Hk.c, .slice mB (mn + cm) md], .int .i64 0]) (by simp [results, Tryz.results43, go_sem, r0, r1, r2, r3, r4]) rfl ?_
            exact ⟨⟨Hs, ⟨some ⟨gq, 0, none⟩, qn, qc⟩, Hg, Hk, ⟨mB, mn + cm, md⟩⟩, { C with qs := C.qs.set I ⟨b.q, B, n', d, fs'⟩, sent := C.sent ++ ss }, 0, rfl, HO2.out.far HR.out (fun b hb => heap_set5 hb _ _ _ _ _), (fun g hg => HA.out g hg), HIN.out, rfl, rfl, (fun b' h1 h2 h3 h4 h5 => (heap_set5 (by omega) _ _ _ _ _).trans (HFX.out b' h1 h2 h3 h4 h5)), put5 HB.out (Nat.le_trans HN.out (by omega)) _ _ _ _ _, HAW.out⟩
end Go.Proofs.YtdbcbbiplkikcaaGreat

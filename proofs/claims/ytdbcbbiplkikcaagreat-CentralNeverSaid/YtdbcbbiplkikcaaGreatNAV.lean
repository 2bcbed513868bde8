/-
  Words for reserve and free: a guarantee is written, what is covered changes. No statement of the seat is proved here. No conditions.
  slices.IndexFunc at guarantees with the closure of central.guaranteeAt. No statement of the seat is proved here. Conditions: the number's box lies in the world.
  The contracts of central.movementOf, guaranteeAt and cover. No statement of the seat is proved here. Conditions: rows of the call's own, what is covered ascends; at most 1000 of them.
  The contract of central.coveredOf: the amount of the first reservation for a movement, or 0. No statement of the seat is proved here. Conditions: what is covered reads as pairs; at most 1000000 of them.
-/
import Derived.Test.YtdbcbbiplkikcaaGreatNAQ
import Derived.Test.YtdbcbbiplkikcaaGreatNAT
import Derived.Test.YtdbcbbiplkikcaaGreatNAU
import Derived.Test.YtdbcbbiplkikcaaGreatNAR
import Derived.Test.YtdbcbbiplkikcaaGreatNAN
namespace Go.Proofs.YtdbcbbiplkikcaaGreat
open Go.RowKit
set_option linter.unusedVariables false

theorem uAsc_snd {us : List (Int × Int)} {I : Nat} {x y : Int} (h : uAsc us) (hI : I < us.length) (he : us[I]!.1 = x) : uAsc (us.set I (x, y)) := by
  have hf : ∀ r : Nat, (us.set I (x, y))[r]!.1 = us[r]!.1 := fun r => by
    rw [get_setK us I r (x, y) hI]
    split
    · subst_vars; rfl
    · rfl
  intro r hr
  rw [hf, hf]
  exact h r (by simpa using hr)
theorem uAsc_ins {us : List (Int × Int)} {x : Int × Int} {I : Nat} (h : uAsc us) (h1 : ∀ q, q < I → us[q]!.1 < x.1) (h2 : ∀ q, I ≤ q → q < us.length → x.1 < us[q]!.1) : uAsc (us.take I ++ x :: us.drop I) := by
  have hp := uAsc_pair.1 h
  rw [uAsc_pair, List.pairwise_append, List.pairwise_cons]
  refine ⟨hp.take, ⟨fun a ha => ?_, hp.drop⟩, fun a ha b hb => ?_⟩
  · obtain ⟨k, k1, k2, rfl⟩ := u_mem_drop ha
    exact h2 k k1 k2
  · obtain ⟨k, k1, k2, rfl⟩ := u_mem_take ha
    rcases List.mem_cons.1 hb with rfl | hb
    · exact h1 k k1
    · obtain ⟨j, j1, j2, rfl⟩ := u_mem_drop hb
      have := List.pairwise_iff_getElem.1 hp k j k2 j2 (by omega)
      rwa [getElem!_pos us k k2, getElem!_pos us j j2]
theorem uAsc_del {us : List (Int × Int)} {I : Nat} (h : uAsc us) : uAsc (us.take I ++ us.drop (I + 1)) := by
  have hsub : (us.take I ++ us.drop (I + 1)).Sublist us := by
    have h1 : (us.drop (I + 1)).Sublist (us.drop I) := by
      have e : us.drop (I + 1) = (us.drop I).drop 1 := by simp
      rw [e]
      exact List.drop_sublist _ _
    have := (List.Sublist.refl (us.take I)).append h1
    rwa [List.take_append_drop] at this
  exact uAsc_pair.2 ((uAsc_pair.1 h).sublist hsub)
theorem bs_gtC {us : List (Int × Int)} {t : Int} {I : Nat} (ha : uAsc us) (h : ∀ q, I ≤ q → q < us.length → t ≤ us[q]!.1) (hf : ¬ (I < us.length ∧ us[I]!.1 = t)) : ∀ q, I ≤ q → q < us.length → t < us[q]!.1 := fun q h1 h2 => by
  have h3 := h q h1 h2
  rcases Nat.lt_or_ge I us.length with h4 | h4
  · have h6 := h I (Nat.le_refl _) h4
    have h7 : us[I]!.1 ≠ t := fun e => hf ⟨h4, e⟩
    rcases Nat.lt_or_ge I q with h8 | h8
    · have h9 := List.pairwise_iff_getElem.1 (uAsc_pair.1 ha) I q h4 h2 h8
      rw [← getElem!_pos us I h4, ← getElem!_pos us q h2] at h9
      omega
    · obtain rfl : I = q := by omega
      omega
  · omega
theorem getG {w : World} {N : Nat} {A : Option Addr} {n c : Nat} {xs : List Gb} (h : w.ownsRow N 30 4 (.slice A n c) n (flat encGu xs)) {I : Nat} (hI : I < n) : ∃ g b, A = some ⟨g, 0, none⟩ ∧ g < w.heap.size ∧ w.cell? ⟨g, I * 4, none⟩ = some (.int .i64 b.h.id) ∧ w.cell? ⟨g, I * 4 + 1, none⟩ = some (.int .i64 b.h.ref) ∧ w.cell? ⟨g, I * 4 + 2, none⟩ = some (.int .i64 b.h.lev) ∧ w.cell? ⟨g, I * 4 + 3, none⟩ = some (.slice b.A b.n b.c) ∧ Hid (xs[I]! = b) ∧ Hid (b ∈ xs) ∧ Hid (∀ o, w.frozen? ⟨g, o, none⟩ = false) := by
  obtain ⟨g, rfl⟩ := own_addr h (by omega)
  have hl := own_lenK encGu_len (by omega) h
  have hc : ∀ c, c < 4 → w.cell? ⟨g, I * 4 + c, none⟩ = some ((encGu xs[I]!)[c]!) := fun c hc => own_cellK encGu_len h (by omega) hc hl
  exact ⟨g, xs[I]!, rfl, own_lt h g rfl, hc 0 (by omega), hc 1 (by omega), hc 2 (by omega), hc 3 (by omega), rfl, (by show _ ∈ _; rw [getElem!_pos xs I (by omega)]; exact List.getElem_mem _), fun o => h.frozenAt o⟩
theorem cenO_guar {N : Nat} {w : World} {H : Hds} {C : Cen} {gg I : Nat} {q : Gh} {B : Option Addr} {n' d : Nat} {us' : List (Int × Int)} (h : CenO N w H C) (hA : H.g.A = some ⟨gg, 0, none⟩) (hI : I < C.gs.length) (ho : w.ownsRow N 32 2 (.slice B n' d) n' (flat enc2 us')) :
    CenO N ((((w.setCell ⟨gg, I * 4, none⟩ (.int .i64 q.id)).setCell ⟨gg, I * 4 + 1, none⟩ (.int .i64 q.ref)).setCell ⟨gg, I * 4 + 2, none⟩ (.int .i64 q.lev)).setCell ⟨gg, I * 4 + 3, none⟩ (.slice B n' d)) H { C with gs := C.gs.set I ⟨q, B, n', d, us'⟩ } := by
  obtain ⟨Hs, Hq, ⟨gA, gn, gc⟩, Hk, Hm⟩ := H
  obtain rfl : gA = some ⟨gg, 0, none⟩ := hA
  have hr := h.gs
  have h0 : w.ownsRow N 30 4 (.slice (some ⟨gg, 0, none⟩) gn gc) gn (flat encGu (C.gs.set I C.gs[I]!)) := by rw [set_selfK hI]; exact hr
  generalize C.gs[I]! = b at h0
  have h1 := own_setK2 (c := 0) (y := ⟨⟨q.id, b.h.ref, b.h.lev⟩, b.A, b.n, b.c, b.us⟩) (v := .int .i64 q.id) encGu_len h0 (by omega) hI rfl
  have h2 := own_setK2 (c := 1) (y := ⟨⟨q.id, q.ref, b.h.lev⟩, b.A, b.n, b.c, b.us⟩) (v := .int .i64 q.ref) encGu_len h1 (by omega) hI rfl
  have h3 := own_setK2 (c := 2) (y := ⟨q, b.A, b.n, b.c, b.us⟩) (v := .int .i64 q.lev) encGu_len h2 (by omega) hI rfl
  have h4 := own_setK2 (c := 3) (y := ⟨q, B, n', d, us'⟩) (v := .slice B n' d) encGu_len h3 (by omega) hI rfl
  refine h.gs' (fun b _ hb => heap_set4o (fun e => hb (by rw [e]; rfl)) _ _ _ _) h4 (fun x hx => ?_)
  have hf : ∀ (A : Option Addr) (m e : Nat) (ys : List Value), w.ownsRow N 32 2 (.slice A m e) m ys → ((((w.setCell ⟨gg, I * 4, none⟩ (.int .i64 q.id)).setCell ⟨gg, I * 4 + 1, none⟩ (.int .i64 q.ref)).setCell ⟨gg, I * 4 + 2, none⟩ (.int .i64 q.lev)).setCell ⟨gg, I * 4 + 3, none⟩ (.slice B n' d)).ownsRow N 32 2 (.slice A m e) m ys := fun A m e ys hh => own_of_block hh fun j hj => heap_set4o (fun e' => own_diff hh hr (by decide) j hj (by rw [e']; rfl)) _ _ _ _
  rcases mem_set_or hx with rfl | hx
  · exact hf _ _ _ _ ho
  · exact hf _ _ _ _ (h.uses x hx)
theorem CInv.guar {k : Nat} {C : Cen} (h : CInv k C) {I : Nat} {b : Gb} (hb : GOk b.h b.us) : CInv k { C with gs := C.gs.set I b } :=
  ⟨h.seen, h.sent, h.cov, h.asc, h.nq, by simpa using h.ng, h.books, fun x hx => by
    rcases mem_set_or hx with rfl | hx
    · exact hb
    · exact h.guars x hx⟩
theorem CInv.covd {k : Nat} {C : Cen} (h : CInv k C) {us : List (Int × Int)} (ha : uAsc us) (hl : us.length ≤ C.cov.length + 1) : CInv (k + 1) { C with cov := us } :=
  ⟨Nat.le_succ_of_le h.seen, by have := h.sent; simp only; omega, by have := h.cov; simp only; omega, ha, h.nq, h.ng, fun b hb => ⟨(h.books b hb).1, Nat.le_succ_of_le (h.books b hb).2⟩, h.guars⟩
theorem CInv.sent1 {k : Nat} {C : Cen} (h : CInv k C) (s : Snt) : CInv (k + 1) { C with sent := C.sent ++ [s] } :=
  ⟨Nat.le_succ_of_le h.seen, by have := h.sent; simp; omega, Nat.le_succ_of_le h.cov, h.asc, h.nq, h.ng, fun b hb => ⟨(h.books b hb).1, Nat.le_succ_of_le (h.books b hb).2⟩, h.guars⟩
theorem CInv.covsent {k : Nat} {C : Cen} (h : CInv k C) {us : List (Int × Int)} (ha : uAsc us) (hl : us.length ≤ C.cov.length + 1) (s : Snt) : CInv (k + 1) { C with cov := us, sent := C.sent ++ [s] } :=
  ⟨Nat.le_succ_of_le h.seen, by have := h.sent; simp; omega, by have := h.cov; simp only; omega, ha, h.nq, h.ng, fun b hb => ⟨(h.books b hb).1, Nat.le_succ_of_le (h.books b hb).2⟩, h.guars⟩
def CovRes (N : Nat) (w : World) (H : Hds) (C : Cen) (e : Ending) (w' : World) : Prop :=
  ∃ (B : Option Addr) (n' d : Nat) (us' : List (Int × Int)), e = .returned (.agg #[.slice H.s.A H.s.n H.s.c, .slice H.q.A H.q.n H.q.c, .slice H.g.A H.g.n H.g.c, .slice B n' d, .slice H.m.A H.m.n H.m.c]) ∧ CenO N w' { H with k := ⟨B, n', d⟩ } { C with cov := us' } ∧ uAsc us' ∧ us'.length ≤ C.cov.length + 1 ∧ RowKit.Below N w w' ∧ ((Value.slice B n' d).ownBlock = (Value.slice H.k.A H.k.n H.k.c).ownBlock ∨ ∃ g, w.heap.size ≤ g ∧ (Value.slice B n' d).ownBlock = some g) ∧ ∀ b, b < w.heap.size → some b ≠ (Value.slice H.k.A H.k.n H.k.c).ownBlock → w'.heap[b]? = w.heap[b]?
theorem CovApart.moved {N : Nat} {w : World} {H : Hds} {C : Cen} {B : Option Addr} {n' d : Nat} {us' : List (Int × Int)} (ha : CovApart H C) (hO : CenO N w H C) (h : (Value.slice B n' d).ownBlock = (Value.slice H.k.A H.k.n H.k.c).ownBlock ∨ ∃ g, w.heap.size ≤ g ∧ (Value.slice B n' d).ownBlock = some g) : CovApart { H with k := ⟨B, n', d⟩ } { C with cov := us' } := fun g hg b hb e => by
  rcases h with h | ⟨j, h1, h2⟩
  · exact ha g hg b hb (h.symm.trans e)
  · have h3 := own_lt (hO.uses g hg) b hb
    rw [show (Value.slice B n' d).ownBlock = some b from e] at h2
    injection h2 with h2
    omega
theorem CovApart.guar {H : Hds} {C : Cen} {I : Nat} {b : Gb} (ha : CovApart H C) (h : ∀ j, (Value.slice b.A b.n b.c).ownBlock = some j → (Value.slice H.k.A H.k.n H.k.c).ownBlock ≠ some j) : CovApart H { C with gs := C.gs.set I b } := fun g hg j hj => by
  rcases mem_set_or hg with rfl | hg
  · exact h j hj
  · exact ha g hg j hj
end Go.Proofs.YtdbcbbiplkikcaaGreat

namespace Go.Proofs.YtdbcbbiplkikcaaGreat
open Go.RowKit
set_option linter.unusedVariables false

set_option maxRecDepth 100000 in
set_option maxHeartbeats 2000000 in
theorem gat1_any (b : Gb) (g : Nat) (oth : Int) (w : World) (hg : g < w.heap.size) (h : w.cell? ⟨g, 0, none⟩ = some (.int .i64 oth)) :
    Calls Tryz.prog 115 #[.agg #[.int .i64 b.h.id, .int .i64 b.h.ref, .int .i64 b.h.lev, .slice b.A b.n b.c], .pointer (some ⟨g, 0, none⟩)] w (BRes w (b.h.id == oth)) := by
  have hx := Bl.new w 30 #[.int .i64 b.h.id, .int .i64 b.h.ref, .int .i64 b.h.lev, .slice b.A b.n b.c]
  have hb0 : RowKit.Below w.heap.size w (w.alloc (.cells #[.int .i64 b.h.id, .int .i64 b.h.ref, .int .i64 b.h.lev, .slice b.A b.n b.c] 30)) := (Below.refl _ _).alloc (Nat.le_refl _) _
  have h1 := (hb0.cell (p := ⟨g, 0, none⟩) hg).trans h
  clear h
  go_enter Tryz.func115, Tryz.ntmps115
  go_upto_region 1 with (fail)
  generalize w.alloc (.cells #[.int .i64 b.h.id, .int .i64 b.h.ref, .int .i64 b.h.lev, .slice b.A b.n b.c] 30) = W0 at *
  have c0 : W0.cell? ⟨w.heap.size, 0, none⟩ = some (.int .i64 b.h.id) := hx.cell 0
  go_wp2
  go_ret
  exact ⟨rfl, hb0⟩
set_option maxRecDepth 100000 in
set_option maxHeartbeats 4000000 in
theorem idxG_any (A : Option Addr) (n c : Nat) (bs : List Gb) (g : Nat) (oth : Int) (w : World) (h : Recs encGu 4 w A n bs) (hn : n ≤ 1000000) (hg : g < w.heap.size) (hc : w.cell? ⟨g, 0, none⟩ = some (.int .i64 oth)) :
    Calls Tryz.prog 114 #[.slice A n c, .func (.func 115) #[] #[.pointer (some ⟨g, 0, none⟩)]] w (IdxRes w n (fun j => bs[j]!.h.id) oth) := by
  have HS := Lib.hid h
  have HC : Hid (∀ (b : Gb) (w' : World), RowKit.Below w.heap.size w w' → Calls Tryz.prog 115 #[.agg #[.int .i64 b.h.id, .int .i64 b.h.ref, .int .i64 b.h.lev, .slice b.A b.n b.c], .pointer (some ⟨g, 0, none⟩)] w' (BRes w' (b.h.id == oth))) := fun b w' hb => gat1_any b g oth w' (Nat.lt_of_lt_of_le hg hb.size) ((hb.cell (p := ⟨g, 0, none⟩) hg).trans hc)
  clear h hg hc
  go_enter Tryz.func114, Tryz.ntmps114
  go_wp2_with fail
  go_loopw [8] (fun i wx => ∃ k : Nat, k ≤ n ∧ i = .int .i64 k ∧ Hid (∀ j, j < k → bs[j]!.h.id ≠ oth) ∧ Hid (RowKit.Below w.heap.size w wx)) (fun i _ => n - (intOf i).toNat)
  case atStart => exact ⟨0, Nat.zero_le _, rfl, fun j hj => by omega, Below.refl _ _⟩
  case round =>
    obtain ⟨k, hk, rfl, HA, HB⟩ := hrel
    by_cases hlt : k < n
    · obtain ⟨b, off, x, hA, hbl, a0, a1, a2, a3, HXX⟩ := (HS.out.below HB.out).getG hlt
      subst hA
      have hki : (k : Int) < n := by omega
      have HCX := Lib.hid (HC.out x wr HB.out)
      obtain ⟨r, hr⟩ : ∃ r, (x.h.id == oth) = r := ⟨_, rfl⟩
      have HR := Lib.hid hr
      rw [hr] at HCX
      clear hr hbl
      go_wp2_with fail
      refine HCX.out.mono ?_
      rintro e w1 ⟨rfl, hb1⟩
      have HB1 := Lib.hid (HB.out.trans (hb1.mono HB.out.size))
      clear a0 a1 a2 a3 hb1 HB HCX
      cases r
      case true =>
        have E : Hid (bs[k]!.h.id = oth) := by show _ = _; rw [HXX.out]; simpa using HR.out
        go_wp2
        go_ret
        exact ⟨.inl ⟨k, rfl, hlt, E.out⟩, HB1.out⟩
      have HA2 : Hid (∀ j, j < k + 1 → bs[j]!.h.id ≠ oth) := fun j hj => by
        by_cases e : j = k
        · subst e; rw [HXX.out]; simpa using HR.out
        · exact HA.out j (by omega)
      go_wp2_with fail
      go_roundw
      case rel => exact ⟨k + 1, by omega, by go_num, HA2, HB1⟩
      case measure => simp [intOf]; omega
    · obtain rfl : n = k := by omega
      go_wp2
      go_ret
      exact ⟨.inr ⟨rfl, HA.out⟩, HB.out⟩
end Go.Proofs.YtdbcbbiplkikcaaGreat

namespace Go.Proofs.YtdbcbbiplkikcaaGreat
open Go.RowKit
set_option linter.unusedVariables false

set_option maxHeartbeats 1000000 in
theorem mov37_any (a b : Int) (w : World) (ha : -1000000000 ≤ a ∧ a ≤ 1000000000) (hb : -1000000000000000 ≤ b ∧ b ≤ 1000000000000000) :
    Calls Tryz.prog 78 #[.int .i64 a, .int .i64 b] w fun e w' => e = .returned (.int .i64 (100000 * a + b)) ∧ w' = w := by
  have u1 : IntKind.i64.wrap (100000 * a) = 100000 * a := IntWalk.i64_in _ (by omega)
  have u2 : IntKind.i64.wrap (100000 * a + b) = 100000 * a + b := IntWalk.i64_in _ (by omega)
  go_enter Tryz.func78, Tryz.ntmps78
  go_wp2
  go_ret
  exact ⟨rfl, rfl⟩

set_option maxRecDepth 100000 in
set_option maxHeartbeats 4000000 in
theorem guarAt_any (H : Hds) (gs : List Gb) (id : Int) (w : World) (h : Recs encGu 4 w H.g.A H.g.n gs) (hn : H.g.n ≤ 1000000) :
    Calls Tryz.prog 80 #[.agg #[.slice H.s.A H.s.n H.s.c, .slice H.q.A H.q.n H.q.c, .slice H.g.A H.g.n H.g.c, .slice H.k.A H.k.n H.k.c, .slice H.m.A H.m.n H.m.c], .int .i64 id] w (IdxRes w H.g.n (fun j => gs[j]!.h.id) id) := by
  obtain ⟨Hs, Hq, Hg, Hk, Hm⟩ := H
  obtain ⟨W0, hW0⟩ : ∃ W, W = (w.alloc (.cells #[.slice Hs.A Hs.n Hs.c, .slice Hq.A Hq.n Hq.c, .slice Hg.A Hg.n Hg.c, .slice Hk.A Hk.n Hk.c, .slice Hm.A Hm.n Hm.c] 37)).alloc (.cells #[.int .i64 id] 3) := ⟨_, rfl⟩
  have hx : Bl W0 w.heap.size 37 #[.slice Hs.A Hs.n Hs.c, .slice Hq.A Hq.n Hq.c, .slice Hg.A Hg.n Hg.c, .slice Hk.A Hk.n Hk.c, .slice Hm.A Hm.n Hm.c] := by rw [hW0]; exact (Bl.new w _ _).alloc _
  have hz : Bl W0 (w.heap.size + 1) 3 #[.int .i64 id] := by rw [hW0]; have := Bl.new (w.alloc (.cells #[.slice Hs.A Hs.n Hs.c, .slice Hq.A Hq.n Hq.c, .slice Hg.A Hg.n Hg.c, .slice Hk.A Hk.n Hk.c, .slice Hm.A Hm.n Hm.c] 37)) 3 #[.int .i64 id]; simpa using this
  have hb0 : RowKit.Below w.heap.size w W0 := by rw [hW0]; exact ((Below.refl _ _).alloc (Nat.le_refl _) _).alloc (by simp) _
  have HCL := Lib.hid (idxG_any Hg.A Hg.n Hg.c gs (w.heap.size + 1) id W0 (h.below hb0) hn hz.lt (hz.cell 0))
  have HB0 := Lib.hid hb0
  have HX0 := Lib.hid hx
  have hmf : ∀ (fn : Fn) (first cap : Array Value) (w : World), (Instr.makeFunc fn first cap).run Tryz.prog w = .ok (.func fn first cap) w := fun _ _ _ _ => rfl
  clear h hx hz hb0
  go_enter Tryz.func80, Tryz.ntmps80
  go_upto_region 1 with (fail)
  rw [← hW0]
  clear hW0
  have x2 : W0.cell? ⟨w.heap.size, 2, none⟩ = some (.slice Hg.A Hg.n Hg.c) := HX0.out.c2
  go_wp2_with fail
  refine HCL.out.mono ?_
  rintro e w1 ⟨hor, hb1⟩
  have HB1 : Hid (RowKit.Below w.heap.size w w1) := HB0.out.trans (hb1.mono HB0.out.size)
  rcases hor with ⟨I, rfl, h1, h2⟩ | ⟨rfl, h1⟩
  · have H1 := Lib.hid h1
    have H2 := Lib.hid h2
    clear h1 h2 hb1
    go_wp2
    go_ret
    exact ⟨.inl ⟨I, rfl, H1.out, H2.out⟩, HB1.out⟩
  · have H1 := Lib.hid h1
    clear h1 hb1
    go_wp2
    go_ret
    exact ⟨.inr ⟨rfl, H1.out⟩, HB1.out⟩

set_option maxRecDepth 100000 in
set_option maxHeartbeats 8000000 in
theorem cover37_any (N : Nat) (H : Hds) (C : Cen) (mov amt : Int) (w : World) (hO : CenO N w H C) (ha : CovApart H C) (hN : N ≤ w.heap.size) (hasc : uAsc C.cov) (hkn : H.k.n ≤ 1000) :
    Calls Tryz.prog 82 #[.agg #[.slice H.s.A H.s.n H.s.c, .slice H.q.A H.q.n H.q.c, .slice H.g.A H.g.n H.g.c, .slice H.k.A H.k.n H.k.c, .slice H.m.A H.m.n H.m.c], .int .i64 mov, .int .i64 amt] w (CovRes N w H C) := by
  obtain ⟨Hs, Hq, Hg, ⟨kA, kn, kc⟩, Hm⟩ := H
  simp only at hkn
  have HO := Lib.hid hO
  have HA := Lib.hid ha
  have HN := Lib.hid hN
  have HAS := Lib.hid hasc
  have HKN : Hid (C.cov.length = kn) := own_lenK enc2_len (by omega) hO.cov
  obtain ⟨W0, hW0⟩ : ∃ W, W = (w.alloc (.cells #[.slice Hs.A Hs.n Hs.c, .slice Hq.A Hq.n Hq.c, .slice Hg.A Hg.n Hg.c, .slice kA kn kc, .slice Hm.A Hm.n Hm.c] 37)).alloc (.cells #[.slice none 0 0, .slice none 0 0, .slice none 0 0, .slice none 0 0, .slice none 0 0] 37) := ⟨_, rfl⟩
  have hx : Bl W0 w.heap.size 37 #[.slice Hs.A Hs.n Hs.c, .slice Hq.A Hq.n Hq.c, .slice Hg.A Hg.n Hg.c, .slice kA kn kc, .slice Hm.A Hm.n Hm.c] := by rw [hW0]; exact (Bl.new w _ _).alloc _
  have hr : Bl W0 (w.heap.size + 1) 37 #[.slice none 0 0, .slice none 0 0, .slice none 0 0, .slice none 0 0, .slice none 0 0] := by rw [hW0]; have := Bl.new (w.alloc (.cells #[.slice Hs.A Hs.n Hs.c, .slice Hq.A Hq.n Hq.c, .slice Hg.A Hg.n Hg.c, .slice kA kn kc, .slice Hm.A Hm.n Hm.c] 37)) 37 #[.slice none 0 0, .slice none 0 0, .slice none 0 0, .slice none 0 0, .slice none 0 0]; simpa using this
  have hb0 : RowKit.Below w.heap.size w W0 := by rw [hW0]; exact ((Below.refl _ _).alloc (Nat.le_refl _) _).alloc (by simp) _
  have HO0 := Lib.hid (hO.below hb0)
  have HCL := Lib.hid (covering37_any ⟨Hs, Hq, Hg, ⟨kA, kn, kc⟩, Hm⟩ C.cov mov W0 HO0.out.at_.cov.recs (by simp only; omega) hasc)
  have HX0 := Lib.hid hx
  have HR0 := Lib.hid hr
  have HB0 := Lib.hid hb0
  clear hO ha hN hasc hx hr hb0
  go_enter Tryz.func82, Tryz.ntmps82
  go_upto_region 1 with (fail)
  rw [← hW0]
  clear hW0
  have x0 : W0.cell? ⟨w.heap.size, 0, none⟩ = some (.slice Hs.A Hs.n Hs.c) := HX0.out.c0
  have x1 : W0.cell? ⟨w.heap.size, 1, none⟩ = some (.slice Hq.A Hq.n Hq.c) := HX0.out.c1
  have x2 : W0.cell? ⟨w.heap.size, 2, none⟩ = some (.slice Hg.A Hg.n Hg.c) := HX0.out.c2
  have x3 : W0.cell? ⟨w.heap.size, 3, none⟩ = some (.slice kA kn kc) := HX0.out.c3
  have x4 : W0.cell? ⟨w.heap.size, 4, none⟩ = some (.slice Hm.A Hm.n Hm.c) := HX0.out.c4
  go_wp2_with fail
  refine HCL.out.mono ?_
  rintro e w1 ⟨I, b, rfl, h1, h2, h3, h4, hb1⟩
  have HX := Lib.hid (HX0.out.keep hb1)
  have HR := Lib.hid (HR0.out.keep hb1)
  have HB : Hid (RowKit.Below w.heap.size w w1) := HB0.out.trans (hb1.mono HB0.out.size)
  have HO1 := Lib.hid (HO0.out.below hb1)
  have H1 := Lib.hid h1
  have H2 := Lib.hid h2
  have H3 := Lib.hid h3
  have H4 := Lib.hid h4
  have hIk : I ≤ kn := by rw [← HKN.out]; exact h1
  have hs1 : w.heap.size + 1 < w1.heap.size := HR.out.lt
  clear x0 x1 x2 x3 x4 HX0 HR0 HB0 HO0 HCL hb1 h1 h2 h3 h4
  cases b
  case true =>
    obtain ⟨hI, hv⟩ := H4.out.1 rfl
    have hIn : I < kn := by have := HKN.out; omega
    obtain ⟨gk, hA⟩ := own_addr HO1.out.cov (by simp only; omega)
    simp only at hA
    subst hA
    have hgw : gk < w.heap.size := own_lt HO.out.cov gk rfl
    have hIi : (I : Int) < kn := by omega
    have hIz : (0 : Int) ≤ (I : Int) := by omega
    have HI := Lib.hid hI
    have HV := Lib.hid hv
    have x3 : w1.cell? ⟨w.heap.size, 3, none⟩ = some (.slice (some ⟨gk, 0, none⟩) kn kc) := HX.out.c3
    have k1 : w1.cell? ⟨gk, I * 2 + 1, none⟩ = some ((enc2 C.cov[I]!)[1]!) := own_cellK enc2_len HO1.out.cov (i := I) (c := 1) hI (by omega) HKN.out
    have kf : w1.frozen? ⟨gk, I * 2 + 1, none⟩ = false := HO1.out.cov.frozenAt _
    have HOW : Hid ((w1.setCell ⟨gk, I * 2 + 1, none⟩ (.int .i64 amt)).ownsRow N 32 2 (.slice (some ⟨gk, 0, none⟩) kn kc) kn (flat enc2 (C.cov.set I (mov, amt)))) := own_setK (c := 1) (y := (mov, amt)) enc2_len HO1.out.cov (by omega) hI (by show [Value.int .i64 mov, .int .i64 amt] = [Value.int .i64 C.cov[I]!.1, .int .i64 amt]; rw [hv])
    have hne0 : w.heap.size ≠ gk := by omega
    have hne1 : w.heap.size + 1 ≠ gk := by omega
    have HHP : Hid (∀ j, j ≠ gk → (w1.setCell ⟨gk, I * 2 + 1, none⟩ (.int .i64 amt)).heap[j]? = w1.heap[j]?) := fun j hj => Below.heap_setCell _ _ _ j hj
    have HXB : Hid (Bl (w1.setCell ⟨gk, I * 2 + 1, none⟩ (.int .i64 amt)) w.heap.size 37 #[.slice Hs.A Hs.n Hs.c, .slice Hq.A Hq.n Hq.c, .slice Hg.A Hg.n Hg.c, .slice (some ⟨gk, 0, none⟩) kn kc, .slice Hm.A Hm.n Hm.c]) := (HHP.out _ hne0).trans HX.out
    have HRB : Hid (Bl (w1.setCell ⟨gk, I * 2 + 1, none⟩ (.int .i64 amt)) (w.heap.size + 1) 37 #[.slice none 0 0, .slice none 0 0, .slice none 0 0, .slice none 0 0, .slice none 0 0]) := (HHP.out _ hne1).trans HR.out
    have HOB : Hid (CenO N (w1.setCell ⟨gk, I * 2 + 1, none⟩ (.int .i64 amt)) ⟨Hs, Hq, Hg, ⟨some ⟨gk, 0, none⟩, kn, kc⟩, Hm⟩ { C with cov := C.cov.set I (mov, amt) }) := HO1.out.cov' (B := some ⟨gk, 0, none⟩) (n := kn) (d := kc) HA.out (fun j _ hj => HHP.out j (fun e => hj (by rw [e]; rfl))) HOW.out
    have HBB : Hid (RowKit.Below N w (w1.setCell ⟨gk, I * 2 + 1, none⟩ (.int .i64 amt))) := (HB.out.mono HN.out).setCell (p := ⟨gk, I * 2 + 1, none⟩) (own_base HO1.out.cov gk rfl) _
    have HFB : Hid (∀ b, b < w.heap.size → b ≠ gk → (w1.setCell ⟨gk, I * 2 + 1, none⟩ (.int .i64 amt)).heap[b]? = w.heap[b]?) := fun b h1 h2 => (HHP.out b h2).trans (HB.out.block b h1)
    clear hI hv
    go_upto_region 5 with (fail)
    clear x3 k1 kf HX HR HB HO1 HOW HHP
    generalize w1.setCell ⟨gk, I * 2 + 1, none⟩ (.int .i64 amt) = W5 at *
    have x0 : W5.cell? ⟨w.heap.size, 0, none⟩ = some (.slice Hs.A Hs.n Hs.c) := HXB.out.c0
    have x1 : W5.cell? ⟨w.heap.size, 1, none⟩ = some (.slice Hq.A Hq.n Hq.c) := HXB.out.c1
    have x2 : W5.cell? ⟨w.heap.size, 2, none⟩ = some (.slice Hg.A Hg.n Hg.c) := HXB.out.c2
    have x3 : W5.cell? ⟨w.heap.size, 3, none⟩ = some (.slice (some ⟨gk, 0, none⟩) kn kc) := HXB.out.c3
    have x4 : W5.cell? ⟨w.heap.size, 4, none⟩ = some (.slice Hm.A Hm.n Hm.c) := HXB.out.c4
    have r0 : W5.cell? ⟨w.heap.size + 1, 0, none⟩ = some (.slice none 0 0) := HRB.out.c0
    have rf0 : W5.frozen? ⟨w.heap.size + 1, 0, none⟩ = false := HRB.out.free 0
    have r1 : W5.cell? ⟨w.heap.size + 1, 1, none⟩ = some (.slice none 0 0) := HRB.out.c1
    have rf1 : W5.frozen? ⟨w.heap.size + 1, 1, none⟩ = false := HRB.out.free 1
    have r2 : W5.cell? ⟨w.heap.size + 1, 2, none⟩ = some (.slice none 0 0) := HRB.out.c2
    have rf2 : W5.frozen? ⟨w.heap.size + 1, 2, none⟩ = false := HRB.out.free 2
    have r3 : W5.cell? ⟨w.heap.size + 1, 3, none⟩ = some (.slice none 0 0) := HRB.out.c3
    have rf3 : W5.frozen? ⟨w.heap.size + 1, 3, none⟩ = false := HRB.out.free 3
    have r4 : W5.cell? ⟨w.heap.size + 1, 4, none⟩ = some (.slice none 0 0) := HRB.out.c4
    have rf4 : W5.frozen? ⟨w.heap.size + 1, 4, none⟩ = false := HRB.out.free 4
    go_wp2
    refine bodyPost_ret (v := .agg #[.slice Hs.A Hs.n Hs.c, .slice Hq.A Hq.n Hq.c, .slice Hg.A Hg.n Hg.c, .slice (some ⟨gk, 0, none⟩) kn kc, .slice Hm.A Hm.n Hm.c]) (by simp [results, Tryz.results82, go_sem, r0, r1, r2, r3, r4]) rfl ?_
    exact ⟨some ⟨gk, 0, none⟩, kn, kc, C.cov.set I (mov, amt), rfl, HOB.out.far HRB.out (fun b hb => heap_set5 hb _ _ _ _ _), uAsc_snd HAS.out HI.out HV.out, by simp, put5 HBB.out (Nat.le_trans HN.out (by omega)) _ _ _ _ _, .inl rfl, fun b h1 h2 => (heap_set5 (by omega) _ _ _ _ _).trans (HFB.out b h1 (fun e => h2 (by rw [e]; rfl)))⟩
  case false =>
    have hba : RowKit.Below w1.heap.size w1 (w1.alloc (.cells #[.int .i64 mov, .int .i64 amt] 32)) := (Below.refl _ _).alloc (Nat.le_refl _) _
    have HX2 := Lib.hid (HX.out.keep hba)
    have HR2 := Lib.hid (HR.out.keep hba)
    have HB2 : Hid (RowKit.Below w.heap.size w (w1.alloc (.cells #[.int .i64 mov, .int .i64 amt] 32))) := HB.out.trans (hba.mono HB.out.size)
    have HO2 := Lib.hid (HO1.out.below hba)
    have HIC := Lib.hid (insert_anyU N kA kn kc I C.cov (mov, amt) w1.heap.size (w1.alloc (.cells #[.int .i64 mov, .int .i64 amt] 32)) HO2.out.cov HKN.out (Bl.new w1 32 (enc2 (mov, amt)).toArray) (fun a e => by have h1 := own_lt HO1.out.cov a.block (by simp only; rw [e]; rfl); omega) hIk hkn (Nat.le_trans HN.out HB2.out.size))
    have x3 : w1.cell? ⟨w.heap.size, 3, none⟩ = some (.slice kA kn kc) := HX.out.c3
    have hI0 : (0 : Int) ≤ (I : Int) := by omega
    go_wp2_with fail
    refine HIC.out.mono ?_
    rintro e w3 ⟨B, d, rfl, ho3, hb3, hm3, hk3⟩
    have HX3 : Hid (Bl w3 w.heap.size 37 #[.slice Hs.A Hs.n Hs.c, .slice Hq.A Hq.n Hq.c, .slice Hg.A Hg.n Hg.c, .slice kA kn kc, .slice Hm.A Hm.n Hm.c]) := (hk3 _ HX2.out.lt (fun e => own_apart HO2.out.cov HX2.out (by decide) e)).trans HX2.out
    have HR3 : Hid (Bl w3 (w.heap.size + 1) 37 #[.slice none 0 0, .slice none 0 0, .slice none 0 0, .slice none 0 0, .slice none 0 0]) := (hk3 _ HR2.out.lt (fun e => own_apart HO2.out.cov HR2.out (by decide) e)).trans HR2.out
    have HO3 : Hid (CenO N w3 ⟨Hs, Hq, Hg, ⟨B, kn + 1, d⟩, Hm⟩ { C with cov := C.cov.take I ++ (mov, amt) :: C.cov.drop I }) := HO2.out.cov' (B := B) (n := kn + 1) (d := d) HA.out (fun j hlt hne => hk3 j hlt hne) ho3
    have HB3 : Hid (RowKit.Below N w w3) := (HB2.out.mono HN.out).trans hb3
    have HM3 : Hid ((Value.slice B (kn + 1) d).ownBlock = (Value.slice kA kn kc).ownBlock ∨ ∃ g, w.heap.size ≤ g ∧ (Value.slice B (kn + 1) d).ownBlock = some g) := hm3.imp id (fun ⟨g, h5, h6⟩ => ⟨g, Nat.le_trans HB2.out.size h5, h6⟩)
    have HF3 : Hid (∀ b, b < w.heap.size → some b ≠ (Value.slice kA kn kc).ownBlock → w3.heap[b]? = w.heap[b]?) := fun b h5 h6 => (hk3 b (Nat.lt_of_lt_of_le h5 HB2.out.size) h6).trans (HB2.out.block b h5)
    clear x3 ho3 hb3 hm3 hk3 HIC HX HR HB HO1 HX2 HR2 HB2 HO2 hba
    have x3 : w3.cell? ⟨w.heap.size, 3, none⟩ = some (.slice kA kn kc) := HX3.out.c3
    have xf : w3.frozen? ⟨w.heap.size, 3, none⟩ = false := HX3.out.free 3
    have HX4 : Hid (Bl (w3.setCell ⟨w.heap.size, 3, none⟩ (.slice B (kn + 1) d)) w.heap.size 37 #[.slice Hs.A Hs.n Hs.c, .slice Hq.A Hq.n Hq.c, .slice Hg.A Hg.n Hg.c, .slice B (kn + 1) d, .slice Hm.A Hm.n Hm.c]) := by
      have := HX3.out.put 3 (.slice B (kn + 1) d)
      show Bl _ _ _ _
      simpa using this
    have HR4 : Hid (Bl (w3.setCell ⟨w.heap.size, 3, none⟩ (.slice B (kn + 1) d)) (w.heap.size + 1) 37 #[.slice none 0 0, .slice none 0 0, .slice none 0 0, .slice none 0 0, .slice none 0 0]) := HR3.out.far (p := ⟨w.heap.size, 3, none⟩) (by simp) _
    have HO4 := Lib.hid (HO3.out.setC HX3.out 3 (.slice B (kn + 1) d))
    have HB4 : Hid (RowKit.Below N w (w3.setCell ⟨w.heap.size, 3, none⟩ (.slice B (kn + 1) d))) := HB3.out.setCell (p := ⟨w.heap.size, 3, none⟩) HN.out _
    have HF4 : Hid (∀ b, b < w.heap.size → some b ≠ (Value.slice kA kn kc).ownBlock → (w3.setCell ⟨w.heap.size, 3, none⟩ (.slice B (kn + 1) d)).heap[b]? = w.heap[b]?) := fun b h5 h6 => (Below.heap_setCell _ _ _ b (Nat.ne_of_lt h5)).trans (HF3.out b h5 h6)
    go_upto_region 5 with (fail)
    clear x3 xf HX3 HR3 HO3 HB3 HF3
    generalize w3.setCell ⟨w.heap.size, 3, none⟩ (.slice B (kn + 1) d) = W5 at *
    have x0 : W5.cell? ⟨w.heap.size, 0, none⟩ = some (.slice Hs.A Hs.n Hs.c) := HX4.out.c0
    have x1 : W5.cell? ⟨w.heap.size, 1, none⟩ = some (.slice Hq.A Hq.n Hq.c) := HX4.out.c1
    have x2 : W5.cell? ⟨w.heap.size, 2, none⟩ = some (.slice Hg.A Hg.n Hg.c) := HX4.out.c2
    have x3 : W5.cell? ⟨w.heap.size, 3, none⟩ = some (.slice B (kn + 1) d) := HX4.out.c3
    have x4 : W5.cell? ⟨w.heap.size, 4, none⟩ = some (.slice Hm.A Hm.n Hm.c) := HX4.out.c4
    have r0 : W5.cell? ⟨w.heap.size + 1, 0, none⟩ = some (.slice none 0 0) := HR4.out.c0
    have rf0 : W5.frozen? ⟨w.heap.size + 1, 0, none⟩ = false := HR4.out.free 0
    have r1 : W5.cell? ⟨w.heap.size + 1, 1, none⟩ = some (.slice none 0 0) := HR4.out.c1
    have rf1 : W5.frozen? ⟨w.heap.size + 1, 1, none⟩ = false := HR4.out.free 1
    have r2 : W5.cell? ⟨w.heap.size + 1, 2, none⟩ = some (.slice none 0 0) := HR4.out.c2
    have rf2 : W5.frozen? ⟨w.heap.size + 1, 2, none⟩ = false := HR4.out.free 2
    have r3 : W5.cell? ⟨w.heap.size + 1, 3, none⟩ = some (.slice none 0 0) := HR4.out.c3
    have rf3 : W5.frozen? ⟨w.heap.size + 1, 3, none⟩ = false := HR4.out.free 3
    have r4 : W5.cell? ⟨w.heap.size + 1, 4, none⟩ = some (.slice none 0 0) := HR4.out.c4
    have rf4 : W5.frozen? ⟨w.heap.size + 1, 4, none⟩ = false := HR4.out.free 4
    go_wp2
    refine bodyPost_ret (v := .agg #[.slice Hs.A Hs.n Hs.c, .slice Hq.A Hq.n Hq.c, .slice Hg.A Hg.n Hg.c, .slice B (kn + 1) d, .slice Hm.A Hm.n Hm.c]) (by simp [results, Tryz.results82, go_sem, r0, r1, r2, r3, r4]) rfl ?_
    exact ⟨B, kn + 1, d, C.cov.take I ++ (mov, amt) :: C.cov.drop I, rfl, HO4.out.far HR4.out (fun b hb => heap_set5 hb _ _ _ _ _), uAsc_ins HAS.out H2.out (bs_gtC HAS.out H3.out (fun h => by have := H4.out.2 h; cases this)), by simp; omega, put5 HB4.out (Nat.le_trans HN.out (by omega)) _ _ _ _ _, HM3.out, fun b h1 h2 => (heap_set5 (by omega) _ _ _ _ _).trans (HF4.out b h1 h2)⟩
end Go.Proofs.YtdbcbbiplkikcaaGreat

namespace Go.Proofs.YtdbcbbiplkikcaaGreat
open Go.RowKit
set_option linter.unusedVariables false

set_option maxRecDepth 100000 in
set_option maxHeartbeats 4000000 in
theorem coveredOf_any (H : Hds) (us : List (Int × Int)) (mov : Int) (w : World) (h : Recs enc2 2 w H.k.A H.k.n us) (hn : H.k.n ≤ 1000000) :
    Calls Tryz.prog 79 #[.agg #[.slice H.s.A H.s.n H.s.c, .slice H.q.A H.q.n H.q.c, .slice H.g.A H.g.n H.g.c, .slice H.k.A H.k.n H.k.c, .slice H.m.A H.m.n H.m.c], .int .i64 mov] w (AnyInt w) := by
  obtain ⟨Hs, Hq, Hg, ⟨kA, kn, kc⟩, Hm⟩ := H
  simp only at h hn
  have HS := Lib.hid h
  have hx := Bl.new w 37 #[.slice Hs.A Hs.n Hs.c, .slice Hq.A Hq.n Hq.c, .slice Hg.A Hg.n Hg.c, .slice kA kn kc, .slice Hm.A Hm.n Hm.c]
  have hb0 : RowKit.Below w.heap.size w (w.alloc (.cells #[.slice Hs.A Hs.n Hs.c, .slice Hq.A Hq.n Hq.c, .slice Hg.A Hg.n Hg.c, .slice kA kn kc, .slice Hm.A Hm.n Hm.c] 37)) := (Below.refl _ _).alloc (Nat.le_refl _) _
  clear h
  go_enter Tryz.func79, Tryz.ntmps79
  go_upto_region 1 with (fail)
  generalize w.alloc (.cells #[.slice Hs.A Hs.n Hs.c, .slice Hq.A Hq.n Hq.c, .slice Hg.A Hg.n Hg.c, .slice kA kn kc, .slice Hm.A Hm.n Hm.c] 37) = W0 at *
  have x3 : W0.cell? ⟨w.heap.size, 3, none⟩ = some (.slice kA kn kc) := hx.c3
  go_wp2_with fail
  go_loopw [10] (fun i wx => ∃ k : Nat, k ≤ kn ∧ i = .int .i64 k ∧ Hid (RowKit.Below w.heap.size w wx)) (fun i _ => kn - (intOf i).toNat)
  case atStart => exact ⟨0, Nat.zero_le _, rfl, hb0⟩
  case round =>
    clear hb0 x3 hx
    obtain ⟨k, hk, rfl, HB⟩ := hrel
    by_cases hlt : k < kn
    · obtain ⟨b, off, x, y, hA, hbl, c0, c1, _⟩ := (HS.out.below HB.out).get2 hlt
      subst hA
      have hki : (k : Int) < kn := by omega
      have hy := Bl.new wr 32 #[.int .i64 x, .int .i64 y]
      have HB4 : Hid (RowKit.Below w.heap.size w (wr.alloc (.cells #[.int .i64 x, .int .i64 y] 32))) := HB.out.alloc HB.out.size _
      go_upto_region 4 with (fail)
      clear c0 c1 hbl HB
      generalize wr.alloc (.cells #[.int .i64 x, .int .i64 y] 32) = W4 at *
      generalize wr.heap.size = g4 at *
      have y0 : W4.cell? ⟨g4, 0, none⟩ = some (.int .i64 x) := hy.cell 0
      have y1 : W4.cell? ⟨g4, 1, none⟩ = some (.int .i64 y) := hy.cell 1
      by_cases g : x = mov
      · have b1 : (x == mov) = true := by simpa using g
        clear g
        go_wp2
        go_ret
        exact ⟨⟨_, rfl⟩, HB4.out⟩
      · have b1 : (x == mov) = false := by simpa using g
        clear g
        go_wp2_with fail
        go_roundw
        case rel => exact ⟨k + 1, by omega, by go_num, HB4⟩
        case measure => simp [intOf]; omega
    · obtain rfl : kn = k := by omega
      go_wp2
      go_ret
      exact ⟨⟨_, rfl⟩, HB.out⟩
end Go.Proofs.YtdbcbbiplkikcaaGreat

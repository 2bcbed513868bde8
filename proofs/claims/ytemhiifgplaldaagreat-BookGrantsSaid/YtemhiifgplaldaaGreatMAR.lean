/-
  The contract of the reference's Days: the walk. No statement of the seat is proved here. Conditions: as typed.
  The contracts of the reference's ValidFact and ValidBook. No statement of the seat is proved here. Conditions: the list's length fits an int.
-/
import Derived.Test.YtemhiifgplaldaaGreatMAQ
import Derived.Test.YtemhiifgplaldaaGreatMAI
import Derived.Deep.RegionHeld3
namespace Go.Proofs.YtemhiifgplaldaaGreat
open Go.RowKit
set_option linter.unusedVariables false

/-- What the loop of the days keeps in memory. -/
structure DSt (w wx : World) (q : Qt) (A : Option Addr) (n c : Nat) (Ba : Option Addr) (ma da : Nat) (os : List Ak) (B : Option Addr) (m d : Nat) (ds : List DayR) : Prop where
  out : wx.ownsRow w.heap.size 73 4 (.slice B m d) m (flat encD ds)
  mem : MemD wx w.heap.size ds
  os : wx.ownsRow w.heap.size 71 3 (.slice Ba ma da) ma (flat encA os)
  box : Bl wx w.heap.size 27 #[.int .i64 q.id, .int .i64 q.vol, .int .i64 q.fr, .int .i64 q.tod, .slice A n c]
  below : RowKit.Below w.heap.size w wx
section
variable {w wx : World} {q : Qt} {A : Option Addr} {n c : Nat} {Ba : Option Addr} {ma da : Nat} {os : List Ak} {B : Option Addr} {m d : Nat} {ds : List DayR}
theorem DSt.step {w' : World} (h : DSt w wx q A n c Ba ma da os B m d ds) (hb : RowKit.Below wx.heap.size wx w') : DSt w w' q A n c Ba ma da os B m d ds :=
  ⟨own_below h.out hb, h.mem.below hb, own_below h.os hb, h.box.keep hb, h.below.trans (hb.mono h.below.size)⟩
theorem DSt.alloc (h : DSt w wx q A n c Ba ma da os B m d ds) (o : Obj) : DSt w (wx.alloc o) q A n c Ba ma da os B m d ds := h.step ((Below.refl _ _).alloc (Nat.le_refl _) _)
theorem DSt.drew (h : DSt w wx q A n c Ba ma da os B m d ds) : DSt w wx.drew q A n c Ba ma da os B m d ds := h.step (Below.refl _ _).drew
theorem DSt.grown {w' : World} {nr : Nat} {v : Value} {xs : List Value} (h : DSt w wx q A n c Ba ma da os B m d ds) (hr : wx.ownsRow w.heap.size 90 2 v nr xs) (hg : wx.grownBy w' v.ownBlock) : DSt w w' q A n c Ba ma da os B m d ds :=
  ⟨own_grown h.out hr (by decide) hg, h.mem.grown hr (by decide) hg, own_grown h.os hr (by decide) hg, (hg.block _ h.box.lt (own_apart hr h.box (by decide))).trans h.box, h.below.grown hg h.below.size fun k hk => own_base hr k hk⟩
theorem DSt.set {g : Nat} {cs : Array Value} (h : DSt w wx q A n c Ba ma da os B m d ds) (hx : Bl wx g 73 cs) (hg : w.heap.size < g) (hB : ∀ k, (Value.slice B m d).ownBlock = some k → k ≠ g) (o : Nat) (u : Value) : DSt w (wx.setCell ⟨g, o, none⟩ u) q A n c Ba ma da os B m d ds :=
  ⟨own_of_block h.out fun k hk => Below.heap_setCell wx ⟨g, o, none⟩ u k (hB k hk), h.mem.far hx (by decide) o u, own_far h.os hx (by decide) o u, h.box.far (p := ⟨g, o, none⟩) (by show _ ≠ g; omega) u, h.below.setCell (p := ⟨g, o, none⟩) (by show _ ≤ g; omega) u⟩
end
theorem DSt.outed {w wx : World} {q : Qt} {A : Option Addr} {n c : Nat} {Ba : Option Addr} {ma da : Nat} {os : List Ak} {B : Option Addr} {m d : Nat} {ds : List DayR} {w' : World} {B' : Option Addr} {m' d' : Nat} {x : DayR} (h : DSt w wx q A n c Ba ma da os B m d ds) (hg : wx.grownBy w' (Value.slice B m d).ownBlock) (ho : w'.ownsRow w.heap.size 73 4 (.slice B' m' d') m' (flat encD (ds ++ [x])))
    (hx : wx.ownsRow w.heap.size 75 2 (.slice x.A x.n x.c) x.n (flat enc2 x.grants) ∧ x.grants.length = x.n) : DSt w w' q A n c Ba ma da os B' m' d' (ds ++ [x]) :=
  ⟨ho, fun y hy => by
    rcases List.mem_append.1 hy with hy | hy
    · exact h.mem.grown h.out (by decide) hg y hy
    · rw [List.mem_singleton] at hy; subst hy; exact ⟨own_grown hx.1 h.out (by decide) hg, hx.2⟩,
   own_grown h.os h.out (by decide) hg, (hg.block _ h.box.lt (own_apart h.out h.box (by decide))).trans h.box, h.below.grown hg h.below.size fun k hk => own_base h.out k hk⟩
theorem DaysP.mem3 {T : Int → Int} {rs : List Rq} {vol D left : Int} {ds : List DayR} {rs1 rs2 G : List Rq} {b v1 v2 v3 : Int} {gr : List (Int × Int)} (h : DaysP T rs vol D left (ds ++ [⟨v1, v2, v3, none, 0, 0, gr⟩]) rs1 rs2 G b) (A : Option Addr) (n c : Nat) : DaysP T rs vol D left (ds ++ [⟨v1, v2, v3, A, n, c, gr⟩]) rs1 rs2 G b := by
  refine ⟨h.split, h.before, h.behind, h.run, h.left_, ?_, ?_, fun d hd => ?_, fun g hg => ?_⟩
  · have := h.grants; simpa using this
  · have := h.asc
    rw [List.pairwise_append] at this ⊢
    exact ⟨this.1, by simp, fun a ha b hb => by rw [List.mem_singleton] at hb; subst hb; exact this.2.2 a ha ⟨v1, v2, v3, none, 0, 0, gr⟩ (by simp)⟩
  · rcases List.mem_append.1 hd with hd | hd
    · exact h.days d (by simp [hd])
    · rw [List.mem_singleton] at hd; subst hd; exact h.days ⟨v1, v2, v3, none, 0, 0, gr⟩ (by simp)
  · obtain ⟨d, hd, h1⟩ := h.each g hg
    rcases List.mem_append.1 hd with hd | hd
    · exact ⟨d, by simp [hd], h1⟩
    · rw [List.mem_singleton] at hd; subst hd; exact ⟨⟨v1, v2, v3, A, n, c, gr⟩, by simp, h1⟩
/-- What Days returns. -/
def DyRes (w : World) (q : Qt) (fs : List Fct) (e : Ending) (w' : World) : Prop := ∃ (B : Option Addr) (m d : Nat) (ds : List DayR) (left : Int) (gs : List Rq) (bal : Int), e = .returned (.tuple #[.slice B m d, .int .i64 left]) ∧ Settled fs q.vol gs bal ∧ DaysF gs bal ds left ∧ ds.length = m ∧ m ≤ 36525 ∧ w'.ownsRow w.heap.size 73 4 (.slice B m d) m (flat encD ds) ∧ MemD w' w.heap.size ds ∧ RowKit.Below w.heap.size w w'
set_option maxRecDepth 100000 in
set_option maxHeartbeats 8000000 in
theorem rdays_any (q : Qt) (A : Option Addr) (n c : Nat) (fs : List Fct) (w : World) (h : Recs encF 5 w A n fs) (hok : BOk q fs) :
    Calls Tryz.prog 27 #[.agg #[.int .i64 q.id, .int .i64 q.vol, .int .i64 q.fr, .int .i64 q.tod, .slice A n c]] w (DyRes w q fs) := by
  have HL := Lib.hid h.1
  have hn : n ≤ 200 := by have := hok.len; have := h.1; omega
  have HQT : Hid (∀ x ∈ fs, 0 ≤ x.qty ∧ x.qty ≤ 1000000000) := fun x hx => by have := (fErr_zero (hok.ok x hx)).1; unfold FOk at this; omega
  have HDY : Hid (∀ x ∈ fs, (x.kind = 1 ∨ x.kind = 4) → q.fr ≤ x.day ∧ x.day < 36525) := fun x hx hk => by have h1 := (fErr_in (hok.ok x hx)).1 hk; have h2 := qOk_yes hok.qok; omega
  have HAI : Hid (∀ x ∈ fs, x.kind = 1 → 1 ≤ x.id ∧ x.id ≤ 1000000) := fun x hx hk => (fErr_in (hok.ok x hx)).2 (by omega)
  have HRQ := Lib.hid (fun wx (hb : RowKit.Below w.heap.size w wx) => rrequests_any q A n c fs wx (h.below hb) hn HQT.out)
  obtain ⟨qv1, qv2, qv3, qv4, qv5, qv6, qv7⟩ := qOk_yes hok.qok
  clear hok
  obtain ⟨W0, hW0⟩ : ∃ W, W = w.alloc (.cells #[.int .i64 q.id, .int .i64 q.vol, .int .i64 q.fr, .int .i64 q.tod, .slice A n c] 27) := ⟨_, rfl⟩
  have hb0 : RowKit.Below w.heap.size w W0 := by rw [hW0]; exact (Below.refl _ _).alloc (Nat.le_refl _) _
  have hx0 : Bl W0 w.heap.size 27 #[.int .i64 q.id, .int .i64 q.vol, .int .i64 q.fr, .int .i64 q.tod, .slice A n c] := by rw [hW0]; exact Bl.new w _ _
  go_enter Tryz.func27, Tryz.ntmps27
  go_upto_region 1 with (fail)
  rw [← hW0]
  clear hW0
  have p0 : W0.cell? ⟨w.heap.size, 0, none⟩ = some (.int .i64 q.id) := hx0.c0
  have p1 : W0.cell? ⟨w.heap.size, 1, none⟩ = some (.int .i64 q.vol) := hx0.c1
  have p2 : W0.cell? ⟨w.heap.size, 2, none⟩ = some (.int .i64 q.fr) := hx0.c2
  have p3 : W0.cell? ⟨w.heap.size, 3, none⟩ = some (.int .i64 q.tod) := hx0.c3
  have p4 : W0.cell? ⟨w.heap.size, 4, none⟩ = some (.slice A n c) := hx0.c4
  go_wp2_with fail
  refine (HRQ.out _ hb0).mono ?_
  rintro e w1 ⟨Ba, ma, da, os, rfl, hef, hol, hml, hoa, hb1⟩
  have hB1 := hb0.trans (hb1.mono hb0.size)
  have hx1 := hx0.keep hb1
  have hoa1 := own_mono hoa hb0.size
  have HEF := Lib.hid hef
  have HOL := Lib.hid hol
  have HOQ := Lib.hid (own_qty hef HQT.out (fun f hf => (HQT.out f hf).1))
  have HOI := Lib.hid (eff_ids hef HAI.out)
  have HOD := Lib.hid (eff_days hef (a := q.fr) (b := 36525) (fun f hf hk => HDY.out f hf (.inl hk)))
  have hma : ma ≤ 200 := by have := HL.out; omega
  obtain ⟨rs, hrs, -⟩ := reqList_eff hef
  have HRS := Lib.hid hrs
  have HDV := Lib.hid (fun D => dayQ_valid hef (by omega) HOQ.out HOI.out D)
  have HDR := Lib.hid (fun D => day_reqs hef hrs D)
  have HST : Hid (DaysP (trSum (trOf fs)) rs q.vol q.fr q.vol [] [] rs [] q.vol) := DaysP.start (eff_rs hef hrs (P := fun d => q.fr ≤ d) (fun o ho => (HOD.out o ho).1)) (by
    have h1 := trSum_gap (fs := fs) (a := -1) (b := q.fr - 1) (by omega) (fun y hy hk hd => by have := HDY.out y hy (.inr hk); omega)
    rw [h1]
    unfold trSum
    rw [List.filter_eq_nil_iff.2 (fun y hy => by have h2 := List.mem_filter.1 hy; have := HDY.out y h2.1 (.inr (by simpa using h2.2)); simp; omega)]
    rfl)
  have HTB : Hid (∀ D, 0 ≤ trSum (trOf fs) D ∧ trSum (trOf fs) D ≤ 200000000000) := fun D => ⟨trSum_nonneg (fun y hy => (HQT.out y (List.mem_filter.1 hy).1).1) D, by have := trSum_top HQT.out D; have := HL.out; omega⟩
  clear p0 p1 p2 p3 p4 hx0 hb0 hef hol hml hoa hb1 hrs
  have p1 : w1.cell? ⟨w.heap.size, 1, none⟩ = some (.int .i64 q.vol) := hx1.c1
  have p2 : w1.cell? ⟨w.heap.size, 2, none⟩ = some (.int .i64 q.fr) := hx1.c2
  go_wp2_with fail
  clear p1 p2
  go_loopw [5, 6, 7] (fun lv ov dv wx => ∃ (D left : Int) (ds : List DayR) (B : Option Addr) (m d : Nat) (rs1 rs2 G : List Rq) (b : Int), lv = .int .i64 left ∧ ov = .slice B m d ∧ dv = .int .i64 D ∧ q.fr ≤ D ∧ D ≤ 36525 ∧ 0 ≤ left ∧ Hid (left ≤ q.vol + trSum (trOf fs) (D - 1)) ∧ Hid (DaysP (trSum (trOf fs)) rs q.vol D left ds rs1 rs2 G b) ∧ Hid (ds.length = m) ∧ (m : Int) ≤ D ∧ Hid (DSt w wx q A n c Ba ma da os B m d ds)) (fun _ _ dv _ => 36525 - (intOf dv).toNat)
  case atStart => exact ⟨q.fr, q.vol, [], none, 0, 0, _, _, _, _, rfl, rfl, rfl, Int.le_refl _, by omega, qv3, by have := (HTB.out (q.fr - 1)).1; show q.vol ≤ _; omega, HST, rfl, by omega, ⟨⟨rfl, .inl ⟨rfl, rfl⟩⟩, fun d hd => (by cases hd), hoa1, hx1, hB1⟩⟩
  case round =>
    clear hoa1 hx1 hB1 HST
    obtain ⟨D, left, ds, B, m, d, rs1, rs2, G, b, rfl, rfl, rfl, hD0, hD1, hl0, HLB, HDP, HDL, hmD, HD⟩ := hrel
    have p4 : wr.cell? ⟨w.heap.size, 4, none⟩ = some (.slice A n c) := HD.out.box.c4
    have hros : Recs encA 3 wr Ba ma os := Recs.of_own encA_len HD.out.os HOL.out
    have hrf := h.below HD.out.below
    go_wp2_with fail
    go_loopw [8, 9] (fun nv i wx => ∃ (k : Nat) (nx : Int), nv = .int .i64 nx ∧ i = .int .i64 k ∧ k ≤ ma ∧ D ≤ nx ∧ nx ≤ 36525 ∧ Hid (∀ j, j < k → D ≤ os[j]!.day → nx ≤ os[j]!.day) ∧ wx = wr) (fun _ i _ => ma - (intOf i).toNat)
    case atStart => exact ⟨0, 36525, rfl, rfl, Nat.zero_le _, hD1, by omega, fun j hj => by omega, rfl⟩
    case round =>
      obtain ⟨k, nx, rfl, rfl, hk, hn1, hn2, HN, rfl⟩ := hrel
      by_cases hlt : k < ma
      · obtain ⟨b2, off2, y, hB, hbl, d0, d1, d2, HY⟩ := hros.getA hlt
        subst hB
        have hki : (k : Int) < ma := by omega
        by_cases g1 : D ≤ y.day
        · have b1 : decide (D ≤ y.day) = true := by simpa using g1
          by_cases g2 : y.day < nx
          · have b2' : decide (y.day < nx) = true := by simpa using g2
            have HN2 : Hid (∀ j, j < k + 1 → D ≤ os[j]!.day → y.day ≤ os[j]!.day) := fun j hj hd => by
              by_cases e : j = k
              · subst e; rw [HY.out]; exact Int.le_refl _
              · have := HN.out j (by omega) hd; omega
            have hy2 : y.day ≤ 36525 := by omega
            clear g2
            go_wp2_with fail
            go_roundw
            case rel => exact ⟨k + 1, y.day, rfl, by go_num, by omega, g1, hy2, HN2, by first | rfl | trivial⟩
            case measure => simp [intOf]; omega
          · have b2' : decide (y.day < nx) = false := by simpa using g2
            have HN2 : Hid (∀ j, j < k + 1 → D ≤ os[j]!.day → nx ≤ os[j]!.day) := fun j hj hd => by
              by_cases e : j = k
              · subst e; rw [HY.out]; omega
              · exact HN.out j (by omega) hd
            clear g1 g2
            go_wp2_with fail
            go_roundw
            case rel => exact ⟨k + 1, nx, rfl, by go_num, by omega, hn1, hn2, HN2, by first | rfl | trivial⟩
            case measure => simp [intOf]; omega
        · have b1 : decide (D ≤ y.day) = false := by simpa using g1
          have HN2 : Hid (∀ j, j < k + 1 → D ≤ os[j]!.day → nx ≤ os[j]!.day) := fun j hj hd => by
            by_cases e : j = k
            · subst e; rw [HY.out] at hd; exact absurd hd g1
            · exact HN.out j (by omega) hd
          clear g1
          go_wp2_with fail
          go_roundw
          case rel => exact ⟨k + 1, nx, rfl, by go_num, by omega, hn1, hn2, HN2, by first | rfl | trivial⟩
          case measure => simp [intOf]; omega
      · obtain rfl : ma = k := by omega
        have hd0 : decide ((ma : Int) < ma) = false := by simp
        have HNO : Hid (∀ o ∈ os, D ≤ o.day → nx ≤ o.day) := fun o ho hd => by
          obtain ⟨j, hj, rfl⟩ := List.getElem_of_mem ho
          have := HN.out j (by have := HOL.out; omega)
          rw [getElem!_pos os j hj] at this
          exact this hd
        clear hlt HN hk
        go_wp2_with fail
        go_loopw [8, 10] (fun nv i wx => ∃ (k : Nat) (nx2 : Int), nv = .int .i64 nx2 ∧ i = .int .i64 k ∧ k ≤ n ∧ D ≤ nx2 ∧ nx2 ≤ nx ∧ Hid (∀ j, j < k → fs[j]!.kind = 4 → D ≤ fs[j]!.day → nx2 ≤ fs[j]!.day) ∧ wx = wr) (fun _ i _ => n - (intOf i).toNat)
        case atStart => exact ⟨0, nx, rfl, rfl, Nat.zero_le _, hn1, Int.le_refl _, fun j hj => by omega, rfl⟩
        case round =>
          obtain ⟨k, nx2, rfl, rfl, hk, hm1, hm2, HN, rfl⟩ := hrel
          by_cases hlt : k < n
          · obtain ⟨b, off, x, hA, hbl, e0, e1, e2, e3, e4, HX⟩ := hrf.getF hlt
            subst hA
            have hki : (k : Int) < n := by omega
            by_cases g0 : x.kind = 4
            · have b0 : (x.kind == 4) = true := by simpa using g0
              by_cases g1 : D ≤ x.day
              · have b1 : decide (D ≤ x.day) = true := by simpa using g1
                by_cases g2 : x.day < nx2
                · have b2' : decide (x.day < nx2) = true := by simpa using g2
                  have HN2 : Hid (∀ j, j < k + 1 → fs[j]!.kind = 4 → D ≤ fs[j]!.day → x.day ≤ fs[j]!.day) := fun j hj h4 hd => by
                    by_cases e : j = k
                    · subst e; rw [HX.out]; exact Int.le_refl _
                    · have := HN.out j (by omega) h4 hd; omega
                  have hx2 : x.day ≤ nx := by omega
                  clear g2 g0
                  go_wp2_with fail
                  go_roundw
                  case rel => exact ⟨k + 1, x.day, rfl, by go_num, by omega, g1, hx2, HN2, by first | rfl | trivial⟩
                  case measure => simp [intOf]; omega
                · have b2' : decide (x.day < nx2) = false := by simpa using g2
                  have HN2 : Hid (∀ j, j < k + 1 → fs[j]!.kind = 4 → D ≤ fs[j]!.day → nx2 ≤ fs[j]!.day) := fun j hj h4 hd => by
                    by_cases e : j = k
                    · subst e; rw [HX.out]; omega
                    · exact HN.out j (by omega) h4 hd
                  clear g0 g1 g2
                  go_wp2_with fail
                  go_roundw
                  case rel => exact ⟨k + 1, nx2, rfl, by go_num, by omega, hm1, hm2, HN2, by first | rfl | trivial⟩
                  case measure => simp [intOf]; omega
              · have b1 : decide (D ≤ x.day) = false := by simpa using g1
                have HN2 : Hid (∀ j, j < k + 1 → fs[j]!.kind = 4 → D ≤ fs[j]!.day → nx2 ≤ fs[j]!.day) := fun j hj h4 hd => by
                  by_cases e : j = k
                  · subst e; rw [HX.out] at hd; exact absurd hd g1
                  · exact HN.out j (by omega) h4 hd
                clear g0 g1
                go_wp2_with fail
                go_roundw
                case rel => exact ⟨k + 1, nx2, rfl, by go_num, by omega, hm1, hm2, HN2, by first | rfl | trivial⟩
                case measure => simp [intOf]; omega
            · have b0 : (x.kind == 4) = false := by simpa using g0
              have HN2 : Hid (∀ j, j < k + 1 → fs[j]!.kind = 4 → D ≤ fs[j]!.day → nx2 ≤ fs[j]!.day) := fun j hj h4 hd => by
                by_cases e : j = k
                · subst e; rw [HX.out] at h4; exact absurd h4 g0
                · exact HN.out j (by omega) h4 hd
              clear g0
              go_wp2_with fail
              go_roundw
              case rel => exact ⟨k + 1, nx2, rfl, by go_num, by omega, hm1, hm2, HN2, by first | rfl | trivial⟩
              case measure => simp [intOf]; omega
          · obtain rfl : n = k := by omega
            have hd0 : decide ((n : Int) < n) = false := by simp
            have HNF : Hid (∀ y ∈ fs, y.kind = 4 → D ≤ y.day → nx2 ≤ y.day) := fun y hy h4 hd => by
              obtain ⟨j, hj, rfl⟩ := List.getElem_of_mem hy
              have := HN.out j (by have := HL.out; omega)
              rw [getElem!_pos fs j hj] at this
              exact this h4 hd
            have HNO2 : Hid (∀ o ∈ os, D ≤ o.day → nx2 ≤ o.day) := fun o ho hd => by have := HNO.out o ho hd; omega
            have hnx : nx2 ≤ 36525 := by omega
            clear hlt HN hk HNO hn1 hn2 hm2
            by_cases g9 : 36524 < nx2
            · have b9 : decide (36524 < nx2) = true := by simpa using g9
              obtain ⟨gs, bal, hst⟩ := settled_of HEF.out q.vol
              have HFN := Lib.hid (HDP.out.fin HRS.out (eff_rs HEF.out HRS.out (P := fun z => z < D) (fun o ho => by have h1 := HNO2.out o ho; have h2 := HOD.out o ho; omega)) (trSum_all fun y hy hk => by have h1 := HNF.out y hy hk; have h2 := HDY.out y hy (.inr hk); omega) hst)
              have hm5 : m ≤ 36525 := by omega
              clear g9
              go_wp2
              go_ret2
              exact ⟨B, m, d, ds, left, gs, bal, rfl, hst, HFN.out, HDL.out, hm5, HD.out.out, HD.out.mem, HD.out.below⟩
            · have b9 : decide (36524 < nx2) = false := by simpa using g9
              have hnx2 : nx2 ≤ 36524 := by omega
              have HTN : Hid (trSum (trOf fs) (nx2 - 1) = trSum (trOf fs) (D - 1)) := trSum_gap (by omega) fun y hy hk hd => by have := HNF.out y hy hk (by omega); omega
              have HTD := Lib.hid (fun k : Nat => (⟨trDay_nonneg (fun x hx => (HQT.out x (List.mem_of_mem_take hx)).1) nx2, trDay_le (fun x hx => HQT.out x (List.mem_of_mem_take hx)) nx2⟩ : 0 ≤ trDay (fs.take k) nx2 ∧ trDay (fs.take k) nx2 ≤ ((fs.take k).length : Int) * 1000000000))
              have hlb : left ≤ 300000000000 := by have := HLB.out; have h2 := (HTB.out (D - 1)).2; omega
              have hob := fun k hk => own_lt HD.out.out k hk
              have hx6 := Bl.new wr 73 #[.int .i64 nx2, .int .i64 0, .int .i64 0, .slice none 0 0]
              have HD6 := Lib.hid (HD.out.alloc (.cells #[.int .i64 nx2, .int .i64 0, .int .i64 0, .slice none 0 0] 73))
              have hw6 := HD.out.box.lt
              clear g9 b9 HD hrf hros
              go_upto_region 19 with (fail)
              clear p4
              generalize wr.alloc (.cells #[.int .i64 nx2, .int .i64 0, .int .i64 0, .slice none 0 0] 73) = W6 at *
              generalize wr.heap.size = g6 at *
              have p4 : W6.cell? ⟨w.heap.size, 4, none⟩ = some (.slice A n c) := HD6.out.box.c4
              have hrf := h.below HD6.out.below
              go_wp2_with fail
              go_loopw [5, 12] (fun lv i wx => ∃ (k : Nat), lv = .int .i64 (left + trDay (fs.take k) nx2) ∧ i = .int .i64 k ∧ k ≤ n ∧ wx = W6) (fun _ i _ => n - (intOf i).toNat)
              case atStart => exact ⟨0, by simp [trDay], rfl, Nat.zero_le _, rfl⟩
              case round =>
                obtain ⟨k, rfl, rfl, hk, rfl⟩ := hrel
                have HTK := Lib.hid (HTD.out k)
                have HTK1 := Lib.hid (HTD.out (k + 1))
                by_cases hlt : k < n
                · obtain ⟨b, off, x, hA, hbl, e0, e1, e2, e3, e4, HX⟩ := hrf.getF hlt
                  subst hA
                  have hki : (k : Int) < n := by omega
                  have HSN : Hid (trDay (fs.take (k + 1)) nx2 = trDay (fs.take k) nx2 + if x.kind = 4 ∧ x.day = nx2 then x.qty else 0) := by
                    show _ = _
                    rw [take_succ_get fs k (by have := HL.out; omega), HX.out, trDay_snoc]
                  have t0 := HTK.out.1
                  have t1 : trDay (fs.take k) nx2 ≤ 200000000000 := by have := HTK.out.2; rw [List.length_take] at this; omega
                  have t2 : trDay (fs.take (k + 1)) nx2 ≤ 200000000000 := by have := HTK1.out.2; rw [List.length_take] at this; omega
                  rw [HSN.out] at t2
                  generalize trDay (fs.take k) nx2 = tk at *
                  by_cases g0 : x.kind = 4
                  · have b0 : (x.kind == 4) = true := by simpa using g0
                    by_cases g1 : x.day = nx2
                    · have b1 : (x.day == nx2) = true := by simpa using g1
                      rw [if_pos ⟨g0, g1⟩] at HSN t2
                      have hxq : 0 ≤ x.qty := (HQT.out x (by have := HX.out; rw [getElem!_pos fs k (by have := HL.out; omega)] at this; rw [← this]; exact List.getElem_mem _)).1
                      have us : IntKind.i64.wrap (left + tk + x.qty) = left + tk + x.qty := IntWalk.i64_in _ (by omega)
                      clear g0 g1
                      go_wp2_with fail
                      go_roundw
                      case rel => exact ⟨k + 1, by rw [HSN.out, ← Int.add_assoc], by go_num, by omega, by first | rfl | trivial⟩
                      case measure => simp [intOf]; omega
                    · have b1 : (x.day == nx2) = false := by simpa using g1
                      rw [if_neg (fun e => g1 e.2), Int.add_zero] at HSN
                      clear g0 g1
                      go_wp2_with fail
                      go_roundw
                      case rel => exact ⟨k + 1, by rw [HSN.out], by go_num, by omega, by first | rfl | trivial⟩
                      case measure => simp [intOf]; omega
                  · have b0 : (x.kind == 4) = false := by simpa using g0
                    rw [if_neg (fun e => g0 e.1), Int.add_zero] at HSN
                    clear g0
                    go_wp2_with fail
                    go_roundw
                    case rel => exact ⟨k + 1, by rw [HSN.out], by go_num, by omega, by first | rfl | trivial⟩
                    case measure => simp [intOf]; omega
                · obtain rfl : n = k := by omega
                  rw [List.take_of_length_le (by have := HL.out; omega)] at HTK ⊢
                  have hd0 : decide ((n : Int) < n) = false := by simp
                  obtain ⟨t, ht⟩ : ∃ t, left + trDay fs nx2 = t := ⟨_, rfl⟩
                  have HTE : Hid (t = left + (trSum (trOf fs) nx2 - trSum (trOf fs) (nx2 - 1))) := by show _ = _; rw [← ht, trDay_sum]
                  have ht0 : 0 ≤ t := by have := HTK.out.1; omega
                  have ht1 : t ≤ 500000000000 := by have := HTK.out.2; have h2 := HL.out; omega
                  rw [ht]
                  clear hlt HTK HTK1 HTD ht hk hrf
                  have f1 : wr.cell? ⟨g6, 1, none⟩ = some (.int .i64 0) := hx6.cell 1
                  have z1 : wr.frozen? ⟨g6, 1, none⟩ = false := hx6.free 1
                  have hg6 : w.heap.size < g6 := by omega
                  have hobn : ∀ k, (Value.slice B m d).ownBlock = some k → k ≠ g6 := fun k hk => by have := hob k hk; omega
                  have hx7 : Bl (wr.setCell ⟨g6, 1, none⟩ (.int .i64 t)) g6 73 #[.int .i64 nx2, .int .i64 t, .int .i64 0, .slice none 0 0] := by have := hx6.put 1 (.int .i64 t); simpa using this
                  have HD7 := Lib.hid (HD6.out.set hx6 hg6 hobn 1 (.int .i64 t))
                  have HOBN := Lib.hid hobn
                  clear hobn hob
                  go_upto_region 25 with (fail)
                  clear f1 z1 p4 HD6 hx6
                  generalize wr.setCell ⟨g6, 1, none⟩ (.int .i64 t) = W7 at *
                  go_wp2_with fail
                  go_loopw [13, 14] (fun rv i wx => ∃ (k mr : Nat) (Br : Option Addr) (dr : Nat), rv = .slice Br mr dr ∧ i = .int .i64 k ∧ k ≤ ma ∧ mr ≤ k ∧ Hid ((dayQ (os.take k) nx2).length = mr) ∧ wx.ownsRow w.heap.size 90 2 (.slice Br mr dr) mr (flat enc2 (dayQ (os.take k) nx2)) ∧ Bl wx g6 73 #[.int .i64 nx2, .int .i64 t, .int .i64 (qsOf (dayQ (os.take k) nx2)).sum, .slice none 0 0] ∧ Hid (DSt w wx q A n c Ba ma da os B m d ds)) (fun _ i _ => ma - (intOf i).toNat)
                  case atStart => exact ⟨0, 0, none, 0, rfl, rfl, Nat.zero_le _, Nat.zero_le _, rfl, ⟨rfl, .inl ⟨rfl, rfl⟩⟩, hx7, HD7⟩
                  case round =>
                    clear hx7 HD7
                    obtain ⟨k, mr, Br, dr, rfl, rfl, hk, hmk, HRL, hor, hx7, HD7⟩ := hrel
                    have hros : Recs encA 3 wr Ba ma os := Recs.of_own encA_len HD7.out.os HOL.out
                    have HSB := Lib.hid (fun k : Nat => qs_sum_le (xs := dayQ (os.take k) nx2) fun p hp => by obtain ⟨o, ho, _, e⟩ := dayQ_mem hp; rw [e]; exact HOQ.out o (List.mem_of_mem_take ho))
                    by_cases hlt : k < ma
                    · obtain ⟨b2, off2, y, hB, hbl, d0, d1, d2, HY⟩ := hros.getA hlt
                      subst hB
                      have hki : (k : Int) < ma := by omega
                      have HSN : Hid (dayQ (os.take (k + 1)) nx2 = dayQ (os.take k) nx2 ++ if y.day = nx2 then [(y.id, y.qty)] else []) := by
                        show _ = _
                        rw [List.take_succ_eq_append_getElem (by have := HOL.out; omega), dayQ_snoc]
                        have := HY.out
                        rw [getElem!_pos os k (by have := HOL.out; omega)] at this
                        rw [this]
                      by_cases g1 : y.day = nx2
                      · have b1 : (y.day == nx2) = true := by simpa using g1
                        rw [if_pos g1] at HSN
                        clear g1
                        have HON : Hid (∀ u ∈ enc2 (y.id, y.qty), u.oneCell' = true) := enc2_one _
                        have HM1 : Hid (mr + 1 ≤ maxLen ∧ (mr + 1) * 16 ≤ 140737488355328) := ⟨by unfold maxLen; omega, by omega⟩
                        have HRD : Hid (Rd (wr.drew.alloc (.cells #[.int .i64 y.id, .int .i64 y.qty] 90)) 2 (some ⟨wr.heap.size, 0, none⟩) 1 (enc2 (y.id, y.qty))) := rd_new wr.drew 90 (enc2 (y.id, y.qty))
                        have HOE : Hid ((wr.drew.alloc (.cells #[.int .i64 y.id, .int .i64 y.qty] 90)).ownsRow w.heap.size 90 2 (.slice Br mr dr) mr (flat enc2 (dayQ (os.take k) nx2))) := own_alloc (own_drewN hor 1) _
                        have HD8 := Lib.hid (HD7.out.drew.alloc (.cells #[.int .i64 y.id, .int .i64 y.qty] 90))
                        have HX8 : Hid (Bl (wr.drew.alloc (.cells #[.int .i64 y.id, .int .i64 y.qty] 90)) g6 73 #[.int .i64 nx2, .int .i64 t, .int .i64 (qsOf (dayQ (os.take k) nx2)).sum, .slice none 0 0]) := hx7.drew.alloc _
                        have HKP : Hid (∀ w7 : World, (wr.drew.alloc (.cells #[.int .i64 y.id, .int .i64 y.qty] 90)).grownBy w7 (Value.slice Br mr dr).ownBlock → w7.cell? ⟨b2, off2 + k * 3 + 1, none⟩ = some (.int .i64 y.id) ∧ w7.cell? ⟨b2, off2 + k * 3 + 2, none⟩ = some (.int .i64 y.qty)) := fun w7 hg => by
                          have hne := own_two HD8.out.os HOE.out (by decide) b2 rfl
                          have hlt2 : b2 < (wr.drew.alloc (.cells #[.int .i64 y.id, .int .i64 y.qty] 90)).heap.size := own_lt HD8.out.os b2 rfl
                          have e1 : (wr.drew.alloc (.cells #[.int .i64 y.id, .int .i64 y.qty] 90)).cell? ⟨b2, off2 + k * 3 + 1, none⟩ = some (.int .i64 y.id) := (World.cell?_of_block (a := ⟨b2, off2 + k * 3 + 1, none⟩) (Below.heap_alloc wr.drew (.cells #[.int .i64 y.id, .int .i64 y.qty] 90) b2 hbl)).trans d1
                          have e2 : (wr.drew.alloc (.cells #[.int .i64 y.id, .int .i64 y.qty] 90)).cell? ⟨b2, off2 + k * 3 + 2, none⟩ = some (.int .i64 y.qty) := (World.cell?_of_block (a := ⟨b2, off2 + k * 3 + 2, none⟩) (Below.heap_alloc wr.drew (.cells #[.int .i64 y.id, .int .i64 y.qty] 90) b2 hbl)).trans d2
                          exact ⟨hg.cell e1 hne, hg.cell e2 hne⟩
                        have HSZ : Hid (w.heap.size ≤ (wr.drew.alloc (.cells #[.int .i64 y.id, .int .i64 y.qty] 90)).heap.size) := HD8.out.below.size
                        have s1 := (HSB.out k).1
                        have s2 : (qsOf (dayQ (os.take k) nx2)).sum ≤ 200000000000 := by have h3 := (HSB.out k).2; have h4 := dayQ_len (os.take k) nx2; rw [List.length_take] at h4; omega
                        have hyq : 0 ≤ y.qty ∧ y.qty ≤ 1000000000 := by have h3 := HY.out; rw [getElem!_pos os k (by have := HOL.out; omega)] at h3; rw [← h3]; exact HOQ.out _ (List.getElem_mem _)
                        obtain ⟨aq, haq⟩ : ∃ aq, (qsOf (dayQ (os.take k) nx2)).sum = aq := ⟨_, rfl⟩
                        have HAQ : Hid ((qsOf (dayQ (os.take (k + 1)) nx2)).sum = aq + y.qty) := by show _ = _; rw [HSN.out, ← haq]; unfold qsOf; rw [List.map_append, List.sum_append]; simp
                        rw [haq] at s1 s2 HX8
                        have us : IntKind.i64.wrap (aq + y.qty) = aq + y.qty := IntWalk.i64_in _ (by omega)
                        clear haq hx7 HD7 hor hros
                        go_upto_region 30 with (fail)
                        go_region_held3 (fun w' => w'.cell? ⟨b2, off2 + k * 3 + 1, none⟩ = some (.int .i64 y.id) ∧ w'.cell? ⟨b2, off2 + k * 3 + 2, none⟩ = some (.int .i64 y.qty))
                          (first
                            | with_reducible exact hk6.out
                            | go_keep)
                          (first
                            | (refine step_append_rd _ (by rfl) (.tmp 143) (.tmp 155) 89 (by rfl) w.heap.size 90 _ 2 16 Tryz.underlying89 infoQ rfl (by decide) (.slice Br mr dr) mr _ (by rfl) HOE.out (some ⟨wr.heap.size, 0, none⟩) 1 1 (enc2 (y.id, y.qty)) (by rfl) HRD.out HON.out HM1.out.1 HM1.out.2 HSZ.out ?_; intro v6 w6 ho6 hg6; obtain ⟨B6, d6, rfl⟩ := own_slice ho6; have hk6 := Lib.hid (HKP.out _ hg6)))
                        have ho6' : w6.ownsRow w.heap.size 90 2 (.slice B6 (mr + 1) d6) (mr + 1) (flat enc2 (dayQ (os.take (k + 1)) nx2)) := by rw [HSN.out, flat_append, flat_one]; exact ho6
                        have HX9 : Hid (Bl w6 g6 73 #[.int .i64 nx2, .int .i64 t, .int .i64 aq, .slice none 0 0]) := (hg6.block _ HX8.out.lt (own_apart HOE.out HX8.out (by decide))).trans HX8.out
                        have HD9 := Lib.hid (HD8.out.grown HOE.out hg6)
                        have k1 := hk6.out.1
                        have k2 := hk6.out.2
                        have f2 : w6.cell? ⟨g6, 2, none⟩ = some (.int .i64 aq) := HX9.out.cell 2
                        have z2 : w6.frozen? ⟨g6, 2, none⟩ = false := HX9.out.free 2
                        have HX10 : Hid (Bl (w6.drew.setCell ⟨g6, 2, none⟩ (.int .i64 (aq + y.qty))) g6 73 #[.int .i64 nx2, .int .i64 t, .int .i64 (aq + y.qty), .slice none 0 0]) := by show Bl _ _ _ _; have := HX9.out.drew.put 2 (.int .i64 (aq + y.qty)); simpa using this
                        clear HKP HOE HRD HD8 HX8 d0 d1 d2 hg6 ho6
                        go_upto_region 31 with (fail)
                        go_region
                        go_wp2_with fail
                        go_roundw
                        case rel => exact ⟨k + 1, mr + 1, B6, d6, rfl, by go_num, by omega, by omega, by show _ = _; rw [HSN.out, List.length_append, HRL.out]; rfl, own_far (own_drewN ho6' 1) HX9.out.drew (by decide) 2 _, by rw [HAQ.out]; exact HX10.out, HD9.out.drew.set HX9.out.drew (by omega) HOBN.out 2 _⟩
                        case measure => simp [intOf]; omega
                      · have b1 : (y.day == nx2) = false := by simpa using g1
                        rw [if_neg g1, List.append_nil] at HSN
                        clear g1
                        go_wp2_with fail
                        go_roundw
                        case rel => exact ⟨k + 1, mr, Br, dr, rfl, by go_num, by omega, by omega, by show _ = _; rw [HSN.out]; exact HRL.out, by rw [HSN.out]; exact hor, by rw [HSN.out]; exact hx7, HD7⟩
                        case measure => simp [intOf]; omega
                    · obtain rfl : ma = k := by omega
                      rw [List.take_of_length_le (by have := HOL.out; omega)] at HRL hor hx7
                      have hd0 : decide ((ma : Int) < ma) = false := by simp
                      have s1 : 0 ≤ (qsOf (dayQ os nx2)).sum := by have := (HSB.out ma).1; rwa [List.take_of_length_le (by have := HOL.out; omega)] at this
                      have HAL := Lib.hid (ralloc_any t Br mr dr (dayQ os nx2) wr (Recs.of_own enc2_len hor HRL.out) (by omega))
                      have HAE : Hid (allocErr t (dayQ os nx2) = 0) := by show _ = _; unfold allocErr; rw [if_neg (by omega)]; exact HDV.out nx2
                      unfold allocOut allocLeft at HAL
                      rw [if_pos HAE.out, if_pos HAE.out, HAE.out] at HAL
                      obtain ⟨rs1', rs2', G', b', HNX⟩ : ∃ rs1' rs2' G' b', Hid (∀ (Ag : Option Addr) (ng cg : Nat), DaysP (trSum (trOf fs)) rs q.vol (nx2 + 1) (max (t - (qsOf (dayQ os nx2)).sum) 0) (ds ++ [⟨nx2, t, (qsOf (dayQ os nx2)).sum, Ag, ng, cg, grantsOf t (dayQ os nx2)⟩]) rs1' rs2' G' b') := by
                        have hdr := HDR.out nx2
                        have hdq : dayQ os nx2 = prs (rs.filter fun r => r.day == nx2) := hdr
                        obtain ⟨x1, x2, x3, x4, hx⟩ := HDP.out.step HRS.out.pair (nx := nx2) (t := t) hm1 (eff_rs HEF.out HRS.out (P := fun z => D ≤ z → nx2 ≤ z) HNO2.out) HTN.out HTE.out ht0 (x := ⟨nx2, t, (qsOf (dayQ os nx2)).sum, none, 0, 0, grantsOf t (dayQ os nx2)⟩) rfl rfl (by rw [hdq]) (by rw [hdq])
                        rw [← hdq] at hx
                        exact ⟨x1, x2, x3, x4, fun Ag ng cg => hx.mem3 Ag ng cg⟩
                      obtain ⟨aq, haq⟩ : ∃ aq, (qsOf (dayQ os nx2)).sum = aq := ⟨_, rfl⟩
                      rw [haq] at s1 hx7 HAL HNX
                      have HLN : Hid (max (t - aq) 0 ≤ q.vol + trSum (trOf fs) (nx2 + 1 - 1)) := by
                        have h1 := HLB.out; have h2 := HTN.out; have h3 := HTE.out; have h4 := (HTB.out nx2).1
                        show _ ≤ _
                        rw [show nx2 + 1 - 1 = nx2 by omega]
                        omega
                      have HMX : Hid (0 ≤ max (t - aq) 0) := by show 0 ≤ _; omega
                      have HGL : Hid ((grantsOf t (dayQ os nx2)).length = mr) := by show _ = _; rw [grantsOf_len]; exact HRL.out
                      generalize max (t - aq) 0 = l9 at *
                      clear hlt haq HSB HAE hros HDR HTE HTN HLB hor
                      go_wp2_with fail
                      refine HAL.out.mono ?_
                      rintro e w8 ⟨Ag, ng, cg, rfl, hgl, hog, hb8⟩
                      have HOG := Lib.hid (own_mono hog HD7.out.below.size)
                      have HGN := Lib.hid hgl
                      have HX8 := Lib.hid (hx7.keep hb8)
                      have HD8 := Lib.hid (HD7.out.step hb8)
                      have f0 : w8.cell? ⟨g6, 0, none⟩ = some (.int .i64 nx2) := HX8.out.cell 0
                      have f1 : w8.cell? ⟨g6, 1, none⟩ = some (.int .i64 t) := HX8.out.cell 1
                      have f2 : w8.cell? ⟨g6, 2, none⟩ = some (.int .i64 aq) := HX8.out.cell 2
                      have f3 : w8.cell? ⟨g6, 3, none⟩ = some (.slice none 0 0) := HX8.out.cell 3
                      have z3 : w8.frozen? ⟨g6, 3, none⟩ = false := HX8.out.free 3
                      have HX9 : Hid (Bl (w8.setCell ⟨g6, 3, none⟩ (.slice Ag ng cg)) g6 73 #[.int .i64 nx2, .int .i64 t, .int .i64 aq, .slice Ag ng cg]) := by show Bl _ _ _ _; have := HX8.out.put 3 (.slice Ag ng cg); simpa using this
                      have HD9 := Lib.hid (HD8.out.set HX8.out (show w.heap.size < g6 by omega) HOBN.out 3 (.slice Ag ng cg))
                      have HO9 := Lib.hid (own_far HOG.out HX8.out (by decide) 3 (.slice Ag ng cg))
                      clear hx7 HD7 hog hgl hb8 HAL HX8 HD8 HOG
                      go_upto_region 33 with (fail)
                      clear f0 f1 f2 f3 z3
                      generalize w8.setCell ⟨g6, 3, none⟩ (.slice Ag ng cg) = W9 at *
                      have f0 : W9.cell? ⟨g6, 0, none⟩ = some (.int .i64 nx2) := HX9.out.cell 0
                      have f1 : W9.cell? ⟨g6, 1, none⟩ = some (.int .i64 t) := HX9.out.cell 1
                      have f2 : W9.cell? ⟨g6, 2, none⟩ = some (.int .i64 aq) := HX9.out.cell 2
                      have f3 : W9.cell? ⟨g6, 3, none⟩ = some (.slice Ag ng cg) := HX9.out.cell 3
                      obtain ⟨x, hx⟩ : ∃ x : DayR, x = ⟨nx2, t, aq, Ag, ng, cg, grantsOf t (dayQ os nx2)⟩ := ⟨_, rfl⟩
                      have HRD : Hid (Rd (W9.alloc (.cells #[.int .i64 nx2, .int .i64 t, .int .i64 aq, .slice Ag ng cg] 73)) 4 (some ⟨W9.heap.size, 0, none⟩) 1 (encD x)) := by show Rd _ _ _ _ _; rw [hx]; exact rd_new W9 73 (encD ⟨nx2, t, aq, Ag, ng, cg, grantsOf t (dayQ os nx2)⟩)
                      have HON : Hid (∀ u ∈ encD x, u.oneCell' = true) := encD_one x
                      have HDA := Lib.hid (HD9.out.alloc (.cells #[.int .i64 nx2, .int .i64 t, .int .i64 aq, .slice Ag ng cg] 73))
                      have HOA := Lib.hid (own_alloc HO9.out (.cells #[.int .i64 nx2, .int .i64 t, .int .i64 aq, .slice Ag ng cg] 73))
                      have HM1 : Hid (m + 1 ≤ maxLen ∧ (m + 1) * 48 ≤ 140737488355328) := ⟨by unfold maxLen; omega, by omega⟩
                      have HXX : Hid (x.A = Ag ∧ x.n = ng ∧ x.c = cg ∧ x.grants = grantsOf t (dayQ os nx2)) := by show _ ∧ _; rw [hx]; exact ⟨rfl, rfl, rfl, rfl⟩
                      have HNX2 : Hid (DaysP (trSum (trOf fs)) rs q.vol (nx2 + 1) l9 (ds ++ [x]) rs1' rs2' G' b') := by show DaysP _ _ _ _ _ _ _ _ _ _; rw [hx]; exact HNX.out Ag ng cg
                      clear hx HNX HX9
                      go_wp2_with (first
                        | (at_builtin; refine wpList_append_rd _ rfl (.tmp 174) (.tmp 176) 67 rfl w.heap.size 73 _ 4 48 Tryz.underlying67 infoD rfl (by decide) (.slice B m d) m _ rfl HDA.out.out (some ⟨W9.heap.size, 0, none⟩) 1 _ (encD x) rfl HRD.out HON.out HM1.out.1 HM1.out.2 HDA.out.below.size ?_; intro v6 w6 ho6 hg6 _; obtain ⟨B6, d6, rfl⟩ := own_slice ho6)
                        | fail)
                      have HD10 : Hid (DSt w w6 q _ n c _ ma da os B6 (m + 1) d6 (ds ++ [x])) := DSt.outed HDA.out hg6 (by rw [flat_append, flat_one]; exact ho6) (by rw [HXX.out.1, HXX.out.2.1, HXX.out.2.2.1, HXX.out.2.2.2]; exact ⟨HOA.out, HGN.out⟩)
                      clear ho6 hg6 HDA HOA HRD HO9 HD9
                      go_roundw
                      case rel => exact ⟨nx2 + 1, l9, ds ++ [x], B6, m + 1, d6, rs1', rs2', G', b', rfl, rfl, by go_num, by omega, by omega, HMX.out, HLN, HNX2, by show _ = _; rw [List.length_append, HDL.out]; rfl, by omega, HD10⟩
                      case measure => simp [intOf]; omega
end Go.Proofs.YtemhiifgplaldaaGreat

namespace Go.Proofs.YtemhiifgplaldaaGreat
open Go.RowKit
set_option linter.unusedVariables false

set_option maxRecDepth 100000 in
set_option maxHeartbeats 4000000 in
theorem rvalidFact_any (q : Qt) (x : Fct) (w : World) : Calls Tryz.prog 28 #[.agg #[.int .i64 q.id, .int .i64 q.vol, .int .i64 q.fr, .int .i64 q.tod], .agg #[.int .i64 x.num, .int .i64 x.kind, .int .i64 x.day, .int .i64 x.id, .int .i64 x.qty]] w (ERes w (fErr q x)) := by
  have hb : RowKit.Below w.heap.size w ((w.alloc (.cells #[.int .i64 q.id, .int .i64 q.vol, .int .i64 q.fr, .int .i64 q.tod] 24)).alloc (.cells #[.int .i64 x.num, .int .i64 x.kind, .int .i64 x.day, .int .i64 x.id, .int .i64 x.qty] 47)) := ((Below.refl _ _).alloc (Nat.le_refl _) _).alloc (by simp) _
  by_cases g0 : x.num < 1
  · have d0 : decide (x.num < 1) = true := by simpa using g0
    have E : Hid ((2 : Int) = fErr q x) := by
      show _ = _
      unfold fErr
      rw [if_pos (by omega)]
    go_enter Tryz.func28, Tryz.ntmps28
    go_wp2
    go_ret
    exact ⟨ret_err E.out, hb⟩
  have d0 : decide (x.num < 1) = false := by simpa using g0
  by_cases g1 : 1000000000 < x.num
  · have d1 : decide (1000000000 < x.num) = true := by simpa using g1
    have E : Hid ((2 : Int) = fErr q x) := by
      show _ = _
      unfold fErr
      rw [if_pos (by omega)]
    go_enter Tryz.func28, Tryz.ntmps28
    go_wp2
    go_ret
    exact ⟨ret_err E.out, hb⟩
  have d1 : decide (1000000000 < x.num) = false := by simpa using g1
  by_cases g2 : x.kind < 1
  · have d2 : decide (x.kind < 1) = true := by simpa using g2
    have E : Hid ((2 : Int) = fErr q x) := by
      show _ = _
      unfold fErr
      rw [if_pos (by omega)]
    go_enter Tryz.func28, Tryz.ntmps28
    go_wp2
    go_ret
    exact ⟨ret_err E.out, hb⟩
  have d2 : decide (x.kind < 1) = false := by simpa using g2
  by_cases g3 : 4 < x.kind
  · have d3 : decide (4 < x.kind) = true := by simpa using g3
    have E : Hid ((2 : Int) = fErr q x) := by
      show _ = _
      unfold fErr
      rw [if_pos (by omega)]
    go_enter Tryz.func28, Tryz.ntmps28
    go_wp2
    go_ret
    exact ⟨ret_err E.out, hb⟩
  have d3 : decide (4 < x.kind) = false := by simpa using g3
  by_cases g4 : x.day < 0
  · have d4 : decide (x.day < 0) = true := by simpa using g4
    have E : Hid ((2 : Int) = fErr q x) := by
      show _ = _
      unfold fErr
      rw [if_pos (by omega)]
    go_enter Tryz.func28, Tryz.ntmps28
    go_wp2
    go_ret
    exact ⟨ret_err E.out, hb⟩
  have d4 : decide (x.day < 0) = false := by simpa using g4
  by_cases g5 : 36524 < x.day
  · have d5 : decide (36524 < x.day) = true := by simpa using g5
    have E : Hid ((2 : Int) = fErr q x) := by
      show _ = _
      unfold fErr
      rw [if_pos (by omega)]
    go_enter Tryz.func28, Tryz.ntmps28
    go_wp2
    go_ret
    exact ⟨ret_err E.out, hb⟩
  have d5 : decide (36524 < x.day) = false := by simpa using g5
  by_cases g6 : x.qty < 0
  · have d6 : decide (x.qty < 0) = true := by simpa using g6
    have E : Hid ((2 : Int) = fErr q x) := by
      show _ = _
      unfold fErr
      rw [if_pos (by omega)]
    go_enter Tryz.func28, Tryz.ntmps28
    go_wp2
    go_ret
    exact ⟨ret_err E.out, hb⟩
  have d6 : decide (x.qty < 0) = false := by simpa using g6
  by_cases g7 : 1000000000 < x.qty
  · have d7 : decide (1000000000 < x.qty) = true := by simpa using g7
    have E : Hid ((2 : Int) = fErr q x) := by
      show _ = _
      unfold fErr
      rw [if_pos (by omega)]
    go_enter Tryz.func28, Tryz.ntmps28
    go_wp2
    go_ret
    exact ⟨ret_err E.out, hb⟩
  have d7 : decide (1000000000 < x.qty) = false := by simpa using g7
  by_cases k4 : x.kind = 4
  · have b4 : (x.kind == 4) = true := by simpa using k4
    have n4 : (x.kind != 4) = false := by simpa using k4
    have b1 : (x.kind == 1) = false := by simp; omega
    by_cases i0 : x.id = 0
    case neg =>
      have c0 : (x.id != 0) = true := by simpa using i0
      have E : Hid ((2 : Int) = fErr q x) := by
        show _ = _
        unfold fErr
        rw [if_neg (by omega), if_pos (by omega)]
      clear k4
      go_enter Tryz.func28, Tryz.ntmps28
      go_wp2
      go_ret
      exact ⟨ret_err E.out, hb⟩
    have c0 : (x.id != 0) = false := by simpa using i0
    by_cases p1 : x.day < q.fr
    · have e1 : decide (x.day < q.fr) = true := by simpa using p1
      have E : Hid ((15 : Int) = fErr q x) := by
        show _ = _
        unfold fErr
        rw [if_neg (by omega), if_neg (by omega), if_neg (by omega), if_pos (by omega)]
      clear k4 i0
      go_enter Tryz.func28, Tryz.ntmps28
      go_wp2
      go_ret
      exact ⟨ret_err E.out, hb⟩
    have e1 : decide (x.day < q.fr) = false := by simpa using p1
    by_cases p2 : q.tod ≤ x.day
    · have e2 : decide (q.tod ≤ x.day) = true := by simpa using p2
      have E : Hid ((15 : Int) = fErr q x) := by
        show _ = _
        unfold fErr
        rw [if_neg (by omega), if_neg (by omega), if_neg (by omega), if_pos (by omega)]
      clear k4 i0
      go_enter Tryz.func28, Tryz.ntmps28
      go_wp2
      go_ret
      exact ⟨ret_err E.out, hb⟩
    have e2 : decide (q.tod ≤ x.day) = false := by simpa using p2
    have E : Hid ((0 : Int) = fErr q x) := by
      show _ = _
      unfold fErr
      rw [if_neg (by omega), if_neg (by omega), if_neg (by omega), if_neg (by omega)]
    clear k4 i0
    go_enter Tryz.func28, Tryz.ntmps28
    go_wp2
    go_ret
    exact ⟨ret_err E.out, hb⟩
  have b4 : (x.kind == 4) = false := by simpa using k4
  have n4 : (x.kind != 4) = true := by simpa using k4
  by_cases i1 : x.id < 1
  · have c1 : decide (x.id < 1) = true := by simpa using i1
    have E : Hid ((2 : Int) = fErr q x) := by
      show _ = _
      unfold fErr
      rw [if_neg (by omega), if_neg (by omega), if_pos (by omega)]
    go_enter Tryz.func28, Tryz.ntmps28
    go_wp2
    go_ret
    exact ⟨ret_err E.out, hb⟩
  have c1 : decide (x.id < 1) = false := by simpa using i1
  by_cases i2 : 1000000 < x.id
  · have c2 : decide (1000000 < x.id) = true := by simpa using i2
    have E : Hid ((2 : Int) = fErr q x) := by
      show _ = _
      unfold fErr
      rw [if_neg (by omega), if_neg (by omega), if_pos (by omega)]
    go_enter Tryz.func28, Tryz.ntmps28
    go_wp2
    go_ret
    exact ⟨ret_err E.out, hb⟩
  have c2 : decide (1000000 < x.id) = false := by simpa using i2
  by_cases k1 : x.kind = 1
  · have b1 : (x.kind == 1) = true := by simpa using k1
    by_cases p1 : x.day < q.fr
    · have e1 : decide (x.day < q.fr) = true := by simpa using p1
      have E : Hid ((15 : Int) = fErr q x) := by
        show _ = _
        unfold fErr
        rw [if_neg (by omega), if_neg (by omega), if_neg (by omega), if_pos (by omega)]
      clear k1
      go_enter Tryz.func28, Tryz.ntmps28
      go_wp2
      go_ret
      exact ⟨ret_err E.out, hb⟩
    have e1 : decide (x.day < q.fr) = false := by simpa using p1
    by_cases p2 : q.tod ≤ x.day
    · have e2 : decide (q.tod ≤ x.day) = true := by simpa using p2
      have E : Hid ((15 : Int) = fErr q x) := by
        show _ = _
        unfold fErr
        rw [if_neg (by omega), if_neg (by omega), if_neg (by omega), if_pos (by omega)]
      clear k1
      go_enter Tryz.func28, Tryz.ntmps28
      go_wp2
      go_ret
      exact ⟨ret_err E.out, hb⟩
    have e2 : decide (q.tod ≤ x.day) = false := by simpa using p2
    have E : Hid ((0 : Int) = fErr q x) := by
      show _ = _
      unfold fErr
      rw [if_neg (by omega), if_neg (by omega), if_neg (by omega), if_neg (by omega)]
    clear k1
    go_enter Tryz.func28, Tryz.ntmps28
    go_wp2
    go_ret
    exact ⟨ret_err E.out, hb⟩
  have b1 : (x.kind == 1) = false := by simpa using k1
  have E : Hid ((0 : Int) = fErr q x) := by
    show _ = _
    unfold fErr
    rw [if_neg (by omega), if_neg (by omega), if_neg (by omega), if_neg (by omega)]
  go_enter Tryz.func28, Tryz.ntmps28
  go_wp2
  go_ret
  exact ⟨ret_err E.out, hb⟩

set_option maxRecDepth 100000 in
set_option maxHeartbeats 4000000 in
theorem rvalidBook_any (q : Qt) (A : Option Addr) (n c : Nat) (fs : List Fct) (w : World) (h : Recs encF 5 w A n fs) (hm : n ≤ 9223372036854775807) :
    Calls Tryz.prog 25 #[.agg #[.int .i64 q.id, .int .i64 q.vol, .int .i64 q.fr, .int .i64 q.tod, .slice A n c]] w (ERes w (bErr q fs)) := by
  have HL := Lib.hid h.1
  have hb0 : RowKit.Below w.heap.size w (w.alloc (.cells #[.int .i64 q.id, .int .i64 q.vol, .int .i64 q.fr, .int .i64 q.tod, .slice A n c] 27)) := (Below.refl _ _).alloc (Nat.le_refl _) _
  have hx0 := Bl.new w 27 #[.int .i64 q.id, .int .i64 q.vol, .int .i64 q.fr, .int .i64 q.tod, .slice A n c]
  have h0 := h.alloc (.cells #[.int .i64 q.id, .int .i64 q.vol, .int .i64 q.fr, .int .i64 q.tod, .slice A n c] 27)
  clear h
  go_enter Tryz.func25, Tryz.ntmps25
  go_upto_region 1 with (fail)
  generalize w.alloc (.cells #[.int .i64 q.id, .int .i64 q.vol, .int .i64 q.fr, .int .i64 q.tod, .slice A n c] 27) = W0 at *
  have HVQ := Lib.hid (fun w => rvalidQuota_any q w)
  have HVF := Lib.hid (fun x w => rvalidFact_any q x w)
  have p0 : W0.cell? ⟨w.heap.size, 0, none⟩ = some (.int .i64 q.id) := hx0.cell 0
  have p1 : W0.cell? ⟨w.heap.size, 1, none⟩ = some (.int .i64 q.vol) := hx0.cell 1
  have p2 : W0.cell? ⟨w.heap.size, 2, none⟩ = some (.int .i64 q.fr) := hx0.cell 2
  have p3 : W0.cell? ⟨w.heap.size, 3, none⟩ = some (.int .i64 q.tod) := hx0.cell 3
  go_wp2_with fail
  refine (HVQ.out _).mono ?_
  rintro e w1 ⟨rfl, hb1⟩
  have hx1 := hx0.keep hb1
  have hB1 := hb0.trans (hb1.mono hb0.size)
  have h1 := h0.below hb1
  have HX1 := Lib.hid hx1
  have r4 : w1.cell? ⟨w.heap.size, 4, none⟩ = some (.slice A n c) := hx1.cell 4
  clear p0 p1 p2 p3 hx0 hb0 hb1 h0 hx1
  cases hq : qOk q with
  | false =>
    have E : Hid (2 = bErr q fs) := by show _ = _; unfold bErr; rw [if_pos hq]
    clear hq
    go_wp2
    go_ret
    exact ⟨ret_err E.out, hB1⟩
  | true =>
    have HQ := Lib.hid hq
    clear hq
    by_cases hl : 200 < n
    · have E : Hid (8 = bErr q fs) := by show _ = _; unfold bErr; rw [if_neg (by rw [HQ.out]; simp), if_pos (by have := HL.out; omega)]
      have hli : (200 : Int) < n := by omega
      go_wp2
      go_ret
      exact ⟨ret_err E.out, hB1⟩
    · have hln : n ≤ 200 := by omega
      go_wp2_with fail
      go_loopw [3] (fun i wx => ∃ k : Nat, k ≤ n ∧ i = .int .i64 k ∧ Hid (∀ i, i < k → fErr q fs[i]! = 0) ∧ RowKit.Below w1.heap.size w1 wx) (fun i _ => n - (intOf i).toNat)
      case atStart => exact ⟨0, Nat.zero_le _, rfl, fun i hi => by omega, Below.refl _ _⟩
      case round =>
        obtain ⟨k, hk, rfl, HA, hbk⟩ := hrel
        have hBk := hB1.trans (hbk.mono hB1.size)
        have hxk := HX1.out.keep hbk
        have s4 : wr.cell? ⟨w.heap.size, 4, none⟩ = some (.slice A n c) := hxk.cell 4
        by_cases hlt : k < n
        · obtain ⟨b, off, x, hA, hbl, c0, c1, c2, c3, c4, HX⟩ := (h1.below hbk).getF hlt
          subst hA
          have hki : (k : Int) < n := by omega
          obtain ⟨er, her⟩ : ∃ e, fErr q x = e := ⟨_, rfl⟩
          have HER := Lib.hid her
          have HV : Hid (Calls Tryz.prog 28 #[.agg #[.int .i64 q.id, .int .i64 q.vol, .int .i64 q.fr, .int .i64 q.tod], .agg #[.int .i64 x.num, .int .i64 x.kind, .int .i64 x.day, .int .i64 x.id, .int .i64 x.qty]] wr.drew fun e w' => e = .returned (.int .i64 er) ∧ RowKit.Below wr.heap.size wr.drew w') := (HVF.out x wr.drew).mono fun e w' h9 => ⟨by rw [← her]; exact h9.1, h9.2⟩
          have p0 : wr.cell? ⟨w.heap.size, 0, none⟩ = some (.int .i64 q.id) := hxk.cell 0
          have p1 : wr.cell? ⟨w.heap.size, 1, none⟩ = some (.int .i64 q.vol) := hxk.cell 1
          have p2 : wr.cell? ⟨w.heap.size, 2, none⟩ = some (.int .i64 q.fr) := hxk.cell 2
          have p3 : wr.cell? ⟨w.heap.size, 3, none⟩ = some (.int .i64 q.tod) := hxk.cell 3
          have p4 : wr.cell? ⟨w.heap.size, 4, none⟩ = some (.slice (some ⟨b, off, none⟩) n c) := hxk.cell 4
          have hlw : w.heap.size < wr.heap.size := hxk.lt
          have HKS : Hid (∀ w' : World, RowKit.Below wr.heap.size wr.drew w' → w'.cell? ⟨w.heap.size, 0, none⟩ = some (.int .i64 q.id) ∧ w'.cell? ⟨w.heap.size, 1, none⟩ = some (.int .i64 q.vol) ∧ w'.cell? ⟨w.heap.size, 2, none⟩ = some (.int .i64 q.fr) ∧ w'.cell? ⟨w.heap.size, 3, none⟩ = some (.int .i64 q.tod) ∧ w'.cell? ⟨w.heap.size, 4, none⟩ = some (.slice (some ⟨b, off, none⟩) n c) ∧ w'.cell? ⟨b, off + k * 5, none⟩ = some (.int .i64 x.num) ∧ w'.cell? ⟨b, off + k * 5 + 1, none⟩ = some (.int .i64 x.kind) ∧ w'.cell? ⟨b, off + k * 5 + 2, none⟩ = some (.int .i64 x.day) ∧ w'.cell? ⟨b, off + k * 5 + 3, none⟩ = some (.int .i64 x.id) ∧ w'.cell? ⟨b, off + k * 5 + 4, none⟩ = some (.int .i64 x.qty)) := fun w' hb5 => ⟨(hb5.cell (p := ⟨w.heap.size, 0, none⟩) hlw).trans p0, (hb5.cell (p := ⟨w.heap.size, 1, none⟩) hlw).trans p1, (hb5.cell (p := ⟨w.heap.size, 2, none⟩) hlw).trans p2, (hb5.cell (p := ⟨w.heap.size, 3, none⟩) hlw).trans p3, (hb5.cell (p := ⟨w.heap.size, 4, none⟩) hlw).trans p4, (hb5.cell (p := ⟨b, off + k * 5, none⟩) hbl).trans c0, (hb5.cell (p := ⟨b, off + k * 5 + 1, none⟩) hbl).trans c1, (hb5.cell (p := ⟨b, off + k * 5 + 2, none⟩) hbl).trans c2, (hb5.cell (p := ⟨b, off + k * 5 + 3, none⟩) hbl).trans c3, (hb5.cell (p := ⟨b, off + k * 5 + 4, none⟩) hbl).trans c4⟩
          clear her
          go_upto_region 8 with (fail)
          go_region_held3 (fun w' => w'.cell? ⟨w.heap.size, 0, none⟩ = some (.int .i64 q.id) ∧ w'.cell? ⟨w.heap.size, 1, none⟩ = some (.int .i64 q.vol) ∧ w'.cell? ⟨w.heap.size, 2, none⟩ = some (.int .i64 q.fr) ∧ w'.cell? ⟨w.heap.size, 3, none⟩ = some (.int .i64 q.tod) ∧ w'.cell? ⟨w.heap.size, 4, none⟩ = some (.slice (some ⟨b, off, none⟩) n c) ∧ w'.cell? ⟨b, off + k * 5, none⟩ = some (.int .i64 x.num) ∧ w'.cell? ⟨b, off + k * 5 + 1, none⟩ = some (.int .i64 x.kind) ∧ w'.cell? ⟨b, off + k * 5 + 2, none⟩ = some (.int .i64 x.day) ∧ w'.cell? ⟨b, off + k * 5 + 3, none⟩ = some (.int .i64 x.id) ∧ w'.cell? ⟨b, off + k * 5 + 4, none⟩ = some (.int .i64 x.qty))
            (first
              | with_reducible exact HKS.out _ hb5
              | go_keep)
            (first
              | (go_at_call 28; with_reducible (refine HV.out.mono ?_); rintro e w5 ⟨rfl, hb5⟩))
          have hb15 := hbk.drew.trans (hb5.mono hbk.size)
          have hB5 := hB1.trans (hb15.mono hB1.size)
          clear s4 p0 p1 p2 p3 p4 c0 c1 c2 c3 c4 hb5
          by_cases g : er = 0
          · have b1 : (er != 0) = false := by simpa using g
            have HA2 : Hid (∀ i, i < k + 1 → fErr q fs[i]! = 0) := fun i hi => by
              by_cases e : i = k
              · subst e; rw [HX.out, HER.out]; exact g
              · exact HA.out i (by omega)
            clear g
            go_wp2_with fail
            go_roundw
            case rel => exact ⟨k + 1, by omega, by go_num, HA2, hb15⟩
            case measure => simp [intOf]; omega
          · have b1 : (er != 0) = true := by simpa using g
            have E : Hid (er = bErr q fs) := by
              have h2 := bErr_fact HQ.out (by have := HL.out; omega) k (by have := HL.out; omega) HA.out (by rw [HX.out, HER.out]; exact g)
              rw [HX.out, HER.out] at h2
              exact h2.symm
            clear g
            go_wp2
            go_ret
            exact ⟨ret_err E.out, hB5⟩
        · obtain rfl : n = k := by omega
          go_wp2_with fail
          go_loopw [5] (fun i wx => ∃ k : Nat, i = .int .i64 k ∧ 1 ≤ k ∧ (k ≤ n ∨ k = 1) ∧ Hid (∀ r, r + 1 < k → fs[r]!.num < fs[r + 1]!.num) ∧ RowKit.Below w1.heap.size w1 wx) (fun i _ => n - (intOf i).toNat)
          case atStart => exact ⟨1, rfl, Nat.le_refl _, .inr rfl, fun r hr => by omega, hbk⟩
          case round =>
            clear hbk hBk hxk s4
            obtain ⟨k, rfl, hk1, hk2, HAS, hbk⟩ := hrel
            have hBk := hB1.trans (hbk.mono hB1.size)
            have hRk := h1.below hbk
            have s4 : wr.cell? ⟨w.heap.size, 4, none⟩ = some (.slice A n c) := (HX1.out.keep hbk).cell 4
            by_cases hlt2 : k < n
            · obtain ⟨b, off, x, hA, hbl, c0, _, _, _, _, HX⟩ := hRk.getF hlt2
              subst hA
              obtain ⟨p, hp⟩ : ∃ p, k - 1 = p := ⟨_, rfl⟩
              obtain ⟨b', off', y, hA, _, e0, _, _, _, _, HY⟩ := hRk.getF (i := p) (by omega)
              injection hA with hA
              injection hA with hA1 hA2
              subst hA1 hA2
              have u1 : IntKind.i64.wrap ((k : Int) - 1) = (p : Int) := (IntWalk.i64_in _ (by omega)).trans (by omega)
              have hp1 : p + 1 ≤ k := by omega
              have hp2 : k ≤ p + 1 := by omega
              have hki : (k : Int) < n := by omega
              have hpi : (p : Int) < n := by omega
              clear hp
              go_upto_region 14 with (fail)
              go_quiet (fail)
              by_cases g : x.num ≤ y.num
              · have d1 : decide (x.num ≤ y.num) = true := by simpa using g
                have E : Hid (9 = bErr q fs) := (bErr_order HQ.out (by have := HL.out; omega) (fun i hi => HA.out i (by have := HL.out; omega)) p (by have := HL.out; omega) (by rw [show p + 1 = k by omega, HX.out, HY.out]; omega)).symm
                go_wp2
                go_ret
                exact ⟨ret_err E.out, below_drewN hBk _⟩
              · have d1 : decide (x.num ≤ y.num) = false := by simpa using g
                have HAS2 : Hid (∀ r, r + 1 < k + 1 → fs[r]!.num < fs[r + 1]!.num) := fun r hr => by
                  by_cases e : r = p
                  · subst e; rw [show r + 1 = k by omega, HX.out, HY.out]; omega
                  · exact HAS.out r (by omega)
                clear u1
                go_wp2_with fail
                go_roundw
                case rel => exact ⟨k + 1, by go_num, by omega, .inl (by omega), HAS2, below_drewN hbk _⟩
                case measure => simp [intOf]; omega
            · have E : Hid (0 = bErr q fs) := (bErr_ok HQ.out (by have := HL.out; omega) (fun i hi => HA.out i (by have := HL.out; omega)) (fun r hr => HAS.out r (by have := HL.out; omega))).symm
              go_wp2
              go_ret
              exact ⟨ret_err E.out, hBk⟩
end Go.Proofs.YtemhiifgplaldaaGreat

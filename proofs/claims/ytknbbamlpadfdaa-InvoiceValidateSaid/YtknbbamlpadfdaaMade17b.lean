/-
  Contract of customsmade.Invoice. No statement of the seat is proved here. Conditions: the list reads as integers, its length is at most its capacity.
-/
import Derived.Test.YtknbbamlpadfdaaMade17a
namespace Go.Proofs.Ytknbbamlpadfdaa
open Go.RowKit
set_option linter.unusedVariables false

/-- From a to b only block g and new blocks have changed. -/
structure Kp (g : Nat) (a b : World) : Prop where
  os : b.os = a.os
  tape : b.tape = a.tape
  output : b.output = a.output
  size : a.heap.size ≤ b.heap.size
  block : ∀ k, k < a.heap.size → k ≠ g → b.heap[k]? = a.heap[k]?
section
variable {g : Nat} {a b c : World}
theorem Kp.refl (g : Nat) (a : World) : Kp g a a := ⟨rfl, rfl, rfl, Nat.le_refl _, fun _ _ _ => rfl⟩
theorem Kp.only (h : Kp g a b) (hO : Only g b c) : Kp g a c := ⟨hO.os.trans h.os, hO.tape.trans h.tape, hO.output.trans h.output, by rw [hO.size]; exact h.size, fun k hk hg => (hO.block k hg).trans (h.block k hk hg)⟩
theorem Kp.below (h : Kp g a b) (hB : RowKit.Below b.heap.size b c) : Kp g a c := ⟨hB.os.trans h.os, hB.tape.trans h.tape, hB.output.trans h.output, Nat.le_trans h.size hB.size, fun k hk hg => (hB.block k (Nat.lt_of_lt_of_le hk h.size)).trans (h.block k hk hg)⟩
theorem Kp.alloc (h : Kp g a b) (o : Obj) : Kp g a (b.alloc o) := h.below ((Below.refl _ _).alloc (Nat.le_refl _) _)
theorem Kp.setCell (h : Kp g a b) {p : Addr} (hp : a.heap.size ≤ p.block) (v : Value) : Kp g a (b.setCell p v) :=
  ⟨h.os, h.tape, h.output, by simp [World.setCell]; exact h.size, fun k hk hg => (Below.heap_setCell b p v k (by omega)).trans (h.block k hk hg)⟩
theorem Kp.bl (h : Kp g a b) {k : Nat} {t : TypeId} {cs : Array Value} (hb : Bl a k t cs) (hg : k ≠ g) : Bl b k t cs := (h.block k hb.lt hg).trans hb
theorem Kp.own (h : Kp g a b) {base : Nat} {e : TypeId} {size n : Nat} {v : Value} {xs : List Value} (ho : a.ownsRow base e size v n xs) (hg : v.ownBlock ≠ some g) : b.ownsRow base e size v n xs :=
  own_of_block ho fun k hk => h.block k (own_lt ho k hk) (fun x => hg (by rw [hk, x]))
theorem Kp.under (h : Kp g a b) {B : Nat} {w : World} (hB : RowKit.Below B w a) (hs : B ≤ a.heap.size) (hg : B ≤ g) : RowKit.Below B w b :=
  hB.trans ⟨h.os, h.tape, h.output, h.size, fun k hk => h.block k (by omega) (by omega)⟩
end

theorem infoL : (Try.prog.info? 35).map (fun i => (i.zero, i.size, i.bytes)) = some (some (.agg #[.int .i64 0, .int .i64 0]), 2, 16) := by kernel_rfl
theorem infoC : (Try.prog.info? 33).map (fun i => (i.zero, i.size, i.bytes)) = some (some (.agg #[.int .i64 0, .int .i64 0, .string ⟨#[]⟩, .int .i64 0, .int .i64 0]), 5, 48) := by kernel_rfl

/-- The invoice while it is made: the source, the result's cells, the invoice's cells, its two rows. -/
structure InvSt (w wr : World) (A0 : Option Addr) (m0 c0 I gx : Nat) (cu : ByteArray) (day : Int) (A : Option Addr) (n c : Nat) (B : Option Addr) (m d : Nat) (ls : List (Int × Int)) (cs : List Chg) : Prop where
  src : Src wr (w.heap.size + 1) A0 m0 c0 I
  res : Bl wr w.heap.size 25 #[.string ⟨#[]⟩, .int .i64 0, .slice none 0 0, .slice none 0 0]
  box : Bl wr gx 25 #[.string cu, .int .i64 day, .slice A n c, .slice B m d]
  lines : wr.ownsRow w.heap.size 35 2 (.slice A n c) n (flat enc2 ls)
  chgs : wr.ownsRow w.heap.size 33 5 (.slice B m d) m (flat encC cs)
  bel : RowKit.Below w.heap.size w wr
  nl : ls.length = n
  nc : cs.length = m
  gx1 : w.heap.size + 1 < gx

theorem InvSt.kp {w a b : World} {A0 : Option Addr} {m0 c0 I I' gx : Nat} {cu : ByteArray} {day : Int} {A : Option Addr} {n c : Nat} {B : Option Addr} {m d : Nat} {ls : List (Int × Int)} {cs : List Chg}
    (h : InvSt w a A0 m0 c0 I gx cu day A n c B m d ls cs) (k : Kp (w.heap.size + 1) a b) (hS : Src b (w.heap.size + 1) A0 m0 c0 I') : InvSt w b A0 m0 c0 I' gx cu day A n c B m d ls cs :=
  ⟨hS, k.bl h.res (by omega), k.bl h.box (by have := h.gx1; omega), k.own h.lines (fun e => own_apart h.lines h.src (by decide) e.symm), k.own h.chgs (fun e => own_apart h.chgs h.src (by decide) e.symm), k.under h.bel h.bel.size (by omega), h.nl, h.nc, h.gx1⟩

/-- A line more. -/
theorem InvSt.line {w b b' w4 : World} {A0 : Option Addr} {m0 c0 I gx : Nat} {cu : ByteArray} {day : Int} {A : Option Addr} {n c : Nat} {B : Option Addr} {m d : Nat} {ls : List (Int × Int)} {cs : List Chg} {x : Int × Int} {o : Obj} {v4 : Value}
    (h : InvSt w b A0 m0 c0 I gx cu day A n c B m d ls cs) (hb' : b' = b.alloc o) (hg : b'.grownBy w4 (Value.slice A n c).ownBlock) (ho : w4.ownsRow w.heap.size 35 2 v4 (n + 1) (flat enc2 ls ++ enc2 x)) :
    ∃ A' c', v4 = .slice A' (n + 1) c' ∧ InvSt w (w4.setCell ⟨gx, 2, none⟩ v4) A0 m0 c0 I gx cu day A' (n + 1) c' B m d (ls ++ [x]) cs := by
  subst hb'
  obtain ⟨A', c', rfl⟩ := own_slice ho
  have e1 := own_apart h.lines h.src (by decide)
  have e2 := own_apart h.lines h.res (by decide)
  have e3 := own_apart h.lines h.box (by decide)
  have k1 : ∀ k, k < b.heap.size → some k ≠ (Value.slice A n c).ownBlock → w4.heap[k]? = b.heap[k]? := fun k hk hne => (hg.block k (by simp; omega) hne).trans (Below.heap_alloc b o k hk)
  have hS4 : Src w4 (w.heap.size + 1) A0 m0 c0 I := (k1 _ h.src.lt e1).trans h.src
  have hR4 : Bl w4 w.heap.size 25 _ := (k1 _ h.res.lt e2).trans h.res
  have hX4 : Bl w4 gx 25 _ := (k1 _ h.box.lt e3).trans h.box
  have hgx := h.gx1
  have hap : some gx ≠ (Value.slice A' (n + 1) c').ownBlock := own_apart ho hX4 (by decide)
  have hcl : (Value.slice A n c).ownBlock ≠ none → ∀ k, (Value.slice B m d).ownBlock = some k → some k ≠ (Value.slice A n c).ownBlock := fun _ k hk he => by
    rcases h.lines.2 with ⟨hv, _⟩ | ⟨g1, _, _, hv, _, hh, _⟩
    · injection hv with h1
      subst h1
      cases he
    · injection hv with h1
      subst h1
      have : k = g1 := by simpa [Value.ownBlock] using he
      subst this
      exact own_apart h.chgs (show Bl b k 35 _ from hh) (by decide) hk.symm
  have hbl : RowKit.Below w.heap.size w w4 := (h.bel.alloc h.bel.size o).grown hg (by have := h.bel.size; simp; omega) (fun g hg => own_base h.lines g hg)
  refine ⟨A', c', rfl, ?_, ?_, ?_, ?_, ?_, ?_, by simp [h.nl], h.nc, hgx⟩
  · exact hS4.far (p := ⟨gx, 2, none⟩) (by show w.heap.size + 1 ≠ gx; omega) _
  · exact hR4.far (p := ⟨gx, 2, none⟩) (by show w.heap.size ≠ gx; omega) _
  · simpa using hX4.put 2 (.slice A' (n + 1) c')
  · rw [flat_append, flat_one]
    exact own_of_block ho fun g' hg' => Below.heap_setCell w4 _ _ g' (fun e => hap (by rw [hg']; exact congrArg some e.symm))
  · refine own_of_block h.chgs fun g' hg' => ?_
    have hlt := own_lt h.chgs g' hg'
    have hne : some g' ≠ (Value.slice A n c).ownBlock := fun e => hcl (by rw [← e]; simp) g' hg' e
    have hnx : g' ≠ gx := fun e => own_apart h.chgs h.box (by decide) (by rw [hg', e])
    exact (Below.heap_setCell w4 ⟨gx, 2, none⟩ _ g' hnx).trans (k1 g' hlt hne)
  · exact hbl.setCell (p := ⟨gx, 2, none⟩) (by show w.heap.size ≤ gx; omega) _

/-- A charge more. -/
theorem InvSt.chg {w b b' w4 : World} {A0 : Option Addr} {m0 c0 I gx : Nat} {cu : ByteArray} {day : Int} {A : Option Addr} {n c : Nat} {B : Option Addr} {m d : Nat} {ls : List (Int × Int)} {cs : List Chg} {x : Chg} {o : Obj} {v4 : Value}
    (h : InvSt w b A0 m0 c0 I gx cu day A n c B m d ls cs) (hb' : b' = b.alloc o) (hg : b'.grownBy w4 (Value.slice B m d).ownBlock) (ho : w4.ownsRow w.heap.size 33 5 v4 (m + 1) (flat encC cs ++ encC x)) :
    ∃ B' d', v4 = .slice B' (m + 1) d' ∧ InvSt w (w4.setCell ⟨gx, 3, none⟩ v4) A0 m0 c0 I gx cu day A n c B' (m + 1) d' ls (cs ++ [x]) := by
  subst hb'
  obtain ⟨B', d', rfl⟩ := own_slice ho
  have e1 := own_apart h.chgs h.src (by decide)
  have e2 := own_apart h.chgs h.res (by decide)
  have e3 := own_apart h.chgs h.box (by decide)
  have k1 : ∀ k, k < b.heap.size → some k ≠ (Value.slice B m d).ownBlock → w4.heap[k]? = b.heap[k]? := fun k hk hne => (hg.block k (by simp; omega) hne).trans (Below.heap_alloc b o k hk)
  have hS4 : Src w4 (w.heap.size + 1) A0 m0 c0 I := (k1 _ h.src.lt e1).trans h.src
  have hR4 : Bl w4 w.heap.size 25 _ := (k1 _ h.res.lt e2).trans h.res
  have hX4 : Bl w4 gx 25 _ := (k1 _ h.box.lt e3).trans h.box
  have hgx := h.gx1
  have hap : some gx ≠ (Value.slice B' (m + 1) d').ownBlock := own_apart ho hX4 (by decide)
  have hcl : (Value.slice B m d).ownBlock ≠ none → ∀ k, (Value.slice A n c).ownBlock = some k → some k ≠ (Value.slice B m d).ownBlock := fun _ k hk he => by
    rcases h.chgs.2 with ⟨hv, _⟩ | ⟨g1, _, _, hv, _, hh, _⟩
    · injection hv with h1
      subst h1
      cases he
    · injection hv with h1
      subst h1
      have : k = g1 := by simpa [Value.ownBlock] using he
      subst this
      exact own_apart h.lines (show Bl b k 33 _ from hh) (by decide) hk.symm
  have hbl : RowKit.Below w.heap.size w w4 := (h.bel.alloc h.bel.size o).grown hg (by have := h.bel.size; simp; omega) (fun g hg => own_base h.chgs g hg)
  refine ⟨B', d', rfl, ?_, ?_, ?_, ?_, ?_, ?_, h.nl, by simp [h.nc], hgx⟩
  · exact hS4.far (p := ⟨gx, 3, none⟩) (by show w.heap.size + 1 ≠ gx; omega) _
  · exact hR4.far (p := ⟨gx, 3, none⟩) (by show w.heap.size ≠ gx; omega) _
  · simpa using hX4.put 3 (.slice B' (m + 1) d')
  · refine own_of_block h.lines fun g' hg' => ?_
    have hlt := own_lt h.lines g' hg'
    have hne : some g' ≠ (Value.slice B m d).ownBlock := fun e => hcl (by rw [← e]; simp) g' hg' e
    have hnx : g' ≠ gx := fun e => own_apart h.lines h.box (by decide) (by rw [hg', e])
    exact (Below.heap_setCell w4 ⟨gx, 3, none⟩ _ g' hnx).trans (k1 g' hlt hne)
  · rw [flat_append, flat_one]
    exact own_of_block ho fun g' hg' => Below.heap_setCell w4 _ _ g' (fun e => hap (by rw [hg']; exact congrArg some e.symm))
  · exact hbl.setCell (p := ⟨gx, 3, none⟩) (by show w.heap.size ≤ gx; omega) _

/-- What Invoice returns. -/
def InvRes (w : World) (e : Ending) (w' : World) : Prop := ∃ (cu : ByteArray) (day : Int) (A : Option Addr) (n c : Nat) (B : Option Addr) (m d : Nat) (ls : List (Int × Int)) (cs : List Chg),
  e = .returned (.agg #[.string cu, .int .i64 day, .slice A n c, .slice B m d]) ∧ cu.size = 3 ∧ invErr day ls cs = 0 ∧ n ≤ 6 ∧ m ≤ 5 ∧ (∀ x ∈ cs, x.cur.size = 3) ∧ ls.length = n ∧ cs.length = m ∧
  w'.ownsRow w.heap.size 35 2 (.slice A n c) n (flat enc2 ls) ∧ w'.ownsRow w.heap.size 33 5 (.slice B m d) m (flat encC cs) ∧ RowKit.Below w.heap.size w w'

theorem linesOk_snoc {ls : List (Int × Int)} (h : linesOk ls) {x : Int × Int} (hx : lineOk x) : linesOk (ls ++ [x]) := fun i hi => by
  by_cases e : i = ls.length
  · subst e; rw [get_snoc_last]; exact hx
  · rw [get_snoc _ _ _ (by simp at hi; omega)]; exact h i (by simp at hi; omega)
theorem chgsOk_snoc {n : Nat} {cs : List Chg} (h : chgsOk n cs) {x : Chg} (hx : chgOk n x) : chgsOk n (cs ++ [x]) := fun i hi => by
  by_cases e : i = cs.length
  · subst e; rw [get_snoc_last]; exact hx
  · rw [get_snoc _ _ _ (by simp at hi; omega)]; exact h i (by simp at hi; omega)

set_option maxRecDepth 100000 in
set_option maxHeartbeats 16000000 in
theorem invoice_any (A0 : Option Addr) (n0 c0 : Nat) (xs : List Int) (w : World) (h : Ints w A0 n0 xs) (hnc : n0 ≤ c0) (hcm : c0 ≤ 9223372036854775807) :
    Calls Try.prog 10 #[.slice A0 n0 c0] w (InvRes w) := by
  have hT := h.take (m := min n0 100) (by omega)
  obtain ⟨m0, hm⟩ : ∃ m, m = min n0 100 := ⟨_, rfl⟩
  have HC := Lib.hid (fun o => cut_any A0 n0 c0 100 xs (w.alloc o) (h.alloc o) hnc hcm (by omega) (by omega))
  unfold CutRes at HC
  rw [← hm] at hT HC
  have hm1 : m0 ≤ 100 := by omega
  clear hm h
  have HN : Hid (∀ (kk : Int) (I : Nat) (wx : World), 0 < kk → kk ≤ 4000000000000000000 → Src wx (w.heap.size + 1) A0 m0 c0 I → RowKit.Below w.heap.size w wx → Calls Try.prog 24 #[.pointer (some ⟨w.heap.size + 1, 0, none⟩), .int .i64 kk] wx (NextRes wx (w.heap.size + 1) A0 m0 c0 (nextV (xs.take m0) m0 I kk) (nextI m0 I))) := fun kk I wx h0 h1 hS hb => next_any (w.heap.size + 1) A0 m0 c0 I (xs.take m0) kk w wx hS hT hb (by omega) (by omega) h0 h1
  have HB : Hid (∀ (kk : Int) (I : Nat), 0 < kk → 0 ≤ nextV (xs.take m0) m0 I kk ∧ nextV (xs.take m0) m0 I kk < kk) := fun kk I hk => nextV_bounds _ _ _ _ hk
  generalize nextV (xs.take m0) m0 = nv at *
  generalize nextI m0 = ni at *
  go_enter Try.func10, Try.ntmps10
  go_wp2_with fail
  refine (HC.out _).mono ?_
  rintro e w' ⟨rfl, rfl⟩
  have hS0 : Src ((w.alloc (.cells #[.string ⟨#[]⟩, .int .i64 0, .slice none 0 0, .slice none 0 0] 25)).alloc (.cells #[.slice A0 m0 c0, .int .i64 0] 53)) (w.heap.size + 1) A0 m0 c0 0 := Bl.new1 _ _ _ _
  have hR0 : Bl ((w.alloc (.cells #[.string ⟨#[]⟩, .int .i64 0, .slice none 0 0, .slice none 0 0] 25)).alloc (.cells #[.slice A0 m0 c0, .int .i64 0] 53)) w.heap.size 25 #[.string ⟨#[]⟩, .int .i64 0, .slice none 0 0, .slice none 0 0] := (Bl.new w _ _).alloc _
  have hB0 : RowKit.Below w.heap.size w ((w.alloc (.cells #[.string ⟨#[]⟩, .int .i64 0, .slice none 0 0, .slice none 0 0] 25)).alloc (.cells #[.slice A0 m0 c0, .int .i64 0] 53)) := ((Below.refl _ _).alloc (Nat.le_refl _) _).alloc (by simp) _
  have hz0 : w.heap.size + 1 < ((w.alloc (.cells #[.string ⟨#[]⟩, .int .i64 0, .slice none 0 0, .slice none 0 0] 25)).alloc (.cells #[.slice A0 m0 c0, .int .i64 0] 53)).heap.size := by simp
  go_wp2_with fail
  generalize (w.alloc (.cells #[.string ⟨#[]⟩, .int .i64 0, .slice none 0 0, .slice none 0 0] 25)).alloc (.cells #[.slice A0 m0 c0, .int .i64 0] 53) = W at *
  have hK0 := Kp.refl (w.heap.size + 1) W
  have HN1 := Lib.hid (HN.out 4 0 W (by omega) (by omega) hS0 hB0)
  refine HN1.out.mono ?_
  rintro e w1 ⟨rfl, hO1, hS1⟩
  have hK1 := hK0.only hO1
  clear HN1 hO1
  generalize nv 0 4 = v1
  go_wp2_with fail
  refine (currency_any v1 w1).mono ?_
  rintro e w2 ⟨cu, rfl, hcu, hb2⟩
  have HCU := Lib.hid hcu
  clear hcu
  have hK2 := hK1.below hb2
  have hS2 : Src w2 (w.heap.size + 1) A0 m0 c0 (ni 0) := hS1.keep hb2
  have HN3 := Lib.hid (HN.out 80 (ni 0) w2 (by omega) (by omega) hS2 (hK2.under hB0 hB0.size (by omega)))
  have hb3 := HB.out 80 (ni 0) (by omega)
  obtain ⟨day, hv3⟩ : ∃ v, nv (ni 0) 80 = v := ⟨_, rfl⟩
  rw [hv3] at HN3 hb3
  clear hv3
  go_wp2_with fail
  refine HN3.out.mono ?_
  rintro e w3 ⟨rfl, hO3, hS3⟩
  have hK3 := hK2.only hO3
  have hz3 : w.heap.size + 1 < w3.heap.size := Nat.lt_of_lt_of_le hz0 hK3.size
  have hst : InvSt w (w3.alloc (.cells #[.string cu, .int .i64 day, .slice none 0 0, .slice none 0 0] 25)) A0 m0 c0 (ni (ni 0)) w3.heap.size cu day none 0 0 none 0 0 [] [] :=
    ⟨hS3.alloc _, (hK3.bl hR0 (by omega)).alloc _, Bl.new w3 _ _, ⟨rfl, .inl ⟨rfl, rfl⟩⟩, ⟨rfl, .inl ⟨rfl, rfl⟩⟩, (hK3.under hB0 hB0.size (by omega)).alloc (by omega) _, rfl, rfl, hz3⟩
  go_wp2_with fail
  generalize w3.alloc (.cells #[.string cu, .int .i64 day, .slice none 0 0, .slice none 0 0] 25) = W3 at *
  generalize w3.heap.size = gx at *
  generalize ni (ni 0) = I0 at *
  have hK4 := Kp.refl (w.heap.size + 1) W3
  have HN5 := Lib.hid (HN.out 8 I0 W3 (by omega) (by omega) hst.src hst.bel)
  obtain ⟨v5, hv5⟩ : ∃ v, nv I0 8 = v := ⟨_, rfl⟩
  rw [hv5] at HN5
  obtain ⟨big, hbig⟩ : ∃ b : Bool, (v5 == 1) = b := ⟨_, rfl⟩
  clear hv5 hS0 hR0 hB0 hz0 hK0 hK1 hK2 hK3 hS1 hS2 hS3 hb2 hO3 HN3 hz3
  refine HN5.out.mono ?_
  rintro e w5 ⟨rfl, hO5, hS5⟩
  have hst5 := hst.kp (hK4.only hO5) hS5
  have HN6 := Lib.hid (HN.out 6 (ni I0) w5 (by omega) (by omega) hst5.src hst5.bel)
  have hb6 := HB.out 6 (ni I0) (by omega)
  obtain ⟨v6, hv6⟩ : ∃ v, nv (ni I0) 6 = v := ⟨_, rfl⟩
  rw [hv6] at HN6 hb6
  clear hv6 hst hS5 hO5 hK4 HN5
  have hK5 := Kp.refl (w.heap.size + 1) w5
  go_wp2_with fail
  refine HN6.out.mono ?_
  rintro e w6 ⟨rfl, hO6, hS6⟩
  have hst6 := hst5.kp (hK5.only hO6) hS6
  clear hst5 hS6 hO6 hK5 HN6
  obtain ⟨r0, hr0⟩ : ∃ r : Nat, v6 = r := ⟨v6.toNat, by omega⟩
  subst hr0
  generalize ni (ni I0) = I6 at *
  go_wp2
  clear hbig
  go_loopw [6] (fun nn wr => ∃ (r I : Nat) (A : Option Addr) (n c : Nat) (ls : List (Int × Int)), r ≤ 6 ∧ nn = .int .i64 r ∧ n + r ≤ 6 ∧ 0 < n + r ∧ Hid (linesOk ls) ∧ InvSt w wr A0 m0 c0 I gx cu day A n c none 0 0 ls []) (fun nn _ => (intOf nn).toNat)
  case atStart => exact ⟨r0 + 1, I6, none, 0, 0, [], by omega, by go_num, by omega, by omega, fun i hi => absurd hi (by simp), hst6⟩
  case round =>
    clear hst6 hb6
    obtain ⟨r, I, A, n, c, ls, hr, rfl, hnr, hnp, HLS, hst⟩ := hrel
    by_cases hr0 : 0 < r
    · have hpos : (0 : Int) < (r : Int) := by omega
      have hgx := hst.gx1
      have hgl := hst.box.lt
      have hK0 := Kp.refl (w.heap.size + 1) wr
      have HN1 := Lib.hid (HN.out 100000 (I) wr (by omega) (by omega) hst.src (hK0.under hst.bel hst.bel.size (by omega)))
      have hb1 := HB.out 100000 (I) (by omega)
      obtain ⟨v1, hv1⟩ : ∃ v, nv (I) 100000 = v := ⟨_, rfl⟩
      rw [hv1] at HN1 hb1
      clear hv1
      go_wp2_with fail
      refine HN1.out.mono ?_
      rintro e w1 ⟨rfl, hO1, hS1⟩
      have hK1 := hK0.only hO1
      clear HN1 hO1
      have HN2 := Lib.hid (HN.out 50 (ni I) w1 (by omega) (by omega) hS1 (hK1.under hst.bel hst.bel.size (by omega)))
      have hb2 := HB.out 50 (ni I) (by omega)
      obtain ⟨v2, hv2⟩ : ∃ v, nv (ni I) 50 = v := ⟨_, rfl⟩
      rw [hv2] at HN2 hb2
      clear hv2
      go_wp2_with fail
      refine HN2.out.mono ?_
      rintro e w2 ⟨rfl, hO2, hS2⟩
      have hK2 := hK1.only hO2
      clear HN2 hO2
      obtain ⟨r', rfl⟩ : ∃ r', r = r' + 1 := ⟨r - 1, by omega⟩
      have hz2 := hK2.size
      have hK3 := hK2.alloc (.cells #[.int .i64 v1, .int .i64 v2] 35)
      have hS3 : Src (w2.alloc (.cells #[.int .i64 v1, .int .i64 v2] 35)) (w.heap.size + 1) A0 m0 c0 (ni (ni I)) := hS2.alloc _
      have hY3 := Bl.new w2 35 #[.int .i64 v1, .int .i64 v2]
      cases big with
      | false =>
        have hst3 := hst.kp hK3 hS3
        have y0 : (w2.alloc (.cells #[.int .i64 v1, .int .i64 v2] 35)).cell? ⟨w2.heap.size, 0, none⟩ = some (.int .i64 v1) := hY3.cell 0
        have y1 : (w2.alloc (.cells #[.int .i64 v1, .int .i64 v2] 35)).cell? ⟨w2.heap.size, 1, none⟩ = some (.int .i64 v2) := hY3.cell 1
        go_upto_region 10 with (fail)
        generalize w2.alloc (.cells #[.int .i64 v1, .int .i64 v2] 35) = W3 at *
        clear hK0 hK1 hK2 hK3 hS1 hS2 hS3 hst hY3
        have x2 : W3.cell? ⟨gx, 2, none⟩ = some (.slice A n c) := hst3.box.cell 2
        have HOW := Lib.hid (own_alloc hst3.lines (.cells #[.int .i64 v1, .int .i64 v2] 35))
        have HRD : Hid (Rd (W3.alloc (.cells #[.int .i64 v1, .int .i64 v2] 35)) 2 (some ⟨W3.heap.size, 0, none⟩) 1 (enc2 (v1, v2))) := rd_new W3 _ _
        have HSZ : Hid (w.heap.size ≤ (W3.alloc (.cells #[.int .i64 v1, .int .i64 v2] 35)).heap.size) := by have := hst3.bel.size; show _ ≤ _; simp; omega
        have HLN := Lib.hid (linesOk_snoc HLS.out (x := (v1, v2)) (by unfold lineOk; dsimp only; omega))
        have HM1 : Hid (n + 1 ≤ maxLen ∧ (n + 1) * 16 ≤ 140737488355328) := ⟨by unfold maxLen; omega, by omega⟩
        have hap := own_apart hst3.lines hst3.box (by decide)
        go_wp2_with (at_builtin; refine wpList_append_rd _ rfl (.tmp 40) (.tmp 42) 22 rfl w.heap.size 35 _ 2 16 Try.underlying22 infoL rfl (by decide) (.slice A n c) n (flat enc2 ls) rfl HOW.out (some ⟨W3.heap.size, 0, none⟩) 1 1 (enc2 (v1, v2)) rfl HRD.out (enc2_one _) HM1.out.1 HM1.out.2 HSZ.out ?_; intro v4 w4 ho4 hg4 _; obtain ⟨A', c', rfl, hst4⟩ := hst3.line rfl hg4 ho4; have y2 : w4.cell? ⟨gx, 2, none⟩ = some (.slice A n c) := hg4.cell (a := ⟨gx, 2, none⟩) ((Bl.alloc hst3.box _).cell 2) hap; have f2 : w4.frozen? ⟨gx, 2, none⟩ = false := Bl.free (show Bl w4 gx _ _ from (hg4.block gx (Bl.alloc hst3.box _).lt hap).trans (Bl.alloc hst3.box _)) 2)
        clear ho4 hg4 HOW HRD HSZ y2 f2 x2
        go_roundw
        case rel => exact ⟨r', _, A', n + 1, c', _, by omega, by go_num, by omega, by omega, HLN.out, hst4⟩
        case measure => simp [intOf] <;> omega
      | true =>
        have HN9 := Lib.hid (HN.out 1000000000001 (ni (ni I)) _ (by omega) (by omega) hS3 (hK3.under hst.bel hst.bel.size (by omega)))
        have hb9 := HB.out 1000000000001 (ni (ni I)) (by omega)
        obtain ⟨v9, hv9⟩ : ∃ v, nv (ni (ni I)) 1000000000001 = v := ⟨_, rfl⟩
        rw [hv9] at HN9 hb9
        clear hv9
        go_wp2_with fail
        refine HN9.out.mono ?_
        rintro e w9 ⟨rfl, hO9, hS9⟩
        have hY9 := hO9.bl hY3 (by omega)
        have k0 : w9.cell? ⟨w2.heap.size, 0, none⟩ = some (.int .i64 v1) := hY9.cell 0
        have k1 : w9.cell? ⟨w2.heap.size, 1, none⟩ = some (.int .i64 v2) := hY9.cell 1
        have kf : w9.frozen? ⟨w2.heap.size, 0, none⟩ = false := hY9.free 0
        have hK9 := hK3.only hO9
        have hK10 := hK9.setCell (p := ⟨w2.heap.size, 0, none⟩) hz2 (.int .i64 v9)
        have hS10 : Src (w9.setCell ⟨w2.heap.size, 0, none⟩ (.int .i64 v9)) (w.heap.size + 1) A0 m0 c0 (ni (ni (ni I))) := hS9.far (p := ⟨w2.heap.size, 0, none⟩) (by show w.heap.size + 1 ≠ w2.heap.size; omega) _
        have hY10 := hY9.put 0 (.int .i64 v9)
        have hst10 := hst.kp hK10 hS10
        have y0 : (w9.setCell ⟨w2.heap.size, 0, none⟩ (.int .i64 v9)).cell? ⟨w2.heap.size, 0, none⟩ = some (.int .i64 v9) := hY10.cell 0
        have y1 : (w9.setCell ⟨w2.heap.size, 0, none⟩ (.int .i64 v9)).cell? ⟨w2.heap.size, 1, none⟩ = some (.int .i64 v2) := hY10.cell 1
        go_upto_region 10 with (fail)
        generalize w9.setCell ⟨w2.heap.size, 0, none⟩ (.int .i64 v9) = W10 at *
        clear hK0 hK1 hK2 hK3 hS1 hS2 hS3 hst hY3 hY9 hK9 hK10 hS9 hS10 hY10 HN9 hO9 k0 k1 kf
        have x2 : W10.cell? ⟨gx, 2, none⟩ = some (.slice A n c) := hst10.box.cell 2
        have HOW := Lib.hid (own_alloc hst10.lines (.cells #[.int .i64 v9, .int .i64 v2] 35))
        have HRD : Hid (Rd (W10.alloc (.cells #[.int .i64 v9, .int .i64 v2] 35)) 2 (some ⟨W10.heap.size, 0, none⟩) 1 (enc2 (v9, v2))) := rd_new W10 _ _
        have HSZ : Hid (w.heap.size ≤ (W10.alloc (.cells #[.int .i64 v9, .int .i64 v2] 35)).heap.size) := by have := hst10.bel.size; show _ ≤ _; simp; omega
        have HLN := Lib.hid (linesOk_snoc HLS.out (x := (v9, v2)) (by unfold lineOk; dsimp only; omega))
        have HM1 : Hid (n + 1 ≤ maxLen ∧ (n + 1) * 16 ≤ 140737488355328) := ⟨by unfold maxLen; omega, by omega⟩
        have hap := own_apart hst10.lines hst10.box (by decide)
        go_wp2_with (at_builtin; refine wpList_append_rd _ rfl (.tmp 40) (.tmp 42) 22 rfl w.heap.size 35 _ 2 16 Try.underlying22 infoL rfl (by decide) (.slice A n c) n (flat enc2 ls) rfl HOW.out (some ⟨W10.heap.size, 0, none⟩) 1 1 (enc2 (v9, v2)) rfl HRD.out (enc2_one _) HM1.out.1 HM1.out.2 HSZ.out ?_; intro v4 w4 ho4 hg4 _; obtain ⟨A', c', rfl, hst4⟩ := hst10.line rfl hg4 ho4; have y2 : w4.cell? ⟨gx, 2, none⟩ = some (.slice A n c) := hg4.cell (a := ⟨gx, 2, none⟩) ((Bl.alloc hst10.box _).cell 2) hap; have f2 : w4.frozen? ⟨gx, 2, none⟩ = false := Bl.free (show Bl w4 gx _ _ from (hg4.block gx (Bl.alloc hst10.box _).lt hap).trans (Bl.alloc hst10.box _)) 2)
        clear ho4 hg4 HOW HRD HSZ y2 f2 x2
        go_roundw
        case rel => exact ⟨r', _, A', n + 1, c', _, by omega, by go_num, by omega, by omega, HLN.out, hst4⟩
        case measure => simp [intOf] <;> omega
    · obtain rfl : r = 0 := by omega
      have hn1 : 0 < n := by omega
      have hn6 : n ≤ 6 := by omega
      have hgx := hst.gx1
      have HN1 := Lib.hid (HN.out 6 I wr (by omega) (by omega) hst.src hst.bel)
      have hb1 := HB.out 6 I (by omega)
      obtain ⟨v1, hv1⟩ : ∃ v, nv I 6 = v := ⟨_, rfl⟩
      rw [hv1] at HN1 hb1
      clear hv1
      have hK0 := Kp.refl (w.heap.size + 1) wr
      go_wp2_with fail
      refine HN1.out.mono ?_
      rintro e w1 ⟨rfl, hO1, hS1⟩
      have hst1 := hst.kp (hK0.only hO1) hS1
      clear hst hS1 hO1 hK0 HN1
      obtain ⟨r1, hr1⟩ : ∃ r : Nat, v1 = r := ⟨v1.toNat, by omega⟩
      subst hr1
      go_wp2
      go_loopw [8] (fun nn wr => ∃ (r I : Nat) (B : Option Addr) (m d : Nat) (cs : List Chg), r ≤ 5 ∧ nn = .int .i64 r ∧ m + r ≤ 5 ∧ Hid (chgsOk n cs ∧ ∀ x ∈ cs, x.cur.size = 3) ∧ InvSt w wr A0 m0 c0 I gx cu day A n c B m d ls cs) (fun nn _ => (intOf nn).toNat)
      case atStart => exact ⟨r1, _, none, 0, 0, [], by omega, rfl, by omega, ⟨fun i hi => absurd hi (by simp), by simp⟩, hst1⟩
      case round =>
        clear hst1 hb1
        obtain ⟨r, I, B, m, d, cs, hr, rfl, hmr, HCS, hst⟩ := hrel
        have x2 : wr.cell? ⟨gx, 2, none⟩ = some (.slice A n c) := hst.box.cell 2
        by_cases hr0 : 0 < r
        · have hpos : (0 : Int) < (r : Int) := by omega
          have hgl := hst.box.lt
          have hK0 := Kp.refl (w.heap.size + 1) wr
          have HN1 := Lib.hid (HN.out 9 (I) wr (by omega) (by omega) hst.src (hK0.under hst.bel hst.bel.size (by omega)))
          have hb1 := HB.out 9 (I) (by omega)
          obtain ⟨v1, hv1⟩ : ∃ v, nv (I) 9 = v := ⟨_, rfl⟩
          rw [hv1] at HN1 hb1
          clear hv1
          go_wp2_with fail
          refine HN1.out.mono ?_
          rintro e w1 ⟨rfl, hO1, hS1⟩
          have hK1 := hK0.only hO1
          clear HN1 hO1
          have HN2 := Lib.hid (HN.out 5000 (ni I) w1 (by omega) (by omega) hS1 (hK1.under hst.bel hst.bel.size (by omega)))
          have hb2 := HB.out 5000 (ni I) (by omega)
          obtain ⟨v2, hv2⟩ : ∃ v, nv (ni I) 5000 = v := ⟨_, rfl⟩
          rw [hv2] at HN2 hb2
          clear hv2
          go_wp2_with fail
          refine HN2.out.mono ?_
          rintro e w2 ⟨rfl, hO2, hS2⟩
          have hK2 := hK1.only hO2
          clear HN2 hO2
          have HN3 := Lib.hid (HN.out 4 (ni (ni I)) w2 (by omega) (by omega) hS2 (hK2.under hst.bel hst.bel.size (by omega)))
          have hb3 := HB.out 4 (ni (ni I)) (by omega)
          obtain ⟨v3, hv3⟩ : ∃ v, nv (ni (ni I)) 4 = v := ⟨_, rfl⟩
          rw [hv3] at HN3 hb3
          clear hv3
          go_wp2_with fail
          refine HN3.out.mono ?_
          rintro e w3 ⟨rfl, hO3, hS3⟩
          have hK3 := hK2.only hO3
          clear HN3 hO3
          go_wp2_with fail
          refine (currency_any v3 w3).mono ?_
          rintro e w4 ⟨cc, rfl, hcc, hb4⟩
          have HCC := Lib.hid hcc
          clear hcc
          have hK4 := hK3.below hb4
          have hS4 : Src w4 (w.heap.size + 1) A0 m0 c0 (ni (ni (ni I))) := hS3.keep hb4
          have HN5 := Lib.hid (HN.out 3 (ni (ni (ni I))) w4 (by omega) (by omega) hS4 (hK4.under hst.bel hst.bel.size (by omega)))
          have hb5 := HB.out 3 (ni (ni (ni I))) (by omega)
          obtain ⟨v5, hv5⟩ : ∃ v, nv (ni (ni (ni I))) 3 = v := ⟨_, rfl⟩
          rw [hv5] at HN5 hb5
          clear hv5
          go_wp2_with fail
          refine HN5.out.mono ?_
          rintro e w5 ⟨rfl, hO5, hS5⟩
          have hK5 := hK4.only hO5
          clear HN5 hO5
          obtain ⟨r', rfl⟩ : ∃ r', r = r' + 1 := ⟨r - 1, by omega⟩
          have hz5 := hK5.size
          have hK6 := hK5.alloc (.cells #[.int .i64 (1 + v1), .int .i64 v2, .string cc, .int .i64 (1 + v5), .int .i64 0] 33)
          have hS6 : Src (w5.alloc (.cells #[.int .i64 (1 + v1), .int .i64 v2, .string cc, .int .i64 (1 + v5), .int .i64 0] 33)) (w.heap.size + 1) A0 m0 c0 (ni (ni (ni (ni I)))) := hS5.alloc _
          have hY6 := Bl.new w5 33 #[.int .i64 (1 + v1), .int .i64 v2, .string cc, .int .i64 (1 + v5), .int .i64 0]
          have HSN : Hid (∀ l : Int, 0 ≤ l → (1 + v5 = 3 → l < n) → (1 + v5 ≠ 3 → l = 0) → chgsOk n (cs ++ [(⟨1 + v1, v2, cc, 1 + v5, l⟩ : Chg)]) ∧ ∀ x ∈ cs ++ [(⟨1 + v1, v2, cc, 1 + v5, l⟩ : Chg)], x.cur.size = 3) := fun l h1 h2 h3 => ⟨chgsOk_snoc HCS.out.1 (by unfold chgOk; dsimp only; omega), fun x hx => by
            rcases List.mem_append.1 hx with hx | hx
            · exact HCS.out.2 x hx
            · simp at hx; subst hx; exact HCC.out⟩
          by_cases g3 : v5 = 2
          · have b3 : (1 + v5 == 3) = true := by simp; omega
            have hst6 := hst.kp hK6 hS6
            have hx6 := hst6.box
            have z2 : (w5.alloc (.cells #[.int .i64 (1 + v1), .int .i64 v2, .string cc, .int .i64 (1 + v5), .int .i64 0] 33)).cell? ⟨gx, 2, none⟩ = some (.slice A n c) := hx6.cell 2
            have HN9 := Lib.hid (HN.out (n : Int) (ni (ni (ni (ni I)))) _ (by omega) (by omega) hS6 hst6.bel)
            have hb9 := HB.out (n : Int) (ni (ni (ni (ni I)))) (by omega)
            obtain ⟨v9, hv9⟩ : ∃ v, nv (ni (ni (ni (ni I)))) (n : Int) = v := ⟨_, rfl⟩
            rw [hv9] at HN9 hb9
            clear hv9
            have hgne : gx ≠ w5.heap.size := by omega
            have G3 := Lib.hid g3
            clear g3
            go_wp2_with fail
            refine HN9.out.mono ?_
            rintro e w9 ⟨rfl, hO9, hS9⟩
            have hY9 := hO9.bl hY6 (by omega)
            have k0 : w9.cell? ⟨w5.heap.size, 0, none⟩ = some (.int .i64 (1 + v1)) := hY9.cell 0
            have k1 : w9.cell? ⟨w5.heap.size, 1, none⟩ = some (.int .i64 v2) := hY9.cell 1
            have k2 : w9.cell? ⟨w5.heap.size, 2, none⟩ = some (.string cc) := hY9.cell 2
            have k3 : w9.cell? ⟨w5.heap.size, 3, none⟩ = some (.int .i64 (1 + v5)) := hY9.cell 3
            have k4 : w9.cell? ⟨w5.heap.size, 4, none⟩ = some (.int .i64 0) := hY9.cell 4
            have kf : w9.frozen? ⟨w5.heap.size, 4, none⟩ = false := hY9.free 4
            have hK9 := hK6.only hO9
            have hK10 := hK9.setCell (p := ⟨w5.heap.size, 4, none⟩) hz5 (.int .i64 v9)
            have hS10 : Src (w9.setCell ⟨w5.heap.size, 4, none⟩ (.int .i64 v9)) (w.heap.size + 1) A0 m0 c0 (ni (ni (ni (ni (ni I))))) := hS9.far (p := ⟨w5.heap.size, 4, none⟩) (by show w.heap.size + 1 ≠ w5.heap.size; omega) _
            have hY10 := hY9.put 4 (.int .i64 v9)
            have hst10 := hst.kp hK10 hS10
            have y0 : (w9.setCell ⟨w5.heap.size, 4, none⟩ (.int .i64 v9)).cell? ⟨w5.heap.size, 0, none⟩ = some (.int .i64 (1 + v1)) := hY10.cell 0
            have y1 : (w9.setCell ⟨w5.heap.size, 4, none⟩ (.int .i64 v9)).cell? ⟨w5.heap.size, 1, none⟩ = some (.int .i64 v2) := hY10.cell 1
            have y3 : (w9.setCell ⟨w5.heap.size, 4, none⟩ (.int .i64 v9)).cell? ⟨w5.heap.size, 2, none⟩ = some (.string cc) := hY10.cell 2
            have y4 : (w9.setCell ⟨w5.heap.size, 4, none⟩ (.int .i64 v9)).cell? ⟨w5.heap.size, 3, none⟩ = some (.int .i64 (1 + v5)) := hY10.cell 3
            have y5 : (w9.setCell ⟨w5.heap.size, 4, none⟩ (.int .i64 v9)).cell? ⟨w5.heap.size, 4, none⟩ = some (.int .i64 v9) := hY10.cell 4
            go_upto_region 17 with (fail)
            generalize w9.setCell ⟨w5.heap.size, 4, none⟩ (.int .i64 v9) = W10 at *
            clear hK0 hK1 hK2 hK3 hK4 hK5 hK6 hS1 hS2 hS3 hS4 hS5 hS6 hst hst6 hx6 hY6 hY9 hK9 hK10 hS9 hS10 hY10 HN9 hO9 k0 k1 k2 k3 k4 kf hb4 x2 z2
            have x3 : W10.cell? ⟨gx, 3, none⟩ = some (.slice B m d) := hst10.box.cell 3
            have HOW := Lib.hid (own_alloc hst10.chgs (.cells #[.int .i64 (1 + v1), .int .i64 v2, .string cc, .int .i64 (1 + v5), .int .i64 v9] 33))
            have HRD : Hid (Rd (W10.alloc (.cells #[.int .i64 (1 + v1), .int .i64 v2, .string cc, .int .i64 (1 + v5), .int .i64 v9] 33)) 5 (some ⟨W10.heap.size, 0, none⟩) 1 (encC (⟨1 + v1, v2, cc, 1 + v5, v9⟩ : Chg))) := rd_new W10 _ _
            have HSZ : Hid (w.heap.size ≤ (W10.alloc (.cells #[.int .i64 (1 + v1), .int .i64 v2, .string cc, .int .i64 (1 + v5), .int .i64 v9] 33)).heap.size) := by have := hst10.bel.size; show _ ≤ _; simp; omega
            have HLN := Lib.hid (HSN.out v9 hb9.1 (fun _ => hb9.2) (fun x => absurd (by have := G3.out; omega) x))
            have HM1 : Hid (m + 1 ≤ maxLen ∧ (m + 1) * 48 ≤ 140737488355328) := ⟨by unfold maxLen; omega, by omega⟩
            have hap := own_apart hst10.chgs hst10.box (by decide)
            go_wp2_with (at_builtin; refine wpList_append_rd _ rfl (.tmp 73) (.tmp 75) 23 rfl w.heap.size 33 _ 5 48 Try.underlying23 infoC rfl (by decide) (.slice B m d) m (flat encC cs) rfl HOW.out (some ⟨W10.heap.size, 0, none⟩) 1 1 (encC (⟨1 + v1, v2, cc, 1 + v5, v9⟩ : Chg)) rfl HRD.out (encC_one _) HM1.out.1 HM1.out.2 HSZ.out ?_; intro v4 w7 ho4 hg4 _; obtain ⟨B', d', rfl, hst4⟩ := hst10.chg rfl hg4 ho4; have y2 : w7.cell? ⟨gx, 3, none⟩ = some (.slice B m d) := hg4.cell (a := ⟨gx, 3, none⟩) ((Bl.alloc hst10.box _).cell 3) hap; have f2 : w7.frozen? ⟨gx, 3, none⟩ = false := Bl.free (show Bl w7 gx _ _ from (hg4.block gx (Bl.alloc hst10.box _).lt hap).trans (Bl.alloc hst10.box _)) 3)
            clear ho4 hg4 HOW HRD HSZ y2 f2 x3
            go_roundw
            case rel => exact ⟨r', _, B', m + 1, d', _, by omega, by go_num, by omega, HLN.out, hst4⟩
            case measure => simp [intOf] <;> omega
          · have b3 : (1 + v5 == 3) = false := by simp; omega
            have hst6 := hst.kp hK6 hS6
            have y0 : (w5.alloc (.cells #[.int .i64 (1 + v1), .int .i64 v2, .string cc, .int .i64 (1 + v5), .int .i64 0] 33)).cell? ⟨w5.heap.size, 0, none⟩ = some (.int .i64 (1 + v1)) := hY6.cell 0
            have y1 : (w5.alloc (.cells #[.int .i64 (1 + v1), .int .i64 v2, .string cc, .int .i64 (1 + v5), .int .i64 0] 33)).cell? ⟨w5.heap.size, 1, none⟩ = some (.int .i64 v2) := hY6.cell 1
            have y3 : (w5.alloc (.cells #[.int .i64 (1 + v1), .int .i64 v2, .string cc, .int .i64 (1 + v5), .int .i64 0] 33)).cell? ⟨w5.heap.size, 2, none⟩ = some (.string cc) := hY6.cell 2
            have y4 : (w5.alloc (.cells #[.int .i64 (1 + v1), .int .i64 v2, .string cc, .int .i64 (1 + v5), .int .i64 0] 33)).cell? ⟨w5.heap.size, 3, none⟩ = some (.int .i64 (1 + v5)) := hY6.cell 3
            have y5 : (w5.alloc (.cells #[.int .i64 (1 + v1), .int .i64 v2, .string cc, .int .i64 (1 + v5), .int .i64 0] 33)).cell? ⟨w5.heap.size, 4, none⟩ = some (.int .i64 0) := hY6.cell 4
            go_upto_region 17 with (fail)
            generalize w5.alloc (.cells #[.int .i64 (1 + v1), .int .i64 v2, .string cc, .int .i64 (1 + v5), .int .i64 0] 33) = W10 at *
            clear hK0 hK1 hK2 hK3 hK4 hK5 hK6 hS1 hS2 hS3 hS4 hS5 hS6 hst hY6 hb4 x2
            have x3 : W10.cell? ⟨gx, 3, none⟩ = some (.slice B m d) := hst6.box.cell 3
            have HOW := Lib.hid (own_alloc hst6.chgs (.cells #[.int .i64 (1 + v1), .int .i64 v2, .string cc, .int .i64 (1 + v5), .int .i64 0] 33))
            have HRD : Hid (Rd (W10.alloc (.cells #[.int .i64 (1 + v1), .int .i64 v2, .string cc, .int .i64 (1 + v5), .int .i64 0] 33)) 5 (some ⟨W10.heap.size, 0, none⟩) 1 (encC (⟨1 + v1, v2, cc, 1 + v5, 0⟩ : Chg))) := rd_new W10 _ _
            have HSZ : Hid (w.heap.size ≤ (W10.alloc (.cells #[.int .i64 (1 + v1), .int .i64 v2, .string cc, .int .i64 (1 + v5), .int .i64 0] 33)).heap.size) := by have := hst6.bel.size; show _ ≤ _; simp; omega
            have HLN := Lib.hid (HSN.out 0 (by omega) (fun x => absurd x (by omega)) (fun _ => rfl))
            have HM1 : Hid (m + 1 ≤ maxLen ∧ (m + 1) * 48 ≤ 140737488355328) := ⟨by unfold maxLen; omega, by omega⟩
            have hap := own_apart hst6.chgs hst6.box (by decide)
            go_wp2_with (at_builtin; refine wpList_append_rd _ rfl (.tmp 73) (.tmp 75) 23 rfl w.heap.size 33 _ 5 48 Try.underlying23 infoC rfl (by decide) (.slice B m d) m (flat encC cs) rfl HOW.out (some ⟨W10.heap.size, 0, none⟩) 1 1 (encC (⟨1 + v1, v2, cc, 1 + v5, 0⟩ : Chg)) rfl HRD.out (encC_one _) HM1.out.1 HM1.out.2 HSZ.out ?_; intro v4 w7 ho4 hg4 _; obtain ⟨B', d', rfl, hst4⟩ := hst6.chg rfl hg4 ho4; have y2 : w7.cell? ⟨gx, 3, none⟩ = some (.slice B m d) := hg4.cell (a := ⟨gx, 3, none⟩) ((Bl.alloc hst6.box _).cell 3) hap; have f2 : w7.frozen? ⟨gx, 3, none⟩ = false := Bl.free (show Bl w7 gx _ _ from (hg4.block gx (Bl.alloc hst6.box _).lt hap).trans (Bl.alloc hst6.box _)) 3)
            clear ho4 hg4 HOW HRD HSZ y2 f2 x3
            go_roundw
            case rel => exact ⟨r', _, B', m + 1, d', _, by omega, by go_num, by omega, HLN.out, hst4⟩
            case measure => simp [intOf] <;> omega
        · obtain rfl : r = 0 := by omega
          have y0 : wr.cell? ⟨gx, 0, none⟩ = some (.string cu) := hst.box.cell 0
          have y1 : wr.cell? ⟨gx, 1, none⟩ = some (.int .i64 day) := hst.box.cell 1
          have y3 : wr.cell? ⟨gx, 3, none⟩ = some (.slice B m d) := hst.box.cell 3
          have z0 : wr.cell? ⟨w.heap.size, 0, none⟩ = some (.string ⟨#[]⟩) := hst.res.cell 0
          have z1 : wr.cell? ⟨w.heap.size, 1, none⟩ = some (.int .i64 0) := hst.res.cell 1
          have z2 : wr.cell? ⟨w.heap.size, 2, none⟩ = some (.slice none 0 0) := hst.res.cell 2
          have z3 : wr.cell? ⟨w.heap.size, 3, none⟩ = some (.slice none 0 0) := hst.res.cell 3
          have f0 : wr.frozen? ⟨w.heap.size, 0, none⟩ = false := hst.res.free 0
          have f1 : wr.frozen? ⟨w.heap.size, 1, none⟩ = false := hst.res.free 1
          have f2 : wr.frozen? ⟨w.heap.size, 2, none⟩ = false := hst.res.free 2
          have f3 : wr.frozen? ⟨w.heap.size, 3, none⟩ = false := hst.res.free 3
          have HIE : Hid (invErr day ls cs = 0) := invErr_ok (by have := hst.nl; omega) (by have := hst.nl; omega) (by have := hst.nc; omega) hb3.1 (by omega) HLS.out (by rw [hst.nl]; exact HCS.out.1)
          have e1 := own_apart hst.lines hst.res (by decide)
          have e2 := own_apart hst.chgs hst.res (by decide)
          have hsz := hst.bel.size
          go_wp2
          refine bodyPost_ret (v := .agg #[.string cu, .int .i64 day, .slice A n c, .slice B m d]) (by simp [results, Try.results10, go_sem, z0, z1, z2, z3]) rfl ⟨cu, day, A, n, c, B, m, d, ls, cs, rfl, HCU.out, HIE.out, hn6, by omega, HCS.out.2, hst.nl, hst.nc, ?_, ?_, ?_⟩
          · refine own_of_block hst.lines fun g' hg' => ?_
            have hne : g' ≠ w.heap.size := fun e => e1 (by rw [hg', e])
            rw [Below.heap_setCell _ _ _ g' hne, Below.heap_setCell _ _ _ g' hne, Below.heap_setCell _ _ _ g' hne, Below.heap_setCell _ _ _ g' hne]
          · refine own_of_block hst.chgs fun g' hg' => ?_
            have hne : g' ≠ w.heap.size := fun e => e2 (by rw [hg', e])
            rw [Below.heap_setCell _ _ _ g' hne, Below.heap_setCell _ _ _ g' hne, Below.heap_setCell _ _ _ g' hne, Below.heap_setCell _ _ _ g' hne]
          · exact (((hst.bel.setCell (p := ⟨w.heap.size, 0, none⟩) (Nat.le_refl _) _).setCell (p := ⟨w.heap.size, 1, none⟩) (Nat.le_refl _) _).setCell (p := ⟨w.heap.size, 2, none⟩) (Nat.le_refl _) _).setCell (p := ⟨w.heap.size, 3, none⟩) (Nat.le_refl _) _
end Go.Proofs.Ytknbbamlpadfdaa

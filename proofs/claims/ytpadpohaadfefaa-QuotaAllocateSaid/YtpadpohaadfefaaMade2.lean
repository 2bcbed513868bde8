/-
  Contracts of customsmade's Cut, Small and Requests. No statement of the seat is proved here. Conditions: the list reads as integers, its length is at most its capacity.
-/
import Derived.Test.YtpadpohaadfefaaMade
import Derived.Test.YtpadpohaadfefaaValid21
import Derived.Deep.DeepMust
namespace Go.Proofs.Ytpadpohaadfefaa
open Go.RowKit
set_option linter.unusedVariables false

/-- A cut of a list of integers. -/
def CutRes (w : World) (A : Option Addr) (n c m : Nat) (xs : List Int) (e : Ending) (w' : World) : Prop := e = .returned (.slice A (min n m) c) ∧ w = w'

set_option maxHeartbeats 1000000 in
theorem cut_any (A : Option Addr) (n c m : Nat) (xs : List Int) (w : World) (h : Ints w A n xs) (hnc : n ≤ c) (hcm : c ≤ 9223372036854775807) (hm0 : 0 < m) (hm : m ≤ 1000000) :
    Calls Try.prog 34 #[.slice A n c, .int .i64 m] w (CutRes w A n c m xs) := by
  by_cases hl : m < n
  · obtain ⟨b, off, rfl, _⟩ := h.2 (by omega)
    have e : min n m = m := by omega
    unfold CutRes
    rw [e]
    clear e
    have d : (m : Int) < (n : Int) := by omega
    go_enter Try.func34, Try.ntmps34
    go_wp2
    go_ret
    exact ⟨rfl, rfl⟩
  · have e : min n m = n := by omega
    unfold CutRes
    rw [e]
    clear e
    go_enter Try.func34, Try.ntmps34
    go_wp2
    go_ret
    exact ⟨rfl, rfl⟩

def SmallRes (w : World) (g : Nat) (A : Option Addr) (n c I : Nat) (m : Int) (e : Ending) (w' : World) : Prop :=
  ∃ (v : Int) (I' : Nat), e = .returned (.int .i64 v) ∧ 0 ≤ v ∧ v < m ∧ I ≤ I' ∧ (I ≤ n → I' ≤ n) ∧ Only g w w' ∧ Src w' g A n c I'

set_option maxHeartbeats 1000000 in
theorem small_any (g : Nat) (A : Option Addr) (n c I : Nat) (xs : List Int) (few m : Int) (w0 w : World) (hS : Src w g A n c I) (hI : Ints w0 A n xs) (hb : RowKit.Below w0.heap.size w0 w) (hg : w0.heap.size ≤ g) (hn : n ≤ 1000000) (hf : 0 < few) (hfm : few ≤ m) (hm' : m ≤ 4000000000000000000) :
    Calls Try.prog 48 #[.pointer (some ⟨g, 0, none⟩), .int .i64 few, .int .i64 m] w (SmallRes w g A n c I m) := by
  have b1 := nextV_bounds xs n I 5 (by omega)
  have hl1 := nextI_ge n I
  have hl2 := nextI_le n I
  by_cases h4 : nextV xs n I 5 = 4
  · have hb4 : (nextV xs n I 5 == 4) = true := by simpa using h4
    have b2 := nextV_bounds xs n (nextI n I) m (by omega)
    have hl3 := nextI_ge n (nextI n I)
    have hl4 := nextI_le n (nextI n I)
    clear h4
    go_enter Try.func48, Try.ntmps48
    go_wp2_with fail
    refine (next_any g A n c I xs 5 w0 w hS hI hb hg hn (by omega) (by omega)).mono ?_
    rintro e w1 ⟨rfl, hO1, hS1⟩
    have hB1 := hb.trans ((hO1.below hg))
    generalize nextV xs n I 5 = v1 at *
    go_wp2_with fail
    refine (next_any g A n c _ xs m w0 w1 hS1 hI hB1 hg hn (by omega) hm').mono ?_
    rintro e w2 ⟨rfl, hO2, hS2⟩
    go_wp2
    go_ret
    exact ⟨_, _, rfl, b2.1, b2.2, by omega, fun h => hl4 (hl2 h), hO1.trans hO2, hS2⟩
  · have hb4 : (nextV xs n I 5 == 4) = false := by simpa using h4
    have b2 := nextV_bounds xs n (nextI n I) few hf
    have hl3 := nextI_ge n (nextI n I)
    have hl4 := nextI_le n (nextI n I)
    clear h4
    go_enter Try.func48, Try.ntmps48
    go_wp2_with fail
    refine (next_any g A n c I xs 5 w0 w hS hI hb hg hn (by omega) (by omega)).mono ?_
    rintro e w1 ⟨rfl, hO1, hS1⟩
    have hB1 := hb.trans ((hO1.below hg))
    generalize nextV xs n I 5 = v1 at *
    go_wp2_with fail
    refine (next_any g A n c _ xs few w0 w1 hS1 hI hB1 hg hn hf (by omega)).mono ?_
    rintro e w2 ⟨rfl, hO2, hS2⟩
    go_wp2
    go_ret
    exact ⟨_, _, rfl, b2.1, by omega, by omega, fun h => hl4 (hl2 h), hO1.trans hO2, hS2⟩

/-- The place of a source in a world. -/
def srcI (w : World) (g : Nat) : Nat := match w.cell? ⟨g, 1, none⟩ with | some v => (intOf v).toNat | none => 0
theorem Src.at_ {w : World} {g : Nat} {A : Option Addr} {n c I : Nat} (h : Src w g A n c I) : srcI w g = I := by
  unfold srcI
  rw [show w.cell? ⟨g, 1, none⟩ = some (.int .i64 I) from h.cell 1]
  simp [intOf]

/-- A row of the call's own and a block of another element type lie apart. -/
theorem own_apart {w : World} {base : Nat} {e t : TypeId} {size n g : Nat} {v : Value} {xs : List Value} {cs : Array Value} (h : w.ownsRow base e size v n xs) (hg : Bl w g t cs) (hne : e ≠ t) : some g ≠ v.ownBlock := by
  rcases h.2 with ⟨rfl, _⟩ | ⟨g', cap, cur, rfl, _, hh, _⟩
  · simp [Value.ownBlock]
  · intro he
    have : g = g' := by simpa [Value.ownBlock] using he
    subst this
    unfold Bl at hg
    rw [hh] at hg
    injection hg with hg
    injection hg with _ ht
    exact hne ht

section
variable {w w' : World} {base : Nat} {e : TypeId} {size n : Nat} {v : Value} {xs : List Value}
theorem own_of_block (h : w.ownsRow base e size v n xs) (hk : ∀ g, v.ownBlock = some g → w'.heap[g]? = w.heap[g]?) : w'.ownsRow base e size v n xs := by
  refine ⟨h.1, ?_⟩
  rcases h.2 with h1 | ⟨g, cap, cur, h1, h2, h3, h4⟩
  · exact .inl h1
  · exact .inr ⟨g, cap, cur, h1, h2, (hk g (by rw [h1]; rfl)).trans h3, h4⟩
theorem own_drewN (h : w.ownsRow base e size v n xs) (q : Nat) : (w.drewN q).ownsRow base e size v n xs := h
theorem own_keep (h : w.ownsRow base e size v n xs) {g : Nat} (hO : Only g w w') (hne : some g ≠ v.ownBlock) : w'.ownsRow base e size v n xs :=
  own_of_block h fun g' hg' => hO.block g' (fun e => hne (by rw [hg', e]))
theorem own_lt (h : w.ownsRow base e size v n xs) (g : Nat) (hg : v.ownBlock = some g) : g < w.heap.size := by
  rcases h.2 with ⟨rfl, rfl⟩ | ⟨g', cap, cur, rfl, _, hh, _⟩
  · simp [Value.ownBlock] at hg
  · have : g' = g := by simpa [Value.ownBlock] using hg
    subst this
    rcases Nat.lt_or_ge g' w.heap.size with h4 | h4
    · exact h4
    · rw [Array.getElem?_eq_none h4] at hh; cases hh
theorem own_alloc (h : w.ownsRow base e size v n xs) (o : Obj) : (w.alloc o).ownsRow base e size v n xs :=
  own_of_block h fun g hg => Below.heap_alloc w o g (own_lt h g hg)
theorem own_below (h : w.ownsRow base e size v n xs) (hb : RowKit.Below w.heap.size w w') : w'.ownsRow base e size v n xs :=
  own_of_block h fun g hg => hb.block g (own_lt h g hg)
end
/-- A new block as the source of an append of one element. -/
theorem rd_new (w : World) (T : TypeId) (xs : List Value) : Rd (w.alloc (.cells xs.toArray T)) xs.length (some ⟨w.heap.size, 0, none⟩) 1 xs :=
  ⟨by omega, fun _ => ⟨w.heap.size, 0, rfl, by simp, fun j u hu => by rw [Nat.zero_add, (Bl.new w T xs.toArray).cell j]; simpa using hu⟩⟩

/-- Valid requests: the IDs ascend from 1 to b, the quantities are in range. -/
structure ReqsTo (rs : List (Int × Int)) (b : Int) : Prop where
  all : ∀ i, i < rs.length → okReq rs[i]!
  asc : ∀ r, r < rs.length - 1 → rs[r]!.1 < rs[r + 1]!.1
  top : ∀ i, i < rs.length → rs[i]!.1 ≤ b

theorem ReqsTo.nil : ReqsTo [] 0 := ⟨fun i hi => by simp at hi, fun r hr => by simp at hr, fun i hi => by simp at hi⟩

theorem get_snoc {α : Type} [Inhabited α] (xs : List α) (x : α) (i : Nat) (hi : i < xs.length) : (xs ++ [x])[i]! = xs[i]! := by
  rw [getElem!_pos _ i (by simp; omega), getElem!_pos xs i hi, List.getElem_append_left hi]
theorem get_snoc_last {α : Type} [Inhabited α] (xs : List α) (x : α) : (xs ++ [x])[xs.length]! = x := by
  rw [getElem!_pos _ _ (by simp)]
  simp

theorem ReqsTo.snoc {rs : List (Int × Int)} {b id q : Int} (h : ReqsTo rs b) (h0 : 0 ≤ b) (h1 : b < id) (h2 : id ≤ 1000000) (h3 : 0 ≤ q) (h4 : q ≤ 1000000000) : ReqsTo (rs ++ [(id, q)]) id := by
  have hl : (rs ++ [(id, q)]).length = rs.length + 1 := by simp
  refine ⟨fun i hi => ?_, fun r hr => ?_, fun i hi => ?_⟩
  · rw [hl] at hi
    by_cases e : i = rs.length
    · subst e; rw [get_snoc_last]; exact ⟨by show 1 ≤ id; omega, h2, h3, h4⟩
    · rw [get_snoc _ _ _ (by omega)]; exact h.all i (by omega)
  · rw [hl] at hr
    by_cases e : r + 1 = rs.length
    · have e2 : (rs ++ [(id, q)])[r + 1]! = (id, q) := by rw [e]; exact get_snoc_last _ _
      rw [e2, get_snoc _ _ _ (by omega)]
      have := h.top r (by omega)
      show rs[r]!.1 < id
      omega
    · rw [get_snoc _ _ _ (by omega), get_snoc _ _ _ (by omega)]; exact h.asc r (by omega)
  · rw [hl] at hi
    by_cases e : i = rs.length
    · subst e; rw [get_snoc_last]; exact Int.le_refl _
    · rw [get_snoc _ _ _ (by omega)]; have := h.top i (by omega); omega

theorem ReqsTo.ok {rs : List (Int × Int)} {b : Int} (h : ReqsTo rs b) (hl : rs.length ≤ 200) : vErr rs = 0 := vErr_ok hl h.all h.asc

theorem infoQ : (Try.prog.info? 46).map (fun i => (i.zero, i.size, i.bytes)) = some (some (.agg #[.int .i64 0, .int .i64 0]), 2, 16) := by kernel_rfl

/-- Requests of the call's own. -/
def ReqRes (w : World) (T : TypeId) (e : Ending) (w' : World) : Prop := ∃ (A : Option Addr) (n c : Nat) (rs : List (Int × Int)), e = .returned (.slice A n c) ∧ rs.length = n ∧ n ≤ 100 ∧ (∃ b, ReqsTo rs b) ∧ w'.ownsRow w.heap.size T 2 (.slice A n c) n (flat enc2 rs) ∧ RowKit.Below w.heap.size w w'

set_option maxRecDepth 100000 in
set_option maxHeartbeats 4000000 in
theorem requests_any (A : Option Addr) (n c : Nat) (xs : List Int) (w : World) (h : Ints w A n xs) (hnc : n ≤ c) (hcm : c ≤ 9223372036854775807) :
    Calls Try.prog 28 #[.slice A n c] w (ReqRes w 46) := by
  have hT := h.take (m := min n 100) (by omega)
  obtain ⟨m, hm⟩ : ∃ m, m = min n 100 := ⟨_, rfl⟩
  have HC := Lib.hid (cut_any A n c 100 xs w h hnc hcm (by omega) (by omega))
  unfold CutRes at HC
  rw [← hm] at hT HC
  have hm1 : m ≤ 100 := by omega
  clear hm
  go_enter Try.func28, Try.ntmps28
  go_wp2_with fail
  refine HC.out.mono ?_
  rintro e w' ⟨rfl, rfl⟩
  go_wp2
  go_loopw [4, 5] (fun v ii wr => ∃ (I : Nat) (id : Int) (rs : List (Int × Int)), I ≤ m ∧ rs.length ≤ I ∧ 0 ≤ id ∧ id ≤ 3 * (rs.length : Int) ∧ ii = .int .i64 id ∧ ReqsTo rs id ∧ wr.ownsRow w.heap.size 46 2 v rs.length (flat enc2 rs) ∧ Src wr w.heap.size A m c I ∧ RowKit.Below w.heap.size w wr) (fun _ _ wr => m - srcI wr w.heap.size)
  case atStart => exact ⟨0, 0, [], Nat.zero_le _, Nat.zero_le _, by omega, by simp, rfl, ReqsTo.nil, ⟨rfl, .inl ⟨rfl, rfl⟩⟩, Bl.new _ _ _, (Below.refl _ _).alloc (Nat.le_refl _) _⟩
  case round =>
    obtain ⟨I, id, rs, hIm, hrI, hid0, hid1, rfl, HR, hown, hS, hbel⟩ := hrel
    have HSI := Lib.hid hS.at_
    by_cases hlt : I < m
    · have d1 : decide (I < m) = true := by simpa using hlt
      have hb3 := nextV_bounds (xs.take m) m I 3 (by omega)
      have hl1 := nextI_lt m I hlt
      go_wp2_with fail
      refine (left_any w.heap.size A m c I wr hS (by omega)).mono ?_
      rintro e w1 ⟨rfl, q1, rfl⟩
      rw [d1]
      go_wp2_with fail
      refine (next_any w.heap.size A m c I (xs.take m) 3 w _ (hS.drewN q1) hT (below_drewN hbel q1) (Nat.le_refl _) (by omega) (by omega) (by omega)).mono ?_
      rintro e w2 ⟨rfl, hO2, hS2⟩
      rw [hl1] at hS2
      generalize nextV (xs.take m) m I 3 = v3 at *
      have hB2 := (below_drewN hbel q1).trans (hO2.below (Nat.le_refl _))
      have hne := own_apart hown hS (by decide)
      have hown2 := own_keep (own_drewN hown q1) hO2 hne
      clear hl1 d1
      have hrl : (rs.length : Int) ≤ 100 := by omega
      go_wp2_with fail
      refine (small_any w.heap.size A m c (I + 1) (xs.take m) 40 1000000001 w w2 hS2 hT hB2 (Nat.le_refl _) (by omega) (by omega) (by omega) (by omega)).mono ?_
      rintro e w3 ⟨q, I3, rfl, hq0, hq1, hI3, hI3m, hO3, hS3⟩
      have hI3m' := hI3m (by omega)
      have hown3 := own_keep hown2 hO3 hne
      have hB3 := hB2.trans (hO3.below (Nat.le_refl _))
      have hsz := hB3.size
      clear hown hown2 hO2 hS2 hO3 hB2 hI3m hS hbel
      have HOW := Lib.hid (own_alloc hown3 (.cells #[.int .i64 (id + 1 + v3), .int .i64 q] 46))
      have HRD : Hid (Rd (w3.alloc (.cells #[.int .i64 (id + 1 + v3), .int .i64 q] 46)) 2 (some ⟨w3.heap.size, 0, none⟩) 1 (enc2 (id + 1 + v3, q))) := rd_new w3 _ _
      have HSZ : Hid (w.heap.size ≤ (w3.alloc (.cells #[.int .i64 (id + 1 + v3), .int .i64 q] 46)).heap.size) := by show _ ≤ _; simp; omega
      have HNE := Lib.hid hne
      have HRL : Hid (rs.length + 1 ≤ maxLen ∧ (rs.length + 1) * 16 ≤ 140737488355328) := ⟨by unfold maxLen; omega, by omega⟩
      clear hne hown3
      go_wp2_with (at_builtin; refine wpList_append_rd _ rfl (.tmp 17) (.tmp 22) 34 rfl w.heap.size 46 _ 2 16 Try.underlying34 infoQ rfl (by decide) u4 rs.length (flat enc2 rs) rfl HOW.out (some ⟨w3.heap.size, 0, none⟩) 1 1 (enc2 (id + 1 + v3, q)) rfl HRD.out (enc2_one _) HRL.out.1 HRL.out.2 HSZ.out ?_; intro v4 w4 ho4 hg4 hat4)
      go_roundw
      case rel =>
        refine ⟨I3, id + 1 + v3, rs ++ [(id + 1 + v3, q)], hI3m', by simp; omega, by omega, by simp; omega, rfl, HR.snoc hid0 (by omega) (by omega) hq0 (by omega), ?_, ?_, ?_⟩
        · rw [flat_append, flat_one]; simpa using ho4
        · exact (hg4.block w.heap.size (by have := hS3.lt; simp; omega) HNE.out).trans (hS3.alloc _)
        · exact (hB3.alloc hsz _).grown hg4 HSZ.out (fun g hg => own_base HOW.out g hg)
      case measure =>
        have e4 : Src w4 w.heap.size A m c I3 := (hg4.block w.heap.size (by have := hS3.lt; simp; omega) HNE.out).trans (hS3.alloc _)
        rw [e4.at_, HSI.out]
        omega
    · have d1 : decide (I < m) = false := by simpa using hlt
      obtain ⟨A2, c2, hv⟩ := own_slice hown
      go_wp2_with fail
      refine (left_any w.heap.size A m c I wr hS (by omega)).mono ?_
      rintro e w1 ⟨rfl, q1, rfl⟩
      rw [d1, hv]
      rw [hv] at hown
      have HV := Lib.hid hv
      clear hv d1
      go_wp2
      go_ret
      exact ⟨A2, _, c2, rs, rfl, rfl, by omega, ⟨id, HR⟩, own_drewN hown q1, below_drewN hbel q1⟩
end Go.Proofs.Ytpadpohaadfefaa

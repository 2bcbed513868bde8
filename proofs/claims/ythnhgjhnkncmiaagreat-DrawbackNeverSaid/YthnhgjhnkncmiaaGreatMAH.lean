/-
  Contracts of the reference's small functions (customsref24: At, Has, Taken, Rests, Code8). No statement of the seat is proved here. Conditions: the lists read as lots or numbers.
  Two rows of the call's own that grow in turn; a record of three cells. No statement of the seat is proved here. No conditions.
  The contract of the reference's front (customsref24). No statement of the seat is proved here. Conditions: the list reads as valid slices, at most 1000 of them; the number is within 10^15.
  Contract of the reference's Share (customsref21), where the total is at most the sum of the weights: the walk, and what is used of its result. No statement of the seat is proved here. Conditions: the numbers are in range.
  What is used of the reference's Share (customsref21): a row of numbers from 0 on, as many as the weights. No statement of the seat is proved here. Conditions: the total is at most the sum; the weights are in range, their sum is above 0 if there are any.
  What operations of a drawn region hold; the append in such a region; the proportional division round by round. No statement of the seat is proved here. No conditions.
-/
import Derived.Test.YthnhgjhnkncmiaaGreatMAG
import Derived.Test.YthnhgjhnkncmiaaGreatMAF
import Derived.Deep.RegionLaw
import Derived.StillTailTactics
namespace Go.Proofs.YthnhgjhnkncmiaaGreat
open Go.RowKit
set_option linter.unusedVariables false

/-- Some bool, some error: the call ends and keeps what was there. -/
def BW (w : World) (e : Ending) (w' : World) : Prop := ∃ b : Bool, e = .returned (.bool b) ∧ RowKit.Below w.heap.size w w'
def EW (w : World) (e : Ending) (w' : World) : Prop := ∃ er : Int, e = .returned (.int .i64 er) ∧ RowKit.Below w.heap.size w w'
/-- Some bool; nothing is touched. -/
def BS (w : World) (e : Ending) (w' : World) : Prop := w' = w ∧ ∃ b : Bool, e = .returned (.bool b)
def AtRes (bs : List Lb) (n : Nat) (id : Int) (w : World) (e : Ending) (w' : World) : Prop := w' = w ∧ ((e = .returned (.int .i64 (-1)) ∧ ∀ i, i < n → bs[i]!.x.id ≠ id) ∨ ∃ i : Nat, i < n ∧ e = .returned (.int .i64 (i : Int)) ∧ bs[i]!.x.id = id)
set_option maxRecDepth 100000 in
set_option maxHeartbeats 4000000 in
theorem At_any (A : Option Addr) (n c : Nat) (bs : List Lb) (id : Int) (w : World) (h : Recs encL 5 w A n bs) (hn : n ≤ 1000000) :
    Calls Tryz.prog 51 #[.slice A n c, .int .i64 id] w (AtRes bs n id w) := by
  have HX := Lib.hid h
  clear h
  go_enter Tryz.func51, Tryz.ntmps51
  go_wp2_with fail
  go_loop [5] (fun v => ∃ i : Nat, v = .int .i64 (i : Int) ∧ i ≤ n ∧ Hid (∀ j, j < i → bs[j]!.x.id ≠ id)) (fun v => n - (intOf v).toNat)
  case atStart => exact ⟨0, rfl, Nat.zero_le _, fun j hj => by omega⟩
  case round =>
    obtain ⟨i, rfl, hi, HN⟩ := hrel
    by_cases hlt : i < n
    case neg =>
      have dk : decide ((i : Int) < (n : Int)) = false := by simp; omega
      go_wp2
      go_ret
      exact ⟨rfl, .inl ⟨rfl, fun j hj => HN.out j (by omega)⟩⟩
    case pos =>
    have dk : decide ((i : Int) < (n : Int)) = true := by simp; omega
    obtain ⟨b1, o1, rfl, hb1, ha⟩ := recs_at HX.out hlt
    obtain ⟨x, hx⟩ : ∃ x, bs[i]! = x := ⟨_, rfl⟩
    rw [hx] at ha
    have a0 : w.cell? ⟨b1, o1 + i * 5, none⟩ = some (.int .i64 x.x.id) := ha.out 0 (by omega)
    have HXI := Lib.hid hx
    have hii : (i : Int) < (n : Int) := by omega
    have hiz : (0 : Int) ≤ (i : Int) := by omega
    clear ha hx
    by_cases e1 : x.x.id = id
    case pos =>
      have d1 : (x.x.id == id) = true := by simpa using e1
      have HE := Lib.hid e1
      clear e1
      go_wp2
      go_ret
      exact ⟨rfl, .inr ⟨i, hlt, rfl, by rw [HXI.out]; exact HE.out⟩⟩
    case neg =>
      have d1 : (x.x.id == id) = false := by simpa using e1
      have HN2 : Hid (∀ j, j < i + 1 → bs[j]!.x.id ≠ id) := fun j hj => by
        by_cases e : j = i
        · subst e; rw [HXI.out]; exact e1
        · exact HN.out j (by omega)
      clear e1
      go_wp2_with fail
      go_round
      case rel => exact ⟨i + 1, by go_num, by omega, HN2⟩
      case measure => simp [intOf]; omega
set_option maxRecDepth 100000 in
set_option maxHeartbeats 4000000 in
theorem Has_any (A : Option Addr) (n c : Nat) (xs : List Int) (id : Int) (w : World) (h : Ints w A n xs) (hn : n ≤ 1000000) :
    Calls Tryz.prog 81 #[.slice A n c, .int .i64 id] w fun e w' => w' = w ∧ ((e = .returned (.bool true) ∧ id ∈ xs) ∨ (e = .returned (.bool false) ∧ id ∉ xs)) := by
  have HX := Lib.hid h
  have hxl : xs.length = n := h.1
  clear h
  go_enter Tryz.func81, Tryz.ntmps81
  go_wp2_with fail
  go_loop [5] (fun v => ∃ i : Nat, v = .int .i64 (i : Int) ∧ i ≤ n ∧ Hid (∀ j, j < i → xs.getD j 0 ≠ id)) (fun v => n - (intOf v).toNat)
  case atStart => exact ⟨0, rfl, Nat.zero_le _, fun j hj => by omega⟩
  case round =>
    obtain ⟨i, rfl, hi, HN⟩ := hrel
    by_cases hlt : i < n
    case neg =>
      have dk : decide ((i : Int) < (n : Int)) = false := by simp; omega
      go_wp2
      go_ret
      refine ⟨rfl, .inr ⟨rfl, fun hm => ?_⟩⟩
      obtain ⟨j, hj, e⟩ := List.getElem_of_mem hm
      exact HN.out j (by omega) (by rw [List.getD_eq_getElem?_getD, List.getElem?_eq_getElem hj]; exact e)
    case pos =>
    have dk : decide ((i : Int) < (n : Int)) = true := by simp; omega
    obtain ⟨b, off, x, rfl, _, hc, HXI⟩ := HX.out.get hlt
    have hii : (i : Int) < (n : Int) := by omega
    have hiz : (0 : Int) ≤ (i : Int) := by omega
    by_cases e1 : x = id
    case pos =>
      have d1 : (x == id) = true := by simpa using e1
      have HE := Lib.hid e1
      clear e1
      go_wp2
      go_ret
      exact ⟨rfl, .inl ⟨rfl, by rw [← HE.out, ← HXI.out, List.getD_eq_getElem?_getD, List.getElem?_eq_getElem (show i < xs.length by omega)]; exact List.getElem_mem _⟩⟩
    case neg =>
      have d1 : (x == id) = false := by simpa using e1
      have HN2 : Hid (∀ j, j < i + 1 → xs.getD j 0 ≠ id) := fun j hj => by
        by_cases e : j = i
        · subst e; rw [HXI.out]; exact e1
        · exact HN.out j (by omega)
      clear e1
      go_wp2_with fail
      go_round
      case rel => exact ⟨i + 1, by go_num, by omega, HN2⟩
      case measure => simp [intOf]; omega
set_option maxRecDepth 100000 in
set_option maxHeartbeats 8000000 in
theorem Taken_any (A : Option Addr) (n c : Nat) (bs : List Lb) (id : Int) (w : World) (h : StAt w A n bs) (hn : n ≤ 1000000) :
    Calls Tryz.prog 74 #[.slice A n c, .int .i64 id] w (BS w) := by
  have HX := Lib.hid h.lots.recs
  have HS := Lib.hid h.sls
  have hxl : bs.length = n := h.lots.recs.1
  clear h
  go_enter Tryz.func74, Tryz.ntmps74
  go_wp2_with fail
  go_loop [5] (fun v => ∃ i : Nat, v = .int .i64 (i : Int) ∧ i ≤ n) (fun v => n - (intOf v).toNat)
  case atStart => exact ⟨0, rfl, Nat.zero_le _⟩
  case round =>
    obtain ⟨i, rfl, hi⟩ := hrel
    by_cases hlt : i < n
    case neg =>
      have dk : decide ((i : Int) < (n : Int)) = false := by simp; omega
      go_wp2
      go_ret
      exact ⟨rfl, false, rfl⟩
    case pos =>
    have dk : decide ((i : Int) < (n : Int)) = true := by simp; omega
    obtain ⟨b1, o1, rfl, hb1, ha⟩ := recs_at HX.out hlt
    obtain ⟨x, hx⟩ : ∃ x, bs[i]! = x := ⟨_, rfl⟩
    rw [hx] at ha
    have a0 : w.cell? ⟨b1, o1 + i * 5, none⟩ = some (.int .i64 x.x.id) := ha.out 0 (by omega)
    have a4 : w.cell? ⟨b1, o1 + i * 5 + 4, none⟩ = some (.slice x.A x.n x.c) := ha.out 4 (by omega)
    have hsx := HS.out x (by rw [← hx, getElem!_pos bs i (by omega)]; exact List.getElem_mem _)
    have HSX := Lib.hid hsx.1.recs
    have hxn : x.n ≤ 9223372036854775807 := by omega
    clear hsx
    have hii : (i : Int) < (n : Int) := by omega
    have hiz : (0 : Int) ≤ (i : Int) := by omega
    clear ha hx
    cases d1 : (x.x.id == id)
    case true =>
      go_wp2
      go_ret
      exact ⟨rfl, true, rfl⟩
    case false =>
    go_wp2_with fail
    go_loop [6] (fun v => ∃ k : Nat, v = .int .i64 (k : Int) ∧ k ≤ x.n) (fun v => x.n - (intOf v).toNat)
    case atStart => exact ⟨0, rfl, Nat.zero_le _⟩
    case round =>
      obtain ⟨k, rfl, hk⟩ := hrel
      by_cases hlk : k < x.n
      case neg =>
        have dk2 : decide ((k : Int) < (x.n : Int)) = false := by simp; omega
        go_wp2_with fail
        go_round
        case rel => exact ⟨i + 1, by go_num, by omega⟩
        case measure => simp [intOf]; omega
      case pos =>
      have dk2 : decide ((k : Int) < (x.n : Int)) = true := by simp; omega
      obtain ⟨b2, o2, hA2, hb2, hb⟩ := recs_at HSX.out hlk
      rw [hA2] at a4
      have c0 : w.cell? ⟨b2, o2 + k * 3, none⟩ = some (.int .i64 x.x.sl[k]!.src) := hb.out 0 (by omega)
      generalize x.x.sl[k]!.src = s at c0
      have hkk : (k : Int) < (x.n : Int) := by omega
      have hkz : (0 : Int) ≤ (k : Int) := by omega
      clear hb
      cases d2 : (s == id)
      case true =>
        go_wp2
        go_ret
        exact ⟨rfl, true, rfl⟩
      case false =>
        go_wp2_with fail
        go_round
        case rel => exact ⟨k + 1, by go_num, by omega⟩
        case measure => simp [intOf]; omega
set_option maxRecDepth 100000 in
set_option maxHeartbeats 8000000 in
theorem Rests_any (p : Int) (w : World) : Calls Tryz.prog 77 #[.int .i64 p] w (BW w) := by
  go_enter Tryz.func77, Tryz.ntmps77
  cases d1 : (p == 1) <;> cases d2 : (p == 3) <;> cases d3 : (p == 4) <;> cases d4 : (p == 5) <;> cases d5 : (p == 6) <;>
  · go_wp2
    go_ret
    first | exact ⟨_, rfl, Below.refl _ _⟩ | exact ⟨_, rfl, below_drewN (Below.refl _ _) _⟩
set_option maxRecDepth 100000 in
set_option maxHeartbeats 8000000 in
theorem Code8_any (s : ByteArray) (w : World) (hs : s.size ≤ 1000000) : Calls Tryz.prog 73 #[.string s] w (BS w) := by
  go_enter Tryz.func73, Tryz.ntmps73
  go_wp2
  go_loop [3] (fun i => ∃ k : Nat, k ≤ s.size ∧ i = .int .i64 k) (fun i => s.size - (intOf i).toNat)
  case atStart => exact ⟨0, Nat.zero_le _, rfl⟩
  case round =>
    obtain ⟨k, hk, rfl⟩ := hrel
    by_cases hks : k < s.size
    · by_cases g1 : (s[k].toNat : Int) < 48
      · go_wp2
        go_ret
        exact ⟨rfl, _, rfl⟩
      by_cases g2 : 57 < (s[k].toNat : Int)
      · go_wp2
        go_ret
        exact ⟨rfl, _, rfl⟩
      go_wp2
      go_round
      case rel => exact ⟨k + 1, by omega, by go_num⟩
      case measure => simp [intOf]; omega
    · have hd : decide (k < s.size) = false := by simpa using hks
      go_wp2
      go_ret
      exact ⟨rfl, _, rfl⟩
end Go.Proofs.YthnhgjhnkncmiaaGreat

namespace Go.Proofs.YthnhgjhnkncmiaaGreat
open Go.RowKit
set_option linter.unusedVariables false

/-- Two rows of the call's own, in different blocks. -/
structure Two (w0 : World) (T : TypeId) (k : Nat) (w : World) (u : Value) (n : Nat) (xs : List Value) (v : Value) (m : Nat) (ys : List Value) : Prop where
  l : w.ownsRow w0.heap.size T k u n xs
  r : w.ownsRow w0.heap.size T k v m ys
  ne : ∀ g, u.ownBlock = some g → v.ownBlock ≠ some g
  below : RowKit.Below w0.heap.size w0 w
section
variable {w0 w w' : World} {T : TypeId} {k n m : Nat} {u v : Value} {xs ys : List Value}
theorem Two.start (w : World) (T : TypeId) (k : Nat) : Two w T k w (.slice none 0 0) 0 [] (.slice none 0 0) 0 [] :=
  ⟨⟨by simp, .inl ⟨rfl, rfl⟩⟩, ⟨by simp, .inl ⟨rfl, rfl⟩⟩, fun g hg => by simp [Value.ownBlock] at hg, Below.refl _ _⟩
theorem Two.swap (h : Two w0 T k w u n xs v m ys) : Two w0 T k w v m ys u n xs := ⟨h.r, h.l, fun g hg hg' => h.ne g hg' hg, h.below⟩
theorem Two.under (h : Two w0 T k w u n xs v m ys) (hb : RowKit.Below w.heap.size w w') : Two w0 T k w' u n xs v m ys := ⟨own_below h.l hb, own_below h.r hb, h.ne, h.below.trans (hb.mono h.below.size)⟩
theorem Two.alloc (h : Two w0 T k w u n xs v m ys) (o : Obj) : Two w0 T k (w.alloc o) u n xs v m ys := h.under ((Below.refl _ _).alloc (Nat.le_refl _) o)
theorem Two.drewN (h : Two w0 T k w u n xs v m ys) (q : Nat) : Two w0 T k (w.drewN q) u n xs v m ys := h.under (below_drewN (Below.refl _ _) q)
theorem Two.left {u' : Value} {n' : Nat} {xs' : List Value} (h : Two w0 T k w u n xs v m ys) (ho : w'.ownsRow w0.heap.size T k u' n' xs') (hg : w.grownBy w' u.ownBlock) (hv : u'.ownBlock = u.ownBlock ∨ u'.ownBlock = some w.heap.size) : Two w0 T k w' u' n' xs' v m ys := by
  refine ⟨ho, own_of_block h.r fun g hg' => hg.block g (own_lt h.r g hg') (fun e => h.ne g e.symm hg'), fun g h1 h2 => ?_, h.below.grown hg h.below.size fun g hg' => own_base h.l g hg'⟩
  rcases hv with e | e
  · exact h.ne g (by rw [← e]; exact h1) h2
  · rw [e] at h1
    injection h1 with h1
    have := own_lt h.r g h2
    omega
theorem Two.right {v' : Value} {m' : Nat} {ys' : List Value} (h : Two w0 T k w u n xs v m ys) (ho : w'.ownsRow w0.heap.size T k v' m' ys') (hg : w.grownBy w' v.ownBlock) (hv : v'.ownBlock = v.ownBlock ∨ v'.ownBlock = some w.heap.size) : Two w0 T k w' u n xs v' m' ys' := (h.swap.left ho hg hv).swap
end
theorem set3_bl {w : World} {g : Nat} {T : TypeId} {z0 z1 z2 : Value} (h : Bl w g T #[z0, z1, z2]) (a b c : Value) : Bl (((w.setCell ⟨g, 0, none⟩ a).setCell ⟨g, 1, none⟩ b).setCell ⟨g, 2, none⟩ c) g T #[a, b, c] := by
  have := (((h.put 0 a).put 1 b).put 2 c)
  simpa using this
theorem put3_below {w : World} {N r : Nat} {w' : World} (h : RowKit.Below N w w') (hr : N ≤ r) (a b c : Value) : RowKit.Below N w (((w'.setCell ⟨r, 0, none⟩ a).setCell ⟨r, 1, none⟩ b).setCell ⟨r, 2, none⟩ c) :=
  ((h.setCell (p := ⟨r, 0, none⟩) hr _).setCell (p := ⟨r, 1, none⟩) hr _).setCell (p := ⟨r, 2, none⟩) hr _
theorem Bl.g0 {w : World} {g : Nat} {T : TypeId} {z0 z1 z2 : Value} (h : Bl w g T #[z0, z1, z2]) : w.cell? ⟨g, 0, none⟩ = some z0 := h.cell 0
theorem Bl.g1 {w : World} {g : Nat} {T : TypeId} {z0 z1 z2 : Value} (h : Bl w g T #[z0, z1, z2]) : w.cell? ⟨g, 1, none⟩ = some z1 := h.cell 1
theorem Bl.g2 {w : World} {g : Nat} {T : TypeId} {z0 z1 z2 : Value} (h : Bl w g T #[z0, z1, z2]) : w.cell? ⟨g, 2, none⟩ = some z2 := h.cell 2
/-- A record of three cells in a new box. -/
theorem boxed3 (w : World) (T : TypeId) (z0 z1 z2 a b c : Value) : Bl ((((w.alloc (.cells #[z0, z1, z2] T)).setCell ⟨w.heap.size, 0, none⟩ a).setCell ⟨w.heap.size, 1, none⟩ b).setCell ⟨w.heap.size, 2, none⟩ c) w.heap.size T #[a, b, c] ∧ RowKit.Below w.heap.size w ((((w.alloc (.cells #[z0, z1, z2] T)).setCell ⟨w.heap.size, 0, none⟩ a).setCell ⟨w.heap.size, 1, none⟩ b).setCell ⟨w.heap.size, 2, none⟩ c) :=
  ⟨set3_bl (Bl.new w T #[z0, z1, z2]) a b c, put3_below ((Below.refl _ _).alloc (Nat.le_refl _) _) (Nat.le_refl _) a b c⟩
/-- Results of two rows. -/
def SlRes2 (w : World) (xs ys : List Sl) (e : Ending) (w' : World) : Prop := ∃ (B : Option Addr) (d : Nat) (C : Option Addr) (d2 : Nat), e = .returned (.tuple #[.slice B xs.length d, .slice C ys.length d2]) ∧ Two w 68 3 w' (.slice B xs.length d) xs.length (flat encSl xs) (.slice C ys.length d2) ys.length (flat encSl ys)

theorem frontA_snoc (l : List Sl) (x : Sl) (n : Int) : frontA (l ++ [x]) n = frontA l n ++ (if 0 < frA x (n - cnt29 l) then [⟨x.src, x.fr, x.fr + frA x (n - cnt29 l)⟩] else []) := by
  induction l generalizing n with
  | nil => simp [frontA, cnt29]
  | cons y ys ih =>
    have e : n - (y.to - y.fr) - cnt29 ys = n - cnt29 (y :: ys) := by simp [cnt29]; omega
    rw [List.cons_append, frontA, ih, frontA, List.append_assoc, e]
theorem frontB_snoc (l : List Sl) (x : Sl) (n : Int) : frontB (l ++ [x]) n = frontB l n ++ (if x.fr + frA x (n - cnt29 l) < x.to then [⟨x.src, x.fr + frA x (n - cnt29 l), x.to⟩] else []) := by
  induction l generalizing n with
  | nil => simp [frontB, cnt29]
  | cons y ys ih =>
    have e : n - (y.to - y.fr) - cnt29 ys = n - cnt29 (y :: ys) := by simp [cnt29]; omega
    rw [List.cons_append, frontB, ih, frontB, List.append_assoc, e]
theorem take_snoc29 {α : Type} [Inhabited α] (l : List α) (i : Nat) (h : i < l.length) : l.take (i + 1) = l.take i ++ [l[i]!] := by
  rw [List.take_add_one, List.getElem?_eq_getElem h, getElem!_pos l i h]; rfl
end Go.Proofs.YthnhgjhnkncmiaaGreat

namespace Go.Proofs.YthnhgjhnkncmiaaGreat
open Go.RowKit
set_option linter.unusedVariables false

set_option maxRecDepth 100000 in
set_option maxHeartbeats 8000000 in
theorem front29_any (A : Option Addr) (n c : Nat) (xs : List Sl) (num : Int) (w : World) (h : Recs encSl 3 w A n xs) (hv : SlsOk xs) (hn : n ≤ 1000) (h0 : -1000000000000000 ≤ num) (h1 : num ≤ 1000000000000000) :
    Calls Tryz.prog 92 #[.slice A n c, .int .i64 num] w (SlRes2 w (joinS (frontA xs num)) (joinS (frontB xs num))) := by
  have HX := Lib.hid h
  have HV := Lib.hid hv
  have HJ := Lib.hid join29_any
  have hxl : xs.length = n := h.1
  clear h hv
  go_enter Tryz.func92, Tryz.ntmps92
  go_wp2_with fail
  go_loopw [1, 6, 7, 8] (fun q a b v wx => ∃ (i : Nat) (m : Int) (B : Option Addr) (k d : Nat) (C : Option Addr) (j d2 : Nat) (os ps : List Sl), v = .int .i64 (i : Int) ∧ q = .int .i64 m ∧ a = .slice B k d ∧ b = .slice C j d2 ∧ i ≤ n ∧ k ≤ i ∧ j ≤ i ∧ Hid (m = num - cnt29 (xs.take i)) ∧ Hid (os = frontA (xs.take i) num) ∧ Hid (ps = frontB (xs.take i) num) ∧ Hid (os.length = k) ∧ Hid (ps.length = j) ∧ Hid (Two w 68 3 wx (.slice B k d) k (flat encSl os) (.slice C j d2) j (flat encSl ps))) (fun _ _ _ v _ => n - (intOf v).toNat)
  case atStart => exact ⟨0, num, none, 0, 0, none, 0, 0, [], [], rfl, rfl, rfl, rfl, Nat.zero_le _, Nat.le_refl _, Nat.le_refl _, (by show _ = _; simp [cnt29]), (by show _ = _; simp [frontA]), (by show _ = _; simp [frontB]), rfl, rfl, Two.start w _ 3⟩
  case round =>
    obtain ⟨i, m, B, k, d, C, j, d2, os, ps, rfl, rfl, rfl, rfl, hi, hki, hji, HM, HOS, HPS, HK, HL, HT⟩ := hrel
    by_cases hlt : i < n
    case neg =>
      have dk : decide ((i : Int) < (n : Int)) = false := by simp; omega
      have HA : Hid (os = frontA xs num) := by show _ = _; rw [HOS.out, List.take_of_length_le (by omega)]
      have HB : Hid (ps = frontB xs num) := by show _ = _; rw [HPS.out, List.take_of_length_le (by omega)]
      clear HOS HPS HM
      have HR1 : Hid (Recs encSl 3 wr B k os) := Recs.of_own encSl_len HT.out.l HK.out
      go_wp2_with fail
      refine (HJ.out B k d os wr HR1.out (by omega)).mono ?_
      rintro e w8 ⟨B8, d8, rfl, ho8, hb8⟩
      have HT8 := Lib.hid (HT.out.under hb8)
      have HO8 := Lib.hid ho8
      have HR2 : Hid (Recs encSl 3 w8 C j ps) := Recs.of_own encSl_len HT8.out.r HL.out
      have hsz := HT.out.below.size
      have HSZ := Lib.hid hsz
      have HSZ8 := Lib.hid hb8.size
      clear ho8 hb8 HR1 hsz
      go_wp2_with fail
      refine (HJ.out C j d2 ps w8 HR2.out (by omega)).mono ?_
      rintro e w9 ⟨B9, d9, rfl, ho9, hb9⟩
      have HO9 := Lib.hid ho9
      have HB9 := Lib.hid hb9
      clear ho9 hb9
      go_wp2
      go_ret2
      have hA := HA.out
      have hB := HB.out
      subst hA hB
      refine ⟨B8, d8, B9, d9, rfl, ⟨own_mono (own_below HO8.out HB9.out) HSZ.out, own_mono HO9.out (Nat.le_trans HSZ.out HSZ8.out), fun g h1 h2 => ?_, (HT8.out.below.trans (HB9.out.mono HT8.out.below.size))⟩⟩
      have e1 := own_lt HO8.out g h1
      have e2 := own_base HO9.out g h2
      omega
    case pos =>
    have dk : decide ((i : Int) < (n : Int)) = true := by simp; omega
    obtain ⟨b1, o1, rfl, hb1, ha⟩ := recs_at (HX.out.below HT.out.below) hlt
    obtain ⟨x, hx⟩ : ∃ x, xs[i]! = x := ⟨_, rfl⟩
    rw [hx] at ha
    have a0 : wr.cell? ⟨b1, o1 + i * 3, none⟩ = some (.int .i64 x.src) := ha.out 0 (by omega)
    have a1 : wr.cell? ⟨b1, o1 + i * 3 + 1, none⟩ = some (.int .i64 x.fr) := ha.out 1 (by omega)
    have a2 : wr.cell? ⟨b1, o1 + i * 3 + 2, none⟩ = some (.int .i64 x.to) := ha.out 2 (by omega)
    have hxo := slOk_yes (HV.out x (by rw [← hx, getElem!_pos xs i (by omega)]; exact List.getElem_mem _))
    have hbd := cnt29_bounds (l := xs.take i) (fun y hy => HV.out y (List.mem_of_mem_take hy))
    rw [List.length_take_of_le (show i ≤ xs.length by omega)] at hbd
    have hm0 : -1001000000000000 ≤ m := by have := HM.out; omega
    have hm1 : m ≤ 1000000000000000 := by have := HM.out; omega
    have HM2 : Hid (m - (x.to - x.fr) = num - cnt29 (xs.take (i + 1))) := by
      show _ = _
      rw [cnt29_take (by omega), hx, HM.out]; omega
    have HOS2 : Hid (frontA (xs.take (i + 1)) num = os ++ (if 0 < frA x m then [⟨x.src, x.fr, x.fr + frA x m⟩] else [])) := by
      show _ = _
      rw [take_snoc29 _ _ (by omega), frontA_snoc, ← HOS.out, hx, ← HM.out]
    have HPS2 : Hid (frontB (xs.take (i + 1)) num = ps ++ (if x.fr + frA x m < x.to then [⟨x.src, x.fr + frA x m, x.to⟩] else [])) := by
      show _ = _
      rw [take_snoc29 _ _ (by omega), frontB_snoc, ← HPS.out, hx, ← HM.out]
    obtain ⟨q, hq⟩ : ∃ q, frA x m = q := ⟨_, rfl⟩
    rw [hq] at HOS2 HPS2
    have hqd : min (max m 0) (x.to - x.fr) = q := hq
    have HQD := Lib.hid hqd
    have hii : (i : Int) < (n : Int) := by omega
    have hiz : (0 : Int) ≤ (i : Int) := by omega
    have u1 : IntKind.i64.wrap (x.to - x.fr) = x.to - x.fr := IntWalk.i64_in _ (by omega)
    have u2 : IntKind.i64.wrap (m - (x.to - x.fr)) = m - (x.to - x.fr) := IntWalk.i64_in _ (by omega)
    have hq0 : 0 ≤ q := by omega
    have hq1 : x.fr + q ≤ x.to := by omega
    have u3 : IntKind.i64.wrap (x.fr + q) = x.fr + q := IntWalk.i64_in _ (by omega)
    clear ha hx hbd HM HOS HPS hq
    have HBX : Hid (Bl (wr.alloc (.cells #[.int .i64 x.src, .int .i64 x.fr, .int .i64 x.to] 68)) wr.heap.size 68 #[.int .i64 x.src, .int .i64 x.fr, .int .i64 x.to]) := Bl.new _ _ _
    have HT5 := Lib.hid (HT.out.alloc (.cells #[.int .i64 x.src, .int .i64 x.fr, .int .i64 x.to] 68))
    have hsz : w.heap.size ≤ wr.heap.size := HT.out.below.size
    have HGX0 : (.slice B k d : Value).ownBlock ≠ some wr.heap.size := fun e => by have := own_lt HT.out.l _ e; omega
    clear HT
    go_upto_region 6 with (fail)
    clear a0 a1 a2
    generalize wr.alloc (.cells #[.int .i64 x.src, .int .i64 x.fr, .int .i64 x.to] 68) = W5 at *
    generalize hgx : wr.heap.size = gx at *
    have c0 := HBX.out.g0
    have c1 := HBX.out.g1
    have c2 := HBX.out.g2
    clear hgx
    go_upto_region 8 with (fail)
    have HGX : Hid ((.slice B k d : Value).ownBlock ≠ some gx) := HGX0
    by_cases g1 : 0 < q
    case pos =>
      rw [if_pos g1] at HOS2
      have dg1 : decide (0 < q) = true := decide_eq_true g1
      clear g1
      have HTA := Lib.hid (HT5.out.alloc (.cells #[.int .i64 x.src, .int .i64 x.fr, .int .i64 (x.fr + q)] 68))
      have HO := Lib.hid HTA.out.l
      have HRD : Hid (Rd (W5.alloc (.cells #[.int .i64 x.src, .int .i64 x.fr, .int .i64 (x.fr + q)] 68)) 3 (some ⟨W5.heap.size, 0, none⟩) 1 (encSl ⟨x.src, x.fr, x.fr + q⟩)) := ⟨rfl, fun _ => ⟨W5.heap.size, 0, rfl, by simp, fun j u hu => by rw [Nat.zero_add, (show Bl (W5.alloc (.cells #[.int .i64 x.src, .int .i64 x.fr, .int .i64 (x.fr + q)] 68)) W5.heap.size 68 (encSl ⟨x.src, x.fr, x.fr + q⟩).toArray from Bl.new _ _ _).cell]; simpa using hu⟩⟩
      have HON := Lib.hid (encSl_one ⟨x.src, x.fr, x.fr + q⟩)
      have HM1 : Hid (k + 1 ≤ maxLen ∧ (k + 1) * 24 ≤ 140737488355328) := ⟨by unfold maxLen; omega, by omega⟩
      have HSA : Hid (w.heap.size ≤ (W5.alloc (.cells #[.int .i64 x.src, .int .i64 x.fr, .int .i64 (x.fr + q)] 68)).heap.size) := HTA.out.below.size
      have HBXA : Hid (Bl (W5.alloc (.cells #[.int .i64 x.src, .int .i64 x.fr, .int .i64 (x.fr + q)] 68)) gx 68 #[.int .i64 x.src, .int .i64 x.fr, .int .i64 x.to]) := HBX.out.alloc _
      go_upto_region 10 with (at_builtin; refine wpList_append_rd _ rfl (.tmp 38) (.tmp 48) 34 rfl w.heap.size 68 _ 3 24 Tryz.underlying34 infoSl rfl (by decide) (.slice B k d) k (flat encSl os) rfl HO.out (some ⟨W5.heap.size, 0, none⟩) 1 _ (encSl ⟨x.src, x.fr, x.fr + q⟩) rfl HRD.out HON.out HM1.out.1 HM1.out.2 HSA.out ?_; intro v8 w8 ho8 hg8 hv8; obtain ⟨B8, d8, rfl⟩ := own_slice ho8)
      have HT8 := Lib.hid (HTA.out.left ho8 hg8 hv8)
      have HBX8 : Hid (Bl w8 gx 68 #[.int .i64 x.src, .int .i64 x.fr, .int .i64 x.to]) := (hg8.block gx HBXA.out.lt (fun e => HGX.out e.symm)).trans HBXA.out
      clear ho8 hg8 hv8 HTA HO HRD HON HM1 HSA HBXA HBX HT5
      have e0 := HBX8.out.g0
      have e1 := HBX8.out.g1
      have e2 := HBX8.out.g2
      have HTG : Hid (Two w 68 3 w8 (.slice B8 (k + 1) d8) (k + 1) (flat encSl (os ++ [⟨x.src, x.fr, x.fr + q⟩])) (.slice C j d2) j (flat encSl ps)) := by show Two _ _ _ _ _ _ _ _ _ _; rw [flat_append os, flat_one]; exact HT8.out
      clear HT8
      by_cases g2 : x.fr + q < x.to
      case pos =>
        rw [if_pos g2] at HPS2
        have dg2 : decide (x.fr + q < x.to) = true := decide_eq_true g2
        clear g2
        have HTA := Lib.hid (HTG.out.alloc (.cells #[.int .i64 x.src, .int .i64 (x.fr + q), .int .i64 x.to] 68))
        have HO := Lib.hid HTA.out.r
        have HRD : Hid (Rd (w8.alloc (.cells #[.int .i64 x.src, .int .i64 (x.fr + q), .int .i64 x.to] 68)) 3 (some ⟨w8.heap.size, 0, none⟩) 1 (encSl ⟨x.src, x.fr + q, x.to⟩)) := ⟨rfl, fun _ => ⟨w8.heap.size, 0, rfl, by simp, fun j u hu => by rw [Nat.zero_add, (show Bl (w8.alloc (.cells #[.int .i64 x.src, .int .i64 (x.fr + q), .int .i64 x.to] 68)) w8.heap.size 68 (encSl ⟨x.src, x.fr + q, x.to⟩).toArray from Bl.new _ _ _).cell]; simpa using hu⟩⟩
        have HON := Lib.hid (encSl_one ⟨x.src, x.fr + q, x.to⟩)
        have HM1 : Hid (j + 1 ≤ maxLen ∧ (j + 1) * 24 ≤ 140737488355328) := ⟨by unfold maxLen; omega, by omega⟩
        have HSA : Hid (w.heap.size ≤ (w8.alloc (.cells #[.int .i64 x.src, .int .i64 (x.fr + q), .int .i64 x.to] 68)).heap.size) := HTA.out.below.size
        go_wp2_with (at_builtin; refine wpList_append_rd _ rfl (.tmp 57) (.tmp 67) 34 rfl w.heap.size 68 _ 3 24 Tryz.underlying34 infoSl rfl (by decide) (.slice C j d2) j (flat encSl ps) rfl HO.out (some ⟨w8.heap.size, 0, none⟩) 1 _ (encSl ⟨x.src, x.fr + q, x.to⟩) rfl HRD.out HON.out HM1.out.1 HM1.out.2 HSA.out ?_; intro v9 w9 ho9 hg9 hv9; obtain ⟨C9, d9, rfl⟩ := own_slice ho9)
        have HT9 := Lib.hid (HTA.out.right ho9 hg9 hv9)
        clear ho9 hg9 hv9 HTA HO HRD HON HM1 HSA HTG
        have HTF : Hid (Two w 68 3 w9 (.slice B8 (k + 1) d8) (k + 1) (flat encSl (os ++ [⟨x.src, x.fr, x.fr + q⟩])) (.slice C9 (j + 1) d9) (j + 1) (flat encSl (ps ++ [⟨x.src, x.fr + q, x.to⟩]))) := by show Two _ _ _ _ _ _ _ _ _ _; rw [flat_append ps, flat_one]; exact HT9.out
        go_roundw
        case rel => exact ⟨i + 1, m - (x.to - x.fr), B8, (k + 1), d8, C9, j + 1, d9, (os ++ [⟨x.src, x.fr, x.fr + q⟩]), ps ++ [⟨x.src, x.fr + q, x.to⟩], by go_num, rfl, rfl, rfl, by omega, by omega, by omega, HM2.out, (by show _ = _; rw [HOS2.out]), (by show _ = _; rw [HPS2.out]), (by show _ = _; rw [List.length_append, HK.out]; rfl), (by show _ = _; rw [List.length_append, HL.out]; rfl), (by show Two _ _ _ _ _ _ _ _ _ _; exact HTF.out)⟩
        case measure => simp [intOf]; omega
      case neg =>
        rw [if_neg g2] at HPS2
        have dg2 : decide (x.fr + q < x.to) = false := decide_eq_false g2
        clear g2
        go_wp2_with fail
        go_roundw
        case rel => exact ⟨i + 1, m - (x.to - x.fr), B8, (k + 1), d8, C, j, d2, (os ++ [⟨x.src, x.fr, x.fr + q⟩]), ps, by go_num, rfl, rfl, rfl, by omega, by omega, by omega, HM2.out, (by show _ = _; rw [HOS2.out]), (by show _ = _; rw [HPS2.out]; simp), (by show _ = _; rw [List.length_append, HK.out]; rfl), HL.out, (by show Two _ _ _ _ _ _ _ _ _ _; exact HTG.out)⟩
        case measure => simp [intOf]; omega
    case neg =>
      rw [if_neg g1] at HOS2
      have dg1 : decide (0 < q) = false := decide_eq_false g1
      clear g1
      by_cases g2 : x.fr + q < x.to
      case pos =>
        rw [if_pos g2] at HPS2
        have dg2 : decide (x.fr + q < x.to) = true := decide_eq_true g2
        clear g2
        have HTA := Lib.hid (HT5.out.alloc (.cells #[.int .i64 x.src, .int .i64 (x.fr + q), .int .i64 x.to] 68))
        have HO := Lib.hid HTA.out.r
        have HRD : Hid (Rd (W5.alloc (.cells #[.int .i64 x.src, .int .i64 (x.fr + q), .int .i64 x.to] 68)) 3 (some ⟨W5.heap.size, 0, none⟩) 1 (encSl ⟨x.src, x.fr + q, x.to⟩)) := ⟨rfl, fun _ => ⟨W5.heap.size, 0, rfl, by simp, fun j u hu => by rw [Nat.zero_add, (show Bl (W5.alloc (.cells #[.int .i64 x.src, .int .i64 (x.fr + q), .int .i64 x.to] 68)) W5.heap.size 68 (encSl ⟨x.src, x.fr + q, x.to⟩).toArray from Bl.new _ _ _).cell]; simpa using hu⟩⟩
        have HON := Lib.hid (encSl_one ⟨x.src, x.fr + q, x.to⟩)
        have HM1 : Hid (j + 1 ≤ maxLen ∧ (j + 1) * 24 ≤ 140737488355328) := ⟨by unfold maxLen; omega, by omega⟩
        have HSA : Hid (w.heap.size ≤ (W5.alloc (.cells #[.int .i64 x.src, .int .i64 (x.fr + q), .int .i64 x.to] 68)).heap.size) := HTA.out.below.size
        go_wp2_with (at_builtin; refine wpList_append_rd _ rfl (.tmp 57) (.tmp 67) 34 rfl w.heap.size 68 _ 3 24 Tryz.underlying34 infoSl rfl (by decide) (.slice C j d2) j (flat encSl ps) rfl HO.out (some ⟨W5.heap.size, 0, none⟩) 1 _ (encSl ⟨x.src, x.fr + q, x.to⟩) rfl HRD.out HON.out HM1.out.1 HM1.out.2 HSA.out ?_; intro v9 w9 ho9 hg9 hv9; obtain ⟨C9, d9, rfl⟩ := own_slice ho9)
        have HT9 := Lib.hid (HTA.out.right ho9 hg9 hv9)
        clear ho9 hg9 hv9 HTA HO HRD HON HM1 HSA HT5
        have HTF : Hid (Two w 68 3 w9 (.slice B k d) k (flat encSl os) (.slice C9 (j + 1) d9) (j + 1) (flat encSl (ps ++ [⟨x.src, x.fr + q, x.to⟩]))) := by show Two _ _ _ _ _ _ _ _ _ _; rw [flat_append ps, flat_one]; exact HT9.out
        go_roundw
        case rel => exact ⟨i + 1, m - (x.to - x.fr), B, k, d, C9, j + 1, d9, os, ps ++ [⟨x.src, x.fr + q, x.to⟩], by go_num, rfl, rfl, rfl, by omega, by omega, by omega, HM2.out, (by show _ = _; rw [HOS2.out]; simp), (by show _ = _; rw [HPS2.out]), HK.out, (by show _ = _; rw [List.length_append, HL.out]; rfl), (by show Two _ _ _ _ _ _ _ _ _ _; exact HTF.out)⟩
        case measure => simp [intOf]; omega
      case neg =>
        rw [if_neg g2] at HPS2
        have dg2 : decide (x.fr + q < x.to) = false := decide_eq_false g2
        clear g2
        go_wp2_with fail
        go_roundw
        case rel => exact ⟨i + 1, m - (x.to - x.fr), B, k, d, C, j, d2, os, ps, by go_num, rfl, rfl, rfl, by omega, by omega, by omega, HM2.out, (by show _ = _; rw [HOS2.out]; simp), (by show _ = _; rw [HPS2.out]; simp), HK.out, HL.out, (by show Two _ _ _ _ _ _ _ _ _ _; exact HT5.out)⟩
        case measure => simp [intOf]; omega
end Go.Proofs.YthnhgjhnkncmiaaGreat

namespace Go.Proofs.YthnhgjhnkncmiaaGreat
open Go.RowKit
set_option linter.unusedVariables false

theorem left_full {t : Int} {ws : List Int} (h : NonNeg ws) (hp : 0 < ws.sum) (ht : t = ws.sum) : leftI t ws = 0 := by
  have h1 := sum_rst t ws
  have hw : wsum ws = ws.sum := by unfold wsum; rw [if_neg (by omega)]
  have h2 : sumN ws.length (rstI t ws) = 0 := by
    have : sumN ws.length (rstI t ws) = sumN ws.length (fun _ => 0) := sumN_congr fun i _ => by unfold rstI; rw [hw, ht, Int.mul_emod_right]
    rw [this, sumN_const]; simp
  rw [h2, hw] at h1
  rcases Int.mul_eq_zero.1 h1.symm with e | e
  · exact e
  · omega
theorem sum_pos_len {ws : List Int} (h : 0 < ws.sum) : 0 < ws.length := by
  cases ws with
  | nil => simp at h
  | cons => simp
set_option maxRecDepth 100000 in
set_option maxHeartbeats 4000000 in
theorem r21shareG_any (t : Int) (A : Option Addr) (n c : Nat) (xs : List Int) (w : World) (h : Ints w A n xs) (hn : n ≤ 1000) (ht0 : 0 ≤ t) (hts : t ≤ xs.sum) (hps : 0 < xs.sum) (ht : t ≤ 1000000000000) (ha : AllIn xs) :
    Calls Tryz.prog 93 #[.int .i64 t, .slice A n c] w fun e w' => ∃ A' c', e = .returned (.slice A' n c') ∧ w'.ownsRow w.heap.size 3 1 (.slice A' n c') n ((shareL t xs).map (Value.int .i64)) ∧ RowKit.Below w.heap.size w w' := by
  have HL := Lib.hid h.1
  have HA := Lib.hid ha
  have HTS := Lib.hid hts
  have HPS := Lib.hid hps
  clear ha hts hps
  have HN : Hid (NonNeg xs) := fun i => (HA.out i).1
  obtain ⟨C1, HC1, hmk1⟩ := make_any (P := Tryz.prog) 22 3 _ 1 8 n Tryz.underlying22 infoI (by omega) (by omega)
  obtain ⟨C2, HC2, hmk2⟩ := make_any (P := Tryz.prog) 154 4 _ 1 1 n Tryz.underlying154 infoB (by omega) (by omega)
  have HMK1 := Lib.hid hmk1
  have HMK2 := Lib.hid hmk2
  clear hmk1 hmk2
  go_enter Tryz.func93, Tryz.ntmps93
  go_wp2
  go_loop [5, 6] (fun s i => ∃ k : Nat, k ≤ n ∧ i = .int .i64 k ∧ s = .int .i64 (xs.take k).sum) (fun _ i => n - (intOf i).toNat)
  case atStart => exact ⟨0, Nat.zero_le _, rfl, by simp⟩
  case round =>
    obtain ⟨k, hk, rfl, rfl⟩ := hrel
    by_cases hlt : k < n
    · obtain ⟨b, off, x, rfl, _, hc, HX⟩ := h.get hlt
      have hb := sum_take_bound xs 1000000000000 HA.out k (by have := HL.out; omega)
      have hb0 := HA.out k
      have HS := Lib.hid (sum_take_succ xs k (by have := HL.out; omega))
      rw [HX.out] at hb0 HS
      generalize (xs.take k).sum = s at *
      go_wp2
      go_round
      case rel => exact ⟨k + 1, by omega, by go_num, by rw [HS.out]⟩
      case measure => simp [intOf]; omega
    · obtain rfl : k = n := by omega
      rw [List.take_of_length_le (by have := HL.out; omega)]
      have hS1 : xs.sum ≤ 1000000000000000 := by
        have := (sum_take_bound xs 1000000000000 HA.out xs.length (Nat.le_refl _)).2
        rw [List.take_length] at this
        have := HL.out
        omega
      have hS0 := HTS.out
      have hP0 := HPS.out
      have hlen : 0 < xs.length := by
        rcases Nat.eq_zero_or_pos xs.length with e | e
        · rw [List.eq_nil_of_length_eq_zero e] at hP0; simp at hP0
        · exact e
      have HLN := Lib.hid hlen
      clear hlen
      obtain ⟨S, hS⟩ : ∃ S, xs.sum = S := ⟨_, rfl⟩
      have HSS := Lib.hid hS
      rw [hS] at hS0 hP0 hS1 ⊢
      clear hS hlt hk
      have b5 : (S == 0) = false := by simp; omega
      have HOW : Hid ((w.alloc (Obj.cells #[] 3)).ownsRow w.heap.size 3 1 (.slice (some ⟨w.heap.size, 0, none⟩) 0 0) 0 []) :=
        ⟨rfl, .inr ⟨w.heap.size, 0, #[], rfl, Nat.le_refl _, heap_alloc_new w _, Nat.le_refl _, Nat.zero_le _, rfl, rfl⟩⟩
      have HRD := Lib.hid ((Rd.of_ints h).alloc (.cells #[] 3))
      have HSZ : Hid (w.heap.size ≤ (w.alloc (Obj.cells #[] 3)).heap.size) := by show w.heap.size ≤ _; simp
      have hmk1 := HMK1.out
      go_wp2_with (at_builtin; refine wpList_append_rd _ rfl (.tmp 27) (.tmp 28) 22 rfl w.heap.size 3 _ 1 8 Tryz.underlying22 infoI rfl (by decide) (.slice (some ⟨w.heap.size, 0, none⟩) 0 0) 0 [] rfl HOW.out A k c (xs.map (Value.int .i64)) rfl HRD.out (one_ints _ _) (by unfold maxLen; omega) (by omega) HSZ.out ?_; intro v2 w2 ho2 hg2 hat2; obtain ⟨A2, c2, hv2⟩ := own_slice ho2; rw [hv2] at ho2 ⊢)
      have ho3 : w2.ownsRow w.heap.size 3 1 (.slice A2 k c2) k (xs.map (Value.int .i64)) := by simpa using ho2
      have hI2 : Ints w2 A2 k xs := IntsK.of_own ho3
      have hbel2 : RowKit.Below w.heap.size w w2 := ((Below.refl _ _).alloc (Nat.le_refl _) _).grown hg2 HSZ.out (by intro g hg; simp [Value.ownBlock] at hg; omega)
      clear ho2 ho3 hg2 hat2 hv2 HOW HRD HSZ h
      clear hmk1 HMK1
      go_loopw [10, 11] (fun l i wr => ∃ (m : Nat) (c1 : Array Value), m ≤ k ∧ i = .int .i64 m ∧ l = .int .i64 (t - sumN m (quoI t xs)) ∧ Bl wr w2.heap.size 3 c1 ∧ IntRow c1 k (fun j => if j < m then quoI t xs j else 0) ∧ RowKit.Below w2.heap.size w2 wr) (fun _ i _ => k - (intOf i).toNat)
      case atStart => exact ⟨0, C1, Nat.zero_le _, rfl, by simp [sumN_zero], Bl.new _ _ _, (IntRow.zeros HC1.out).congr (fun j _ => by simp), (Below.refl _ _).alloc (Nat.le_refl _) _⟩
      case round =>
        obtain ⟨m, c1, hm, rfl, rfl, HB1, HR1, hbel⟩ := hrel
        by_cases hlt2 : m < k
        · obtain ⟨b, off, x, hA, hbw, hc, HX⟩ := hI2.get hlt2
          subst hA
          have hc1 : wr.cell? ⟨b, off + m, none⟩ = some (.int .i64 x) := (hbel.cell (p := ⟨b, off + m, none⟩) hbw).trans hc
          have hmx : m < xs.length := by have := HL.out; omega
          have hqn := quo_nonneg HN.out ht0 HLN.out m
          have hql := quo_le t xs ht0 HN.out m hmx
          have hx0 : 0 ≤ x := by have := HN.out m; rw [HX.out] at this; exact this
          have hxS : x ≤ S := by have := getD_le_sum xs HN.out m hmx; rw [HX.out, HSS.out] at this; exact this
          have HQ := Lib.hid (sumN_succ m (quoI t xs))
          obtain ⟨hb1, hb2⟩ := sum_quo_bounds t xs ht0 HN.out m (by omega) HLN.out
          obtain ⟨hb3, hb4⟩ := sum_quo_bounds t xs ht0 HN.out (m + 1) (by omega) HLN.out
          rw [HQ.out] at hb3 hb4
          have HRA : Hid (∀ q, quoI t xs m = q → IntRow (c1.setIfInBounds m (.int .i64 q)) k (fun j => if j < m + 1 then quoI t xs j else 0)) := fun q hq => HR1.set m q (fun j hj => by
            by_cases e : j = m
            · subst e; rw [if_pos (by omega), if_pos rfl, hq]
            · rw [if_neg e]; by_cases e2 : j < m
              · rw [if_pos e2, if_pos (by omega)]
              · rw [if_neg e2, if_neg (by omega)])
          have k1 := HR1.cell HB1 hlt2
          rw [if_neg (by omega)] at k1
          have hqe : t * x / S = quoI t xs m := by unfold quoI wsum wt; rw [HSS.out, if_neg (by omega), if_neg (by omega), HX.out]
          have HM : Hid (∀ w : World, Calls Tryz.prog 71 #[.int .i64 t, .int .i64 x, .int .i64 S] w fun e w' => e = .returned (.int .i64 (quoI t xs m)) ∧ ∃ q, w' = w.drewN q) := fun w => by
            have h1 := rmuldivG_any t x S w ht0 (by omega) hP0 (by omega) hx0 (by omega) (by rw [hqe]; omega)
            rw [hqe] at h1
            exact h1
          have f1 : wr.frozen? ⟨w2.heap.size, m, none⟩ = false := HB1.free m
          generalize quoI t xs m = q at *
          generalize sumN m (quoI t xs) = sq at *
          go_wp2_with fail
          refine (HM.out _).mono ?_
          rintro e w1 ⟨rfl, nq, rfl⟩
          go_wp2
          go_roundw
          case rel => exact ⟨m + 1, _, by omega, by go_num, by rw [HQ.out]; go_num, (HB1.drewN nq).put _ _, HRA.out _ rfl, (below_drewN hbel nq).setCell (p := ⟨w2.heap.size, m, none⟩) (Nat.le_refl _) _⟩
          case measure => simp [intOf]; omega
        · obtain rfl : m = k := by omega
          have eL : t - sumN m (quoI t xs) = leftI t xs := by unfold leftI; rw [HL.out]
          rw [eL]
          have h1 := left_nonneg (t := t) HN.out HLN.out
          have h2 := left_lt (t := t) HN.out HLN.out
          rw [HL.out] at h2
          obtain ⟨L, hLe⟩ : ∃ L, leftI t xs = L := ⟨_, rfl⟩
          rw [hLe] at h1 h2 ⊢
          have HLE := Lib.hid hLe
          clear eL hLe hlt2 hm
          have hg1 := HB1.lt
          have hmk2 := HMK2.out
          go_wp2
          clear hmk2 HMK2
          have hg12 : w2.heap.size ≠ wr.heap.size := by omega
          have hg21 : wr.heap.size ≠ w2.heap.size := by omega
          have hgs : w2.heap.size ≤ wr.heap.size := by omega
          obtain ⟨g1, hg1e⟩ : ∃ g, w2.heap.size = g := ⟨_, rfl⟩
          obtain ⟨g2, hg2e⟩ : ∃ g, wr.heap.size = g := ⟨_, rfl⟩
          have HB1' := HB1.alloc (.cells C2 4)
          have HB2' := Bl.new wr 4 C2
          have hbel' := hbel.alloc hgs (.cells C2 4)
          generalize wr.alloc (.cells C2 4) = wb at *
          rw [hg1e] at HB1' hbel' hg12 hg21 hgs ⊢
          rw [hg2e] at HB2' hg12 hg21 hgs ⊢
          clear HB1 hbel hg1
          have HIb : Hid (∀ wx : World, RowKit.Below g1 w2 wx → Ints wx A2 m xs) := fun wx hx => hI2.below (by rw [hg1e]; exact hx)
          have hwg : w.heap.size ≤ g1 := by have := hbel2.size; omega
          have HRN : Hid (∀ j, j < m → 0 ≤ rstI t xs j) := fun j hj => rst_nonneg HN.out HLN.out j
          have HRest : Hid (t < S → ∀ (j : Nat) (x : Int), xs.getD j 0 = x → j < m → ∀ w : World, Calls Tryz.prog 108 #[.int .i64 t, .int .i64 x, .int .i64 S] w fun e w' => e = .returned (.int .i64 (rstI t xs j)) ∧ ∃ q, w' = w.drewN q) := fun hlt0 j x hx hj w => by
            have hx0 : 0 ≤ x := by have := HN.out j; rw [hx] at this; exact this
            have hxS : x ≤ S := by have := getD_le_sum xs HN.out j (by have := HL.out; omega); rw [hx, HSS.out] at this; exact this
            have h1 := rrest_any t x S w ht0 hlt0 (by omega) hx0 (by omega)
            have e1 : t * x % S = rstI t xs j := by unfold rstI wsum wt; rw [HSS.out, if_neg (by omega), if_neg (by omega), hx]
            rw [e1] at h1
            exact h1
          clear hI2 hg1e hg2e HC1
          have HFZ := Lib.hid (BoolRow.falses HC2.out)
          clear HC2
          go_loopw [10] (fun l wr => ∃ (p : Nat) (d1 d2 : Array Value), (p : Int) ≤ L ∧ l = .int .i64 (L - p) ∧ Bl wr g1 3 d1 ∧ IntRow d1 m (fun j => quoI t xs j + if rank (rstI t xs) m j < p then 1 else 0) ∧ Bl wr g2 4 d2 ∧ BoolRow d2 m (fun j => decide (rank (rstI t xs) m j < p)) ∧ RowKit.Below g1 w2 wr) (fun l _ => (intOf l).toNat)
          case atStart => exact ⟨0, c1, C2, by omega, by simp, HB1', HR1.congr (fun j hj => by simp [hj]), HB2', HFZ.out.congr (fun j hj => by simp), hbel'⟩
          case round =>
            clear HB1' HR1 HB2' hbel' HFZ
            obtain ⟨p, d1, d2, hp, rfl, HB1, HR1, HB2, HR2, hbel⟩ := hrel
            by_cases hpL : (p : Int) < L
            · have hpos : 0 < L - (p : Int) := by omega
              have hpm : p < m := by omega
              have hlt0 : t < S := by
                rcases Int.lt_or_eq_of_le hS0 with h3 | h3
                · exact h3
                · have := left_full (t := t) HN.out HPS.out (by rw [HSS.out]; exact h3)
                  have := HLE.out
                  omega
              go_wp2
              go_loopw [13, 14] (fun bb ii wi => ∃ (i : Nat) (bst : Int), i ≤ m ∧ bb = .int .i64 bst ∧ ii = .int .i64 i ∧ Hid (BestTo (rstI t xs) m p i bst) ∧ Bl wi g1 3 d1 ∧ Bl wi g2 4 d2 ∧ RowKit.Below g1 w2 wi) (fun _ ii _ => m - (intOf ii).toNat)
              case atStart => exact ⟨0, -1, Nat.zero_le _, rfl, rfl, .inl ⟨rfl, fun j hj => absurd hj (by omega)⟩, HB1, HB2, hbel⟩
              case round =>
                clear HB1 HB2 hbel
                obtain ⟨i, bst, him, rfl, rfl, HBS, HB1, HB2, hbel⟩ := hrel
                by_cases hlt3 : i < m
                · have q2 := HR2.cell HB2 hlt3
                  have i1 : (0 : Int) ≤ (i : Int) := by omega
                  have i2 : (i : Int) < (m : Int) := by omega
                  by_cases hu : rank (rstI t xs) m i < p
                  · rw [decide_eq_true hu] at q2
                    have HNB := Lib.hid (bestTo_used HBS.out hu)
                    go_wp2
                    go_quiet (fail)
                    go_wp2
                    go_roundw
                    case rel => exact ⟨i + 1, bst, by omega, rfl, by go_num, HNB.out, HB1.drewN _, HB2.drewN _, below_drewN hbel _⟩
                    case measure => simp [intOf]; omega
                  · rw [decide_eq_false hu] at q2
                    rcases HBS.out with ⟨rfl, _⟩ | ⟨b, rfl, hbi, _⟩
                    · have HNB := Lib.hid (bestTo_first HBS.out hu)
                      go_wp2
                      go_quiet (fail)
                      go_wp2
                      go_roundw
                      case rel => exact ⟨i + 1, i, by omega, rfl, by go_num, HNB.out, HB1.drewN _, HB2.drewN _, below_drewN hbel _⟩
                      case measure => simp [intOf]; omega
                    · obtain ⟨b1, off, x, hA, hbw, hc, HX⟩ := (HIb.out _ hbel).get hlt3
                      obtain ⟨b1', off', y, hA', hbw', hc', HY⟩ := (HIb.out _ hbel).get (show b < m by omega)
                      rw [hA] at hA'
                      simp only [Option.some.injEq, Addr.mk.injEq, and_true] at hA'
                      obtain ⟨rfl, rfl⟩ := hA'
                      subst hA
                      have HRI := Lib.hid (HRest.out hlt0 i x HX.out hlt3)
                      have HRB := Lib.hid (HRest.out hlt0 b y HY.out (by omega))
                      have HGT := Lib.hid (fun hg => bestTo_next (b := b) HBS.out hu hg)
                      have HGE := Lib.hid (fun hg => bestTo_same (i := i) (b := b) HBS.out hg)
                      have i3 : (0 : Int) ≤ (b : Int) := by omega
                      have i4 : (b : Int) < (m : Int) := by omega
                      have dn : decide ((b : Int) < 0) = false := by simp
                      generalize rstI t xs i = ri at *
                      generalize rstI t xs b = rb at *
                      by_cases hgt : rb < ri
                      · have HNB := Lib.hid (HGT.out hgt)
                        clear HGT HGE
                        go_wp2
                        go_quiet ((go_at_call 108; first | (with_reducible exact Calls.quiet_of (HRI.out _)) | (with_reducible exact Calls.quiet_of (HRB.out _))))
                        go_wp2
                        go_roundw
                        case rel => exact ⟨i + 1, i, by omega, rfl, by go_num, HNB.out, HB1.drewN _, HB2.drewN _, below_drewN hbel _⟩
                        case measure => simp [intOf]; omega
                      · have HNB := Lib.hid (HGE.out hgt)
                        clear HGT HGE
                        go_wp2
                        go_quiet ((go_at_call 108; first | (with_reducible exact Calls.quiet_of (HRI.out _)) | (with_reducible exact Calls.quiet_of (HRB.out _))))
                        go_wp2
                        go_roundw
                        case rel => exact ⟨i + 1, b, by omega, rfl, by go_num, HNB.out, HB1.drewN _, HB2.drewN _, below_drewN hbel _⟩
                        case measure => simp [intOf]; omega
                · obtain rfl : i = m := by omega
                  obtain ⟨b, rfl, hbm, hrk⟩ := bestTo_end HBS.out hpm HRN.out
                  have hrj : ∀ j, j < i → j ≠ b → (rank (rstI t xs) i j < p + 1 ↔ rank (rstI t xs) i j < p) := fun j hj hne2 => by
                    have : rank (rstI t xs) i j ≠ p := fun e => hne2 (rank_inj (rstI t xs) i j b hj hbm (by omega))
                    omega
                  have q1 := HR1.cell HB1 hbm
                  have q2 := HR2.cell HB2 hbm
                  rw [if_neg (by omega)] at q1
                  have HO1 : Hid (∀ v, quoI t xs b + 0 + 1 = v → IntRow (d1.setIfInBounds b (.int .i64 v)) i (fun j => quoI t xs j + if rank (rstI t xs) i j < p + 1 then 1 else 0)) := fun v hv => HR1.set b v (fun j hj => by
                    by_cases e : j = b
                    · subst e; rw [if_pos rfl, if_pos (by omega)]; omega
                    · rw [if_neg e]; simp only [hrj j hj e])
                  have HO2 : Hid (BoolRow (d2.setIfInBounds b (.bool true)) i (fun j => decide (rank (rstI t xs) i j < p + 1))) := HR2.set b true (fun j hj => by
                    by_cases e : j = b
                    · subst e; rw [if_pos rfl]; simp; omega
                    · rw [if_neg e]; simp only [hrj j hj e])
                  have hqn : 0 ≤ quoI t xs b := quo_nonneg HN.out ht0 HLN.out b
                  have hql := quo_le t xs ht0 HN.out b (by have := HL.out; omega)
                  generalize decide (rank (rstI t xs) i b < p) = qb at q2
                  clear hrj hrk
                  rw [Int.add_zero] at q1 HO1
                  generalize quoI t xs b = q at *
                  have f1 : wr.frozen? ⟨g1, b, none⟩ = false := HB1.free b
                  have f2 : wr.frozen? ⟨g2, b, none⟩ = false := HB2.free b
                  have i3 : (0 : Int) ≤ (b : Int) := by omega
                  have i4 : (b : Int) < (i : Int) := by omega
                  go_wp2
                  go_roundw
                  case rel => exact ⟨p + 1, _, _, by omega, by go_num, (HB1.far (p := ⟨g2, b, none⟩) hg12 _).put _ _, HO1.out _ rfl, (HB2.put _ _).far (p := ⟨g1, b, none⟩) hg21 _, HO2.out, (hbel.setCell (p := ⟨g2, b, none⟩) hgs _).setCell (p := ⟨g1, b, none⟩) (Nat.le_refl _) _⟩
                  case measure => simp [intOf]; omega
            · have hpe : L = p := by omega
              have hnp : ¬ 0 < L - (p : Int) := by omega
              have HO : Hid ((List.range m).map (fun j => quoI t xs j + if rank (rstI t xs) m j < p then 1 else 0) = shareL t xs) := by
                unfold shareL
                rw [HL.out]
                refine List.map_congr_left fun j hj => ?_
                unfold shareI
                rw [HL.out, HLE.out, hpe]
                by_cases e : rank (rstI t xs) m j < p
                · rw [if_pos e, if_pos (by omega)]
                · rw [if_neg e, if_neg (by omega)]
              clear hpe
              go_wp2
              go_ret
              have how := HR1.own HB1 hwg (by omega)
              rw [HO.out] at how
              exact ⟨_, _, rfl, how, hbel2.trans (hbel.mono hwg)⟩
end Go.Proofs.YthnhgjhnkncmiaaGreat

namespace Go.Proofs.YthnhgjhnkncmiaaGreat
open Go.RowKit
set_option linter.unusedVariables false

def ShRes29 (w : World) (n : Nat) (e : Ending) (w' : World) : Prop := ∃ (A : Option Addr) (c : Nat) (ys : List Int), e = .returned (.slice A n c) ∧ w'.ownsRow w.heap.size 3 1 (.slice A n c) n (ys.map (Value.int .i64)) ∧ ys.length = n ∧ (∀ i : Nat, 0 ≤ ys.getD i 0 ∧ ys.getD i 0 ≤ 1000000000001) ∧ RowKit.Below w.heap.size w w'
theorem shareL_bounds {t : Int} {xs : List Int} (h : NonNeg xs) (ht0 : 0 ≤ t) (ht : t ≤ 1000000000000) (i : Nat) : 0 ≤ (shareL t xs).getD i 0 ∧ (shareL t xs).getD i 0 ≤ 1000000000001 := by
  by_cases hi : i < xs.length
  · rw [shareL_get t xs i hi]
    have h1 := quo_nonneg h ht0 (by omega) i
    have h2 := quo_le t xs ht0 h i hi
    unfold shareI
    split <;> omega
  · rw [List.getD_eq_getElem?_getD, List.getElem?_eq_none (by rw [shareL_length]; omega)]
    simp
set_option maxRecDepth 100000 in
set_option maxHeartbeats 4000000 in
theorem shareNone_any (A : Option Addr) (c : Nat) (w : World) :
    Calls Tryz.prog 93 #[.int .i64 0, .slice A 0 c] w (ShRes29 w 0) := by
  obtain ⟨C1, HC1, hmk1⟩ := make_any (P := Tryz.prog) 22 3 _ 1 8 0 Tryz.underlying22 infoI (by omega) (by omega)
  obtain ⟨C2, HC2, hmk2⟩ := make_any (P := Tryz.prog) 154 4 _ 1 1 0 Tryz.underlying154 infoB (by omega) (by omega)
  rw [show (((0 : Nat) : Int)) = (0 : Int) from rfl] at hmk1 hmk2
  go_enter Tryz.func93, Tryz.ntmps93
  go_wp2
  go_loop [5, 6] (fun s i => i = .int .i64 0 ∧ s = .int .i64 0) (fun _ _ => 0)
  case atStart => exact ⟨rfl, rfl⟩
  case round =>
    obtain ⟨rfl, rfl⟩ := hrel
    have HOW : Hid ((w.alloc (Obj.cells #[] 3)).ownsRow w.heap.size 3 1 (.slice (some ⟨w.heap.size, 0, none⟩) 0 0) 0 []) :=
        ⟨rfl, .inr ⟨w.heap.size, 0, #[], rfl, Nat.le_refl _, heap_alloc_new w _, Nat.le_refl _, Nat.zero_le _, rfl, rfl⟩⟩
    have HRD : Hid (Rd (w.alloc (Obj.cells #[] 3)) 1 A 0 []) := ⟨rfl, fun h => by omega⟩
    have HSZ : Hid (w.heap.size ≤ (w.alloc (Obj.cells #[] 3)).heap.size) := by show w.heap.size ≤ _; simp
    go_wp2_with (at_builtin; refine wpList_append_rd _ rfl (.tmp 27) (.tmp 28) 22 rfl w.heap.size 3 _ 1 8 Tryz.underlying22 infoI rfl (by decide) (.slice (some ⟨w.heap.size, 0, none⟩) 0 0) 0 [] rfl HOW.out A 0 c [] rfl HRD.out (by simp) (by unfold maxLen; omega) (by omega) HSZ.out ?_; intro v2 w2 ho2 hg2 hat2; obtain ⟨A2, c2, rfl⟩ := own_slice ho2)
    have hb2 : RowKit.Below w.heap.size w w2 := ((Below.refl _ _).alloc (Nat.le_refl _) _).grown hg2 HSZ.out (by intro g hg; simp [Value.ownBlock] at hg; omega)
    have HB2 := Lib.hid hb2
    clear ho2 hg2 hat2 HOW HRD HSZ hb2
    go_loop [8] (fun i => i = .int .i64 0) (fun _ => 0)
    case atStart => rfl
    case round =>
      subst hrel
      go_wp2
      have HB3 : Hid (RowKit.Below w.heap.size w (w2.alloc (.cells C1 3))) := HB2.out.alloc HB2.out.size _
      have HO3 : Hid ((w2.alloc (.cells C1 3)).ownsRow w.heap.size 3 1 (.slice (some ⟨w2.heap.size, 0, none⟩) 0 0) 0 []) :=
        ⟨rfl, .inr ⟨w2.heap.size, 0, C1, rfl, HB2.out.size, heap_alloc_new w2 _, Nat.le_refl _, Nat.zero_le _, by simpa using HC1.out.1, by have := HC1.out.1; simp at this; simp [this]⟩⟩
      clear HB2
      generalize w2.alloc (.cells C1 3) = w3 at *
      generalize w2.heap.size = g3 at *
      go_loop [10, 11] (fun l i => l = .int .i64 0 ∧ i = .int .i64 0) (fun _ _ => 0)
      case atStart => exact ⟨rfl, rfl⟩
      case round =>
        obtain ⟨rfl, rfl⟩ := hrel
        go_wp2
        have HB4 : Hid (RowKit.Below w.heap.size w (w3.alloc (.cells C2 4))) := HB3.out.alloc HB3.out.size _
        have HO4 : Hid ((w3.alloc (.cells C2 4)).ownsRow w.heap.size 3 1 (.slice (some ⟨g3, 0, none⟩) 0 0) 0 []) := own_alloc HO3.out _
        generalize w3.alloc (.cells C2 4) = w4 at *
        go_loop [10] (fun l => l = .int .i64 0) (fun _ => 0)
        case atStart => rfl
        case round =>
          subst hrel
          go_wp2
          go_ret
          exact ⟨some ⟨g3, 0, none⟩, 0, [], rfl, HO4.out, rfl, fun i => by simp, HB4.out⟩
theorem share29_any (t : Int) (A : Option Addr) (n c : Nat) (xs : List Int) (w : World) (h : Ints w A n xs) (hn : n ≤ 1000) (ht0 : 0 ≤ t) (hts : t ≤ xs.sum) (ht : t ≤ 1000000000000) (ha : AllIn xs) (hp : n = 0 ∨ 0 < xs.sum) :
    Calls Tryz.prog 93 #[.int .i64 t, .slice A n c] w (ShRes29 w n) := by
  rcases hp with rfl | hp
  · have hx : xs = [] := List.eq_nil_of_length_eq_zero h.1
    subst hx
    have ht2 : t = 0 := by simp at hts; omega
    subst ht2
    exact shareNone_any A c w
  · refine (r21shareG_any t A n c xs w h hn ht0 hts hp ht ha).mono ?_
    rintro e w' ⟨A', c', h1, h2, h3⟩
    exact ⟨A', c', shareL t xs, h1, h2, by rw [shareL_length]; exact h.1, shareL_bounds (fun i => (ha i).1) ht0 ht, h3⟩
end Go.Proofs.YthnhgjhnkncmiaaGreat

namespace Go.Proofs.YthnhgjhnkncmiaaGreat
open Go.RowKit
set_option linter.unusedVariables false

/-- An empty slice that was written out. -/
theorem own_empty {w : World} {g base : Nat} {t : TypeId} {size : Nat} (h : Bl w g t #[]) (hb : base ≤ g) : w.ownsRow base t size (.slice (some ⟨g, 0, none⟩) 0 0) 0 [] :=
  ⟨by simp, .inr ⟨g, 0, #[], rfl, hb, h, Nat.le_refl _, Nat.zero_le _, by simp, by simp⟩⟩

/-- The append onto a row of the call's own, in a region that draws its order. -/
theorem step_append_rd {P : Program} (w : World) {ops : Array Oper} {o : Oper} {a : Act} {K : Act → World → Prop} {Q : Exit → Act → World → Prop} {E : Prop} (hgd : o.guard = none) (s x : Operand) (t : TypeId)
    (ho : o.op = .call { callee := .builtin .append, args := #[s, x], argTypes := #[t, t] })
    (base : Nat) (e : TypeId) (z : Value) (size bytes : Nat) (ht : P.underlying t = some (.slice e)) (hi : (P.info? e).map (fun i => (i.zero, i.size, i.bytes)) = some (some z, size, bytes)) (hzs : z.cells.size = size) (hsz : 0 < size)
    (v : Value) (n : Nat) (xs : List Value) (hs : a.eval s = v) (hown : w.ownsRow base e size v n xs)
    (A : Option Addr) (m c : Nat) (news : List Value) (hx : a.eval x = .slice A m c) (hr : Rd w size A m news) (h1 : ∀ u ∈ news, u.oneCell' = true)
    (h63 : n + m ≤ maxLen) (hbytes : (n + m) * bytes ≤ 140737488355328) (hbase : base ≤ w.heap.size)
    (h : ∀ v' w', w'.ownsRow base e size v' (n + m) (xs ++ news) → w.grownBy w' v.ownBlock → K (a.put o.dst v') w') :
    if Region.wanted o (yielded ops a.tmps) = true then Oper.wp P o a w K Q else E := by
  obtain ⟨i, hi0, hz, hsize, hby⟩ := info_parts hi
  have hw : Region.wanted o (yielded ops a.tmps) = true := by simp [Region.wanted, hgd]
  rw [if_pos hw]
  obtain ⟨v', w', hrun, h2, h3, _⟩ := run_append_rd (P := P) w base t o.type e i z size bytes ht hi0 hz hsize hby hzs hsz v n xs hown A m c news hr h1 h63 hbytes hbase
  unfold Oper.wp execOp
  simp only [ho, resolve, invoke, builtin, Sem.run_bind, Sem.run_pure, Result.andThen_ok, List.map_toArray, List.map_cons, List.map_nil, hs, hx, hrun]
  exact h v' w' h2 h3
abbrev NoF : List Value → Value → Prop := fun _ _ => True
abbrev NoR : List Value → Value → List Nat → World → Prop := fun _ _ _ _ => True
theorem NoR.loc {w0 : World} : Loc w0 NoR := fun _ _ _ _ _ _ _ _ _ _ => trivial
/-- A row of the call's own. -/
def OwnR (N : Nat) (T : TypeId) (k n : Nat) (xs : List Value) : List Value → Value → List Nat → World → Prop := fun _ v f w => w.ownsRow N T k v n xs ∧ f = v.ownBlock.toList
theorem OwnR.loc {w0 : World} {N : Nat} {T : TypeId} {k n : Nat} {xs : List Value} : Loc w0 (OwnR N T k n xs) := by
  rintro l v f w w' h1 h2 h3 h4 ⟨h5, rfl⟩
  exact ⟨own_of_block h5 fun j hj => (h4 j (by simp [hj])).2.2, rfl⟩
/-- A slice written out. -/
def LitR (T : TypeId) (cs : Array Value) (n : Nat) : List Value → Value → List Nat → World → Prop := fun _ v f w => ∃ g, v = .slice (some ⟨g, 0, none⟩) n n ∧ f = [g] ∧ Bl w g T cs
theorem LitR.loc {w0 : World} {T : TypeId} {n : Nat} {cs : Array Value} : Loc w0 (LitR T cs n) := by
  rintro l v f w w' h1 h2 h3 h4 ⟨g, rfl, rfl, h5⟩
  exact ⟨g, rfl, rfl, (h4 g (by simp)).2.2.trans h5⟩
/-- A box. -/
def PtrR (T : TypeId) (cs : Array Value) : List Value → Value → List Nat → World → Prop := fun _ v f w => ∃ g, v = .pointer (some ⟨g, 0, none⟩) ∧ f = [g] ∧ Bl w g T cs
theorem PtrR.loc {w0 : World} {T : TypeId} {cs : Array Value} : Loc w0 (PtrR T cs) := by
  rintro l v f w w' h1 h2 h3 h4 ⟨g, rfl, rfl, h5⟩
  exact ⟨g, rfl, rfl, (h4 g (by simp)).2.2.trans h5⟩
theorem propA_snoc (l : List Sl) (x : Sl) (s : List Int) : propA (l ++ [x]) s = propA l s ++ frontA [x] (s.getD l.length 0) := by
  induction l generalizing s with
  | nil => cases s <;> simp [propA]
  | cons y ys ih =>
    rw [List.cons_append, propA, ih, propA, List.append_assoc]
    congr 3
    cases s <;> simp
theorem propB_snoc (l : List Sl) (x : Sl) (s : List Int) : propB (l ++ [x]) s = propB l s ++ frontB [x] (s.getD l.length 0) := by
  induction l generalizing s with
  | nil => cases s <;> simp [propB]
  | cons y ys ih =>
    rw [List.cons_append, propB, ih, propB, List.append_assoc]
    congr 3
    cases s <;> simp
theorem compact_short {l : List Sl} (h : l.length ≤ 1) : Compact l := fun i hi => by omega
theorem joinA_one (x : Sl) (n : Int) : joinS (frontA [x] n) = frontA [x] n := join_of_compact (compact_short (by have := frontA_len [x] n; simpa using this))
theorem joinB_one (x : Sl) (n : Int) : joinS (frontB [x] n) = frontB [x] n := join_of_compact (compact_short (by have := frontB_len [x] n; simpa using this))
/-- What a list leaves behind a division, some of its units perhaps lost. -/
def PartR (l a b : List Sl) : Prop := ∃ rest, SlsOk a ∧ SlsOk b ∧ Compact a ∧ Compact b ∧ (unitsOf a ++ unitsOf b ++ rest).Perm (unitsOf l) ∧ a.length ≤ l.length ∧ b.length ≤ l.length
theorem PartR.none (l : List Sl) : PartR l [] [] := ⟨unitsOf l, (fun x hx => by cases hx), (fun x hx => by cases hx), (fun i hi => by simp at hi), (fun i hi => by simp at hi), by simp [unitsOf], by simp, by simp⟩
theorem Parted.r {l a b : List Sl} (h : Parted l a b) : PartR l a b := ⟨[], h.oka, h.okb, h.ca, h.cb, by simpa using h.units, h.la, h.lb⟩
def TakeRes (w : World) (xs : List Sl) (e : Ending) (w' : World) : Prop := ∃ (B : Option Addr) (d : Nat) (C : Option Addr) (d2 : Nat) (fs bs : List Sl) (er : Int), e = .returned (.tuple #[.slice B fs.length d, .slice C bs.length d2, .int .i64 er]) ∧ Two w 68 3 w' (.slice B fs.length d) fs.length (flat encSl fs) (.slice C bs.length d2) bs.length (flat encSl bs) ∧ PartR xs fs bs
theorem Two.none {w w' : World} {T : TypeId} {k : Nat} (h : RowKit.Below w.heap.size w w') : Two w T k w' (.slice none 0 0) 0 [] (.slice none 0 0) 0 [] := (Two.start w T k).under h
end Go.Proofs.YthnhgjhnkncmiaaGreat

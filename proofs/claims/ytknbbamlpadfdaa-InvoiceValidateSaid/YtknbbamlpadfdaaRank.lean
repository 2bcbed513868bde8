/-
  Contracts of apportion.byRest and of the method sort of apportion.ranking: portions sorted by descending remainders, then by their indexes. No statement of the seat is proved here. Conditions: fewer than 2^62 portions.
-/
import Derived.Test.YtknbbamlpadfdaaExact
namespace Go.Proofs.Ytknbbamlpadfdaa
open Go.RowKit Go.Shelf Go.Lib Go.Sort
set_option linter.unusedVariables false

/-- A portion: index, share, remainder. -/
structure Por where
  index : Int
  share : Int
  rest : Int
instance : Inhabited Por := ⟨⟨0, 0, 0⟩⟩
def encP (p : Por) : List Value := [.int .i64 p.index, .int .u64 p.share, .int .u64 p.rest]
def cmpP (x y : Por) : Int := if Lib.compareInt y.rest x.rest != 0 then Lib.compareInt y.rest x.rest else Lib.compareInt x.index y.index

set_option maxHeartbeats 1000000 in
theorem cmpU_any (x y : Int) (w : World) : Calls Try.prog 55 #[.int .u64 x, .int .u64 y] w fun e w' => e = .returned (.int .i64 (Lib.compareInt x y)) ∧ w = w' := by
  by_cases h1 : x < y
  · have E := Lib.hid (show Lib.compareInt x y = -1 by simp [Lib.compareInt, h1])
    go_enter Try.func55, Try.ntmps55
    go_wp2
    go_ret
    exact ⟨ret_int' E.out.symm, rfl⟩
  by_cases h2 : y < x
  · have E := Lib.hid (show Lib.compareInt x y = 1 by simp [Lib.compareInt, h1, h2])
    go_enter Try.func55, Try.ntmps55
    go_wp2
    go_ret
    exact ⟨ret_int' E.out.symm, rfl⟩
  · have E := Lib.hid (show Lib.compareInt x y = 0 by simp [Lib.compareInt, h1, h2])
    go_enter Try.func55, Try.ntmps55
    go_wp2
    go_ret
    exact ⟨ret_int' E.out.symm, rfl⟩

set_option maxHeartbeats 1000000 in
theorem byRest_any (x y : Por) (w : World) : Calls Try.prog 42 #[.agg #[.int .i64 x.index, .int .u64 x.share, .int .u64 x.rest], .agg #[.int .i64 y.index, .int .u64 y.share, .int .u64 y.rest]] w
    fun e w' => e = .returned (.int .i64 (cmpP x y)) ∧ ∃ os', w' = grow w os' := by
  have H1 := Lib.hid (fun w => cmpU_any y.rest x.rest w)
  have H2 := Lib.hid (fun w => Try.cmp_Compare_int x.index y.index w)
  have HE := Lib.hid (show cmpP x y = if Lib.compareInt y.rest x.rest != 0 then Lib.compareInt y.rest x.rest else Lib.compareInt x.index y.index from rfl)
  generalize cmpP x y = r at *
  generalize Lib.compareInt y.rest x.rest = a at *
  generalize Lib.compareInt x.index y.index = b at *
  cases h : (a != 0) with
  | true =>
    go_enter Try.func42, Try.ntmps42
    go_wp2_with (first | (go_at_call 55; refine (H1.out _).mono ?_; rintro e w' ⟨rfl, rfl⟩) | (go_at_call 56; refine (H2.out _).mono ?_; rintro e w' ⟨rfl, rfl⟩))
    go_ret
    exact ⟨ret_int' (by rw [HE.out, h]; rfl), _, by rw [alloc_eq_grow, alloc_eq_grow, grow_grow]⟩
  | false =>
    go_enter Try.func42, Try.ntmps42
    go_wp2_with (first | (go_at_call 55; refine (H1.out _).mono ?_; rintro e w' ⟨rfl, rfl⟩) | (go_at_call 56; refine (H2.out _).mono ?_; rintro e w' ⟨rfl, rfl⟩))
    go_ret
    exact ⟨ret_int' (by rw [HE.out, h]; rfl), _, by rw [alloc_eq_grow, alloc_eq_grow, grow_grow]⟩


set_option maxHeartbeats 1000000 in
theorem rankCmp_any (x y : Por) (bk : Nat) (W : World) (hc : W.cell? ⟨bk, 0, none⟩ = some (.func (.func 42) #[] #[])) (hb : bk < W.heap.size) :
    Calls Try.prog 58 #[.agg #[.int .i64 x.index, .int .u64 x.share, .int .u64 x.rest], .agg #[.int .i64 y.index, .int .u64 y.share, .int .u64 y.rest], .pointer (some ⟨bk, 0, none⟩)] W
    fun e w' => e = .returned (.int .i64 (cmpP x y)) ∧ ∃ q os', w' = grow (W.drewN q) os' := by
  have H1 := Lib.hid (fun w => byRest_any x y w)
  have hc' : ∀ o1 o2, ((W.alloc o1).alloc o2).cell? ⟨bk, 0, none⟩ = some (.func (.func 42) #[] #[]) := fun o1 o2 => by
    rw [World.cell?_alloc_lt _ _ _ (by simp; omega), World.cell?_alloc_lt _ _ _ hb, hc]
  generalize cmpP x y = r at *
  go_enter Try.func58, Try.ntmps58
  go_wp2_with (go_at_call 42; refine (H1.out _).mono ?_; rintro e w' ⟨rfl, os, rfl⟩)
  go_ret
  exact ⟨rfl, 0, _, by rw [alloc_eq_grow, alloc_eq_grow, grow_grow, grow_grow]; rfl⟩

theorem rankLays (blk off size : Nat) (w : World) (T : TypeId) (hblk : blk < w.heap.size) :
    CmpLays Try.prog 58 #[.pointer (some ⟨w.heap.size, 0, none⟩)] encP 3 cmpP blk off size (w.alloc (.cells #[.func (.func 42) #[] #[]] T)) := by
  intro m os dk _ x y
  refine rankCmp_any x y w.heap.size _ ?_ ?_
  · unfold sortWorldK
    rw [cell?_grow _ _ _ (by simp [putRowK]), cell?_putRowK_other encP 3 _ _ _ _ _ (by show w.heap.size ≠ blk; omega), cell?_ahead]
    simp only [World.cell?, heap_alloc_new]
    rfl
  · simp [sortWorldK, putRowK]
    omega

theorem ltP (x y : Por) : ltOf cmpP x y = decide (y.rest < x.rest ∨ (x.rest = y.rest ∧ x.index < y.index)) := by
  unfold ltOf cmpP Lib.compareInt
  by_cases h1 : y.rest < x.rest
  · simp [h1]
  · by_cases h2 : x.rest < y.rest
    · have : ¬ x.rest = y.rest := by omega
      simp [h1, h2, this]
    · have : x.rest = y.rest := by omega
      simp [this]
      by_cases h3 : x.index < y.index
      · simp [h3]
      · by_cases h4 : y.index < x.index <;> simp [h3, h4]

theorem swoP : SWO (ltOf cmpP) where
  irrefl x := by rw [ltP]; simp
  trans x y z h1 h2 := by rw [ltP] at *; simp at *; omega
  ntrans x y z h1 h2 := by rw [ltP] at *; simp at *; omega

set_option maxHeartbeats 1000000 in
theorem rankSort_any (blk off cap : Nat) (d : Array Por) (w : World) (hH : HoldsK encP 3 w blk off d) (hblk : blk < w.heap.size) (hsz : d.size < 4611686018427387904) :
    Calls Try.prog 43 #[.agg #[.func (.func 42) #[] #[]], .slice (some ⟨blk, off, none⟩) d.size cap] w fun e w' => e = .returned (.tuple #[]) ∧
      ∃ d' n os, PermIn 0 d.size d d' ∧ SortedIn (ltOf cmpP) 0 d.size d' ∧ w' = sortWorldK encP 3 w blk off n d' os := by
  have eg : ∀ args w, (callFunc 58 args).run Try.prog w = .ok (.enter 58 args) w := enters_of Try.func58 (by kernel_rfl) rfl
  have hcon := fun T => AnyQ.slices_SortFunc Try.sortP 3 Try.isAgg78 Try.sizeOf78 encP (fun _ => rfl) (fun x v hv => by simp [encP] at hv; rcases hv with rfl | rfl | rfl <;> rfl) cmpP swoP 58 #[.pointer (some ⟨w.heap.size, 0, none⟩)] blk off cap d (w.alloc (.cells #[.func (.func 42) #[] #[]] T)) eg (rankLays blk off d.size w T hblk)
    (by rw [alloc_eq_grow]; exact holdsK_grow encP 3 w _ blk off d hblk hH) (by simp; omega) hsz
  change ∀ T, Calls Try.prog 57 _ _ _ at hcon
  have HC := Lib.hid hcon
  clear hH hcon eg
  go_enter Try.func43, Try.ntmps43
  go_wp2_with (go_at_call 57; refine (HC.out _).mono ?_; rintro e w' ⟨rfl, d', n, os, hp, hs, rfl⟩)
  go_end0
  refine ⟨rfl, d', n, #[.cells #[.func (.func 42) #[] #[]] 81] ++ os, hp, hs, ?_⟩
  unfold sortWorldK
  rw [alloc_eq_grow, ahead_grow, putRowK_grow encP 3 _ _ _ _ _ (by simpa using hblk), grow_grow]
end Go.Proofs.Ytknbbamlpadfdaa

/-
  The sorted portions: at place p stands the portion whose rank is p. No statement of the seat is proved here. No conditions beyond those typed.
-/
import Derived.Test.YtknbbamlpadfdaaRank
import Derived.Test.YtknbbamlpadfdaaShareSpec
namespace Go.Proofs.Ytknbbamlpadfdaa
open Go.RowKit Go.Shelf Go.Lib Go.Sort
set_option linter.unusedVariables false

def porOf (t : Int) (ws : List Int) (j : Nat) : Por := ⟨j, quoI t ws j, rstI t ws j⟩
def porArr (t : Int) (ws : List Int) : Array Por := ((List.range ws.length).map (porOf t ws)).toArray
theorem porArr_size (t : Int) (ws : List Int) : (porArr t ws).size = ws.length := by simp [porArr]
theorem porArr_get (t : Int) (ws : List Int) (j : Nat) (h : j < ws.length) : (porArr t ws)[j]! = porOf t ws j := by
  simp [porArr, h]

theorem sorted_at (t : Int) (ws : List Int) (d' : Array Por) (hp : PermIn 0 ws.length (porArr t ws) d') (hs : SortedIn (ltOf cmpP) 0 ws.length d') (p : Nat) (h : p < ws.length) :
    ∃ j, j < ws.length ∧ d'[p]! = porOf t ws j ∧ rank (rstI t ws) ws.length j = p := by
  obtain ⟨h1, _, h3⟩ := hp
  rw [porArr_size] at h1
  have hperm : d'.toList.Perm ((List.range ws.length).map (porOf t ws)) := by
    have e1 : (d'.extract 0 ws.length).toList = d'.toList := by rw [← h1]; simp
    have e2 : ((porArr t ws).extract 0 ws.length).toList = (List.range ws.length).map (porOf t ws) := by
      rw [show ws.length = (porArr t ws).size from (porArr_size t ws).symm, Array.extract_size]
      simp [porArr]
    rw [e1, e2] at h3
    exact h3
  have hmem : ∀ i (hi : i < d'.size), ∃ j, j < ws.length ∧ d'[i] = porOf t ws j := by
    intro i hi
    have : d'[i] ∈ d'.toList := by simp
    obtain ⟨j, hj, e⟩ := List.mem_map.1 (hperm.mem_iff.1 this)
    exact ⟨j, List.mem_range.1 hj, e.symm⟩
  have hl : (d'.toList.map fun x => x.index.toNat).Perm (List.range ws.length) := by
    have := hperm.map fun x => x.index.toNat
    rwa [List.map_map, show (List.range ws.length).map ((fun x : Por => x.index.toNat) ∘ porOf t ws) = List.range ws.length from by
      conv => rhs; rw [← List.map_id (List.range ws.length)]
      apply List.map_congr_left; intro j _; simp [porOf]] at this
  have hlen : (d'.toList.map fun x => x.index.toNat).length = ws.length := by simp [h1]
  have hr := rank_of_sorted (rstI t ws) ws.length _ hl (by
    intro i j hi hj hij
    rw [hlen] at hi hj
    have h4 := hs i j (Nat.zero_le _) hij hj
    obtain ⟨a, ha, ea⟩ := hmem i (by omega)
    obtain ⟨b, hb, eb⟩ := hmem j (by omega)
    rw [getElem!_pos d' i (by omega), getElem!_pos d' j (by omega), ltP, ea, eb] at h4
    simp only [List.getElem_map, Array.getElem_toList, ea, eb]
    rw [← h4]
    rw [Bool.eq_iff_iff]
    simp [bef, porOf]
    exact decide_eq_true_iff) p (by omega)
  obtain ⟨j, hj, e⟩ := hmem p (by omega)
  refine ⟨j, hj, by rw [getElem!_pos d' p (by omega), e], ?_⟩
  simp only [List.getElem_map, Array.getElem_toList, e] at hr
  simpa [porOf] using hr

/-- The list that the first loop fills, as the sort asks for it. -/
theorem holds_porArr (t : Int) (ws : List Int) (w : World) (g : Nat) (hc : ∀ j, j < ws.length → w.cell? ⟨g, j * 3, none⟩ = some (.int .i64 j) ∧ w.cell? ⟨g, j * 3 + 1, none⟩ = some (.int .u64 (quoI t ws j)) ∧ w.cell? ⟨g, j * 3 + 2, none⟩ = some (.int .u64 (rstI t ws j)))
    (hf : ∀ o, w.frozen? ⟨g, o, none⟩ = false) : HoldsK encP 3 w g 0 (porArr t ws) := by
  intro i hi
  rw [size_flatK, porArr_size] at hi
  rw [get_flatK _ _ _ _ (by rw [porArr_size]; exact hi), porArr_get t ws (i / 3) (by omega)]
  refine ⟨?_, hf _⟩
  obtain ⟨c0, c1, c2⟩ := hc (i / 3) (by omega)
  have hm : i % 3 = 0 ∨ i % 3 = 1 ∨ i % 3 = 2 := by omega
  rcases hm with e | e | e
  · rw [e, show 0 + i = i / 3 * 3 by omega, c0]; rfl
  · rw [e, show 0 + i = i / 3 * 3 + 1 by omega, c1]; rfl
  · rw [e, show 0 + i = i / 3 * 3 + 2 by omega, c2]; rfl

theorem holdsK_cells (w : World) (g : Nat) (d : Array Por) (h : HoldsK encP 3 w g 0 d) (i : Nat) (hi : i < d.size) :
    w.cell? ⟨g, i * 3, none⟩ = some (.int .i64 d[i]!.index) ∧ w.cell? ⟨g, i * 3 + 1, none⟩ = some (.int .u64 d[i]!.share) ∧ w.cell? ⟨g, i * 3 + 2, none⟩ = some (.int .u64 d[i]!.rest) := by
  have h1 : ∀ c, c < 3 → w.cell? ⟨g, 0 + (i * 3 + c), none⟩ = some ((encP d[i]!)[c]!) := by
    intro c hc
    have := (h (i * 3 + c) (by rw [size_flatK]; omega)).1
    rw [this, get_flatK _ _ _ _ (by omega), show (i * 3 + c) / 3 = i by omega, show (i * 3 + c) % 3 = c by omega]
    rfl
  have a := h1 0 (by omega)
  have b := h1 1 (by omega)
  have c := h1 2 (by omega)
  rw [Nat.zero_add] at a b c
  exact ⟨a, b, c⟩

/-- What the world behind the sort is: nothing below the row has turned, and the row holds the sorted portions. -/
theorem sorted_world (w0 w : World) (g n m : Nat) (d d' : Array Por) (os : Array Obj) (hb : RowKit.Below w0.heap.size w0 w) (hg : w0.heap.size ≤ g) (hg' : g < w.heap.size) (hH : HoldsK encP 3 w g 0 d) (hs : d'.size = d.size) :
    RowKit.Below w0.heap.size w0 (sortWorldK encP 3 w g 0 m d' os) ∧ HoldsK encP 3 (sortWorldK encP 3 w g 0 m d' os) g 0 d' ∧ g < (sortWorldK encP 3 w g 0 m d' os).heap.size := by
  have hsz : (putRowK encP 3 (Sort.ahead w m) g 0 d').heap.size = w.heap.size := by simp [putRowK]
  refine ⟨⟨hb.os, hb.tape, hb.output, ?_, fun k hk => ?_⟩, ?_, ?_⟩
  · have := hb.size
    simp [sortWorldK, hsz]
    omega
  · have h1 : (sortWorldK encP 3 w g 0 m d' os).heap[k]? = (putRowK encP 3 (Sort.ahead w m) g 0 d').heap[k]? := heap_grow_old _ _ (by rw [hsz]; omega)
    rw [h1, ← hb.block k hk]
    simp only [putRowK, putRow, mapBlock, heap_ahead]
    rw [Array.getElem?_modify, if_neg (by omega)]
  · unfold sortWorldK
    exact holdsK_grow encP 3 _ _ _ _ _ (by rw [hsz]; exact hg') (holdsK_putRowK encP 3 _ _ _ _ _ (holdsK_ahead encP 3 w m g 0 d hH) hs)
  · simp [sortWorldK, hsz]
    omega

end Go.Proofs.Ytknbbamlpadfdaa

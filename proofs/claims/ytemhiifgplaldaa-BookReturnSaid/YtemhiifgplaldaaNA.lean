/-
  What operations of a drawn region hold: rows, literals, boxes, books. No statement of the seat is proved here.
-/
import Derived.Test.YtemhiifgplaldaaMZ
import Derived.Test.YtemhiifgplaldaaMX
import Derived.Test.YtemhiifgplaldaaMR
namespace Go.Proofs.Ytemhiifgplaldaa
open Go.RowKit
set_option linter.unusedVariables false

abbrev NoF : List Value → Value → Prop := fun _ _ => True
abbrev NoR : List Value → Value → List Nat → World → Prop := fun _ _ _ _ => True
theorem NoR.loc {w0 : World} : Loc w0 NoR := fun _ _ _ _ _ _ _ _ _ _ => trivial
/-- A row of the call's own. -/
def OwnR (N : Nat) (T : TypeId) (k n : Nat) (xs : List Value) : List Value → Value → List Nat → World → Prop := fun _ v f w => w.ownsRow N T k v n xs ∧ f = v.ownBlock.toList
theorem OwnR.loc {w0 : World} {N : Nat} {T : TypeId} {k n : Nat} {xs : List Value} : Loc w0 (OwnR N T k n xs) := by
  rintro l v f w w' h1 h2 h3 h4 ⟨h5, rfl⟩
  exact ⟨own_of_block h5 fun j hj => (h4 j (by simp [hj])).2.2, rfl⟩
/-- A slice written out. -/
def LitR (T : TypeId) (cs : Array Value) (n : Nat) : List Value → Value → List Nat → World → Prop := fun _ v f w => ∃ g, v = .slice (some ⟨g, 0, none⟩) n n ∧ f = [g] ∧ Bl w g T cs
theorem LitR.loc {w0 : World} {T : TypeId} {n : Nat} {cs : Array Value} : Loc w0 (LitR T cs n) := by
  rintro l v f w w' h1 h2 h3 h4 ⟨g, rfl, rfl, h5⟩
  exact ⟨g, rfl, rfl, (h4 g (by simp)).2.2.trans h5⟩
/-- A box. -/
def PtrR (T : TypeId) (cs : Array Value) : List Value → Value → List Nat → World → Prop := fun _ v f w => ∃ g, v = .pointer (some ⟨g, 0, none⟩) ∧ f = [g] ∧ Bl w g T cs
theorem PtrR.loc {w0 : World} {T : TypeId} {cs : Array Value} : Loc w0 (PtrR T cs) := by
  rintro l v f w w' h1 h2 h3 h4 ⟨g, rfl, rfl, h5⟩
  exact ⟨g, rfl, rfl, (h4 g (by simp)).2.2.trans h5⟩
theorem FRd.of_block {w w' : World} {A : Option Addr} {n c : Nat} {fs : List Fct} (h : FRd w A n c fs) (hs : w.heap.size ≤ w'.heap.size) (hb : ∀ b, (Value.slice A n c).ownBlock = some b → w'.heap[b]? = w.heap[b]?) : FRd w' A n c fs := by
  refine ⟨⟨h.recs.1, fun h0 => ?_⟩, h.plain, h.nil⟩
  obtain ⟨b, off, e, hb', hc⟩ := h.recs.2 h0
  refine ⟨b, off, e, by omega, fun i hi c hcc => ?_⟩
  rw [← hc i hi c hcc]
  exact World.cell?_of_block (a := ⟨b, off + i * 5 + c, none⟩) (hb b (by rw [e]; rfl))
/-- The facts of a book that were applied. -/
def BkP (q : Qt) (n : Nat) (l : List Fct) (B : Option Addr) (d : Nat) (f : List Nat) (w : World) : Prop := ∃ fs, BOk q fs ∧ fs.Perm l ∧ FRd w B n d fs ∧ f = (Value.slice B n d).ownBlock.toList
theorem BkP.of_block {w w' : World} {q : Qt} {n : Nat} {l : List Fct} {B : Option Addr} {d : Nat} {f : List Nat} (h : BkP q n l B d f w) (hs : w.heap.size ≤ w'.heap.size) (hb : ∀ b ∈ f, w'.heap[b]? = w.heap[b]?) : BkP q n l B d f w' := by
  obtain ⟨fs, h1, h2, h3, rfl⟩ := h
  exact ⟨fs, h1, h2, h3.of_block hs fun b e => hb b (by simp [e]), rfl⟩
def BkR (q : Qt) (n : Nat) (l : List Fct) (mk : Value → Value) : List Value → Value → List Nat → World → Prop := fun _ v f w => ∃ B d, v = mk (.agg #[.int .i64 q.id, .int .i64 q.vol, .int .i64 q.fr, .int .i64 q.tod, .slice B n d]) ∧ BkP q n l B d f w
theorem BkR.loc {w0 : World} {q : Qt} {n : Nat} {l : List Fct} {mk : Value → Value} : Loc w0 (BkR q n l mk) := by
  rintro _ v f w w' h1 h2 h3 h4 ⟨B, d, rfl, h5⟩
  exact ⟨B, d, rfl, h5.of_block h3 fun b hb => (h4 b hb).2.2⟩
/-- A book in a box: its address is the first value that was read. -/
def BoxR (q : Qt) (n : Nat) (l : List Fct) : List Value → Value → List Nat → World → Prop := fun vs _ f w => ∃ g B d f2, vs[0]? = some (.pointer (some ⟨g, 0, none⟩)) ∧ f = g :: f2 ∧ Bl w g 26 #[.int .i64 q.id, .int .i64 q.vol, .int .i64 q.fr, .int .i64 q.tod, .slice B n d] ∧ BkP q n l B d f2 w
theorem BoxR.loc {w0 : World} {q : Qt} {n : Nat} {l : List Fct} : Loc w0 (BoxR q n l) := by
  rintro _ v f w w' h1 h2 h3 h4 ⟨g, B, d, f2, e1, rfl, h5, h6⟩
  exact ⟨g, B, d, f2, e1, rfl, (h4 g (by simp)).2.2.trans h5, h6.of_block h3 fun b hb => (h4 b (by simp [hb])).2.2⟩
/-- A slice written out is a row of the call's own. -/
theorem own_lit {w : World} {g base : Nat} {t : TypeId} {size n : Nat} {xs : List Value} (h : Bl w g t xs.toArray) (hb : base ≤ g) (hl : xs.length = n * size) (hn : n ≤ 1000) : w.ownsRow base t size (.slice (some ⟨g, 0, none⟩) n n) n xs :=
  ⟨hl, .inr ⟨g, n, xs.toArray, rfl, hb, h, Nat.le_refl _, by unfold maxLen; omega, by simpa using hl, by simp [← hl]⟩⟩
theorem FRd.lt {w : World} {A : Option Addr} {n c : Nat} {fs : List Fct} (h : FRd w A (n + 1) c fs) (g : Nat) (hg : (Value.slice A (n + 1) c).ownBlock = some g) : g < w.heap.size := by
  obtain ⟨b, off, rfl, hb, _⟩ := h.recs.2 (by omega)
  simp [Value.ownBlock] at hg
  omega
/-- Five cells of a block are stored; the other blocks are as they were. -/
theorem heap_set5 (w : World) (g : Nat) (v0 v1 v2 v3 v4 : Value) (k : Nat) (h : k ≠ g) : (((((w.setCell ⟨g, 0, none⟩ v0).setCell ⟨g, 1, none⟩ v1).setCell ⟨g, 2, none⟩ v2).setCell ⟨g, 3, none⟩ v3).setCell ⟨g, 4, none⟩ v4).heap[k]? = w.heap[k]? :=
  ((((Below.heap_setCell _ _ _ k h).trans (Below.heap_setCell _ _ _ k h)).trans (Below.heap_setCell _ _ _ k h)).trans (Below.heap_setCell _ _ _ k h)).trans (Below.heap_setCell _ _ _ k h)
theorem size_set5 (w : World) (g : Nat) (v0 v1 v2 v3 v4 : Value) : (((((w.setCell ⟨g, 0, none⟩ v0).setCell ⟨g, 1, none⟩ v1).setCell ⟨g, 2, none⟩ v2).setCell ⟨g, 3, none⟩ v3).setCell ⟨g, 4, none⟩ v4).heap.size = w.heap.size := by simp [World.setCell]
/-- A book is stored into its box. -/
theorem Finds.box {js : List Job} {a0 : Act} {w0 : World} {fact : Nat → List Value → Value → Prop} {res : Nat → List Value → Value → List Nat → World → Prop} {kb kv i : Nat} {a : Act} {w : World} {vs : Nat → Value} {fp : Nat → List Nat}
    (h : Finds js a0 w0 fact res ⟨none, [kb, kv], [kb, kv]⟩ a w vs fp) (hne : kv ≠ kb) {q : Qt} {n : Nat} {l : List Fct} {g : Nat} {B : Option Addr} {d : Nat} {z0 z1 z2 z3 z4 : Value} (hg : vs kb = .pointer (some ⟨g, 0, none⟩)) (hf : fp kb = [g])
    (hb : Bl w g 26 #[z0, z1, z2, z3, z4]) (hk : BkP q n l B d (fp kv) w) (h1 : fact i ([kb, kv].map vs) undef) (h2 : ∀ f w', BoxR q n l ([kb, kv].map vs) undef f w' → res i ([kb, kv].map vs) undef f w') :
    Leaves w0 fact res i ⟨none, [kb, kv], [kb, kv]⟩ w vs fp undef (g :: fp kv) (((((w.setCell ⟨g, 0, none⟩ (.int .i64 q.id)).setCell ⟨g, 1, none⟩ (.int .i64 q.vol)).setCell ⟨g, 2, none⟩ (.int .i64 q.fr)).setCell ⟨g, 3, none⟩ (.int .i64 q.tod)).setCell ⟨g, 4, none⟩ (.slice B n d)) := by
  have hgb : w0.heap.size ≤ g := (h.own kb (by simp) g (by rw [hf]; simp)).1
  have hap : ∀ b ∈ fp kv, b ≠ g := fun b hb e => h.apart kv (by simp) kb (by simp) hne b hb (by rw [hf, e]; simp)
  refine ⟨put5 h.below hgb _ _ _ _ _, by rw [size_set5]; exact Nat.le_refl _, fun k hk hn => heap_set5 w g _ _ _ _ _ k (fun e => hn kb (by simp) (by rw [hf, e]; simp)), h1, h2 _ _ ⟨g, B, d, fp kv, by simp [hg], rfl, set5_bl hb _ _ _ _ _, hk.of_block (by rw [size_set5]; exact Nat.le_refl _) fun b hb => heap_set5 w g _ _ _ _ _ b (hap b hb)⟩, fun k hk => ?_⟩
  rw [size_set5]
  rcases List.mem_cons.1 hk with rfl | hk
  · exact ⟨hb.lt, .inl ⟨kb, by simp, by rw [hf]; simp⟩⟩
  · exact ⟨(h.own kv (by simp) k hk).2, .inl ⟨kv, by simp, hk⟩⟩
theorem rd_bl {w : World} {g n : Nat} {t : TypeId} {size : Nat} {xs : List Value} (h : Bl w g t xs.toArray) (hl : xs.length = n * size) : Rd w size (some ⟨g, 0, none⟩) n xs :=
  ⟨hl, fun _ => ⟨g, 0, rfl, h.lt, fun j u hu => by rw [Nat.zero_add, h.cell j, ← Array.getElem?_toList]; exact hu⟩⟩
end Go.Proofs.Ytemhiifgplaldaa

/-
  Stocks of lots and what is kept of an estate from act to act. No statement of the seat is proved here. No conditions.
  What chapter 29 says of claims, as plain functions; what all payouts add up to. No statement of the seat is proved here. No conditions.
  All that claims have borne together is at most what the sources bear; claims of an estate are payable. No statement of the seat is proved here. No conditions.
  Lists of claims, as plain functions: valid lists; a claim more. No statement of the seat is proved here. No conditions.
-/
import Derived.Test.YthnhgjhnkncmiaaGreatMAA
namespace Go.Proofs.YthnhgjhnkncmiaaGreat
set_option linter.unusedVariables false

/-- A lot. -/
structure Lt where
  id : Int
  code : ByteArray
  qty : Int
  proc : Int
  sl : List Sl
deriving Inhabited
/-- Eight digits. -/
def code8 (s : ByteArray) : Prop := s.size = 8 ∧ ∀ i, i < s.size → 48 ≤ (s.data[i]!).toNat ∧ (s.data[i]!).toNat ≤ 57
/-- A source with its units. -/
structure Ch where
  src : Int
  un : Int
  am : Int
deriving Inhabited, DecidableEq
/-- The units of a stock. -/
def stUnits (s : List Lt) : List (Int × Int) := s.flatMap fun x => unitsOf x.sl
theorem stUnits_append (a b : List Lt) : stUnits (a ++ b) = stUnits a ++ stUnits b := by simp [stUnits]
theorem stUnits_cons (x : Lt) (s : List Lt) : stUnits (x :: s) = unitsOf x.sl ++ stUnits s := rfl
theorem mem_stUnits {s : List Lt} {u : Int × Int} : u ∈ stUnits s ↔ ∃ x ∈ s, ∃ y ∈ x.sl, u ∈ slUnits y := by
  unfold stUnits unitsOf
  constructor
  · intro h
    obtain ⟨x, hx, h⟩ := List.mem_flatMap.1 h
    obtain ⟨y, hy, h⟩ := List.mem_flatMap.1 h
    exact ⟨x, hx, y, hy, h⟩
  · rintro ⟨x, hx, y, hy, h⟩
    exact List.mem_flatMap.2 ⟨x, hx, List.mem_flatMap.2 ⟨y, hy, h⟩⟩
/-- A lot that no act has transferred. -/
structure LtOk (x : Lt) : Prop where
  id : 1 ≤ x.id ∧ x.id ≤ 1000000
  code : code8 x.code
  qty : 1 ≤ x.qty ∧ x.qty ≤ 1000000000
  proc : 1 ≤ x.proc ∧ x.proc ≤ 12
  few : x.sl.length ≤ 64
  sls : SlsOk x.sl
  compact : Compact x.sl
/-- A valid stock none of whose lots was transferred. -/
structure StOk (s : List Lt) : Prop where
  few : s.length ≤ 64
  lots : ∀ x ∈ s, LtOk x
  asc : s.Pairwise (fun a b => a.id < b.id)
  units : (stUnits s).Nodup
theorem StOk.apart {s : List Lt} (h : StOk s) {x : Lt} (hx : x ∈ s) : Apart x.sl := by
  rw [apart_units (h.lots x hx).sls.lt]
  have hs : (unitsOf x.sl).Sublist (stUnits s) := by
    unfold stUnits
    rw [List.flatMap_def]
    exact List.sublist_flatten_of_mem (List.mem_map.2 ⟨x, hx, rfl⟩)
  exact h.units.sublist hs
theorem StOk.meet {s : List Lt} (h : StOk s) {i k : Nat} (hik : i < k) (hk : k < s.length) : ¬ MeetsL s[i]!.sl s[k]!.sl := by
  have hi : i < s.length := by omega
  have hmi : s[i]! ∈ s := by rw [getElem!_pos s i hi]; exact List.getElem_mem hi
  have hmk : s[k]! ∈ s := by rw [getElem!_pos s k hk]; exact List.getElem_mem hk
  rw [meetsL_units (h.lots _ hmi).sls.lt (h.lots _ hmk).sls.lt]
  rintro ⟨u, h1, h2⟩
  have e : s = s.take k ++ s[k]! :: s.drop (k + 1) := by
    conv => lhs; rw [← List.take_append_drop k s, List.drop_eq_getElem_cons hk]
    rw [getElem!_pos s k hk]
  have hn := h.units
  rw [e, stUnits_append, stUnits_cons, List.nodup_append] at hn
  refine hn.2.2 u ?_ u (List.mem_append.2 (.inl h2)) rfl
  rw [mem_stUnits]
  obtain ⟨y, hy, h3⟩ := List.mem_flatMap.1 h1
  refine ⟨s[i]!, ?_, y, hy, h3⟩
  rw [List.mem_take_iff_getElem]
  exact ⟨i, by omega, by rw [getElem!_pos s i hi]⟩

/-- What is kept of an estate. -/
structure EstOk (s : List Lt) (cs : List Ch) (free : Int) : Prop where
  st : StOk s
  ids : ∀ x ∈ s, x.id < free
  src : ∀ x ∈ s, ∀ y ∈ x.sl, ∃ c ∈ cs, c.src = y.src ∧ y.to ≤ c.un
  asc : cs.Pairwise (fun a b => a.src < b.src)
  chs : ∀ c ∈ cs, 1 ≤ c.src ∧ c.src < free ∧ 1 ≤ c.un ∧ c.un ≤ 1000000000
  pos : 1 ≤ free
theorem estOk_start : EstOk [] [] 1 :=
  ⟨⟨by simp, fun x hx => (by cases hx), List.Pairwise.nil, by simp [stUnits]⟩, fun x hx => (by cases hx), fun x hx => (by cases hx), List.Pairwise.nil, fun c hc => (by cases hc), by omega⟩
theorem EstOk.srcs {s : List Lt} {cs : List Ch} {free : Int} (h : EstOk s cs free) : ∀ x ∈ s, ∀ y ∈ x.sl, y.src < free := fun x hx y hy => by
  obtain ⟨c, hc, h1, _⟩ := h.src x hx y hy
  have := (h.chs c hc).2.1
  omega
/-- A lot of a new source. -/
theorem EstOk.present {s : List Lt} {cs : List Ch} {free q : Int} {code : ByteArray} (h : EstOk s cs free) (hf : free ≤ 1000000) (hc : code8 code) (h1 : 1 ≤ q) (h2 : q ≤ 1000000000) (hl : s.length < 64) : EstOk (s ++ [⟨free, code, q, 1, [⟨free, 0, q⟩]⟩]) (cs ++ [⟨free, q, 0⟩]) (free + 1) := by
  have hp := h.pos
  have hnew : LtOk ⟨free, code, q, 1, [⟨free, 0, q⟩]⟩ := ⟨⟨hp, hf⟩, hc, ⟨h1, h2⟩, by simp, by simp, fun y hy => by
    rw [List.mem_singleton] at hy; subst hy; simp [slOk]; omega, compact_one _⟩
  refine ⟨⟨by simp; omega, fun x hx => ?_, ?_, ?_⟩, fun x hx => ?_, fun x hx y hy => ?_, ?_, fun c hc => ?_, by omega⟩
  · rcases List.mem_append.1 hx with hx | hx
    · exact h.st.lots x hx
    · rw [List.mem_singleton] at hx; subst hx; exact hnew
  · rw [List.pairwise_append]
    refine ⟨h.st.asc, by simp, fun a ha b hb => ?_⟩
    rw [List.mem_singleton] at hb; subst hb
    exact h.ids a ha
  · rw [stUnits_append, List.nodup_append]
    refine ⟨h.st.units, ?_, ?_⟩
    · rw [stUnits_cons]
      show (unitsOf [⟨free, 0, q⟩] ++ []).Nodup
      rw [List.append_nil, unitsOf_cons, unitsOf_nil, List.append_nil]
      exact slUnits_nodup _
    · rintro u hu v hv rfl
      obtain ⟨x, hx, y, hy, h3⟩ := mem_stUnits.1 hu
      obtain ⟨x', hx', y', hy', h4⟩ := mem_stUnits.1 hv
      rw [List.mem_singleton] at hx'; subst hx'
      rw [List.mem_singleton] at hy'; subst hy'
      rw [mem_slUnits] at h3 h4
      have := h.srcs x hx y hy
      have h5 : u.1 = free := h4.1
      omega
  · rcases List.mem_append.1 hx with hx | hx
    · have := h.ids x hx; omega
    · rw [List.mem_singleton] at hx; subst hx; show free < free + 1; omega
  · rcases List.mem_append.1 hx with hx | hx
    · obtain ⟨c, hc, h3⟩ := h.src x hx y hy
      exact ⟨c, List.mem_append.2 (.inl hc), h3⟩
    · rw [List.mem_singleton] at hx; subst hx
      rw [List.mem_singleton] at hy; subst hy
      exact ⟨⟨free, q, 0⟩, by simp, rfl, Int.le_refl _⟩
  · rw [List.pairwise_append]
    refine ⟨h.asc, by simp, fun a ha b hb => ?_⟩
    rw [List.mem_singleton] at hb; subst hb
    exact (h.chs a ha).2.1
  · rcases List.mem_append.1 hc with hc | hc
    · have := h.chs c hc; omega
    · rw [List.mem_singleton] at hc; subst hc
      show 1 ≤ free ∧ free < free + 1 ∧ 1 ≤ q ∧ q ≤ 1000000000
      omega
/-- Another procedure. -/
theorem EstOk.move {s : List Lt} {cs : List Ch} {free p : Int} {k : Nat} (h : EstOk s cs free) (hk : k < s.length) (hp : 1 ≤ p ∧ p ≤ 12) : EstOk (s.set k { s[k]! with proc := p }) cs free := by
  have hmk : s[k]! ∈ s := by rw [getElem!_pos s k hk]; exact List.getElem_mem hk
  have hmem : ∀ x ∈ s.set k { s[k]! with proc := p }, ∃ y ∈ s, x.id = y.id ∧ x.code = y.code ∧ x.qty = y.qty ∧ x.sl = y.sl ∧ (x.proc = y.proc ∨ x.proc = p) := fun x hx => by
    rcases List.mem_or_eq_of_mem_set hx with hx | rfl
    · exact ⟨x, hx, rfl, rfl, rfl, rfl, .inl rfl⟩
    · exact ⟨_, hmk, rfl, rfl, rfl, rfl, .inr rfl⟩
  have hid : (s.set k { s[k]! with proc := p }).map (·.id) = s.map (·.id) := by
    rw [List.map_set]
    have : (s.map (·.id)).set k s[k]!.id = s.map (·.id) := by
      have h1 : s[k]!.id = (s.map (·.id))[k]'(by simpa using hk) := by rw [getElem!_pos s k hk]; simp
      rw [h1, List.set_getElem_self]
    exact this
  have hsl : stUnits (s.set k { s[k]! with proc := p }) = stUnits s := by
    have h0 : ∀ l : List Lt, stUnits l = (l.map (·.sl)).flatMap unitsOf := fun l => by simp [stUnits, List.flatMap_map]
    rw [h0, h0, List.map_set]
    congr 1
    have h1 : s[k]!.sl = (s.map (·.sl))[k]'(by simpa using hk) := by rw [getElem!_pos s k hk]; simp
    show (s.map (·.sl)).set k s[k]!.sl = _
    rw [h1, List.set_getElem_self]
  refine ⟨⟨by simpa using h.st.few, fun x hx => ?_, ?_, by rw [hsl]; exact h.st.units⟩, fun x hx => ?_, fun x hx y hy => ?_, h.asc, h.chs, h.pos⟩
  · obtain ⟨y, hy, e1, e2, e3, e4, e5⟩ := hmem x hx
    have := h.st.lots y hy
    refine ⟨by rw [e1]; exact this.id, by rw [e2]; exact this.code, by rw [e3]; exact this.qty, ?_, by rw [e4]; exact this.few, by rw [e4]; exact this.sls, by rw [e4]; exact this.compact⟩
    rcases e5 with e5 | e5
    · rw [e5]; exact this.proc
    · rw [e5]; exact hp
  · have h1 : (s.map (·.id)).Pairwise (· < ·) := List.pairwise_map.2 h.st.asc
    rw [← hid] at h1
    exact List.pairwise_map.1 h1
  · obtain ⟨y, hy, e1, _⟩ := hmem x hx
    rw [e1]; exact h.ids y hy
  · obtain ⟨z, hz, _, _, _, e4, _⟩ := hmem x hx
    rw [e4] at hy
    exact h.src z hz y hy
/-- Some lots are replaced by new ones over (some of) their units. -/
theorem EstOk.replace {s l : List Lt} {cs : List Ch} {free free' : Int} {r : Lt → Bool} {rest : List (Int × Int)} (h : EstOk s cs free) (hl : ∀ x ∈ l, LtOk x) (ha : l.Pairwise (fun a b => a.id < b.id)) (hf : ∀ x ∈ l, free ≤ x.id ∧ x.id < free') (hff : free ≤ free') (hn : (s.filter fun x => !r x).length + l.length ≤ 64)
    (hu : (stUnits l ++ rest).Perm (stUnits (s.filter r))) : EstOk ((s.filter fun x => !r x) ++ l) cs free' := by
  have hsub : (s.filter fun x => !r x).Sublist s := List.filter_sublist
  have hsplit : (stUnits (s.filter r) ++ stUnits (s.filter fun x => !r x)).Perm (stUnits s) := by
    rw [← stUnits_append]
    unfold stUnits
    exact (List.filter_append_perm r s).flatMap_right _
  have hnd : (stUnits l ++ rest ++ stUnits (s.filter fun x => !r x)).Nodup := by
    have h1 := (hu.append_right (stUnits (s.filter fun x => !r x))).trans hsplit
    exact h1.symm.nodup h.st.units
  have hold : ∀ u ∈ stUnits l, u ∈ stUnits s := fun u hu' => hsplit.mem_iff.1 (List.mem_append.2 (.inl (hu.mem_iff.1 (List.mem_append.2 (.inl hu')))))
  refine ⟨⟨by simpa using hn, fun x hx => ?_, ?_, ?_⟩, fun x hx => ?_, fun x hx y hy => ?_, h.asc, fun c hc => by have := h.chs c hc; omega, by have := h.pos; omega⟩
  · rcases List.mem_append.1 hx with hx | hx
    · exact h.st.lots x (hsub.subset hx)
    · exact hl x hx
  · rw [List.pairwise_append]
    exact ⟨h.st.asc.sublist hsub, ha, fun a ha' b hb => by have := h.ids a (hsub.subset ha'); have := (hf b hb).1; omega⟩
  · rw [stUnits_append]
    rw [List.nodup_append] at hnd ⊢
    obtain ⟨h1, h2, h3⟩ := hnd
    rw [List.nodup_append] at h1
    refine ⟨h2, h1.1, fun a ha' b hb e => h3 b (List.mem_append.2 (.inl hb)) a ha' e.symm⟩
  · rcases List.mem_append.1 hx with hx | hx
    · have := h.ids x (hsub.subset hx); omega
    · exact (hf x hx).2
  · rcases List.mem_append.1 hx with hx | hx
    · exact h.src x (hsub.subset hx) y hy
    · have hy1 := slOk_yes ((hl x hx).sls y hy)
      have hlast : (y.src, y.to - 1) ∈ stUnits s := hold _ (mem_stUnits.2 ⟨x, hx, y, hy, mem_slUnits.2 ⟨rfl, by simp; omega, by simp; omega⟩⟩)
      obtain ⟨x', hx', y', hy', h5⟩ := mem_stUnits.1 hlast
      rw [mem_slUnits] at h5
      obtain ⟨c, hc, h6, h7⟩ := h.src x' hx' y' hy'
      have h8 : y.src = y'.src := h5.1
      have h9 : y.to - 1 < y'.to := h5.2.2
      exact ⟨c, hc, by omega, by omega⟩
end Go.Proofs.YthnhgjhnkncmiaaGreat

namespace Go.Proofs.YthnhgjhnkncmiaaGreat
set_option linter.unusedVariables false

def chOk (c : Ch) : Bool := decide (1 ≤ c.src) && decide (c.src ≤ 1000000) && decide (1 ≤ c.un) && decide (c.un ≤ 1000000000) && decide (0 ≤ c.am) && decide (c.am ≤ 1000000000000)
theorem chOk_yes {c : Ch} (h : chOk c = true) : 1 ≤ c.src ∧ c.src ≤ 1000000 ∧ 1 ≤ c.un ∧ c.un ≤ 1000000000 ∧ 0 ≤ c.am ∧ c.am ≤ 1000000000000 := by
  simp [chOk] at h
  omega
/-- The sources ascend. -/
def cAsc (l : List Ch) : Prop := ∀ i, i + 1 < l.length → l[i]!.src < l[i + 1]!.src
instance (l : List Ch) : Decidable (cAsc l) := decidable_of_iff (∀ r : Fin l.length, r.1 + 1 < l.length → l[r.1]!.src < l[r.1 + 1]!.src) ⟨fun h r hr => h ⟨r, by omega⟩ hr, fun h r hr => h r.1 hr⟩
/-- The first error of a list of charges. -/
def chErr (l : List Ch) : Int := if 64 < l.length then 8 else if ∀ c ∈ l, chOk c = true then if cAsc l then 0 else 9 else 2
theorem cAsc_pair {l : List Ch} : cAsc l ↔ l.Pairwise (fun a b => a.src < b.src) := by
  constructor
  · intro h
    have hlt : ∀ i j, i < j → j < l.length → l[i]!.src < l[j]!.src := by
      intro i j hij
      induction j with
      | zero => omega
      | succ j ih =>
        intro hj
        have h1 := h j (by omega)
        by_cases e : i = j
        · subst e; exact h1
        · have := ih (by omega) (by omega); omega
    rw [List.pairwise_iff_getElem]
    intro i j hi hj hij
    have := hlt i j hij hj
    rwa [getElem!_pos l i hi, getElem!_pos l j hj] at this
  · intro h r hr
    have := List.pairwise_iff_getElem.1 h r (r + 1) (by omega) (by omega) (by omega)
    rwa [getElem!_pos l r (by omega), getElem!_pos l (r + 1) (by omega)]
def findC (l : List Ch) (s : Int) : Option Ch := l.find? fun c => c.src == s
/-- What the units before one of them bear. -/
def upToV (a u t : Int) : Int := a * t / u
def amtC (c : Ch) (q : Option Ch) : Int := min c.am (match q with | some x => x.am | none => 0)
/-- A payment for another number of units. -/
def clash (c : Ch) (q : Option Ch) : Bool := match q with | some q => q.un != c.un | none => false
/-- What a slice has borne, and its error. -/
def porE (d p : List Ch) (x : Sl) : Int × Int :=
  match findC d x.src with
  | none => (0, 6)
  | some c =>
    if clash c (findC p x.src) = true then (0, 14)
    else if c.un < x.to then (0, 2)
    else (upToV (amtC c (findC p x.src)) c.un x.to - upToV (amtC c (findC p x.src)) c.un x.fr, 0)
def sumE (d p : List Ch) : List Sl → Int → Int × Int
  | [], t => (t, 0)
  | x :: r, t => if (porE d p x).2 = 0 then sumE d p r (t + (porE d p x).1) else (0, (porE d p x).2)
def borneE (l : List Sl) (d p : List Ch) : Int × Int :=
  if slErr l ≠ 0 then (0, slErr l) else if chErr d ≠ 0 then (0, chErr d) else if chErr p ≠ 0 then (0, chErr p) else sumE d p l 0
/-- A claim. -/
structure Clm where
  num : Int
  lot : Int
  sch : Int
  qty : Int
  rate : Int
  sl : List Sl
deriving Inhabited
def clOk (c : Clm) : Bool := decide (1 ≤ c.num) && decide (c.num ≤ 1000000000) && decide (1 ≤ c.lot) && decide (c.lot ≤ 1000000) && (decide (c.sch = 1) || decide (c.sch = 2)) && decide (1 ≤ c.qty) && decide (c.qty ≤ 1000000000) && decide (0 ≤ c.rate) && decide (c.rate ≤ 10000000) && decide (slErr c.sl = 0)
theorem clOk_yes {c : Clm} (h : clOk c = true) : 1 ≤ c.num ∧ c.num ≤ 1000000000 ∧ 1 ≤ c.lot ∧ c.lot ≤ 1000000 ∧ (c.sch = 1 ∨ c.sch = 2) ∧ 1 ≤ c.qty ∧ c.qty ≤ 1000000000 ∧ 0 ≤ c.rate ∧ c.rate ≤ 10000000 ∧ slErr c.sl = 0 := by
  simp [clOk] at h
  obtain ⟨⟨⟨⟨⟨⟨⟨⟨⟨h1, h2⟩, h3⟩, h4⟩, h5⟩, h6⟩, h7⟩, h8⟩, h9⟩, h10⟩ := h
  exact ⟨h1, h2, h3, h4, h5, h6, h7, h8, h9, h10⟩
def payE (c : Clm) (d p : List Ch) : Int × Int :=
  if clOk c = true then
    if (borneE c.sl d p).2 = 0 then (if c.sch = 2 then min (borneE c.sl d p).1 (c.qty * c.rate / 1000) else (borneE c.sl d p).1, 0) else (0, (borneE c.sl d p).2)
  else (0, 2)
theorem slErr_ok {l : List Sl} (h : slErr l = 0) : l.length ≤ 64 ∧ SlsOk l ∧ Apart l := by
  unfold slErr at h
  split at h
  · cases h
  · split at h
    · split at h
      · exact ⟨by omega, by assumption, by assumption⟩
      · cases h
    · cases h
theorem slErr_of {l : List Sl} (h1 : l.length ≤ 64) (h2 : SlsOk l) (h3 : Apart l) : slErr l = 0 := by
  unfold slErr
  rw [if_neg (by omega), if_pos (show ∀ x ∈ l, slOk x = true from h2), if_pos h3]

/-! the sum of all portions -/
def uSumG (G : Int × Int → Int) (l : List (Int × Int)) : Int := (l.map G).sum
theorem uSumG_append (G : Int × Int → Int) (a b : List (Int × Int)) : uSumG G (a ++ b) = uSumG G a + uSumG G b := by simp [uSumG]
theorem uSumG_perm {G : Int × Int → Int} {a b : List (Int × Int)} (h : a.Perm b) : uSumG G a = uSumG G b := by
  unfold uSumG
  induction h with
  | nil => rfl
  | cons x _ ih => simp [ih]
  | swap x y l => simp; omega
  | trans _ _ h1 h2 => exact h1.trans h2
theorem uSumG_nonneg {G : Int × Int → Int} {l : List (Int × Int)} (h : ∀ u ∈ l, 0 ≤ G u) : 0 ≤ uSumG G l := by
  unfold uSumG
  induction l with
  | nil => simp
  | cons x xs ih =>
    rw [List.map_cons, List.sum_cons]
    have := h x (by simp)
    have := ih fun u hu => h u (by simp [hu])
    omega
/-- Units that occur once among others bear at most what these bear. -/
theorem uSumG_sub {G : Int × Int → Int} {a b : List (Int × Int)} (ha : a.Nodup) (hs : ∀ u ∈ a, u ∈ b) (hb : ∀ u ∈ b, 0 ≤ G u) : uSumG G a ≤ uSumG G b := by
  induction a generalizing b with
  | nil => exact uSumG_nonneg hb
  | cons x xs ih =>
    rw [List.nodup_cons] at ha
    have hx := hs x (by simp)
    have hp := List.perm_cons_erase hx
    rw [uSumG_perm hp]
    have h1 : ∀ u ∈ b.erase x, 0 ≤ G u := fun u hu => hb u (List.mem_of_mem_erase hu)
    have h2 : ∀ u ∈ xs, u ∈ b.erase x := fun u hu => (List.mem_erase_of_ne (fun e => ha.1 (by rw [← e]; exact hu))).2 (hs u (by simp [hu]))
    have := ih ha.2 h2 h1
    unfold uSumG at *
    simp only [List.map_cons, List.sum_cons]
    omega
/-- A slice's units telescope. -/
theorem uSumG_slice (f : Int → Int → Int) (x : Sl) (h : x.fr ≤ x.to) : uSumG (fun u => f u.1 (u.2 + 1) - f u.1 u.2) (slUnits x) = f x.src x.to - f x.src x.fr := by
  unfold slUnits uSumG
  rw [List.map_map]
  obtain ⟨n, hn⟩ : ∃ n : Nat, (x.to - x.fr).toNat = n := ⟨_, rfl⟩
  have ht : x.to = x.fr + n := by omega
  rw [hn, ht]
  clear hn ht
  induction n with
  | zero => simp
  | succ n ih =>
    rw [List.range_succ, List.map_append, List.sum_append, ih]
    simp
    rw [show x.fr + ((n : Int) + 1) = x.fr + n + 1 by omega]
    omega
theorem upToV_mono {a u t t' : Int} (ha : 0 ≤ a) (hu : 0 < u) (h : t ≤ t') : upToV a u t ≤ upToV a u t' := by
  unfold upToV
  exact Int.ediv_le_ediv hu (Int.mul_le_mul_of_nonneg_left h ha)
theorem upToV_zero (a u : Int) : upToV a u 0 = 0 := by simp [upToV]
theorem upToV_full {a u : Int} (hu : 0 < u) : upToV a u u = a := by
  unfold upToV
  exact Int.mul_ediv_cancel a (by omega)
/-- What the units before t of a source have borne; a source that is not known bears nothing. -/
def srcF (d p : List Ch) (s t : Int) : Int := match findC d s with | some c => upToV (amtC c (findC p s)) c.un t | none => 0
theorem findC_mem {l : List Ch} {s : Int} {c : Ch} (h : findC l s = some c) : c ∈ l ∧ c.src = s := by
  unfold findC at h
  have h1 := List.mem_of_find?_eq_some h
  have h2 := List.find?_some h
  exact ⟨h1, by simpa using h2⟩
theorem findC_of {l : List Ch} (h : l.Pairwise (fun a b => a.src < b.src)) {c : Ch} (hc : c ∈ l) : findC l c.src = some c := by
  unfold findC
  induction l with
  | nil => cases hc
  | cons x xs ih =>
    rw [List.pairwise_cons] at h
    rcases List.mem_cons.1 hc with rfl | hc
    · simp
    · have := h.1 c hc
      rw [List.find?_cons_of_neg (by simp; omega)]
      exact ih h.2 hc
theorem porE_srcF {d p : List Ch} {x : Sl} (h : (porE d p x).2 = 0) : (porE d p x).1 = srcF d p x.src x.to - srcF d p x.src x.fr := by
  unfold porE at h ⊢
  unfold srcF
  cases hf : findC d x.src with
  | none => rw [hf] at h; cases h
  | some c =>
    simp only [hf] at h ⊢
    by_cases h1 : clash c (findC p x.src) = true
    · rw [if_pos h1] at h; cases h
    · rw [if_neg h1] at h ⊢
      by_cases h2 : c.un < x.to
      · rw [if_pos h2] at h; cases h
      · rw [if_neg h2]
theorem sumE_ok {d p : List Ch} {l : List Sl} {t : Int} (h : (sumE d p l t).2 = 0) (hv : SlsOk l) : (sumE d p l t).1 = t + uSumG (fun u => srcF d p u.1 (u.2 + 1) - srcF d p u.1 u.2) (unitsOf l) ∧ ∀ x ∈ l, (porE d p x).2 = 0 := by
  induction l generalizing t with
  | nil => exact ⟨by simp [sumE, uSumG, unitsOf], fun x hx => by cases hx⟩
  | cons x xs ih =>
    have hx := slOk_yes (hv x (by simp))
    rw [sumE] at h ⊢
    split at h
    · next h0 =>
      rw [if_pos h0]
      obtain ⟨h1, h2⟩ := ih h (fun y hy => hv y (by simp [hy]))
      refine ⟨?_, fun y hy => ?_⟩
      · rw [h1, unitsOf_cons, uSumG_append, uSumG_slice (srcF d p) x (by omega), porE_srcF h0]
        omega
      · rcases List.mem_cons.1 hy with rfl | hy
        · exact h0
        · exact h2 y hy
    · next h0 => exact absurd h h0
end Go.Proofs.YthnhgjhnkncmiaaGreat

namespace Go.Proofs.YthnhgjhnkncmiaaGreat
set_option linter.unusedVariables false

/-- Valid charges. -/
structure ChsOk (l : List Ch) : Prop where
  few : l.length ≤ 64
  ok : ∀ c ∈ l, chOk c = true
  asc : cAsc l
theorem chErr_ok {l : List Ch} : chErr l = 0 ↔ ChsOk l := by
  unfold chErr
  constructor
  · intro h
    split at h
    · cases h
    · split at h
      · split at h
        · exact ⟨by omega, by assumption, by assumption⟩
        · cases h
      · cases h
  · rintro ⟨h1, h2, h3⟩
    rw [if_neg (by omega), if_pos h2, if_pos h3]
def gU (d p : List Ch) (u : Int × Int) : Int := srcF d p u.1 (u.2 + 1) - srcF d p u.1 u.2
theorem amtC_nonneg {c : Ch} {p : List Ch} {s : Int} (hc : 0 ≤ c.am) (hp : ∀ q ∈ p, chOk q = true) : 0 ≤ amtC c (findC p s) := by
  unfold amtC
  cases hf : findC p s with
  | none => simp; omega
  | some q =>
    have := chOk_yes (hp q (findC_mem hf).1)
    simp only
    omega
theorem gU_nonneg {d p : List Ch} (hd : ∀ c ∈ d, chOk c = true) (hp : ∀ q ∈ p, chOk q = true) (u : Int × Int) : 0 ≤ gU d p u := by
  unfold gU srcF
  cases hf : findC d u.1 with
  | none => simp
  | some c =>
    have hc := chOk_yes (hd c (findC_mem hf).1)
    have := upToV_mono (amtC_nonneg (s := u.1) hc.2.2.2.2.1 hp) (by omega : 0 < c.un) (by omega : u.2 ≤ u.2 + 1)
    simp only
    omega
theorem porE_in {d p : List Ch} {x : Sl} (h : (porE d p x).2 = 0) : ∃ c ∈ d, c.src = x.src ∧ x.to ≤ c.un := by
  unfold porE at h
  cases hf : findC d x.src with
  | none => rw [hf] at h; cases h
  | some c =>
    simp only [hf] at h
    by_cases h1 : clash c (findC p x.src) = true
    · rw [if_pos h1] at h; cases h
    · rw [if_neg h1] at h
      by_cases h2 : c.un < x.to
      · rw [if_pos h2] at h; cases h
      · exact ⟨c, (findC_mem hf).1, (findC_mem hf).2, by omega⟩
/-- The units of all charges. -/
def chUnits (d : List Ch) : List (Int × Int) := d.flatMap fun c => slUnits ⟨c.src, 0, c.un⟩
def totC (d p : List Ch) : Int := (d.map fun c => amtC c (findC p c.src)).sum
theorem chUnits_sum {d p : List Ch} (hd : ChsOk d) : uSumG (gU d p) (chUnits d) = totC d p := by
  have key : ∀ l : List Ch, (∀ c ∈ l, c ∈ d) → uSumG (gU d p) (l.flatMap fun c => slUnits ⟨c.src, 0, c.un⟩) = (l.map fun c => amtC c (findC p c.src)).sum := by
    intro l
    induction l with
    | nil => intro _; simp [uSumG]
    | cons c l ih =>
      intro hl
      have hc := hl c (by simp)
      have hk := chOk_yes (hd.ok c hc)
      rw [List.flatMap_cons, uSumG_append, ih (fun x hx => hl x (by simp [hx])), List.map_cons, List.sum_cons]
      have h1 := uSumG_slice (srcF d p) ⟨c.src, 0, c.un⟩ (by show (0 : Int) ≤ c.un; omega)
      have h2 : uSumG (gU d p) (slUnits ⟨c.src, 0, c.un⟩) = srcF d p c.src c.un - srcF d p c.src 0 := h1
      rw [h2]
      unfold srcF
      rw [findC_of (cAsc_pair.1 hd.asc) hc]
      simp only
      rw [upToV_full (by omega), upToV_zero]
      omega
  exact key d (fun c hc => hc)
/-- What has been borne of units that occur once. -/
theorem borne_le {d p : List Ch} {L : List Sl} (hd : ChsOk d) (hp : ChsOk p) (hv : SlsOk L) (hn : (unitsOf L).Nodup) (ho : ∀ x ∈ L, (porE d p x).2 = 0) : uSumG (gU d p) (unitsOf L) ≤ totC d p := by
  rw [← chUnits_sum hd]
  refine uSumG_sub hn (fun u hu => ?_) (fun u _ => gU_nonneg hd.ok hp.ok u)
  obtain ⟨x, hx, hux⟩ := List.mem_flatMap.1 hu
  have hx1 := slOk_yes (hv x hx)
  obtain ⟨c, hc, h1, h2⟩ := porE_in (ho x hx)
  rw [mem_slUnits] at hux
  refine List.mem_flatMap.2 ⟨c, hc, ?_⟩
  rw [mem_slUnits]
  simp
  omega
/-- The charges of an estate: its sources with amounts. -/
structure Charged (cs d : List Ch) : Prop where
  len : d.length = cs.length
  same : ∀ i, i < cs.length → d[i]!.src = cs[i]!.src ∧ d[i]!.un = cs[i]!.un ∧ 0 ≤ d[i]!.am ∧ d[i]!.am ≤ 1000000000000
theorem Charged.ok {s : List Lt} {cs d : List Ch} {free : Int} (h : Charged cs d) (he : EstOk s cs free) (hf : free ≤ 1000001) (hl : cs.length ≤ 64) : ChsOk d := by
  refine ⟨by rw [h.len]; exact hl, fun c hc => ?_, fun i hi => ?_⟩
  · obtain ⟨i, hi, rfl⟩ := List.getElem_of_mem hc
    have hi' : i < cs.length := by rw [← h.len]; exact hi
    have h1 := h.same i hi'
    have h2 := he.chs cs[i]! (by rw [getElem!_pos cs i hi']; exact List.getElem_mem hi')
    rw [getElem!_pos d i hi] at h1
    simp [chOk]
    omega
  · have hi' : i + 1 < cs.length := by rw [← h.len]; exact hi
    rw [(h.same i (by omega)).1, (h.same (i + 1) hi').1]
    exact (cAsc_pair.2 he.asc) i hi'
theorem ChsOk.drop {d : List Ch} (h : ChsOk d) (k : Nat) : ChsOk (d.drop k) := by
  refine ⟨by rw [List.length_drop]; have := h.few; omega, fun c hc => h.ok c (List.mem_of_mem_drop hc), ?_⟩
  rw [cAsc_pair]
  exact (cAsc_pair.1 h.asc).drop
theorem find_unit {cs d : List Ch} (h : Charged cs d) {c : Ch} (hc : c ∈ cs) : ∃ x ∈ d, x.src = c.src ∧ x.un = c.un := by
  obtain ⟨i, hi, rfl⟩ := List.getElem_of_mem hc
  have h1 := h.same i hi
  rw [getElem!_pos cs i hi] at h1
  exact ⟨d[i]!, by rw [getElem!_pos d i (by rw [h.len]; exact hi)]; exact List.getElem_mem _, h1.1, h1.2.1⟩
theorem unit_of {cs d : List Ch} (h : Charged cs d) {x : Ch} (hx : x ∈ d) : ∃ c ∈ cs, c.src = x.src ∧ c.un = x.un := by
  obtain ⟨i, hi, rfl⟩ := List.getElem_of_mem hx
  have hi' : i < cs.length := by rw [← h.len]; exact hi
  have h1 := h.same i hi'
  rw [getElem!_pos d i hi] at h1
  exact ⟨cs[i]!, by rw [getElem!_pos cs i hi']; exact List.getElem_mem hi', h1.1.symm, h1.2.1.symm⟩
/-- Every slice of an estate's lots can be drawn back. -/
theorem porE_est {s : List Lt} {cs d p : List Ch} {free : Int} {k : Nat} (he : EstOk s cs free) (hd : Charged cs d) (hp : Charged cs p) (hf : free ≤ 1000001) (hl : cs.length ≤ 64) {x : Lt} (hx : x ∈ s) {y : Sl} (hy : y ∈ x.sl) : (porE d (p.drop k) y).2 = 0 := by
  obtain ⟨c, hc, h1, h2⟩ := he.src x hx y hy
  obtain ⟨z, hz, h3, h4⟩ := find_unit hd hc
  have hdo := hd.ok he hf hl
  have hpo := hp.ok he hf hl
  have hfd : findC d y.src = some z := by rw [← h1, ← h3]; exact findC_of (cAsc_pair.1 hdo.asc) hz
  unfold porE
  rw [hfd]
  simp only
  have hb : clash z (findC (p.drop k) y.src) = false := by
    cases hq : findC (p.drop k) y.src with
    | none => rfl
    | some q =>
      obtain ⟨hq1, hq2⟩ := findC_mem hq
      obtain ⟨c', hc', h5, h6⟩ := unit_of hp (List.mem_of_mem_drop hq1)
      have h7 : findC cs c.src = some c := findC_of he.asc hc
      have h8 : findC cs c'.src = some c' := findC_of he.asc hc'
      rw [show c'.src = c.src by omega, h7] at h8
      injection h8 with h8
      subst h8
      simp [clash]
      omega
  rw [hb]
  rw [if_neg (by simp), if_neg (by omega)]
theorem sumE_of {d p : List Ch} {l : List Sl} (h : ∀ x ∈ l, (porE d p x).2 = 0) (t : Int) : (sumE d p l t).2 = 0 := by
  induction l generalizing t with
  | nil => rfl
  | cons x xs ih =>
    rw [sumE, if_pos (h x (by simp))]
    exact ih (fun y hy => h y (by simp [hy])) _
/-- A claim for a lot of an estate bears what its units bear. -/
theorem borneE_est {s : List Lt} {cs d p : List Ch} {free : Int} {k : Nat} (he : EstOk s cs free) (hd : Charged cs d) (hp : Charged cs p) (hf : free ≤ 1000001) (hl : cs.length ≤ 64) {x : Lt} (hx : x ∈ s) : borneE x.sl d (p.drop k) = (uSumG (gU d (p.drop k)) (unitsOf x.sl), 0) := by
  have hx1 := he.st.lots x hx
  have h1 : slErr x.sl = 0 := slErr_of hx1.few hx1.sls (he.st.apart hx)
  have h2 : chErr d = 0 := chErr_ok.2 (hd.ok he hf hl)
  have h3 : chErr (p.drop k) = 0 := chErr_ok.2 ((hp.ok he hf hl).drop k)
  have h4 := sumE_of (t := 0) (fun y hy => porE_est (k := k) he hd hp hf hl hx hy)
  obtain ⟨h5, _⟩ := sumE_ok h4 hx1.sls
  unfold borneE
  rw [if_neg (by omega), if_neg (by omega), if_neg (by omega)]
  refine Prod.ext ?_ h4
  rw [h5]
  show 0 + uSumG _ _ = uSumG (gU d (p.drop k)) _
  rw [Int.zero_add]
  rfl
end Go.Proofs.YthnhgjhnkncmiaaGreat

namespace Go.Proofs.YthnhgjhnkncmiaaGreat
set_option linter.unusedVariables false

/-- The slices of all claims. -/
def clSl (cs : List Clm) : List Sl := (cs.map (·.sl)).flatten
theorem clSl_append (a b : List Clm) : clSl (a ++ b) = clSl a ++ clSl b := by simp [clSl]
theorem clSl_one (c : Clm) : clSl [c] = c.sl := by simp [clSl]
/-- A valid list of claims. -/
structure ClsOk (cs : List Clm) : Prop where
  few : cs.length ≤ 64
  ok : ∀ c ∈ cs, clOk c = true
  asc : cs.Pairwise (fun a b => a.num < b.num)
  apart : Apart (clSl cs)
theorem ClsOk.nil : ClsOk [] := ⟨by simp, fun c hc => (by cases hc), List.Pairwise.nil, by simp [clSl, Apart]⟩
theorem clOk_sl {c : Clm} (h : clOk c = true) : c.sl.length ≤ 64 ∧ SlsOk c.sl ∧ Apart c.sl := slErr_ok (clOk_yes h).2.2.2.2.2.2.2.2.2
theorem clSl_ok {cs : List Clm} (h : ∀ c ∈ cs, clOk c = true) : SlsOk (clSl cs) := fun x hx => by
  unfold clSl at hx
  rw [List.mem_flatten] at hx
  obtain ⟨l, hl, hx⟩ := hx
  obtain ⟨c, hc, rfl⟩ := List.mem_map.1 hl
  exact (clOk_sl (h c hc)).2.1 x hx
theorem clSl_len {cs : List Clm} (h : ∀ c ∈ cs, clOk c = true) : (clSl cs).length ≤ cs.length * 64 := by
  induction cs with
  | nil => simp [clSl]
  | cons c cs ih =>
    have h1 := ih fun x hx => h x (by simp [hx])
    have h2 := (clOk_sl (h c (by simp))).1
    have e : clSl (c :: cs) = c.sl ++ clSl cs := by simp [clSl]
    rw [e, List.length_append, List.length_cons]
    omega
theorem clSl_take {cs : List Clm} {i : Nat} (hi : i < cs.length) : clSl (cs.take (i + 1)) = clSl (cs.take i) ++ cs[i]!.sl := by
  rw [List.take_succ_eq_append_getElem hi, clSl_append, clSl_one, getElem!_pos cs i hi]
theorem clSl_take_len {cs : List Clm} (h : ∀ c ∈ cs, clOk c = true) (i : Nat) (hl : cs.length ≤ 65) : (clSl (cs.take i)).length ≤ 4160 := by
  have h1 := clSl_len (cs := cs.take i) fun c hc => h c (List.mem_of_mem_take hc)
  have h2 : (cs.take i).length ≤ 65 := by rw [List.length_take]; omega
  have := Nat.mul_le_mul_right 64 h2
  omega
theorem meetsL_flat {L : List Clm} {b : List Sl} : MeetsL (clSl L) b ↔ ∃ x ∈ L, MeetsL x.sl b := by
  unfold MeetsL clSl
  constructor
  · rintro ⟨x, hx, h⟩
    rw [List.mem_flatten] at hx
    obtain ⟨l, hl, hx⟩ := hx
    obtain ⟨c, hc, rfl⟩ := List.mem_map.1 hl
    exact ⟨c, hc, x, hx, h⟩
  · rintro ⟨c, hc, x, hx, h⟩
    exact ⟨x, List.mem_flatten.2 ⟨c.sl, List.mem_map.2 ⟨c, hc, rfl⟩, hx⟩, h⟩
/-- One claim more: it meets one of the others, or not. -/
theorem ClsOk.more {cs : List Clm} {c : Clm} (h : ClsOk cs) (hc : clOk c = true) : Apart (clSl (cs ++ [c])) ↔ ¬ ∃ x ∈ cs, MeetsL x.sl c.sl := by
  rw [clSl_append, clSl_one, apart_append, meetsL_flat]
  exact ⟨fun k => k.2.2, fun k => ⟨h.apart, (clOk_sl hc).2.2, k⟩⟩
theorem ClsOk.add {cs : List Clm} {c : Clm} (h : ClsOk cs) (hc : clOk c = true) (hl : cs.length < 64) (hn : ∀ x ∈ cs, x.num < c.num) (ha : Apart (clSl (cs ++ [c]))) : ClsOk (cs ++ [c]) := by
  refine ⟨by simp; omega, fun x hx => ?_, ?_, ha⟩
  · rcases List.mem_append.1 hx with hx | hx
    · exact h.ok x hx
    · rw [List.mem_singleton] at hx; subst hx; exact hc
  · rw [List.pairwise_append]
    refine ⟨h.asc, by simp, fun a hm b hb => ?_⟩
    rw [List.mem_singleton] at hb
    subst hb
    exact hn a hm
theorem ClsOk.ascI {cs : List Clm} (h : ClsOk cs) {i : Nat} (hi : i + 1 < cs.length) : cs[i]!.num < cs[i + 1]!.num := by
  have := List.pairwise_iff_getElem.1 h.asc i (i + 1) (by omega) hi (by omega)
  rwa [getElem!_pos cs i (by omega), getElem!_pos cs (i + 1) hi]
end Go.Proofs.YthnhgjhnkncmiaaGreat

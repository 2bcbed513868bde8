/-
  A request of nothing changes no other grant. No statement of the seat is proved here.
  The reasons of the grants: a day that does not exhaust the quota grants everything, another one all that was available. No statement of the seat is proved here.
  The contract of customslaw22.dayOf. No statement of the seat is proved here. Conditions: at most 1000 facts.
-/
import Derived.Test.YtemhiifgplaldaaMN
import Derived.Test.YtemhiifgplaldaaMP
namespace Go.Proofs.Ytemhiifgplaldaa
set_option linter.unusedVariables false

/-- The places other than p, in order. -/
def skip (p i : Nat) : Nat := if i < p then i else i + 1
theorem skip_lt (p i j : Nat) : skip p j < skip p i ↔ j < i := by unfold skip; split <;> split <;> omega
theorem skip_ne (p i : Nat) : skip p i ≠ p := by unfold skip; split <;> omega
theorem skip_perm (p n : Nat) (h : p ≤ n) : (List.range (n + 1)).Perm (p :: (List.range n).map (skip p)) := by
  rw [List.perm_ext_iff_of_nodup List.nodup_range]
  · intro a
    rw [List.mem_range, List.mem_cons, List.mem_map]
    constructor
    · intro ha
      by_cases e : a = p
      · exact .inl e
      · refine .inr ⟨if a < p then a else a - 1, List.mem_range.2 (by split <;> omega), ?_⟩
        unfold skip
        by_cases q : a < p
        · rw [if_pos q, if_pos q]
        · rw [if_neg q, if_neg (by omega)]; omega
    · rintro (rfl | ⟨j, hj, rfl⟩)
      · omega
      · have := List.mem_range.1 hj
        unfold skip; split <;> omega
  · rw [List.nodup_cons]
    refine ⟨fun hm => ?_, ?_⟩
    · obtain ⟨j, _, e⟩ := List.mem_map.1 hm
      exact skip_ne p j e
    · rw [List.Nodup, List.pairwise_map]
      refine List.nodup_range.imp fun {x y} hxy e => ?_
      have h1 := skip_lt p x y
      have h2 := skip_lt p y x
      omega
theorem sumN_skip (p n : Nat) (h : p ≤ n) (f : Nat → Int) : sumN (n + 1) f = f p + sumN n (fun i => f (skip p i)) := by
  unfold sumN
  rw [perm_sum ((skip_perm p n h).map f), List.map_cons, List.sum_cons, List.map_map]
  rfl
theorem rank_skip (p n : Nat) (h : p ≤ n) (r r' : Nat → Int) (e : ∀ i, i < n → r (skip p i) = r' i) (i : Nat) (hi : i < n) (hp : bef r p (skip p i) = false) : rank r (n + 1) (skip p i) = rank r' n i := by
  unfold rank
  rw [(skip_perm p n h).countP_eq, List.countP_cons_of_neg (by simp [hp]), List.countP_map]
  refine List.countP_congr fun j hj => ?_
  have hj' := List.mem_range.1 hj
  show bef r (skip p j) (skip p i) = true ↔ bef r' j i = true
  unfold bef
  rw [e j hj', e i hi, decide_eq_true_iff, decide_eq_true_iff, skip_lt]
section
variable {t : Int} {ws ws' : List Int} {p : Nat}
structure Skips (ws ws' : List Int) (p : Nat) : Prop where
  len : ws.length = ws'.length + 1
  at_ : p ≤ ws'.length
  get : ∀ i, i < ws'.length → ws.getD (skip p i) 0 = ws'.getD i 0
  zero : ws.getD p 0 = 0
theorem Skips.sum (h : Skips ws ws' p) : ws.sum = ws'.sum := by
  rw [← sumN_list ws, ← sumN_list ws', h.len, sumN_skip p _ h.at_, h.zero, Int.zero_add]
  exact sumN_congr h.get
theorem Skips.share (h : Skips ws ws' p) (hn : NonNeg ws) (hn' : NonNeg ws') (hs : ws.sum ≠ 0) : (∀ i, i < ws'.length → shareI t ws (skip p i) = shareI t ws' i) ∧ shareI t ws p = 0 := by
  have hs' : ws'.sum ≠ 0 := by rw [← h.sum]; exact hs
  have hl : 0 < ws.length := by have := h.len; omega
  have hwm : wsum ws = wsum ws' := by unfold wsum; rw [if_neg hs, if_neg hs', h.sum]
  have hwt : ∀ i, i < ws'.length → wt ws (skip p i) = wt ws' i := fun i hi => by unfold wt; rw [if_neg hs, if_neg hs']; exact h.get i hi
  have hwp : wt ws p = 0 := by unfold wt; rw [if_neg hs]; exact h.zero
  have hq : ∀ i, i < ws'.length → quoI t ws (skip p i) = quoI t ws' i := fun i hi => by unfold quoI; rw [hwt i hi, hwm]
  have hr : ∀ i, i < ws'.length → rstI t ws (skip p i) = rstI t ws' i := fun i hi => by unfold rstI; rw [hwt i hi, hwm]
  have hqp : quoI t ws p = 0 := by unfold quoI; rw [hwp, Int.mul_zero, Int.zero_ediv]
  have hrp : rstI t ws p = 0 := by unfold rstI; rw [hwp, Int.mul_zero, Int.zero_emod]
  have hlf : leftI t ws = leftI t ws' := by
    unfold leftI
    rw [h.len, sumN_skip p _ h.at_, hqp, Int.zero_add, sumN_congr hq]
  constructor
  · intro i hi
    have hsk : skip p i < ws.length := by have := h.len; unfold skip; split <;> omega
    unfold shareI
    rw [hq i hi]
    by_cases z : rstI t ws' i = 0
    · have h1 := not_raised (t := t) hn hl (skip p i) hsk (by rw [hr i hi]; exact z)
      have h2 := not_raised (t := t) hn' (by omega) i hi z
      rw [if_neg (by omega), if_neg (by omega)]
    · have h0 := rst_nonneg (t := t) hn' (by omega) i
      have hb : bef (rstI t ws) p (skip p i) = false := by
        unfold bef
        rw [hrp, hr i hi]
        simp; omega
      rw [h.len, rank_skip p ws'.length h.at_ (rstI t ws) (rstI t ws') hr i hi hb, hlf]
  · have h1 := not_raised (t := t) hn hl p (by have := h.len; have := h.at_; omega) hrp
    unfold shareI
    rw [hqp, if_neg (by omega)]; rfl
end
theorem skips_append (xs ys : List Int) : Skips (xs ++ 0 :: ys) (xs ++ ys) xs.length := by
  refine ⟨by simp; omega, by simp, fun i hi => ?_, ?_⟩
  · unfold skip
    by_cases e : i < xs.length
    · rw [if_pos e]; simp [List.getD, List.getElem?_append_left e]
    · rw [if_neg e]
      simp only [List.getD]
      rw [List.getElem?_append_right (by omega), List.getElem?_append_right (by omega), show i + 1 - xs.length = (i - xs.length) + 1 by omega, List.getElem?_cons_succ]
  · simp [List.getD]
theorem nonNeg_list {ws : List Int} (h : ∀ w ∈ ws, 0 ≤ w) : NonNeg ws := fun i => by
  rcases Nat.lt_or_ge i ws.length with hi | hi
  · simp [List.getD, List.getElem?_eq_getElem hi]; exact h _ (List.getElem_mem _)
  · simp [List.getD, List.getElem?_eq_none hi]
theorem qs_prs (blk : List Rq) : qsOf (prs blk) = blk.map (·.req) := by simp [qsOf, prs, Function.comp_def]
theorem prs_get (blk : List Rq) (k : Nat) (h : k < blk.length) : (prs blk)[k]! = (blk[k]!.id, blk[k]!.req) := by
  rw [getElem!_pos _ k (by simpa [prs] using h), getElem!_pos blk k h]; simp [prs]
/-- A day with one request of nothing more. -/
theorem grantL_ins (t : Int) (us vs : List Rq) (z : Rq) (hz : z.req = 0) (hu : ∀ x ∈ us, 0 ≤ x.req) (hv : ∀ x ∈ vs, 0 ≤ x.req) (ht : 0 ≤ t) :
    ∃ us' vs' z', grantL t (us ++ z :: vs) = us' ++ z' :: vs' ∧ grantL t (us ++ vs) = us' ++ vs' ∧ z'.id = z.id ∧ z'.grant = 0 ∧ (qsOf (prs (us ++ z :: vs))).sum = (qsOf (prs (us ++ vs))).sum := by
  have hsk : Skips (qsOf (prs (us ++ z :: vs))) (qsOf (prs (us ++ vs))) us.length := by
    rw [qs_prs, qs_prs, List.map_append, List.map_append, List.map_cons, hz]
    have := skips_append (us.map (·.req)) (vs.map (·.req))
    rwa [List.length_map] at this
  have hn : NonNeg (qsOf (prs (us ++ z :: vs))) := by
    rw [qs_prs]
    refine nonNeg_list fun w hw => ?_
    obtain ⟨x, hx, rfl⟩ := List.mem_map.1 hw
    rcases List.mem_append.1 hx with h | h
    · exact hu x h
    · rcases List.mem_cons.1 h with rfl | h
      · rw [hz]; exact Int.le_refl _
      · exact hv x h
  have hn' : NonNeg (qsOf (prs (us ++ vs))) := by
    rw [qs_prs]
    refine nonNeg_list fun w hw => ?_
    obtain ⟨x, hx, rfl⟩ := List.mem_map.1 hw
    rcases List.mem_append.1 hx with h | h
    · exact hu x h
    · exact hv x h
  have hsum := hsk.sum
  have hgr : (∀ i, i < (us ++ vs).length → grantV t (prs (us ++ z :: vs)) (skip us.length i) = grantV t (prs (us ++ vs)) i) ∧ grantV t (prs (us ++ z :: vs)) us.length = 0 := by
    unfold grantV
    rw [hsum]
    by_cases e : (qsOf (prs (us ++ vs))).sum ≤ t
    · refine ⟨fun i hi => ?_, ?_⟩
      · rw [if_pos e, if_pos e, prs_get _ i hi, prs_get _ _ (by simp at hi ⊢; unfold skip; split <;> omega)]
        show (us ++ z :: vs)[skip us.length i]!.req = (us ++ vs)[i]!.req
        rw [getElem!_pos _ i hi, getElem!_pos _ (skip us.length i) (by simp at hi ⊢; unfold skip; split <;> omega)]
        by_cases q : i < us.length
        · have : skip us.length i = i := by unfold skip; rw [if_pos q]
          simp only [this]
          rw [List.getElem_append_left q, List.getElem_append_left q]
        · have : skip us.length i = i + 1 := by unfold skip; rw [if_neg q]
          simp only [this]
          rw [List.getElem_append_right (by omega), List.getElem_append_right (by omega)]
          simp only [show i + 1 - us.length = (i - us.length) + 1 by omega, List.getElem_cons_succ]
      · rw [if_pos e, prs_get _ _ (by simp)]
        show (us ++ z :: vs)[us.length]!.req = 0
        rw [getElem!_pos _ _ (by simp)]
        simp [hz]
    · have h1 := hsk.share (t := t) hn hn' (by rw [hsum]; omega)
      have hl : (qsOf (prs (us ++ vs))).length = (us ++ vs).length := by simp [qsOf, prs]
      rw [hl] at h1
      refine ⟨fun i hi => ?_, ?_⟩
      · rw [if_neg e, if_neg e]; exact h1.1 i hi
      · rw [if_neg e]; exact h1.2
  let big : Nat → Rq := fun k => { (us ++ z :: vs)[k]! with avail := t, asked := (qsOf (prs (us ++ vs))).sum, grant := grantV t (prs (us ++ z :: vs)) k }
  have eb : grantL t (us ++ z :: vs) = (List.range us.length).map big ++ big us.length :: (List.range vs.length).map (fun k => big (us.length + 1 + k)) := by
    unfold grantL
    rw [hsum, show (us ++ z :: vs).length = us.length + (1 + vs.length) by simp; omega, List.range_add, List.map_append, List.map_map, List.range_add, List.map_append, List.map_map]
    congr 1
    simp only [Function.comp_def, big]
    simp [Nat.add_assoc]
  have es : grantL t (us ++ vs) = (List.range us.length).map big ++ (List.range vs.length).map (fun k => big (us.length + 1 + k)) := by
    unfold grantL
    rw [show (us ++ vs).length = us.length + vs.length by simp, List.range_add, List.map_append, List.map_map]
    congr 1
    · refine List.map_congr_left fun k hk => ?_
      have hk' := List.mem_range.1 hk
      have h1 := hgr.1 k (by simp; omega)
      have hs : skip us.length k = k := by unfold skip; rw [if_pos hk']
      rw [hs] at h1
      simp only [big]
      rw [h1]
      have : (us ++ vs)[k]! = (us ++ z :: vs)[k]! := by
        rw [getElem!_pos _ k (by simp; omega), getElem!_pos _ k (by simp; omega), List.getElem_append_left hk', List.getElem_append_left hk']
      rw [this]
    · refine List.map_congr_left fun k hk => ?_
      have hk' := List.mem_range.1 hk
      have h1 := hgr.1 (us.length + k) (by simp; omega)
      have hs : skip us.length (us.length + k) = us.length + 1 + k := by unfold skip; rw [if_neg (by omega)]; omega
      rw [hs] at h1
      simp only [big, Function.comp_def]
      rw [h1]
      have : (us ++ vs)[us.length + k]! = (us ++ z :: vs)[us.length + 1 + k]! := by
        rw [getElem!_pos _ _ (by simp; omega), getElem!_pos _ _ (by simp; omega), List.getElem_append_right (by omega), List.getElem_append_right (by omega)]
        simp only [show us.length + k - us.length = k by omega, show us.length + 1 + k - us.length = k + 1 by omega, List.getElem_cons_succ]
      rw [this]
  refine ⟨_, _, _, eb, es, ?_, hgr.2, hsum⟩
  show (us ++ z :: vs)[us.length]!.id = z.id
  rw [getElem!_pos _ _ (by simp)]
  simp
theorem mem_tw {α : Type} {p : α → Bool} {l : List α} {x : α} (h : x ∈ l.takeWhile p) : p x = true := by
  induction l with
  | nil => simp at h
  | cons a l ih =>
    rw [List.takeWhile_cons] at h
    split at h
    · rename_i ha
      rcases List.mem_cons.1 h with rfl | h
      · exact ha
      · exact ih h
    · cases h
/-- Sorted by day. -/
def DaysUp (rs : List Rq) : Prop := rs.Pairwise fun a b => a.day ≤ b.day
theorem runD_ins (T : Int → Int) (hT : ∀ x y, x ≤ y → T x ≤ T y) : ∀ (m : Nat) (xs ys : List Rq) (z : Rq) (b : Int), (xs ++ z :: ys).length ≤ m → DaysUp (xs ++ z :: ys) → z.req = 0 → (∀ x ∈ xs ++ ys, 0 ≤ x.req) → (∀ x ∈ xs ++ z :: ys, 0 ≤ b + T x.day) →
    ∃ xs' ys' z', (runD T m (xs ++ z :: ys) b).1 = xs' ++ z' :: ys' ∧ (runD T m (xs ++ ys) b).1 = xs' ++ ys' ∧ z'.id = z.id ∧ z'.grant = 0 ∧ (runD T m (xs ++ z :: ys) b).2 = (runD T m (xs ++ ys) b).2 := by
  intro m
  induction m with
  | zero => intro xs ys z b h; simp at h
  | succ m ih =>
    intro xs ys z b hl hd hz hq hb
    have hdz := hd
    unfold DaysUp at hdz
    rw [List.pairwise_append, List.pairwise_cons] at hdz
    obtain ⟨d1, ⟨d2, d3⟩, d4⟩ := hdz
    -- the requests of z's day behind z
    obtain ⟨v, hv⟩ : ∃ v, ys.takeWhile (fun x => x.day == z.day) = v := ⟨_, rfl⟩
    obtain ⟨r, hr⟩ : ∃ r, ys.dropWhile (fun x => x.day == z.day) = r := ⟨_, rfl⟩
    have eys : ys = v ++ r := by rw [← hv, ← hr, List.takeWhile_append_dropWhile]
    have hvd : ∀ x ∈ v, x.day = z.day := fun x hx => by rw [← hv] at hx; simpa using mem_tw hx
    have hrd : ∀ s ∈ r.head?, s.day ≠ z.day := fun s hs => by
      rw [← hr] at hs
      have := List.head?_dropWhile_not (fun x : Rq => x.day == z.day) ys
      rw [Option.mem_def] at hs
      rw [hs] at this
      simpa using this
    have hbz : 0 ≤ b + T z.day := hb z (by simp)
    by_cases hcase : ∀ x ∈ xs, x.day = z.day
    · obtain ⟨us', vs', z', g1, g2, g3, g4, g5⟩ := grantL_ins (b + T z.day) xs v z hz (fun x hx => hq x (by simp [hx])) (fun x hx => hq x (by rw [eys]; simp [hx])) hbz
      have hbig := runD_step T m (rs := xs ++ z :: ys) (blk := xs ++ z :: v) (rest := r) (D := z.day) (b := b) (by simp) (by rw [eys]; simp) (fun x hx => by
        rcases List.mem_append.1 hx with h | h
        · exact hcase x h
        · rcases List.mem_cons.1 h with rfl | h
          · rfl
          · exact hvd x h) hrd
      by_cases hne : xs ++ v = []
      · obtain ⟨rfl, rfl⟩ := List.append_eq_nil_iff.1 hne
        have eyr : ys = r := by rw [eys]; rfl
        subst eyr
        simp only [List.nil_append] at hbig g1 g2 hl ⊢
        have hs0 : (qsOf (prs [z])).sum = 0 := by rw [qs_prs]; simp [hz]
        rw [hs0, show max (b + T z.day - 0) 0 - T z.day = b by omega] at hbig
        have hf := runD_fuel T m (m + 1) ys b (by simp at hl; omega) (by simp at hl; omega)
        rw [hf] at hbig
        have : us' = [] ∧ vs' = [] := by
          have := congrArg List.length g2
          simp [grantL] at this
          exact ⟨List.eq_nil_of_length_eq_zero (by omega), List.eq_nil_of_length_eq_zero (by omega)⟩
        obtain ⟨rfl, rfl⟩ := this
        refine ⟨[], (runD T (m + 1) ys b).1, z', ?_, rfl, g3, g4, ?_⟩
        · rw [hbig]; show grantL _ _ ++ _ = _; rw [g1]; rfl
        · rw [hbig]
      · have hsm := runD_step T m (rs := xs ++ ys) (blk := xs ++ v) (rest := r) (D := z.day) (b := b) hne (by rw [eys]; simp) (fun x hx => by
          rcases List.mem_append.1 hx with h | h
          · exact hcase x h
          · exact hvd x h) hrd
        rw [g5] at hbig
        refine ⟨us', vs' ++ (runD T m r (max (b + T z.day - (qsOf (prs (xs ++ v))).sum) 0 - T z.day)).1, z', ?_, ?_, g3, g4, ?_⟩
        · rw [hbig, g1]; simp
        · rw [hsm, g2]; simp
        · rw [hbig, hsm]
    · cases xs with
      | nil => exact absurd (fun x hx => by cases hx) hcase
      | cons x0 xs0 =>
        have hx0 : x0.day ≠ z.day := fun e => hcase fun x hx => by
          rcases List.mem_cons.1 hx with rfl | h
          · exact e
          · have h1 := (List.pairwise_cons.1 d1).1 x h
            have h2 := d4 x hx z (by simp)
            omega
        have hx0z := d4 x0 (by simp) z (by simp)
        obtain ⟨u, hu⟩ : ∃ u, (x0 :: xs0).takeWhile (fun x => x.day == x0.day) = u := ⟨_, rfl⟩
        obtain ⟨s, hs⟩ : ∃ s, (x0 :: xs0).dropWhile (fun x => x.day == x0.day) = s := ⟨_, rfl⟩
        have exs : x0 :: xs0 = u ++ s := by rw [← hu, ← hs, List.takeWhile_append_dropWhile]
        have hud : ∀ x ∈ u, x.day = x0.day := fun x hx => by rw [← hu] at hx; simpa using mem_tw hx
        have hsd : ∀ y ∈ s.head?, y.day ≠ x0.day := fun y hy => by
          rw [← hs] at hy
          have := List.head?_dropWhile_not (fun x : Rq => x.day == x0.day) (x0 :: xs0)
          rw [Option.mem_def] at hy
          rw [hy] at this
          simpa using this
        have hun : u ≠ [] := by rw [← hu, List.takeWhile_cons_of_pos (by simp)]; simp
        have hul : 0 < u.length := List.length_pos_iff.2 hun
        obtain ⟨b', hb'⟩ : ∃ b', max (b + T x0.day - (qsOf (prs u)).sum) 0 - T x0.day = b' := ⟨_, rfl⟩
        have hbig := runD_step T m (rs := (x0 :: xs0) ++ z :: ys) (blk := u) (rest := s ++ z :: ys) (D := x0.day) (b := b) hun (by rw [exs]; simp) hud (fun y hy => by
          cases s with
          | nil => simp at hy; rw [← hy]; omega
          | cons s0 s1 => exact hsd y (by simpa using hy))
        have hsm := runD_step T m (rs := (x0 :: xs0) ++ ys) (blk := u) (rest := s ++ ys) (D := x0.day) (b := b) hun (by rw [exs]; simp) hud (fun y hy => by
          cases s with
          | nil =>
            cases ys with
            | nil => simp at hy
            | cons y0 y1 =>
              simp at hy
              have := d2 y0 (by simp)
              rw [← hy]; omega
          | cons s0 s1 => exact hsd y (by simpa using hy))
        rw [hb'] at hbig hsm
        rw [exs] at hl hd hq hb d4
        have hd' : DaysUp (s ++ z :: ys) := by
          unfold DaysUp at hd
          rw [List.append_assoc] at hd
          exact (List.pairwise_append.1 hd).2.1
        obtain ⟨xs', ys', z', i1, i2, i3, i4, i5⟩ := ih s ys z b' (by simp at hl ⊢; omega) hd' hz (fun x hx => hq x (by simp at hx ⊢; rcases hx with h | h <;> simp [h])) (fun x hx => by
          have h1 : x0.day ≤ x.day := by
            unfold DaysUp at hd
            rw [List.append_assoc] at hd
            have h0 := (List.pairwise_append.1 hd).2.2
            cases u with
            | nil => exact absurd rfl hun
            | cons u0 u1 => have := h0 u0 (by simp) x hx; rw [hud u0 (by simp)] at this; exact this
          have := hT _ _ h1
          omega)
        refine ⟨grantL (b + T x0.day) u ++ xs', ys', z', ?_, ?_, i3, i4, ?_⟩
        · rw [hbig, i1]; simp
        · rw [hsm, i2]; simp
        · rw [hbig, hsm, i5]
end Go.Proofs.Ytemhiifgplaldaa

namespace Go.Proofs.Ytemhiifgplaldaa
set_option linter.unusedVariables false

theorem grantL_day {t : Int} {blk : List Rq} {g : Rq} (h : g ∈ grantL t blk) : ∃ k, k < blk.length ∧ g = { blk[k]! with avail := t, asked := (qsOf (prs blk)).sum, grant := grantV t (prs blk) k } := by
  unfold grantL at h
  obtain ⟨k, hk, rfl⟩ := List.mem_map.1 h
  exact ⟨k, List.mem_range.1 hk, rfl⟩
theorem getB_mem {blk : List Rq} {k : Nat} (h : k < blk.length) : blk[k]! ∈ blk := by rw [getElem!_pos blk k h]; exact List.getElem_mem _
/-- The days of the output are days of the input. -/
theorem runD_days (T : Int → Int) : ∀ (m : Nat) (rs : List Rq) (b : Int), ∀ g ∈ (runD T m rs b).1, ∃ r ∈ rs, g.day = r.day := by
  intro m
  induction m with
  | zero => intro rs b g hg; cases hg
  | succ m ih =>
    intro rs b g hg
    cases rs with
    | nil => rw [runD_nil] at hg; cases hg
    | cons r rs =>
      rw [runD] at hg
      rcases List.mem_append.1 hg with h | h
      · obtain ⟨k, hk, rfl⟩ := grantL_day h
        exact ⟨_, (List.takeWhile_sublist _).subset (getB_mem hk), rfl⟩
      · obtain ⟨s, hs, e⟩ := ih _ _ g h
        exact ⟨s, (List.dropWhile_sublist _).subset hs, e⟩
/-- The sum of the grants of a day. -/
def dayGr (gs : List Rq) (D : Int) : Int := ((gs.filter fun g => g.day == D).map (·.grant)).sum
theorem dayGr_append (a b : List Rq) (D : Int) : dayGr (a ++ b) D = dayGr a D + dayGr b D := by simp [dayGr]
theorem dayGr_none {a : List Rq} {D : Int} (h : ∀ g ∈ a, g.day ≠ D) : dayGr a D = 0 := by
  unfold dayGr
  rw [List.filter_eq_nil_iff.2 (fun g hg => by simpa using h g hg)]
  rfl
theorem dayGr_all {a : List Rq} {D : Int} (h : ∀ g ∈ a, g.day = D) : dayGr a D = (a.map (·.grant)).sum := by
  unfold dayGr
  rw [List.filter_eq_self.2 (fun g hg => by simpa using h g hg)]
theorem runD_reasons (T : Int → Int) (hT : ∀ x y, x ≤ y → T x ≤ T y) : ∀ (m : Nat) (rs : List Rq) (b : Int), rs.length ≤ m → DaysUp rs → (∀ x ∈ rs, 0 ≤ x.req) → (∀ x ∈ rs, 0 ≤ b + T x.day) → ∀ g ∈ (runD T m rs b).1, (g.asked ≤ g.avail → g.grant = g.req) ∧ (g.avail < g.asked → dayGr (runD T m rs b).1 g.day = g.avail) := by
  intro m
  induction m with
  | zero => intro rs b _ _ _ _ g hg; cases hg
  | succ m ih =>
    intro rs b hl hd hq hb g hg
    cases rs with
    | nil => rw [runD_nil] at hg; cases hg
    | cons r rs =>
      obtain ⟨blk, hblk⟩ : ∃ u, (r :: rs).takeWhile (fun x => x.day == r.day) = u := ⟨_, rfl⟩
      obtain ⟨rest, hrest⟩ : ∃ s, (r :: rs).dropWhile (fun x => x.day == r.day) = s := ⟨_, rfl⟩
      have e : r :: rs = blk ++ rest := by rw [← hblk, ← hrest, List.takeWhile_append_dropWhile]
      have hbd : ∀ x ∈ blk, x.day = r.day := fun x hx => by rw [← hblk] at hx; simpa using mem_tw hx
      have hbn : blk ≠ [] := by rw [← hblk, List.takeWhile_cons_of_pos (by simp)]; simp
      have hbl : 0 < blk.length := List.length_pos_iff.2 hbn
      have hd2 := hd
      unfold DaysUp at hd2
      rw [e, List.pairwise_append] at hd2
      have hlen : rest.length ≤ m := by
        have := congrArg List.length e
        simp at this hl
        omega
      obtain ⟨t, ht⟩ : ∃ t, b + T r.day = t := ⟨_, rfl⟩
      have ht0 : 0 ≤ t := by rw [← ht]; exact hb r (by simp)
      -- the rest lies behind the day
      have hrd : ∀ x ∈ rest, r.day < x.day := by
        intro x hx
        cases hr : rest with
        | nil => rw [hr] at hx; cases hx
        | cons s ss =>
          have h1 : s.day ≠ r.day := by
            have := List.head?_dropWhile_not (fun x : Rq => x.day == r.day) (r :: rs)
            rw [hrest, hr] at this
            simpa using this
          have h2 : r.day ≤ s.day := by
            have := hd2.2.2 blk[0]! (getB_mem hbl) s (by rw [hr]; simp)
            rwa [hbd _ (getB_mem hbl)] at this
          have h3 : s.day ≤ x.day := by
            rw [hr] at hx
            rcases List.mem_cons.1 hx with rfl | hx
            · exact Int.le_refl _
            · have := hd2.2.1
              rw [hr] at this
              exact (List.pairwise_cons.1 this).1 x hx
          omega
      have hstep : runD T (m + 1) (r :: rs) b = (grantL t blk ++ (runD T m rest (max (t - (qsOf (prs blk)).sum) 0 - T r.day)).1, (runD T m rest (max (t - (qsOf (prs blk)).sum) 0 - T r.day)).2) := by rw [runD, hblk, hrest, ht]
      obtain ⟨R, hR⟩ : ∃ R, runD T m rest (max (t - (qsOf (prs blk)).sum) 0 - T r.day) = R := ⟨_, rfl⟩
      have hRd : ∀ g ∈ R.1, r.day < g.day := fun g hg => by
        rw [← hR] at hg
        obtain ⟨s, hs, e2⟩ := runD_days T m rest _ g hg
        rw [e2]; exact hrd s hs
      have hGd : ∀ g ∈ grantL t blk, g.day = r.day := fun g hg => by
        obtain ⟨k, hk, rfl⟩ := grantL_day hg
        exact hbd blk[k]! (getB_mem hk)
      rw [hstep, hR] at hg ⊢
      simp only at hg ⊢
      rcases List.mem_append.1 hg with h | h
      · obtain ⟨k, hk, rfl⟩ := grantL_day h
        refine ⟨fun h1 => ?_, fun h1 => ?_⟩
        · show grantV t (prs blk) k = blk[k]!.req
          have h2 : (qsOf (prs blk)).sum ≤ t := h1
          unfold grantV
          rw [if_pos h2, prs_get blk k hk]
        · have h2 : t < (qsOf (prs blk)).sum := h1
          show dayGr (grantL t blk ++ R.1) blk[k]!.day = t
          rw [hbd _ (getB_mem hk), dayGr_append, dayGr_none (a := R.1) (fun g hg => by have := hRd g hg; omega), Int.add_zero, dayGr_all hGd]
          have h3 := grantV_sum (t := t) (xs := prs blk) (fun k hk => by
            have hk' : k < blk.length := by simpa [prs] using hk
            rw [prs_get blk k hk']
            exact hq _ (by rw [e]; exact List.mem_append_left _ (getB_mem hk'))) (by simpa [prs] using hbl)
          have h4 : ((grantL t blk).map (·.grant)).sum = sumN (prs blk).length (grantV t (prs blk)) := by
            unfold grantL sumN
            rw [List.map_map]
            simp [prs, Function.comp_def]
          rw [h4, h3]
          omega
      · have h5 := ih rest (max (t - (qsOf (prs blk)).sum) 0 - T r.day) hlen hd2.2.1 (fun x hx => hq x (by rw [e]; exact List.mem_append_right _ hx)) (fun x hx => by have := hT _ _ (Int.le_of_lt (hrd x hx)); omega) g (by rw [hR]; exact h)
        refine ⟨h5.1, fun h1 => ?_⟩
        have h6 := h5.2 h1
        rw [hR] at h6
        rw [dayGr_append, dayGr_none (a := grantL t blk) (fun x hx => by have := hGd x hx; have := hRd g h; omega), Int.zero_add, h6]
theorem dayGr_perm {a b : List Rq} (h : a.Perm b) (D : Int) : dayGr a D = dayGr b D := sum_perm ((h.filter _).map _)
theorem Settled.reasons {fs : List Fct} {vol : Int} {gs : List Rq} {bal : Int} (h : Settled fs vol gs bal) (hf : ∀ x ∈ fs, FOk x) (hi1 : ∀ x ∈ fs, x.kind = 1 → 1 ≤ x.id) (hv : 0 ≤ vol) : ∀ g ∈ gs, (g.asked ≤ g.avail → g.grant = g.req) ∧ (g.avail < g.asked → dayGr gs g.day = g.avail) := by
  obtain ⟨rs, h1, h2, h3, h4⟩ := settled_list.1 h
  have hq : ∀ y ∈ trOf fs, 0 ≤ y.qty := fun y hy => by
    have := hf y (List.mem_filter.1 hy).1
    unfold FOk at this; omega
  have hup : DaysUp rs := by
    refine (pairwise_of_get (lt := fun a b : Rq => a.day < b.day ∨ (a.day = b.day ∧ a.id < b.id)) h1.srt).imp fun {a b} hab => ?_
    omega
  intro g hg
  have key := runD_reasons (trSum (trOf fs)) (trSum_mono hq) rs.length rs vol (Nat.le_refl _) hup (fun x hx => by
      obtain ⟨k, hk, rfl⟩ := List.getElem_of_mem hx
      have := rq_ok h1 hf hi1 k hk
      rw [getElem!_pos rs k hk] at this
      exact this.2.2.1) (fun x _ => by have := trSum_nonneg hq x.day; omega) g (h2.mem_iff.1 hg)
  rw [← dayGr_perm h2] at key
  exact key
/-- The days as dayOf goes through them. -/
def dayStep (id : Int) (st : Int × Int) (x : Fct) : Int × Int := if x.kind = 1 ∧ x.id = id ∧ (st.1 < 0 ∨ x.num < st.2) then (x.day, x.num) else st
def dayN (l : List Fct) (id : Int) : Int × Int := l.foldl (dayStep id) (-1, 0)
theorem dayN_snoc (l : List Fct) (x : Fct) (id : Int) : dayN (l ++ [x]) id = dayStep id (dayN l id) x := by simp [dayN, List.foldl_append]
def DayInv (id : Int) (l : List Fct) (st : Int × Int) : Prop := ((∀ y ∈ l, ¬ (y.kind = 1 ∧ y.id = id)) ∧ st = (-1, 0)) ∨ ∃ x ∈ l, x.kind = 1 ∧ x.id = id ∧ st = (x.day, x.num) ∧ ∀ y ∈ l, y.kind = 1 → y.id = id → x.num ≤ y.num
theorem dayInv_step {id : Int} {l : List Fct} {st : Int × Int} {x : Fct} (h : DayInv id l st) (hd : ∀ y ∈ l, y.kind = 1 → 0 ≤ y.day) : DayInv id (l ++ [x]) (dayStep id st x) := by
  unfold dayStep
  by_cases e : x.kind = 1 ∧ x.id = id
  · rcases h with ⟨h1, rfl⟩ | ⟨z, hz, k1, k2, rfl, k4⟩
    · rw [if_pos ⟨e.1, e.2, .inl (by decide)⟩]
      refine .inr ⟨x, by simp, e.1, e.2, rfl, fun y hy a1 a2 => ?_⟩
      rcases List.mem_append.1 hy with hy | hy
      · exact absurd ⟨a1, a2⟩ (h1 y hy)
      · rw [List.mem_singleton] at hy; subst hy; exact Int.le_refl _
    · have hz0 := hd z hz k1
      by_cases e2 : x.num < z.num
      · rw [if_pos ⟨e.1, e.2, .inr e2⟩]
        refine .inr ⟨x, by simp, e.1, e.2, rfl, fun y hy a1 a2 => ?_⟩
        rcases List.mem_append.1 hy with hy | hy
        · have := k4 y hy a1 a2; omega
        · rw [List.mem_singleton] at hy; subst hy; exact Int.le_refl _
      · rw [if_neg (by rintro ⟨_, _, a | a⟩ <;> simp at a <;> omega)]
        refine .inr ⟨z, by simp [hz], k1, k2, rfl, fun y hy a1 a2 => ?_⟩
        rcases List.mem_append.1 hy with hy | hy
        · exact k4 y hy a1 a2
        · rw [List.mem_singleton] at hy; subst hy; omega
  · rw [if_neg (fun h => e ⟨h.1, h.2.1⟩)]
    rcases h with ⟨h1, h2⟩ | ⟨z, hz, k1, k2, k3, k4⟩
    · refine .inl ⟨fun y hy => ?_, h2⟩
      rcases List.mem_append.1 hy with hy | hy
      · exact h1 y hy
      · rw [List.mem_singleton] at hy; subst hy; exact e
    · refine .inr ⟨z, by simp [hz], k1, k2, k3, fun y hy a1 a2 => ?_⟩
      rcases List.mem_append.1 hy with hy | hy
      · exact k4 y hy a1 a2
      · rw [List.mem_singleton] at hy; subst hy; exact absurd ⟨a1, a2⟩ e
theorem dayInv_take {l : List Fct} (hd : ∀ y ∈ l, y.kind = 1 → 0 ≤ y.day) (id : Int) (k : Nat) (hk : k ≤ l.length) : DayInv id (l.take k) (dayN (l.take k) id) := by
  induction k with
  | zero => exact .inl ⟨fun y hy => by simp at hy, rfl⟩
  | succ k ih =>
    rw [List.take_succ_eq_append_getElem (by omega), dayN_snoc]
    exact dayInv_step (ih (by omega)) fun y hy => hd y (List.mem_of_mem_take hy)
/-- dayOf finds the day of the request. -/
theorem dayN_ask {l fs : List Fct} (hp : fs.Perm l) (ha : fs.Pairwise (fun a b => a.num < b.num)) (hd : ∀ y ∈ l, y.kind = 1 → 0 ≤ y.day) {id : Int} {f : Fct} (h : askOf fs id = some f) : (dayN l id).1 = f.day := by
  unfold askOf at h
  obtain ⟨hpf, us, vs, rfl, has⟩ := List.find?_eq_some_iff_append.1 h
  simp at hpf
  have hm : f ∈ l := hp.mem_iff.1 (by simp)
  have hi := dayInv_take hd id l.length (Nat.le_refl _)
  rw [List.take_length] at hi
  rcases hi with ⟨h1, _⟩ | ⟨x, hx, k1, k2, k3, k4⟩
  · exact absurd hpf (h1 f hm)
  · have h5 := k4 f hm hpf.1 hpf.2
    have hx2 := hp.mem_iff.2 hx
    rw [k3]
    rcases List.mem_append.1 hx2 with h6 | h6
    · have := has x h6
      simp [k1, k2] at this
    · rcases List.mem_cons.1 h6 with rfl | h6
      · rfl
      · have := (List.pairwise_cons.1 (List.pairwise_append.1 ha).2.1).1 x h6
        omega
end Go.Proofs.Ytemhiifgplaldaa

namespace Go.Proofs.Ytemhiifgplaldaa
open Go.RowKit
set_option linter.unusedVariables false

theorem drewN_add {w v : World} {q : Nat} (h : v = w.drewN q) (m : Nat) : v.drewN m = w.drewN (q + m) := by
  rw [h]
  simp [World.drewN, Nat.add_assoc]

set_option maxRecDepth 100000 in
set_option maxHeartbeats 4000000 in
theorem dayOf_any (A : Option Addr) (n c : Nat) (l : List Fct) (id : Int) (w : World) (h : Recs encF 5 w A n l) (hn : n ≤ 1000) :
    Calls Try.prog 24 #[.slice A n c, .int .i64 id] w fun e w' => e = .returned (.int .i64 (dayN l id).1) ∧ ∃ q, w' = w.drewN q := by
  have HL := Lib.hid h.1
  have HR := Lib.hid h
  clear h
  go_enter Try.func24, Try.ntmps24
  go_wp2_with fail
  go_loopw [5, 6, 7] (fun dd nn i wx => ∃ (k : Nat) (st : Int × Int) (q : Nat), k ≤ n ∧ Hid (dayN (l.take k) id = st) ∧ dd = .int .i64 st.1 ∧ nn = .int .i64 st.2 ∧ i = .int .i64 k ∧ Hid (wx = w.drewN q)) (fun _ _ i _ => n - (intOf i).toNat)
  case atStart => exact ⟨0, (-1, 0), 0, Nat.zero_le _, rfl, rfl, rfl, rfl, rfl⟩
  case round =>
    obtain ⟨k, ⟨s1, s2⟩, q, hk, HST, rfl, rfl, rfl, HWQ⟩ := hrel
    have HRq : Recs encF 5 wr A n l := by rw [HWQ.out]; exact HR.out.drewN q
    by_cases hlt : k < n
    · obtain ⟨b, off, x, hA, hbl, c0, c1, c2, c3, c4, HX⟩ := HRq.getF hlt
      subst hA
      have hki : (k : Int) < n := by omega
      have HNX : Hid (dayN (l.take (k + 1)) id = dayStep id (s1, s2) x) := by
        show _ = _
        rw [take_succ_get l k (by have := HL.out; omega), dayN_snoc, HST.out, HX.out]
      by_cases g1 : x.kind = 1
      · have b1 : (x.kind == 1) = true := by simpa using g1
        by_cases g2 : x.id = id
        · have b2 : (x.id == id) = true := by simpa using g2
          by_cases g3 : s1 < 0
          · have b3 : decide (s1 < 0) = true := by simpa using g3
            have HN2 : Hid (dayN (l.take (k + 1)) id = (x.day, x.num)) := by show _ = _; rw [HNX.out]; unfold dayStep; rw [if_pos ⟨g1, g2, .inl g3⟩]
            clear g1 g2 g3
            go_upto_region 6 with (fail)
            go_quiet (fail)
            go_wp2_with fail
            go_roundw
            case rel => exact ⟨k + 1, _, _, by omega, HN2, rfl, rfl, by go_num, drewN_add HWQ.out nq⟩
            case measure => simp [intOf]; omega
          · have b3 : decide (s1 < 0) = false := by simpa using g3
            by_cases g4 : x.num < s2
            · have b4 : decide (x.num < s2) = true := by simpa using g4
              have HN2 : Hid (dayN (l.take (k + 1)) id = (x.day, x.num)) := by show _ = _; rw [HNX.out]; unfold dayStep; rw [if_pos ⟨g1, g2, .inr g4⟩]
              clear g1 g2 g3 g4
              go_upto_region 6 with (fail)
              go_quiet (fail)
              go_wp2_with fail
              go_roundw
              case rel => exact ⟨k + 1, _, _, by omega, HN2, rfl, rfl, by go_num, drewN_add HWQ.out nq⟩
              case measure => simp [intOf]; omega
            · have b4 : decide (x.num < s2) = false := by simpa using g4
              have HN2 : Hid (dayN (l.take (k + 1)) id = (s1, s2)) := by show _ = _; rw [HNX.out]; unfold dayStep; rw [if_neg (fun h => h.2.2.elim g3 g4)]
              clear g1 g2 g3 g4
              go_wp2_with fail
              go_roundw
              case rel => exact ⟨k + 1, _, q, by omega, HN2, rfl, rfl, by go_num, HWQ⟩
              case measure => simp [intOf]; omega
        · have b2 : (x.id == id) = false := by simpa using g2
          have HN2 : Hid (dayN (l.take (k + 1)) id = (s1, s2)) := by show _ = _; rw [HNX.out]; unfold dayStep; rw [if_neg (fun h => g2 h.2.1)]
          clear g1 g2
          go_wp2_with fail
          go_roundw
          case rel => exact ⟨k + 1, _, q, by omega, HN2, rfl, rfl, by go_num, HWQ⟩
          case measure => simp [intOf]; omega
      · have b1 : (x.kind == 1) = false := by simpa using g1
        have HN2 : Hid (dayN (l.take (k + 1)) id = (s1, s2)) := by show _ = _; rw [HNX.out]; unfold dayStep; rw [if_neg (fun h => g1 h.1)]
        clear g1
        go_wp2_with fail
        go_roundw
        case rel => exact ⟨k + 1, _, q, by omega, HN2, rfl, rfl, by go_num, HWQ⟩
        case measure => simp [intOf]; omega
    · obtain rfl : n = k := by omega
      rw [List.take_of_length_le (by have := HL.out; omega)] at HST
      clear hlt
      go_wp2
      go_ret
      exact ⟨by rw [HST.out]; rfl, q, HWQ.out⟩
theorem dayOf_quiet (A : Option Addr) (n c : Nat) (l : List Fct) (id : Int) (w : World) (j : Nat) (h : Recs encF 5 w A n l) (hn : n ≤ 1000) :
    Calls Try.prog 24 #[.slice A n c, .int .i64 id] (w.drewN j) fun e w' => e = .returned (.int .i64 (dayN l id).1) ∧ ∃ m, w' = w.drewN m :=
  (dayOf_any A n c l id (w.drewN j) (h.drewN j) hn).mono fun e w' ⟨h1, q, h2⟩ => ⟨h1, j + q, by rw [h2]; exact drewN_add rfl q⟩
theorem runD_mem (T : Int → Int) : ∀ (m : Nat) (rs : List Rq) (b : Int), ∀ g ∈ (runD T m rs b).1, ∃ r ∈ rs, g.day = r.day ∧ g.id = r.id := by
  intro m
  induction m with
  | zero => intro rs b g hg; cases hg
  | succ m ih =>
    intro rs b g hg
    cases rs with
    | nil => rw [runD_nil] at hg; cases hg
    | cons r rs =>
      rw [runD] at hg
      rcases List.mem_append.1 hg with h | h
      · obtain ⟨k, hk, rfl⟩ := grantL_day h
        exact ⟨_, (List.takeWhile_sublist _).subset (getB_mem hk), rfl, rfl⟩
      · obtain ⟨s, hs, e⟩ := ih _ _ g h
        exact ⟨s, (List.dropWhile_sublist _).subset hs, e⟩
theorem Settled.asked {fs : List Fct} {vol : Int} {gs : List Rq} {bal : Int} (h : Settled fs vol gs bal) {g : Rq} (hg : g ∈ gs) : ∃ f, askOf fs g.id = some f ∧ g.day = f.day := by
  obtain ⟨rs, h1, h2, h3, h4⟩ := settled_list.1 h
  obtain ⟨r, hr, e1, e2⟩ := runD_mem _ _ _ _ g (h2.mem_iff.1 hg)
  have h5 := (h1.mem r.id).1 ⟨r, hr, rfl⟩
  have h6 := h1.val r hr
  cases e : askOf fs r.id
  · rw [e] at h5; cases h5
  · rename_i f
    refine ⟨f, by rw [e2]; exact e, ?_⟩
    rw [e1, congrArg Rq.day h6]
    unfold rqOf
    rw [e]
theorem Settled.dayN {fs l : List Fct} {vol : Int} {gs : List Rq} {bal : Int} (h : Settled fs vol gs bal) (hp : fs.Perm l) (ha : numAsc fs) (hd : ∀ y ∈ l, y.kind = 1 → 0 ≤ y.day) {g : Rq} (hg : g ∈ gs) : (Go.Proofs.Ytemhiifgplaldaa.dayN l g.id).1 = g.day := by
  obtain ⟨f, h1, h2⟩ := h.asked hg
  rw [h2]
  exact dayN_ask hp (numAsc_pair.1 ha) hd h1
theorem dayGr_take (gs : List Rq) (D : Int) (k : Nat) (h : k < gs.length) : dayGr (gs.take (k + 1)) D = dayGr (gs.take k) D + if gs[k]!.day = D then gs[k]!.grant else 0 := by
  rw [List.take_succ_eq_append_getElem h, dayGr_append, getElem!_pos gs k h]
  generalize gs[k] = x
  unfold dayGr
  by_cases e : x.day = D <;> simp [e]
theorem dayGr_bounds {gs : List Rq} (h : ∀ g ∈ gs, 0 ≤ g.grant ∧ g.grant ≤ 1000000000) (hl : gs.length ≤ 200) (D : Int) (k : Nat) (hk : k ≤ gs.length) : 0 ≤ dayGr (gs.take k) D ∧ dayGr (gs.take k) D ≤ (k : Int) * 1000000000 := by
  induction k with
  | zero => simp [dayGr]
  | succ k ih =>
    have h1 := ih (by omega)
    have h2 := h gs[k]! (getB_mem (by omega))
    rw [dayGr_take gs D k (by omega)]
    split <;> omega
theorem find_own {gs : List Rq} (h : ∀ i j, i < j → j < gs.length → gs[i]!.id < gs[j]!.id) {k : Nat} (hk : k < gs.length) : gs.find? (fun g => g.id == gs[k]!.id) = some gs[k]! :=
  find_first hk (fun i hi e => by have := h i k hi hk; omega) rfl
theorem Settled.asc {fs : List Fct} {vol : Int} {gs : List Rq} {bal : Int} (h : Settled fs vol gs bal) : ∀ i j, i < j → j < gs.length → gs[i]!.id < gs[j]!.id := by
  obtain ⟨rs, F, h1, h2, h3, h4, h5⟩ := h
  exact h4
end Go.Proofs.Ytemhiifgplaldaa

/-
  The settlement as a function of lists: day after day. No statement of the seat is proved here.
  The book of the sanity check of chapter 37: one request. No statement of the seat is proved here. No conditions.
  What is kept of the central authority from message to message. No statement of the seat is proved here. No conditions.
  The contracts of slices.Insert (one element) and slices.Clone at Receipt. No statement of the seat is proved here. Conditions: at most 1000 elements.
  Contracts of cmp.Or at ints and central.byNumber: they return an integer. No statement of the seat is proved here. Conditions: the slice reads as integers.
  The contract of central.byNumber: it returns an integer. No statement of the seat is proved here. No conditions.
  The contract of slices.BinarySearchFunc at receipts: a place in the list. No statement of the seat is proved here. Conditions: at most 1000000 receipts.
  The contract of the deferred closure of central.handle. No statement of the seat is proved here. Conditions: rows of the call's own, boxes known.
-/
import Derived.Test.YtdbcbbiplkikcaaGreatNAJ
import Derived.Test.YtdbcbbiplkikcaaGreatNAK
import Derived.Test.YtdbcbbiplkikcaaGreatNAO
import Derived.Test.YtdbcbbiplkikcaaGreatNAP
import Derived.Test.YtdbcbbiplkikcaaGreatNAL
import Derived.Deep.RegionHeld3
import Derived.StillTailTactics
import Derived.Defers
namespace Go.Proofs.YtdbcbbiplkikcaaGreat
set_option linter.unusedVariables false

def prs (blk : List Rq) : List (Int × Int) := blk.map fun r => (r.id, r.req)
def grantL (t : Int) (blk : List Rq) : List Rq := (List.range blk.length).map fun k => { blk[k]! with avail := t, asked := (qsOf (prs blk)).sum, grant := grantV t (prs blk) k }
def runD (T : Int → Int) : Nat → List Rq → Int → List Rq × Int
  | 0, _, b => ([], b)
  | _ + 1, [], b => ([], b)
  | m + 1, r :: rs, b =>
    let R := runD T m ((r :: rs).dropWhile fun x => x.day == r.day) (max (b + T r.day - (qsOf (prs ((r :: rs).takeWhile fun x => x.day == r.day))).sum) 0 - T r.day)
    (grantL (b + T r.day) ((r :: rs).takeWhile fun x => x.day == r.day) ++ R.1, R.2)
theorem runD_nil (T : Int → Int) (m : Nat) (b : Int) : runD T m [] b = ([], b) := by cases m <;> rfl
theorem runD_step (T : Int → Int) (m : Nat) {rs blk rest : List Rq} {D b : Int} (hb : blk ≠ []) (e : rs = blk ++ rest) (h1 : ∀ x ∈ blk, x.day = D) (h2 : ∀ r ∈ rest.head?, r.day ≠ D) : runD T (m + 1) rs b = (grantL (b + T D) blk ++ (runD T m rest (max (b + T D - (qsOf (prs blk)).sum) 0 - T D)).1, (runD T m rest (max (b + T D - (qsOf (prs blk)).sum) 0 - T D)).2) := by
  cases blk with
  | nil => exact absurd rfl hb
  | cons r bs =>
    have hr : r.day = D := h1 r (List.mem_cons_self ..)
    have ha : ∀ x ∈ r :: bs, (x.day == D) = true := fun x hx => by simpa using h1 x hx
    have ht : rs.takeWhile (fun x => x.day == D) = r :: bs := by
      rw [e, List.takeWhile_append_of_pos ha]
      cases rest with
      | nil => simp
      | cons s ss =>
        have : (s.day == D) = false := by simpa using h2 s rfl
        rw [List.takeWhile_cons_of_neg (by simp [this])]; simp
    have hd : rs.dropWhile (fun x => x.day == D) = rest := by
      rw [e, List.dropWhile_append_of_pos ha]
      cases rest with
      | nil => simp
      | cons s ss =>
        have : (s.day == D) = false := by simpa using h2 s rfl
        rw [List.dropWhile_cons_of_neg (by simp [this])]
    have e2 : rs = r :: (bs ++ rest) := by rw [e]; rfl
    rw [e2, runD, hr, ← e2, ht, hd]
def rowL (f : Nat → Rq) (i n : Nat) : List Rq := (List.range (n - i)).map fun k => f (i + k)
theorem rowL_len (f : Nat → Rq) (i n : Nat) : (rowL f i n).length = n - i := by simp [rowL]
theorem rowL_get (f : Nat → Rq) (i n k : Nat) (h : k < n - i) : (rowL f i n)[k]! = f (i + k) := by
  rw [getElem!_pos _ k (by rw [rowL_len]; exact h)]
  simp [rowL]
theorem rowL_split (f : Nat → Rq) {i e n : Nat} (h1 : i ≤ e) (h2 : e ≤ n) : rowL f i n = rowL f i e ++ rowL f e n := by
  unfold rowL
  rw [show n - i = (e - i) + (n - e) by omega, List.range_add, List.map_append, List.map_map]
  congr 1
  refine List.map_congr_left fun k _ => ?_
  show f (i + (e - i + k)) = f (e + k)
  rw [show i + (e - i + k) = e + k by omega]
theorem rowL_congr {f g : Nat → Rq} {i n : Nat} (h : ∀ k, i ≤ k → k < n → f k = g k) : rowL f i n = rowL g i n :=
  List.map_congr_left fun k hk => h _ (by omega) (by have := List.mem_range.1 hk; omega)
theorem prs_row (f : Nat → Rq) (i e : Nat) : prs (rowL f i e) = dayReqs f i (e - i) := by simp [prs, rowL, dayReqs]
theorem runS_before (T : Int → Int) (n : Nat) : ∀ (m i : Nat) (tp a : Int) (f : Nat → Rq), i ≤ n → ∀ j, j < i → (runS T n m i tp a f).1 j = f j := by
  intro m
  induction m with
  | zero => intro i tp a f _ j _; rfl
  | succ m ih =>
    intro i tp a f hn j hj
    by_cases hi : i < n
    · rw [runS_step hi rfl rfl]
      have h1 := endAt_ge f (f i).day n n i
      have h2 := endAt_le f (f i).day n n i hn
      rw [ih _ _ _ _ h2 j (by omega)]
      unfold grantedF
      rw [if_neg (by omega)]
    · rw [runS_end hi]
theorem runS_runD (T : Int → Int) (n : Nat) : ∀ (m i : Nat) (tp a : Int) (f : Nat → Rq), n ≤ i + m → i ≤ n → runD T m (rowL f i n) (a - tp) = (rowL (runS T n m i tp a f).1 i n, (runS T n m i tp a f).2.2 - (runS T n m i tp a f).2.1) := by
  intro m
  induction m with
  | zero =>
    intro i tp a f h1 h2
    obtain rfl : i = n := by omega
    simp [runD, runS, rowL]
  | succ m ih =>
    intro i tp a f h1 h2
    by_cases hi : i < n
    · obtain ⟨D, hD⟩ : ∃ D, (f i).day = D := ⟨_, rfl⟩
      obtain ⟨e, he⟩ : ∃ e, endAt f D n n i = e := ⟨_, rfl⟩
      have hei : i + 1 ≤ e := by
        rw [← he]
        cases n with
        | zero => omega
        | succ n' => rw [endAt_step hi hD]; exact endAt_ge _ _ _ _ _
      have hen : e ≤ n := by rw [← he]; exact endAt_le _ _ _ _ _ h2
      rw [runS_step hi hD he]
      obtain ⟨f1, hf1⟩ : ∃ f1, grantedF f i (e - i) (a + (T D - tp)) (e - i) = f1 := ⟨_, rfl⟩
      have hrest : rowL f e n = rowL f1 e n := rowL_congr fun k k1 k2 => by rw [← hf1]; unfold grantedF; rw [if_neg (by omega)]
      rw [hf1]
      have hst := runD_step T m (rs := rowL f i n) (blk := rowL f i e) (rest := rowL f e n) (D := D) (b := a - tp) (fun h => by have := congrArg List.length h; rw [rowL_len] at this; simp at this; omega) (rowL_split f (by omega) hen)
        (fun x hx => by
          obtain ⟨k, hk, rfl⟩ := List.mem_map.1 hx
          have := List.mem_range.1 hk
          exact endAt_in f D n n i _ (by omega) (by rw [he]; omega))
        (fun r hr => by
          by_cases hlt : e < n
          · rw [rowL_split f (show e ≤ e + 1 by omega) (show e + 1 ≤ n by omega)] at hr
            simp [rowL] at hr
            have := endAt_stop f D n n i (by omega) h2 (by rw [he]; exact hlt)
            rw [he] at this
            rw [← hr]; exact this
          · unfold rowL at hr
            rw [show n - e = 0 by omega] at hr
            simp at hr)
      rw [show a - tp + T D = a + (T D - tp) by omega] at hst
      rw [hst, hrest, prs_row, ih e _ _ f1 (by omega) hen]
      refine Prod.ext ?_ rfl
      show _ ++ _ = _
      rw [rowL_split _ (show i ≤ e by omega) hen]
      congr 1
      unfold grantL
      rw [rowL_len, prs_row]
      show _ = List.map _ _
      refine List.map_congr_left fun k hk => ?_
      have hk' := List.mem_range.1 hk
      rw [runS_before T n m e _ _ f1 hen (i + k) (by omega), rowL_get f i e k hk', ← hf1]
      unfold grantedF
      rw [if_pos (by omega), Nat.add_sub_cancel_left]
    · obtain rfl : i = n := by omega
      rw [runS_end (by omega)]
      simp [rowL, runD_nil]
theorem settled_list {fs : List Fct} {vol : Int} {gs : List Rq} {bal : Int} : Settled fs vol gs bal ↔ ∃ rs, ReqList fs rs ∧ gs.Perm (runD (trSum (trOf fs)) rs.length rs vol).1 ∧ (∀ i j, i < j → j < gs.length → gs[i]!.id < gs[j]!.id) ∧ bal = (runD (trSum (trOf fs)) rs.length rs vol).2 + trAll (trOf fs) := by
  have key : ∀ rs : List Rq, runD (trSum (trOf fs)) rs.length rs vol = ((List.range rs.length).map (runS (trSum (trOf fs)) rs.length rs.length 0 0 vol (fun i => rs[i]!)).1, (runS (trSum (trOf fs)) rs.length rs.length 0 0 vol (fun i => rs[i]!)).2.2 - (runS (trSum (trOf fs)) rs.length rs.length 0 0 vol (fun i => rs[i]!)).2.1) := fun rs => by
    have h := runS_runD (trSum (trOf fs)) rs.length rs.length 0 0 vol (fun i => rs[i]!) (by omega) (by omega)
    have e : rowL (fun i => rs[i]!) 0 rs.length = rs := by
      apply List.ext_getElem
      · simp [rowL]
      · intro i h1 h2
        have := getElem!_pos rs i h2
        simp only [rowL, List.getElem_map, List.getElem_range, Nat.zero_add]
        exact this
    rw [e, Int.sub_zero] at h
    rw [h]
    simp [rowL]
  constructor
  · rintro ⟨rs, F, h1, rfl, h3, h4, h5⟩
    exact ⟨rs, h1, by rw [key]; exact h3, h4, by rw [key, h5]; show _ = _ - _ + _; omega⟩
  · rintro ⟨rs, h1, h3, h4, h5⟩
    rw [key] at h3 h5
    exact ⟨rs, _, h1, rfl, h3, h4, by rw [h5]; show _ - _ + _ = _; omega⟩
end Go.Proofs.YtdbcbbiplkikcaaGreat

namespace Go.Proofs.YtdbcbbiplkikcaaGreat
open Go.RowKit
set_option linter.unusedVariables false

def qAw : Qt := ⟨1, 10, 0, 9⟩
def fAw : Fct := ⟨1000001, 1, 2, 10001, 6⟩
theorem reqList_mkA {fs : List Fct} {rs : List Rq} (h1 : (rs.map (·.id)).Nodup) (h2 : ∀ id : Int, (∃ r ∈ rs, r.id = id) ↔ (askOf fs id).isSome = true) (h3 : ∀ r ∈ rs, r = rqOf fs r.id) (h4 : rs.Pairwise (fun a b => a.day < b.day ∨ (a.day = b.day ∧ a.id < b.id))) : ReqList fs rs := ⟨h1, h2, h3, fun i j hij hj => by
  have := List.pairwise_iff_getElem.1 h4 i j (by omega) hj hij
  rwa [getElem!_pos rs i (by omega), getElem!_pos rs j hj]⟩
theorem ids_of_pairA {gs : List Rq} (h : gs.Pairwise (fun a b => a.id < b.id)) : ∀ i j, i < j → j < gs.length → gs[i]!.id < gs[j]!.id := fun i j hij hj => by
  have := List.pairwise_iff_getElem.1 h i j (by omega) hj hij
  rwa [getElem!_pos gs i (by omega), getElem!_pos gs j hj]
theorem settledA0 : Settled [] 10 [] 10 := by
  rw [settled_list]
  refine ⟨[], reqList_mkA (by decide) (fun id => ?_) (by decide) (by decide), ?_, ids_of_pairA (by decide), by decide⟩
  · simp [askOf]
  · rw [show (runD (trSum (trOf [])) ([] : List Rq).length [] 10).1 = [] by decide]
theorem settledA1 : Settled [fAw] 10 [⟨10001, 2, 10, 6, 6, 6⟩] 4 := by
  rw [settled_list]
  refine ⟨[⟨10001, 2, 0, 0, 6, 0⟩], reqList_mkA (by decide) (fun id => ?_) (by decide) (by decide), ?_, ids_of_pairA (by decide), by decide⟩
  · simp [askOf, fAw]
  · rw [show (runD (trSum (trOf [fAw])) [(⟨10001, 2, 0, 0, 6, 0⟩ : Rq)].length [⟨10001, 2, 0, 0, 6, 0⟩] 10).1 = [⟨10001, 2, 10, 6, 6, 6⟩] by decide]
theorem chgsA : chgs [] [⟨10001, 2, 10, 6, 6, 6⟩] = [⟨10001, 0, 6⟩] := by decide
theorem chgsAw {ga gb : List Rq} {ba bb : Int} (h : Settled [] 10 ga ba) (h' : Settled [fAw] 10 gb bb) : chgs ga gb = [⟨10001, 0, 6⟩] := by
  obtain ⟨rfl, _⟩ := h.unique settledA0
  obtain ⟨rfl, _⟩ := h'.unique settledA1
  exact chgsA
end Go.Proofs.YtdbcbbiplkikcaaGreat

namespace Go.Proofs.YtdbcbbiplkikcaaGreat
open Go.RowKit
set_option linter.unusedVariables false

structure CInv (k : Nat) (C : Cen) : Prop where
  seen : C.seen.length ≤ k
  sent : C.sent.length ≤ 201 * k
  cov : C.cov.length ≤ k
  asc : uAsc C.cov
  nq : C.qs.length ≤ 16
  ng : C.gs.length ≤ 16
  books : ∀ b ∈ C.qs, BOk b.q b.fs ∧ b.fs.length ≤ k
  guars : ∀ g ∈ C.gs, GOk g.h g.us
theorem CInv.same {k : Nat} {C C' : Cen} (h : CInv k C) (hs : SameC C C') : CInv k C' := by
  refine ⟨by rw [hs.seen]; exact h.seen, by rw [hs.sent]; exact h.sent, by rw [hs.cov]; exact h.cov, by rw [hs.cov]; exact h.asc, ?_, ?_, fun b hb => ?_, fun g hg => ?_⟩
  · have := congrArg List.length hs.qs; simp at this; rw [this]; exact h.nq
  · have := congrArg List.length hs.gs; simp at this; rw [this]; exact h.ng
  · have h1 : (b.q, b.fs) ∈ C'.qs.map (fun b => (b.q, b.fs)) := List.mem_map.2 ⟨b, hb, rfl⟩
    rw [hs.qs] at h1
    obtain ⟨x, hx, e⟩ := List.mem_map.1 h1
    injection e with e1 e2
    rw [← e1, ← e2]
    exact h.books x hx
  · have h1 : (g.h, g.us) ∈ C'.gs.map (fun b => (b.h, b.us)) := List.mem_map.2 ⟨g, hg, rfl⟩
    rw [hs.gs] at h1
    obtain ⟨x, hx, e⟩ := List.mem_map.1 h1
    injection e with e1 e2
    rw [← e1, ← e2]
    exact h.guars x hx
theorem CInv.mono {k l : Nat} {C : Cen} (h : CInv k C) (hl : k ≤ l) : CInv l C :=
  ⟨Nat.le_trans h.seen hl, by have := h.sent; omega, Nat.le_trans h.cov hl, h.asc, h.nq, h.ng, fun b hb => ⟨(h.books b hb).1, Nat.le_trans (h.books b hb).2 hl⟩, h.guars⟩
theorem mem_set_or {α : Type} {xs : List α} {i : Nat} {y z : α} (h : z ∈ xs.set i y) : z = y ∨ z ∈ xs := by
  rcases List.mem_or_eq_of_mem_set h with h | h
  · exact .inr h
  · exact .inl h
theorem CInv.fact {k : Nat} {C : Cen} (h : CInv k C) (hk : k ≤ 100) {I : Nat} {b : Qb} {ss : List Snt} (hb : BOk b.q b.fs) (hl : b.fs.length ≤ k + 1) (hs : ss.length ≤ k + 1) : CInv (k + 1) { C with qs := C.qs.set I b, sent := C.sent ++ ss } :=
  ⟨Nat.le_succ_of_le h.seen, by have := h.sent; simp; omega, Nat.le_succ_of_le h.cov, h.asc, by simpa using h.nq, h.ng, fun x hx => by
    rcases mem_set_or hx with rfl | hx
    · exact ⟨hb, hl⟩
    · exact ⟨(h.books x hx).1, Nat.le_succ_of_le (h.books x hx).2⟩, h.guars⟩
def Hd.own (h : Hd) : Option Nat := (Value.slice h.A h.n h.c).ownBlock
def RowsFix (w w' : World) (H : Hds) : Prop := ∀ b, b < w.heap.size → some b ≠ H.q.own → some b ≠ H.g.own → some b ≠ H.k.own → some b ≠ H.m.own → w'.heap[b]? = w.heap[b]?
theorem RowsFix.of_below {w w' : World} {H : Hds} (h : RowKit.Below w.heap.size w w') : RowsFix w w' H := fun b hb _ _ _ _ => h.block b hb
def AwEx (C : Cen) (m : Mg) (er : Int) (C' : Cen) : Prop := ∀ b, C.qs = [b] → b.q = qAw → b.fs = [] → C.sent = [] → m.kind = 50 → m.frm = 1 → m.num = 1 → m.day = 2 → m.lot = 10001 → m.oth = 1 → m.qty = 6 → m.amt = 1 → er = 0 ∧ ∃ s, C'.sent = [s] ∧ s.kind = 30 ∧ s.dst = 1 ∧ s.lot = 10001 ∧ s.qty = 6
def ActRes (N : Nat) (w : World) (H : Hds) (C : Cen) (m : Mg) (k : Nat) (e : Ending) (w' : World) : Prop :=
  ∃ (H' : Hds) (C' : Cen) (er : Int), e = .returned (.tuple #[.agg #[.slice H'.s.A H'.s.n H'.s.c, .slice H'.q.A H'.q.n H'.q.c, .slice H'.g.A H'.g.n H'.g.c, .slice H'.k.A H'.k.n H'.k.c, .slice H'.m.A H'.m.n H'.m.c], .int .i64 er]) ∧ CenO N w' H' C' ∧ CovApart H' C' ∧ CInv (k + 1) C' ∧ H'.s = H.s ∧ C'.seen = C.seen ∧ RowsFix w w' H ∧ RowKit.Below N w w' ∧ AwEx C m er C'
theorem ActRes.same {N : Nat} {w w' : World} {H : Hds} {C : Cen} {m : Mg} {k : Nat} {er : Int} (hO : CenO N w' H C) (ha : CovApart H C) (hI : CInv k C) (hf : RowsFix w w' H) (hb : RowKit.Below N w w') (hx : AwEx C m er C) : ActRes N w H C m k (.returned (.tuple #[.agg #[.slice H.s.A H.s.n H.s.c, .slice H.q.A H.q.n H.q.c, .slice H.g.A H.g.n H.g.c, .slice H.k.A H.k.n H.k.c, .slice H.m.A H.m.n H.m.c], .int .i64 er])) w' :=
  ⟨H, C, er, rfl, hO, ha, hI.mono (Nat.le_succ k), rfl, rfl, hf, hb, hx⟩
theorem AwEx.noId {C C' : Cen} {m : Mg} {er : Int} {n : Nat} (hl : C.qs.length = n) (h : ∀ j, j < n → C.qs[j]!.q.id ≠ m.oth) : AwEx C m er C' := by
  intro b hq hb _ _ _ _ _ _ _ ho _ _
  exfalso
  rw [hq] at hl h
  exact h 0 (by rw [← hl]; exact Nat.one_pos) (by rw [ho]; show b.q.id = 1; rw [hb]; rfl)
theorem AwEx.amt {C C' : Cen} {m : Mg} {er : Int} (h : m.amt < 1 ∨ 3 < m.amt) : AwEx C m er C' := by
  intro b hq hb _ _ _ _ _ _ _ ho _ ha
  omega
theorem AwEx.per {C C' : Cen} {m : Mg} {er : Int} (h : m.lot / 10000 ≠ m.frm) : AwEx C m er C' := by
  intro b hq hb _ _ _ hf _ _ hl ho _ ha
  rw [hl, hf] at h
  exact absurd rfl h
theorem AwEx.kind {C C' : Cen} {m : Mg} {er : Int} (h : m.kind ≠ 50) : AwEx C m er C' := fun _ _ _ _ _ hk => absurd hk h
theorem fAw_ok : fErr qAw fAw = 0 := by decide
theorem AwEx.bad {C C' : Cen} {m : Mg} {er : Int} {I : Nat} {b : Qb} (hI : I < C.qs.length) (hb : C.qs[I]! = b) (h : fErr b.q ⟨1000000 * m.frm + m.num, m.amt, m.day, m.lot, m.qty⟩ = 0 → b.fs ≠ []) : AwEx C m er C' := by
  intro b' hq hb' hf _ _ h1 h2 h3 h4 _ h6 h7
  exfalso
  rw [hq] at hI hb
  obtain rfl : I = 0 := by simpa using hI
  obtain rfl : b' = b := hb
  rw [hb', h1, h2, h3, h4, h6, h7] at h
  exact h fAw_ok hf
def sKey (s : Snt) : Int × Int × Int × Int := (s.kind, s.dst, s.lot, s.qty)
def cKey (x : Cg) : Int × Int × Int × Int := (30, x.id / 10000, x.id, x.after)
theorem AwEx.good {C C' : Cen} {m : Mg} {I : Nat} {b : Qb} {fs' : List Fct} {cs : List Cg} {ss : List Snt} (hI : I < C.qs.length) (hb : C.qs[I]! = b) (h : ApOk b.q b.fs ⟨1000000 * m.frm + m.num, m.amt, m.day, m.lot, m.qty⟩ fs' cs) (hs : C'.sent = C.sent ++ ss) (hk : ss.map sKey = cs.map cKey) : AwEx C m 0 C' := by
  intro b' hq hb' hf hse _ h1 h2 h3 h4 _ h6 h7
  rw [hq] at hI hb
  obtain rfl : I = 0 := by simpa using hI
  obtain rfl : b' = b := hb
  obtain ⟨_, ga, gb, ba, bb, s0, s1, e⟩ := h.first hf
  rw [h1, h2, h3, h4, h6, h7, hb'] at s1
  rw [hb'] at s0
  rw [chgsAw s0 s1] at e
  rw [e] at hk
  refine ⟨rfl, ?_⟩
  cases ss with
  | nil => cases hk
  | cons s t =>
    cases t with
    | cons y t => simp at hk
    | nil =>
    simp only [List.map_cons, List.map_nil, List.cons.injEq, and_true, sKey, cKey, Prod.mk.injEq] at hk
    exact ⟨s, by rw [hs, hse]; rfl, hk.1, hk.2.1, hk.2.2.1, hk.2.2.2⟩
theorem own_setK2 {α : Type} [Inhabited α] {enc : α → List Value} {k : Nat} (hk : ∀ x, (enc x).length = k) {w : World} {N : Nat} {T : TypeId} {g n cap : Nat} {xs : List α} {v : Value} {y y0 : α} {c i : Nat} (h : w.ownsRow N T k (.slice (some ⟨g, 0, none⟩) n cap) n (flat enc (xs.set i y0))) (hc : c < k) (hi : i < xs.length) (e : enc y = (enc y0).set c v) :
    (w.setCell ⟨g, i * k + c, none⟩ v).ownsRow N T k (.slice (some ⟨g, 0, none⟩) n cap) n (flat enc (xs.set i y)) := by
  have h1 := own_setK (y := y) hk h hc (by simpa using hi) (by rw [get_setK xs i i y0 hi, if_pos rfl]; exact e)
  rwa [List.set_set] at h1
theorem set_selfK {α : Type} [Inhabited α] {xs : List α} {i : Nat} (hi : i < xs.length) : xs.set i xs[i]! = xs := by rw [getElem!_pos xs i hi]; exact List.set_getElem_self hi
theorem heap_set5o {w : World} {r b o : Nat} (hb : b ≠ r) (v0 v1 v2 v3 v4 : Value) : (((((w.setCell ⟨r, o, none⟩ v0).setCell ⟨r, o + 1, none⟩ v1).setCell ⟨r, o + 2, none⟩ v2).setCell ⟨r, o + 3, none⟩ v3).setCell ⟨r, o + 4, none⟩ v4).heap[b]? = w.heap[b]? := ((((Below.heap_setCell _ _ _ b hb).trans (Below.heap_setCell _ _ _ b hb)).trans (Below.heap_setCell _ _ _ b hb)).trans (Below.heap_setCell _ _ _ b hb)).trans (Below.heap_setCell _ _ _ b hb)
theorem heap_set4o {w : World} {r b o : Nat} (hb : b ≠ r) (v0 v1 v2 v3 : Value) : ((((w.setCell ⟨r, o, none⟩ v0).setCell ⟨r, o + 1, none⟩ v1).setCell ⟨r, o + 2, none⟩ v2).setCell ⟨r, o + 3, none⟩ v3).heap[b]? = w.heap[b]? := (((Below.heap_setCell _ _ _ b hb).trans (Below.heap_setCell _ _ _ b hb)).trans (Below.heap_setCell _ _ _ b hb)).trans (Below.heap_setCell _ _ _ b hb)
theorem cenO_book {N : Nat} {w : World} {H : Hds} {C : Cen} {gq I : Nat} {q : Qt} {B : Option Addr} {n' d : Nat} {fs' : List Fct} (h : CenO N w H C) (hA : H.q.A = some ⟨gq, 0, none⟩) (hI : I < C.qs.length) (ho : w.ownsRow N 122 5 (.slice B n' d) n' (flat encF fs')) :
    CenO N (((((w.setCell ⟨gq, I * 5, none⟩ (.int .i64 q.id)).setCell ⟨gq, I * 5 + 1, none⟩ (.int .i64 q.vol)).setCell ⟨gq, I * 5 + 2, none⟩ (.int .i64 q.fr)).setCell ⟨gq, I * 5 + 3, none⟩ (.int .i64 q.tod)).setCell ⟨gq, I * 5 + 4, none⟩ (.slice B n' d)) H { C with qs := C.qs.set I ⟨q, B, n', d, fs'⟩ } := by
  obtain ⟨Hs, ⟨qA, qn, qc⟩, Hg, Hk, Hm⟩ := H
  obtain rfl : qA = some ⟨gq, 0, none⟩ := hA
  have hr := h.qs
  have h0 : w.ownsRow N 54 5 (.slice (some ⟨gq, 0, none⟩) qn qc) qn (flat encB (C.qs.set I C.qs[I]!)) := by rw [set_selfK hI]; exact hr
  generalize C.qs[I]! = b at h0
  have h1 := own_setK2 (c := 0) (y := ⟨⟨q.id, b.q.vol, b.q.fr, b.q.tod⟩, b.A, b.n, b.c, b.fs⟩) (v := .int .i64 q.id) encB_len h0 (by omega) hI rfl
  have h2 := own_setK2 (c := 1) (y := ⟨⟨q.id, q.vol, b.q.fr, b.q.tod⟩, b.A, b.n, b.c, b.fs⟩) (v := .int .i64 q.vol) encB_len h1 (by omega) hI rfl
  have h3 := own_setK2 (c := 2) (y := ⟨⟨q.id, q.vol, q.fr, b.q.tod⟩, b.A, b.n, b.c, b.fs⟩) (v := .int .i64 q.fr) encB_len h2 (by omega) hI rfl
  have h4 := own_setK2 (c := 3) (y := ⟨q, b.A, b.n, b.c, b.fs⟩) (v := .int .i64 q.tod) encB_len h3 (by omega) hI rfl
  have h5 := own_setK2 (c := 4) (y := ⟨q, B, n', d, fs'⟩) (v := .slice B n' d) encB_len h4 (by omega) hI rfl
  refine h.qs' (fun b _ hb => heap_set5o (fun e => hb (by rw [e]; rfl)) _ _ _ _ _) h5 (fun x hx => ?_)
  have hf : ∀ (A : Option Addr) (m e : Nat) (ys : List Value), w.ownsRow N 122 5 (.slice A m e) m ys → (((((w.setCell ⟨gq, I * 5, none⟩ (.int .i64 q.id)).setCell ⟨gq, I * 5 + 1, none⟩ (.int .i64 q.vol)).setCell ⟨gq, I * 5 + 2, none⟩ (.int .i64 q.fr)).setCell ⟨gq, I * 5 + 3, none⟩ (.int .i64 q.tod)).setCell ⟨gq, I * 5 + 4, none⟩ (.slice B n' d)).ownsRow N 122 5 (.slice A m e) m ys := fun A m e ys hh => own_of_block hh fun j hj => heap_set5o (fun e' => own_diff hh hr (by decide) j hj (by rw [e']; rfl)) _ _ _ _ _
  rcases mem_set_or hx with rfl | hx
  · exact hf _ _ _ _ ho
  · exact hf _ _ _ _ (h.facts x hx)
theorem MOk.bounds {m : Mg} (h : MOk m) : (m.kind = 50 ∨ m.kind = 51 ∨ m.kind = 52) ∧ 1 ≤ m.frm ∧ m.frm ≤ 9 ∧ 1 ≤ m.num ∧ m.num ≤ 999999 ∧ 0 ≤ m.day ∧ m.day ≤ 36524 ∧ 0 ≤ m.lot ∧ m.lot ≤ 1000000000 ∧ 0 ≤ m.oth ∧ m.oth ≤ 1000000000 ∧ 0 ≤ m.qty ∧ m.qty ≤ 1000000000 ∧ -1000000000000 ≤ m.amt ∧ m.amt ≤ 1000000000000 := by
  obtain ⟨h1, h2, h3, h4, h5⟩ := h
  unfold mB outB at h1
  simp only [Bool.or_eq_false_iff, decide_eq_false_iff_not] at h1
  omega
end Go.Proofs.YtdbcbbiplkikcaaGreat

namespace Go.Proofs.YtdbcbbiplkikcaaGreat
open Go.RowKit Go.Shelf
set_option linter.unusedVariables false

def InsResR (w : World) (v : Value) (N n : Nat) (fs : List Rcp) (e : Ending) (w' : World) : Prop := ∃ (B : Option Addr) (d : Nat), e = .returned (.slice B (n + 1) d) ∧ w'.ownsRow N 85 3 (.slice B (n + 1) d) (n + 1) (flat encRc fs) ∧ RowKit.Below N w w' ∧ ∀ k, k < w.heap.size → some k ≠ v.ownBlock → w'.heap[k]? = w.heap[k]?

set_option maxRecDepth 100000 in
set_option maxHeartbeats 4000000 in
theorem insert_endR (N : Nat) (B : Option Addr) (n c : Nat) (fs : List Rcp) (f : Rcp) (vb : Nat) (w : World) (ho : w.ownsRow N 85 3 (.slice B n c) n (flat encRc fs)) (hv : Bl w vb 85 (encRc f).toArray) (hn : n ≤ 1000) (hN : N ≤ w.heap.size) :
    Calls Tryz.prog 42 #[.slice B n c, .int .i64 n, .slice (some ⟨vb, 0, none⟩) 1 1] w (InsResR w (.slice B n c) N n (fs ++ [f])) := by
  have HO := Lib.hid ho
  have HR : Hid (Rd w 3 (some ⟨vb, 0, none⟩) 1 (encRc f)) := ⟨rfl, fun _ => ⟨vb, 0, rfl, hv.lt, fun j u hu => by rw [Nat.zero_add, hv.cell]; simpa using hu⟩⟩
  have HM : Hid (n + 1 ≤ maxLen ∧ (n + 1) * 24 ≤ 140737488355328) := ⟨by unfold maxLen; omega, by omega⟩
  have HN := Lib.hid hN
  have HON := Lib.hid (encRc_one f)
  clear ho hv hN
  have hbd := own_boundsF HO.out
  go_enter Tryz.func42, Tryz.ntmps42
  go_wp2_with (at_builtin; refine wpList_append_rd _ rfl (.tmp 23) (.tmp 24) 33 rfl N 85 _ 3 24 Tryz.underlying33 info37R rfl (by decide) (.slice B n c) n (flat encRc fs) rfl HO.out (some ⟨vb, 0, none⟩) 1 1 (encRc f) rfl HR.out HON.out HM.out.1 HM.out.2 HN.out ?_; intro v6 w6 ho6 hg6 _; obtain ⟨B6, d6, rfl⟩ := own_slice ho6)
  all_goals go_ret
  all_goals exact ⟨B6, d6, rfl, by rw [flat_append, flat_one]; exact ho6, (Below.refl N w).grown hg6 HN.out (fun k hk => own_base HO.out k hk), fun k hk hne => hg6.block k hk (fun e => hne (by rw [e]; try (cases B <;> rfl)))⟩
theorem flat_takeR (fs : List Rcp) (i : Nat) (hi : i ≤ fs.length) : flat encRc fs = flat encRc (fs.take i) ++ flat encRc (fs.drop i) := by rw [← flat_append, List.take_append_drop]
theorem flat_oneFR (fs : List Rcp) : ∀ v ∈ flat encRc fs, v.oneCell' = true := fun u hu => by
  obtain ⟨x, _, hx⟩ := List.mem_flatMap.1 hu
  exact encRc_one x u hx

set_option maxRecDepth 100000 in
set_option maxHeartbeats 4000000 in
theorem insert_shiftR (N g n c i : Nat) (fs : List Rcp) (f : Rcp) (vb : Nat) (w : World) (ho : w.ownsRow N 85 3 (.slice (some ⟨g, 0, none⟩) n c) n (flat encRc fs)) (hl : fs.length = n) (hv : Bl w vb 85 (encRc f).toArray) (hvg : vb ≠ g) (hi : i < n) (hc : n + 1 ≤ c) (hn : n ≤ 1000) (hN : N ≤ w.heap.size) :
    Calls Tryz.prog 42 #[.slice (some ⟨g, 0, none⟩) n c, .int .i64 i, .slice (some ⟨vb, 0, none⟩) 1 1] w (InsResR w (.slice (some ⟨g, 0, none⟩) n c) N n (fs.take i ++ f :: fs.drop i)) := by
  obtain ⟨cur, hNg, hcur, hcs, hct⟩ : ∃ cur : List Value, N ≤ g ∧ w.heap[g]? = some (.cells cur.toArray 85 (0, 0)) ∧ cur.length = c * 3 ∧ cur.take (n * 3) = flat encRc fs := by
    rcases ho.2 with ⟨hv, h0⟩ | ⟨g', cap, cur, hv, h1, h2, _, _, h3, h4⟩
    · cases hv
    · injection hv with h5 _ h6
      injection h5 with h5
      injection h5 with h5
      subst h5 h6
      exact ⟨cur.toList, h1, by simpa using h2, by simpa using h3, h4⟩
  have hbd := own_boundsF ho
  have hov : ∀ lb cb, (callFunc 72 #[.slice (some ⟨vb, 0, none⟩) 1 1, .slice (some ⟨g, (i + 1) * 3, none⟩) lb cb]).run Tryz.prog w = .ok (.value (.bool false)) w := fun lb cb => by
    rw [run_callFunc_extern Tryz.func72 (by kernel_rfl) (by kernel_rfl) (by kernel_rfl) (e := Extern.SlicesOverlaps.overlaps #[33, 33] #[4]) (by kernel_rfl),
      Lib.run_overlaps_apart w 33 4 85 Tryz.underlying33 3 Tryz.sizeOf85 ⟨vb, 0, none⟩ ⟨g, (i + 1) * 3, none⟩ 1 1 lb cb hvg 85 85 3 (c * 3) (by rw [World.shape?, show w.heap[vb]? = _ from hv]; rfl) (by simp [World.shape?, hcur, hcs]) (by omega) (hv.free _) (hv.free _)]
    rfl
  obtain ⟨X, hX⟩ : ∃ X, X = flat encRc (fs.take i) := ⟨_, rfl⟩
  obtain ⟨Y, hY⟩ : ∃ Y, Y = flat encRc (fs.drop i) := ⟨_, rfl⟩
  obtain ⟨F, hF⟩ : ∃ F, F = encRc f := ⟨_, rfl⟩
  have hXl : X.length = i * 3 := by rw [hX, flat_length encRc_len, List.length_take]; omega
  have hYl : Y.length = (n - i) * 3 := by rw [hY, flat_length encRc_len, List.length_drop, hl]
  have hFl : F.length = 3 := by rw [hF]; rfl
  rw [flat_takeR fs i (by omega), ← hX, ← hY] at hct
  have hY1 : ∀ v ∈ Y, v.oneCell' = true := by rw [hY]; exact flat_oneFR _
  have hF1 : ∀ v ∈ F, v.oneCell' = true := by rw [hF]; exact encRc_one f
  have HSY : Hid (∀ j v, Y[j]? = some v → w.cell? ((⟨g, i * 3, none⟩ : Addr).add j) = some v) := by
    intro j v hj
    rw [Addr.add_lit, cell_of_row w g _ cur.toArray _ (0, 0) hcur]
    have h1 : (X ++ Y)[i * 3 + j]? = some v := by rw [List.getElem?_append_right (by omega), hXl]; rw [show i * 3 + j - i * 3 = j by omega]; exact hj
    rw [← hct] at h1
    rw [List.getElem?_take] at h1
    split at h1
    · simpa using h1
    · cases h1
  have HC := Lib.hid hcur
  have HRES : Hid (∀ w', w'.heap[g]? = some (.cells (splice (splice cur ((i + 1) * 3) Y) (i * 3) F).toArray 85 (0, 0)) → RowKit.Below N w w' → (∀ k, k ≠ g → w'.heap[k]? = w.heap[k]?) → InsResR w (.slice (some ⟨g, 0, none⟩) n c) N n (fs.take i ++ f :: fs.drop i) (.returned (.slice (some ⟨g, 0, none⟩) (n + 1) c)) w') := by
    intro w' hw' hb hoth
    have hsp := splice_shift cur X Y F (n * 3) hct (by omega)
    rw [hFl, hXl, show i * 3 + 3 = (i + 1) * 3 by omega] at hsp
    refine ⟨some ⟨g, 0, none⟩, c, rfl, ⟨?_, Or.inr ⟨g, c, _, rfl, hNg, hw', hc, by unfold maxLen; omega, ?_, ?_⟩⟩, hb, fun k _ hne => hoth k (fun e => hne (by rw [e]; rfl))⟩
    · rw [flat_length encRc_len]; simp; omega
    · rw [List.size_toArray, length_splice _ _ _ (by rw [length_splice _ _ _ (by omega)]; omega), length_splice _ _ _ (by omega), hcs]
    · rw [List.toList_toArray, show (n + 1) * 3 = n * 3 + 3 by omega, hsp, flat_append, ← hX, show f :: fs.drop i = [f] ++ fs.drop i from rfl, flat_append, flat_one, ← hY, hF]
  have HV := Lib.hid hv
  have HLEN : Hid ((i + 1) * 3 + Y.length ≤ cur.length ∧ i * 3 + F.length ≤ (splice cur ((i + 1) * 3) Y).length) := ⟨by omega, by rw [length_splice _ _ _ (by omega)]; omega⟩
  have hinf : (Tryz.prog.info? 85).map (·.size) = some 3 := by kernel_rfl
  have HINF := Lib.hid hinf
  have HFc : Hid (∀ w', Over w w' g → ∀ j v, F[j]? = some v → w'.cell? ((⟨vb, 0, none⟩ : Addr).add j) = some v) := by
    intro w' hw' j v hj
    rw [Addr.add_lit, Nat.zero_add]
    have : Bl w' vb 85 (encRc f).toArray := (hw'.other vb hvg).trans hv
    rw [this.cell, ← hF]; simpa using hj
  have HNg := Lib.hid hNg
  have z1 : ¬ ((i : Int) = (n : Int)) := by omega
  have z2 : ¬ ((c : Int) < (n : Int) + 1) := by omega
  clear ho hl hv hcur hcs hct hX hY hF hinf hNg
  go_enter Tryz.func42, Tryz.ntmps42
  go_wp2_with (simp only [hov])
  have HMN : Hid (Y.length = Nat.min (n + 1 - i) (n - i) * 3) := by show _ = _; rw [hYl, show Nat.min (n + 1 - i) (n - i) = n - i from Nat.min_eq_right (by omega)]
  have HMF : Hid (F.length = Nat.min 1 (n + 1 - i) * 3) := by show _ = _; rw [hFl, show Nat.min 1 (n + 1 - i) = 1 from Nat.min_eq_left (by omega)]
  have hin : i ≤ n := by omega
  have mixed : Tryz.prog.follows Departure.mixedOrders = true := rfl
  have hw1 : IntKind.i64.wrap ((i : Int) + 1) = (i : Int) + 1 := by rw [IntKind.wrap_i64]; omega
  have htn : ((i : Int) + 1).toNat = i + 1 := by omega
  have hb2 : ¬ (c = i + 1) := by omega
  have hb3 : (i : Int) ≤ (n : Int) + 1 := by omega
  have hb4 : ¬ (c = i) := by omega
  have hb5 : (0 : Int) ≤ (i : Int) + 1 := by omega
  go_region_law_o (refine step_copyK rfl (.tmp 73) (.tmp 76) 33 33 rfl 85 3 Tryz.underlying33 HINF.out g ((i + 1) * 3) (n - i) (c - (i + 1)) ⟨g, i * 3, none⟩ (n + 1 - i) (c - i) (by simp [Act.eval, Act.put]) (by simp [Act.eval, Act.put]) cur 85 HC.out Y HMN.out HSY.out HLEN.out.1 hY1 ?_; intro w1 HC1 hO1)
  have HF2 := Lib.hid (HFc.out w1 ⟨hO1.os, hO1.tape, hO1.output, hO1.size, hO1.other⟩)
  have HB1 : Hid (RowKit.Below N w w1) := (show Over w w1 g from ⟨hO1.os, hO1.tape, hO1.output, hO1.size, hO1.other⟩).below HNg.out
  have HO1 := Lib.hid hO1.other
  clear hO1
  obtain ⟨w2, hcp, HC2, hO2⟩ : ∃ w2, (Builtin.copy_ #[33, 33] 3 #[.slice (some ⟨g, i * 3, none⟩) (n + 1 - i) (c - i), .slice (some ⟨vb, 0, none⟩) 1 1]).run Tryz.prog w1 = .ok (goInt (Nat.min 1 (n + 1 - i))) w2 ∧ Hid (w2.heap[g]? = some (.cells (splice (splice cur ((i + 1) * 3) Y) (i * 3) F).toArray 85 (0, 0))) ∧ Over w1 w2 g :=
    ⟨_, run_copy_rowK w1 _ _ _ 85 3 g (i * 3) _ _ _ _ _ _ 85 F Tryz.underlying33 HINF.out HC1.out HMF.out HF2.out HLEN.out.2 hF1, setRow_heap w1 g _ _ _ _ HC1.out, over_setRow w1 g _⟩
  go_wp2_with (simp only [hcp])
  go_ret
  exact HRES.out _ HC2.out (HB1.out.trans (hO2.below HNg.out)) (fun k hk => (hO2.other k hk).trans (HO1.out k hk))



set_option maxRecDepth 100000 in
set_option maxHeartbeats 4000000 in
theorem insert_growR (N g n c i : Nat) (fs : List Rcp) (f : Rcp) (vb : Nat) (w : World) (ho : w.ownsRow N 85 3 (.slice (some ⟨g, 0, none⟩) n c) n (flat encRc fs)) (hl : fs.length = n) (hv : Bl w vb 85 (encRc f).toArray) (hi : i < n) (hc : c < n + 1) (hn : n ≤ 1000) (hN : N ≤ w.heap.size) :
    Calls Tryz.prog 42 #[.slice (some ⟨g, 0, none⟩) n c, .int .i64 i, .slice (some ⟨vb, 0, none⟩) 1 1] w (InsResR w (.slice (some ⟨g, 0, none⟩) n c) N n (fs.take i ++ f :: fs.drop i)) := by
  have hbd := own_boundsF ho
  have hrc := Recs.of_own encRc_len ho hl
  have hcell := Recs.cells encRc_len (by omega) hrc
  have hgw : g < w.heap.size := by
    obtain ⟨b', off', e, hb, _⟩ := hrc.2 (by omega)
    injection e with e; injection e with e; subst e; exact hb
  obtain ⟨X, hX⟩ : ∃ X, X = flat encRc (fs.take i) := ⟨_, rfl⟩
  obtain ⟨Y, hY⟩ : ∃ Y, Y = flat encRc (fs.drop i) := ⟨_, rfl⟩
  obtain ⟨F, hF⟩ : ∃ F, F = encRc f := ⟨_, rfl⟩
  have hXl : X.length = i * 3 := by rw [hX, flat_length encRc_len, List.length_take]; omega
  have hYl : Y.length = (n - i) * 3 := by rw [hY, flat_length encRc_len, List.length_drop, hl]
  have hFl : F.length = 3 := by rw [hF]; rfl
  rw [flat_takeR fs i (by omega), ← hX, ← hY] at hcell
  have hY1 : ∀ v ∈ Y, v.oneCell' = true := by rw [hY]; exact flat_oneFR _
  have hF1 : ∀ v ∈ F, v.oneCell' = true := by rw [hF]; exact encRc_one f
  obtain ⟨i0, hi0, hz0, hz1, hz2⟩ := info_parts info37R
  have hold : (Builtin.firstCells i0.size i (.slice (some ⟨g, 0, none⟩) i c)).run Tryz.prog w.drew = .ok X.toArray w.drew := by
    rw [hz1]
    exact run_firstCells_some w.drew 3 i ⟨g, 0, none⟩ i c X (by omega) (fun j v hj => by
      rw [Addr.add_lit]
      have hj2 : j < X.length := by
        rcases Nat.lt_or_ge j X.length with h | h
        · exact h
        · rw [List.getElem?_eq_none h] at hj; cases hj
      exact hcell j v (by rw [List.getElem?_append_left hj2]; exact hj))
  have hkk : (n : Int) + 1 - (i : Int) = ((n + 1 - i : Nat) : Int) := by omega
  have hik : i + (n + 1 - i) = n + 1 := by omega
  obtain ⟨G, W1, R, hrz, HR, HRl, HRx, hGn, hG63, HB⟩ : ∃ (G : Nat) (W1 : World) (R : List Value), (∀ ty, (Builtin.append_ #[33, 3] ty #[.slice (some ⟨g, 0, none⟩) i c, .int .i64 ((n : Int) + 1 - (i : Int))]).run Tryz.prog w = .ok (.slice (some ⟨w.heap.size, 0, none⟩) (n + 1) G) W1) ∧
      Hid (W1.heap[w.heap.size]? = some (.cells R.toArray 85 (0, 0))) ∧ Hid (R.length = G * 3) ∧ Hid (R.take X.length = X) ∧ n + 1 ≤ G ∧ G ≤ 9223372036854775807 ∧ Hid (RowKit.Below w.heap.size w W1) := by
    have h := fun ty => Lib.run_append_grow_zeros w 33 3 ty 85 i0 _ .i64 .i64 Tryz.underlying33 Tryz.underlying3 hi0 hz0 (some ⟨g, 0, none⟩) i c X hold (n + 1 - i) (by omega) (by omega) (by omega) (by omega) (by rw [hz2]; omega) (by rw [hz2, hik]; exact growslice_fits hc (by omega))
    rw [hik] at h
    have hG := grownCap_le_maxLen w (n + 1) c 85 (by unfold maxLen; omega)
    unfold maxLen at hG
    refine ⟨grownCap w (n + 1) c 85, _, X ++ ((Builtin.zeroCells (Value.agg #[.int .i64 0, .int .i64 0, .int .i64 0]).cells (n + 1 - i)).toList ++ (Builtin.zeroCells (Value.agg #[.int .i64 0, .int .i64 0, .int .i64 0]).cells (grownCap w (n + 1) c 85 - (n + 1))).toList), fun ty => by rw [hkk]; exact h ty, ?_, ?_, List.take_left' rfl, grownCap_ge w _ _ _, by omega, ?_⟩
    · show _ = _
      refine (heap_alloc_new w.drew _).trans ?_
      simp
    · have := grownCap_ge w (n + 1) c 85
      show _ = _
      simp [Builtin.zeroCells, Value.cells, hXl]
      omega
    · exact (Below.refl _ _).drew.alloc (Nat.le_refl _) _
  have hinf : (Tryz.prog.info? 85).map (·.size) = some 3 := by rw [hi0]; simp [hz1]
  have hvw := hv.lt
  have hv1 : Bl W1 vb 85 (encRc f).toArray := hv.keep HB.out
  have HMF : Hid (F.length = Nat.min 1 (n + 1 - i) * 3) := by show _ = _; rw [hFl, show Nat.min 1 (n + 1 - i) = 1 from Nat.min_eq_left (by omega)]
  have HMN : Hid (Y.length = Nat.min (n - i) (n - i) * 3) := by show _ = _; rw [hYl, show Nat.min (n - i) (n - i) = n - i from Nat.min_self _]
  have hRl := HRl.out
  obtain ⟨w2, hcp, HC2, hO2⟩ : ∃ w2, (Builtin.copy_ #[33, 33] 3 #[.slice (some ⟨w.heap.size, i * 3, none⟩) (n + 1 - i) (G - i), .slice (some ⟨vb, 0, none⟩) 1 1]).run Tryz.prog W1 = .ok (goInt (Nat.min 1 (n + 1 - i))) w2 ∧ Hid (w2.heap[w.heap.size]? = some (.cells (splice R (i * 3) F).toArray 85 (0, 0))) ∧ Over W1 w2 w.heap.size :=
    ⟨_, run_copy_rowK W1 _ _ _ 85 3 w.heap.size (i * 3) _ _ _ _ _ _ 85 F Tryz.underlying33 hinf HR.out HMF.out (fun j v hj => by rw [Addr.add_lit, Nat.zero_add, hv1.cell, ← hF]; simpa using hj) (by omega) hF1, setRow_heap W1 w.heap.size _ _ _ _ HR.out, over_setRow W1 w.heap.size _⟩
  have HB2 : Hid (RowKit.Below w.heap.size w w2) := HB.out.trans (hO2.below (Nat.le_refl _))
  have HSY : Hid (∀ j v, Y[j]? = some v → w2.cell? ((⟨g, i * 3, none⟩ : Addr).add j) = some v) := by
    intro j v hj
    rw [Addr.add_lit, HB2.out.cell (p := ⟨g, i * 3 + j, none⟩) hgw]
    have := hcell (i * 3 + j) v (by rw [List.getElem?_append_right (by omega), hXl, show i * 3 + j - i * 3 = j by omega]; exact hj)
    rwa [Nat.zero_add] at this
  have HLEN : Hid ((i + 1) * 3 + Y.length ≤ (splice R (i * 3) F).length) := by show _ ≤ _; rw [length_splice _ _ _ (by omega)]; omega
  have HRES : Hid (∀ w', w'.heap[w.heap.size]? = some (.cells (splice (splice R (i * 3) F) ((i + 1) * 3) Y).toArray 85 (0, 0)) → RowKit.Below w.heap.size w w' → InsResR w (.slice (some ⟨g, 0, none⟩) n c) N n (fs.take i ++ f :: fs.drop i) (.returned (.slice (some ⟨w.heap.size, 0, none⟩) (n + 1) G)) w') := by
    intro w' hw' hb
    have hsp := splice_grow R X Y F HRx.out (by omega)
    rw [hFl, hXl, show i * 3 + 3 = (i + 1) * 3 by omega, show (i + 1) * 3 + Y.length = (n + 1) * 3 by omega] at hsp
    refine ⟨some ⟨w.heap.size, 0, none⟩, G, rfl, ⟨?_, Or.inr ⟨w.heap.size, G, _, rfl, hN, hw', hGn, by unfold maxLen; omega, ?_, ?_⟩⟩, hb.mono hN, fun k hk _ => hb.block k hk⟩
    · rw [flat_length encRc_len]; simp; omega
    · rw [List.size_toArray, length_splice _ _ _ HLEN.out, length_splice _ _ _ (by omega), hRl]
    · rw [List.toList_toArray, hsp, flat_append, ← hX, show f :: fs.drop i = [f] ++ fs.drop i from rfl, flat_append, flat_one, ← hY, hF]
  have HINF := Lib.hid hinf
  have z1 : ¬ ((i : Int) = (n : Int)) := by omega
  have z2 : (c : Int) < (n : Int) + 1 := by omega
  have hin : i ≤ n := by omega
  have mixed : Tryz.prog.follows Departure.mixedOrders = true := rfl
  have hw1 : IntKind.i64.wrap ((i : Int) + 1) = (i : Int) + 1 := by rw [IntKind.wrap_i64]; omega
  have htn : ((i : Int) + 1).toNat = i + 1 := by omega
  have hb2 : ¬ (G = i + 1) := by omega
  have hb3 : (i : Int) ≤ (n : Int) := by omega
  have hb4 : ¬ (c = i) := by omega
  have hb5 : (0 : Int) ≤ (i : Int) + 1 := by omega
  have hb6 : ¬ (G = i) := by omega
  clear ho hl hv hX hY hF hinf hrc hcell hold hkk hik hRl hv1 hi0 hz0 hz1 hz2 HR HRl HRx
  go_enter Tryz.func42, Tryz.ntmps42
  go_wp2_with (first | (at_builtin; refine Lib.wpList_append_run _ rfl _ _ _ _ rfl _ _ rfl rfl _ _ (hrz _) ?_) | simp only [hcp])
  go_region_law_o (refine step_copyK rfl (.tmp 50) (.tmp 53) 33 33 rfl 85 3 Tryz.underlying33 HINF.out w.heap.size ((i + 1) * 3) (n - i) (G - (i + 1)) ⟨g, i * 3, none⟩ (n - i) (c - i) (by simp [Act.eval, Act.put]) (by simp [Act.eval, Act.put]) (splice R (i * 3) F) 85 HC2.out Y HMN.out HSY.out HLEN.out hY1 ?_; intro w3 HC3 hO3)
  have HB3 : Hid (RowKit.Below w.heap.size w w3) := HB2.out.trans ((show Over w2 w3 w.heap.size from ⟨hO3.os, hO3.tape, hO3.output, hO3.size, hO3.other⟩).below (Nat.le_refl _))
  go_wp2
  go_ret
  exact HRES.out _ HC3.out HB3.out
theorem insert_anyR (N : Nat) (B : Option Addr) (n c i : Nat) (fs : List Rcp) (f : Rcp) (vb : Nat) (w : World) (ho : w.ownsRow N 85 3 (.slice B n c) n (flat encRc fs)) (hl : fs.length = n) (hv : Bl w vb 85 (encRc f).toArray) (hvg : ∀ a, B = some a → vb ≠ a.block) (hi : i ≤ n) (hn : n ≤ 1000) (hN : N ≤ w.heap.size) :
    Calls Tryz.prog 42 #[.slice B n c, .int .i64 i, .slice (some ⟨vb, 0, none⟩) 1 1] w (InsResR w (.slice B n c) N n (fs.take i ++ f :: fs.drop i)) := by
  rcases Nat.lt_or_ge i n with h | h
  · obtain ⟨g, rfl⟩ : ∃ g, B = some ⟨g, 0, none⟩ := by
      rcases ho.2 with ⟨hv, h0⟩ | ⟨g', cap, cur, hv, _⟩
      · omega
      · injection hv with h5; exact ⟨g', h5⟩
    rcases Nat.lt_or_ge c (n + 1) with h2 | h2
    · exact insert_growR N g n c i fs f vb w ho hl hv h h2 hn hN
    · exact insert_shiftR N g n c i fs f vb w ho hl hv (hvg _ rfl) h h2 hn hN
  · obtain rfl : i = n := by omega
    have := insert_endR N B i c fs f vb w ho hv hn hN
    rwa [List.take_of_length_le (by omega), List.drop_eq_nil_of_le (by omega)]
end Go.Proofs.YtdbcbbiplkikcaaGreat

namespace Go.Proofs.YtdbcbbiplkikcaaGreat
open Go.RowKit
set_option linter.unusedVariables false

def SomeInt (w : World) (e : Ending) (w' : World) : Prop := (∃ r : Int, e = .returned (.int .i64 r)) ∧ w' = w
set_option maxHeartbeats 1000000 in
theorem orInt_any (A : Option Addr) (n c : Nat) (xs : List Int) (w : World) (h : Ints w A n xs) (hn : n ≤ 9223372036854775807) : Calls Tryz.prog 70 #[.slice A n c] w (SomeInt w) := by
  go_enter Tryz.func70, Tryz.ntmps70
  go_wp2
  go_loop [8] (fun i => ∃ k : Nat, k ≤ n ∧ i = .int .i64 k) (fun i => n - (intOf i).toNat)
  case atStart => exact ⟨0, Nat.zero_le _, rfl⟩
  case round =>
    obtain ⟨k, hk, rfl⟩ := hrel
    by_cases hlt : k < n
    · obtain ⟨b, off, z, hA, hbl, hz, _⟩ := h.get hlt
      subst hA
      have hki : (k : Int) < n := by omega
      by_cases g : z = 0
      · subst g
        go_wp2
        go_round
        case rel => exact ⟨k + 1, by omega, by go_num⟩
        case measure => simp [intOf]; omega
      · have b1 : (z != 0) = true := by simpa using g
        clear g
        go_wp2
        go_ret
        exact ⟨⟨_, rfl⟩, rfl⟩
    · obtain rfl : n = k := by omega
      go_wp2
      go_ret
      exact ⟨⟨_, rfl⟩, rfl⟩
end Go.Proofs.YtdbcbbiplkikcaaGreat

namespace Go.Proofs.YtdbcbbiplkikcaaGreat
open Go.RowKit
set_option linter.unusedVariables false

def AnyInt (w : World) (e : Ending) (w' : World) : Prop := (∃ r : Int, e = .returned (.int .i64 r)) ∧ RowKit.Below w.heap.size w w'
set_option maxRecDepth 100000 in
set_option maxHeartbeats 4000000 in
theorem byNumber_any (a b : Rcp) (w : World) : Calls Tryz.prog 40 #[.agg #[.int .i64 a.frm, .int .i64 a.num, .int .i64 a.err], .agg #[.int .i64 b.frm, .int .i64 b.num, .int .i64 b.err]] w (AnyInt w) := by
  obtain ⟨W0, hW0⟩ : ∃ W, W = (w.alloc (.cells #[.int .i64 a.frm, .int .i64 a.num, .int .i64 a.err] 85)).alloc (.cells #[.int .i64 b.frm, .int .i64 b.num, .int .i64 b.err] 85) := ⟨_, rfl⟩
  have ha : Bl W0 w.heap.size 85 #[.int .i64 a.frm, .int .i64 a.num, .int .i64 a.err] := by rw [hW0]; exact (Bl.new w _ _).alloc _
  have hb : Bl W0 (w.heap.size + 1) 85 #[.int .i64 b.frm, .int .i64 b.num, .int .i64 b.err] := by rw [hW0]; have := Bl.new (w.alloc (.cells #[.int .i64 a.frm, .int .i64 a.num, .int .i64 a.err] 85)) 85 #[.int .i64 b.frm, .int .i64 b.num, .int .i64 b.err]; simpa using this
  have hB : RowKit.Below w.heap.size w W0 := by rw [hW0]; exact ((Below.refl _ _).alloc (Nat.le_refl _) _).alloc (by simp) _
  obtain ⟨r1, hr1⟩ : ∃ r, Lib.compareInt a.frm b.frm = r := ⟨_, rfl⟩
  obtain ⟨r2, hr2⟩ : ∃ r, Lib.compareInt a.num b.num = r := ⟨_, rfl⟩
  have HC1 : Hid (∀ w, Calls Tryz.prog 71 #[.int .i64 a.frm, .int .i64 b.frm] w fun e w' => e = .returned (.int .i64 r1) ∧ w' = w) := fun w => by rw [← hr1]; exact Tryz.cmp_Compare_int _ _ w
  have HC2 : Hid (∀ w, Calls Tryz.prog 71 #[.int .i64 a.num, .int .i64 b.num] w fun e w' => e = .returned (.int .i64 r2) ∧ w' = w) := fun w => by rw [← hr2]; exact Tryz.cmp_Compare_int _ _ w
  clear hr1 hr2
  go_enter Tryz.func40, Tryz.ntmps40
  go_upto_region 1 with (fail)
  rw [← hW0]
  clear hW0
  have a0 : W0.cell? ⟨w.heap.size, 0, none⟩ = some (.int .i64 a.frm) := ha.cell 0
  have a1 : W0.cell? ⟨w.heap.size, 1, none⟩ = some (.int .i64 a.num) := ha.cell 1
  have b0 : W0.cell? ⟨w.heap.size + 1, 0, none⟩ = some (.int .i64 b.frm) := hb.cell 0
  have b1 : W0.cell? ⟨w.heap.size + 1, 1, none⟩ = some (.int .i64 b.num) := hb.cell 1
  have HBL := Lib.hid (Bl.new W0.drew 3 #[.int .i64 r1, .int .i64 r2])
  have HIN : Hid (Ints (W0.drew.alloc (.cells #[.int .i64 r1, .int .i64 r2] 3)) (some ⟨W0.heap.size, 0, none⟩) 2 [r1, r2]) := HBL.out.ints (xs := [r1, r2]) (fun i hi => by
    match i, hi with
    | 0, _ => rfl
    | 1, _ => rfl)
  have HOR := Lib.hid (orInt_any _ _ 2 _ _ HIN.out (by omega))
  have HBA : Hid (RowKit.Below w.heap.size w (W0.drew.alloc (.cells #[.int .i64 r1, .int .i64 r2] 3))) := hB.drew.alloc hB.size _
  go_region_held3 (fun w' => w'.cell? ⟨w.heap.size, 0, none⟩ = some (.int .i64 a.frm) ∧ w'.cell? ⟨w.heap.size, 1, none⟩ = some (.int .i64 a.num) ∧ w'.cell? ⟨w.heap.size + 1, 0, none⟩ = some (.int .i64 b.frm) ∧ w'.cell? ⟨w.heap.size + 1, 1, none⟩ = some (.int .i64 b.num))
    (first
      | go_keep
      | exact ⟨a0, a1, b0, b1⟩
      | exact ⟨((ha.drewN 1).alloc _).cell 0, ((ha.drewN 1).alloc _).cell 1, ((hb.drewN 1).alloc _).cell 0, ((hb.drewN 1).alloc _).cell 1⟩)
    (first
      | (go_at_call 71; with_reducible (refine (HC1.out _).mono ?_); rintro e w1 ⟨rfl, rfl⟩)
      | (go_at_call 71; with_reducible (refine (HC2.out _).mono ?_); rintro e w1 ⟨rfl, rfl⟩)
      | (go_at_call 70; refine HOR.out.mono ?_; rintro e w1 ⟨⟨r, rfl⟩, rfl⟩))
  all_goals (go_wp2; go_ret)
  all_goals exact ⟨⟨r, rfl⟩, HBA.out⟩
end Go.Proofs.YtdbcbbiplkikcaaGreat

namespace Go.Proofs.YtdbcbbiplkikcaaGreat
open Go.RowKit
set_option linter.unusedVariables false

theorem Recs.getRc {w : World} {A : Option Addr} {n : Nat} {xs : List Rcp} (h : Recs encRc 3 w A n xs) {i : Nat} (hi : i < n) :
    ∃ b off r, A = some ⟨b, off, none⟩ ∧ b < w.heap.size ∧ w.cell? ⟨b, off + i * 3, none⟩ = some (.int .i64 r.frm) ∧ w.cell? ⟨b, off + i * 3 + 1, none⟩ = some (.int .i64 r.num) ∧ w.cell? ⟨b, off + i * 3 + 2, none⟩ = some (.int .i64 r.err) ∧ Hid (xs[i]! = r) := by
  obtain ⟨b, off, e, hlt, hc⟩ := h.at_ hi
  exact ⟨b, off, xs[i]!, e, hlt, hc 0 (by omega), hc 1 (by omega), hc 2 (by omega), rfl⟩
def BsR (w : World) (n : Nat) (e : Ending) (w' : World) : Prop := ∃ (I : Nat) (b : Bool), e = .returned (.tuple #[.int .i64 I, .bool b]) ∧ I ≤ n ∧ (b = true → I < n) ∧ RowKit.Below w.heap.size w w'

set_option maxRecDepth 100000 in
set_option maxHeartbeats 4000000 in
theorem bsearchR_any (A : Option Addr) (n c : Nat) (rs : List Rcp) (t : Rcp) (w : World) (h : Recs encRc 3 w A n rs) (hn : n ≤ 1000000) :
    Calls Tryz.prog 39 #[.slice A n c, .agg #[.int .i64 t.frm, .int .i64 t.num, .int .i64 t.err], .func (.func 40) #[] #[]] w (BsR w n) := by
  have HS := Lib.hid h
  have HCM := Lib.hid (fun a b w => byNumber_any a b w)
  have hx := Bl.new w 85 #[.int .i64 t.frm, .int .i64 t.num, .int .i64 t.err]
  have hb0 : RowKit.Below w.heap.size w (w.alloc (.cells #[.int .i64 t.frm, .int .i64 t.num, .int .i64 t.err] 85)) := (Below.refl _ _).alloc (Nat.le_refl _) _
  clear h
  go_enter Tryz.func39, Tryz.ntmps39
  go_upto_region 1 with (fail)
  generalize w.alloc (.cells #[.int .i64 t.frm, .int .i64 t.num, .int .i64 t.err] 85) = W0 at *
  go_wp2_with fail
  go_loopw [9, 10] (fun i j wx => ∃ I J : Nat, i = .int .i64 I ∧ j = .int .i64 J ∧ I ≤ J ∧ J ≤ n ∧ Hid (Bl wx w.heap.size 85 #[.int .i64 t.frm, .int .i64 t.num, .int .i64 t.err]) ∧ Hid (RowKit.Below w.heap.size w wx)) (fun i j _ => (intOf j).toNat - (intOf i).toNat)
  case atStart => exact ⟨0, n, rfl, rfl, Nat.zero_le _, Nat.le_refl _, hx, hb0⟩
  case round =>
    clear hx hb0
    obtain ⟨I, J, rfl, rfl, hIJ, hJ, HX, HB⟩ := hrel
    have x0 : wr.cell? ⟨w.heap.size, 0, none⟩ = some (.int .i64 t.frm) := HX.out.cell 0
    have x1 : wr.cell? ⟨w.heap.size, 1, none⟩ = some (.int .i64 t.num) := HX.out.cell 1
    have x2 : wr.cell? ⟨w.heap.size, 2, none⟩ = some (.int .i64 t.err) := HX.out.cell 2
    have hXd : Bl wr.drew w.heap.size 85 #[.int .i64 t.frm, .int .i64 t.num, .int .i64 t.err] := HX.out.drewN 1
    have HBd := Lib.hid HB.out.drew
    by_cases hlt : I < J
    · go_upto_region 5 with (fail)
      obtain ⟨H, hH⟩ : ∃ q : Nat, ((I : Int) + (J : Int)) / 2 = (q : Int) := ⟨(I + J) / 2, by omega⟩
      have hH1 : I ≤ H := by omega
      have hH2 : H < J := by omega
      rw [hH]
      clear hH
      obtain ⟨b, off, x, hA, hbl, c0, c1, c2, _⟩ := (HS.out.below HB.out).getRc (i := H) (by omega)
      subst hA
      have hHi : (H : Int) < n := by omega
      go_still_tail 6, (by kernel_rfl)
      change wpList _ _ _ _ _ wr.drew
      clear c0 c1 c2 x0 x1 x2 HX HB
      generalize wr.drew = wd at *
      go_wp2_with fail
      refine (HCM.out x t _).mono ?_
      rintro e w1 ⟨⟨r, rfl⟩, hb1⟩
      have HX1 := Lib.hid (hXd.keep hb1)
      have HB1 := Lib.hid (HBd.out.trans (hb1.mono HBd.out.size))
      clear hXd hb1 HBd
      by_cases g : r < 0
      · have d1 : decide (r < 0) = true := by simpa using g
        clear g
        go_wp2_with fail
        go_roundw
        case rel => exact ⟨H + 1, J, by go_num, rfl, by omega, hJ, HX1, HB1⟩
        case measure => simp [intOf]; omega
      · have d1 : decide (r < 0) = false := by simpa using g
        clear g
        go_wp2_with fail
        go_roundw
        case rel => exact ⟨I, H, rfl, rfl, by omega, by omega, HX1, HB1⟩
        case measure => simp [intOf]; omega
    · obtain rfl : I = J := by omega
      by_cases hIn : I < n
      · obtain ⟨b, off, x, hA, hbl, c0, c1, c2, _⟩ := (HS.out.below HB.out).getRc hIn
        subst hA
        have hIi : (I : Int) < n := by omega
        have dI : decide (I < n) = true := by simpa using hIn
        have HCW : Hid (Calls Tryz.prog 40 #[.agg #[.int .i64 x.frm, .int .i64 x.num, .int .i64 x.err], .agg #[.int .i64 t.frm, .int .i64 t.num, .int .i64 t.err]] wr.drew (AnyInt wr.drew)) := HCM.out x t wr.drew
        go_upto_region 8 with (fail)
        go_region_held3 (fun w' => w'.cell? ⟨b, off + I * 3, none⟩ = some (.int .i64 x.frm) ∧ w'.cell? ⟨b, off + I * 3 + 1, none⟩ = some (.int .i64 x.num) ∧ w'.cell? ⟨b, off + I * 3 + 2, none⟩ = some (.int .i64 x.err) ∧ w'.cell? ⟨w.heap.size, 0, none⟩ = some (.int .i64 t.frm) ∧ w'.cell? ⟨w.heap.size, 1, none⟩ = some (.int .i64 t.num) ∧ w'.cell? ⟨w.heap.size, 2, none⟩ = some (.int .i64 t.err))
          (first
            | go_keep
            | exact ⟨c0, c1, c2, x0, x1, x2⟩
            | exact hk1.out)
          (first
            | (go_at_call 40; refine HCW.out.mono ?_; rintro e w1 ⟨⟨r, rfl⟩, hb1⟩; have hk1 : Hid (w1.cell? ⟨b, off + I * 3, none⟩ = some (.int .i64 x.frm) ∧ w1.cell? ⟨b, off + I * 3 + 1, none⟩ = some (.int .i64 x.num) ∧ w1.cell? ⟨b, off + I * 3 + 2, none⟩ = some (.int .i64 x.err) ∧ w1.cell? ⟨w.heap.size, 0, none⟩ = some (.int .i64 t.frm) ∧ w1.cell? ⟨w.heap.size, 1, none⟩ = some (.int .i64 t.num) ∧ w1.cell? ⟨w.heap.size, 2, none⟩ = some (.int .i64 t.err)) := ⟨(hb1.cell (p := ⟨b, off + I * 3, none⟩) hbl).trans c0, (hb1.cell (p := ⟨b, off + I * 3 + 1, none⟩) hbl).trans c1, (hb1.cell (p := ⟨b, off + I * 3 + 2, none⟩) hbl).trans c2, (hXd.keep hb1).cell 0, (hXd.keep hb1).cell 1, (hXd.keep hb1).cell 2⟩))
        all_goals (go_wp2; go_ret2)
        all_goals exact ⟨I, _, rfl, by omega, fun _ => hIn, HBd.out.trans (hb1.mono HBd.out.size)⟩
      · obtain rfl : n = I := by omega
        have hd : decide (n < n) = false := by simp
        go_upto_region 8 with (fail)
        go_quiet (fail)
        go_wp2
        go_ret2
        exact ⟨n, false, rfl, Nat.le_refl _, fun h => (by cases h), below_drewN HB.out nq⟩
end Go.Proofs.YtdbcbbiplkikcaaGreat

namespace Go.Proofs.YtdbcbbiplkikcaaGreat
open Go.RowKit
set_option linter.unusedVariables false

def DefRes (N : Nat) (w : World) (H : Hds) (C : Cen) (ge gn : Nat) (er frm num : Int) (at_ : Nat) (w' : World) : Prop :=
  ∃ (B : Option Addr) (d : Nat), Bl w' gn 37 #[.slice B (H.s.n + 1) d, .slice H.q.A H.q.n H.q.c, .slice H.g.A H.g.n H.g.c, .slice H.k.A H.k.n H.k.c, .slice H.m.A H.m.n H.m.c] ∧ Bl w' ge 38 #[.int .i64 er] ∧ CenO N w' { H with s := ⟨B, H.s.n + 1, d⟩ } { C with seen := C.seen.take at_ ++ ⟨frm, num, er⟩ :: C.seen.drop at_ } ∧ RowKit.Below N w w'
set_option maxRecDepth 100000 in
set_option maxHeartbeats 8000000 in
theorem defer37_any (N : Nat) (H : Hds) (C : Cen) (ge gr gn ga : Nat) (er frm num e0 : Int) (at_ : Nat) (u : FrameMode) (w : World) (hO : CenO N w H C) (hN : N ≤ w.heap.size) (he : Bl w ge 38 #[.int .i64 er]) (hr : Bl w gr 85 #[.int .i64 frm, .int .i64 num, .int .i64 e0]) (hn : Bl w gn 37 #[.slice H.s.A H.s.n H.s.c, .slice H.q.A H.q.n H.q.c, .slice H.g.A H.g.n H.g.c, .slice H.k.A H.k.n H.k.c, .slice H.m.A H.m.n H.m.c]) (ha : Bl w ga 3 #[.int .i64 (at_ : Int)]) (hat : at_ ≤ H.s.n) (hsn : H.s.n ≤ 1000) (hgr : ∀ b, (Value.slice H.s.A H.s.n H.s.c).ownBlock = some b → b ≠ gr) (hNe : N ≤ ge) (hNr : N ≤ gr) (hNn : N ≤ gn) :
    CallsD Tryz.prog 41 #[.pointer (some ⟨ge, 0, none⟩), .pointer (some ⟨gr, 0, none⟩), .pointer (some ⟨gn, 0, none⟩), .pointer (some ⟨ga, 0, none⟩)] u w fun e u' w' => u' = u ∧ (e = .returned (.tuple #[]) ∧ DefRes N w H C ge gn er frm num at_ w') := by
  obtain ⟨⟨sA, sn, sc⟩, Hq, Hg, Hk, Hm⟩ := H
  simp only at hat hsn hgr
  have HL : Hid (C.seen.length = sn) := own_lenK encRc_len (by omega) hO.seen
  have hne1 : gr ≠ ge := fun e => by subst e; have h1 := hr.symm.trans he; injection h1 with h1; injection h1 with _ h2; exact absurd h2 (by decide)
  have hne2 : gr ≠ gn := fun e => by subst e; have h1 := hr.symm.trans hn; injection h1 with h1; injection h1 with _ h2; exact absurd h2 (by decide)
  have hne3 : gr ≠ ga := fun e => by subst e; have h1 := hr.symm.trans ha; injection h1 with h1; injection h1 with _ h2; exact absurd h2 (by decide)
  have hne4 : gn ≠ ge := fun e => by subst e; have h1 := hn.symm.trans he; injection h1 with h1; injection h1 with _ h2; exact absurd h2 (by decide)
  have c0 : w.cell? ⟨ge, 0, none⟩ = some (.int .i64 er) := he.cell 0
  have r2 : w.cell? ⟨gr, 2, none⟩ = some (.int .i64 e0) := hr.cell 2
  have rf : w.frozen? ⟨gr, 2, none⟩ = false := hr.free 2
  have HE : Hid (Bl (w.setCell ⟨gr, 2, none⟩ (.int .i64 er)) ge 38 #[.int .i64 er]) := he.far (p := ⟨gr, 2, none⟩) (fun e => hne1 e.symm) _
  have HR : Hid (Bl (w.setCell ⟨gr, 2, none⟩ (.int .i64 er)) gr 85 #[.int .i64 frm, .int .i64 num, .int .i64 er]) := by show Bl _ _ _ _; have := hr.put 2 (.int .i64 er); simpa using this
  have HN : Hid (Bl (w.setCell ⟨gr, 2, none⟩ (.int .i64 er)) gn 37 #[.slice sA sn sc, .slice Hq.A Hq.n Hq.c, .slice Hg.A Hg.n Hg.c, .slice Hk.A Hk.n Hk.c, .slice Hm.A Hm.n Hm.c]) := hn.far (p := ⟨gr, 2, none⟩) (fun e => hne2 e.symm) _
  have HA : Hid (Bl (w.setCell ⟨gr, 2, none⟩ (.int .i64 er)) ga 3 #[.int .i64 (at_ : Int)]) := ha.far (p := ⟨gr, 2, none⟩) (fun e => hne3 e.symm) _
  have HO : Hid (CenO N (w.setCell ⟨gr, 2, none⟩ (.int .i64 er)) ⟨⟨sA, sn, sc⟩, Hq, Hg, Hk, Hm⟩ C) := by
    refine ⟨own_of_block hO.seen fun b e => Below.heap_setCell _ _ _ b (hgr b e), own_of_block hO.qs fun b e => Below.heap_setCell _ _ _ b (fun e2 => own_apart hO.qs hr (by decide) (by rw [e, e2])), own_of_block hO.gs fun b e => Below.heap_setCell _ _ _ b (fun e2 => own_apart hO.gs hr (by decide) (by rw [e, e2])), own_of_block hO.cov fun b e => Below.heap_setCell _ _ _ b (fun e2 => own_apart hO.cov hr (by decide) (by rw [e, e2])), own_of_block hO.sent fun b e => Below.heap_setCell _ _ _ b (fun e2 => own_apart hO.sent hr (by decide) (by rw [e, e2])), fun x hx => own_of_block (hO.facts x hx) fun b e => Below.heap_setCell _ _ _ b (fun e2 => own_apart (hO.facts x hx) hr (by decide) (by rw [e, e2])), fun x hx => own_of_block (hO.uses x hx) fun b e => Below.heap_setCell _ _ _ b (fun e2 => own_apart (hO.uses x hx) hr (by decide) (by rw [e, e2]))⟩
  have HB : Hid (RowKit.Below N w (w.setCell ⟨gr, 2, none⟩ (.int .i64 er))) := (Below.refl _ _).setCell (p := ⟨gr, 2, none⟩) hNr _
  have HNS : Hid (N ≤ w.heap.size) := hN
  have HLT : Hid (∀ b, (Value.slice sA sn sc).ownBlock = some b → b < w.heap.size) := fun b e => own_lt hO.seen b e
  clear hO he hr hn ha hgr hN
  go_enter_d Tryz.func41, Tryz.ntmps41
  go_upto_region 1 with (fail)
  clear c0 r2 rf
  generalize hW1 : w.setCell ⟨gr, 2, none⟩ (.int .i64 er) = W1 at *
  have n0 : W1.cell? ⟨gn, 0, none⟩ = some (.slice sA sn sc) := HN.out.c0
  have i0 : W1.cell? ⟨ga, 0, none⟩ = some (.int .i64 (at_ : Int)) := HA.out.cell 0
  have q0 : W1.cell? ⟨gr, 0, none⟩ = some (.int .i64 frm) := HR.out.cell 0
  have q1 : W1.cell? ⟨gr, 1, none⟩ = some (.int .i64 num) := HR.out.cell 1
  have q2 : W1.cell? ⟨gr, 2, none⟩ = some (.int .i64 er) := HR.out.cell 2
  have HNS1 : Hid (N ≤ W1.heap.size) := Nat.le_trans HNS.out HB.out.size
  have HO1 := Lib.hid (HO.out.below ((Below.refl _ _).alloc (Nat.le_refl _) (.cells #[.int .i64 frm, .int .i64 num, .int .i64 er] 85)))
  have HIC := Lib.hid (insert_anyR N sA sn sc at_ C.seen ⟨frm, num, er⟩ W1.heap.size (W1.alloc (.cells #[.int .i64 frm, .int .i64 num, .int .i64 er] 85)) HO1.out.seen HL.out (Bl.new W1 85 (encRc ⟨frm, num, er⟩).toArray) (fun a e => by have h1 := own_lt HO.out.seen a.block (by rw [e]; rfl); omega) hat hsn (by have := HNS1.out; simp; omega))
  have HE1 := Lib.hid (HE.out.alloc (.cells #[.int .i64 frm, .int .i64 num, .int .i64 er] 85))
  have HN1 := Lib.hid (HN.out.alloc (.cells #[.int .i64 frm, .int .i64 num, .int .i64 er] 85))
  have HB1 : Hid (RowKit.Below N w (W1.alloc (.cells #[.int .i64 frm, .int .i64 num, .int .i64 er] 85))) := HB.out.alloc HNS1.out _
  clear hW1
  go_wp2_with fail
  refine HIC.out.mono ?_
  rintro e w2 ⟨B, d, rfl, ho2, hb2, hk2⟩
  have HO2 := Lib.hid (HO1.out.seen' (fun b hlt hne => hk2 b hlt hne) (B := B) (n := sn + 1) (d := d) (xs := C.seen.take at_ ++ ⟨frm, num, er⟩ :: C.seen.drop at_) ho2)
  have HN2 : Hid (Bl w2 gn 37 #[.slice sA sn sc, .slice Hq.A Hq.n Hq.c, .slice Hg.A Hg.n Hg.c, .slice Hk.A Hk.n Hk.c, .slice Hm.A Hm.n Hm.c]) := (hk2 gn HN1.out.lt (fun e => own_apart HO1.out.seen HN1.out (by decide) e)).trans HN1.out
  have HE2 : Hid (Bl w2 ge 38 #[.int .i64 er]) := (hk2 ge HE1.out.lt (fun e => own_apart HO1.out.seen HE1.out (by decide) e)).trans HE1.out
  have HB2 : Hid (RowKit.Below N w w2) := HB1.out.trans hb2
  have n0 : w2.cell? ⟨gn, 0, none⟩ = some (.slice sA sn sc) := HN2.out.c0
  have nf : w2.frozen? ⟨gn, 0, none⟩ = false := HN2.out.free 0
  clear ho2 hb2 hk2 HIC HO1 HN1 HE1 HB1 i0 q0 q1 q2 HE HR HN HA HO HB
  go_wp2
  go_end0
  refine ⟨rfl, B, d, ?_, HE2.out.far (p := ⟨gn, 0, none⟩) (fun e => hne4 e.symm) _, HO2.out.setC HN2.out 0 _, HB2.out.setCell (p := ⟨gn, 0, none⟩) hNn _⟩
  have := HN2.out.put 0 (.slice B (sn + 1) d)
  simpa using this
end Go.Proofs.YtdbcbbiplkikcaaGreat

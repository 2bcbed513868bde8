/-
  What is kept while a lot is split: words and one step. No statement of the seat is proved here. No conditions.
  The units of several lots of a stock, one after the other; lots replaced by others over some of their units. No statement of the seat is proved here. No conditions.
  The reference's Stock (customsref24) ends at a valid stock. No statement of the seat is proved here. Conditions: the stock is valid, no lot of it was transferred.
  Contracts of the reference's Present and Move (customsref24) at an estate. No statement of the seat is proved here. Conditions: the estate is sound; the number is its next one.
-/
import Derived.Test.YthnhgjhnkncmiaaGreatMAJ
import Derived.Test.YthnhgjhnkncmiaaGreatMAB
namespace Go.Proofs.YthnhgjhnkncmiaaGreat
open Go.RowKit
set_option linter.unusedVariables false

abbrev SlP (w : World) (A : Option Addr) (n c : Nat) (xs : List Sl) : Prop := (SlAt w A n xs ∧ n ≤ c ∧ c ≤ 9223372036854775807) ∧ TyA w A 68
theorem SlP.below {w w' : World} {A : Option Addr} {n c : Nat} {xs : List Sl} (h : SlP w A n c xs) (hb : RowKit.Below w.heap.size w w') : SlP w' A n c xs := ⟨⟨h.1.1.below hb, h.1.2⟩, h.2.below hb⟩
/-- Blocks of one type lie apart from a row of another type. -/
theorem ty_ne {w : World} {A : Option Addr} {n c N k m : Nat} {T U : TypeId} {v : Value} {xs : List Value} (h : TyA w A T) (hp : Plain A) (ho : w.ownsRow N U k v m xs) (hne : T ≠ U) : ∀ b, (Value.slice A n c).ownBlock = some b → some b ≠ v.ownBlock := by
  intro b hb e
  rcases hp with rfl | ⟨b', off, rfl⟩
  · cases hb
  · have e1 : b' = b := by simpa [Value.ownBlock] using hb
    subst e1
    obtain ⟨cs, hc⟩ := h b' off rfl
    rcases ho.2 with ⟨hv, _⟩ | ⟨g, cap, cur, hv, _, hh, _⟩
    · rw [hv] at e; cases e
    · rw [hv] at e
      have e2 : b' = g := by simpa [Value.ownBlock] using e
      subst e2
      have hc' : w.heap[b']? = some (.cells cs T (0, 0)) := hc
      rw [hh] at hc'
      injection hc' with hc'
      injection hc' with _ h4
      exact hne h4.symm
theorem TyA.grown {w w' : World} {A : Option Addr} {T U : TypeId} {N k m : Nat} {v : Value} {xs : List Value} (h : TyA w A T) (hp : Plain A) (ho : w.ownsRow N U k v m xs) (hne : T ≠ U) (hg : w.grownBy w' v.ownBlock) : TyA w' A T := fun b off e => by
  obtain ⟨cs, hc⟩ := h b off e
  exact ⟨cs, (hg.block b hc.lt (ty_ne (n := 0) (c := 0) h hp ho hne b (by rw [e]; rfl))).trans hc⟩
theorem SlP.grown {w w' : World} {A : Option Addr} {n c N k m : Nat} {xs : List Sl} {U : TypeId} {v : Value} {ys : List Value} (h : SlP w A n c xs) (ho : w.ownsRow N U k v m ys) (hne : 68 ≠ U) (hg : w.grownBy w' v.ownBlock) : SlP w' A n c xs := by
  refine ⟨⟨h.1.1.of_block (c := c) hg.size fun b hb => ?_, h.1.2⟩, h.2.grown h.1.1.plain ho hne hg⟩
  rcases h.1.1.plain with e | ⟨b', off, e⟩
  · rw [e] at hb; cases hb
  · rw [e] at hb
    have e1 : b' = b := by simpa [Value.ownBlock] using hb
    subst e1
    obtain ⟨cs, hc⟩ := h.2 b' off e
    exact hg.block b' hc.lt (ty_ne (n := n) (c := c) h.2 h.1.1.plain ho hne b' (by rw [e]; rfl))
theorem SlP.own {w : World} {N : Nat} {A : Option Addr} {c : Nat} {xs : List Sl} (h : w.ownsRow N 68 3 (.slice A xs.length c) xs.length (flat encSl xs)) : SlP w A xs.length c xs := ⟨⟨RRd.own encSl_len h rfl, own_boundsF h⟩, TyA.own h⟩
/-- New lots made so far, their slices, what is left of the old lot's slices. -/
structure SpI (w : World) (x : List Sl) (ps : List (Int × Int)) (i : Nat) (R : Option Addr) (rn rc : Nat) (rs : List Sl) (L : Option Addr) (lc : Nat) (ls : List Lb) (wx : World) : Prop where
  rest : SlP wx R rn rc rs
  rok : SlsOk rs
  r64 : rs.length ≤ 64
  ll : ls.length = i
  own : wx.ownsRow w.heap.size 36 5 (.slice L i lc) i (flat encL ls)
  sls : ∀ b ∈ ls, SlP wx b.A b.n b.c b.x.sl
  lok : ∀ b ∈ ls, LtOk b.x
  ids : ls.map (fun b => b.x.id) = (ps.take i).map Prod.fst
  units : ∃ lost, (stUnits (lotsOf ls) ++ unitsOf rs ++ lost).Perm (unitsOf x)
  below : RowKit.Below w.heap.size w wx
theorem SpI.under {w : World} {x : List Sl} {ps : List (Int × Int)} {i : Nat} {R : Option Addr} {rn rc : Nat} {rs : List Sl} {L : Option Addr} {lc : Nat} {ls : List Lb} {wx w' : World} (h : SpI w x ps i R rn rc rs L lc ls wx) (hb : RowKit.Below wx.heap.size wx w') : SpI w x ps i R rn rc rs L lc ls w' :=
  ⟨h.rest.below hb, h.rok, h.r64, h.ll, own_below h.own hb, fun b k => (h.sls b k).below hb, h.lok, h.ids, h.units, h.below.trans (hb.mono h.below.size)⟩
/-- One part more: its slices are fs, what is left is gs. -/
theorem SpI.next {w : World} {x : List Sl} {ps : List (Int × Int)} {i : Nat} {R : Option Addr} {rn rc : Nat} {rs : List Sl} {L : Option Addr} {lc : Nat} {ls : List Lb} {wx w' : World} (h : SpI w x ps i R rn rc rs L lc ls wx)
    {B C : Option Addr} {d e : Nat} {fs gs : List Sl} (h1 : SlP wx B fs.length d fs) (h2 : SlP wx C gs.length e gs) (hp : PartR rs fs gs) {code : ByteArray} {proc : Int} (hi : i < ps.length) (hid : 1 ≤ ps[i]!.1 ∧ ps[i]!.1 ≤ 1000000) (hq : 1 ≤ ps[i]!.2 ∧ ps[i]!.2 ≤ 1000000000) (hc : code8 code) (hpr : 1 ≤ proc ∧ proc ≤ 12)
    {nb : Lb} (hnb : nb = ⟨⟨ps[i]!.1, code, ps[i]!.2, proc, fs⟩, B, fs.length, d⟩) {L' : Option Addr} {lc' : Nat} (ho : w'.ownsRow w.heap.size 36 5 (.slice L' (i + 1) lc') (i + 1) (flat encL ls ++ encL nb)) (hg : wx.grownBy w' (.slice L i lc : Value).ownBlock) :
    SpI w x ps (i + 1) C gs.length e gs L' lc' (ls ++ [nb]) w' := by
  have hne : 68 ≠ 36 := by decide
  obtain ⟨lost, oa, ob, ca, cb, hu, la, lb⟩ := hp
  obtain ⟨lost0, hu0⟩ := h.units
  have hr64 := h.r64
  refine ⟨h2.grown h.own hne hg, ob, by omega, by rw [List.length_append, h.ll]; rfl, by rw [flat_append, flat_one]; exact ho, fun b hb => ?_, fun b hb => ?_, ?_, ⟨lost ++ lost0, ?_⟩, h.below.grown hg h.below.size fun g hg' => own_base h.own g hg'⟩
  · rcases List.mem_append.1 hb with hb | hb
    · exact (h.sls b hb).grown h.own hne hg
    · rw [List.mem_singleton] at hb
      subst hb
      rw [hnb]
      exact h1.grown h.own hne hg
  · rcases List.mem_append.1 hb with hb | hb
    · exact h.lok b hb
    · rw [List.mem_singleton] at hb
      subst hb
      rw [hnb]
      exact ⟨hid, hc, hq, hpr, by show fs.length ≤ 64; omega, oa, ca⟩
  · rw [List.map_append, h.ids, take_snoc29 ps i hi, List.map_append, hnb]; rfl
  · have e1 : lotsOf (ls ++ [nb]) = lotsOf ls ++ [nb.x] := by unfold lotsOf; rw [List.map_append]; rfl
    have e2 : stUnits [nb.x] = unitsOf fs := by rw [stUnits_cons, hnb]; simp [stUnits]
    rw [e1, stUnits_append, e2]
    refine List.Perm.trans ?_ hu0
    have h3 : (stUnits (lotsOf ls) ++ (unitsOf fs ++ unitsOf gs ++ lost) ++ lost0).Perm (stUnits (lotsOf ls) ++ unitsOf rs ++ lost0) := (List.Perm.append_left _ hu).append_right _
    refine List.Perm.trans ?_ h3
    rw [List.append_assoc, List.append_assoc, List.append_assoc, List.append_assoc, List.append_assoc]
end Go.Proofs.YthnhgjhnkncmiaaGreat

namespace Go.Proofs.YthnhgjhnkncmiaaGreat
set_option linter.unusedVariables false

theorem sub_perm29 {a b : List (Int × Int)} (h : a.Nodup) (hs : ∀ u ∈ a, u ∈ b) : ∃ rest, (a ++ rest).Perm b := by
  induction a generalizing b with
  | nil => exact ⟨b, List.Perm.refl _⟩
  | cons x xs ih =>
    rw [List.nodup_cons] at h
    have hx : x ∈ b := hs x (by simp)
    obtain ⟨rest, hr⟩ := ih (b := b.erase x) h.2 fun u hu => by
      have hne : u ≠ x := fun e => h.1 (e ▸ hu)
      exact (List.mem_erase_of_ne hne).2 (hs u (by simp [hu]))
    exact ⟨rest, (List.Perm.cons x hr).trans (List.perm_cons_erase hx).symm⟩
theorem StOk.disj {s : List Lt} (h : StOk s) {x y : Lt} (hx : x ∈ s) (hy : y ∈ s) (hne : x.id ≠ y.id) {u : Int × Int} (h1 : u ∈ unitsOf x.sl) (h2 : u ∈ unitsOf y.sl) : False := by
  obtain ⟨i, hi, rfl⟩ := List.getElem_of_mem hx
  obtain ⟨k, hk, rfl⟩ := List.getElem_of_mem hy
  have hik : i ≠ k := fun e => by subst e; exact hne rfl
  have key : ∀ i k (hi : i < s.length) (hk : k < s.length), i < k → u ∈ unitsOf s[i].sl → u ∈ unitsOf s[k].sl → False := fun i k hi hk hlt h1 h2 => by
    refine h.meet hlt hk ?_
    rw [getElem!_pos s i hi, getElem!_pos s k hk, meetsL_units (h.lots _ (List.getElem_mem hi)).sls.lt (h.lots _ (List.getElem_mem hk)).sls.lt]
    exact ⟨u, h1, h2⟩
  rcases Nat.lt_or_gt_of_ne hik with hlt | hlt
  · exact key i k hi hk hlt h1 h2
  · exact key k i hk hi hlt h2 h1
/-- The slices of the first lots of a list of numbers. -/
structure CollI (s : List Lt) (xs : List Int) (i : Nat) (ys : List Sl) : Prop where
  ok : SlsOk ys
  nd : (unitsOf ys).Nodup
  sub : ∀ u ∈ unitsOf ys, ∃ x ∈ s, x.id ∈ xs.take i ∧ u ∈ unitsOf x.sl
  len : ys.length ≤ i * 64
theorem CollI.start (s : List Lt) (xs : List Int) : CollI s xs 0 [] := ⟨(fun x hx => by cases hx), (by simp [unitsOf]), (fun u hu => by simp [unitsOf] at hu), (by simp)⟩
theorem CollI.next {s : List Lt} {xs : List Int} {i : Nat} {ys : List Sl} (h : CollI s xs i ys) (hs : StOk s) (hi : i < xs.length) (hnd : xs.Nodup) {x : Lt} (hx : x ∈ s) (hid : x.id = xs.getD i 0) : CollI s xs (i + 1) (ys ++ x.sl) := by
  have hL := hs.lots x hx
  have e0 : xs.getD i 0 = xs[i] := by rw [List.getD_eq_getElem?_getD, List.getElem?_eq_getElem hi]; rfl
  have e1 : xs.take (i + 1) = xs.take i ++ [xs[i]] := by rw [List.take_add_one, List.getElem?_eq_getElem hi]; rfl
  have hni : x.id ∉ xs.take i := fun hm => by
    have h2 : xs = xs.take i ++ xs[i] :: xs.drop (i + 1) := by
      conv => lhs; rw [← List.take_append_drop i xs, List.drop_eq_getElem_cons hi]
    rw [h2, List.nodup_append] at hnd
    exact hnd.2.2 x.id hm xs[i] List.mem_cons_self (by rw [hid, e0])
  refine ⟨fun y hy => ?_, ?_, fun u hu => ?_, ?_⟩
  · rcases List.mem_append.1 hy with hy | hy
    · exact h.ok y hy
    · exact hL.sls y hy
  · rw [unitsOf_append, List.nodup_append]
    refine ⟨h.nd, (apart_units hL.sls.lt).1 (hs.apart hx), fun a ha b hb e => ?_⟩
    subst e
    obtain ⟨y, hy, hyi, hyu⟩ := h.sub a ha
    exact hs.disj hy hx (fun e => hni (e ▸ hyi)) hyu hb
  · rw [unitsOf_append] at hu
    rcases List.mem_append.1 hu with hu | hu
    · obtain ⟨y, hy, hyi, hyu⟩ := h.sub u hu
      exact ⟨y, hy, by rw [e1]; exact List.mem_append.2 (.inl hyi), hyu⟩
    · exact ⟨x, hx, by rw [e1, hid, e0]; exact List.mem_append.2 (.inr (List.mem_singleton.2 rfl)), hu⟩
  · rw [List.length_append]
    have h1 := h.len
    have h2 := hL.few
    omega
/-- Some lots are replaced by new ones over some of their units. -/
theorem EstOk.over {s l : List Lt} {cs : List Ch} {free free' : Int} {xs : List Int} (h : EstOk s cs free) (hl : ∀ x ∈ l, LtOk x) (ha : l.Pairwise (fun a b => a.id < b.id)) (hf : ∀ x ∈ l, free ≤ x.id ∧ x.id < free') (hff : free ≤ free') (hn : (s.filter fun x => decide (x.id ∉ xs)).length + l.length ≤ 64)
    (hnd : (stUnits l).Nodup) (hsub : ∀ u ∈ stUnits l, ∃ x ∈ s, x.id ∈ xs ∧ u ∈ unitsOf x.sl) : EstOk ((s.filter fun x => decide (x.id ∉ xs)) ++ l) cs free' := by
  have e : (fun x : Lt => decide (x.id ∉ xs)) = fun x : Lt => !decide (x.id ∈ xs) := by funext x; simp
  rw [e] at hn ⊢
  obtain ⟨rest, hr⟩ := sub_perm29 (b := stUnits (s.filter fun x => decide (x.id ∈ xs))) hnd fun u hu => by
    obtain ⟨x, hx, hxi, hxu⟩ := hsub u hu
    unfold stUnits
    exact List.mem_flatMap.2 ⟨x, List.mem_filter.2 ⟨hx, by simpa using hxi⟩, hxu⟩
  exact h.replace hl ha hf hff hn hr
/-- How many lots are left without some of them. -/
theorem filter_out29 {s : List Lt} (hs : s.Pairwise (fun a b => a.id < b.id)) {xs : List Int} (hnd : xs.Nodup) (hin : ∀ i ∈ xs, ∃ x ∈ s, x.id = i) : (s.filter fun x => decide (x.id ∉ xs)).length + xs.length = s.length := by
  have hids : (s.map (·.id)).Nodup := by
    have : (s.map (·.id)).Pairwise (· < ·) := List.pairwise_map.2 hs
    exact this.imp fun h e => by omega
  have key : ∀ (xs : List Int) (l : List Int), xs.Nodup → l.Nodup → (∀ i ∈ xs, i ∈ l) → (l.filter fun i => decide (i ∉ xs)).length + xs.length = l.length := by
    intro xs
    induction xs with
    | nil => intro l _ _ _; simp
    | cons z zs ih =>
      intro l h1 h2 h3
      rw [List.nodup_cons] at h1
      have hz : z ∈ l := h3 z (by simp)
      have h4 := ih (l.erase z) h1.2 (h2.erase z) fun i hi => by
        have hne : i ≠ z := fun e => h1.1 (e ▸ hi)
        exact (List.mem_erase_of_ne hne).2 (h3 i (by simp [hi]))
      have h5 : (l.erase z).length + 1 = l.length := by
        rw [List.length_erase_of_mem hz]
        have := List.length_pos_of_mem hz
        omega
      have h6 : (l.filter fun i => decide (i ∉ z :: zs)) = ((l.erase z).filter fun i => decide (i ∉ zs)) := by
        rw [h2.erase_eq_filter z, List.filter_filter]
        congr 1
        funext i
        by_cases e : i = z
        · subst e; simp
        · simp [e]
      rw [h6, List.length_cons]
      omega
  have h1 := key xs (s.map (·.id)) hnd hids fun i hi => by
    obtain ⟨x, hx, e⟩ := hin i hi
    exact List.mem_map.2 ⟨x, hx, e⟩
  rw [List.length_map, List.filter_map, List.length_map] at h1
  exact h1
end Go.Proofs.YthnhgjhnkncmiaaGreat

namespace Go.Proofs.YthnhgjhnkncmiaaGreat
open Go.RowKit
set_option linter.unusedVariables false

set_option maxRecDepth 100000 in
set_option maxHeartbeats 16000000 in
theorem Stock_any (A : Option Addr) (n c : Nat) (bs : List Lb) (w : World) (h : StAt w A n bs) (hn : n ≤ 64) (hok : ∀ b ∈ bs, LtOk b.x) :
    Calls Tryz.prog 72 #[.slice A n c] w (EW w) := by
  have HX := Lib.hid h.lots.recs
  have HS := Lib.hid h.sls
  have HOK := Lib.hid hok
  have HC8 := Lib.hid Code8_any
  have HGS := Lib.hid goodSlice_any
  have HJ := Lib.hid join29_any
  have HVA := Lib.hid Valid_any
  have HM := Lib.hid Meet_any
  have hxl : bs.length = n := h.lots.recs.1
  clear h hok
  go_enter Tryz.func72, Tryz.ntmps72
  have dl : decide (64 < (n : Int)) = false := by simp; omega
  go_wp2_with fail
  go_loopw [3] (fun v wx => ∃ i : Nat, v = .int .i64 (i : Int) ∧ i ≤ n ∧ Hid (RowKit.Below w.heap.size w wx)) (fun v _ => n - (intOf v).toNat)
  case atStart => exact ⟨0, rfl, Nat.zero_le _, Below.refl _ _⟩
  case round =>
    obtain ⟨i, rfl, hi, HB⟩ := hrel
    by_cases hlt : i < n
    case pos =>
      have dk : decide ((i : Int) < (n : Int)) = true := by simp; omega
      obtain ⟨b1, o1, rfl, hb1, ha⟩ := recs_at (HX.out.below HB.out) hlt
      obtain ⟨x, hx⟩ : ∃ x, bs[i]! = x := ⟨_, rfl⟩
      rw [hx] at ha
      have hxm : x ∈ bs := by rw [← hx, getElem!_pos bs i (by omega)]; exact List.getElem_mem _
      have hsx := HS.out x hxm
      have HSX : Hid (Recs encSl 3 wr x.A x.n x.x.sl) := hsx.1.recs.below HB.out
      have hnc : x.n ≤ x.c := hsx.2.1
      have hcm : x.c ≤ 9223372036854775807 := hsx.2.2
      have hxo := HOK.out x hxm
      have hx64 : x.n ≤ 64 := by rw [← hsx.1.recs.1]; exact hxo.few
      have HSO : Hid (SlsOk x.x.sl) := hxo.sls
      have hii : (i : Int) < (n : Int) := by omega
      have hiz : (0 : Int) ≤ (i : Int) := by omega
      have a0 : wr.cell? ⟨b1, o1 + i * 5, none⟩ = some (.int .i64 x.x.id) := ha.out 0 (by omega)
      have a1 : wr.cell? ⟨b1, o1 + i * 5 + 1, none⟩ = some (.string x.x.code) := ha.out 1 (by omega)
      have a2 : wr.cell? ⟨b1, o1 + i * 5 + 2, none⟩ = some (.int .i64 x.x.qty) := ha.out 2 (by omega)
      have a3 : wr.cell? ⟨b1, o1 + i * 5 + 3, none⟩ = some (.int .i64 x.x.proc) := ha.out 3 (by omega)
      have a4 : wr.cell? ⟨b1, o1 + i * 5 + 4, none⟩ = some (.slice x.A x.n x.c) := ha.out 4 (by omega)
      have d4 : decide (64 < (x.n : Int)) = false := by simp; omega
      clear ha hsx hxo
      go_wp2_with fail
      go_roundw
      case rel => exact ⟨i + 1, by go_num, by omega, HB⟩
      case measure => simp [intOf]; omega
    case neg =>
    have dk : decide ((i : Int) < (n : Int)) = false := by simp; omega
    go_wp2_with fail
    go_loopw [4] (fun v wx => ∃ i : Nat, v = .int .i64 (i : Int) ∧ i ≤ n ∧ Hid (RowKit.Below w.heap.size w wx)) (fun v _ => n - (intOf v).toNat)
    case atStart => exact ⟨0, rfl, Nat.zero_le _, HB⟩
    case round =>
      clear HB dk hi hlt
      obtain ⟨i, rfl, hi, HB⟩ := hrel
      by_cases hlt : i < n
      case pos =>
        have dk : decide ((i : Int) < (n : Int)) = true := by simp; omega
        obtain ⟨b1, o1, rfl, hb1, ha⟩ := recs_at (HX.out.below HB.out) hlt
        obtain ⟨x, hx⟩ : ∃ x, bs[i]! = x := ⟨_, rfl⟩
        rw [hx] at ha
        have hxm : x ∈ bs := by rw [← hx, getElem!_pos bs i (by omega)]; exact List.getElem_mem _
        have hsx := HS.out x hxm
        have HSX : Hid (Recs encSl 3 wr x.A x.n x.x.sl) := hsx.1.recs.below HB.out
        have hnc : x.n ≤ x.c := hsx.2.1
        have hcm : x.c ≤ 9223372036854775807 := hsx.2.2
        have hxo := HOK.out x hxm
        have hx64 : x.n ≤ 64 := by rw [← hsx.1.recs.1]; exact hxo.few
        have HSO : Hid (SlsOk x.x.sl) := hxo.sls
        have hii : (i : Int) < (n : Int) := by omega
        have hiz : (0 : Int) ≤ (i : Int) := by omega
        have a0 : wr.cell? ⟨b1, o1 + i * 5, none⟩ = some (.int .i64 x.x.id) := ha.out 0 (by omega)
        have a1 : wr.cell? ⟨b1, o1 + i * 5 + 1, none⟩ = some (.string x.x.code) := ha.out 1 (by omega)
        have a2 : wr.cell? ⟨b1, o1 + i * 5 + 2, none⟩ = some (.int .i64 x.x.qty) := ha.out 2 (by omega)
        have a3 : wr.cell? ⟨b1, o1 + i * 5 + 3, none⟩ = some (.int .i64 x.x.proc) := ha.out 3 (by omega)
        have a4 : wr.cell? ⟨b1, o1 + i * 5 + 4, none⟩ = some (.slice x.A x.n x.c) := ha.out 4 (by omega)
        have hcode : x.x.code.size ≤ 1000000 := by rw [hxo.code.1]; decide
        have e0 : decide (x.x.id < 1) = false := by have := hxo.id; simp; omega
        have e1 : decide (x.x.id > 1000000) = false := by have := hxo.id; simp; omega
        have e2 : decide (x.x.qty < 1) = false := by have := hxo.qty; simp; omega
        have e3 : decide (x.x.qty > 1000000000) = false := by have := hxo.qty; simp; omega
        have e4 : decide (x.x.proc < 1) = false := by have := hxo.proc; simp; omega
        have e5 : decide (x.x.proc > 13) = false := by have := hxo.proc; simp; omega
        clear ha hsx hxo
        have HBX : Hid (Bl (wr.alloc (.cells #[.int .i64 x.x.id, .string x.x.code, .int .i64 x.x.qty, .int .i64 x.x.proc, .slice x.A x.n x.c] 36)) wr.heap.size 36 #[.int .i64 x.x.id, .string x.x.code, .int .i64 x.x.qty, .int .i64 x.x.proc, .slice x.A x.n x.c]) := Bl.new _ _ _
        have HB5 : Hid (RowKit.Below w.heap.size w (wr.alloc (.cells #[.int .i64 x.x.id, .string x.x.code, .int .i64 x.x.qty, .int .i64 x.x.proc, .slice x.A x.n x.c] 36))) := HB.out.alloc HB.out.size _
        have HS5 : Hid (Recs encSl 3 (wr.alloc (.cells #[.int .i64 x.x.id, .string x.x.code, .int .i64 x.x.qty, .int .i64 x.x.proc, .slice x.A x.n x.c] 36)) x.A x.n x.x.sl) := HSX.out.below ((Below.refl _ _).alloc (Nat.le_refl _) _)
        go_upto_region 12 with (fail)
        clear a0 a1 a2 a3 a4 HB HSX
        generalize wr.alloc (.cells #[.int .i64 x.x.id, .string x.x.code, .int .i64 x.x.qty, .int .i64 x.x.proc, .slice x.A x.n x.c] 36) = W5 at *
        generalize wr.heap.size = gx at *
        have c0 := HBX.out.c0
        have c1 := HBX.out.c1
        have c2 := HBX.out.c2
        have c3 := HBX.out.c3
        have c4 := HBX.out.c4
        go_wp2_with fail
        refine (HC8.out x.x.code W5 hcode).mono ?_
        rintro e w6 ⟨rfl, b, rfl⟩
        cases b
        case false =>
          go_wp2
          go_ret
          exact ⟨_, rfl, HB5.out⟩
        case true =>
        go_wp2_with fail
        go_loopw [6] (fun v wx => ∃ k : Nat, v = .int .i64 (k : Int) ∧ k ≤ x.n ∧ Hid (RowKit.Below w6.heap.size w6 wx)) (fun v _ => x.n - (intOf v).toNat)
        case atStart => exact ⟨0, rfl, Nat.zero_le _, Below.refl _ _⟩
        case round =>
          clear c0 c1 c2 c3 c4
          obtain ⟨k, rfl, hk, HB6⟩ := hrel
          have c4 : wr.cell? ⟨gx, 4, none⟩ = some (.slice x.A x.n x.c) := (HB6.out.cell (p := ⟨gx, 4, none⟩) HBX.out.lt).trans HBX.out.c4
          by_cases hlk : k < x.n
          case neg =>
            have dk2 : decide ((k : Int) < (x.n : Int)) = false := by simp; omega
            go_wp2_with fail
            go_roundw
            case rel => exact ⟨i + 1, by go_num, by omega, HB5.out.trans (HB6.out.mono HB5.out.size)⟩
            case measure => simp [intOf]; omega
          case pos =>
          have dk2 : decide ((k : Int) < (x.n : Int)) = true := by simp; omega
          obtain ⟨b2, o2, hA2, hb2, hb⟩ := recs_at (HS5.out.below HB6.out) hlk
          obtain ⟨y, hy⟩ : ∃ y, x.x.sl[k]! = y := ⟨_, rfl⟩
          rw [hy] at hb
          rw [hA2] at c4
          have f0 : wr.cell? ⟨b2, o2 + k * 3, none⟩ = some (.int .i64 y.src) := hb.out 0 (by omega)
          have f1 : wr.cell? ⟨b2, o2 + k * 3 + 1, none⟩ = some (.int .i64 y.fr) := hb.out 1 (by omega)
          have f2 : wr.cell? ⟨b2, o2 + k * 3 + 2, none⟩ = some (.int .i64 y.to) := hb.out 2 (by omega)
          have hkk : (k : Int) < (x.n : Int) := by omega
          have hkz : (0 : Int) ≤ (k : Int) := by omega
          clear hb hy hA2
          go_wp2_with fail
          refine (HGS.out y wr).mono ?_
          rintro e w8 ⟨rfl, hb8⟩
          cases slOk y
          case false =>
            go_wp2
            go_ret
            exact ⟨_, rfl, (HB5.out.trans (HB6.out.mono HB5.out.size)).trans (hb8.mono (HB5.out.trans (HB6.out.mono HB5.out.size)).size)⟩
          case true =>
            have HB8 : Hid (RowKit.Below w6.heap.size w6 w8) := HB6.out.trans (hb8.mono HB6.out.size)
            clear hb8
            go_wp2_with fail
            go_roundw
            case rel => exact ⟨k + 1, by go_num, by omega, HB8⟩
            case measure => simp [intOf]; omega
      case neg =>
      have dk : decide ((i : Int) < (n : Int)) = false := by simp; omega
      go_wp2_with fail
      go_loopw [7] (fun v wx => ∃ i : Nat, v = .int .i64 (i : Int) ∧ i ≤ n ∧ Hid (RowKit.Below w.heap.size w wx)) (fun v _ => n - (intOf v).toNat)
      case atStart => exact ⟨0, rfl, Nat.zero_le _, HB⟩
      case round =>
        clear HB dk hi hlt
        obtain ⟨i, rfl, hi, HB⟩ := hrel
        by_cases hlt : i < n
        case pos =>
          have dk : decide ((i : Int) < (n : Int)) = true := by simp; omega
          obtain ⟨b1, o1, rfl, hb1, ha⟩ := recs_at (HX.out.below HB.out) hlt
          obtain ⟨x, hx⟩ : ∃ x, bs[i]! = x := ⟨_, rfl⟩
          rw [hx] at ha
          have hxm : x ∈ bs := by rw [← hx, getElem!_pos bs i (by omega)]; exact List.getElem_mem _
          have hsx := HS.out x hxm
          have HSX : Hid (Recs encSl 3 wr x.A x.n x.x.sl) := hsx.1.recs.below HB.out
          have hnc : x.n ≤ x.c := hsx.2.1
          have hcm : x.c ≤ 9223372036854775807 := hsx.2.2
          have hxo := HOK.out x hxm
          have hx64 : x.n ≤ 64 := by rw [← hsx.1.recs.1]; exact hxo.few
          have HSO : Hid (SlsOk x.x.sl) := hxo.sls
          have hii : (i : Int) < (n : Int) := by omega
          have hiz : (0 : Int) ≤ (i : Int) := by omega
          have a0 : wr.cell? ⟨b1, o1 + i * 5, none⟩ = some (.int .i64 x.x.id) := ha.out 0 (by omega)
          have a1 : wr.cell? ⟨b1, o1 + i * 5 + 1, none⟩ = some (.string x.x.code) := ha.out 1 (by omega)
          have a2 : wr.cell? ⟨b1, o1 + i * 5 + 2, none⟩ = some (.int .i64 x.x.qty) := ha.out 2 (by omega)
          have a3 : wr.cell? ⟨b1, o1 + i * 5 + 3, none⟩ = some (.int .i64 x.x.proc) := ha.out 3 (by omega)
          have a4 : wr.cell? ⟨b1, o1 + i * 5 + 4, none⟩ = some (.slice x.A x.n x.c) := ha.out 4 (by omega)
          clear ha hsx hxo a0 a1 a2 a3
          have HBD : Hid (RowKit.Below wr.heap.size wr wr.drew) := (Below.refl _ _).drew
          have HJJ : Hid (∀ wz, wz = wr.drew → Calls Tryz.prog 82 #[.slice x.A x.n x.c] wz (SlRes29 wz (joinS x.x.sl))) := fun wz e => by subst e; exact HJ.out x.A x.n x.c x.x.sl wr.drew (HSX.out.below HBD.out) (by omega)
          go_upto_region 22 with (fail)
          go_region_with (go_at_call 82; refine (HJJ.out _ rfl).mono ?_; rintro e w8 ⟨B8, d8, rfl, ho8, hb8⟩; have HB8 : Hid (RowKit.Below wr.heap.size wr w8) := HBD.out.trans hb8; have g4 : w8.cell? ⟨b1, o1 + i * 5 + 4, none⟩ = some (.slice x.A x.n x.c) := (HB8.out.cell (p := ⟨b1, o1 + i * 5 + 4, none⟩) hb1).trans a4; clear ho8 hb8)
          all_goals
            generalize (joinS x.x.sl).length = jl at *
            cases dj : (((jl : Nat) : Int) != (x.n : Int))
            · go_wp2_with fail
              go_roundw
              case rel => exact ⟨i + 1, by go_num, by omega, HB.out.trans (HB8.out.mono HB.out.size)⟩
              case measure => simp [intOf]; omega
            · go_wp2
              go_ret
              exact ⟨_, rfl, HB.out.trans (HB8.out.mono HB.out.size)⟩
        case neg =>
        have dk : decide ((i : Int) < (n : Int)) = false := by simp; omega
        go_wp2_with fail
        go_loopw [8] (fun v wx => ∃ i : Nat, v = .int .i64 (i : Int) ∧ 1 ≤ i ∧ Hid (RowKit.Below w.heap.size w wx)) (fun v _ => n - (intOf v).toNat)
        case atStart => exact ⟨1, rfl, Nat.le_refl _, HB⟩
        case round =>
          clear HB dk hi hlt
          obtain ⟨i, rfl, hi, HB⟩ := hrel
          by_cases hlt : i < n
          case pos =>
            have dk : decide ((i : Int) < (n : Int)) = true := by simp; omega
            obtain ⟨b1, o1, rfl, hb1, ha⟩ := recs_at (HX.out.below HB.out) hlt
            obtain ⟨b2, o2, hA2, hb2, hb⟩ := recs_at (HX.out.below HB.out) (show i - 1 < n by omega)
            injection hA2 with hA2
            injection hA2 with h3 h4
            subst h3 h4
            have a0 : wr.cell? ⟨b1, o1 + i * 5, none⟩ = some (.int .i64 bs[i]!.x.id) := ha.out 0 (by omega)
            have c0 : wr.cell? ⟨b1, o1 + (i - 1) * 5, none⟩ = some (.int .i64 bs[i - 1]!.x.id) := hb.out 0 (by omega)
            generalize bs[i]!.x.id = y at a0
            generalize bs[i - 1]!.x.id = z at c0
            have hk1 : (i : Int) - 1 = ((i - 1 : Nat) : Int) := by omega
            have u1 : IntKind.i64.wrap ((i : Int) - 1) = ((i - 1 : Nat) : Int) := by rw [hk1]; exact IntWalk.i64_in _ (by omega)
            have hkk : ((i - 1 : Nat) : Int) < (n : Int) := by omega
            have hkz : (0 : Int) ≤ ((i - 1 : Nat) : Int) := by omega
            have hii : (i : Int) < (n : Int) := by omega
            have hiz : (0 : Int) ≤ (i : Int) := by omega
            clear ha hb hk1
            cases dj : decide (y ≤ z)
            · go_upto_region 27 with (fail)
              go_quiet (fail)
              go_wp2_with fail
              go_roundw
              case rel => exact ⟨i + 1, by go_num, by omega, below_drewN HB.out _⟩
              case measure => simp [intOf]; omega
            · go_upto_region 27 with (fail)
              go_quiet (fail)
              go_wp2
              go_ret
              exact ⟨_, rfl, below_drewN HB.out _⟩
          case neg =>
          have dk : decide ((i : Int) < (n : Int)) = false := by simp; omega
          go_wp2_with fail
          go_loopw [9] (fun v wx => ∃ i : Nat, v = .int .i64 (i : Int) ∧ i ≤ n ∧ Hid (RowKit.Below w.heap.size w wx)) (fun v _ => n - (intOf v).toNat)
          case atStart => exact ⟨0, rfl, Nat.zero_le _, HB⟩
          case round =>
            clear HB dk hi hlt
            obtain ⟨i, rfl, hi, HB⟩ := hrel
            by_cases hlt : i < n
            case neg =>
              have dk : decide ((i : Int) < (n : Int)) = false := by simp; omega
              go_wp2
              go_ret
              exact ⟨_, rfl, HB.out⟩
            case pos =>
            have dk : decide ((i : Int) < (n : Int)) = true := by simp; omega
            obtain ⟨b1, o1, rfl, hb1, ha⟩ := recs_at (HX.out.below HB.out) hlt
            obtain ⟨x, hx⟩ : ∃ x, bs[i]! = x := ⟨_, rfl⟩
            rw [hx] at ha
            have hxm : x ∈ bs := by rw [← hx, getElem!_pos bs i (by omega)]; exact List.getElem_mem _
            have hsx := HS.out x hxm
            have HSX : Hid (Recs encSl 3 wr x.A x.n x.x.sl) := hsx.1.recs.below HB.out
            have hnc : x.n ≤ x.c := hsx.2.1
            have hcm : x.c ≤ 9223372036854775807 := hsx.2.2
            have hxo := HOK.out x hxm
            have hx64 : x.n ≤ 64 := by rw [← hsx.1.recs.1]; exact hxo.few
            have HSO : Hid (SlsOk x.x.sl) := hxo.sls
            have hii : (i : Int) < (n : Int) := by omega
            have hiz : (0 : Int) ≤ (i : Int) := by omega
            have a0 : wr.cell? ⟨b1, o1 + i * 5, none⟩ = some (.int .i64 x.x.id) := ha.out 0 (by omega)
            have a1 : wr.cell? ⟨b1, o1 + i * 5 + 1, none⟩ = some (.string x.x.code) := ha.out 1 (by omega)
            have a2 : wr.cell? ⟨b1, o1 + i * 5 + 2, none⟩ = some (.int .i64 x.x.qty) := ha.out 2 (by omega)
            have a3 : wr.cell? ⟨b1, o1 + i * 5 + 3, none⟩ = some (.int .i64 x.x.proc) := ha.out 3 (by omega)
            have a4 : wr.cell? ⟨b1, o1 + i * 5 + 4, none⟩ = some (.slice x.A x.n x.c) := ha.out 4 (by omega)
            have HPX : Hid (x.x.proc ≤ 12) := hxo.proc.2
            clear ha hsx hxo a0 a1 a2
            go_wp2_with fail
            refine (HVA.out x.A x.n x.c x.x.sl wr HSX.out hnc hcm).mono ?_
            rintro e w8 ⟨rfl, hb8⟩
            have HB8 : Hid (RowKit.Below w.heap.size w w8) := HB.out.trans (hb8.mono HB.out.size)
            have HS8 : Hid (Recs encSl 3 w8 x.A x.n x.x.sl) := HSX.out.below hb8
            have hb18 : b1 < w8.heap.size := Nat.lt_of_lt_of_le hb1 hb8.size
            have g3 : w8.cell? ⟨b1, o1 + i * 5 + 3, none⟩ = some (.int .i64 x.x.proc) := (hb8.cell (p := ⟨b1, o1 + i * 5 + 3, none⟩) hb1).trans a3
            have g4 : w8.cell? ⟨b1, o1 + i * 5 + 4, none⟩ = some (.slice x.A x.n x.c) := (hb8.cell (p := ⟨b1, o1 + i * 5 + 4, none⟩) hb1).trans a4
            clear hb8 HB HSX a3 a4 hb1
            cases de : (slErr x.x.sl == 0)
            case false =>
              generalize slErr x.x.sl = er at *
              go_wp2
              go_ret
              exact ⟨_, rfl, HB8.out⟩
            case true =>
            have he0 : slErr x.x.sl = 0 := by simpa using de
            rw [he0]
            clear de he0
            go_wp2_with fail
            go_loopw [10] (fun v wx => ∃ k : Nat, v = .int .i64 (k : Int) ∧ k ≤ i ∧ Hid (RowKit.Below w8.heap.size w8 wx)) (fun v _ => i - (intOf v).toNat)
            case atStart => exact ⟨0, rfl, Nat.zero_le _, Below.refl _ _⟩
            case round =>
              obtain ⟨k, rfl, hk, HBK⟩ := hrel
              by_cases hlk : k < i
              case neg =>
                have dk2 : decide ((k : Int) < (i : Int)) = false := by simp; omega
                go_wp2_with fail
                go_roundw
                case rel => exact ⟨i + 1, by go_num, by omega, HB8.out.trans (HBK.out.mono HB8.out.size)⟩
                case measure => simp [intOf]; omega
              case pos =>
              have dk2 : decide ((k : Int) < (i : Int)) = true := by simp; omega
              have HBT : Hid (RowKit.Below w.heap.size w wr) := HB8.out.trans (HBK.out.mono HB8.out.size)
              have a3 : wr.cell? ⟨b1, o1 + i * 5 + 3, none⟩ = some (.int .i64 x.x.proc) := (HBK.out.cell (p := ⟨b1, o1 + i * 5 + 3, none⟩) hb18).trans g3
              have a4 : wr.cell? ⟨b1, o1 + i * 5 + 4, none⟩ = some (.slice x.A x.n x.c) := (HBK.out.cell (p := ⟨b1, o1 + i * 5 + 4, none⟩) hb18).trans g4
              obtain ⟨b2, o2, hA2, hb2, hb⟩ := recs_at (HX.out.below HBT.out) (show k < n by omega)
              injection hA2 with hA2
              injection hA2 with h3 h4
              subst h3 h4
              obtain ⟨y, hy⟩ : ∃ y, bs[k]! = y := ⟨_, rfl⟩
              rw [hy] at hb
              have hym : y ∈ bs := by rw [← hy, getElem!_pos bs k (by omega)]; exact List.getElem_mem _
              have hsy := HS.out y hym
              have HSY : Hid (Recs encSl 3 wr y.A y.n y.x.sl) := hsy.1.recs.below HBT.out
              have hyn : y.n ≤ 9223372036854775807 := by omega
              have c3 : wr.cell? ⟨b1, o1 + k * 5 + 3, none⟩ = some (.int .i64 y.x.proc) := hb.out 3 (by omega)
              have c4 : wr.cell? ⟨b1, o1 + k * 5 + 4, none⟩ = some (.slice y.A y.n y.c) := hb.out 4 (by omega)
              have HPY : Hid (y.x.proc ≤ 12) := (HOK.out y hym).proc.2
              have e1 : (x.x.proc != 13) = true := by have := HPX.out; simp; omega
              have e2 : (y.x.proc != 13) = true := by have := HPY.out; simp; omega
              have hkk : (k : Int) < (n : Int) := by omega
              have hkz : (0 : Int) ≤ (k : Int) := by omega
              have hxn : x.n ≤ 9223372036854775807 := by omega
              clear hb hy hsy hym hxm
              have HBD : Hid (RowKit.Below wr.heap.size wr wr.drew) := (Below.refl _ _).drew
              have HMM : Hid (∀ wz, wz = wr.drew → Calls Tryz.prog 11 #[.slice x.A x.n x.c, .slice y.A y.n y.c] wz (BRes wz (decide (MeetsL x.x.sl y.x.sl)))) := fun wz e => by subst e; exact HM.out x.A x.n x.c x.x.sl y.A y.n y.c y.x.sl wr.drew ((HS8.out.below HBK.out).below HBD.out) (HSY.out.below HBD.out) hxn hyn
              go_upto_region 37 with (fail)
              go_still_tail 25, (by kernel_rfl)
              change wpList _ _ _ _ _ wr.drew
              clear a3 a4 c3 c4
              go_wp2_with fail
              refine (HMM.out _ rfl).mono ?_
              rintro e w9 ⟨rfl, hb9⟩
              have HB9 : Hid (RowKit.Below wr.heap.size wr w9) := HBD.out.trans hb9
              clear hb9
              all_goals
                generalize decide (MeetsL x.x.sl y.x.sl) = bm at *
                cases bm
                · go_wp2_with fail
                  go_roundw
                  case rel => exact ⟨k + 1, by go_num, by omega, HBK.out.trans (HB9.out.mono HBK.out.size)⟩
                  case measure => simp [intOf]; omega
                · go_wp2
                  go_ret
                  exact ⟨_, rfl, HBT.out.trans (HB9.out.mono HBT.out.size)⟩
end Go.Proofs.YthnhgjhnkncmiaaGreat

namespace Go.Proofs.YthnhgjhnkncmiaaGreat
open Go.RowKit
set_option linter.unusedVariables false

set_option maxRecDepth 100000 in
set_option maxHeartbeats 16000000 in
theorem Present_any (A : Option Addr) (n c : Nat) (bs : List Lb) (cs : List Ch) (free q : Int) (code : ByteArray) (w : World) (h : StM w A n c bs) (he : EstOk (lotsOf bs) cs free) (hc : code8 code) :
    Calls Tryz.prog 47 #[.slice A n c, .int .i64 free, .string code, .int .i64 q] w (ActR w fun s => EstOk s (cs ++ [⟨free, q, 0⟩]) (free + 1)) := by
  have HX := Lib.hid h
  have HE := Lib.hid he
  have hbl : bs.length = n := h.len
  have hn : n ≤ 64 := by have := he.few; omega
  have HSK := Lib.hid (Stock_any A n c bs w h.st hn he.ok)
  have HC8 := Lib.hid Code8_any
  have HTK := Lib.hid Taken_any
  have HPU := Lib.hid Put_any
  have hcs : code.size ≤ 1000000 := by rw [hc.1]; decide
  have HC := Lib.hid hc
  have hpos : 1 ≤ free := he.pos
  clear h he hc
  go_enter Tryz.func47, Tryz.ntmps47
  go_wp2_with fail
  refine HSK.out.mono ?_
  rintro e w1 ⟨er, rfl, hb1⟩
  have HB1 := Lib.hid hb1
  clear hb1 HSK
  cases de : (er == 0)
  case false =>
    have hne : er ≠ 0 := by simpa using de
    have HNE := Lib.hid hne
    clear hne
    go_wp2
    go_ret2
    exact ActR.bad HNE.out HB1.out
  case true =>
  have d0 : decide (free < 1) = false := by simp; omega
  by_cases g1 : 1000000 < free
  case pos =>
    have d1 : decide (free > 1000000) = true := decide_eq_true g1
    go_wp2
    go_ret2
    exact ActR.bad (by decide) HB1.out
  case neg =>
  have d1 : decide (free > 1000000) = false := decide_eq_false g1
  go_wp2_with fail
  refine (HC8.out code w1 hcs).mono ?_
  rintro e w2 ⟨rfl, b, rfl⟩
  cases b
  case false =>
    go_wp2
    go_ret2
    exact ActR.bad (by decide) HB1.out
  case true =>
  by_cases g2 : q < 1
  case pos =>
    have d2 : decide (q < 1) = true := decide_eq_true g2
    go_wp2
    go_ret2
    exact ActR.bad (by decide) HB1.out
  case neg =>
  have d2 : decide (q < 1) = false := decide_eq_false g2
  by_cases g3 : 1000000000 < q
  case pos =>
    have d3 : decide (q > 1000000000) = true := decide_eq_true g3
    go_wp2
    go_ret2
    exact ActR.bad (by decide) HB1.out
  case neg =>
  have d3 : decide (q > 1000000000) = false := decide_eq_false g3
  have HS2 : Hid (StAt w2 A n bs) := HX.out.st.below HB1.out
  go_wp2_with fail
  refine (HTK.out A n c bs free w2 HS2.out (by omega)).mono ?_
  rintro e w3 ⟨rfl, b, rfl⟩
  cases b
  case true =>
    go_wp2
    go_ret2
    exact ActR.bad (by decide) HB1.out
  case false =>
  by_cases g4 : 64 ≤ n
  case pos =>
    have d4 : decide ((n : Int) ≥ 64) = true := by simp; omega
    have d5 : decide (64 ≤ (n : Int)) = true := by simp; omega
    go_wp2
    go_ret2
    exact ActR.bad (by decide) HB1.out
  case neg =>
  have d4 : decide (64 ≤ (n : Int)) = false := by simp; omega
  obtain ⟨nb, hnb⟩ : ∃ nb : Lb, nb = ⟨⟨free, code, q, 1, [⟨free, 0, q⟩]⟩, some ⟨w3.heap.size, 0, none⟩, 1, 1⟩ := ⟨_, rfl⟩
  have HNB := Lib.hid hnb
  clear hnb
  have HB4 : Hid (RowKit.Below w.heap.size w ((w3.alloc (.cells #[.int .i64 free, .int .i64 0, .int .i64 q] 68)).alloc (.cells #[.int .i64 free, .string code, .int .i64 q, .int .i64 1, .slice (some ⟨w3.heap.size, 0, none⟩) 1 1] 36))) := (HB1.out.alloc HB1.out.size _).alloc (Nat.le_trans HB1.out.size (by simp)) _
  have HSL4 : Hid (Bl ((w3.alloc (.cells #[.int .i64 free, .int .i64 0, .int .i64 q] 68)).alloc (.cells #[.int .i64 free, .string code, .int .i64 q, .int .i64 1, .slice (some ⟨w3.heap.size, 0, none⟩) 1 1] 36)) w3.heap.size 68 (flat encSl [⟨free, 0, q⟩]).toArray) := Bl.alloc (Bl.new w3 _ _) _
  have HLT4 : Hid (Bl ((w3.alloc (.cells #[.int .i64 free, .int .i64 0, .int .i64 q] 68)).alloc (.cells #[.int .i64 free, .string code, .int .i64 q, .int .i64 1, .slice (some ⟨w3.heap.size, 0, none⟩) 1 1] 36)) (w3.heap.size + 1) 36 (flat encL [nb]).toArray) := by
    show Bl _ _ _ _
    rw [HNB.out]
    have := Bl.new (w3.alloc (.cells #[.int .i64 free, .int .i64 0, .int .i64 q] 68)) 36 #[.int .i64 free, .string code, .int .i64 q, .int .i64 1, .slice (some ⟨w3.heap.size, 0, none⟩) 1 1]
    have e : (w3.alloc (.cells #[.int .i64 free, .int .i64 0, .int .i64 q] 68)).heap.size = w3.heap.size + 1 := by simp
    rw [e] at this
    exact this
  go_wp2_with fail
  generalize (w3.alloc (.cells #[.int .i64 free, .int .i64 0, .int .i64 q] 68)).alloc (.cells #[.int .i64 free, .string code, .int .i64 q, .int .i64 1, .slice (some ⟨w3.heap.size, 0, none⟩) 1 1] 36) = w4 at *
  have HORD : Hid ((bs ++ [nb]).Pairwise (fun a b => a.x.id < b.x.id)) := by
    show List.Pairwise _ _
    rw [List.pairwise_append]
    exact ⟨HE.out.pair, List.pairwise_singleton _ _, fun a ha b hb => by rw [List.mem_singleton] at hb; subst hb; rw [HNB.out]; exact HE.out.idb a ha⟩
  refine (HPU.out A n c bs (some ⟨w3.heap.size + 1, 0, none⟩) 1 1 [nb] w4 (HX.out.st.lots.recs.below HB4.out) (recs_lit encL_len HLT4.out) (by omega) (by omega) HORD.out).mono ?_
  rintro e w5 ⟨B, d, rfl, ho5, hb5⟩
  have HB5 : Hid (RowKit.Below w.heap.size w w5) := HB4.out.trans (hb5.mono HB4.out.size)
  have HM5 : Hid (StM w5 B (bs ++ [nb]).length d (bs ++ [nb])) := StM.own ho5 fun b hb => by
    rcases List.mem_append.1 hb with hb | hb
    · exact sl_below (HX.out.sl b hb) HB5.out
    · rw [List.mem_singleton] at hb
      subst hb
      have hbl5 : Bl w5 w3.heap.size 68 (flat encSl [⟨free, 0, q⟩]).toArray := (hb5.block _ HSL4.out.lt).trans HSL4.out
      rw [HNB.out]
      exact ⟨⟨rrd_of (recs_lit encSl_len hbl5) Nat.one_pos, Nat.le_refl 1, show (1 : Nat) ≤ 9223372036854775807 by decide⟩, TyA.bl hbl5⟩
  have HR5 : Hid (EstOk (lotsOf (bs ++ [nb])) (cs ++ [⟨free, q, 0⟩]) (free + 1)) := by
    show EstOk _ _ _
    have e1 : lotsOf (bs ++ [nb]) = lotsOf bs ++ [⟨free, code, q, 1, [⟨free, 0, q⟩]⟩] := by unfold lotsOf; rw [List.map_append, HNB.out]; rfl
    rw [e1]
    exact HE.out.present (by omega) HC.out (by omega) (by omega) (by unfold lotsOf; rw [List.length_map]; omega)
  clear ho5 hb5
  generalize bs ++ [nb] = bs5 at *
  go_wp2
  go_ret2
  exact ⟨B, d, 0, bs5, rfl, fun _ => ⟨HM5.out, HR5.out⟩, HB5.out⟩
theorem lots_set (bs : List Lb) (k : Nat) (hk : k < bs.length) (p : Int) : lotsOf (bs.set k { bs[k]! with x := { bs[k]!.x with proc := p } }) = (lotsOf bs).set k { (lotsOf bs)[k]! with proc := p } := by
  unfold lotsOf
  rw [List.map_set]
  congr 1
  rw [getElem!_pos bs k hk, getElem!_pos (bs.map (·.x)) k (by rw [List.length_map]; exact hk), List.getElem_map]
set_option maxRecDepth 100000 in
set_option maxHeartbeats 16000000 in
theorem Move_any (A : Option Addr) (n c : Nat) (bs : List Lb) (cs : List Ch) (free id a : Int) (w : World) (h : StM w A n c bs) (he : EstOk (lotsOf bs) cs free) (ha0 : 1 ≤ a) (ha1 : a ≤ 14) (ha4 : a ≠ 4) :
    Calls Tryz.prog 49 #[.slice A n c, .int .i64 id, .int .i64 a] w (ActR w fun s => EstOk s cs free) := by
  have HX := Lib.hid h
  have HE := Lib.hid he
  have hbl : bs.length = n := h.len
  have hn : n ≤ 64 := by have := he.few; omega
  have HSK := Lib.hid (Stock_any A n c bs w h.st hn he.ok)
  have HAT := Lib.hid At_any
  have HNX := Lib.hid Next_any
  have HA := Lib.hid (And.intro ha0 (And.intro ha1 ha4))
  clear h he ha0 ha1 ha4
  go_enter Tryz.func49, Tryz.ntmps49
  go_wp2_with fail
  refine HSK.out.mono ?_
  rintro e w1 ⟨er, rfl, hb1⟩
  have HB1 := Lib.hid hb1
  clear hb1 HSK
  cases de : (er == 0)
  case false =>
    have hne : er ≠ 0 := by simpa using de
    have HNE := Lib.hid hne
    clear hne
    go_wp2
    go_ret2
    exact ActR.bad HNE.out HB1.out
  case true =>
  have HR1 : Hid (Recs encL 5 w1 A n bs) := HX.out.st.lots.recs.below HB1.out
  go_wp2_with fail
  refine (HAT.out A n c bs id w1 HR1.out (by omega)).mono ?_
  rintro e w2 ⟨rfl, ⟨rfl, hno⟩ | ⟨i, hi, rfl, hid⟩⟩
  · go_wp2
    go_ret2
    exact ActR.bad (by decide) HB1.out
  have di : decide ((i : Int) < 0) = false := decide_eq_false (by omega)
  obtain ⟨b1, o1, rfl, hb1, ha⟩ := recs_at HR1.out hi
  obtain ⟨x, hx⟩ : ∃ x, bs[i]! = x := ⟨_, rfl⟩
  rw [hx] at ha
  have a3 : w2.cell? ⟨b1, o1 + i * 5 + 3, none⟩ = some (.int .i64 x.x.proc) := ha.out 3 (by omega)
  have hxm : x ∈ bs := by rw [← hx, getElem!_pos bs i (by omega)]; exact List.getElem_mem _
  have HP : Hid (1 ≤ x.x.proc ∧ x.x.proc ≤ 12) := (HE.out.ok x hxm).proc
  have hii : (i : Int) < (n : Int) := by omega
  have hiz : (0 : Int) ≤ (i : Int) := by omega
  have HXI := Lib.hid hx
  clear ha hxm hid hx
  go_wp2_with fail
  refine (HNX.out x.x.proc a w2 HP.out.1 HP.out.2 HA.out.1 HA.out.2.1 HA.out.2.2).mono ?_
  rintro e w3 ⟨t, er2, rfl, hok, hb3⟩
  have HB3 : Hid (RowKit.Below w.heap.size w w3) := HB1.out.trans (hb3.mono HB1.out.size)
  clear hb3 a3 HR1
  cases de2 : (er2 == 0)
  case false =>
    have hne : er2 ≠ 0 := by simpa using de2
    have HNE := Lib.hid hne
    clear hne hok
    go_wp2
    go_ret2
    exact ActR.bad HNE.out HB3.out
  case true =>
  have HTP := Lib.hid (hok (by simpa using de2))
  clear hok
  have HOW : Hid ((w3.alloc (Obj.cells #[] 36)).ownsRow w.heap.size 36 5 (.slice (some ⟨w3.heap.size, 0, none⟩) 0 0) 0 []) := own_empty (Bl.new _ _ _) HB3.out.size
  have HBA : Hid (RowKit.Below w.heap.size w (w3.alloc (Obj.cells #[] 36))) := HB3.out.alloc HB3.out.size _
  have HRD : Hid (Rd (w3.alloc (Obj.cells #[] 36)) 5 (some ⟨b1, o1, none⟩) n (flat encL bs)) := (rd_of_recs encL_len (by decide) HX.out.st.lots.recs).keep HBA.out
  have HON : Hid (∀ v ∈ flat encL bs, v.oneCell' = true) := flat_oneK encL_one bs
  go_upto_region 11 with (at_builtin; refine wpList_append_rd _ rfl (.tmp 35) (.tmp 36) 23 rfl w.heap.size 36 _ 5 64 Tryz.underlying23 infoLt rfl (by decide) (.slice (some ⟨w3.heap.size, 0, none⟩) 0 0) 0 [] rfl HOW.out (some ⟨b1, o1, none⟩) n c (flat encL bs) rfl HRD.out HON.out (by unfold maxLen; omega) (by omega) HBA.out.size ?_; intro v4 w4 ho4 hg4 hv4; obtain ⟨C4, d4, rfl⟩ := own_slice ho4)
  have HB4 : Hid (RowKit.Below w.heap.size w w4) := HBA.out.grown hg4 HBA.out.size (fun j hj => own_base HOW.out j hj)
  have HO4 : Hid (w4.ownsRow w.heap.size 36 5 (.slice C4 n d4) n (flat encL bs)) := by have := ho4; rwa [Nat.zero_add, List.nil_append] at this
  clear ho4 hg4 hv4 HOW HBA HRD HON
  obtain ⟨g, rfl⟩ := own_addr HO4.out (by omega)
  have hil : i < bs.length := by omega
  have c3 : w4.cell? ⟨g, i * 5 + 3, none⟩ = some (.int .i64 x.x.proc) := by have := own_cellK (c := 3) encL_len HO4.out hil (by decide) hbl; rw [HXI.out] at this; exact this
  have cf3 : w4.frozen? ⟨g, i * 5 + 3, none⟩ = false := HO4.out.frozenAt _
  have HO5 : Hid ((w4.setCell ⟨g, i * 5 + 3, none⟩ (.int .i64 t)).ownsRow w.heap.size 36 5 (.slice (some ⟨g, 0, none⟩) n d4) n (flat encL (bs.set i { bs[i]! with x := { bs[i]!.x with proc := t } }))) := own_setK (c := 3) encL_len HO4.out (by decide) hil rfl
  have HB5 : Hid (RowKit.Below w.heap.size w (w4.setCell ⟨g, i * 5 + 3, none⟩ (.int .i64 t))) := HB4.out.setCell (p := ⟨g, i * 5 + 3, none⟩) (own_base HO4.out g rfl) _
  have HL5 : Hid ((bs.set i { bs[i]! with x := { bs[i]!.x with proc := t } }).length = n) := by show _ = _; rw [List.length_set]; exact hbl
  have HM5 : Hid (StM (w4.setCell ⟨g, i * 5 + 3, none⟩ (.int .i64 t)) (some ⟨g, 0, none⟩) n d4 (bs.set i { bs[i]! with x := { bs[i]!.x with proc := t } })) := by
    have ho := HO5.out
    have hl := HL5.out
    have h1 : StM (w4.setCell ⟨g, i * 5 + 3, none⟩ (.int .i64 t)) (some ⟨g, 0, none⟩) (bs.set i { bs[i]! with x := { bs[i]!.x with proc := t } }).length d4 (bs.set i { bs[i]! with x := { bs[i]!.x with proc := t } }) := StM.own (by rw [hl]; exact ho) fun b hb => by
      rcases List.mem_or_eq_of_mem_set hb with hb | hb
      · exact sl_below (HX.out.sl b hb) HB5.out
      · subst hb
        have := sl_below (HX.out.sl bs[i]! (by rw [getElem!_pos bs i hil]; exact List.getElem_mem _)) HB5.out
        exact this
    rwa [hl] at h1
  have HR5 : Hid (EstOk (lotsOf (bs.set i { bs[i]! with x := { bs[i]!.x with proc := t } })) cs free) := by
    show EstOk _ _ _
    rw [lots_set bs i hil]
    exact HE.out.move (by unfold lotsOf; rw [List.length_map]; exact hil) HTP.out
  generalize bs.set i { bs[i]! with x := { bs[i]!.x with proc := t } } = bs5 at *
  have hbl5 := HL5.out
  go_wp2
  go_ret2
  subst hbl5
  exact ⟨some ⟨g, 0, none⟩, d4, 0, bs5, rfl, fun _ => ⟨HM5.out, HR5.out⟩, HB5.out⟩
end Go.Proofs.YthnhgjhnkncmiaaGreat

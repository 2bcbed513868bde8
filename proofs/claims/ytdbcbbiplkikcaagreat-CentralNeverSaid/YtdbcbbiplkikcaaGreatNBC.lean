/-
  The contract of customslaw37.messages for messages that offices might send, weak: what it makes has no texts and no lists. No statement of the seat is proved here. Conditions: the list reads as integers, its length is at most its capacity.
  The contract of customslaw37.awake: it returns true. No statement of the seat is proved here. No conditions.
-/
import Derived.Test.YtdbcbbiplkikcaaGreatNBB
import Derived.Test.YtdbcbbiplkikcaaGreatNAL
import Derived.Test.YtdbcbbiplkikcaaGreatNAX
import Derived.Test.YtdbcbbiplkikcaaGreatNAS
import Derived.Test.YtdbcbbiplkikcaaGreatNAN
namespace Go.Proofs.YtdbcbbiplkikcaaGreat
open Go.RowKit
set_option linter.unusedVariables false

set_option maxHeartbeats 1000000 in
theorem left37_any (g : Nat) (A : Option Addr) (n c I : Nat) (w : World) (hS : Src w g A n c I) (hn : n ≤ 9223372036854775807) :
    Calls Tryz.prog 26 #[.pointer (some ⟨g, 0, none⟩)] w fun e w' => e = .returned (.bool (decide (I < n))) ∧ ∃ q, w' = w.drewN q := by
  have c0 : w.cell? ⟨g, 0, none⟩ = some (.slice A n c) := hS.cell 0
  have c1 : w.cell? ⟨g, 1, none⟩ = some (.int .i64 I) := hS.cell 1
  cases hd : decide (I < n)
  · have hd' : decide ((I : Int) < (n : Int)) = false := by simp at hd ⊢; omega
    go_enter Tryz.func26, Tryz.ntmps26
    go_wp2
    go_quiet (fail)
    go_wp2
    go_ret
    exact ⟨rfl, _, rfl⟩
  · have hd' : decide ((I : Int) < (n : Int)) = true := by simp at hd ⊢; omega
    go_enter Tryz.func26, Tryz.ntmps26
    go_wp2
    go_quiet (fail)
    go_wp2
    go_ret
    exact ⟨rfl, _, rfl⟩

structure MgPlain (m : Mg) : Prop where
  code : m.code = ByteArray.empty
  ctry : m.ctry = ByteArray.empty
  LA : m.LA = none
  ln : m.ln = 0
  lc : m.lc = 0
  text : m.text = ByteArray.empty
theorem MgPlain.in_ {m : Mg} (h : MgPlain m) (w : World) : MgIn w m := by
  refine ⟨⟨[], ?_⟩, ?_, ?_, ?_, ?_⟩
  · rw [h.LA, h.ln]; exact IntsK.nil
  · rw [h.code]; decide
  · rw [h.ctry]; decide
  · rw [h.ln]; omega
  · rw [h.text]; decide
theorem MgPlain.amt {m : Mg} (h : MgPlain m) (x : Int) : MgPlain { m with amt := x } := ⟨h.code, h.ctry, h.LA, h.ln, h.lc, h.text⟩
def MsgRK : List Value → Value → List Nat → World → Prop := fun l _ f w => ∃ (g : Nat) (m : Mg), l[0]? = some (.pointer (some ⟨g, 0, none⟩)) ∧ f = [g] ∧ MgPlain m ∧ Bl w g 48 (encM m).toArray
theorem MsgRK.loc {gK : Nat} {zz : Option Obj → Prop} {w0 : World} : LocK gK zz w0 MsgRK := by
  rintro l v f w w' h1 h2 h3 h4 ⟨g, m, e, rfl, hp, h5⟩
  exact ⟨g, m, e, rfl, hp, (h4 g (by simp)).2.2.trans h5⟩
def AdrRK (T : TypeId) (cs : Array Value) (n : Nat) : List Value → Value → List Nat → World → Prop := fun _ v f w => ∃ (g j : Nat), v = .pointer (some ⟨g, j, none⟩) ∧ j < n ∧ f = [g] ∧ Bl w g T cs
theorem AdrRK.loc {gK : Nat} {zz : Option Obj → Prop} {w0 : World} {T : TypeId} {cs : Array Value} {n : Nat} : LocK gK zz w0 (AdrRK T cs n) := by
  rintro l v f w w' h1 h2 h3 h4 ⟨g, j, rfl, hj, rfl, h5⟩
  exact ⟨g, j, rfl, hj, rfl, (h4 g (by simp)).2.2.trans h5⟩
theorem size_set13 (w : World) (g : Nat) (a0 a1 a2 a3 a4 a5 a6 a7 a8 a9 a10 a11 a12 : Value) : ((((((((((((((w.setCell ⟨g, 0, none⟩ a0).setCell ⟨g, 1, none⟩ a1).setCell ⟨g, 2, none⟩ a2).setCell ⟨g, 3, none⟩ a3).setCell ⟨g, 4, none⟩ a4).setCell ⟨g, 5, none⟩ a5).setCell ⟨g, 6, none⟩ a6).setCell ⟨g, 7, none⟩ a7).setCell ⟨g, 8, none⟩ a8).setCell ⟨g, 9, none⟩ a9).setCell ⟨g, 10, none⟩ a10).setCell ⟨g, 11, none⟩ a11).setCell ⟨g, 12, none⟩ a12)).heap.size = w.heap.size := by simp [World.setCell]
theorem heap_set13 {w : World} {g k : Nat} (hne : k ≠ g) (a0 a1 a2 a3 a4 a5 a6 a7 a8 a9 a10 a11 a12 : Value) : ((((((((((((((w.setCell ⟨g, 0, none⟩ a0).setCell ⟨g, 1, none⟩ a1).setCell ⟨g, 2, none⟩ a2).setCell ⟨g, 3, none⟩ a3).setCell ⟨g, 4, none⟩ a4).setCell ⟨g, 5, none⟩ a5).setCell ⟨g, 6, none⟩ a6).setCell ⟨g, 7, none⟩ a7).setCell ⟨g, 8, none⟩ a8).setCell ⟨g, 9, none⟩ a9).setCell ⟨g, 10, none⟩ a10).setCell ⟨g, 11, none⟩ a11).setCell ⟨g, 12, none⟩ a12)).heap[k]? = w.heap[k]? := (Below.heap_setCell _ _ _ k hne).trans ((Below.heap_setCell _ _ _ k hne).trans ((Below.heap_setCell _ _ _ k hne).trans ((Below.heap_setCell _ _ _ k hne).trans ((Below.heap_setCell _ _ _ k hne).trans ((Below.heap_setCell _ _ _ k hne).trans ((Below.heap_setCell _ _ _ k hne).trans ((Below.heap_setCell _ _ _ k hne).trans ((Below.heap_setCell _ _ _ k hne).trans ((Below.heap_setCell _ _ _ k hne).trans ((Below.heap_setCell _ _ _ k hne).trans ((Below.heap_setCell _ _ _ k hne).trans ((Below.heap_setCell _ _ _ k hne)))))))))))))
theorem FindsK.msg {gK : Nat} {zz : Option Obj → Prop} {js : List Job} {a0 : Act} {w0 : World} {fact : Nat → List Value → Value → Prop} {res : Nat → List Value → Value → List Nat → World → Prop} {kb kv i : Nat} {a : Act} {wx : World} {vs : Nat → Value} {fp : Nat → List Nat}
    (h : FindsK gK zz js a0 w0 fact res i ⟨none, [kb, kv], [kb]⟩ a wx vs fp) {x : Mg} {g : Nat} {z0 z1 z2 z3 z4 z5 z6 z7 z8 z9 z10 z11 z12 : Value} (hg : vs kb = .pointer (some ⟨g, 0, none⟩)) (hf : fp kb = [g]) (hb : Bl wx g 48 #[z0, z1, z2, z3, z4, z5, z6, z7, z8, z9, z10, z11, z12]) (hp : MgPlain x) (h1 : fact i ([kb, kv].map vs) undef) (h2 : ∀ f w', MsgRK ([kb, kv].map vs) undef f w' → res i ([kb, kv].map vs) undef f w') :
    LeavesK gK zz w0 fact res i ⟨none, [kb, kv], [kb]⟩ wx vs fp undef [g] (((((((((((((wx.setCell ⟨g, 0, none⟩ (.int .i64 x.kind)).setCell ⟨g, 1, none⟩ (.int .i64 x.frm)).setCell ⟨g, 2, none⟩ (.int .i64 x.dst)).setCell ⟨g, 3, none⟩ (.int .i64 x.num)).setCell ⟨g, 4, none⟩ (.int .i64 x.day)).setCell ⟨g, 5, none⟩ (.int .i64 x.lot)).setCell ⟨g, 6, none⟩ (.int .i64 x.oth)).setCell ⟨g, 7, none⟩ (.string x.code)).setCell ⟨g, 8, none⟩ (.string x.ctry)).setCell ⟨g, 9, none⟩ (.int .i64 x.qty)).setCell ⟨g, 10, none⟩ (.int .i64 x.amt)).setCell ⟨g, 11, none⟩ (.slice x.LA x.ln x.lc)).setCell ⟨g, 12, none⟩ (.string x.text)) := by
  have hgb : w0.heap.size ≤ g := (h.own kb (by simp) g (by rw [hf]; simp)).1
  refine ⟨(((((((((((((h.below.set (p := ⟨g, 0, none⟩) hgb _).set (p := ⟨g, 1, none⟩) hgb _).set (p := ⟨g, 2, none⟩) hgb _).set (p := ⟨g, 3, none⟩) hgb _).set (p := ⟨g, 4, none⟩) hgb _).set (p := ⟨g, 5, none⟩) hgb _).set (p := ⟨g, 6, none⟩) hgb _).set (p := ⟨g, 7, none⟩) hgb _).set (p := ⟨g, 8, none⟩) hgb _).set (p := ⟨g, 9, none⟩) hgb _).set (p := ⟨g, 10, none⟩) hgb _).set (p := ⟨g, 11, none⟩) hgb _).set (p := ⟨g, 12, none⟩) hgb _), by rw [size_set13]; exact Nat.le_refl _, fun k _ hk hn => ?_, h1, h2 _ _ ⟨g, x, by simp [hg], rfl, hp, set13_bl hb _ _ _ _ _ _ _ _ _ _ _ _ _⟩, fun k hk => ?_⟩
  · have hne : k ≠ g := fun e => hn kb (by simp) (by rw [hf, e]; simp)
    exact heap_set13 hne _ _ _ _ _ _ _ _ _ _ _ _ _
  · rw [List.mem_singleton] at hk
    subst hk
    exact ⟨by rw [size_set13]; exact hb.lt, .inl ⟨kb, by simp, by rw [hf]; simp⟩⟩
def MsgsRes (w : World) (e : Ending) (w' : World) : Prop := ∃ (B : Option Addr) (n d : Nat) (ms : List Mg), e = .returned (.slice B n d) ∧ n ≤ 40 ∧ Recs encM 13 w' B n ms ∧ (∀ m ∈ ms, MgPlain m) ∧ RowKit.Below w.heap.size w w'
theorem info37M : (Tryz.prog.info? 48).map (fun i => (i.zero, i.size, i.bytes)) = some (some (.agg #[.int .i64 0, .int .i64 0, .int .i64 0, .int .i64 0, .int .i64 0, .int .i64 0, .int .i64 0, .string ByteArray.empty, .string ByteArray.empty, .int .i64 0, .int .i64 0, .slice none 0 0, .string ByteArray.empty]), 13, 144) := by kernel_rfl
theorem Kp.under37 {g : Nat} {a b : World} (h : Kp g a b) {w : World} (hb : RowKit.Below w.heap.size w a) (hg : w.heap.size ≤ g) : RowKit.Below w.heap.size w b :=
  ⟨h.os.trans hb.os, h.tape.trans hb.tape, h.output.trans hb.output, Nat.le_trans hb.size h.size, fun k hk => (h.block k (Nat.lt_of_lt_of_le hk hb.size) (by omega)).trans (hb.block k hk)⟩
def vLen37 : Value → Nat
  | .slice _ n _ => n
  | _ => 0
def zS (A : Option Addr) (m c I : Nat) (o : Option Obj) : Prop := ∃ J : Nat, I ≤ J ∧ J ≤ m ∧ o = some (.cells #[.slice A m c, .int .i64 J] 79 (0, 0))
theorem zS.src {A : Option Addr} {m c I g : Nat} {w : World} (h : zS A m c I w.heap[g]?) : ∃ J, I ≤ J ∧ J ≤ m ∧ Src w g A m c J := h
theorem zS.of {A : Option Addr} {m c I J g : Nat} {w : World} (h : Src w g A m c J) (h1 : I ≤ J) (h2 : J ≤ m) : zS A m c I w.heap[g]? := ⟨J, h1, h2, h⟩

set_option maxRecDepth 100000 in
set_option maxHeartbeats 16000000 in
theorem messages37_any (A : Option Addr) (n c : Nat) (xs : List Int) (w : World) (h : Ints w A n xs) (hnc : n ≤ c) (hcm : c ≤ 9223372036854775807) :
    Calls Tryz.prog 10 #[.slice A n c, .bool true] w (MsgsRes w) := by
  have hT := h.take (m := min n 240) (by omega)
  obtain ⟨m, hm⟩ : ∃ m, m = min n 240 := ⟨_, rfl⟩
  have HC := Lib.hid (cut_any A n c 240 xs w h hnc hcm (by omega) (by omega))
  unfold CutRes at HC
  rw [← hm] at hT HC
  have hm1 : m ≤ 240 := by omega
  clear hm
  have HN : Hid (∀ (k : Int) (I : Nat) (wx : World), 0 < k → k ≤ 3000 → Src wx w.heap.size A m c I → RowKit.Below w.heap.size w wx → Calls Tryz.prog 27 #[.pointer (some ⟨w.heap.size, 0, none⟩), .int .i64 k] wx fun e w' => ∃ v : Int, e = .returned (.int .i64 v) ∧ 0 ≤ v ∧ v < k ∧ Only w.heap.size wx w' ∧ Src w' w.heap.size A m c (nextI m I)) := fun k I wx k1 k2 hS hb =>
    (next_any w.heap.size A m c I (xs.take m) k w wx hS hT hb (Nat.le_refl _) (by omega) k1 (by omega)).mono fun e w' ⟨h1, h2, h3⟩ => ⟨_, h1, (nextV_bounds (xs.take m) m I k k1).1, (nextV_bounds (xs.take m) m I k k1).2, h2, h3⟩
  have HLF : Hid (∀ (I : Nat) (wx : World), Src wx w.heap.size A m c I → Calls Tryz.prog 26 #[.pointer (some ⟨w.heap.size, 0, none⟩)] wx fun e w' => e = .returned (.bool (decide (I < m))) ∧ ∃ q, w' = wx.drewN q) := fun I wx hS => left37_any w.heap.size A m c I wx hS (by omega)
  clear hT h
  obtain ⟨W0, hW0⟩ : ∃ W, W = (w.alloc (.cells #[.slice A m c, .int .i64 0] 79)).alloc (.cells #[.int .i64 0, .int .i64 0, .int .i64 0, .int .i64 0] 80) := ⟨_, rfl⟩
  have hS0 : Src W0 w.heap.size A m c 0 := by rw [hW0]; exact (Bl.new w _ _).alloc _
  have hn0 : Bl W0 (w.heap.size + 1) 80 (([0, 0, 0, 0] : List Int).map (Value.int .i64)).toArray := by rw [hW0]; have := Bl.new (w.alloc (.cells #[.slice A m c, .int .i64 0] 79)) 80 #[.int .i64 0, .int .i64 0, .int .i64 0, .int .i64 0]; simpa using this
  have hb0 : RowKit.Below w.heap.size w W0 := by rw [hW0]; exact ((Below.refl _ _).alloc (Nat.le_refl _) _).alloc (by simp) _
  go_enter Tryz.func10, Tryz.ntmps10
  go_wp2_with fail
  refine HC.out.mono ?_
  rintro e w' ⟨rfl, rfl⟩
  go_upto_region 6 with (fail)
  rw [← hW0]
  clear hW0
  go_loopw [6] (fun v wx => ∃ (I : Nat) (ms : List Mg) (ns : List Int) (B : Option Addr) (k d : Nat), v = .slice B k d ∧ I ≤ m ∧ k ≤ 40 ∧ Hid (ms.length = k) ∧ Hid (∀ x ∈ ms, MgPlain x) ∧ Hid (ns.length = 4 ∧ ∀ x ∈ ns, 0 ≤ x ∧ x ≤ k) ∧ Hid (wx.ownsRow w.heap.size 48 13 (.slice B k d) k (flat encM ms)) ∧ Hid (Src wx w.heap.size A m c I) ∧ Hid (Bl wx (w.heap.size + 1) 80 (ns.map (Value.int .i64)).toArray) ∧ Hid (RowKit.Below w.heap.size w wx)) (fun v _ => 40 - vLen37 v)
  case atStart => exact ⟨0, [], [0, 0, 0, 0], none, 0, 0, rfl, Nat.zero_le _, Nat.zero_le _, rfl, (fun x hx => by cases hx), ⟨rfl, fun x hx => by simp at hx; omega⟩, ⟨by simp [flat], .inl ⟨rfl, rfl⟩⟩, hS0, hn0, hb0⟩
  case round =>
    clear hS0 hn0 hb0
    obtain ⟨I, ms, ns, B, k, d, rfl, hI, hk, HML, HMP, HNS, HO, HS, HNB, HB⟩ := hrel
    by_cases hlt : I < m
    case neg =>
      have d1 : decide (I < m) = false := by simpa using hlt
      go_wp2_with fail
      refine (HLF.out I _ HS.out).mono ?_
      rintro e w1 ⟨rfl, p1, rfl⟩
      rw [d1]
      go_wp2
      go_ret
      exact ⟨B, k, d, ms, rfl, hk, Recs.of_own encM_len (own_drewN HO.out p1) HML.out, HMP.out, below_drewN HB.out p1⟩
    case pos =>
    have d1 : decide (I < m) = true := by simpa using hlt
    by_cases hk2 : k < 40
    case neg =>
      have hk40 : decide ((k : Int) < 40) = false := by simp; omega
      go_wp2_with fail
      refine (HLF.out I _ HS.out).mono ?_
      rintro e w1 ⟨rfl, p1, rfl⟩
      rw [d1]
      go_wp2
      go_ret
      exact ⟨B, k, d, ms, rfl, hk, Recs.of_own encM_len (own_drewN HO.out p1) HML.out, HMP.out, below_drewN HB.out p1⟩
    case pos =>
    have hki : (k : Int) < 40 := by omega
    go_wp2_with fail
    refine (HLF.out I _ HS.out).mono ?_
    rintro e w1 ⟨rfl, p1, rfl⟩
    rw [d1]
    have HO6 : Hid ((wr.drewN p1).ownsRow w.heap.size 48 13 (.slice B k d) k (flat encM ms)) := own_drewN HO.out p1
    have HS6 : Hid (Src (wr.drewN p1) w.heap.size A m c I) := HS.out
    have HNB6 : Hid (Bl (wr.drewN p1) (w.heap.size + 1) 80 (ns.map (Value.int .i64)).toArray) := HNB.out
    have HB6 : Hid (RowKit.Below w.heap.size w (wr.drewN p1)) := below_drewN HB.out p1
    clear d1 HO HS HNB HB
    go_upto_region 7 with (fail)
    generalize wr.drewN p1 = W6 at *
    go_wp2_with fail
    refine (HN.out 3 I W6 (by omega) (by omega) HS6.out HB6.out).mono ?_
    rintro e w7 ⟨va, rfl, hva, hva', hO7, hS7⟩
    have hI7 := nextI_le m I hI
    have HO7 : Hid (w7.ownsRow w.heap.size 48 13 (.slice B k d) k (flat encM ms)) := own_of_block HO6.out fun j hj => hO7.block j (fun e => own_apart HO6.out HS6.out (by decide) (by rw [hj, e]))
    have HNB7 : Hid (Bl w7 (w.heap.size + 1) 80 (ns.map (Value.int .i64)).toArray) := hO7.bl HNB6.out (by omega)
    have HB7 : Hid (RowKit.Below w.heap.size w w7) := HB6.out.trans (hO7.below (Nat.le_refl _))
    have HS7 := Lib.hid hS7
    obtain ⟨kk, hkk, hk1, hk3⟩ : ∃ kk : Nat, 1 + va = (kk : Int) ∧ 1 ≤ kk ∧ kk ≤ 3 := ⟨(1 + va).toNat, by omega, by omega, by omega⟩
    have u1 : IntKind.i64.wrap (1 + va) = (kk : Int) := by rw [hkk]; exact IntWalk.i64_in _ (by omega)
    clear hO7 hS7 HO6 HS6 HNB6 HB6 hkk
    go_upto_region 8 with (fail)
    clear u1 hva hva'
    generalize nextI m I = I7 at *
    obtain ⟨nv, hnv⟩ : ∃ nv, ns[kk]! = nv := ⟨_, rfl⟩
    have hkl : kk < ns.length := by rw [HNS.out.1]; omega
    have hnb := HNS.out.2 nv (by rw [← hnv, getElem!_pos ns kk hkl]; exact List.getElem_mem hkl)
    have c7 : w7.cell? ⟨w.heap.size + 1, kk, none⟩ = some (.int .i64 nv) := by
      rw [HNB7.out.cell, ← hnv, getElem!_pos ns kk hkl]
      simp [hkl]
    have f7 : w7.frozen? ⟨w.heap.size + 1, kk, none⟩ = false := HNB7.out.free kk
    have u2 : IntKind.i64.wrap (nv + 1) = nv + 1 := IntWalk.i64_in _ (by omega)
    have hkz : (0 : Int) ≤ (kk : Int) := by omega
    have hk4 : (kk : Int) < 4 := by omega
    have HNB8 : Hid (Bl (w7.setCell ⟨w.heap.size + 1, kk, none⟩ (.int .i64 (nv + 1))) (w.heap.size + 1) 80 ((ns.set kk (nv + 1)).map (Value.int .i64)).toArray) := by
      have := HNB7.out.put kk (.int .i64 (nv + 1))
      show Bl _ _ _ _
      simpa [List.map_set] using this
    have HS8 : Hid (Src (w7.setCell ⟨w.heap.size + 1, kk, none⟩ (.int .i64 (nv + 1))) w.heap.size A m c I7) := Bl.far (p := ⟨w.heap.size + 1, kk, none⟩) HS7.out (by simp) _
    have HO8 : Hid ((w7.setCell ⟨w.heap.size + 1, kk, none⟩ (.int .i64 (nv + 1))).ownsRow w.heap.size 48 13 (.slice B k d) k (flat encM ms)) := own_of_block HO7.out fun j hj => Below.heap_setCell _ _ _ j (fun e => own_apart HO7.out HNB7.out (by decide) (by rw [hj, e]))
    have HB8 : Hid (RowKit.Below w.heap.size w (w7.setCell ⟨w.heap.size + 1, kk, none⟩ (.int .i64 (nv + 1)))) := HB7.out.setCell (p := ⟨w.heap.size + 1, kk, none⟩) (by simp) _
    have HNS8 : Hid ((ns.set kk (nv + 1)).length = 4 ∧ ∀ x ∈ ns.set kk (nv + 1), 0 ≤ x ∧ x ≤ (k + 1 : Nat)) := ⟨by rw [List.length_set]; exact HNS.out.1, fun x hx => by
      rcases List.mem_or_eq_of_mem_set hx with hx | hx
      · have := HNS.out.2 x hx; omega
      · omega⟩
    have hnv8 : (ns.set kk (nv + 1))[kk]? = some (nv + 1) := by simp [hkl]
    clear hnv hkl
    go_upto_region 9 with (fail)
    clear c7 f7 u2 HNB7 HS7 HO7 HB7 HNS
    generalize ns.set kk (nv + 1) = ns8 at *
    generalize w7.setCell ⟨w.heap.size + 1, kk, none⟩ (.int .i64 (nv + 1)) = W8 at *
    have C8 : Hid (W8.cell? ⟨w.heap.size + 1, kk, none⟩ = some (.int .i64 (nv + 1))) := by
      show _ = _
      rw [HNB8.out.cell]
      simp [hnv8]
    have l8 : w.heap.size + 1 < W8.heap.size := HNB8.out.lt
    have HNX : Hid (∀ (k : Int) (wx : World), 0 < k → k ≤ 3000 → RelK w.heap.size (zS A m c I7) W8 wx → Calls Tryz.prog 27 #[.pointer (some ⟨w.heap.size, 0, none⟩), .int .i64 k] wx fun e w' => ∃ v : Int, e = .returned (.int .i64 v) ∧ 0 ≤ v ∧ v < k ∧ Only w.heap.size wx w' ∧ zS A m c I7 w'.heap[w.heap.size]?) := fun k wx k1 k2 hR => by
      obtain ⟨J, j1, j2, hS⟩ := zS.src hR.is
      exact (HN.out k J wx k1 k2 hS (hR.kp.under37 HB8.out (Nat.le_refl _))).mono fun e w' ⟨v, h1, h2, h3, h4, h5⟩ => ⟨v, h1, h2, h3, h4, zS.of h5 (Nat.le_trans j1 (nextI_ge m J)) (nextI_le m J j2)⟩
    have hst : RelK w.heap.size (zS A m c I7) W8 W8.drew := RelK.start (by omega) (zS.of HS8.out (Nat.le_refl _) hI7)
    refine wp_region_rowsK (gK := w.heap.size) (zz := zS A m c I7) [
        ⟨⟨some 37, [], []⟩, NoFK, LitRK 3 #[.int .i64 50, .int .i64 50, .int .i64 51, .int .i64 51, .int .i64 52] 5⟩,
        ⟨⟨some 38, [], []⟩, fun _ v => v = .pointer (some ⟨w.heap.size, 0, none⟩), NoRK⟩,
        ⟨⟨some 39, [1], []⟩, fun _ v => ∃ x : Int, v = .int .i64 x ∧ 0 ≤ x ∧ x < 5, NoRK⟩,
        ⟨⟨some 40, [0, 2], [0]⟩, NoFK, AdrRK 3 #[.int .i64 50, .int .i64 50, .int .i64 51, .int .i64 51, .int .i64 52] 5⟩,
        ⟨⟨some 41, [3], [3]⟩, fun _ v => ∃ x : Int, v = .int .i64 x, NoRK⟩,
        ⟨⟨some 42, [], []⟩, fun _ v => v = .int .i64 (kk : Int), NoRK⟩,
        ⟨⟨some 43, [], []⟩, fun _ v => v = .int .i64 (kk : Int), NoRK⟩,
        ⟨⟨some 44, [6], []⟩, fun _ v => v = .pointer (some ⟨w.heap.size + 1, kk, none⟩), NoRK⟩,
        ⟨⟨some 45, [7], []⟩, fun _ v => v = .int .i64 (nv + 1), NoRK⟩,
        ⟨⟨some 46, [], []⟩, fun _ v => v = .pointer (some ⟨w.heap.size, 0, none⟩), NoRK⟩,
        ⟨⟨some 47, [9], []⟩, fun _ v => ∃ x : Int, v = .int .i64 x ∧ 0 ≤ x ∧ x < 40, NoRK⟩,
        ⟨⟨some 48, [], []⟩, fun _ v => v = .int .i64 (kk : Int), NoRK⟩,
        ⟨⟨some 49, [11], []⟩, fun _ v => ∃ x : Int, v = .int .i64 x, NoRK⟩,
        ⟨⟨some 50, [], []⟩, fun _ v => v = .pointer (some ⟨w.heap.size, 0, none⟩), NoRK⟩,
        ⟨⟨some 51, [13], []⟩, fun _ v => ∃ x : Int, v = .int .i64 x ∧ 0 ≤ x ∧ x < 5, NoRK⟩,
        ⟨⟨some 52, [12, 14], []⟩, fun _ v => ∃ x : Int, v = .int .i64 x, NoRK⟩,
        ⟨⟨some 53, [], []⟩, fun _ v => v = .pointer (some ⟨w.heap.size, 0, none⟩), NoRK⟩,
        ⟨⟨some 54, [16], []⟩, fun _ v => ∃ x : Int, v = .int .i64 x ∧ 0 ≤ x ∧ x < 2, NoRK⟩,
        ⟨⟨some 55, [17], []⟩, fun _ v => ∃ x : Int, v = .int .i64 x, NoRK⟩,
        ⟨⟨some 56, [], []⟩, fun _ v => v = .pointer (some ⟨w.heap.size, 0, none⟩), NoRK⟩,
        ⟨⟨some 57, [19], []⟩, fun _ v => ∃ x : Int, v = .int .i64 x ∧ 0 ≤ x ∧ x < 20, NoRK⟩,
        ⟨⟨some 58, [], []⟩, fun _ v => v = .pointer (some ⟨w.heap.size, 0, none⟩), NoRK⟩,
        ⟨⟨some 59, [21], []⟩, fun _ v => ∃ x : Int, v = .int .i64 x ∧ 0 ≤ x ∧ x < 3, NoRK⟩,
        ⟨⟨some 60, [22], []⟩, fun _ v => ∃ x : Int, v = .int .i64 x, NoRK⟩,
        ⟨⟨some 61, [4, 5, 8, 10, 15, 18, 20, 23], []⟩, fun _ v => ∃ x : Mg, MgPlain x ∧ v = .agg (encM x).toArray, NoRK⟩,
        ⟨⟨some 9, [], []⟩, NoFK, PtrRK 48 #[.int .i64 0, .int .i64 0, .int .i64 0, .int .i64 0, .int .i64 0, .int .i64 0, .int .i64 0, .string ⟨#[]⟩, .string ⟨#[]⟩, .int .i64 0, .int .i64 0, .slice none 0 0, .string ⟨#[]⟩]⟩,
        ⟨⟨none, [25, 24], [25]⟩, NoFK, MsgRK⟩] hst (by kernel_rfl) (by kernel_rfl) (by kernel_rfl) ⟨LitRK.loc, NoRK.loc, NoRK.loc, AdrRK.loc, NoRK.loc, NoRK.loc, NoRK.loc, NoRK.loc, NoRK.loc, NoRK.loc, NoRK.loc, NoRK.loc, NoRK.loc, NoRK.loc, NoRK.loc, NoRK.loc, NoRK.loc, NoRK.loc, NoRK.loc, NoRK.loc, NoRK.loc, NoRK.loc, NoRK.loc, NoRK.loc, NoRK.loc, PtrRK.loc, MsgRK.loc, trivial⟩ ⟨?r0, ?r1, ?r2, ?r3, ?r4, ?r5, ?r6, ?r7, ?r8, ?r9, ?r10, ?r11, ?r12, ?r13, ?r14, ?r15, ?r16, ?r17, ?r18, ?r19, ?r20, ?r21, ?r22, ?r23, ?r24, ?r25, ?r26, trivial⟩ ?fin
    case r0 =>
      refine step_ofK rfl rfl ?_
      intro a wx vs fp K hF hK
      refine op_value (v := .slice (some ⟨wx.heap.size, 0, none⟩) 5 5) (w' := wx.alloc (.cells #[.int .i64 50, .int .i64 50, .int .i64 51, .int .i64 51, .int .i64 52] 3)) ?_ (hK _ _ _ (hF.made _ trivial ⟨_, rfl, rfl, Bl.new _ _ _⟩))
      have ec : ∀ v, a.eval (.const v) = v := fun _ => rfl
      clear hF hK
      generalize a.eval = ρ at *
      go_simp
    case r1 =>
      refine step_ofK rfl rfl ?_
      intro a wx vs fp K hF hK
      exact op_move rfl (hF.at_ 5 rfl) (hK _ _ _ (hF.only rfl trivial))
    case r2 =>
      refine step_ofK rfl rfl ?_
      intro a wx vs fp K hF hK
      have hv : vs 1 = .pointer (some ⟨w.heap.size, 0, none⟩) := hF.va 1 rfl
      refine op_call (vals := #[.pointer (some ⟨w.heap.size, 0, none⟩), .int .i64 5]) rfl (by kernel_rfl) ?_ ?_
      · simp only [List.map_toArray, List.map_cons, List.map_nil, hF.ev 1 38 rfl rfl, hv]
        rfl
      · exact (HNX.out 5 wx (by decide) (by decide) hF.below).mono fun e w' ⟨x, h1, h2, h3, h4, h5⟩ => ⟨_, h1, hK _ _ _ (hF.call h4 h5 ⟨x, rfl, h2, h3⟩ trivial)⟩
    case r3 =>
      refine step_ofK rfl rfl ?_
      intro a wx vs fp K hF hK
      have hm : LitRK 3 #[.int .i64 50, .int .i64 50, .int .i64 51, .int .i64 51, .int .i64 52] 5 [] (vs 0) (fp 0) wx := hF.me 0 rfl
      obtain ⟨g, hg, hfg, hbl⟩ := hm
      obtain ⟨x, hx, hx0, hx1⟩ : ∃ x : Int, vs 2 = .int .i64 x ∧ 0 ≤ x ∧ x < 5 := hF.va 2 rfl
      obtain ⟨j, rfl⟩ : ∃ j : Nat, x = (j : Int) := ⟨x.toNat, by omega⟩
      have e1 : a.eval (.tmp 37) = .slice (some ⟨g, 0, none⟩) 5 5 := (hF.ev 0 37 rfl rfl).trans hg
      have e2 : a.eval (.tmp 39) = .int .i64 (j : Int) := (hF.ev 2 39 rfl rfl).trans hx
      have hj : j < 5 := by omega
      refine op_value (v := .pointer (some ⟨g, j, none⟩)) ?_ (hK _ _ _ (hF.hand 0 rfl trivial ⟨g, j, rfl, hj, hfg, hbl⟩))
      clear hF hK
      generalize a.eval = ρ at *
      go_simp
    case r4 =>
      refine step_ofK rfl rfl ?_
      intro a wx vs fp K hF hK
      have hm : AdrRK 3 #[.int .i64 50, .int .i64 50, .int .i64 51, .int .i64 51, .int .i64 52] 5 [vs 0, vs 2] (vs 3) (fp 3) wx := hF.me 3 rfl
      obtain ⟨g, j, hg, hj, hfg, hbl⟩ := hm
      obtain ⟨x, hx⟩ : ∃ x : Int, wx.cell? ⟨g, j, none⟩ = some (.int .i64 x) := by
        rw [hbl.cell j]
        rcases (show j = 0 ∨ j = 1 ∨ j = 2 ∨ j = 3 ∨ j = 4 by omega) with rfl | rfl | rfl | rfl | rfl <;> exact ⟨_, rfl⟩
      have e1 : a.eval (.tmp 40) = .pointer (some ⟨g, j, none⟩) := (hF.ev 3 40 rfl rfl).trans hg
      refine op_value (v := .int .i64 x) ?_ (hK _ _ _ (hF.only ⟨x, rfl⟩ trivial))
      clear hF hK hbl
      generalize a.eval = ρ at *
      go_simp
    case r5 =>
      refine step_ofK rfl rfl ?_
      intro a wx vs fp K hF hK
      exact op_move rfl (hF.at_ 8 rfl) (hK _ _ _ (hF.only rfl trivial))
    case r6 =>
      refine step_ofK rfl rfl ?_
      intro a wx vs fp K hF hK
      exact op_move rfl (hF.at_ 8 rfl) (hK _ _ _ (hF.only rfl trivial))
    case r7 =>
      refine step_ofK rfl rfl ?_
      intro a wx vs fp K hF hK
      have e0 : a.eval (.tmp 7) = .pointer (some ⟨w.heap.size + 1, 0, none⟩) := hF.at_ 7 rfl
      have hy : vs 6 = .int .i64 (kk : Int) := hF.va 6 rfl
      have ey : a.eval (.tmp 43) = .int .i64 (kk : Int) := (hF.ev 6 43 rfl rfl).trans hy
      refine op_value (v := .pointer (some ⟨w.heap.size + 1, kk, none⟩)) ?_ (hK _ _ _ (hF.only rfl trivial))
      clear hF hK
      generalize a.eval = ρ at *
      go_simp
    case r8 =>
      refine step_ofK rfl rfl ?_
      intro a wx vs fp K hF hK
      have e0 : a.eval (.tmp 44) = .pointer (some ⟨w.heap.size + 1, kk, none⟩) := (hF.ev 7 44 rfl rfl).trans (hF.va 7 rfl)
      have mc : wx.cell? ⟨w.heap.size + 1, kk, none⟩ = some (.int .i64 (nv + 1)) := (World.cell?_of_block (a := ⟨w.heap.size + 1, kk, none⟩) (hF.below.kp.block (w.heap.size + 1) l8 (by omega))).trans C8.out
      refine op_value (v := .int .i64 (nv + 1)) ?_ (hK _ _ _ (hF.only rfl trivial))
      clear hF hK
      generalize a.eval = ρ at *
      go_simp
    case r9 =>
      refine step_ofK rfl rfl ?_
      intro a wx vs fp K hF hK
      exact op_move rfl (hF.at_ 5 rfl) (hK _ _ _ (hF.only rfl trivial))
    case r10 =>
      refine step_ofK rfl rfl ?_
      intro a wx vs fp K hF hK
      have hv : vs 9 = .pointer (some ⟨w.heap.size, 0, none⟩) := hF.va 9 rfl
      refine op_call (vals := #[.pointer (some ⟨w.heap.size, 0, none⟩), .int .i64 40]) rfl (by kernel_rfl) ?_ ?_
      · simp only [List.map_toArray, List.map_cons, List.map_nil, hF.ev 9 46 rfl rfl, hv]
        rfl
      · exact (HNX.out 40 wx (by decide) (by decide) hF.below).mono fun e w' ⟨x, h1, h2, h3, h4, h5⟩ => ⟨_, h1, hK _ _ _ (hF.call h4 h5 ⟨x, rfl, h2, h3⟩ trivial)⟩
    case r11 =>
      refine step_ofK rfl rfl ?_
      intro a wx vs fp K hF hK
      exact op_move rfl (hF.at_ 8 rfl) (hK _ _ _ (hF.only rfl trivial))
    case r12 =>
      refine step_ofK rfl rfl ?_
      intro a wx vs fp K hF hK
      have hy : vs 11 = .int .i64 (kk : Int) := hF.va 11 rfl
      have ey : a.eval (.tmp 48) = .int .i64 (kk : Int) := (hF.ev 11 48 rfl rfl).trans hy
      refine op_value (v := .int .i64 (IntKind.i64.wrap (10000 * (kk : Int)))) ?_ (hK _ _ _ (hF.only ⟨_, rfl⟩ trivial))
      have ec : ∀ v, a.eval (.const v) = v := fun _ => rfl
      clear hF hK
      generalize a.eval = ρ at *
      go_simp
    case r13 =>
      refine step_ofK rfl rfl ?_
      intro a wx vs fp K hF hK
      exact op_move rfl (hF.at_ 5 rfl) (hK _ _ _ (hF.only rfl trivial))
    case r14 =>
      refine step_ofK rfl rfl ?_
      intro a wx vs fp K hF hK
      have hv : vs 13 = .pointer (some ⟨w.heap.size, 0, none⟩) := hF.va 13 rfl
      refine op_call (vals := #[.pointer (some ⟨w.heap.size, 0, none⟩), .int .i64 5]) rfl (by kernel_rfl) ?_ ?_
      · simp only [List.map_toArray, List.map_cons, List.map_nil, hF.ev 13 50 rfl rfl, hv]
        rfl
      · exact (HNX.out 5 wx (by decide) (by decide) hF.below).mono fun e w' ⟨x, h1, h2, h3, h4, h5⟩ => ⟨_, h1, hK _ _ _ (hF.call h4 h5 ⟨x, rfl, h2, h3⟩ trivial)⟩
    case r15 =>
      refine step_ofK rfl rfl ?_
      intro a wx vs fp K hF hK
      obtain ⟨y, hy⟩ : ∃ x : Int, vs 12 = .int .i64 x := hF.va 12 rfl
      have ey : a.eval (.tmp 49) = .int .i64 y := (hF.ev 12 49 rfl rfl).trans hy
      obtain ⟨z, hz, _, _⟩ : ∃ x : Int, vs 14 = .int .i64 x ∧ 0 ≤ x ∧ x < 5 := hF.va 14 rfl
      have ez : a.eval (.tmp 51) = .int .i64 z := (hF.ev 14 51 rfl rfl).trans hz
      refine op_value (v := .int .i64 (IntKind.i64.wrap (y + z))) ?_ (hK _ _ _ (hF.only ⟨_, rfl⟩ trivial))
      clear hF hK
      generalize a.eval = ρ at *
      go_simp
    case r16 =>
      refine step_ofK rfl rfl ?_
      intro a wx vs fp K hF hK
      exact op_move rfl (hF.at_ 5 rfl) (hK _ _ _ (hF.only rfl trivial))
    case r17 =>
      refine step_ofK rfl rfl ?_
      intro a wx vs fp K hF hK
      have hv : vs 16 = .pointer (some ⟨w.heap.size, 0, none⟩) := hF.va 16 rfl
      refine op_call (vals := #[.pointer (some ⟨w.heap.size, 0, none⟩), .int .i64 2]) rfl (by kernel_rfl) ?_ ?_
      · simp only [List.map_toArray, List.map_cons, List.map_nil, hF.ev 16 53 rfl rfl, hv]
        rfl
      · exact (HNX.out 2 wx (by decide) (by decide) hF.below).mono fun e w' ⟨x, h1, h2, h3, h4, h5⟩ => ⟨_, h1, hK _ _ _ (hF.call h4 h5 ⟨x, rfl, h2, h3⟩ trivial)⟩
    case r18 =>
      refine step_ofK rfl rfl ?_
      intro a wx vs fp K hF hK
      obtain ⟨z, hz, _, _⟩ : ∃ x : Int, vs 17 = .int .i64 x ∧ 0 ≤ x ∧ x < 2 := hF.va 17 rfl
      have ez : a.eval (.tmp 54) = .int .i64 z := (hF.ev 17 54 rfl rfl).trans hz
      refine op_value (v := .int .i64 (IntKind.i64.wrap (1 + z))) ?_ (hK _ _ _ (hF.only ⟨_, rfl⟩ trivial))
      have ec : ∀ v, a.eval (.const v) = v := fun _ => rfl
      clear hF hK
      generalize a.eval = ρ at *
      go_simp
    case r19 =>
      refine step_ofK rfl rfl ?_
      intro a wx vs fp K hF hK
      exact op_move rfl (hF.at_ 5 rfl) (hK _ _ _ (hF.only rfl trivial))
    case r20 =>
      refine step_ofK rfl rfl ?_
      intro a wx vs fp K hF hK
      have hv : vs 19 = .pointer (some ⟨w.heap.size, 0, none⟩) := hF.va 19 rfl
      refine op_call (vals := #[.pointer (some ⟨w.heap.size, 0, none⟩), .int .i64 20]) rfl (by kernel_rfl) ?_ ?_
      · simp only [List.map_toArray, List.map_cons, List.map_nil, hF.ev 19 56 rfl rfl, hv]
        rfl
      · exact (HNX.out 20 wx (by decide) (by decide) hF.below).mono fun e w' ⟨x, h1, h2, h3, h4, h5⟩ => ⟨_, h1, hK _ _ _ (hF.call h4 h5 ⟨x, rfl, h2, h3⟩ trivial)⟩
    case r21 =>
      refine step_ofK rfl rfl ?_
      intro a wx vs fp K hF hK
      exact op_move rfl (hF.at_ 5 rfl) (hK _ _ _ (hF.only rfl trivial))
    case r22 =>
      refine step_ofK rfl rfl ?_
      intro a wx vs fp K hF hK
      have hv : vs 21 = .pointer (some ⟨w.heap.size, 0, none⟩) := hF.va 21 rfl
      refine op_call (vals := #[.pointer (some ⟨w.heap.size, 0, none⟩), .int .i64 3]) rfl (by kernel_rfl) ?_ ?_
      · simp only [List.map_toArray, List.map_cons, List.map_nil, hF.ev 21 58 rfl rfl, hv]
        rfl
      · exact (HNX.out 3 wx (by decide) (by decide) hF.below).mono fun e w' ⟨x, h1, h2, h3, h4, h5⟩ => ⟨_, h1, hK _ _ _ (hF.call h4 h5 ⟨x, rfl, h2, h3⟩ trivial)⟩
    case r23 =>
      refine step_ofK rfl rfl ?_
      intro a wx vs fp K hF hK
      obtain ⟨z, hz, _, _⟩ : ∃ x : Int, vs 22 = .int .i64 x ∧ 0 ≤ x ∧ x < 3 := hF.va 22 rfl
      have ez : a.eval (.tmp 59) = .int .i64 z := (hF.ev 22 59 rfl rfl).trans hz
      refine op_value (v := .int .i64 (IntKind.i64.wrap (1 + z))) ?_ (hK _ _ _ (hF.only ⟨_, rfl⟩ trivial))
      have ec : ∀ v, a.eval (.const v) = v := fun _ => rfl
      clear hF hK
      generalize a.eval = ρ at *
      go_simp
    case r24 =>
      refine step_ofK rfl rfl ?_
      intro a wx vs fp K hF hK
      obtain ⟨q0, hq0⟩ : ∃ x : Int, vs 4 = .int .i64 x := hF.va 4 rfl
      have eq0 : a.eval (.tmp 41) = .int .i64 q0 := (hF.ev 4 41 rfl rfl).trans hq0
      have hq1 : vs 5 = .int .i64 (kk : Int) := hF.va 5 rfl
      have eq1 : a.eval (.tmp 42) = .int .i64 (kk : Int) := (hF.ev 5 42 rfl rfl).trans hq1
      have hq2 : vs 8 = .int .i64 (nv + 1) := hF.va 8 rfl
      have eq2 : a.eval (.tmp 45) = .int .i64 (nv + 1) := (hF.ev 8 45 rfl rfl).trans hq2
      obtain ⟨q3, hq3, _, _⟩ : ∃ x : Int, vs 10 = .int .i64 x ∧ 0 ≤ x ∧ x < 40 := hF.va 10 rfl
      have eq3 : a.eval (.tmp 47) = .int .i64 q3 := (hF.ev 10 47 rfl rfl).trans hq3
      obtain ⟨q4, hq4⟩ : ∃ x : Int, vs 15 = .int .i64 x := hF.va 15 rfl
      have eq4 : a.eval (.tmp 52) = .int .i64 q4 := (hF.ev 15 52 rfl rfl).trans hq4
      obtain ⟨q5, hq5⟩ : ∃ x : Int, vs 18 = .int .i64 x := hF.va 18 rfl
      have eq5 : a.eval (.tmp 55) = .int .i64 q5 := (hF.ev 18 55 rfl rfl).trans hq5
      obtain ⟨q6, hq6, _, _⟩ : ∃ x : Int, vs 20 = .int .i64 x ∧ 0 ≤ x ∧ x < 20 := hF.va 20 rfl
      have eq6 : a.eval (.tmp 57) = .int .i64 q6 := (hF.ev 20 57 rfl rfl).trans hq6
      obtain ⟨q7, hq7⟩ : ∃ x : Int, vs 23 = .int .i64 x := hF.va 23 rfl
      have eq7 : a.eval (.tmp 60) = .int .i64 q7 := (hF.ev 23 60 rfl rfl).trans hq7
      refine op_value (v := .agg #[.int .i64 q0, .int .i64 (kk : Int), .int .i64 0, .int .i64 (nv + 1), .int .i64 q3, .int .i64 q4, .int .i64 q5, .string ⟨#[]⟩, .string ⟨#[]⟩, .int .i64 q6, .int .i64 q7, .slice none 0 0, .string ⟨#[]⟩]) ?_ (hK _ _ _ (hF.only ⟨⟨q0, (kk : Int), 0, (nv + 1), q3, q4, q5, ⟨#[]⟩, ⟨#[]⟩, q6, q7, none, 0, 0, ⟨#[]⟩⟩, ⟨rfl, rfl, rfl, rfl, rfl, rfl⟩, rfl⟩ trivial))
      have ec : ∀ v, a.eval (.const v) = v := fun _ => rfl
      clear hF hK
      generalize a.eval = ρ at *
      go_simp
    case r25 =>
      refine step_ofK rfl rfl ?_
      intro a wx vs fp K hF hK
      refine op_value (v := .pointer (some ⟨wx.heap.size, 0, none⟩)) (w' := wx.alloc (.cells #[.int .i64 0, .int .i64 0, .int .i64 0, .int .i64 0, .int .i64 0, .int .i64 0, .int .i64 0, .string ⟨#[]⟩, .string ⟨#[]⟩, .int .i64 0, .int .i64 0, .slice none 0 0, .string ⟨#[]⟩] 48)) ?_ (hK _ _ _ (hF.made _ trivial ⟨_, rfl, rfl, Bl.new _ _ _⟩))
      have ec : ∀ v, a.eval (.const v) = v := fun _ => rfl
      clear hF hK
      generalize a.eval = ρ at *
      go_simp
    case r26 =>
      refine step_ofK rfl rfl ?_
      intro a wx vs fp K hF hK
      have hm : PtrRK 48 #[.int .i64 0, .int .i64 0, .int .i64 0, .int .i64 0, .int .i64 0, .int .i64 0, .int .i64 0, .string ⟨#[]⟩, .string ⟨#[]⟩, .int .i64 0, .int .i64 0, .slice none 0 0, .string ⟨#[]⟩] [] (vs 25) (fp 25) wx := hF.me 25 rfl
      obtain ⟨g, hg, hfg, hbl⟩ := hm
      obtain ⟨x, hp, hv⟩ : ∃ x : Mg, MgPlain x ∧ vs 24 = .agg (encM x).toArray := hF.va 24 rfl
      have e1 : a.eval (.tmp 9) = .pointer (some ⟨g, 0, none⟩) := (hF.ev 25 9 rfl rfl).trans hg
      have e2 : a.eval (.tmp 61) = .agg #[.int .i64 x.kind, .int .i64 x.frm, .int .i64 x.dst, .int .i64 x.num, .int .i64 x.day, .int .i64 x.lot, .int .i64 x.oth, .string x.code, .string x.ctry, .int .i64 x.qty, .int .i64 x.amt, .slice x.LA x.ln x.lc, .string x.text] := (hF.ev 24 61 rfl rfl).trans hv
      have y0 := hbl.cell 0
      have f0 := hbl.free 0
      have y1 := hbl.cell 1
      have f1 := hbl.free 1
      have y2 := hbl.cell 2
      have f2 := hbl.free 2
      have y3 := hbl.cell 3
      have f3 := hbl.free 3
      have y4 := hbl.cell 4
      have f4 := hbl.free 4
      have y5 := hbl.cell 5
      have f5 := hbl.free 5
      have y6 := hbl.cell 6
      have f6 := hbl.free 6
      have y7 := hbl.cell 7
      have f7 := hbl.free 7
      have y8 := hbl.cell 8
      have f8 := hbl.free 8
      have y9 := hbl.cell 9
      have f9 := hbl.free 9
      have y10 := hbl.cell 10
      have f10 := hbl.free 10
      have y11 := hbl.cell 11
      have f11 := hbl.free 11
      have y12 := hbl.cell 12
      have f12 := hbl.free 12
      simp only [List.getElem?_toArray, List.getElem?_cons_zero, List.getElem?_cons_succ] at y0 y1 y2 y3 y4 y5 y6 y7 y8 y9 y10 y11 y12
      refine op_skip (w' := (((((((((((((wx.setCell ⟨g, 0, none⟩ (.int .i64 x.kind)).setCell ⟨g, 1, none⟩ (.int .i64 x.frm)).setCell ⟨g, 2, none⟩ (.int .i64 x.dst)).setCell ⟨g, 3, none⟩ (.int .i64 x.num)).setCell ⟨g, 4, none⟩ (.int .i64 x.day)).setCell ⟨g, 5, none⟩ (.int .i64 x.lot)).setCell ⟨g, 6, none⟩ (.int .i64 x.oth)).setCell ⟨g, 7, none⟩ (.string x.code)).setCell ⟨g, 8, none⟩ (.string x.ctry)).setCell ⟨g, 9, none⟩ (.int .i64 x.qty)).setCell ⟨g, 10, none⟩ (.int .i64 x.amt)).setCell ⟨g, 11, none⟩ (.slice x.LA x.ln x.lc)).setCell ⟨g, 12, none⟩ (.string x.text))) ?_ (hK undef _ _ (hF.msg hg hfg hbl hp trivial fun _ _ h => h))
      clear hF hK hbl hp
      generalize a.eval = ρ at *
      go_simp
    case fin =>
      intro wz vs fp hI
      have hM : MsgRK [vs 25, vs 24] (vs 26) (fp 26) wz := (hI.finM 26 (by decide) rfl).1
      have hO : ∀ g ∈ fp 26, W8.heap.size ≤ g ∧ g < wz.heap.size := (hI.finM 26 (by decide) rfl).2
      have hR := hI.below
      obtain ⟨g9, x, hg9, hf9, hp, hb9⟩ := hM
      have hv9 : vs 25 = .pointer (some ⟨g9, 0, none⟩) := by simpa using hg9
      have hg98 : W8.heap.size ≤ g9 := (hO g9 (by rw [hf9]; simp)).1
      clear hI hg9 hf9 hO HNX hst C8
      simp only [rj, number, putJ, List.map_cons, List.map_nil, if_true, Act.put, List.setIfInBounds_toArray, List.set_cons_zero, List.set_cons_succ, hv9]
      generalize vs 0 = zv0
      generalize vs 1 = zv1
      generalize vs 2 = zv2
      generalize vs 3 = zv3
      generalize vs 4 = zv4
      generalize vs 5 = zv5
      generalize vs 6 = zv6
      generalize vs 7 = zv7
      generalize vs 8 = zv8
      generalize vs 9 = zv9
      generalize vs 10 = zv10
      generalize vs 11 = zv11
      generalize vs 12 = zv12
      generalize vs 13 = zv13
      generalize vs 14 = zv14
      generalize vs 15 = zv15
      generalize vs 16 = zv16
      generalize vs 17 = zv17
      generalize vs 18 = zv18
      generalize vs 19 = zv19
      generalize vs 20 = zv20
      generalize vs 21 = zv21
      generalize vs 22 = zv22
      generalize vs 23 = zv23
      generalize vs 24 = zv24
      generalize vs 26 = zv26
      obtain ⟨J, hJ1, hJ2, hS⟩ := zS.src hR.is
      have HSZ : Hid (Src wz w.heap.size A m c J) := hS
      have HBZ : Hid (RowKit.Below w.heap.size w wz) := hR.kp.under37 HB8.out (Nat.le_refl _)
      have HNBZ : Hid (Bl wz (w.heap.size + 1) 80 (ns8.map (Value.int .i64)).toArray) := hR.bl HNB8.out (by omega)
      have HOZ : Hid (wz.ownsRow w.heap.size 48 13 (.slice B k d) k (flat encM ms)) := own_of_block HO8.out fun j hj => hR.kp.block j (own_lt HO8.out j hj) (fun e => own_apart HO8.out HS8.out (by decide) (by rw [hj, e]))
      have HXZ : Hid (Bl wz g9 48 #[.int .i64 x.kind, .int .i64 x.frm, .int .i64 x.dst, .int .i64 x.num, .int .i64 x.day, .int .i64 x.lot, .int .i64 x.oth, .string x.code, .string x.ctry, .int .i64 x.qty, .int .i64 x.amt, .slice x.LA x.ln x.lc, .string x.text]) := hb9
      have HPZ := Lib.hid hp
      have hrow : ∀ j, (Value.slice B k d).ownBlock = some j → j < g9 := fun j hj => Nat.lt_of_lt_of_le (own_lt HO8.out j hj) hg98
      have HROW := Lib.hid hrow
      have hs9 : w.heap.size + 1 < g9 := Nat.lt_of_lt_of_le l8 hg98
      clear hv9 hS hR hb9 hp hrow HB8 HNB8 HO8 HS8 l8 hnv8 hg98
      have y0 : wz.cell? ⟨g9, 0, none⟩ = some (.int .i64 x.kind) := HXZ.out.cell 0
      by_cases h51 : x.kind = 51
      case neg =>
        have b1 : (x.kind == 51) = false := by simpa using h51
        clear h51
        go_upto_region 12 with (fail)
        have HPL : Hid (MgPlain x) := HPZ.out
        have t0 : wz.cell? ⟨g9, 0, none⟩ = some (.int .i64 x.kind) := HXZ.out.cell 0
        have t1 : wz.cell? ⟨g9, 1, none⟩ = some (.int .i64 x.frm) := HXZ.out.cell 1
        have t2 : wz.cell? ⟨g9, 2, none⟩ = some (.int .i64 x.dst) := HXZ.out.cell 2
        have t3 : wz.cell? ⟨g9, 3, none⟩ = some (.int .i64 x.num) := HXZ.out.cell 3
        have t4 : wz.cell? ⟨g9, 4, none⟩ = some (.int .i64 x.day) := HXZ.out.cell 4
        have t5 : wz.cell? ⟨g9, 5, none⟩ = some (.int .i64 x.lot) := HXZ.out.cell 5
        have t6 : wz.cell? ⟨g9, 6, none⟩ = some (.int .i64 x.oth) := HXZ.out.cell 6
        have t7 : wz.cell? ⟨g9, 7, none⟩ = some (.string x.code) := HXZ.out.cell 7
        have t8 : wz.cell? ⟨g9, 8, none⟩ = some (.string x.ctry) := HXZ.out.cell 8
        have t9 : wz.cell? ⟨g9, 9, none⟩ = some (.int .i64 x.qty) := HXZ.out.cell 9
        have t10 : wz.cell? ⟨g9, 10, none⟩ = some (.int .i64 x.amt) := HXZ.out.cell 10
        have t11 : wz.cell? ⟨g9, 11, none⟩ = some (.slice x.LA x.ln x.lc) := HXZ.out.cell 11
        have t12 : wz.cell? ⟨g9, 12, none⟩ = some (.string x.text) := HXZ.out.cell 12
        have HOA : Hid ((wz.alloc (.cells #[.int .i64 x.kind, .int .i64 x.frm, .int .i64 x.dst, .int .i64 x.num, .int .i64 x.day, .int .i64 x.lot, .int .i64 x.oth, .string x.code, .string x.ctry, .int .i64 x.qty, .int .i64 x.amt, .slice x.LA x.ln x.lc, .string x.text] 48)).ownsRow w.heap.size 48 13 (.slice B k d) k (flat encM ms)) := own_alloc HOZ.out _
        have HSA : Hid (Src (wz.alloc (.cells #[.int .i64 x.kind, .int .i64 x.frm, .int .i64 x.dst, .int .i64 x.num, .int .i64 x.day, .int .i64 x.lot, .int .i64 x.oth, .string x.code, .string x.ctry, .int .i64 x.qty, .int .i64 x.amt, .slice x.LA x.ln x.lc, .string x.text] 48)) w.heap.size A m c J) := Bl.alloc HSZ.out _
        have HNA : Hid (Bl (wz.alloc (.cells #[.int .i64 x.kind, .int .i64 x.frm, .int .i64 x.dst, .int .i64 x.num, .int .i64 x.day, .int .i64 x.lot, .int .i64 x.oth, .string x.code, .string x.ctry, .int .i64 x.qty, .int .i64 x.amt, .slice x.LA x.ln x.lc, .string x.text] 48)) (w.heap.size + 1) 80 (ns8.map (Value.int .i64)).toArray) := HNBZ.out.alloc _
        have HBA : Hid (RowKit.Below w.heap.size w (wz.alloc (.cells #[.int .i64 x.kind, .int .i64 x.frm, .int .i64 x.dst, .int .i64 x.num, .int .i64 x.day, .int .i64 x.lot, .int .i64 x.oth, .string x.code, .string x.ctry, .int .i64 x.qty, .int .i64 x.amt, .slice x.LA x.ln x.lc, .string x.text] 48))) := HBZ.out.alloc HBZ.out.size _
        have HRD : Hid (Rd (wz.alloc (.cells #[.int .i64 x.kind, .int .i64 x.frm, .int .i64 x.dst, .int .i64 x.num, .int .i64 x.day, .int .i64 x.lot, .int .i64 x.oth, .string x.code, .string x.ctry, .int .i64 x.qty, .int .i64 x.amt, .slice x.LA x.ln x.lc, .string x.text] 48)) 13 (some ⟨wz.heap.size, 0, none⟩) 1 (encM x)) := ⟨rfl, fun _ => ⟨wz.heap.size, 0, rfl, by simp, fun j u hu => by rw [Nat.zero_add, (show Bl (wz.alloc (.cells #[.int .i64 x.kind, .int .i64 x.frm, .int .i64 x.dst, .int .i64 x.num, .int .i64 x.day, .int .i64 x.lot, .int .i64 x.oth, .string x.code, .string x.ctry, .int .i64 x.qty, .int .i64 x.amt, .slice x.LA x.ln x.lc, .string x.text] 48)) wz.heap.size 48 (encM x).toArray from Bl.new _ _ _).cell]; simpa using hu⟩⟩
        have HON := Lib.hid (encM_one x)
        have HM1 : Hid (k + 1 ≤ maxLen ∧ (k + 1) * 144 ≤ 140737488355328) := ⟨by unfold maxLen; omega, by omega⟩
        go_wp2_with (at_builtin; refine wpList_append_rd _ rfl (.tmp 68) (.tmp 70) 35 rfl w.heap.size 48 _ 13 144 Tryz.underlying35 info37M rfl (by decide) (.slice B k d) k (flat encM ms) rfl HOA.out (some ⟨wz.heap.size, 0, none⟩) 1 _ (encM x) rfl HRD.out HON.out HM1.out.1 HM1.out.2 HBA.out.size ?_; intro v8 w8 ho8 hg8 hv8; obtain ⟨B8, d8, rfl⟩ := own_slice ho8)
        have HS8 : Src w8 w.heap.size A m c J := (hg8.block _ (Bl.lt HSA.out) (fun e => own_apart HOA.out HSA.out (by decide) e)).trans HSA.out
        have HN8 : Bl w8 (w.heap.size + 1) 80 (ns8.map (Value.int .i64)).toArray := (hg8.block _ HNA.out.lt (fun e => own_apart HOA.out HNA.out (by decide) e)).trans HNA.out
        have HB8 : RowKit.Below w.heap.size w w8 := HBA.out.grown hg8 HBA.out.size (fun j hj => own_base HOA.out j hj)
        go_roundw
        case rel => exact ⟨J, ms ++ [x], ns8, B8, k + 1, d8, rfl, hJ2, by omega, (by show _ = _; rw [List.length_append, HML.out]; rfl), (fun y hy => by
          rcases List.mem_append.1 hy with hy | hy
          · exact HMP.out y hy
          · rw [List.mem_singleton] at hy; subst hy; exact HPL.out), HNS8, (by rw [flat_append, flat_one]; exact ho8), HS8, HN8, HB8⟩
        case measure => simp [vLen37]; omega
      case pos =>
        have b1 : (x.kind == 51) = true := by simpa using h51
        clear h51
        go_wp2_with fail
        refine (HN.out 2000 J wz (by omega) (by omega) HSZ.out HBZ.out).mono ?_
        rintro e w11 ⟨vx, rfl, _, _, hO11, hS11⟩
        have HX11 : Hid (Bl w11 g9 48 #[.int .i64 x.kind, .int .i64 x.frm, .int .i64 x.dst, .int .i64 x.num, .int .i64 x.day, .int .i64 x.lot, .int .i64 x.oth, .string x.code, .string x.ctry, .int .i64 x.qty, .int .i64 x.amt, .slice x.LA x.ln x.lc, .string x.text]) := hO11.bl HXZ.out (by omega)
        have HNB11 : Hid (Bl w11 (w.heap.size + 1) 80 (ns8.map (Value.int .i64)).toArray) := hO11.bl HNBZ.out (by omega)
        have HO11 : Hid (w11.ownsRow w.heap.size 48 13 (.slice B k d) k (flat encM ms)) := own_of_block HOZ.out fun j hj => hO11.block j (fun e => own_apart HOZ.out HSZ.out (by decide) (by rw [hj, e]))
        have HB11 : Hid (RowKit.Below w.heap.size w w11) := HBZ.out.trans (hO11.below (Nat.le_refl _))
        have HS11 := Lib.hid hS11
        have hJ3 := nextI_le m J hJ2
        generalize nextI m J = J' at *
        clear hO11 hS11 HXZ HNBZ HOZ HBZ HSZ y0
        have y10 : w11.cell? ⟨g9, 10, none⟩ = some (.int .i64 x.amt) := HX11.out.cell 10
        have f10 : w11.frozen? ⟨g9, 10, none⟩ = false := HX11.out.free 10
        have HXE : Hid (Bl (w11.setCell ⟨g9, 10, none⟩ (.int .i64 vx)) g9 48 #[.int .i64 x.kind, .int .i64 x.frm, .int .i64 x.dst, .int .i64 x.num, .int .i64 x.day, .int .i64 x.lot, .int .i64 x.oth, .string x.code, .string x.ctry, .int .i64 x.qty, .int .i64 vx, .slice x.LA x.ln x.lc, .string x.text]) := by
          have := HX11.out.put 10 (.int .i64 vx)
          show Bl _ _ _ _
          simpa using this
        have HNBE : Hid (Bl (w11.setCell ⟨g9, 10, none⟩ (.int .i64 vx)) (w.heap.size + 1) 80 (ns8.map (Value.int .i64)).toArray) := HNB11.out.far (p := ⟨g9, 10, none⟩) (by simp; omega) _
        have HSE : Hid (Src (w11.setCell ⟨g9, 10, none⟩ (.int .i64 vx)) w.heap.size A m c J') := Bl.far (p := ⟨g9, 10, none⟩) HS11.out (by simp; omega) _
        have HOE : Hid ((w11.setCell ⟨g9, 10, none⟩ (.int .i64 vx)).ownsRow w.heap.size 48 13 (.slice B k d) k (flat encM ms)) := own_of_block HO11.out fun j hj => Below.heap_setCell _ _ _ j (by have := HROW.out j hj; simp; omega)
        have HBE : Hid (RowKit.Below w.heap.size w (w11.setCell ⟨g9, 10, none⟩ (.int .i64 vx))) := HB11.out.setCell (p := ⟨g9, 10, none⟩) (by simp; omega) _
        go_upto_region 12 with (fail)
        clear y10 f10 HX11 HNB11 HS11 HO11 HB11
        generalize w11.setCell ⟨g9, 10, none⟩ (.int .i64 vx) = W12 at *
        have HPL : Hid (MgPlain { x with amt := vx }) := HPZ.out.amt vx
        obtain ⟨z, hz⟩ : ∃ z : Mg, z = { x with amt := vx } := ⟨_, rfl⟩
        have HXF : Hid (Bl W12 g9 48 #[.int .i64 z.kind, .int .i64 z.frm, .int .i64 z.dst, .int .i64 z.num, .int .i64 z.day, .int .i64 z.lot, .int .i64 z.oth, .string z.code, .string z.ctry, .int .i64 z.qty, .int .i64 z.amt, .slice z.LA z.ln z.lc, .string z.text]) := by rw [hz]; exact HXE.out
        rw [← hz] at HPL
        clear hz HXE
        have t0 : W12.cell? ⟨g9, 0, none⟩ = some (.int .i64 z.kind) := HXF.out.cell 0
        have t1 : W12.cell? ⟨g9, 1, none⟩ = some (.int .i64 z.frm) := HXF.out.cell 1
        have t2 : W12.cell? ⟨g9, 2, none⟩ = some (.int .i64 z.dst) := HXF.out.cell 2
        have t3 : W12.cell? ⟨g9, 3, none⟩ = some (.int .i64 z.num) := HXF.out.cell 3
        have t4 : W12.cell? ⟨g9, 4, none⟩ = some (.int .i64 z.day) := HXF.out.cell 4
        have t5 : W12.cell? ⟨g9, 5, none⟩ = some (.int .i64 z.lot) := HXF.out.cell 5
        have t6 : W12.cell? ⟨g9, 6, none⟩ = some (.int .i64 z.oth) := HXF.out.cell 6
        have t7 : W12.cell? ⟨g9, 7, none⟩ = some (.string z.code) := HXF.out.cell 7
        have t8 : W12.cell? ⟨g9, 8, none⟩ = some (.string z.ctry) := HXF.out.cell 8
        have t9 : W12.cell? ⟨g9, 9, none⟩ = some (.int .i64 z.qty) := HXF.out.cell 9
        have t10 : W12.cell? ⟨g9, 10, none⟩ = some (.int .i64 z.amt) := HXF.out.cell 10
        have t11 : W12.cell? ⟨g9, 11, none⟩ = some (.slice z.LA z.ln z.lc) := HXF.out.cell 11
        have t12 : W12.cell? ⟨g9, 12, none⟩ = some (.string z.text) := HXF.out.cell 12
        have HOA : Hid ((W12.alloc (.cells #[.int .i64 z.kind, .int .i64 z.frm, .int .i64 z.dst, .int .i64 z.num, .int .i64 z.day, .int .i64 z.lot, .int .i64 z.oth, .string z.code, .string z.ctry, .int .i64 z.qty, .int .i64 z.amt, .slice z.LA z.ln z.lc, .string z.text] 48)).ownsRow w.heap.size 48 13 (.slice B k d) k (flat encM ms)) := own_alloc HOE.out _
        have HSA : Hid (Src (W12.alloc (.cells #[.int .i64 z.kind, .int .i64 z.frm, .int .i64 z.dst, .int .i64 z.num, .int .i64 z.day, .int .i64 z.lot, .int .i64 z.oth, .string z.code, .string z.ctry, .int .i64 z.qty, .int .i64 z.amt, .slice z.LA z.ln z.lc, .string z.text] 48)) w.heap.size A m c J') := Bl.alloc HSE.out _
        have HNA : Hid (Bl (W12.alloc (.cells #[.int .i64 z.kind, .int .i64 z.frm, .int .i64 z.dst, .int .i64 z.num, .int .i64 z.day, .int .i64 z.lot, .int .i64 z.oth, .string z.code, .string z.ctry, .int .i64 z.qty, .int .i64 z.amt, .slice z.LA z.ln z.lc, .string z.text] 48)) (w.heap.size + 1) 80 (ns8.map (Value.int .i64)).toArray) := HNBE.out.alloc _
        have HBA : Hid (RowKit.Below w.heap.size w (W12.alloc (.cells #[.int .i64 z.kind, .int .i64 z.frm, .int .i64 z.dst, .int .i64 z.num, .int .i64 z.day, .int .i64 z.lot, .int .i64 z.oth, .string z.code, .string z.ctry, .int .i64 z.qty, .int .i64 z.amt, .slice z.LA z.ln z.lc, .string z.text] 48))) := HBE.out.alloc HBE.out.size _
        have HRD : Hid (Rd (W12.alloc (.cells #[.int .i64 z.kind, .int .i64 z.frm, .int .i64 z.dst, .int .i64 z.num, .int .i64 z.day, .int .i64 z.lot, .int .i64 z.oth, .string z.code, .string z.ctry, .int .i64 z.qty, .int .i64 z.amt, .slice z.LA z.ln z.lc, .string z.text] 48)) 13 (some ⟨W12.heap.size, 0, none⟩) 1 (encM z)) := ⟨rfl, fun _ => ⟨W12.heap.size, 0, rfl, by simp, fun j u hu => by rw [Nat.zero_add, (show Bl (W12.alloc (.cells #[.int .i64 z.kind, .int .i64 z.frm, .int .i64 z.dst, .int .i64 z.num, .int .i64 z.day, .int .i64 z.lot, .int .i64 z.oth, .string z.code, .string z.ctry, .int .i64 z.qty, .int .i64 z.amt, .slice z.LA z.ln z.lc, .string z.text] 48)) W12.heap.size 48 (encM z).toArray from Bl.new _ _ _).cell]; simpa using hu⟩⟩
        have HON := Lib.hid (encM_one z)
        have HM1 : Hid (k + 1 ≤ maxLen ∧ (k + 1) * 144 ≤ 140737488355328) := ⟨by unfold maxLen; omega, by omega⟩
        go_wp2_with (at_builtin; refine wpList_append_rd _ rfl (.tmp 68) (.tmp 70) 35 rfl w.heap.size 48 _ 13 144 Tryz.underlying35 info37M rfl (by decide) (.slice B k d) k (flat encM ms) rfl HOA.out (some ⟨W12.heap.size, 0, none⟩) 1 _ (encM z) rfl HRD.out HON.out HM1.out.1 HM1.out.2 HBA.out.size ?_; intro v8 w8 ho8 hg8 hv8; obtain ⟨B8, d8, rfl⟩ := own_slice ho8)
        have HS8 : Src w8 w.heap.size A m c J' := (hg8.block _ (Bl.lt HSA.out) (fun e => own_apart HOA.out HSA.out (by decide) e)).trans HSA.out
        have HN8 : Bl w8 (w.heap.size + 1) 80 (ns8.map (Value.int .i64)).toArray := (hg8.block _ HNA.out.lt (fun e => own_apart HOA.out HNA.out (by decide) e)).trans HNA.out
        have HB8 : RowKit.Below w.heap.size w w8 := HBA.out.grown hg8 HBA.out.size (fun j hj => own_base HOA.out j hj)
        go_roundw
        case rel => exact ⟨J', ms ++ [z], ns8, B8, k + 1, d8, rfl, hJ3, by omega, (by show _ = _; rw [List.length_append, HML.out]; rfl), (fun y hy => by
          rcases List.mem_append.1 hy with hy | hy
          · exact HMP.out y hy
          · rw [List.mem_singleton] at hy; subst hy; exact HPL.out), HNS8, (by rw [flat_append, flat_one]; exact ho8), HS8, HN8, HB8⟩
        case measure => simp [vLen37]; omega
end Go.Proofs.YtdbcbbiplkikcaaGreat

namespace Go.Proofs.YtdbcbbiplkikcaaGreat
open Go.RowKit
set_option linter.unusedVariables false

def mAw : Mg := ⟨50, 1, 0, 1, 2, 10001, 1, ByteArray.empty, ByteArray.empty, 6, 1, none, 0, 0, ByteArray.empty⟩
theorem mAw_ok : MOk mAw := ⟨by decide, by decide, rfl, by decide, .inl rfl⟩
theorem cAw_inv : CInv 0 (cenQ [qAw] []) := by
  refine ⟨Nat.le_refl _, Nat.le_refl _, Nat.le_refl _, (fun r hr => by cases hr), by decide, by decide, fun b hb => ?_, fun g hg => by cases hg⟩
  have hb' : b ∈ [bk0 qAw] := hb
  rw [List.mem_singleton] at hb'
  subst hb'
  exact ⟨BOk.nil (by decide), Nat.le_refl _⟩
theorem errAw : newErr [qAw] [] = 0 := by decide
theorem newAw (w : World) (A : Option Addr) (c : Nat) (h : Recs encQ 4 w A 1 [qAw]) : Calls Tryz.prog 6 #[.slice A 1 c, .slice none 0 0] w fun e w' => ∃ H : Hds, e = .returned (.tuple #[.agg #[.slice H.s.A H.s.n H.s.c, .slice H.q.A H.q.n H.q.c, .slice H.g.A H.g.n H.g.c, .slice H.k.A H.k.n H.k.c, .slice H.m.A H.m.n H.m.c], .int .i64 0]) ∧ Hid (CenO w.heap.size w' H (cenQ [qAw] [])) ∧ RowKit.Below w.heap.size w w' :=
  (new37_any A 1 c none 0 0 [qAw] [] w h Recs.nil (fun g hg => by cases hg)).mono fun e w' ⟨H, er, h1, h2, h3, _, h5⟩ => by
    obtain rfl : er = 0 := h2.trans errAw
    exact ⟨H, h1, (h3 rfl).1, h5⟩
theorem hndAw (H : Hds) (w : World) (hA : CenAt w H (cenQ [qAw] [])) : Calls Tryz.prog 12 #[.agg #[.slice H.s.A H.s.n H.s.c, .slice H.q.A H.q.n H.q.c, .slice H.g.A H.g.n H.g.c, .slice H.k.A H.k.n H.k.c, .slice H.m.A H.m.n H.m.c], .agg #[.int .i64 50, .int .i64 1, .int .i64 0, .int .i64 1, .int .i64 2, .int .i64 10001, .int .i64 1, .string ByteArray.empty, .string ByteArray.empty, .int .i64 6, .int .i64 1, .slice none 0 0, .string ByteArray.empty]] w fun e w' => ∃ (H2 : Hds) (s : Snt), e = .returned (.tuple #[.agg #[.slice H2.s.A H2.s.n H2.s.c, .slice H2.q.A H2.q.n H2.q.c, .slice H2.g.A H2.g.n H2.g.c, .slice H2.k.A H2.k.n H2.k.c, .slice H2.m.A H2.m.n H2.m.c], .int .i64 0]) ∧ Hid (w'.ownsRow w.heap.size 48 13 (.slice H2.m.A H2.m.n H2.m.c) H2.m.n (flat encS [s])) ∧ Hid (s.kind = 30 ∧ s.dst = 1 ∧ s.lot = 10001 ∧ s.qty = 6) ∧ RowKit.Below w.heap.size w w' :=
  (Handle37_of H (cenQ [qAw] []) mAw [] 0 w hA cAw_inv (by omega) IntsK.nil (fun N H C w h1 h2 h3 h4 h5 => handle37a N H C mAw [] 0 w h1 h2 h3 h4 (by omega) rfl h5 (by decide) (by decide) (by decide) (by decide))).mono fun e w' ⟨H2, C2, er, h1, h2, h3, h4, h5⟩ => by
    obtain ⟨rfl, s, e1, e2, e3, e4, e5⟩ := h5 rfl rfl rfl rfl mAw_ok rfl (bk0 qAw) rfl rfl rfl rfl rfl rfl rfl rfl rfl rfl rfl rfl
    refine ⟨H2, s, h1, ?_, ⟨e2, e3, e4, e5⟩, h4⟩
    have := h2.sent
    rwa [e1] at this

set_option maxRecDepth 100000 in
set_option maxHeartbeats 8000000 in
theorem awake37_any (w : World) : Calls Tryz.prog 9 #[] w (BRes w true) := by
  have HN := Lib.hid newAw
  have HH := Lib.hid hndAw
  have hq : RowKit.Below w.heap.size w (w.alloc (.cells #[.int .i64 1, .int .i64 10, .int .i64 0, .int .i64 9] 27)) := (Below.refl _ _).alloc (Nat.le_refl _) _
  have HRQ : Hid (Recs encQ 4 (w.alloc (.cells #[.int .i64 1, .int .i64 10, .int .i64 0, .int .i64 9] 27)) (some ⟨w.heap.size, 0, none⟩) 1 [qAw]) := ⟨rfl, fun _ => ⟨w.heap.size, 0, rfl, by simp, fun i hi c hc => by
    obtain rfl : i = 0 := by omega
    rw [(Bl.new w 27 #[.int .i64 1, .int .i64 10, .int .i64 0, .int .i64 9]).cell]
    rcases (show c = 0 ∨ c = 1 ∨ c = 2 ∨ c = 3 by omega) with rfl | rfl | rfl | rfl <;> rfl⟩⟩
  have HQ := Lib.hid hq
  clear hq
  go_enter Tryz.func9, Tryz.ntmps9
  go_wp2_with fail
  refine (HN.out _ _ _ HRQ.out).mono ?_
  rintro e w1 ⟨H, rfl, hO1, hb1⟩
  have HB1 : Hid (RowKit.Below w.heap.size w (w1.alloc (.cells #[.slice H.s.A H.s.n H.s.c, .slice H.q.A H.q.n H.q.c, .slice H.g.A H.g.n H.g.c, .slice H.k.A H.k.n H.k.c, .slice H.m.A H.m.n H.m.c] 37))) := (HQ.out.trans (hb1.mono HQ.out.size)).alloc (Nat.le_trans HQ.out.size hb1.size) _
  have HO1 := Lib.hid ((hO1.out.below ((Below.refl _ _).alloc (Nat.le_refl _) (.cells #[.slice H.s.A H.s.n H.s.c, .slice H.q.A H.q.n H.q.c, .slice H.g.A H.g.n H.g.c, .slice H.k.A H.k.n H.k.c, .slice H.m.A H.m.n H.m.c] 37))).at_)
  have HX1 := Lib.hid (Bl.new w1 37 #[.slice H.s.A H.s.n H.s.c, .slice H.q.A H.q.n H.q.c, .slice H.g.A H.g.n H.g.c, .slice H.k.A H.k.n H.k.c, .slice H.m.A H.m.n H.m.c])
  have hsz : w.heap.size < w1.heap.size := Nat.lt_of_lt_of_le (by simp) hb1.size
  clear hb1 hO1 HRQ HQ
  go_upto_region 2 with (fail)
  generalize w1.alloc (.cells #[.slice H.s.A H.s.n H.s.c, .slice H.q.A H.q.n H.q.c, .slice H.g.A H.g.n H.g.c, .slice H.k.A H.k.n H.k.c, .slice H.m.A H.m.n H.m.c] 37) = W1 at *
  generalize w1.heap.size = g1 at *
  have x0 : W1.cell? ⟨g1, 0, none⟩ = some (.slice H.s.A H.s.n H.s.c) := HX1.out.c0
  have x1 : W1.cell? ⟨g1, 1, none⟩ = some (.slice H.q.A H.q.n H.q.c) := HX1.out.c1
  have x2 : W1.cell? ⟨g1, 2, none⟩ = some (.slice H.g.A H.g.n H.g.c) := HX1.out.c2
  have x3 : W1.cell? ⟨g1, 3, none⟩ = some (.slice H.k.A H.k.n H.k.c) := HX1.out.c3
  have x4 : W1.cell? ⟨g1, 4, none⟩ = some (.slice H.m.A H.m.n H.m.c) := HX1.out.c4
  go_wp2_with fail
  refine (HH.out _ _ HO1.out).mono ?_
  rintro e w2 ⟨H2, s, rfl, hS2, hs2, hb2⟩
  have HB2 : Hid (RowKit.Below w.heap.size w w2) := HB1.out.trans (hb2.mono HB1.out.size)
  have HX2 := Lib.hid (HX1.out.keep hb2)
  clear hb2 HB1 HX1 HO1 x0 x1 x2 x3 x4
  have x0 : w2.cell? ⟨g1, 0, none⟩ = some (.slice H.s.A H.s.n H.s.c) := HX2.out.c0
  have xf0 : w2.frozen? ⟨g1, 0, none⟩ = false := HX2.out.free 0
  have x1 : w2.cell? ⟨g1, 1, none⟩ = some (.slice H.q.A H.q.n H.q.c) := HX2.out.c1
  have xf1 : w2.frozen? ⟨g1, 1, none⟩ = false := HX2.out.free 1
  have x2 : w2.cell? ⟨g1, 2, none⟩ = some (.slice H.g.A H.g.n H.g.c) := HX2.out.c2
  have xf2 : w2.frozen? ⟨g1, 2, none⟩ = false := HX2.out.free 2
  have x3 : w2.cell? ⟨g1, 3, none⟩ = some (.slice H.k.A H.k.n H.k.c) := HX2.out.c3
  have xf3 : w2.frozen? ⟨g1, 3, none⟩ = false := HX2.out.free 3
  have x4 : w2.cell? ⟨g1, 4, none⟩ = some (.slice H.m.A H.m.n H.m.c) := HX2.out.c4
  have xf4 : w2.frozen? ⟨g1, 4, none⟩ = false := HX2.out.free 4
  have HX3 : Hid (Bl (((((w2.setCell ⟨g1, 0, none⟩ (.slice H2.s.A H2.s.n H2.s.c)).setCell ⟨g1, 1, none⟩ (.slice H2.q.A H2.q.n H2.q.c)).setCell ⟨g1, 2, none⟩ (.slice H2.g.A H2.g.n H2.g.c)).setCell ⟨g1, 3, none⟩ (.slice H2.k.A H2.k.n H2.k.c)).setCell ⟨g1, 4, none⟩ (.slice H2.m.A H2.m.n H2.m.c)) g1 37 #[.slice H2.s.A H2.s.n H2.s.c, .slice H2.q.A H2.q.n H2.q.c, .slice H2.g.A H2.g.n H2.g.c, .slice H2.k.A H2.k.n H2.k.c, .slice H2.m.A H2.m.n H2.m.c]) := set5_bl HX2.out _ _ _ _ _
  have HB3 : Hid (RowKit.Below w.heap.size w (((((w2.setCell ⟨g1, 0, none⟩ (.slice H2.s.A H2.s.n H2.s.c)).setCell ⟨g1, 1, none⟩ (.slice H2.q.A H2.q.n H2.q.c)).setCell ⟨g1, 2, none⟩ (.slice H2.g.A H2.g.n H2.g.c)).setCell ⟨g1, 3, none⟩ (.slice H2.k.A H2.k.n H2.k.c)).setCell ⟨g1, 4, none⟩ (.slice H2.m.A H2.m.n H2.m.c))) := put5 HB2.out (by omega) _ _ _ _ _
  have HS3 : Hid ((((((w2.setCell ⟨g1, 0, none⟩ (.slice H2.s.A H2.s.n H2.s.c)).setCell ⟨g1, 1, none⟩ (.slice H2.q.A H2.q.n H2.q.c)).setCell ⟨g1, 2, none⟩ (.slice H2.g.A H2.g.n H2.g.c)).setCell ⟨g1, 3, none⟩ (.slice H2.k.A H2.k.n H2.k.c)).setCell ⟨g1, 4, none⟩ (.slice H2.m.A H2.m.n H2.m.c)).ownsRow W1.heap.size 48 13 (.slice H2.m.A H2.m.n H2.m.c) H2.m.n (flat encS [s])) := own5 hS2.out (fun j hj e => own_apart hS2.out HX2.out (by decide) (by rw [hj, e])) _ _ _ _ _
  go_upto_region 3 with (fail)
  clear x0 x1 x2 x3 x4 xf0 xf1 xf2 xf3 xf4 HX2 HB2 hS2
  generalize ((((w2.setCell ⟨g1, 0, none⟩ (.slice H2.s.A H2.s.n H2.s.c)).setCell ⟨g1, 1, none⟩ (.slice H2.q.A H2.q.n H2.q.c)).setCell ⟨g1, 2, none⟩ (.slice H2.g.A H2.g.n H2.g.c)).setCell ⟨g1, 3, none⟩ (.slice H2.k.A H2.k.n H2.k.c)).setCell ⟨g1, 4, none⟩ (.slice H2.m.A H2.m.n H2.m.c) = W3 at *
  obtain ⟨hk1, hk2, hk3, hk4⟩ := hs2.out
  have hm1 : H2.m.n = 1 := (own_lenK encS_len (by omega) HS3.out).symm
  obtain ⟨gs, hA⟩ := own_addr HS3.out (by omega)
  obtain ⟨Hs2, Hq2, Hg2, Hk2, ⟨mA, mn, mc⟩⟩ := H2
  simp only at hm1 hA
  subst hA hm1
  have x4 : W3.cell? ⟨g1, 4, none⟩ = some (.slice (some ⟨gs, 0, none⟩) 1 mc) := HX3.out.c4
  have hc : ∀ c, c < 13 → W3.cell? ⟨gs, c, none⟩ = some ((encS s)[c]!) := fun c hc => by
    have := own_cellK (enc := encS) (xs := [s]) (i := 0) (c := c) encS_len HS3.out Nat.one_pos hc rfl
    simpa using this
  have s0 : W3.cell? ⟨gs, 0, none⟩ = some (.int .i64 30) := by rw [← hk1]; exact hc 0 (by omega)
  have s2 : W3.cell? ⟨gs, 2, none⟩ = some (.int .i64 1) := by rw [← hk2]; exact hc 2 (by omega)
  have s5 : W3.cell? ⟨gs, 5, none⟩ = some (.int .i64 10001) := by rw [← hk3]; exact hc 5 (by omega)
  have s9 : W3.cell? ⟨gs, 9, none⟩ = some (.int .i64 6) := by rw [← hk4]; exact hc 9 (by omega)
  clear hc hk1 hk2 hk3 hk4 hs2 HS3 HX3
  go_wp2
  go_ret
  exact ⟨rfl, HB3.out⟩
end Go.Proofs.YtdbcbbiplkikcaaGreat

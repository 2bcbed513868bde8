/-
  The walk of the law InvoiceBuying. No statement of the seat is proved here. Conditions: the slices read as integers.
-/
import Derived.Test.YtknbbamlpadfdaaLaw17e
import Derived.Test.YtknbbamlpadfdaaMath17b
namespace Go.Proofs.Ytknbbamlpadfdaa
open Go.RowKit
set_option linter.unusedVariables false

/-- An empty slice that was written out. -/
theorem own_empty {w : World} {g base : Nat} {t : TypeId} {size : Nat} (h : Bl w g t #[]) (hb : base ≤ g) : w.ownsRow base t size (.slice (some ⟨g, 0, none⟩) 0 0) 0 [] :=
  ⟨by simp, .inr ⟨g, 0, #[], rfl, hb, h, Nat.le_refl _, Nat.zero_le _, by simp, by simp⟩⟩

/-- The append onto a row of the call's own, in a region that draws its order. -/
theorem step_append_rd {P : Program} (w : World) {ops : Array Oper} {o : Oper} {a : Act} {K : Act → World → Prop} {Q : Exit → Act → World → Prop} {E : Prop} (hgd : o.guard = none) (s x : Operand) (t : TypeId)
    (ho : o.op = .call { callee := .builtin .append, args := #[s, x], argTypes := #[t, t] })
    (base : Nat) (e : TypeId) (z : Value) (size bytes : Nat) (ht : P.underlying t = some (.slice e)) (hi : (P.info? e).map (fun i => (i.zero, i.size, i.bytes)) = some (some z, size, bytes)) (hzs : z.cells.size = size) (hsz : 0 < size)
    (v : Value) (n : Nat) (xs : List Value) (hs : a.eval s = v) (hown : w.ownsRow base e size v n xs)
    (A : Option Addr) (m c : Nat) (news : List Value) (hx : a.eval x = .slice A m c) (hr : Rd w size A m news) (h1 : ∀ u ∈ news, u.oneCell' = true)
    (h63 : n + m ≤ maxLen) (hbytes : (n + m) * bytes ≤ 140737488355328) (hbase : base ≤ w.heap.size)
    (h : ∀ v' w', w'.ownsRow base e size v' (n + m) (xs ++ news) → w.grownBy w' v.ownBlock → K (a.put o.dst v') w') :
    if Region.wanted o (yielded ops a.tmps) = true then Oper.wp P o a w K Q else E := by
  obtain ⟨i, hi0, hz, hsize, hby⟩ := info_parts hi
  have hw : Region.wanted o (yielded ops a.tmps) = true := by simp [Region.wanted, hgd]
  rw [if_pos hw]
  obtain ⟨v', w', hrun, h2, h3, _⟩ := run_append_rd (P := P) w base t o.type e i z size bytes ht hi0 hz hsize hby hzs hsz v n xs hown A m c news hr h1 h63 hbytes hbase
  unfold Oper.wp execOp
  simp only [ho, resolve, invoke, builtin, Sem.run_bind, Sem.run_pure, Result.andThen_ok, List.map_toArray, List.map_cons, List.map_nil, hs, hx, hrun]
  exact h v' w' h2 h3
theorem flat_two {α : Type} {enc : α → List Value} (x y : α) : flat enc [x, y] = enc x ++ enc y := by simp [flat]
theorem Bl.thru {wA w4 : World} {g : Nat} {t : TypeId} {cs : Array Value} {row : Option Nat} (hb : Bl wA g t cs) (hg : wA.grownBy w4 row) (hne : some g ≠ row) : Bl w4 g t cs := (hg.block g hb.lt hne).trans hb
theorem Rd.drew {w : World} {size n : Nat} {A : Option Addr} {xs : List Value} (h : Rd w size A n xs) : Rd w.drew size A n xs := h

set_option maxRecDepth 100000 in
set_option maxHeartbeats 16000000 in
theorem walkInvoiceBuying (A0 : Option Addr) (n0 c0 : Nat) (xs : List Int) (A1 : Option Addr) (n1 c1 : Nat) (ys : List Int) (am cn : Int) (w : World)
    (h0 : Ints w A0 n0 xs) (hl0 : n0 ≤ c0) (hc0 : c0 ≤ 9223372036854775807) (h1 : Ints w A1 n1 ys) (hl1 : n1 ≤ c1) (hc1 : c1 ≤ 9223372036854775807) :
    Calls Try.prog 7 #[.slice A0 n0 c0, .slice A1 n1 c1, .int .i64 am, .int .i64 cn] w fun e w' => e = .returned (.bool true) ∧ RowKit.Below w.heap.size w w' := by
  go_enter Try.func7, Try.ntmps7
  go_wp2_with fail
  refine (invoice_any A1 n1 c1 ys w h1 hl1 hc1).mono ?_
  rintro e w1 ⟨cu, day, A, n, c, B, m, d, ls, cs, rfl, hcu, hie, hn, hm, hcs, hln, hcm, hol, hoc, hb1⟩
  have HCU : Hid (cu.size ≤ 9223372036854775807) := by show _ ≤ _; omega
  have HCS := Lib.hid (chsz_of hcs)
  have HC3 := Lib.hid hcs
  have HIE := Lib.hid hie
  have HCM := Lib.hid hcm
  have hl := Recs.of_own enc2_len hol hln
  have hc := Recs.of_own encC_len hoc hcm
  have hr := Rd.of_own hoc
  clear hcu hie hcs hln hcm hol hoc
  go_wp2_with fail
  refine (table_any A0 n0 c0 xs w1 (h0.below hb1) hl0 hc0).mono ?_
  rintro e w2 ⟨T, tn, tc, ts, rfl, htl, htn, hts, hot, hb2⟩
  have HTS := Lib.hid (exsz_of hts)
  have hT := Recs.of_own encX_len hot htl
  have hl2 := hl.below hb2
  have hc2 := hc.below hb2
  have hr2 := hr.keep hb2
  have hB2 := hb1.trans (hb2.mono hb1.size)
  clear hts htl hot hb1 hb2 hl hc hr h0 h1
  have hal : RowKit.Below w2.heap.size w2 (w2.alloc (.cells #[.string cu, .int .i64 day, .slice A n c, .slice B m d] 25)) := (Below.refl _ _).alloc (Nat.le_refl _) _
  have hx := Bl.new w2 25 #[.string cu, .int .i64 day, .slice A n c, .slice B m d]
  have hl3 := hl2.below hal
  have hc3 := hc2.below hal
  have hr3 := hr2.keep hal
  have hT3 := hT.below hal
  have hB3 := hB2.trans (hal.mono hB2.size)
  go_wp2_with fail
  generalize w2.alloc (.cells #[.string cu, .int .i64 day, .slice A n c, .slice B m d] 25) = W at *
  generalize w2.heap.size = gx at *
  clear hal hl2 hc2 hr2 hT hB2
  refine (values_any T tn tc ts cu day A B n c m d ls cs W hT3 (by omega) HTS.out HCU.out hl3 (by omega) hc3 (by omega) HCS.out).mono ?_
  rintro e w4 ⟨Av, nv, cv, rfl, hov, hb4⟩
  have hx4 := hx.keep hb4
  have p0 : w4.cell? ⟨gx, 0, none⟩ = some (.string cu) := hx4.cell 0
  have p1 : w4.cell? ⟨gx, 1, none⟩ = some (.int .i64 day) := hx4.cell 1
  have p2 : w4.cell? ⟨gx, 2, none⟩ = some (.slice A n c) := hx4.cell 2
  have p3 : w4.cell? ⟨gx, 3, none⟩ = some (.slice B m d) := hx4.cell 3
  have hl4 := hl3.below hb4
  have hc4 := hc3.below hb4
  have hr4 := hr3.keep hb4
  have hT4 := hT3.below hb4
  have hB4 := hB3.trans (hb4.mono hB3.size)
  have hIv := IntsK.of_own hov
  have HLv := Lib.hid (own_len hov)
  have HMv := Lib.hid (own_le hov)
  have hg4 := hx4.lt
  clear hx hl3 hc3 hr3 hT3 hB3 hb4 hov
  -- y := x
  have hal5 : RowKit.Below w4.heap.size w4 (w4.alloc (.cells #[.string cu, .int .i64 day, .slice A n c, .slice B m d] 25)) := (Below.refl _ _).alloc (Nat.le_refl _) _
  have hy5 := Bl.new w4 25 #[.string cu, .int .i64 day, .slice A n c, .slice B m d]
  go_upto_region 4 with (fail)
  generalize w4.alloc (.cells #[.string cu, .int .i64 day, .slice A n c, .slice B m d] 25) = W5 at *
  have hgy := hy5.lt
  have hr5 := hr4.keep hal5
  have hx5 := hx4.keep hal5
  have s3 : W5.cell? ⟨gx, 3, none⟩ = some (.slice B m d) := hx5.cell 3
  have ngx : gx ≠ W5.heap.size := by omega
  have lgx : gx < W5.heap.size := by omega
  have HOE : Hid ((W5.alloc (.cells #[] 33)).ownsRow W5.heap.size 33 5 (.slice (some ⟨W5.heap.size, 0, none⟩) 0 0) 0 []) := own_empty (Bl.new W5 _ _) (Nat.le_refl _)
  have HRD := Lib.hid (hr5.alloc (.cells #[] 33))
  have HSZ : Hid (W5.heap.size ≤ (W5.alloc (.cells #[] 33)).heap.size) := by show _ ≤ _; simp
  have HON : Hid (∀ u ∈ flat encC cs, u.oneCell' = true) := fun u hu => by
    obtain ⟨x, _, hx⟩ := List.mem_flatMap.1 hu
    exact encC_one x u hx
  have HM1 : Hid (0 + m ≤ maxLen ∧ (0 + m) * 48 ≤ 140737488355328) := ⟨by unfold maxLen; omega, by omega⟩
  have HW := Lib.hid (fun w => within_any am 1000000 w (by omega) (by omega))
  have ha0 := Int.emod_nonneg am (show (1000000 : Int) ≠ 0 by omega)
  have ha1 := Int.emod_lt_of_pos am (show (0 : Int) < 1000000 by omega)
  generalize am % 1000000 = a at *
  go_wp2_with (at_builtin; refine wpList_append_rd _ rfl (.tmp 32) (.tmp 34) 23 rfl W5.heap.size 33 _ 5 48 Try.underlying23 infoC rfl (by decide) (.slice (some ⟨W5.heap.size, 0, none⟩) 0 0) 0 [] rfl HOE.out B m d (flat encC cs) rfl HRD.out HON.out HM1.out.1 HM1.out.2 HSZ.out ?_; intro v6 w6 ho6 hg6 _)
  have ho6' : w6.ownsRow W5.heap.size 33 5 v6 m (flat encC cs) := by simpa using ho6
  have hb6 : RowKit.Below W5.heap.size W5 w6 := ((Below.refl _ _).alloc (Nat.le_refl _) _).grown hg6 HSZ.out (by intro g hg; simp [Value.ownBlock] at hg; omega)
  clear ho6 hg6 HOE HRD HSZ HM1 s3 p0 p1 p2 p3
  refine (HW.out _).mono ?_
  rintro e w7 ⟨rfl, rfl⟩
  go_wp2_with fail
  refine (currency_any cn w6).mono ?_
  rintro e w8 ⟨cc, rfl, hcc, hb8⟩
  have HCC := Lib.hid hcc
  have hb58 := hb6.trans (hb8.mono hb6.size)
  have ho8 := own_below ho6' hb8
  have hy8 := hy5.keep hb58
  have HO9 := Lib.hid (own_alloc ho8 (.cells #[.int .i64 9, .int .i64 a, .string cc, .int .i64 1, .int .i64 0] 33))
  have HR9 : Hid (Rd (w8.alloc (.cells #[.int .i64 9, .int .i64 a, .string cc, .int .i64 1, .int .i64 0] 33)) 5 (some ⟨w8.heap.size, 0, none⟩) 1 (encC ⟨9, a, cc, 1, 0⟩)) := rd_new w8 _ _
  have HS9 : Hid (W5.heap.size ≤ (w8.alloc (.cells #[.int .i64 9, .int .i64 a, .string cc, .int .i64 1, .int .i64 0] 33)).heap.size) := by have := hb58.size; show _ ≤ _; simp; omega
  have HM2 : Hid (m + 1 ≤ maxLen ∧ (m + 1) * 48 ≤ 140737488355328) := ⟨by unfold maxLen; omega, by omega⟩
  have hny : some w4.heap.size ≠ v6.ownBlock := fun e => by have := own_base ho6' _ e.symm; omega
  clear hcc ho6' hb6 hb8
  go_wp2_with (at_builtin; refine wpList_append_rd _ rfl (.tmp 35) (.tmp 41) 23 rfl W5.heap.size 33 _ 5 48 Try.underlying23 infoC rfl (by decide) v6 m (flat encC cs) rfl HO9.out (some ⟨w8.heap.size, 0, none⟩) 1 1 (encC ⟨9, a, cc, 1, 0⟩) rfl HR9.out (encC_one _) HM2.out.1 HM2.out.2 HS9.out ?_; intro v9 w9 ho9 hg9 _; obtain ⟨B9, d9, rfl⟩ := own_slice ho9; have hy9 : Bl w9 w4.heap.size 25 #[.string cu, .int .i64 day, .slice A n c, .slice B m d] := (hg9.block _ (Bl.alloc hy8 _).lt hny).trans (Bl.alloc hy8 _); have y0 : w9.cell? ⟨w4.heap.size, 0, none⟩ = some (.string cu) := hy9.cell 0; have y1 : w9.cell? ⟨w4.heap.size, 1, none⟩ = some (.int .i64 day) := hy9.cell 1; have y2 : w9.cell? ⟨w4.heap.size, 2, none⟩ = some (.slice A n c) := hy9.cell 2; have y3 : w9.cell? ⟨w4.heap.size, 3, none⟩ = some (.slice B m d) := hy9.cell 3; have f3 : w9.frozen? ⟨w4.heap.size, 3, none⟩ = false := hy9.free 3)
  have hb59 : RowKit.Below W5.heap.size W5 w9 := (hb58.alloc hb58.size _).grown hg9 HS9.out (fun g hg => own_base ho8 g hg)
  have hb410 : RowKit.Below w4.heap.size w4 (w9.setCell ⟨w4.heap.size, 3, none⟩ (.slice B9 (m + 1) d9)) := ((hal5.trans (hb59.mono (by omega)))).setCell (p := ⟨w4.heap.size, 3, none⟩) (Nat.le_refl _) _
  have ho10 : (w9.setCell ⟨w4.heap.size, 3, none⟩ (.slice B9 (m + 1) d9)).ownsRow W5.heap.size 33 5 (.slice B9 (m + 1) d9) (m + 1) (flat encC (cs ++ [⟨9, a, cc, 1, 0⟩])) := by
    rw [flat_append, flat_one]
    exact own_of_block ho9 fun g hg => Below.heap_setCell w9 _ _ g (fun e => by have := own_base ho9 g hg; have e2 : g = w4.heap.size := e; omega)
  have HLn : Hid ((cs ++ [(⟨9, a, cc, 1, 0⟩ : Chg)]).length = m + 1) := by show _ = _; rw [List.length_append, HCM.out]; rfl
  have hc10 := Recs.of_own encC_len ho10 HLn.out
  have HCZ10 : Hid (ChSz (cs ++ [(⟨9, a, cc, 1, 0⟩ : Chg)])) := chsz_of fun x hx => by
    rcases List.mem_append.1 hx with hx | hx
    · exact HC3.out x hx
    · simp at hx; subst hx; exact HCC.out
  have HBY := Lib.hid (val_buying (t := ts) (cur := cu.toList) HIE.out a cc ha0 ha1 (by have := HCM.out; omega))
  clear hg9 ho9 hy9 y0 y1 y2 y3 f3 HO9 HR9 HS9 hb59 hb58 ho8 hy8
  generalize w9.setCell ⟨w4.heap.size, 3, none⟩ (.slice B9 (m + 1) d9) = W10 at *
  have HV := Lib.hid (values_any T tn tc ts cu day A B9 n c (m + 1) d9 ls _ W10 (hT4.below hb410) (by omega) HTS.out HCU.out (hl4.below hb410) (by omega) hc10 (by omega) HCZ10.out)
  rw [HBY.out.1, HBY.out.2] at HV
  clear HBY
  refine HV.out.mono ?_
  rintro e w11 ⟨Au, nu, cu2, rfl, hou, hb11⟩
  have hnn : nv = nu := by rw [← HLv.out, ← own_len hou]
  subst hnn
  have hb411 := hb410.trans (hb11.mono hb410.size)
  have HS := Lib.hid (same_true Av Au nv cv cu2 _ w11 (hIv.below hb411) (IntsK.of_own hou) HMv.out)
  have hx11 := hx4.keep hb411
  have k0 : w11.cell? ⟨gx, 0, none⟩ = some (.string cu) := hx11.cell 0
  have k1 : w11.cell? ⟨gx, 1, none⟩ = some (.int .i64 day) := hx11.cell 1
  have k2 : w11.cell? ⟨gx, 2, none⟩ = some (.slice A n c) := hx11.cell 2
  have k3 : w11.cell? ⟨gx, 3, none⟩ = some (.slice B m d) := hx11.cell 3
  clear HV hc10 ho10 hou hb11 HCZ10 hb410 HLn
  obtain ⟨er, her⟩ : ∃ er, valErr ts cu.toList day ls cs = er := ⟨_, rfl⟩
  have HER := Lib.hid her
  rw [her]
  clear her
  go_wp2_with fail
  refine HS.out.mono ?_
  rintro e w12 ⟨rfl, qq, rfl⟩
  have hb412 := below_drewN hb411 qq
  have hx12 := hx4.keep hb412
  clear HS hb411 hx11 k0 k1 k2 k3
  generalize w11.drewN qq = W12 at *
  have k0 : W12.cell? ⟨gx, 0, none⟩ = some (.string cu) := hx12.cell 0
  have k1 : W12.cell? ⟨gx, 1, none⟩ = some (.int .i64 day) := hx12.cell 1
  have k2 : W12.cell? ⟨gx, 2, none⟩ = some (.slice A n c) := hx12.cell 2
  have k3 : W12.cell? ⟨gx, 3, none⟩ = some (.slice B m d) := hx12.cell 3
  have lgx2 : gx < W12.heap.size := hx12.lt
  have ngx2 : gx ≠ W12.heap.size := by omega
  go_wp2_with fail
  refine (HW.out _).mono ?_
  rintro e w13 ⟨rfl, rfl⟩
  have hz : Bl (((W12.alloc (.cells #[.string cu, .int .i64 day, .slice A n c, .slice B m d] 25)).alloc (.cells #[.int .i64 1, .int .i64 a, .string ⟨#[69, 85, 82]⟩, .int .i64 2, .int .i64 0] 33)).alloc (.cells #[.int .i64 6, .int .i64 a, .string ⟨#[69, 85, 82]⟩, .int .i64 2, .int .i64 0] 33)) W12.heap.size 25 #[.string cu, .int .i64 day, .slice A n c, .slice B m d] := ((Bl.new W12 _ _).alloc _).alloc _
  have hp : Bl (((W12.alloc (.cells #[.string cu, .int .i64 day, .slice A n c, .slice B m d] 25)).alloc (.cells #[.int .i64 1, .int .i64 a, .string ⟨#[69, 85, 82]⟩, .int .i64 2, .int .i64 0] 33)).alloc (.cells #[.int .i64 6, .int .i64 a, .string ⟨#[69, 85, 82]⟩, .int .i64 2, .int .i64 0] 33)) (W12.heap.size + 1) 33 #[.int .i64 1, .int .i64 a, .string ⟨#[69, 85, 82]⟩, .int .i64 2, .int .i64 0] := (Bl.new1 W12 _ _ _).alloc _
  have hq : Bl (((W12.alloc (.cells #[.string cu, .int .i64 day, .slice A n c, .slice B m d] 25)).alloc (.cells #[.int .i64 1, .int .i64 a, .string ⟨#[69, 85, 82]⟩, .int .i64 2, .int .i64 0] 33)).alloc (.cells #[.int .i64 6, .int .i64 a, .string ⟨#[69, 85, 82]⟩, .int .i64 2, .int .i64 0] 33)) (W12.heap.size + 1 + 1) 33 #[.int .i64 6, .int .i64 a, .string ⟨#[69, 85, 82]⟩, .int .i64 2, .int .i64 0] := by
    have := Bl.new ((W12.alloc (.cells #[.string cu, .int .i64 day, .slice A n c, .slice B m d] 25)).alloc (.cells #[.int .i64 1, .int .i64 a, .string ⟨#[69, 85, 82]⟩, .int .i64 2, .int .i64 0] 33)) 33 #[.int .i64 6, .int .i64 a, .string ⟨#[69, 85, 82]⟩, .int .i64 2, .int .i64 0]
    simpa using this
  have hbW : RowKit.Below W12.heap.size W12 (((W12.alloc (.cells #[.string cu, .int .i64 day, .slice A n c, .slice B m d] 25)).alloc (.cells #[.int .i64 1, .int .i64 a, .string ⟨#[69, 85, 82]⟩, .int .i64 2, .int .i64 0] 33)).alloc (.cells #[.int .i64 6, .int .i64 a, .string ⟨#[69, 85, 82]⟩, .int .i64 2, .int .i64 0] 33)) := (((Below.refl _ _).alloc (Nat.le_refl _) _).alloc (by simp) _).alloc (by simp; omega) _
  go_upto_region 12 with (fail)
  generalize (((W12.alloc (.cells #[.string cu, .int .i64 day, .slice A n c, .slice B m d] 25)).alloc (.cells #[.int .i64 1, .int .i64 a, .string ⟨#[69, 85, 82]⟩, .int .i64 2, .int .i64 0] 33)).alloc (.cells #[.int .i64 6, .int .i64 a, .string ⟨#[69, 85, 82]⟩, .int .i64 2, .int .i64 0] 33)) = W at *
  have hb4W := hb412.trans (hbW.mono hb412.size)
  have hxW := hx4.keep hb4W
  have hrW := hr4.keep hb4W
  have HRW := Lib.hid hrW
  have HBx := Lib.hid hxW
  have HBz := Lib.hid hz
  have HBp := Lib.hid hp
  have HBq := Lib.hid hq
  have c3 : W.cell? ⟨gx, 3, none⟩ = some (.slice B m d) := hxW.cell 3
  have p0 : W.cell? ⟨W12.heap.size + 1, 0, none⟩ = some (.int .i64 1) := hp.cell 0
  have p1 : W.cell? ⟨W12.heap.size + 1, 1, none⟩ = some (.int .i64 a) := hp.cell 1
  have p2 : W.cell? ⟨W12.heap.size + 1, 2, none⟩ = some (.string ⟨#[69, 85, 82]⟩) := hp.cell 2
  have p3 : W.cell? ⟨W12.heap.size + 1, 3, none⟩ = some (.int .i64 2) := hp.cell 3
  have p4 : W.cell? ⟨W12.heap.size + 1, 4, none⟩ = some (.int .i64 0) := hp.cell 4
  have q0 : W.cell? ⟨W12.heap.size + 1 + 1, 0, none⟩ = some (.int .i64 6) := hq.cell 0
  have q1 : W.cell? ⟨W12.heap.size + 1 + 1, 1, none⟩ = some (.int .i64 a) := hq.cell 1
  have q2 : W.cell? ⟨W12.heap.size + 1 + 1, 2, none⟩ = some (.string ⟨#[69, 85, 82]⟩) := hq.cell 2
  have q3 : W.cell? ⟨W12.heap.size + 1 + 1, 3, none⟩ = some (.int .i64 2) := hq.cell 3
  have q4 : W.cell? ⟨W12.heap.size + 1 + 1, 4, none⟩ = some (.int .i64 0) := hq.cell 4
  have lq : W12.heap.size + 1 + 1 < W.heap.size := hq.lt
  have lx : gx < W.heap.size := by omega
  have nz1 : W12.heap.size ≠ W12.heap.size + 1 := by omega
  have nz2 : W12.heap.size ≠ W12.heap.size + 1 + 1 := by omega
  have nz3 : gx ≠ W12.heap.size := by omega
  have nz4 : W12.heap.size ≠ gx := by omega
  have HMa : Hid (0 + m ≤ maxLen ∧ (0 + m) * 48 ≤ 140737488355328) := ⟨by unfold maxLen; omega, by omega⟩
  have HMb : Hid (m + 2 ≤ maxLen ∧ (m + 2) * 48 ≤ 140737488355328) := ⟨by unfold maxLen; omega, by omega⟩
  have HT2 : Hid (∀ u ∈ (encC ⟨1, a, ⟨#[69, 85, 82]⟩, 2, 0⟩ ++ encC ⟨6, a, ⟨#[69, 85, 82]⟩, 2, 0⟩), u.oneCell' = true) := fun u hu => by
    rcases List.mem_append.1 hu with hu | hu
    · exact encC_one _ u hu
    · exact encC_one _ u hu
  have HR2 : Hid (∀ (wx : World) (g : Nat), Bl wx g 33 #[.int .i64 1, .int .i64 a, .string ⟨#[69, 85, 82]⟩, .int .i64 2, .int .i64 0, .int .i64 6, .int .i64 a, .string ⟨#[69, 85, 82]⟩, .int .i64 2, .int .i64 0] → Rd wx 5 (some ⟨g, 0, none⟩) 2 (encC ⟨1, a, ⟨#[69, 85, 82]⟩, 2, 0⟩ ++ encC ⟨6, a, ⟨#[69, 85, 82]⟩, 2, 0⟩)) := fun wx g hb => ⟨rfl, fun _ => ⟨g, 0, rfl, hb.lt, fun j u hu => by rw [Nat.zero_add, hb.cell j, ← Array.getElem?_toList]; exact hu⟩⟩
  have HKEEP : Hid (∀ (wA wB : World) (row : Option Nat), wA.grownBy wB row → W.heap.size ≤ wA.heap.size → (∀ k, row = some k → W.heap.size ≤ k) → ∀ (g o : Nat), g < W.heap.size → wB.cell? ⟨g, o, none⟩ = wA.cell? ⟨g, o, none⟩) := fun wA wB row hg hs hr g o hgl => World.cell?_of_block (hg.block g (by omega) (fun e => by have := hr g e.symm; omega))
  clear hxW hrW
  go_region_held3 (fun w' => w'.cell? ⟨gx, 3, none⟩ = some (.slice B m d) ∧ w'.cell? ⟨W12.heap.size + 1, 0, none⟩ = some (.int .i64 1) ∧ w'.cell? ⟨W12.heap.size + 1, 1, none⟩ = some (.int .i64 a) ∧ w'.cell? ⟨W12.heap.size + 1, 2, none⟩ = some (.string ⟨#[69, 85, 82]⟩) ∧ w'.cell? ⟨W12.heap.size + 1, 3, none⟩ = some (.int .i64 2) ∧ w'.cell? ⟨W12.heap.size + 1, 4, none⟩ = some (.int .i64 0) ∧ w'.cell? ⟨W12.heap.size + 1 + 1, 0, none⟩ = some (.int .i64 6) ∧ w'.cell? ⟨W12.heap.size + 1 + 1, 1, none⟩ = some (.int .i64 a) ∧ w'.cell? ⟨W12.heap.size + 1 + 1, 2, none⟩ = some (.string ⟨#[69, 85, 82]⟩) ∧ w'.cell? ⟨W12.heap.size + 1 + 1, 3, none⟩ = some (.int .i64 2) ∧ w'.cell? ⟨W12.heap.size + 1 + 1, 4, none⟩ = some (.int .i64 0))
    (first
      | go_keep
      | (go_split_ands
         refine ⟨?_, ?_, ?_, ?_, ?_, ?_, ?_, ?_, ?_, ?_, ?_⟩ <;> (first | (rw [hk5.out _ _ (by omega)]; assumption) | (rw [hk4.out _ _ (by omega)]; assumption) | go_keep | exact (World.cell?_of_block (a := ⟨gx, 3, none⟩) (Below.heap_setCell _ ⟨W12.heap.size, 3, none⟩ _ gx nz3)).trans (by assumption)))
      | (go_split_ands
         exact (World.cell?_of_block (a := ⟨gx, 3, none⟩) (Below.heap_setCell _ ⟨W12.heap.size, 3, none⟩ _ gx nz3)).trans (by assumption)))
    (first
      | (refine step_append_rd _ (by rfl) (.tmp 65) (.tmp 67) _ (by rfl) W.heap.size 33 _ 5 48 Try.underlying23 infoC rfl (by decide) (.slice (some ⟨W.heap.size, 0, none⟩) 0 0) 0 [] (by rfl) (own_empty (Bl.new W _ _).drew (Nat.le_refl _)) B m d (flat encC cs) (by rfl) (HRW.out.alloc _).drew HON.out HMa.out.1 HMa.out.2 (by simp) ?_; intro v4 w14 ho4 hg4; have hs4 : W.heap.size ≤ w14.heap.size := Nat.le_trans (by simp) hg4.size; have hk4 := Lib.hid (HKEEP.out _ _ _ hg4 (by simp) (by intro k hk; simp [Value.ownBlock] at hk; omega)); rw [Nat.zero_add, List.nil_append] at ho4; obtain ⟨A4, d4, rfl⟩ := own_slice ho4; have HZ14 := Lib.hid ((HBz.out.alloc _).drew.thru hg4 (by intro e; simp [Value.ownBlock] at e; omega)); have HB14 := Lib.hid (((Below.refl W.heap.size W).alloc (Nat.le_refl _) _).drew.grown hg4 (by simp) (by intro k hk; simp [Value.ownBlock] at hk; omega)))
      | (refine step_append_rd _ (by rfl) (.tmp 65) (.tmp 67) _ (by rfl) W.heap.size 33 _ 5 48 Try.underlying23 infoC rfl (by decide) (.slice (some ⟨W.heap.size, 0, none⟩) 0 0) 0 [] (by rfl) (own_empty ((Bl.new W _ _).alloc _).drew (Nat.le_refl _)) B m d (flat encC cs) (by rfl) ((HRW.out.alloc _).alloc _).drew HON.out HMa.out.1 HMa.out.2 (by simp; omega) ?_; intro v4 w14 ho4 hg4; have hs4 : W.heap.size ≤ w14.heap.size := Nat.le_trans (by simp; omega) hg4.size; have hk4 := Lib.hid (HKEEP.out _ _ _ hg4 (by simp; omega) (by intro k hk; simp [Value.ownBlock] at hk; omega)); rw [Nat.zero_add, List.nil_append] at ho4; obtain ⟨A4, d4, rfl⟩ := own_slice ho4; have HZ14 := Lib.hid (((HBz.out.alloc _).alloc _).drew.thru hg4 (by intro e; simp [Value.ownBlock] at e; omega)); have HB14 := Lib.hid ((((Below.refl W.heap.size W).alloc (Nat.le_refl _) _).alloc (by simp) _).drew.grown hg4 (by simp; omega) (by intro k hk; simp [Value.ownBlock] at hk; omega)))
      | (refine step_append_rd _ (by rfl) (.tmp 65) (.tmp 67) _ (by rfl) W.heap.size 33 _ 5 48 Try.underlying23 infoC rfl (by decide) (.slice (some ⟨W.heap.size + 1, 0, none⟩) 0 0) 0 [] (by rfl) (own_empty (Bl.new1 W _ _ _).drew (Nat.le_succ _)) B m d (flat encC cs) (by rfl) ((HRW.out.alloc _).alloc _).drew HON.out HMa.out.1 HMa.out.2 (by simp; omega) ?_; intro v4 w14 ho4 hg4; have hs4 : W.heap.size ≤ w14.heap.size := Nat.le_trans (by simp; omega) hg4.size; have hk4 := Lib.hid (HKEEP.out _ _ _ hg4 (by simp; omega) (by intro k hk; simp [Value.ownBlock] at hk; omega)); rw [Nat.zero_add, List.nil_append] at ho4; obtain ⟨A4, d4, rfl⟩ := own_slice ho4; have HZ14 := Lib.hid (((HBz.out.alloc _).alloc _).drew.thru hg4 (by intro e; simp [Value.ownBlock] at e; omega)); have HB14 := Lib.hid ((((Below.refl W.heap.size W).alloc (Nat.le_refl _) _).alloc (by simp) _).drew.grown hg4 (by simp; omega) (by intro k hk; simp [Value.ownBlock] at hk; omega)))
      | (refine step_append_rd _ (by rfl) (.tmp 68) (.tmp 71) _ (by rfl) W.heap.size 33 _ 5 48 Try.underlying23 infoC rfl (by decide) (.slice A4 m d4) m (flat encC cs) (by rfl) (own_alloc ho4 _) (some ⟨w14.heap.size, 0, none⟩) 2 2 (encC ⟨1, a, ⟨#[69, 85, 82]⟩, 2, 0⟩ ++ encC ⟨6, a, ⟨#[69, 85, 82]⟩, 2, 0⟩) (by rfl) (HR2.out _ _ (Bl.new w14 _ _)) HT2.out HMb.out.1 HMb.out.2 (by simp; omega) ?_; intro v5 w15 ho5 hg5; have hs5 : W.heap.size ≤ w15.heap.size := Nat.le_trans (by simp; omega) hg5.size; have hk5 := Lib.hid (HKEEP.out _ _ _ hg5 (by simp; omega) (fun k hk => own_base ho4 k hk)); obtain ⟨A5, d5, rfl⟩ := own_slice ho5; have HZ15 : Hid (Bl w15 W12.heap.size 25 #[.string cu, .int .i64 day, .slice A n c, .slice B m d]) := (HZ14.out.alloc _).thru hg5 (fun e => by have := own_base ho4 _ e.symm; omega); have HB15 : Hid (RowKit.Below W.heap.size W w15) := (HB14.out.alloc hs4 _).grown hg5 (by simp; omega) (fun k hk => own_base ho4 k hk); have zc : w15.cell? ⟨W12.heap.size, 3, none⟩ = some (.slice B m d) := HZ15.out.cell 3; have zf : w15.frozen? ⟨W12.heap.size, 3, none⟩ = false := HZ15.out.free 3; have z0 : w15.cell? ⟨W12.heap.size, 0, none⟩ = some (.string cu) := HZ15.out.cell 0; have z1 : w15.cell? ⟨W12.heap.size, 1, none⟩ = some (.int .i64 day) := HZ15.out.cell 1; have z2 : w15.cell? ⟨W12.heap.size, 2, none⟩ = some (.slice A n c) := HZ15.out.cell 2)
      | (refine step_append_rd _ (by rfl) (.tmp 68) (.tmp 71) _ (by rfl) W.heap.size 33 _ 5 48 Try.underlying23 infoC rfl (by decide) (.slice A4 m d4) m (flat encC cs) (by rfl) ho4 (some ⟨W.heap.size + 1, 0, none⟩) 2 2 (encC ⟨1, a, ⟨#[69, 85, 82]⟩, 2, 0⟩ ++ encC ⟨6, a, ⟨#[69, 85, 82]⟩, 2, 0⟩) (by rfl) (HR2.out _ _ ((Bl.new1 W _ _ _).drew.thru hg4 (by simp [Value.ownBlock]))) HT2.out HMb.out.1 HMb.out.2 (by omega) ?_; intro v5 w15 ho5 hg5; have hs5 : W.heap.size ≤ w15.heap.size := Nat.le_trans (by omega) hg5.size; have hk5 := Lib.hid (HKEEP.out _ _ _ hg5 (by omega) (fun k hk => own_base ho4 k hk)); obtain ⟨A5, d5, rfl⟩ := own_slice ho5; have HZ15 : Hid (Bl w15 W12.heap.size 25 #[.string cu, .int .i64 day, .slice A n c, .slice B m d]) := HZ14.out.thru hg5 (fun e => by have := own_base ho4 _ e.symm; omega); have HB15 : Hid (RowKit.Below W.heap.size W w15) := HB14.out.grown hg5 hs4 (fun k hk => own_base ho4 k hk); have zc : w15.cell? ⟨W12.heap.size, 3, none⟩ = some (.slice B m d) := HZ15.out.cell 3; have zf : w15.frozen? ⟨W12.heap.size, 3, none⟩ = false := HZ15.out.free 3; have z0 : w15.cell? ⟨W12.heap.size, 0, none⟩ = some (.string cu) := HZ15.out.cell 0; have z1 : w15.cell? ⟨W12.heap.size, 1, none⟩ = some (.int .i64 day) := HZ15.out.cell 1; have z2 : w15.cell? ⟨W12.heap.size, 2, none⟩ = some (.slice A n c) := HZ15.out.cell 2)
      | (refine step_append_rd _ (by rfl) (.tmp 68) (.tmp 71) _ (by rfl) W.heap.size 33 _ 5 48 Try.underlying23 infoC rfl (by decide) (.slice A4 m d4) m (flat encC cs) (by rfl) ho4 (some ⟨W.heap.size, 0, none⟩) 2 2 (encC ⟨1, a, ⟨#[69, 85, 82]⟩, 2, 0⟩ ++ encC ⟨6, a, ⟨#[69, 85, 82]⟩, 2, 0⟩) (by rfl) (HR2.out _ _ (((Bl.new W _ _).alloc _).drew.thru hg4 (by simp [Value.ownBlock]))) HT2.out HMb.out.1 HMb.out.2 (by omega) ?_; intro v5 w15 ho5 hg5; have hs5 : W.heap.size ≤ w15.heap.size := Nat.le_trans (by omega) hg5.size; have hk5 := Lib.hid (HKEEP.out _ _ _ hg5 (by omega) (fun k hk => own_base ho4 k hk)); obtain ⟨A5, d5, rfl⟩ := own_slice ho5; have HZ15 : Hid (Bl w15 W12.heap.size 25 #[.string cu, .int .i64 day, .slice A n c, .slice B m d]) := HZ14.out.thru hg5 (fun e => by have := own_base ho4 _ e.symm; omega); have HB15 : Hid (RowKit.Below W.heap.size W w15) := HB14.out.grown hg5 hs4 (fun k hk => own_base ho4 k hk); have zc : w15.cell? ⟨W12.heap.size, 3, none⟩ = some (.slice B m d) := HZ15.out.cell 3; have zf : w15.frozen? ⟨W12.heap.size, 3, none⟩ = false := HZ15.out.free 3; have z0 : w15.cell? ⟨W12.heap.size, 0, none⟩ = some (.string cu) := HZ15.out.cell 0; have z1 : w15.cell? ⟨W12.heap.size, 1, none⟩ = some (.int .i64 day) := HZ15.out.cell 1; have z2 : w15.cell? ⟨W12.heap.size, 2, none⟩ = some (.slice A n c) := HZ15.out.cell 2)
      | fail)
  all_goals
    (have hb415 := hb4W.trans (HB15.out.mono hb4W.size)
     have hb416 : RowKit.Below w4.heap.size w4 (w15.setCell ⟨W12.heap.size, 3, none⟩ (.slice A5 (m + 2) d5)) := hb415.setCell (p := ⟨W12.heap.size, 3, none⟩) hb412.size _
     have ho16 : (w15.setCell ⟨W12.heap.size, 3, none⟩ (.slice A5 (m + 2) d5)).ownsRow W.heap.size 33 5 (.slice A5 (m + 2) d5) (m + 2) (flat encC (cs ++ [⟨1, a, ⟨#[69, 85, 82]⟩, 2, 0⟩, ⟨6, a, ⟨#[69, 85, 82]⟩, 2, 0⟩])) := by
       rw [flat_append, flat_two]
       exact own_of_block ho5 fun g hg => Below.heap_setCell w15 _ _ g (fun e => by have := own_base ho5 g hg; have e2 : g = W12.heap.size := e; omega)
     have HLn : Hid ((cs ++ [(⟨1, a, ⟨#[69, 85, 82]⟩, 2, 0⟩ : Chg), ⟨6, a, ⟨#[69, 85, 82]⟩, 2, 0⟩]).length = m + 2) := by show _ = _; rw [List.length_append, HCM.out]; rfl
     have hc16 := Recs.of_own encC_len ho16 HLn.out
     have HCZ : Hid (ChSz (cs ++ [(⟨1, a, ⟨#[69, 85, 82]⟩, 2, 0⟩ : Chg), ⟨6, a, ⟨#[69, 85, 82]⟩, 2, 0⟩])) := chsz_of fun x hx => by
       rcases List.mem_append.1 hx with hx | hx
       · exact HC3.out x hx
       · simp at hx
         rcases hx with rfl | rfl <;> rfl
     have HCA := Lib.hid (val_cancel (t := ts) (cur := cu.toList) HIE.out a _ eur_list ha0 ha1 (by have := HCM.out; omega))
     have HV := Lib.hid (values_any T tn tc ts cu day A A5 n c (m + 2) d5 ls _ _ (hT4.below hb416) (by omega) HTS.out HCU.out (hl4.below hb416) (by omega) hc16 (by omega) HCZ.out)
     rw [HCA.out.1, HCA.out.2, HER.out] at HV
     clear HCA
     have y3 : (w15.setCell ⟨W12.heap.size, 3, none⟩ (.slice A5 (m + 2) d5)).cell? ⟨W12.heap.size, 3, none⟩ = some (.slice A5 (m + 2) d5) := (HZ15.out.put 3 _).cell 3
     have y0 : (w15.setCell ⟨W12.heap.size, 3, none⟩ (.slice A5 (m + 2) d5)).cell? ⟨W12.heap.size, 0, none⟩ = some (.string cu) := (HZ15.out.put 3 _).cell 0
     have y1 : (w15.setCell ⟨W12.heap.size, 3, none⟩ (.slice A5 (m + 2) d5)).cell? ⟨W12.heap.size, 1, none⟩ = some (.int .i64 day) := (HZ15.out.put 3 _).cell 1
     have y2 : (w15.setCell ⟨W12.heap.size, 3, none⟩ (.slice A5 (m + 2) d5)).cell? ⟨W12.heap.size, 2, none⟩ = some (.slice A n c) := (HZ15.out.put 3 _).cell 2
     generalize w15.setCell ⟨W12.heap.size, 3, none⟩ (.slice A5 (m + 2) d5) = W16 at *
     go_wp2_with fail
     refine HV.out.mono ?_
     rintro e w17 ⟨Az, nz, cz, rfl, hoz, hb17⟩
     have hnn : nv = nz := by rw [← HLv.out, ← own_len hoz]
     subst hnn
     have hb417 := hb416.trans (hb17.mono hb416.size)
     have HS := Lib.hid (same_true Av Az nv cv cz _ w17 (hIv.below hb417) (IntsK.of_own hoz) HMv.out)
     clear HV hc16 ho16 hoz hb17 HCZ hb416 hb415 HLn y0 y1 y2 y3
     go_wp2_with fail
     refine HS.out.mono ?_
     rintro e w18 ⟨rfl, q2, rfl⟩
     have hb418 := below_drewN hb417 q2
     go_wp2_with fail
     refine (awake17_any _).mono ?_
     rintro e w19 ⟨rfl, hb19⟩
     have hB18 := hB4.trans (hb418.mono hB4.size)
     have hB19 := hB18.trans (hb19.mono hB18.size)
     go_wp2
     go_ret
     exact ⟨rfl, hB19⟩)
end Go.Proofs.Ytknbbamlpadfdaa

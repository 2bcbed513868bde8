/-
  Contracts of currency.ratesOn, At and Convert. No statement of the seat is proved here. Conditions: lengths fit an int, the strings of the table fit.
-/
import Derived.Test.YtknbbamlpadfdaaCur17b
import Derived.Maps.OwnOps
import Derived.WalkArith
import Derived.Maps.OwnSet
import Derived.Maps.Views
namespace Go.Proofs.Ytknbbamlpadfdaa
open Go.RowKit Go.WideMaps Go.Maps
set_option linter.unusedVariables false

/-- An entry of a map that is written out. -/
theorem wpList_insert_own {H : Type} {P : Program} (w : World) {ops : Array Oper} {rest : List Oper} {o : Oper} {a : Act} {Q : Exit → Act → World → Prop}
    (hg : o.guard = none) (m x v : Operand) (t : TypeId) (hop : o.op = Op.insert t m x v)
    (k e : TypeId) (K : Keyed P k) (ht : P.underlying t = some (.map k e)) (R : Value → Option (DataW H × List MemPlace)) (b n : Nat) (D : DataW H)
    (hm : a.eval m = .map (some b)) (hown : w.ownsMap P k R b n D) (hn : n < maxLen) (key val : Value) (kl : Lit) (hx : a.eval x = key) (hv : a.eval v = val) (hkey : keyOf P k key = some kl)
    (d : DataW H) (ps : List MemPlace) (hval : R val = some (d, ps))
    (hK : ∀ w', w'.ownsMap P k R b (n + 1) (D.put kl d) → w.grownBy w' (some b) → wpList P ops Q rest (a.put o.dst undef) w') :
    wpList P ops Q (o :: rest) a w := by
  refine wpList_plain hg fun K' hK' => ?_
  obtain ⟨w', hrun, r1, r2⟩ := hown.update K ht hn hkey hval
  unfold Oper.wp
  simp [execOp, hop, hm, hx, hv, hrun, Result.andThen]
  exact hK' _ _ (hK w' r1 r2)

theorem klaw : Keyed Try.prog 9 := string_keyed Try.underlying9
theorem zeroI (w : World) : (zeroValue 3).run Try.prog w = .ok (.int .i64 0) w := by kernel_rfl

/-- The rate of a currency behind k rows: that of the union's own from the start. -/
def rateV (xs : List Exch) (day : Int) (k : Nat) (c : List UInt8) : Int := if c = eur then 1000000 else rateTo xs c day k
/-- The map of the rates behind k rows. -/
def RMap (xs : List Exch) (day : Int) (k : Nat) (D : DataW Unit) : Prop := ∀ c z, D.atKey (.string c) z = if rateV xs day k c = 0 then z else .lit (.int .i64 (rateV xs day k c))

theorem RMap.start (xs : List Exch) (day : Int) {D : DataW Unit} (hD : IsMap D) (h0 : ∀ c z, D.atKey (.string c) z = z) : RMap xs day 0 (D.put (.string eur) (.lit (.int .i64 1000000))) := fun c z => by
  unfold rateV
  by_cases e : c = eur
  · subst e
    rw [if_pos rfl, if_neg (by omega), atKey_put_same hD (show WideAt.IsKeyLit (.string _) from trivial)]
  · rw [if_neg e, rateTo, if_pos rfl, atKey_put_other (fun x => e (by injection x)), h0]
theorem RMap.skip {xs : List Exch} {day : Int} {k : Nat} {D : DataW Unit} (h : RMap xs day k D) (hd : ¬ xs[k]!.day ≤ day) : RMap xs day (k + 1) D := fun c z => by
  rw [h c z]
  have e : rateV xs day (k + 1) c = rateV xs day k c := by
    unfold rateV
    split
    · rfl
    · rw [rateTo, if_neg (fun x => hd x.2)]
  rw [e]
theorem RMap.put {xs : List Exch} {day : Int} {k : Nat} {D : DataW Unit} (h : RMap xs day k D) (hD : IsMap D) (hd : xs[k]!.day ≤ day) (he : (xs[k]!.cur.toList == eur) = false) (hp : 1 ≤ xs[k]!.per) : RMap xs day (k + 1) (D.put (.string xs[k]!.cur.data.toList) (.lit (.int .i64 xs[k]!.per))) := fun c z => by
  have he' : ¬ xs[k]!.cur.data.toList = eur := by rw [← ByteArray.toList_eq]; simpa using he
  by_cases e : c = xs[k]!.cur.data.toList
  · subst e
    have e1 : rateV xs day (k + 1) xs[k]!.cur.data.toList = xs[k]!.per := by
      unfold rateV
      rw [if_neg he', rateTo, if_pos ⟨by rw [ByteArray.toList_eq]; simp, hd⟩]
    rw [e1, if_neg (by omega), atKey_put_same hD (show WideAt.IsKeyLit (.string _) from trivial)]
  · rw [atKey_put_other (fun x => e (by injection x)), h c z]
    have e1 : rateV xs day (k + 1) c = rateV xs day k c := by
      unfold rateV
      split
      · rfl
      · rw [rateTo, if_neg (fun x => e (by have := x.1; rw [ByteArray.toList_eq] at this; exact (eq_of_beq this).symm))]
    rw [e1]

def MapRes (w : World) (xs : List Exch) (day : Int) (e : Ending) (w' : World) : Prop :=
  ∃ (B n : Nat) (D : DataW Unit), e = .returned (.map (some B)) ∧ w'.ownsMap Try.prog 9 (plainElem Try.prog 3) B n D ∧ RMap xs day xs.length D ∧ RowKit.Below w.heap.size w w'

theorem rowErr_facts {xs : List Exch} {i : Nat} (h : rowErr xs i = 0) : curB xs[i]!.cur.toList = true ∧ (xs[i]!.cur.toList == eur) = false ∧ 0 ≤ xs[i]!.day ∧ xs[i]!.day ≤ 36524 ∧ 1 ≤ xs[i]!.per ∧ xs[i]!.per ≤ 1000000000 := by
  unfold rowErr at h
  split at h
  · omega
  · rename_i h1
    split at h
    · omega
    · rename_i h2
      refine ⟨?_, ?_, by omega, by omega, by omega, by omega⟩
      · cases hq : curB xs[i]!.cur.toList with
        | true => rfl
        | false => exact absurd (.inl hq) h1
      · cases hq : (xs[i]!.cur.toList == eur) with
        | false => rfl
        | true => exact absurd (.inr hq) h1

set_option maxRecDepth 100000 in
set_option maxHeartbeats 4000000 in
theorem ratesOn_any (A : Option Addr) (n c : Nat) (xs : List Exch) (day : Int) (w : World) (h : Recs encX 3 w A n xs) (hn : n ≤ 1000) (hz : ExSz xs) (hv : ∀ i, i < xs.length → rowErr xs i = 0) :
    Calls Try.prog 49 #[.slice A n c, .int .i64 day] w (MapRes w xs day) := by
  have HL := Lib.hid h.1
  have HZ := Lib.hid hz
  have HV := Lib.hid hv
  clear hz hv
  have hmm := @run_makeMap Try.prog
  have HKE : Hid (keyOf Try.prog 9 (.string ⟨#[69, 85, 82]⟩) = some (.string eur)) := keyOf_string_mk Try.underlying9 (by unfold maxLen; decide)
  go_enter Try.func49, Try.ntmps49
  go_wp2_with (refine wpList_insert_own _ rfl (.tmp 8) (.const (.string ⟨#[69, 85, 82]⟩)) (.const (.int .i64 1000000)) 91 rfl 9 3 klaw Try.underlying91 (plainElem (H := Unit) Try.prog 3) w.heap.size 0 (.map []) rfl (World.ownsMap_made _ _ _ _) (by unfold maxLen; omega) _ _ _ rfl rfl HKE.out _ [] (plainElem_int Try.underlying3 (by decide)) ?_; intro w1 hown1 hgrow1)
  have hb1 : RowKit.Below w.heap.size w w1 := ((Below.refl _ _).alloc (Nat.le_refl _) _).grown hgrow1 (by simp) (fun j hj => by cases hj; exact Nat.le_refl _)
  have HM1 : Hid (RMap xs day 0 (DataW.put (.map []) (.string eur) (.lit (.int .i64 1000000)))) := RMap.start xs day ⟨_, rfl⟩ (fun c z => rfl)
  clear hgrow1 HKE hmm
  go_loopw [12] (fun i wr => ∃ (k : Nat) (D : DataW Unit), k ≤ n ∧ i = .int .i64 k ∧ wr.ownsMap Try.prog 9 (plainElem Try.prog 3) w.heap.size (k + 1) D ∧ Hid (RMap xs day k D) ∧ RowKit.Below w.heap.size w wr) (fun i _ => n - (intOf i).toNat)
  case atStart => exact ⟨0, _, Nat.zero_le _, rfl, hown1, HM1.out, hb1⟩
  case round =>
    clear HM1 hb1 hown1
    obtain ⟨k, D, hk, rfl, hown, HM, hbel⟩ := hrel
    by_cases hlt : k < n
    · obtain ⟨b, off, cu, dy, pe, rfl, hbl, hc1, hc2, hc3, HX⟩ := (h.below hbel).getX hlt
      have hws := hbel.size
      have HSZ := Lib.hid (HZ.out k (by have := HL.out; omega))
      have HF := Lib.hid (rowErr_facts (HV.out k (by have := HL.out; omega)))
      rw [HX.out] at HSZ HF
      by_cases hd : dy ≤ day
      · have hkey : keyOf Try.prog 9 (.string cu) = some (.string cu.data.toList) := keyOf_string_mk Try.underlying9 (by unfold maxLen; exact HSZ.out)
        have HK := Lib.hid hkey
        have HO := Lib.hid (hown.alloc (.cells #[.string cu, .int .i64 dy, .int .i64 pe] 61))
        have HP : Hid (RMap xs day (k + 1) (D.put (.string cu.data.toList) (.lit (.int .i64 pe)))) := by
          have := HM.out.put hown.isMap (by rw [HX.out]; exact hd) (by rw [HX.out]; exact HF.out.2.1) (by rw [HX.out]; exact HF.out.2.2.2.2.1)
          rw [HX.out] at this
          exact this
        have HW : Hid ((Lit.int .i64 pe).wf = true) := Go.WalkArith.wf_i64 ⟨Int.le_trans (by omega) HF.out.2.2.2.2.1, Int.le_trans HF.out.2.2.2.2.2 (by omega)⟩
        clear hkey hown HM
        go_wp2_with (at_mapUpdate; refine wpList_mapUpdate_own _ rfl _ _ _ 91 rfl 9 3 klaw Try.underlying91 _ w.heap.size (k + 1) _ rfl HO.out (by unfold maxLen; omega) _ _ _ rfl rfl HK.out _ [] (plainElem_int Try.underlying3 HW.out) ?_; intro w2 hown2 hgrow2)
        go_roundw
        case rel => exact ⟨k + 1, _, by omega, by go_num, hown2, HP.out, (hbel.alloc hws _).grown hgrow2 (by simp; omega) (fun j hj => by cases hj; exact Nat.le_refl _)⟩
        case measure => simp [intOf]; omega
      · have HP := Lib.hid (HM.out.skip (by rw [HX.out]; exact hd))
        go_wp2
        go_roundw
        case rel => exact ⟨k + 1, D, by omega, by go_num, (hown.alloc _).mono (by omega), HP.out, hbel.alloc hws _⟩
        case measure => simp [intOf]; omega
    · obtain rfl : k = n := by omega
      go_wp2
      go_ret
      exact ⟨_, _, D, rfl, hown, by rw [HL.out]; exact HM.out, hbel⟩

set_option maxRecDepth 100000 in
set_option maxHeartbeats 4000000 in
theorem at_any (A : Option Addr) (n c : Nat) (xs : List Exch) (cu : ByteArray) (day : Int) (w : World) (h : Recs encX 3 w A n xs) (hm : n ≤ 9223372036854775807) (hz : ExSz xs) (hcu : cu.size ≤ 9223372036854775807) :
    Calls Try.prog 36 #[.slice A n c, .string cu, .int .i64 day] w (NRes w (if atErr xs cu.toList day = 0 then rateOf xs cu.toList day else 0) (atErr xs cu.toList day)) := by
  have HV := Lib.hid (cvalidate_any A n c xs w h hm hz)
  by_cases ht : tabErr xs = 0
  · rw [ht] at HV
    have hl := h.1
    obtain ⟨t1, t2⟩ := tabErr_zero ht
    have HR := Lib.hid (fun w' hw => ratesOn_any A n c xs day w' (h.below hw) (by omega) hz t2)
    have HKE : Hid (keyOf Try.prog 9 (.string cu) = some (.string cu.data.toList)) := keyOf_string_mk Try.underlying9 (by unfold maxLen; omega)
    have e0 : atErr xs cu.toList day = if day < 0 ∨ 36524 < day then 2 else if rateOf xs cu.toList day = 0 then 6 else 0 := by unfold atErr; rw [if_neg (by omega)]
    have e1 : rateOf xs cu.toList day = rateV xs day xs.length cu.data.toList := by unfold rateOf rateV; rw [ByteArray.toList_eq]
    rw [e1] at e0 ⊢
    clear hl t1 t2 e1 ht hz
    by_cases g1 : day < 0
    · rw [if_pos (show day < 0 ∨ 36524 < day from .inl g1)] at e0
      rw [e0, if_neg (by omega)]
      clear e0
      have d1 : decide (day < 0) = true := by simpa using g1
      go_enter Try.func36, Try.ntmps36
      go_wp2_with fail
      refine HV.out.mono ?_
      rintro e w1 ⟨rfl, hb1⟩
      go_wp2
      go_ret2
      exact ⟨rfl, hb1⟩
    have d1 : decide (day < 0) = false := by simpa using g1
    by_cases g2 : 36524 < day
    · rw [if_pos (show day < 0 ∨ 36524 < day from .inr g2)] at e0
      rw [e0, if_neg (by omega)]
      clear e0
      have d2 : decide (36524 < day) = true := by simpa using g2
      go_enter Try.func36, Try.ntmps36
      go_wp2_with fail
      refine HV.out.mono ?_
      rintro e w1 ⟨rfl, hb1⟩
      go_wp2
      go_ret2
      exact ⟨rfl, hb1⟩
    have d2 : decide (36524 < day) = false := by simpa using g2
    rw [if_neg (show ¬ (day < 0 ∨ 36524 < day) by omega)] at e0
    obtain ⟨rv, hrv⟩ : ∃ rv, rateV xs day xs.length cu.data.toList = rv := ⟨_, rfl⟩
    rw [hrv] at e0 ⊢
    have HRV := Lib.hid hrv
    clear hrv
    by_cases g3 : rv = 0
    · rw [if_pos g3] at e0
      rw [e0, if_neg (by omega)]
      have G3 := Lib.hid g3
      clear e0 g3
      go_enter Try.func36, Try.ntmps36
      go_wp2_with fail
      refine HV.out.mono ?_
      rintro e w1 ⟨rfl, hb1⟩
      go_wp2_with fail
      refine (HR.out _ hb1).mono ?_
      rintro e w2 ⟨B, m, D, rfl, hown, HMM, hb2⟩
      have hb := hb1.trans (hb2.mono hb1.size)
      have HH : Hid (Maps.has D (.string cu.data.toList) = false) := has_false_of_atKey fun z => by rw [HMM, HRV.out, if_pos G3.out]
      clear HMM
      go_wp2_with (at_lookup; refine wpList_lookup_own_ok_int _ rfl _ _ 91 rfl 9 3 .i64 klaw Try.underlying91 Try.underlying3 (zeroI _) B m D rfl hown _ _ rfl HKE.out ?_; intro c hat hwc; rw [HH.out])
      go_ret2
      exact ⟨rfl, hb⟩
    · rw [if_neg g3] at e0
      rw [e0, if_pos rfl]
      have G3 := Lib.hid g3
      clear e0 g3
      go_enter Try.func36, Try.ntmps36
      go_wp2_with fail
      refine HV.out.mono ?_
      rintro e w1 ⟨rfl, hb1⟩
      go_wp2_with fail
      refine (HR.out _ hb1).mono ?_
      rintro e w2 ⟨B, m, D, rfl, hown, HMM, hb2⟩
      have hb := hb1.trans (hb2.mono hb1.size)
      have hat : ∀ z, D.atKey (.string cu.data.toList) z = .lit (.int .i64 rv) := fun z => by rw [HMM, HRV.out, if_neg G3.out]
      have HH : Hid (Maps.has D (.string cu.data.toList) = true) := has_true_of_atKey hat
      have HC : Hid (∀ c : Int, D.atKey (.string cu.data.toList) (.lit (.int .i64 0)) = .lit (.int .i64 c) → c = rv) := fun c hc => by
        rw [hat] at hc
        injection hc with hc
        injection hc with _ hc
        exact hc.symm
      clear hat HMM
      go_wp2_with (at_lookup; refine wpList_lookup_own_ok_int _ rfl _ _ 91 rfl 9 3 .i64 klaw Try.underlying91 Try.underlying3 (zeroI _) B m D rfl hown _ _ rfl HKE.out ?_; intro c hat hwc; rw [HH.out]; obtain rfl := HC.out c hat; clear hat)
      go_ret2
      exact ⟨rfl, hb⟩
  · have e0 : atErr xs cu.toList day = tabErr xs := by unfold atErr; rw [if_pos ht]
    rw [e0, if_neg ht]
    have b1 : (tabErr xs != 0) = true := by simpa using ht
    clear e0 ht
    generalize tabErr xs = er at *
    go_enter Try.func36, Try.ntmps36
    go_wp2_with fail
    refine HV.out.mono ?_
    rintro e w1 ⟨rfl, hb1⟩
    go_wp2
    go_ret2
    exact ⟨rfl, hb1⟩

set_option maxHeartbeats 1000000 in
theorem convert_any (A : Option Addr) (n c : Nat) (xs : List Exch) (amt : Int) (cu : ByteArray) (day : Int) (w : World) (h : Recs encX 3 w A n xs) (hm : n ≤ 9223372036854775807) (hz : ExSz xs) (hcu : cu.size ≤ 9223372036854775807) (h0 : 0 ≤ amt) (h1 : amt ≤ 1000000000000000000) :
    Calls Try.prog 21 #[.slice A n c, .int .i64 amt, .string cu, .int .i64 day, .int .i64 2] w (NRes w (convOut xs amt cu.toList day) (convErr xs amt cu.toList day)) := by
  have HA := Lib.hid (at_any A n c xs cu day w h hm hz hcu)
  by_cases ha : atErr xs cu.toList day = 0
  · have hr : 0 ≤ rateOf xs cu.toList day ∧ rateOf xs cu.toList day ≤ 1000000000 := by
      refine rateOf_bounds ?_ _ _
      unfold atErr at ha
      split at ha
      · omega
      · omega
    have e1 : convErr xs amt cu.toList day = scaleErr amt (rateOf xs cu.toList day) := by unfold convErr; rw [if_neg (by omega)]
    have e2 : convOut xs amt cu.toList day = scaleV amt (rateOf xs cu.toList day) := by unfold convOut scaleV; rw [e1]
    rw [e1, e2]
    rw [ha, if_pos rfl] at HA
    generalize rateOf xs cu.toList day = rt at *
    have HS := Lib.hid (fun w => scale_any amt rt w h0 h1 hr.1 (by omega))
    clear e1 e2 ha
    go_enter Try.func21, Try.ntmps21
    go_wp2_with fail
    refine HA.out.mono ?_
    rintro e w1 ⟨rfl, hb1⟩
    go_wp2_with fail
    refine (HS.out _).mono ?_
    rintro e w2 ⟨rfl, hb2⟩
    go_wp2
    go_ret2
    exact ⟨rfl, hb1.trans (hb2.mono hb1.size)⟩
  · have e1 : convErr xs amt cu.toList day = atErr xs cu.toList day := by unfold convErr; rw [if_pos ha]
    have e2 : convOut xs amt cu.toList day = 0 := by unfold convOut; rw [e1, if_neg ha]
    rw [e1, e2]
    rw [if_neg ha] at HA
    have b1 : (atErr xs cu.toList day != 0) = true := by simpa using ha
    clear e1 e2 ha
    generalize atErr xs cu.toList day = er at *
    go_enter Try.func21, Try.ntmps21
    go_wp2_with fail
    refine HA.out.mono ?_
    rintro e w1 ⟨rfl, hb1⟩
    go_wp2
    go_ret2
    exact ⟨rfl, hb1⟩
end Go.Proofs.Ytknbbamlpadfdaa

/-
  Words for memory: rows of rates of exchange (a string and two ints) and of charges (four ints and a string). No statement of the seat is proved here. No conditions.
-/
import Derived.Test.YtknbbamlpadfdaaSpec17
import Derived.Test.YtknbbamlpadfdaaRecs
namespace Go.Proofs.Ytknbbamlpadfdaa
open Go.RowKit
set_option linter.unusedVariables false

def encX (x : Exch) : List Value := [.string x.cur, .int .i64 x.day, .int .i64 x.per]
theorem encX_len (x : Exch) : (encX x).length = 3 := rfl
theorem encX_one (x : Exch) : ∀ v ∈ encX x, v.oneCell' = true := fun v hv => by
  simp [encX] at hv
  rcases hv with rfl | rfl | rfl <;> rfl
def encC (c : Chg) : List Value := [.int .i64 c.kind, .int .i64 c.amt, .string c.cur, .int .i64 c.basis, .int .i64 c.line]
theorem encC_len (c : Chg) : (encC c).length = 5 := rfl
theorem encC_one (c : Chg) : ∀ v ∈ encC c, v.oneCell' = true := fun v hv => by
  simp [encC] at hv
  rcases hv with rfl | rfl | rfl | rfl | rfl <;> rfl

theorem Recs.getX {w : World} {A : Option Addr} {n : Nat} {xs : List Exch} (h : Recs encX 3 w A n xs) {i : Nat} (hi : i < n) :
    ∃ b off c d p, A = some ⟨b, off, none⟩ ∧ b < w.heap.size ∧ w.cell? ⟨b, off + i * 3, none⟩ = some (.string c) ∧ w.cell? ⟨b, off + i * 3 + 1, none⟩ = some (.int .i64 d) ∧ w.cell? ⟨b, off + i * 3 + 2, none⟩ = some (.int .i64 p) ∧ Hid (xs[i]! = ⟨c, d, p⟩) := by
  obtain ⟨b, off, e, hlt, hc⟩ := h.at_ hi
  exact ⟨b, off, xs[i]!.cur, xs[i]!.day, xs[i]!.per, e, hlt, hc 0 (by omega), hc 1 (by omega), hc 2 (by omega), rfl⟩
theorem Recs.getC {w : World} {A : Option Addr} {n : Nat} {xs : List Chg} (h : Recs encC 5 w A n xs) {i : Nat} (hi : i < n) :
    ∃ b off k a c s l, A = some ⟨b, off, none⟩ ∧ b < w.heap.size ∧ w.cell? ⟨b, off + i * 5, none⟩ = some (.int .i64 k) ∧ w.cell? ⟨b, off + i * 5 + 1, none⟩ = some (.int .i64 a) ∧ w.cell? ⟨b, off + i * 5 + 2, none⟩ = some (.string c) ∧ w.cell? ⟨b, off + i * 5 + 3, none⟩ = some (.int .i64 s) ∧ w.cell? ⟨b, off + i * 5 + 4, none⟩ = some (.int .i64 l) ∧ Hid (xs[i]! = ⟨k, a, c, s, l⟩) := by
  obtain ⟨b, off, e, hlt, hc⟩ := h.at_ hi
  exact ⟨b, off, xs[i]!.kind, xs[i]!.amt, xs[i]!.cur, xs[i]!.basis, xs[i]!.line, e, hlt, hc 0 (by omega), hc 1 (by omega), hc 2 (by omega), hc 3 (by omega), hc 4 (by omega), rfl⟩

theorem drop_get (s : ByteArray) (k : Nat) (h : k < s.size) : s.toList[k]? = some s[k] := by
  rw [ByteArray.toList_eq, Array.getElem?_toList]
  exact Array.getElem?_eq_getElem h
theorem toList_len (s : ByteArray) : s.toList.length = s.size := by rw [ByteArray.toList_eq]; simp

/-- Three letters: by the bytes. -/
theorem curB_true {s : ByteArray} (h3 : s.size = 3) (h : ∀ i (hi : i < s.size), 65 ≤ s[i].toNat ∧ s[i].toNat ≤ 90) : curB s.toList = true := by
  unfold curB
  rw [toList_len, h3]
  simp only [beq_self_eq_true, Bool.true_and, List.all_eq_true, Bool.and_eq_true, decide_eq_true_eq]
  intro b hb
  obtain ⟨i, hi, e⟩ := List.getElem_of_mem hb
  have hi2 : i < s.size := by rw [toList_len] at hi; exact hi
  have := drop_get s i hi2
  rw [List.getElem?_eq_getElem hi] at this
  injection this with this
  rw [← e, this]
  exact h i hi2
theorem curB_size {s : ByteArray} (h3 : s.size ≠ 3) : curB s.toList = false := by
  unfold curB
  rw [toList_len]
  simp [h3]
theorem curB_byte {s : ByteArray} (i : Nat) (hi : i < s.size) (h : ¬ (65 ≤ s[i].toNat ∧ s[i].toNat ≤ 90)) : curB s.toList = false := by
  rcases Bool.eq_false_or_eq_true (curB s.toList) with e | e
  · exfalso
    unfold curB at e
    simp only [Bool.and_eq_true, List.all_eq_true, decide_eq_true_eq] at e
    have hm : s[i] ∈ s.toList := List.mem_of_getElem? (drop_get s i hi)
    exact h (e.2 _ hm)
  · exact e

/-- The order of strings: one of three. -/
theorem bytesLess_flip : ∀ (a b : List UInt8), a ≠ b → Op.bytesLess a b = !Op.bytesLess b a
  | [], [], h => absurd rfl h
  | [], _ :: _, _ => by simp [Op.bytesLess]
  | _ :: _, [], _ => by simp [Op.bytesLess]
  | a :: x, b :: y, h => by
    by_cases e : a = b
    · subst e
      have ih := bytesLess_flip x y (fun e => h (by rw [e]))
      simp [Op.bytesLess, ih, UInt8.lt_irrefl]
    · have h1 : (a == b) = false := by simpa using e
      have h2 : (b == a) = false := by simpa using fun x => e x.symm
      simp only [Op.bytesLess, h1, h2, Bool.false_and, Bool.or_false]
      have h3 : a.toNat ≠ b.toNat := fun x => e (UInt8.toNat_inj.1 x)
      by_cases g : a < b
      · have : ¬ b < a := by rw [UInt8.lt_iff_toNat_lt] at g ⊢; omega
        simp [g, this]
      · have : b < a := by rw [UInt8.lt_iff_toNat_lt] at g ⊢; omega
        simp [g, this]
theorem bytesLess_irrefl : ∀ (a : List UInt8), Op.bytesLess a a = false
  | [] => by simp [Op.bytesLess]
  | a :: x => by simp [Op.bytesLess, bytesLess_irrefl x, UInt8.lt_irrefl]
end Go.Proofs.Ytknbbamlpadfdaa

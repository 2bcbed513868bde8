/-
  No cell of these rows narrows 'for every input' (looked for: loops, veiled, ifaces, maps, wideKeys, modest, calm, conditions, laid).
  DERIVED. THE GIVEN ROWS OF THIS SEAT. 7 by the template 'for every input the law returns true; each argument reads behind the call as it read before'; 0 by the template 'total and deterministic' (their statements: YtemhiifgplaldaaTotals.lean).
  GIVEN WITH THE SEED: the statements are not yours to turn. If you find one false, say at which input.
  Laid BY PROGRAM, IN A SANDBOX (cutbox-rows.mjs): the forced cells as the released guide's own fill.sh prints them over the translation 67f1517ccd086225… (all of the seat's roots in one cut). By AI agents, Wed Nov 11 2026. No macro, syntax, notation, axiom, sorry.
-/
import Derived.Test.YtemhiifgplaldaaChecked
import GoSem.Claim
import GoSem.ClaimJoined
import GoSem.ClaimMapViews
import Derived.JoinedTies
import Derived.KernelRfl
namespace Go.Proofs.Ytemhiifgplaldaa
/- THE CELL 'sum', in the pinned program and in every row, IS THE sha256 OF THE DUMP (.gsa) THAT YtemhiifgplaldaaProg.lean LOADS. Nothing in Lean hashes anything: it is a label: what it is worth is what the hold of that sum in a sandbox is worth. -/
noncomputable def Try.pinned : Pinned := { name := "ytemhiifgplaldaa", sum := "67f1517ccd086225052283d91bccf7f53bed71d2f939473ae64a64a8c086d185", checked := Try.checked }
namespace Rows
def none {H : Type} : Left H := { results := [], args := [] }

/-- 'customslaw22.BookNew': WHATEVER THE INPUT: true; the input reads as it did. -/
def bookNewSpec : ChangeSpec := { name := "bookNew", fn := fun _ => fun
  | [d] => { results := [.lit (.bool true)], args := [d] }
  | _ => none }
def bookNewRow : OpenClaim := { program := "ytemhiifgplaldaa", sum := "67f1517ccd086225052283d91bccf7f53bed71d2f939473ae64a64a8c086d185", func := "customs/customslaw22.BookNew", spec := "bookNew", inPlace := ["slices.overlaps[customs/api.QuotaFact]"], unfollowed := true, recurses := true, named := ["math/bits.divideError", "math/bits.overflowError"], apart := false }
def BookNewSaid : Prop := bookNewRow.holds Try.pinned (OpenSpec.ofChange bookNewSpec)

/-- ITS FALSE NEIGHBOUR: 'it returns false'. Refute it at one input. -/
def bookNewWrong : ChangeSpec := { name := "bookNew", fn := fun _ => fun
  | [d] => { results := [.lit (.bool false)], args := [d] }
  | _ => none }
def BookNewWrongFalsely : Prop := bookNewRow.holds Try.pinned (OpenSpec.ofChange bookNewWrong)

/-- 'customslaw22.BookRepeat': WHATEVER THE INPUT: true; the input reads as it did. -/
def bookRepeatSpec : ChangeSpec := { name := "bookRepeat", fn := fun _ => fun
  | [d1, d2, d3] => { results := [.lit (.bool true)], args := [d1, d2, d3] }
  | _ => none }
def bookRepeatRow : OpenClaim := { program := "ytemhiifgplaldaa", sum := "67f1517ccd086225052283d91bccf7f53bed71d2f939473ae64a64a8c086d185", func := "customs/customslaw22.BookRepeat", spec := "bookRepeat", inPlace := ["slices.overlaps[customs/api.QuotaFact]"], unfollowed := true, recurses := true, named := ["math/bits.divideError", "math/bits.overflowError"], apart := false }
def BookRepeatSaid : Prop := bookRepeatRow.holds Try.pinned (OpenSpec.ofChange bookRepeatSpec)

/-- ITS FALSE NEIGHBOUR: 'it returns false'. Refute it at one input. -/
def bookRepeatWrong : ChangeSpec := { name := "bookRepeat", fn := fun _ => fun
  | [d1, d2, d3] => { results := [.lit (.bool false)], args := [d1, d2, d3] }
  | _ => none }
def BookRepeatWrongFalsely : Prop := bookRepeatRow.holds Try.pinned (OpenSpec.ofChange bookRepeatWrong)

/-- 'customslaw22.BookOrder': WHATEVER THE INPUT: true; the input reads as it did. -/
def bookOrderSpec : ChangeSpec := { name := "bookOrder", fn := fun _ => fun
  | [d1, d2] => { results := [.lit (.bool true)], args := [d1, d2] }
  | _ => none }
def bookOrderRow : OpenClaim := { program := "ytemhiifgplaldaa", sum := "67f1517ccd086225052283d91bccf7f53bed71d2f939473ae64a64a8c086d185", func := "customs/customslaw22.BookOrder", spec := "bookOrder", inPlace := ["slices.overlaps[customs/api.QuotaFact]"], unfollowed := true, recurses := true, named := ["math/bits.divideError", "math/bits.overflowError"], apart := false }
def BookOrderSaid : Prop := bookOrderRow.holds Try.pinned (OpenSpec.ofChange bookOrderSpec)

/-- ITS FALSE NEIGHBOUR: 'it returns false'. Refute it at one input. -/
def bookOrderWrong : ChangeSpec := { name := "bookOrder", fn := fun _ => fun
  | [d1, d2] => { results := [.lit (.bool false)], args := [d1, d2] }
  | _ => none }
def BookOrderWrongFalsely : Prop := bookOrderRow.holds Try.pinned (OpenSpec.ofChange bookOrderWrong)

/-- 'customslaw22.BookSum': WHATEVER THE INPUT: true; the input reads as it did. -/
def bookSumSpec : ChangeSpec := { name := "bookSum", fn := fun _ => fun
  | [d] => { results := [.lit (.bool true)], args := [d] }
  | _ => none }
def bookSumRow : OpenClaim := { program := "ytemhiifgplaldaa", sum := "67f1517ccd086225052283d91bccf7f53bed71d2f939473ae64a64a8c086d185", func := "customs/customslaw22.BookSum", spec := "bookSum", inPlace := ["slices.overlaps[customs/api.QuotaFact]"], unfollowed := true, recurses := true, named := ["math/bits.divideError", "math/bits.overflowError"], apart := false }
def BookSumSaid : Prop := bookSumRow.holds Try.pinned (OpenSpec.ofChange bookSumSpec)

/-- ITS FALSE NEIGHBOUR: 'it returns false'. Refute it at one input. -/
def bookSumWrong : ChangeSpec := { name := "bookSum", fn := fun _ => fun
  | [d] => { results := [.lit (.bool false)], args := [d] }
  | _ => none }
def BookSumWrongFalsely : Prop := bookSumRow.holds Try.pinned (OpenSpec.ofChange bookSumWrong)

/-- 'customslaw22.BookWithdrawn': WHATEVER THE INPUT: true; the input reads as it did. -/
def bookWithdrawnSpec : ChangeSpec := { name := "bookWithdrawn", fn := fun _ => fun
  | [d1, d2] => { results := [.lit (.bool true)], args := [d1, d2] }
  | _ => none }
def bookWithdrawnRow : OpenClaim := { program := "ytemhiifgplaldaa", sum := "67f1517ccd086225052283d91bccf7f53bed71d2f939473ae64a64a8c086d185", func := "customs/customslaw22.BookWithdrawn", spec := "bookWithdrawn", inPlace := ["slices.overlaps[customs/api.QuotaFact]"], unfollowed := true, recurses := true, named := ["math/bits.divideError", "math/bits.overflowError"], apart := false }
def BookWithdrawnSaid : Prop := bookWithdrawnRow.holds Try.pinned (OpenSpec.ofChange bookWithdrawnSpec)

/-- ITS FALSE NEIGHBOUR: 'it returns false'. Refute it at one input. -/
def bookWithdrawnWrong : ChangeSpec := { name := "bookWithdrawn", fn := fun _ => fun
  | [d1, d2] => { results := [.lit (.bool false)], args := [d1, d2] }
  | _ => none }
def BookWithdrawnWrongFalsely : Prop := bookWithdrawnRow.holds Try.pinned (OpenSpec.ofChange bookWithdrawnWrong)

/-- 'customslaw22.BookReturn': WHATEVER THE INPUT: true; the input reads as it did. -/
def bookReturnSpec : ChangeSpec := { name := "bookReturn", fn := fun _ => fun
  | [d1, d2, d3, d4] => { results := [.lit (.bool true)], args := [d1, d2, d3, d4] }
  | _ => none }
def bookReturnRow : OpenClaim := { program := "ytemhiifgplaldaa", sum := "67f1517ccd086225052283d91bccf7f53bed71d2f939473ae64a64a8c086d185", func := "customs/customslaw22.BookReturn", spec := "bookReturn", inPlace := ["slices.overlaps[customs/api.QuotaFact]"], unfollowed := true, recurses := true, named := ["math/bits.divideError", "math/bits.overflowError"], apart := false }
def BookReturnSaid : Prop := bookReturnRow.holds Try.pinned (OpenSpec.ofChange bookReturnSpec)

/-- ITS FALSE NEIGHBOUR: 'it returns false'. Refute it at one input. -/
def bookReturnWrong : ChangeSpec := { name := "bookReturn", fn := fun _ => fun
  | [d1, d2, d3, d4] => { results := [.lit (.bool false)], args := [d1, d2, d3, d4] }
  | _ => none }
def BookReturnWrongFalsely : Prop := bookReturnRow.holds Try.pinned (OpenSpec.ofChange bookReturnWrong)

/-- 'customslaw22.BookReasons': WHATEVER THE INPUT: true; the input reads as it did. -/
def bookReasonsSpec : ChangeSpec := { name := "bookReasons", fn := fun _ => fun
  | [d] => { results := [.lit (.bool true)], args := [d] }
  | _ => none }
def bookReasonsRow : OpenClaim := { program := "ytemhiifgplaldaa", sum := "67f1517ccd086225052283d91bccf7f53bed71d2f939473ae64a64a8c086d185", func := "customs/customslaw22.BookReasons", spec := "bookReasons", inPlace := ["slices.overlaps[customs/api.QuotaFact]"], unfollowed := true, recurses := true, named := ["math/bits.divideError", "math/bits.overflowError"], apart := false }
def BookReasonsSaid : Prop := bookReasonsRow.holds Try.pinned (OpenSpec.ofChange bookReasonsSpec)

/-- ITS FALSE NEIGHBOUR: 'it returns false'. Refute it at one input. -/
def bookReasonsWrong : ChangeSpec := { name := "bookReasons", fn := fun _ => fun
  | [d] => { results := [.lit (.bool false)], args := [d] }
  | _ => none }
def BookReasonsWrongFalsely : Prop := bookReasonsRow.holds Try.pinned (OpenSpec.ofChange bookReasonsWrong)

/- THE SECOND FORM. 'bulk': how many values and letters a reading holds, each counted each time it is reached (what is shared counts as often as it is met; a slice's spare places count too). A statement '..UptoSaid' is the law's where the arguments, and the package variables that the reading takes, are together of bulk at most 1048576: NARROWER than '..Said'. Prove '..Said' where nothing that the law and all that it calls make is longer than what came in: it says more and counts as full. Else prove '..UptoSaid'. A law counts once. -/
mutual
def uptoBulk {H : Type} : DataW H → Nat
  | .lit (.string bytes) => bytes.length + 1
  | .lit _ => 1
  | .nil => 1
  | .ptr d => uptoBulk d + 1
  | .slice elems spare => uptoBulkAll elems + uptoBulkAll spare + 1
  | .agg parts => uptoBulkAll parts + 1
  | .iface _ d => uptoBulk d + 1
  | .map entries => uptoBulkEntries entries + 1
  | .held _ => 1
def uptoBulkAll {H : Type} : List (DataW H) → Nat
  | [] => 0
  | d :: r => uptoBulk d + uptoBulkAll r
def uptoBulkEntries {H : Type} : List (Lit × DataW H) → Nat
  | [] => 0
  | x :: r => uptoBulkEntry x + uptoBulkEntries r
def uptoBulkEntry {H : Type} : Lit × DataW H → Nat
  | (.string bytes, d) => bytes.length + uptoBulk d + 1
  | (_, d) => uptoBulk d + 1
 end
def uptoSmall : (H : Type) → List (DataW H) → Bool := fun _ ds => decide (uptoBulkAll ds ≤ 1048576)
def OpenSpec.upto (s : _root_.Go.ChangeSpec) : _root_.Go.OpenSpec := { _root_.Go.OpenSpec.ofChange s with cond := some uptoSmall }

/-- 'customslaw22.BookNew', WHERE WHAT IT READS IS OF BULK AT MOST 1048576: true; the input reads as it did. -/
def bookNewUptoRow : OpenClaim := { program := "ytemhiifgplaldaa", sum := "67f1517ccd086225052283d91bccf7f53bed71d2f939473ae64a64a8c086d185", func := "customs/customslaw22.BookNew", spec := "bookNew", inPlace := ["slices.overlaps[customs/api.QuotaFact]"], unfollowed := true, recurses := true, named := ["math/bits.divideError", "math/bits.overflowError"], apart := false, narrowed := true }
def BookNewUptoSaid : Prop := bookNewUptoRow.holds Try.pinned (OpenSpec.upto bookNewSpec)

/-- 'customslaw22.BookRepeat', WHERE WHAT IT READS IS OF BULK AT MOST 1048576: true; the input reads as it did. -/
def bookRepeatUptoRow : OpenClaim := { program := "ytemhiifgplaldaa", sum := "67f1517ccd086225052283d91bccf7f53bed71d2f939473ae64a64a8c086d185", func := "customs/customslaw22.BookRepeat", spec := "bookRepeat", inPlace := ["slices.overlaps[customs/api.QuotaFact]"], unfollowed := true, recurses := true, named := ["math/bits.divideError", "math/bits.overflowError"], apart := false, narrowed := true }
def BookRepeatUptoSaid : Prop := bookRepeatUptoRow.holds Try.pinned (OpenSpec.upto bookRepeatSpec)

/-- 'customslaw22.BookOrder', WHERE WHAT IT READS IS OF BULK AT MOST 1048576: true; the input reads as it did. -/
def bookOrderUptoRow : OpenClaim := { program := "ytemhiifgplaldaa", sum := "67f1517ccd086225052283d91bccf7f53bed71d2f939473ae64a64a8c086d185", func := "customs/customslaw22.BookOrder", spec := "bookOrder", inPlace := ["slices.overlaps[customs/api.QuotaFact]"], unfollowed := true, recurses := true, named := ["math/bits.divideError", "math/bits.overflowError"], apart := false, narrowed := true }
def BookOrderUptoSaid : Prop := bookOrderUptoRow.holds Try.pinned (OpenSpec.upto bookOrderSpec)

/-- 'customslaw22.BookSum', WHERE WHAT IT READS IS OF BULK AT MOST 1048576: true; the input reads as it did. -/
def bookSumUptoRow : OpenClaim := { program := "ytemhiifgplaldaa", sum := "67f1517ccd086225052283d91bccf7f53bed71d2f939473ae64a64a8c086d185", func := "customs/customslaw22.BookSum", spec := "bookSum", inPlace := ["slices.overlaps[customs/api.QuotaFact]"], unfollowed := true, recurses := true, named := ["math/bits.divideError", "math/bits.overflowError"], apart := false, narrowed := true }
def BookSumUptoSaid : Prop := bookSumUptoRow.holds Try.pinned (OpenSpec.upto bookSumSpec)

/-- 'customslaw22.BookWithdrawn', WHERE WHAT IT READS IS OF BULK AT MOST 1048576: true; the input reads as it did. -/
def bookWithdrawnUptoRow : OpenClaim := { program := "ytemhiifgplaldaa", sum := "67f1517ccd086225052283d91bccf7f53bed71d2f939473ae64a64a8c086d185", func := "customs/customslaw22.BookWithdrawn", spec := "bookWithdrawn", inPlace := ["slices.overlaps[customs/api.QuotaFact]"], unfollowed := true, recurses := true, named := ["math/bits.divideError", "math/bits.overflowError"], apart := false, narrowed := true }
def BookWithdrawnUptoSaid : Prop := bookWithdrawnUptoRow.holds Try.pinned (OpenSpec.upto bookWithdrawnSpec)

/-- 'customslaw22.BookReturn', WHERE WHAT IT READS IS OF BULK AT MOST 1048576: true; the input reads as it did. -/
def bookReturnUptoRow : OpenClaim := { program := "ytemhiifgplaldaa", sum := "67f1517ccd086225052283d91bccf7f53bed71d2f939473ae64a64a8c086d185", func := "customs/customslaw22.BookReturn", spec := "bookReturn", inPlace := ["slices.overlaps[customs/api.QuotaFact]"], unfollowed := true, recurses := true, named := ["math/bits.divideError", "math/bits.overflowError"], apart := false, narrowed := true }
def BookReturnUptoSaid : Prop := bookReturnUptoRow.holds Try.pinned (OpenSpec.upto bookReturnSpec)

/-- 'customslaw22.BookReasons', WHERE WHAT IT READS IS OF BULK AT MOST 1048576: true; the input reads as it did. -/
def bookReasonsUptoRow : OpenClaim := { program := "ytemhiifgplaldaa", sum := "67f1517ccd086225052283d91bccf7f53bed71d2f939473ae64a64a8c086d185", func := "customs/customslaw22.BookReasons", spec := "bookReasons", inPlace := ["slices.overlaps[customs/api.QuotaFact]"], unfollowed := true, recurses := true, named := ["math/bits.divideError", "math/bits.overflowError"], apart := false, narrowed := true }
def BookReasonsUptoSaid : Prop := bookReasonsUptoRow.holds Try.pinned (OpenSpec.upto bookReasonsSpec)

end Rows
end Go.Proofs.Ytemhiifgplaldaa

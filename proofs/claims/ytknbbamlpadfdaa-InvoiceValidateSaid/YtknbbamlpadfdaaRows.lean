/-
  No cell of these rows narrows 'for every input' (looked for: loops, veiled, ifaces, maps, wideKeys, modest, calm, conditions, laid).
  DERIVED. THE GIVEN ROWS OF THIS SEAT. 6 by the template 'for every input the law returns true; each argument reads behind the call as it read before'; 0 by the template 'total and deterministic' (their statements: YtknbbamlpadfdaaTotals.lean).
  GIVEN WITH THE SEED: the statements are not yours to turn. If you find one false, say at which input.
  Laid BY PROGRAM, IN A SANDBOX (cutbox-rows.mjs): the forced cells as the released guide's own fill.sh prints them over the translation 09549da17abff707… (all of the seat's roots in one cut). By AI agents, Wed Nov 11 2026. No macro, syntax, notation, axiom, sorry.
-/
import Derived.Test.YtknbbamlpadfdaaChecked
import GoSem.Claim
import GoSem.ClaimJoined
import GoSem.ClaimMapViews
import Derived.JoinedTies
import Derived.KernelRfl
namespace Go.Proofs.Ytknbbamlpadfdaa
/- THE CELL 'sum', in the pinned program and in every row, IS THE sha256 OF THE DUMP (.gsa) THAT YtknbbamlpadfdaaProg.lean LOADS. Nothing in Lean hashes anything: it is a label: what it is worth is what the hold of that sum in a sandbox is worth. -/
noncomputable def Try.pinned : Pinned := { name := "ytknbbamlpadfdaa", sum := "09549da17abff707d8c689b47b874d08bd5bf8d75ab9432aaba3c1d0c04f7a5c", checked := Try.checked }
namespace Rows
def none {H : Type} : Left H := { results := [], args := [] }

/-- 'customslaw17.InvoiceValidate': WHATEVER THE INPUT: true; the input reads as it did. -/
def invoiceValidateSpec : ChangeSpec := { name := "invoiceValidate", fn := fun _ => fun
  | [d1, d2, d3, d4, d5] => { results := [.lit (.bool true)], args := [d1, d2, d3, d4, d5] }
  | _ => none }
def invoiceValidateRow : OpenClaim := { program := "ytknbbamlpadfdaa", sum := "09549da17abff707d8c689b47b874d08bd5bf8d75ab9432aaba3c1d0c04f7a5c", func := "customs/customslaw17.InvoiceValidate", spec := "invoiceValidate", unfollowed := true, recurses := true, named := ["math/bits.divideError", "math/bits.overflowError"], apart := false }
def InvoiceValidateSaid : Prop := invoiceValidateRow.holds Try.pinned (OpenSpec.ofChange invoiceValidateSpec)

/-- ITS FALSE NEIGHBOUR: 'it returns false'. Refute it at one input. -/
def invoiceValidateWrong : ChangeSpec := { name := "invoiceValidate", fn := fun _ => fun
  | [d1, d2, d3, d4, d5] => { results := [.lit (.bool false)], args := [d1, d2, d3, d4, d5] }
  | _ => none }
def InvoiceValidateWrongFalsely : Prop := invoiceValidateRow.holds Try.pinned (OpenSpec.ofChange invoiceValidateWrong)

/-- 'customslaw17.InvoiceValues': WHATEVER THE INPUT: true; the input reads as it did. -/
def invoiceValuesSpec : ChangeSpec := { name := "invoiceValues", fn := fun _ => fun
  | [d1, d2] => { results := [.lit (.bool true)], args := [d1, d2] }
  | _ => none }
def invoiceValuesRow : OpenClaim := { program := "ytknbbamlpadfdaa", sum := "09549da17abff707d8c689b47b874d08bd5bf8d75ab9432aaba3c1d0c04f7a5c", func := "customs/customslaw17.InvoiceValues", spec := "invoiceValues", unfollowed := true, recurses := true, named := ["math/bits.divideError", "math/bits.overflowError"], apart := false }
def InvoiceValuesSaid : Prop := invoiceValuesRow.holds Try.pinned (OpenSpec.ofChange invoiceValuesSpec)

/-- ITS FALSE NEIGHBOUR: 'it returns false'. Refute it at one input. -/
def invoiceValuesWrong : ChangeSpec := { name := "invoiceValues", fn := fun _ => fun
  | [d1, d2] => { results := [.lit (.bool false)], args := [d1, d2] }
  | _ => none }
def InvoiceValuesWrongFalsely : Prop := invoiceValuesRow.holds Try.pinned (OpenSpec.ofChange invoiceValuesWrong)

/-- 'customslaw17.InvoiceErrors': WHATEVER THE INPUT: true; the input reads as it did. -/
def invoiceErrorsSpec : ChangeSpec := { name := "invoiceErrors", fn := fun _ => fun
  | [d1, d2, d3, d4, d5, d6] => { results := [.lit (.bool true)], args := [d1, d2, d3, d4, d5, d6] }
  | _ => none }
def invoiceErrorsRow : OpenClaim := { program := "ytknbbamlpadfdaa", sum := "09549da17abff707d8c689b47b874d08bd5bf8d75ab9432aaba3c1d0c04f7a5c", func := "customs/customslaw17.InvoiceErrors", spec := "invoiceErrors", unfollowed := true, recurses := true, named := ["math/bits.divideError", "math/bits.overflowError"], apart := false }
def InvoiceErrorsSaid : Prop := invoiceErrorsRow.holds Try.pinned (OpenSpec.ofChange invoiceErrorsSpec)

/-- ITS FALSE NEIGHBOUR: 'it returns false'. Refute it at one input. -/
def invoiceErrorsWrong : ChangeSpec := { name := "invoiceErrors", fn := fun _ => fun
  | [d1, d2, d3, d4, d5, d6] => { results := [.lit (.bool false)], args := [d1, d2, d3, d4, d5, d6] }
  | _ => none }
def InvoiceErrorsWrongFalsely : Prop := invoiceErrorsRow.holds Try.pinned (OpenSpec.ofChange invoiceErrorsWrong)

/-- 'customslaw17.InvoiceTotal': WHATEVER THE INPUT: true; the input reads as it did. -/
def invoiceTotalSpec : ChangeSpec := { name := "invoiceTotal", fn := fun _ => fun
  | [d1, d2, d3, d4] => { results := [.lit (.bool true)], args := [d1, d2, d3, d4] }
  | _ => none }
def invoiceTotalRow : OpenClaim := { program := "ytknbbamlpadfdaa", sum := "09549da17abff707d8c689b47b874d08bd5bf8d75ab9432aaba3c1d0c04f7a5c", func := "customs/customslaw17.InvoiceTotal", spec := "invoiceTotal", unfollowed := true, recurses := true, named := ["math/bits.divideError", "math/bits.overflowError"], apart := false }
def InvoiceTotalSaid : Prop := invoiceTotalRow.holds Try.pinned (OpenSpec.ofChange invoiceTotalSpec)

/-- ITS FALSE NEIGHBOUR: 'it returns false'. Refute it at one input. -/
def invoiceTotalWrong : ChangeSpec := { name := "invoiceTotal", fn := fun _ => fun
  | [d1, d2, d3, d4] => { results := [.lit (.bool false)], args := [d1, d2, d3, d4] }
  | _ => none }
def InvoiceTotalWrongFalsely : Prop := invoiceTotalRow.holds Try.pinned (OpenSpec.ofChange invoiceTotalWrong)

/-- 'customslaw17.InvoiceBuying': WHATEVER THE INPUT: true; the input reads as it did. -/
def invoiceBuyingSpec : ChangeSpec := { name := "invoiceBuying", fn := fun _ => fun
  | [d1, d2, d3, d4] => { results := [.lit (.bool true)], args := [d1, d2, d3, d4] }
  | _ => none }
def invoiceBuyingRow : OpenClaim := { program := "ytknbbamlpadfdaa", sum := "09549da17abff707d8c689b47b874d08bd5bf8d75ab9432aaba3c1d0c04f7a5c", func := "customs/customslaw17.InvoiceBuying", spec := "invoiceBuying", unfollowed := true, recurses := true, named := ["math/bits.divideError", "math/bits.overflowError"], apart := false }
def InvoiceBuyingSaid : Prop := invoiceBuyingRow.holds Try.pinned (OpenSpec.ofChange invoiceBuyingSpec)

/-- ITS FALSE NEIGHBOUR: 'it returns false'. Refute it at one input. -/
def invoiceBuyingWrong : ChangeSpec := { name := "invoiceBuying", fn := fun _ => fun
  | [d1, d2, d3, d4] => { results := [.lit (.bool false)], args := [d1, d2, d3, d4] }
  | _ => none }
def InvoiceBuyingWrongFalsely : Prop := invoiceBuyingRow.holds Try.pinned (OpenSpec.ofChange invoiceBuyingWrong)

/-- 'customslaw17.InvoiceOrder': WHATEVER THE INPUT: true; the input reads as it did. -/
def invoiceOrderSpec : ChangeSpec := { name := "invoiceOrder", fn := fun _ => fun
  | [d1, d2, d3, d4] => { results := [.lit (.bool true)], args := [d1, d2, d3, d4] }
  | _ => none }
def invoiceOrderRow : OpenClaim := { program := "ytknbbamlpadfdaa", sum := "09549da17abff707d8c689b47b874d08bd5bf8d75ab9432aaba3c1d0c04f7a5c", func := "customs/customslaw17.InvoiceOrder", spec := "invoiceOrder", unfollowed := true, recurses := true, named := ["math/bits.divideError", "math/bits.overflowError"], apart := false }
def InvoiceOrderSaid : Prop := invoiceOrderRow.holds Try.pinned (OpenSpec.ofChange invoiceOrderSpec)

/-- ITS FALSE NEIGHBOUR: 'it returns false'. Refute it at one input. -/
def invoiceOrderWrong : ChangeSpec := { name := "invoiceOrder", fn := fun _ => fun
  | [d1, d2, d3, d4] => { results := [.lit (.bool false)], args := [d1, d2, d3, d4] }
  | _ => none }
def InvoiceOrderWrongFalsely : Prop := invoiceOrderRow.holds Try.pinned (OpenSpec.ofChange invoiceOrderWrong)

/- THE SECOND FORM. 'bulk': how many values and letters a reading holds, each counted each time it is reached (what is shared counts as often as it is met; a slice's spare places count too). A statement '..UptoSaid' is the law's where the arguments, and the package variables that the reading takes, are together of bulk at most 1048576: NARROWER than '..Said'. Prove '..Said' where nothing that the law and all that it calls make is longer than what came in: it says more and counts as full. Else prove '..UptoSaid'. A law counts once. -/
mutual
def uptoBulk {H : Type} : DataW H → Nat
  | .lit (.string bytes) => bytes.length + 1
  | .lit _ => 1
  | .nil => 1
  | .ptr d => uptoBulk d + 1
  | .slice elems spare => uptoBulkAll elems + uptoBulkAll spare + 1
  | .agg parts => uptoBulkAll parts + 1
  | .iface _ d => uptoBulk d + 1
  | .map entries => uptoBulkEntries entries + 1
  | .held _ => 1
def uptoBulkAll {H : Type} : List (DataW H) → Nat
  | [] => 0
  | d :: r => uptoBulk d + uptoBulkAll r
def uptoBulkEntries {H : Type} : List (Lit × DataW H) → Nat
  | [] => 0
  | x :: r => uptoBulkEntry x + uptoBulkEntries r
def uptoBulkEntry {H : Type} : Lit × DataW H → Nat
  | (.string bytes, d) => bytes.length + uptoBulk d + 1
  | (_, d) => uptoBulk d + 1
 end
def uptoSmall : (H : Type) → List (DataW H) → Bool := fun _ ds => decide (uptoBulkAll ds ≤ 1048576)
def OpenSpec.upto (s : _root_.Go.ChangeSpec) : _root_.Go.OpenSpec := { _root_.Go.OpenSpec.ofChange s with cond := some uptoSmall }

/-- 'customslaw17.InvoiceValidate', WHERE WHAT IT READS IS OF BULK AT MOST 1048576: true; the input reads as it did. -/
def invoiceValidateUptoRow : OpenClaim := { program := "ytknbbamlpadfdaa", sum := "09549da17abff707d8c689b47b874d08bd5bf8d75ab9432aaba3c1d0c04f7a5c", func := "customs/customslaw17.InvoiceValidate", spec := "invoiceValidate", unfollowed := true, recurses := true, named := ["math/bits.divideError", "math/bits.overflowError"], apart := false, narrowed := true }
def InvoiceValidateUptoSaid : Prop := invoiceValidateUptoRow.holds Try.pinned (OpenSpec.upto invoiceValidateSpec)

/-- 'customslaw17.InvoiceValues', WHERE WHAT IT READS IS OF BULK AT MOST 1048576: true; the input reads as it did. -/
def invoiceValuesUptoRow : OpenClaim := { program := "ytknbbamlpadfdaa", sum := "09549da17abff707d8c689b47b874d08bd5bf8d75ab9432aaba3c1d0c04f7a5c", func := "customs/customslaw17.InvoiceValues", spec := "invoiceValues", unfollowed := true, recurses := true, named := ["math/bits.divideError", "math/bits.overflowError"], apart := false, narrowed := true }
def InvoiceValuesUptoSaid : Prop := invoiceValuesUptoRow.holds Try.pinned (OpenSpec.upto invoiceValuesSpec)

/-- 'customslaw17.InvoiceErrors', WHERE WHAT IT READS IS OF BULK AT MOST 1048576: true; the input reads as it did. -/
def invoiceErrorsUptoRow : OpenClaim := { program := "ytknbbamlpadfdaa", sum := "09549da17abff707d8c689b47b874d08bd5bf8d75ab9432aaba3c1d0c04f7a5c", func := "customs/customslaw17.InvoiceErrors", spec := "invoiceErrors", unfollowed := true, recurses := true, named := ["math/bits.divideError", "math/bits.overflowError"], apart := false, narrowed := true }
def InvoiceErrorsUptoSaid : Prop := invoiceErrorsUptoRow.holds Try.pinned (OpenSpec.upto invoiceErrorsSpec)

/-- 'customslaw17.InvoiceTotal', WHERE WHAT IT READS IS OF BULK AT MOST 1048576: true; the input reads as it did. -/
def invoiceTotalUptoRow : OpenClaim := { program := "ytknbbamlpadfdaa", sum := "09549da17abff707d8c689b47b874d08bd5bf8d75ab9432aaba3c1d0c04f7a5c", func := "customs/customslaw17.InvoiceTotal", spec := "invoiceTotal", unfollowed := true, recurses := true, named := ["math/bits.divideError", "math/bits.overflowError"], apart := false, narrowed := true }
def InvoiceTotalUptoSaid : Prop := invoiceTotalUptoRow.holds Try.pinned (OpenSpec.upto invoiceTotalSpec)

/-- 'customslaw17.InvoiceBuying', WHERE WHAT IT READS IS OF BULK AT MOST 1048576: true; the input reads as it did. -/
def invoiceBuyingUptoRow : OpenClaim := { program := "ytknbbamlpadfdaa", sum := "09549da17abff707d8c689b47b874d08bd5bf8d75ab9432aaba3c1d0c04f7a5c", func := "customs/customslaw17.InvoiceBuying", spec := "invoiceBuying", unfollowed := true, recurses := true, named := ["math/bits.divideError", "math/bits.overflowError"], apart := false, narrowed := true }
def InvoiceBuyingUptoSaid : Prop := invoiceBuyingUptoRow.holds Try.pinned (OpenSpec.upto invoiceBuyingSpec)

/-- 'customslaw17.InvoiceOrder', WHERE WHAT IT READS IS OF BULK AT MOST 1048576: true; the input reads as it did. -/
def invoiceOrderUptoRow : OpenClaim := { program := "ytknbbamlpadfdaa", sum := "09549da17abff707d8c689b47b874d08bd5bf8d75ab9432aaba3c1d0c04f7a5c", func := "customs/customslaw17.InvoiceOrder", spec := "invoiceOrder", unfollowed := true, recurses := true, named := ["math/bits.divideError", "math/bits.overflowError"], apart := false, narrowed := true }
def InvoiceOrderUptoSaid : Prop := invoiceOrderUptoRow.holds Try.pinned (OpenSpec.upto invoiceOrderSpec)

end Rows
end Go.Proofs.Ytknbbamlpadfdaa

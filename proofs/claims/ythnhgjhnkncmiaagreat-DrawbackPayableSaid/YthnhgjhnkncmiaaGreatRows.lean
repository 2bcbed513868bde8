/-
  No cell of these rows narrows 'for every input' (looked for: loops, veiled, ifaces, maps, wideKeys, modest, calm, conditions, laid).
  DERIVED. THE GIVEN ROWS OF THIS SEAT. 4 by the template 'for every input the law returns true; each argument reads behind the call as it read before'; 0 by the template 'total and deterministic' (their statements: YthnhgjhnkncmiaaGreatTotals.lean).
  GIVEN WITH THE SEED: the statements are not yours to turn. If you find one false, say at which input.
  Laid BY PROGRAM, IN A SANDBOX (cutbox-rows.mjs): the forced cells as the released guide's own fill.sh prints them over the translation 8cea08a5161f162a… (all of the seat's roots in one cut). By AI agents, Wed Nov 11 2026. No macro, syntax, notation, axiom, sorry.
-/
import Derived.Test.YthnhgjhnkncmiaaGreatChecked
import GoSem.Claim
import GoSem.ClaimJoined
import GoSem.ClaimMapViews
import Derived.JoinedTies
import Derived.KernelRfl
namespace Go.Proofs.YthnhgjhnkncmiaaGreat
/- THE CELL 'sum', in the pinned program and in every row, IS THE sha256 OF THE DUMP (.gsa) THAT YthnhgjhnkncmiaaGreatProg.lean LOADS. Nothing in Lean hashes anything: it is a label: what it is worth is what the hold of that sum in a sandbox is worth. -/
noncomputable def Tryz.pinned : Pinned := { name := "ythnhgjhnkncmiaagreat", sum := "8cea08a5161f162afec478dbab91b59ac2a219f6811cc1deecb6d1ff753ca4d8", checked := Tryz.checked }
namespace Rows
def none {H : Type} : Left H := { results := [], args := [] }

/-- 'customslaw29.DrawbackOnce': WHATEVER THE INPUT: true; the input reads as it did. -/
def drawbackOnceSpec : ChangeSpec := { name := "drawbackOnce", fn := fun _ => fun
  | [d1, d2] => { results := [.lit (.bool true)], args := [d1, d2] }
  | _ => none }
def drawbackOnceRow : OpenClaim := { program := "ythnhgjhnkncmiaagreat", sum := "8cea08a5161f162afec478dbab91b59ac2a219f6811cc1deecb6d1ff753ca4d8", func := "customs/customslaw29.DrawbackOnce", spec := "drawbackOnce", inPlace := ["slices.overlaps[customs/api.Claim]"], unfollowed := true, recurses := true, named := ["math/bits.divideError", "math/bits.overflowError"], apart := false }
def DrawbackOnceSaid : Prop := drawbackOnceRow.holds Tryz.pinned (OpenSpec.ofChange drawbackOnceSpec)

/-- ITS FALSE NEIGHBOUR: 'it returns false'. Refute it at one input. -/
def drawbackOnceWrong : ChangeSpec := { name := "drawbackOnce", fn := fun _ => fun
  | [d1, d2] => { results := [.lit (.bool false)], args := [d1, d2] }
  | _ => none }
def DrawbackOnceWrongFalsely : Prop := drawbackOnceRow.holds Tryz.pinned (OpenSpec.ofChange drawbackOnceWrong)

/-- 'customslaw29.DrawbackSchemes': WHATEVER THE INPUT: true; the input reads as it did. -/
def drawbackSchemesSpec : ChangeSpec := { name := "drawbackSchemes", fn := fun _ => fun
  | [d1, d2, d3, d4, d5] => { results := [.lit (.bool true)], args := [d1, d2, d3, d4, d5] }
  | _ => none }
def drawbackSchemesRow : OpenClaim := { program := "ythnhgjhnkncmiaagreat", sum := "8cea08a5161f162afec478dbab91b59ac2a219f6811cc1deecb6d1ff753ca4d8", func := "customs/customslaw29.DrawbackSchemes", spec := "drawbackSchemes", inPlace := ["slices.overlaps[customs/api.Claim]"], unfollowed := true, recurses := true, named := ["math/bits.divideError", "math/bits.overflowError"], apart := false }
def DrawbackSchemesSaid : Prop := drawbackSchemesRow.holds Tryz.pinned (OpenSpec.ofChange drawbackSchemesSpec)

/-- ITS FALSE NEIGHBOUR: 'it returns false'. Refute it at one input. -/
def drawbackSchemesWrong : ChangeSpec := { name := "drawbackSchemes", fn := fun _ => fun
  | [d1, d2, d3, d4, d5] => { results := [.lit (.bool false)], args := [d1, d2, d3, d4, d5] }
  | _ => none }
def DrawbackSchemesWrongFalsely : Prop := drawbackSchemesRow.holds Tryz.pinned (OpenSpec.ofChange drawbackSchemesWrong)

/-- 'customslaw29.DrawbackPayable': WHATEVER THE INPUT: true; the input reads as it did. -/
def drawbackPayableSpec : ChangeSpec := { name := "drawbackPayable", fn := fun _ => fun
  | [d1, d2, d3, d4, d5, d6, d7] => { results := [.lit (.bool true)], args := [d1, d2, d3, d4, d5, d6, d7] }
  | _ => none }
def drawbackPayableRow : OpenClaim := { program := "ythnhgjhnkncmiaagreat", sum := "8cea08a5161f162afec478dbab91b59ac2a219f6811cc1deecb6d1ff753ca4d8", func := "customs/customslaw29.DrawbackPayable", spec := "drawbackPayable", inPlace := ["slices.overlaps[customs/api.Claim]"], unfollowed := true, recurses := true, named := ["math/bits.divideError", "math/bits.overflowError"], apart := false }
def DrawbackPayableSaid : Prop := drawbackPayableRow.holds Tryz.pinned (OpenSpec.ofChange drawbackPayableSpec)

/-- ITS FALSE NEIGHBOUR: 'it returns false'. Refute it at one input. -/
def drawbackPayableWrong : ChangeSpec := { name := "drawbackPayable", fn := fun _ => fun
  | [d1, d2, d3, d4, d5, d6, d7] => { results := [.lit (.bool false)], args := [d1, d2, d3, d4, d5, d6, d7] }
  | _ => none }
def DrawbackPayableWrongFalsely : Prop := drawbackPayableRow.holds Tryz.pinned (OpenSpec.ofChange drawbackPayableWrong)

/-- 'customslaw29.DrawbackNever': WHATEVER THE INPUT: true; the input reads as it did. -/
def drawbackNeverSpec : ChangeSpec := { name := "drawbackNever", fn := fun _ => fun
  | [d1, d2, d3, d4] => { results := [.lit (.bool true)], args := [d1, d2, d3, d4] }
  | _ => none }
def drawbackNeverRow : OpenClaim := { program := "ythnhgjhnkncmiaagreat", sum := "8cea08a5161f162afec478dbab91b59ac2a219f6811cc1deecb6d1ff753ca4d8", func := "customs/customslaw29.DrawbackNever", spec := "drawbackNever", inPlace := ["slices.overlaps[customs/api.Claim]"], unfollowed := true, recurses := true, named := ["math/bits.divideError", "math/bits.overflowError"], apart := false }
def DrawbackNeverSaid : Prop := drawbackNeverRow.holds Tryz.pinned (OpenSpec.ofChange drawbackNeverSpec)

/-- ITS FALSE NEIGHBOUR: 'it returns false'. Refute it at one input. -/
def drawbackNeverWrong : ChangeSpec := { name := "drawbackNever", fn := fun _ => fun
  | [d1, d2, d3, d4] => { results := [.lit (.bool false)], args := [d1, d2, d3, d4] }
  | _ => none }
def DrawbackNeverWrongFalsely : Prop := drawbackNeverRow.holds Tryz.pinned (OpenSpec.ofChange drawbackNeverWrong)

/- THE SECOND FORM. 'bulk': how many values and letters a reading holds, each counted each time it is reached (what is shared counts as often as it is met; a slice's spare places count too). A statement '..UptoSaid' is the law's where the arguments, and the package variables that the reading takes, are together of bulk at most 1048576: NARROWER than '..Said'. Prove '..Said' where nothing that the law and all that it calls make is longer than what came in: it says more and counts as full. Else prove '..UptoSaid'. A law counts once. -/
mutual
def uptoBulk {H : Type} : DataW H → Nat
  | .lit (.string bytes) => bytes.length + 1
  | .lit _ => 1
  | .nil => 1
  | .ptr d => uptoBulk d + 1
  | .slice elems spare => uptoBulkAll elems + uptoBulkAll spare + 1
  | .agg parts => uptoBulkAll parts + 1
  | .iface _ d => uptoBulk d + 1
  | .map entries => uptoBulkEntries entries + 1
  | .held _ => 1
def uptoBulkAll {H : Type} : List (DataW H) → Nat
  | [] => 0
  | d :: r => uptoBulk d + uptoBulkAll r
def uptoBulkEntries {H : Type} : List (Lit × DataW H) → Nat
  | [] => 0
  | x :: r => uptoBulkEntry x + uptoBulkEntries r
def uptoBulkEntry {H : Type} : Lit × DataW H → Nat
  | (.string bytes, d) => bytes.length + uptoBulk d + 1
  | (_, d) => uptoBulk d + 1
 end
def uptoSmall : (H : Type) → List (DataW H) → Bool := fun _ ds => decide (uptoBulkAll ds ≤ 1048576)
def OpenSpec.upto (s : _root_.Go.ChangeSpec) : _root_.Go.OpenSpec := { _root_.Go.OpenSpec.ofChange s with cond := some uptoSmall }

/-- 'customslaw29.DrawbackOnce', WHERE WHAT IT READS IS OF BULK AT MOST 1048576: true; the input reads as it did. -/
def drawbackOnceUptoRow : OpenClaim := { program := "ythnhgjhnkncmiaagreat", sum := "8cea08a5161f162afec478dbab91b59ac2a219f6811cc1deecb6d1ff753ca4d8", func := "customs/customslaw29.DrawbackOnce", spec := "drawbackOnce", inPlace := ["slices.overlaps[customs/api.Claim]"], unfollowed := true, recurses := true, named := ["math/bits.divideError", "math/bits.overflowError"], apart := false, narrowed := true }
def DrawbackOnceUptoSaid : Prop := drawbackOnceUptoRow.holds Tryz.pinned (OpenSpec.upto drawbackOnceSpec)

/-- 'customslaw29.DrawbackSchemes', WHERE WHAT IT READS IS OF BULK AT MOST 1048576: true; the input reads as it did. -/
def drawbackSchemesUptoRow : OpenClaim := { program := "ythnhgjhnkncmiaagreat", sum := "8cea08a5161f162afec478dbab91b59ac2a219f6811cc1deecb6d1ff753ca4d8", func := "customs/customslaw29.DrawbackSchemes", spec := "drawbackSchemes", inPlace := ["slices.overlaps[customs/api.Claim]"], unfollowed := true, recurses := true, named := ["math/bits.divideError", "math/bits.overflowError"], apart := false, narrowed := true }
def DrawbackSchemesUptoSaid : Prop := drawbackSchemesUptoRow.holds Tryz.pinned (OpenSpec.upto drawbackSchemesSpec)

/-- 'customslaw29.DrawbackPayable', WHERE WHAT IT READS IS OF BULK AT MOST 1048576: true; the input reads as it did. -/
def drawbackPayableUptoRow : OpenClaim := { program := "ythnhgjhnkncmiaagreat", sum := "8cea08a5161f162afec478dbab91b59ac2a219f6811cc1deecb6d1ff753ca4d8", func := "customs/customslaw29.DrawbackPayable", spec := "drawbackPayable", inPlace := ["slices.overlaps[customs/api.Claim]"], unfollowed := true, recurses := true, named := ["math/bits.divideError", "math/bits.overflowError"], apart := false, narrowed := true }
def DrawbackPayableUptoSaid : Prop := drawbackPayableUptoRow.holds Tryz.pinned (OpenSpec.upto drawbackPayableSpec)

/-- 'customslaw29.DrawbackNever', WHERE WHAT IT READS IS OF BULK AT MOST 1048576: true; the input reads as it did. -/
def drawbackNeverUptoRow : OpenClaim := { program := "ythnhgjhnkncmiaagreat", sum := "8cea08a5161f162afec478dbab91b59ac2a219f6811cc1deecb6d1ff753ca4d8", func := "customs/customslaw29.DrawbackNever", spec := "drawbackNever", inPlace := ["slices.overlaps[customs/api.Claim]"], unfollowed := true, recurses := true, named := ["math/bits.divideError", "math/bits.overflowError"], apart := false, narrowed := true }
def DrawbackNeverUptoSaid : Prop := drawbackNeverUptoRow.holds Tryz.pinned (OpenSpec.upto drawbackNeverSpec)

end Rows
end Go.Proofs.YthnhgjhnkncmiaaGreat

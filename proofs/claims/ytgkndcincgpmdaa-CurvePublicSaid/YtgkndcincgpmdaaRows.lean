/-
  No cell of these rows narrows 'for every input' (looked for: loops, veiled, ifaces, maps, wideKeys, modest, calm, conditions, laid).
  DERIVED. THE GIVEN ROWS OF THIS SEAT. 8 by the template 'for every input the law returns true; each argument reads behind the call as it read before'; 0 by the template 'total and deterministic' (their statements: YtgkndcincgpmdaaTotals.lean).
  GIVEN WITH THE SEED: the statements are not yours to turn. If you find one false, say at which input.
  Laid BY PROGRAM, IN A SANDBOX (cutbox-rows.mjs): the forced cells as the released guide's own fill.sh prints them over the translation 60af2d2b6a0ff4a6… (all of the seat's roots in one cut). By AI agents, Wed Nov 11 2026. No macro, syntax, notation, axiom, sorry.
-/
import Derived.Test.YtgkndcincgpmdaaChecked
import GoSem.Claim
import GoSem.ClaimJoined
import GoSem.ClaimMapViews
import Derived.JoinedTies
import Derived.KernelRfl
namespace Go.Proofs.Ytgkndcincgpmdaa
/- THE CELL 'sum', in the pinned program and in every row, IS THE sha256 OF THE DUMP (.gsa) THAT YtgkndcincgpmdaaProg.lean LOADS. Nothing in Lean hashes anything: it is a label: what it is worth is what the hold of that sum in a sandbox is worth. -/
noncomputable def Try.pinned : Pinned := { name := "ytgkndcincgpmdaa", sum := "60af2d2b6a0ff4a6a1c26e5cfb11b739bad400c9be8c5a728669159873c30aad", checked := Try.checked }
namespace Rows
def none {H : Type} : Left H := { results := [], args := [] }

/-- 'hatchwaylaw08.CurveTells': WHATEVER THE INPUT: true; the input reads as it did. -/
def curveTellsSpec : ChangeSpec := { name := "curveTells", fn := fun _ => fun
  | [d1, d2] => { results := [.lit (.bool true)], args := [d1, d2] }
  | _ => none }
def curveTellsRow : OpenClaim := { program := "ytgkndcincgpmdaa", sum := "60af2d2b6a0ff4a6a1c26e5cfb11b739bad400c9be8c5a728669159873c30aad", func := "hatchway/hatchwaylaw08.CurveTells", spec := "curveTells", inPlace := ["math/bits.Add64"], apart := false }
def CurveTellsSaid : Prop := curveTellsRow.holds Try.pinned (OpenSpec.ofChange curveTellsSpec)

/-- ITS FALSE NEIGHBOUR: 'it returns false'. Refute it at one input. -/
def curveTellsWrong : ChangeSpec := { name := "curveTells", fn := fun _ => fun
  | [d1, d2] => { results := [.lit (.bool false)], args := [d1, d2] }
  | _ => none }
def CurveTellsWrongFalsely : Prop := curveTellsRow.holds Try.pinned (OpenSpec.ofChange curveTellsWrong)

/-- 'hatchwaylaw08.CurvePublic': WHATEVER THE INPUT: true; the input reads as it did. -/
def curvePublicSpec : ChangeSpec := { name := "curvePublic", fn := fun _ => fun
  | [d] => { results := [.lit (.bool true)], args := [d] }
  | _ => none }
def curvePublicRow : OpenClaim := { program := "ytgkndcincgpmdaa", sum := "60af2d2b6a0ff4a6a1c26e5cfb11b739bad400c9be8c5a728669159873c30aad", func := "hatchway/hatchwaylaw08.CurvePublic", spec := "curvePublic", inPlace := ["math/bits.Add64"], apart := false }
def CurvePublicSaid : Prop := curvePublicRow.holds Try.pinned (OpenSpec.ofChange curvePublicSpec)

/-- ITS FALSE NEIGHBOUR: 'it returns false'. Refute it at one input. -/
def curvePublicWrong : ChangeSpec := { name := "curvePublic", fn := fun _ => fun
  | [d] => { results := [.lit (.bool false)], args := [d] }
  | _ => none }
def CurvePublicWrongFalsely : Prop := curvePublicRow.holds Try.pinned (OpenSpec.ofChange curvePublicWrong)

/-- 'hatchwaylaw08.CurveAgrees': WHATEVER THE INPUT: true; the input reads as it did. -/
def curveAgreesSpec : ChangeSpec := { name := "curveAgrees", fn := fun _ => fun
  | [d1, d2] => { results := [.lit (.bool true)], args := [d1, d2] }
  | _ => none }
def curveAgreesRow : OpenClaim := { program := "ytgkndcincgpmdaa", sum := "60af2d2b6a0ff4a6a1c26e5cfb11b739bad400c9be8c5a728669159873c30aad", func := "hatchway/hatchwaylaw08.CurveAgrees", spec := "curveAgrees", inPlace := ["math/bits.Add64"], apart := false }
def CurveAgreesSaid : Prop := curveAgreesRow.holds Try.pinned (OpenSpec.ofChange curveAgreesSpec)

/-- ITS FALSE NEIGHBOUR: 'it returns false'. Refute it at one input. -/
def curveAgreesWrong : ChangeSpec := { name := "curveAgrees", fn := fun _ => fun
  | [d1, d2] => { results := [.lit (.bool false)], args := [d1, d2] }
  | _ => none }
def CurveAgreesWrongFalsely : Prop := curveAgreesRow.holds Try.pinned (OpenSpec.ofChange curveAgreesWrong)

/-- 'hatchwaylaw08.CurveClamps': WHATEVER THE INPUT: true; the input reads as it did. -/
def curveClampsSpec : ChangeSpec := { name := "curveClamps", fn := fun _ => fun
  | [d1, d2, d3] => { results := [.lit (.bool true)], args := [d1, d2, d3] }
  | _ => none }
def curveClampsRow : OpenClaim := { program := "ytgkndcincgpmdaa", sum := "60af2d2b6a0ff4a6a1c26e5cfb11b739bad400c9be8c5a728669159873c30aad", func := "hatchway/hatchwaylaw08.CurveClamps", spec := "curveClamps", inPlace := ["math/bits.Add64"], apart := false }
def CurveClampsSaid : Prop := curveClampsRow.holds Try.pinned (OpenSpec.ofChange curveClampsSpec)

/-- ITS FALSE NEIGHBOUR: 'it returns false'. Refute it at one input. -/
def curveClampsWrong : ChangeSpec := { name := "curveClamps", fn := fun _ => fun
  | [d1, d2, d3] => { results := [.lit (.bool false)], args := [d1, d2, d3] }
  | _ => none }
def CurveClampsWrongFalsely : Prop := curveClampsRow.holds Try.pinned (OpenSpec.ofChange curveClampsWrong)

/-- 'hatchwaylaw08.CurveOrder': WHATEVER THE INPUT: true; the input reads as it did. -/
def curveOrderSpec : ChangeSpec := { name := "curveOrder", fn := fun _ => fun
  | [d1, d2, d3] => { results := [.lit (.bool true)], args := [d1, d2, d3] }
  | _ => none }
def curveOrderRow : OpenClaim := { program := "ytgkndcincgpmdaa", sum := "60af2d2b6a0ff4a6a1c26e5cfb11b739bad400c9be8c5a728669159873c30aad", func := "hatchway/hatchwaylaw08.CurveOrder", spec := "curveOrder", inPlace := ["math/bits.Add64"], apart := false }
def CurveOrderSaid : Prop := curveOrderRow.holds Try.pinned (OpenSpec.ofChange curveOrderSpec)

/-- ITS FALSE NEIGHBOUR: 'it returns false'. Refute it at one input. -/
def curveOrderWrong : ChangeSpec := { name := "curveOrder", fn := fun _ => fun
  | [d1, d2, d3] => { results := [.lit (.bool false)], args := [d1, d2, d3] }
  | _ => none }
def CurveOrderWrongFalsely : Prop := curveOrderRow.holds Try.pinned (OpenSpec.ofChange curveOrderWrong)

/-- 'hatchwaylaw08.CurveSmall': WHATEVER THE INPUT: true; the input reads as it did. -/
def curveSmallSpec : ChangeSpec := { name := "curveSmall", fn := fun _ => fun
  | [d1, d2] => { results := [.lit (.bool true)], args := [d1, d2] }
  | _ => none }
def curveSmallRow : OpenClaim := { program := "ytgkndcincgpmdaa", sum := "60af2d2b6a0ff4a6a1c26e5cfb11b739bad400c9be8c5a728669159873c30aad", func := "hatchway/hatchwaylaw08.CurveSmall", spec := "curveSmall", inPlace := ["math/bits.Add64"], apart := false }
def CurveSmallSaid : Prop := curveSmallRow.holds Try.pinned (OpenSpec.ofChange curveSmallSpec)

/-- ITS FALSE NEIGHBOUR: 'it returns false'. Refute it at one input. -/
def curveSmallWrong : ChangeSpec := { name := "curveSmall", fn := fun _ => fun
  | [d1, d2] => { results := [.lit (.bool false)], args := [d1, d2] }
  | _ => none }
def CurveSmallWrongFalsely : Prop := curveSmallRow.holds Try.pinned (OpenSpec.ofChange curveSmallWrong)

/-- 'hatchwaylaw08.CurveLeast': WHATEVER THE INPUT: true; the input reads as it did. -/
def curveLeastSpec : ChangeSpec := { name := "curveLeast", fn := fun _ => fun
  | [d1, d2] => { results := [.lit (.bool true)], args := [d1, d2] }
  | _ => none }
def curveLeastRow : OpenClaim := { program := "ytgkndcincgpmdaa", sum := "60af2d2b6a0ff4a6a1c26e5cfb11b739bad400c9be8c5a728669159873c30aad", func := "hatchway/hatchwaylaw08.CurveLeast", spec := "curveLeast", inPlace := ["math/bits.Add64"], apart := false }
def CurveLeastSaid : Prop := curveLeastRow.holds Try.pinned (OpenSpec.ofChange curveLeastSpec)

/-- ITS FALSE NEIGHBOUR: 'it returns false'. Refute it at one input. -/
def curveLeastWrong : ChangeSpec := { name := "curveLeast", fn := fun _ => fun
  | [d1, d2] => { results := [.lit (.bool false)], args := [d1, d2] }
  | _ => none }
def CurveLeastWrongFalsely : Prop := curveLeastRow.holds Try.pinned (OpenSpec.ofChange curveLeastWrong)

/-- 'hatchwaylaw08.CurveThree': WHATEVER THE INPUT: true; the input reads as it did. -/
def curveThreeSpec : ChangeSpec := { name := "curveThree", fn := fun _ => fun
  | [d1, d2, d3] => { results := [.lit (.bool true)], args := [d1, d2, d3] }
  | _ => none }
def curveThreeRow : OpenClaim := { program := "ytgkndcincgpmdaa", sum := "60af2d2b6a0ff4a6a1c26e5cfb11b739bad400c9be8c5a728669159873c30aad", func := "hatchway/hatchwaylaw08.CurveThree", spec := "curveThree", inPlace := ["math/bits.Add64"], apart := false }
def CurveThreeSaid : Prop := curveThreeRow.holds Try.pinned (OpenSpec.ofChange curveThreeSpec)

/-- ITS FALSE NEIGHBOUR: 'it returns false'. Refute it at one input. -/
def curveThreeWrong : ChangeSpec := { name := "curveThree", fn := fun _ => fun
  | [d1, d2, d3] => { results := [.lit (.bool false)], args := [d1, d2, d3] }
  | _ => none }
def CurveThreeWrongFalsely : Prop := curveThreeRow.holds Try.pinned (OpenSpec.ofChange curveThreeWrong)

/- THE SECOND FORM. 'bulk': how many values and letters a reading holds, each counted each time it is reached (what is shared counts as often as it is met; a slice's spare places count too). A statement '..UptoSaid' is the law's where the arguments, and the package variables that the reading takes, are together of bulk at most 1048576: NARROWER than '..Said'. Prove '..Said' where nothing that the law and all that it calls make is longer than what came in: it says more and counts as full. Else prove '..UptoSaid'. A law counts once. -/
mutual
def uptoBulk {H : Type} : DataW H → Nat
  | .lit (.string bytes) => bytes.length + 1
  | .lit _ => 1
  | .nil => 1
  | .ptr d => uptoBulk d + 1
  | .slice elems spare => uptoBulkAll elems + uptoBulkAll spare + 1
  | .agg parts => uptoBulkAll parts + 1
  | .iface _ d => uptoBulk d + 1
  | .map entries => uptoBulkEntries entries + 1
  | .held _ => 1
def uptoBulkAll {H : Type} : List (DataW H) → Nat
  | [] => 0
  | d :: r => uptoBulk d + uptoBulkAll r
def uptoBulkEntries {H : Type} : List (Lit × DataW H) → Nat
  | [] => 0
  | x :: r => uptoBulkEntry x + uptoBulkEntries r
def uptoBulkEntry {H : Type} : Lit × DataW H → Nat
  | (.string bytes, d) => bytes.length + uptoBulk d + 1
  | (_, d) => uptoBulk d + 1
 end
def uptoSmall : (H : Type) → List (DataW H) → Bool := fun _ ds => decide (uptoBulkAll ds ≤ 1048576)
def OpenSpec.upto (s : _root_.Go.ChangeSpec) : _root_.Go.OpenSpec := { _root_.Go.OpenSpec.ofChange s with cond := some uptoSmall }

/-- 'hatchwaylaw08.CurveTells', WHERE WHAT IT READS IS OF BULK AT MOST 1048576: true; the input reads as it did. -/
def curveTellsUptoRow : OpenClaim := { program := "ytgkndcincgpmdaa", sum := "60af2d2b6a0ff4a6a1c26e5cfb11b739bad400c9be8c5a728669159873c30aad", func := "hatchway/hatchwaylaw08.CurveTells", spec := "curveTells", inPlace := ["math/bits.Add64"], apart := false, narrowed := true }
def CurveTellsUptoSaid : Prop := curveTellsUptoRow.holds Try.pinned (OpenSpec.upto curveTellsSpec)

/-- 'hatchwaylaw08.CurvePublic', WHERE WHAT IT READS IS OF BULK AT MOST 1048576: true; the input reads as it did. -/
def curvePublicUptoRow : OpenClaim := { program := "ytgkndcincgpmdaa", sum := "60af2d2b6a0ff4a6a1c26e5cfb11b739bad400c9be8c5a728669159873c30aad", func := "hatchway/hatchwaylaw08.CurvePublic", spec := "curvePublic", inPlace := ["math/bits.Add64"], apart := false, narrowed := true }
def CurvePublicUptoSaid : Prop := curvePublicUptoRow.holds Try.pinned (OpenSpec.upto curvePublicSpec)

/-- 'hatchwaylaw08.CurveAgrees', WHERE WHAT IT READS IS OF BULK AT MOST 1048576: true; the input reads as it did. -/
def curveAgreesUptoRow : OpenClaim := { program := "ytgkndcincgpmdaa", sum := "60af2d2b6a0ff4a6a1c26e5cfb11b739bad400c9be8c5a728669159873c30aad", func := "hatchway/hatchwaylaw08.CurveAgrees", spec := "curveAgrees", inPlace := ["math/bits.Add64"], apart := false, narrowed := true }
def CurveAgreesUptoSaid : Prop := curveAgreesUptoRow.holds Try.pinned (OpenSpec.upto curveAgreesSpec)

/-- 'hatchwaylaw08.CurveClamps', WHERE WHAT IT READS IS OF BULK AT MOST 1048576: true; the input reads as it did. -/
def curveClampsUptoRow : OpenClaim := { program := "ytgkndcincgpmdaa", sum := "60af2d2b6a0ff4a6a1c26e5cfb11b739bad400c9be8c5a728669159873c30aad", func := "hatchway/hatchwaylaw08.CurveClamps", spec := "curveClamps", inPlace := ["math/bits.Add64"], apart := false, narrowed := true }
def CurveClampsUptoSaid : Prop := curveClampsUptoRow.holds Try.pinned (OpenSpec.upto curveClampsSpec)

/-- 'hatchwaylaw08.CurveOrder', WHERE WHAT IT READS IS OF BULK AT MOST 1048576: true; the input reads as it did. -/
def curveOrderUptoRow : OpenClaim := { program := "ytgkndcincgpmdaa", sum := "60af2d2b6a0ff4a6a1c26e5cfb11b739bad400c9be8c5a728669159873c30aad", func := "hatchway/hatchwaylaw08.CurveOrder", spec := "curveOrder", inPlace := ["math/bits.Add64"], apart := false, narrowed := true }
def CurveOrderUptoSaid : Prop := curveOrderUptoRow.holds Try.pinned (OpenSpec.upto curveOrderSpec)

/-- 'hatchwaylaw08.CurveSmall', WHERE WHAT IT READS IS OF BULK AT MOST 1048576: true; the input reads as it did. -/
def curveSmallUptoRow : OpenClaim := { program := "ytgkndcincgpmdaa", sum := "60af2d2b6a0ff4a6a1c26e5cfb11b739bad400c9be8c5a728669159873c30aad", func := "hatchway/hatchwaylaw08.CurveSmall", spec := "curveSmall", inPlace := ["math/bits.Add64"], apart := false, narrowed := true }
def CurveSmallUptoSaid : Prop := curveSmallUptoRow.holds Try.pinned (OpenSpec.upto curveSmallSpec)

/-- 'hatchwaylaw08.CurveLeast', WHERE WHAT IT READS IS OF BULK AT MOST 1048576: true; the input reads as it did. -/
def curveLeastUptoRow : OpenClaim := { program := "ytgkndcincgpmdaa", sum := "60af2d2b6a0ff4a6a1c26e5cfb11b739bad400c9be8c5a728669159873c30aad", func := "hatchway/hatchwaylaw08.CurveLeast", spec := "curveLeast", inPlace := ["math/bits.Add64"], apart := false, narrowed := true }
def CurveLeastUptoSaid : Prop := curveLeastUptoRow.holds Try.pinned (OpenSpec.upto curveLeastSpec)

/-- 'hatchwaylaw08.CurveThree', WHERE WHAT IT READS IS OF BULK AT MOST 1048576: true; the input reads as it did. -/
def curveThreeUptoRow : OpenClaim := { program := "ytgkndcincgpmdaa", sum := "60af2d2b6a0ff4a6a1c26e5cfb11b739bad400c9be8c5a728669159873c30aad", func := "hatchway/hatchwaylaw08.CurveThree", spec := "curveThree", inPlace := ["math/bits.Add64"], apart := false, narrowed := true }
def CurveThreeUptoSaid : Prop := curveThreeUptoRow.holds Try.pinned (OpenSpec.upto curveThreeSpec)

end Rows
end Go.Proofs.Ytgkndcincgpmdaa

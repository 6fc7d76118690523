/-
  NARROWER THAN 'FOR EVERY INPUT', by the rows' own cells (each row's printed sentence says how): ChachaTells: laid · ChachaTwice: laid · ChachaParts: laid · ChachaBlocks: laid · ChachaSums: laid · ChachaLens: laid · AeadSeals: laid · AeadTags: laid · AeadStream: laid · AeadShort: laid · AeadSums: laid.
  DERIVED. THE GIVEN ROWS OF THIS SEAT. 11 by the template 'for every input the law returns true; each argument reads behind the call as it read before'; 0 by the template 'total and deterministic' (their statements: YtnhfmmohdiccgaaDoorTotals.lean).
  GIVEN WITH THE SEED: the statements are not yours to turn. If you find one false, say at which input.
  Laid BY PROGRAM, IN A SANDBOX (cutbox-rows.mjs): the forced cells as the released guide's own fill.sh prints them over the translation 58b006fcf6f7c6b2… (all of the seat's roots in one cut). By AI agents, Wed Nov 11 2026. No macro, syntax, notation, axiom, sorry.
-/
import Derived.Test.YtnhfmmohdiccgaaDoorChecked
import GoSem.Claim
import GoSem.ClaimJoined
import GoSem.ClaimMapViews
import Derived.JoinedTies
import Derived.KernelRfl
namespace Go.Proofs.YtnhfmmohdiccgaaDoor
/- THE CELL 'sum', in the pinned program and in every row, IS THE sha256 OF THE DUMP (.gsa) THAT YtnhfmmohdiccgaaDoorProg.lean LOADS. Nothing in Lean hashes anything: it is a label: what it is worth is what the hold of that sum in a sandbox is worth. -/
noncomputable def Tryd.pinned : Pinned := { name := "ytnhfmmohdiccgaadoor", sum := "58b006fcf6f7c6b2e31ae3003024b7674e68f1e8f225d6a47ff39ab01f62c09d", checked := Tryd.checked }
namespace Rows
def none {H : Type} : Left H := { results := [], args := [] }

/- WHAT THE LISTED PACKAGE-LEVEL VARIABLES READ AS WHEN THE CALL BEGINS. Each datum BY PROGRAM (the guide's laid-datum.mjs) off the statement by which the dump's own 'gosem.cut.vars' lays the variable. In a bare row this is a premise. The card (YtnhfmmohdiccgaaDoorCards.lean) ties it to the program's text. -/
def laid_hatchway_chacha_quarters {H : Type} : DataW H := .agg [.agg [.lit (.int .i64 0), .lit (.int .i64 4), .lit (.int .i64 8), .lit (.int .i64 12)], .agg [.lit (.int .i64 1), .lit (.int .i64 5), .lit (.int .i64 9), .lit (.int .i64 13)], .agg [.lit (.int .i64 2), .lit (.int .i64 6), .lit (.int .i64 10), .lit (.int .i64 14)], .agg [.lit (.int .i64 3), .lit (.int .i64 7), .lit (.int .i64 11), .lit (.int .i64 15)], .agg [.lit (.int .i64 0), .lit (.int .i64 5), .lit (.int .i64 10), .lit (.int .i64 15)], .agg [.lit (.int .i64 1), .lit (.int .i64 6), .lit (.int .i64 11), .lit (.int .i64 12)], .agg [.lit (.int .i64 2), .lit (.int .i64 7), .lit (.int .i64 8), .lit (.int .i64 13)], .agg [.lit (.int .i64 3), .lit (.int .i64 4), .lit (.int .i64 9), .lit (.int .i64 14)]]

/-- 'hatchwaylaw02.ChachaTells': WHATEVER THE INPUT: true; the input reads as it did. -/
def chachaTellsSpec : ChangeSpec := { name := "chachaTells", fn := fun _ => fun
  | [d1, d2, d3, d4] => { results := [.lit (.bool true)], args := [d1, d2, d3, d4] }
  | _ => none }
def chachaTellsRow : OpenClaim := { program := "ytnhfmmohdiccgaadoor", sum := "58b006fcf6f7c6b2e31ae3003024b7674e68f1e8f225d6a47ff39ab01f62c09d", func := "hatchway/hatchwaylaw02.ChachaTells", spec := "chachaTells", named := ["hatchway/chacha.quarters"], apart := false, laid := [("hatchway/chacha.quarters", laid_hatchway_chacha_quarters)] }
def ChachaTellsSaid : Prop := chachaTellsRow.holds Tryd.pinned (OpenSpec.ofChange chachaTellsSpec)

/-- ITS FALSE NEIGHBOUR: 'it returns false'. Refute it at one input. -/
def chachaTellsWrong : ChangeSpec := { name := "chachaTells", fn := fun _ => fun
  | [d1, d2, d3, d4] => { results := [.lit (.bool false)], args := [d1, d2, d3, d4] }
  | _ => none }
def ChachaTellsWrongFalsely : Prop := chachaTellsRow.holds Tryd.pinned (OpenSpec.ofChange chachaTellsWrong)

/-- 'hatchwaylaw02.ChachaTwice': WHATEVER THE INPUT: true; the input reads as it did. -/
def chachaTwiceSpec : ChangeSpec := { name := "chachaTwice", fn := fun _ => fun
  | [d1, d2, d3, d4] => { results := [.lit (.bool true)], args := [d1, d2, d3, d4] }
  | _ => none }
def chachaTwiceRow : OpenClaim := { program := "ytnhfmmohdiccgaadoor", sum := "58b006fcf6f7c6b2e31ae3003024b7674e68f1e8f225d6a47ff39ab01f62c09d", func := "hatchway/hatchwaylaw02.ChachaTwice", spec := "chachaTwice", named := ["hatchway/chacha.quarters"], apart := false, laid := [("hatchway/chacha.quarters", laid_hatchway_chacha_quarters)] }
def ChachaTwiceSaid : Prop := chachaTwiceRow.holds Tryd.pinned (OpenSpec.ofChange chachaTwiceSpec)

/-- ITS FALSE NEIGHBOUR: 'it returns false'. Refute it at one input. -/
def chachaTwiceWrong : ChangeSpec := { name := "chachaTwice", fn := fun _ => fun
  | [d1, d2, d3, d4] => { results := [.lit (.bool false)], args := [d1, d2, d3, d4] }
  | _ => none }
def ChachaTwiceWrongFalsely : Prop := chachaTwiceRow.holds Tryd.pinned (OpenSpec.ofChange chachaTwiceWrong)

/-- 'hatchwaylaw02.ChachaParts': WHATEVER THE INPUT: true; the input reads as it did. -/
def chachaPartsSpec : ChangeSpec := { name := "chachaParts", fn := fun _ => fun
  | [d1, d2, d3, d4, d5] => { results := [.lit (.bool true)], args := [d1, d2, d3, d4, d5] }
  | _ => none }
def chachaPartsRow : OpenClaim := { program := "ytnhfmmohdiccgaadoor", sum := "58b006fcf6f7c6b2e31ae3003024b7674e68f1e8f225d6a47ff39ab01f62c09d", func := "hatchway/hatchwaylaw02.ChachaParts", spec := "chachaParts", named := ["hatchway/chacha.quarters"], apart := false, laid := [("hatchway/chacha.quarters", laid_hatchway_chacha_quarters)] }
def ChachaPartsSaid : Prop := chachaPartsRow.holds Tryd.pinned (OpenSpec.ofChange chachaPartsSpec)

/-- ITS FALSE NEIGHBOUR: 'it returns false'. Refute it at one input. -/
def chachaPartsWrong : ChangeSpec := { name := "chachaParts", fn := fun _ => fun
  | [d1, d2, d3, d4, d5] => { results := [.lit (.bool false)], args := [d1, d2, d3, d4, d5] }
  | _ => none }
def ChachaPartsWrongFalsely : Prop := chachaPartsRow.holds Tryd.pinned (OpenSpec.ofChange chachaPartsWrong)

/-- 'hatchwaylaw02.ChachaBlocks': WHATEVER THE INPUT: true; the input reads as it did. -/
def chachaBlocksSpec : ChangeSpec := { name := "chachaBlocks", fn := fun _ => fun
  | [d1, d2, d3, d4] => { results := [.lit (.bool true)], args := [d1, d2, d3, d4] }
  | _ => none }
def chachaBlocksRow : OpenClaim := { program := "ytnhfmmohdiccgaadoor", sum := "58b006fcf6f7c6b2e31ae3003024b7674e68f1e8f225d6a47ff39ab01f62c09d", func := "hatchway/hatchwaylaw02.ChachaBlocks", spec := "chachaBlocks", named := ["hatchway/chacha.quarters"], apart := false, laid := [("hatchway/chacha.quarters", laid_hatchway_chacha_quarters)] }
def ChachaBlocksSaid : Prop := chachaBlocksRow.holds Tryd.pinned (OpenSpec.ofChange chachaBlocksSpec)

/-- ITS FALSE NEIGHBOUR: 'it returns false'. Refute it at one input. -/
def chachaBlocksWrong : ChangeSpec := { name := "chachaBlocks", fn := fun _ => fun
  | [d1, d2, d3, d4] => { results := [.lit (.bool false)], args := [d1, d2, d3, d4] }
  | _ => none }
def ChachaBlocksWrongFalsely : Prop := chachaBlocksRow.holds Tryd.pinned (OpenSpec.ofChange chachaBlocksWrong)

/-- 'hatchwaylaw02.ChachaSums': WHATEVER THE INPUT: true; the input reads as it did. -/
def chachaSumsSpec : ChangeSpec := { name := "chachaSums", fn := fun _ => fun
  | [d1, d2, d3, d4, d5] => { results := [.lit (.bool true)], args := [d1, d2, d3, d4, d5] }
  | _ => none }
def chachaSumsRow : OpenClaim := { program := "ytnhfmmohdiccgaadoor", sum := "58b006fcf6f7c6b2e31ae3003024b7674e68f1e8f225d6a47ff39ab01f62c09d", func := "hatchway/hatchwaylaw02.ChachaSums", spec := "chachaSums", named := ["hatchway/chacha.quarters"], apart := false, laid := [("hatchway/chacha.quarters", laid_hatchway_chacha_quarters)] }
def ChachaSumsSaid : Prop := chachaSumsRow.holds Tryd.pinned (OpenSpec.ofChange chachaSumsSpec)

/-- ITS FALSE NEIGHBOUR: 'it returns false'. Refute it at one input. -/
def chachaSumsWrong : ChangeSpec := { name := "chachaSums", fn := fun _ => fun
  | [d1, d2, d3, d4, d5] => { results := [.lit (.bool false)], args := [d1, d2, d3, d4, d5] }
  | _ => none }
def ChachaSumsWrongFalsely : Prop := chachaSumsRow.holds Tryd.pinned (OpenSpec.ofChange chachaSumsWrong)

/-- 'hatchwaylaw02.ChachaLens': WHATEVER THE INPUT: true; the input reads as it did. -/
def chachaLensSpec : ChangeSpec := { name := "chachaLens", fn := fun _ => fun
  | [d1, d2, d3, d4, d5] => { results := [.lit (.bool true)], args := [d1, d2, d3, d4, d5] }
  | _ => none }
def chachaLensRow : OpenClaim := { program := "ytnhfmmohdiccgaadoor", sum := "58b006fcf6f7c6b2e31ae3003024b7674e68f1e8f225d6a47ff39ab01f62c09d", func := "hatchway/hatchwaylaw02.ChachaLens", spec := "chachaLens", named := ["hatchway/chacha.quarters"], apart := false, laid := [("hatchway/chacha.quarters", laid_hatchway_chacha_quarters)] }
def ChachaLensSaid : Prop := chachaLensRow.holds Tryd.pinned (OpenSpec.ofChange chachaLensSpec)

/-- ITS FALSE NEIGHBOUR: 'it returns false'. Refute it at one input. -/
def chachaLensWrong : ChangeSpec := { name := "chachaLens", fn := fun _ => fun
  | [d1, d2, d3, d4, d5] => { results := [.lit (.bool false)], args := [d1, d2, d3, d4, d5] }
  | _ => none }
def ChachaLensWrongFalsely : Prop := chachaLensRow.holds Tryd.pinned (OpenSpec.ofChange chachaLensWrong)

/-- 'hatchwaylaw04.AeadSeals': WHATEVER THE INPUT: true; the input reads as it did. -/
def aeadSealsSpec : ChangeSpec := { name := "aeadSeals", fn := fun _ => fun
  | [d1, d2, d3, d4] => { results := [.lit (.bool true)], args := [d1, d2, d3, d4] }
  | _ => none }
def aeadSealsRow : OpenClaim := { program := "ytnhfmmohdiccgaadoor", sum := "58b006fcf6f7c6b2e31ae3003024b7674e68f1e8f225d6a47ff39ab01f62c09d", func := "hatchway/hatchwaylaw04.AeadSeals", spec := "aeadSeals", inPlace := ["math/bits.Add64"], named := ["hatchway/chacha.quarters"], apart := false, laid := [("hatchway/chacha.quarters", laid_hatchway_chacha_quarters)] }
def AeadSealsSaid : Prop := aeadSealsRow.holds Tryd.pinned (OpenSpec.ofChange aeadSealsSpec)

/-- ITS FALSE NEIGHBOUR: 'it returns false'. Refute it at one input. -/
def aeadSealsWrong : ChangeSpec := { name := "aeadSeals", fn := fun _ => fun
  | [d1, d2, d3, d4] => { results := [.lit (.bool false)], args := [d1, d2, d3, d4] }
  | _ => none }
def AeadSealsWrongFalsely : Prop := aeadSealsRow.holds Tryd.pinned (OpenSpec.ofChange aeadSealsWrong)

/-- 'hatchwaylaw04.AeadTags': WHATEVER THE INPUT: true; the input reads as it did. -/
def aeadTagsSpec : ChangeSpec := { name := "aeadTags", fn := fun _ => fun
  | [d1, d2, d3, d4, d5, d6] => { results := [.lit (.bool true)], args := [d1, d2, d3, d4, d5, d6] }
  | _ => none }
def aeadTagsRow : OpenClaim := { program := "ytnhfmmohdiccgaadoor", sum := "58b006fcf6f7c6b2e31ae3003024b7674e68f1e8f225d6a47ff39ab01f62c09d", func := "hatchway/hatchwaylaw04.AeadTags", spec := "aeadTags", inPlace := ["math/bits.Add64"], named := ["hatchway/chacha.quarters"], apart := false, laid := [("hatchway/chacha.quarters", laid_hatchway_chacha_quarters)] }
def AeadTagsSaid : Prop := aeadTagsRow.holds Tryd.pinned (OpenSpec.ofChange aeadTagsSpec)

/-- ITS FALSE NEIGHBOUR: 'it returns false'. Refute it at one input. -/
def aeadTagsWrong : ChangeSpec := { name := "aeadTags", fn := fun _ => fun
  | [d1, d2, d3, d4, d5, d6] => { results := [.lit (.bool false)], args := [d1, d2, d3, d4, d5, d6] }
  | _ => none }
def AeadTagsWrongFalsely : Prop := aeadTagsRow.holds Tryd.pinned (OpenSpec.ofChange aeadTagsWrong)

/-- 'hatchwaylaw04.AeadStream': WHATEVER THE INPUT: true; the input reads as it did. -/
def aeadStreamSpec : ChangeSpec := { name := "aeadStream", fn := fun _ => fun
  | [d1, d2, d3] => { results := [.lit (.bool true)], args := [d1, d2, d3] }
  | _ => none }
def aeadStreamRow : OpenClaim := { program := "ytnhfmmohdiccgaadoor", sum := "58b006fcf6f7c6b2e31ae3003024b7674e68f1e8f225d6a47ff39ab01f62c09d", func := "hatchway/hatchwaylaw04.AeadStream", spec := "aeadStream", inPlace := ["math/bits.Add64"], named := ["hatchway/chacha.quarters"], apart := false, laid := [("hatchway/chacha.quarters", laid_hatchway_chacha_quarters)] }
def AeadStreamSaid : Prop := aeadStreamRow.holds Tryd.pinned (OpenSpec.ofChange aeadStreamSpec)

/-- ITS FALSE NEIGHBOUR: 'it returns false'. Refute it at one input. -/
def aeadStreamWrong : ChangeSpec := { name := "aeadStream", fn := fun _ => fun
  | [d1, d2, d3] => { results := [.lit (.bool false)], args := [d1, d2, d3] }
  | _ => none }
def AeadStreamWrongFalsely : Prop := aeadStreamRow.holds Tryd.pinned (OpenSpec.ofChange aeadStreamWrong)

/-- 'hatchwaylaw04.AeadShort': WHATEVER THE INPUT: true; the input reads as it did. -/
def aeadShortSpec : ChangeSpec := { name := "aeadShort", fn := fun _ => fun
  | [d1, d2, d3, d4] => { results := [.lit (.bool true)], args := [d1, d2, d3, d4] }
  | _ => none }
def aeadShortRow : OpenClaim := { program := "ytnhfmmohdiccgaadoor", sum := "58b006fcf6f7c6b2e31ae3003024b7674e68f1e8f225d6a47ff39ab01f62c09d", func := "hatchway/hatchwaylaw04.AeadShort", spec := "aeadShort", inPlace := ["math/bits.Add64"], named := ["hatchway/chacha.quarters"], apart := false, laid := [("hatchway/chacha.quarters", laid_hatchway_chacha_quarters)] }
def AeadShortSaid : Prop := aeadShortRow.holds Tryd.pinned (OpenSpec.ofChange aeadShortSpec)

/-- ITS FALSE NEIGHBOUR: 'it returns false'. Refute it at one input. -/
def aeadShortWrong : ChangeSpec := { name := "aeadShort", fn := fun _ => fun
  | [d1, d2, d3, d4] => { results := [.lit (.bool false)], args := [d1, d2, d3, d4] }
  | _ => none }
def AeadShortWrongFalsely : Prop := aeadShortRow.holds Tryd.pinned (OpenSpec.ofChange aeadShortWrong)

/-- 'hatchwaylaw04.AeadSums': WHATEVER THE INPUT: true; the input reads as it did. -/
def aeadSumsSpec : ChangeSpec := { name := "aeadSums", fn := fun _ => fun
  | [d1, d2, d3, d4] => { results := [.lit (.bool true)], args := [d1, d2, d3, d4] }
  | _ => none }
def aeadSumsRow : OpenClaim := { program := "ytnhfmmohdiccgaadoor", sum := "58b006fcf6f7c6b2e31ae3003024b7674e68f1e8f225d6a47ff39ab01f62c09d", func := "hatchway/hatchwaylaw04.AeadSums", spec := "aeadSums", inPlace := ["math/bits.Add64"], named := ["hatchway/chacha.quarters"], apart := false, laid := [("hatchway/chacha.quarters", laid_hatchway_chacha_quarters)] }
def AeadSumsSaid : Prop := aeadSumsRow.holds Tryd.pinned (OpenSpec.ofChange aeadSumsSpec)

/-- ITS FALSE NEIGHBOUR: 'it returns false'. Refute it at one input. -/
def aeadSumsWrong : ChangeSpec := { name := "aeadSums", fn := fun _ => fun
  | [d1, d2, d3, d4] => { results := [.lit (.bool false)], args := [d1, d2, d3, d4] }
  | _ => none }
def AeadSumsWrongFalsely : Prop := aeadSumsRow.holds Tryd.pinned (OpenSpec.ofChange aeadSumsWrong)

/- THE SECOND FORM. 'bulk': how many values and letters a reading holds, each counted each time it is reached (what is shared counts as often as it is met; a slice's spare places count too). A statement '..UptoSaid' is the law's where the arguments, and the package variables that the reading takes, are together of bulk at most 1048576: NARROWER than '..Said'. Prove '..Said' where nothing that the law and all that it calls make is longer than what came in: it says more and counts as full. Else prove '..UptoSaid'. A law counts once. -/
mutual
def uptoBulk {H : Type} : DataW H → Nat
  | .lit (.string bytes) => bytes.length + 1
  | .lit _ => 1
  | .nil => 1
  | .ptr d => uptoBulk d + 1
  | .slice elems spare => uptoBulkAll elems + uptoBulkAll spare + 1
  | .agg parts => uptoBulkAll parts + 1
  | .iface _ d => uptoBulk d + 1
  | .map entries => uptoBulkEntries entries + 1
  | .held _ => 1
def uptoBulkAll {H : Type} : List (DataW H) → Nat
  | [] => 0
  | d :: r => uptoBulk d + uptoBulkAll r
def uptoBulkEntries {H : Type} : List (Lit × DataW H) → Nat
  | [] => 0
  | x :: r => uptoBulkEntry x + uptoBulkEntries r
def uptoBulkEntry {H : Type} : Lit × DataW H → Nat
  | (.string bytes, d) => bytes.length + uptoBulk d + 1
  | (_, d) => uptoBulk d + 1
 end
def uptoSmall : (H : Type) → List (DataW H) → Bool := fun _ ds => decide (uptoBulkAll ds ≤ 1048576)
def OpenSpec.upto (s : _root_.Go.ChangeSpec) : _root_.Go.OpenSpec := { _root_.Go.OpenSpec.ofChange s with cond := some uptoSmall }

/-- 'hatchwaylaw02.ChachaTells', WHERE WHAT IT READS IS OF BULK AT MOST 1048576: true; the input reads as it did. -/
def chachaTellsUptoRow : OpenClaim := { program := "ytnhfmmohdiccgaadoor", sum := "58b006fcf6f7c6b2e31ae3003024b7674e68f1e8f225d6a47ff39ab01f62c09d", func := "hatchway/hatchwaylaw02.ChachaTells", spec := "chachaTells", named := ["hatchway/chacha.quarters"], apart := false, laid := [("hatchway/chacha.quarters", laid_hatchway_chacha_quarters)], narrowed := true }
def ChachaTellsUptoSaid : Prop := chachaTellsUptoRow.holds Tryd.pinned (OpenSpec.upto chachaTellsSpec)

/-- 'hatchwaylaw02.ChachaTwice', WHERE WHAT IT READS IS OF BULK AT MOST 1048576: true; the input reads as it did. -/
def chachaTwiceUptoRow : OpenClaim := { program := "ytnhfmmohdiccgaadoor", sum := "58b006fcf6f7c6b2e31ae3003024b7674e68f1e8f225d6a47ff39ab01f62c09d", func := "hatchway/hatchwaylaw02.ChachaTwice", spec := "chachaTwice", named := ["hatchway/chacha.quarters"], apart := false, laid := [("hatchway/chacha.quarters", laid_hatchway_chacha_quarters)], narrowed := true }
def ChachaTwiceUptoSaid : Prop := chachaTwiceUptoRow.holds Tryd.pinned (OpenSpec.upto chachaTwiceSpec)

/-- 'hatchwaylaw02.ChachaParts', WHERE WHAT IT READS IS OF BULK AT MOST 1048576: true; the input reads as it did. -/
def chachaPartsUptoRow : OpenClaim := { program := "ytnhfmmohdiccgaadoor", sum := "58b006fcf6f7c6b2e31ae3003024b7674e68f1e8f225d6a47ff39ab01f62c09d", func := "hatchway/hatchwaylaw02.ChachaParts", spec := "chachaParts", named := ["hatchway/chacha.quarters"], apart := false, laid := [("hatchway/chacha.quarters", laid_hatchway_chacha_quarters)], narrowed := true }
def ChachaPartsUptoSaid : Prop := chachaPartsUptoRow.holds Tryd.pinned (OpenSpec.upto chachaPartsSpec)

/-- 'hatchwaylaw02.ChachaBlocks', WHERE WHAT IT READS IS OF BULK AT MOST 1048576: true; the input reads as it did. -/
def chachaBlocksUptoRow : OpenClaim := { program := "ytnhfmmohdiccgaadoor", sum := "58b006fcf6f7c6b2e31ae3003024b7674e68f1e8f225d6a47ff39ab01f62c09d", func := "hatchway/hatchwaylaw02.ChachaBlocks", spec := "chachaBlocks", named := ["hatchway/chacha.quarters"], apart := false, laid := [("hatchway/chacha.quarters", laid_hatchway_chacha_quarters)], narrowed := true }
def ChachaBlocksUptoSaid : Prop := chachaBlocksUptoRow.holds Tryd.pinned (OpenSpec.upto chachaBlocksSpec)

/-- 'hatchwaylaw02.ChachaSums', WHERE WHAT IT READS IS OF BULK AT MOST 1048576: true; the input reads as it did. -/
def chachaSumsUptoRow : OpenClaim := { program := "ytnhfmmohdiccgaadoor", sum := "58b006fcf6f7c6b2e31ae3003024b7674e68f1e8f225d6a47ff39ab01f62c09d", func := "hatchway/hatchwaylaw02.ChachaSums", spec := "chachaSums", named := ["hatchway/chacha.quarters"], apart := false, laid := [("hatchway/chacha.quarters", laid_hatchway_chacha_quarters)], narrowed := true }
def ChachaSumsUptoSaid : Prop := chachaSumsUptoRow.holds Tryd.pinned (OpenSpec.upto chachaSumsSpec)

/-- 'hatchwaylaw02.ChachaLens', WHERE WHAT IT READS IS OF BULK AT MOST 1048576: true; the input reads as it did. -/
def chachaLensUptoRow : OpenClaim := { program := "ytnhfmmohdiccgaadoor", sum := "58b006fcf6f7c6b2e31ae3003024b7674e68f1e8f225d6a47ff39ab01f62c09d", func := "hatchway/hatchwaylaw02.ChachaLens", spec := "chachaLens", named := ["hatchway/chacha.quarters"], apart := false, laid := [("hatchway/chacha.quarters", laid_hatchway_chacha_quarters)], narrowed := true }
def ChachaLensUptoSaid : Prop := chachaLensUptoRow.holds Tryd.pinned (OpenSpec.upto chachaLensSpec)

/-- 'hatchwaylaw04.AeadSeals', WHERE WHAT IT READS IS OF BULK AT MOST 1048576: true; the input reads as it did. -/
def aeadSealsUptoRow : OpenClaim := { program := "ytnhfmmohdiccgaadoor", sum := "58b006fcf6f7c6b2e31ae3003024b7674e68f1e8f225d6a47ff39ab01f62c09d", func := "hatchway/hatchwaylaw04.AeadSeals", spec := "aeadSeals", inPlace := ["math/bits.Add64"], named := ["hatchway/chacha.quarters"], apart := false, laid := [("hatchway/chacha.quarters", laid_hatchway_chacha_quarters)], narrowed := true }
def AeadSealsUptoSaid : Prop := aeadSealsUptoRow.holds Tryd.pinned (OpenSpec.upto aeadSealsSpec)

/-- 'hatchwaylaw04.AeadTags', WHERE WHAT IT READS IS OF BULK AT MOST 1048576: true; the input reads as it did. -/
def aeadTagsUptoRow : OpenClaim := { program := "ytnhfmmohdiccgaadoor", sum := "58b006fcf6f7c6b2e31ae3003024b7674e68f1e8f225d6a47ff39ab01f62c09d", func := "hatchway/hatchwaylaw04.AeadTags", spec := "aeadTags", inPlace := ["math/bits.Add64"], named := ["hatchway/chacha.quarters"], apart := false, laid := [("hatchway/chacha.quarters", laid_hatchway_chacha_quarters)], narrowed := true }
def AeadTagsUptoSaid : Prop := aeadTagsUptoRow.holds Tryd.pinned (OpenSpec.upto aeadTagsSpec)

/-- 'hatchwaylaw04.AeadStream', WHERE WHAT IT READS IS OF BULK AT MOST 1048576: true; the input reads as it did. -/
def aeadStreamUptoRow : OpenClaim := { program := "ytnhfmmohdiccgaadoor", sum := "58b006fcf6f7c6b2e31ae3003024b7674e68f1e8f225d6a47ff39ab01f62c09d", func := "hatchway/hatchwaylaw04.AeadStream", spec := "aeadStream", inPlace := ["math/bits.Add64"], named := ["hatchway/chacha.quarters"], apart := false, laid := [("hatchway/chacha.quarters", laid_hatchway_chacha_quarters)], narrowed := true }
def AeadStreamUptoSaid : Prop := aeadStreamUptoRow.holds Tryd.pinned (OpenSpec.upto aeadStreamSpec)

/-- 'hatchwaylaw04.AeadShort', WHERE WHAT IT READS IS OF BULK AT MOST 1048576: true; the input reads as it did. -/
def aeadShortUptoRow : OpenClaim := { program := "ytnhfmmohdiccgaadoor", sum := "58b006fcf6f7c6b2e31ae3003024b7674e68f1e8f225d6a47ff39ab01f62c09d", func := "hatchway/hatchwaylaw04.AeadShort", spec := "aeadShort", inPlace := ["math/bits.Add64"], named := ["hatchway/chacha.quarters"], apart := false, laid := [("hatchway/chacha.quarters", laid_hatchway_chacha_quarters)], narrowed := true }
def AeadShortUptoSaid : Prop := aeadShortUptoRow.holds Tryd.pinned (OpenSpec.upto aeadShortSpec)

/-- 'hatchwaylaw04.AeadSums', WHERE WHAT IT READS IS OF BULK AT MOST 1048576: true; the input reads as it did. -/
def aeadSumsUptoRow : OpenClaim := { program := "ytnhfmmohdiccgaadoor", sum := "58b006fcf6f7c6b2e31ae3003024b7674e68f1e8f225d6a47ff39ab01f62c09d", func := "hatchway/hatchwaylaw04.AeadSums", spec := "aeadSums", inPlace := ["math/bits.Add64"], named := ["hatchway/chacha.quarters"], apart := false, laid := [("hatchway/chacha.quarters", laid_hatchway_chacha_quarters)], narrowed := true }
def AeadSumsUptoSaid : Prop := aeadSumsUptoRow.holds Tryd.pinned (OpenSpec.upto aeadSumsSpec)

end Rows
end Go.Proofs.YtnhfmmohdiccgaaDoor

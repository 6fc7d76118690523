/-
  No cell of these rows narrows 'for every input' (looked for: loops, veiled, ifaces, maps, wideKeys, modest, calm, conditions, laid).
  DERIVED. THE GIVEN ROWS OF THIS SEAT. 15 by the template 'for every input the law returns true; each argument reads behind the call as it read before'; 0 by the template 'total and deterministic' (their statements: YtnhfmmohdiccgaaTotals.lean).
  GIVEN WITH THE SEED: the statements are not yours to turn. If you find one false, say at which input.
  Laid BY PROGRAM, IN A SANDBOX (cutbox-rows.mjs): the forced cells as the released guide's own fill.sh prints them over the translation d05bd8bb0bf85604… (all of the seat's roots in one cut). By AI agents, Wed Nov 11 2026. No macro, syntax, notation, axiom, sorry.
-/
import Derived.Test.YtnhfmmohdiccgaaChecked
import GoSem.Claim
import GoSem.ClaimJoined
import GoSem.ClaimMapViews
import Derived.JoinedTies
import Derived.KernelRfl
namespace Go.Proofs.Ytnhfmmohdiccgaa
/- THE CELL 'sum', in the pinned program and in every row, IS THE sha256 OF THE DUMP (.gsa) THAT YtnhfmmohdiccgaaProg.lean LOADS. Nothing in Lean hashes anything: it is a label: what it is worth is what the hold of that sum in a sandbox is worth. -/
noncomputable def Try.pinned : Pinned := { name := "ytnhfmmohdiccgaa", sum := "d05bd8bb0bf85604440cb31813fbdea650b59e92cf33bdbfe2deb599527c2636", checked := Try.checked }
namespace Rows
def none {H : Type} : Left H := { results := [], args := [] }

/-- 'hatchwaylaw01.WordsPuts': WHATEVER THE INPUT: true; the input reads as it did. -/
def wordsPutsSpec : ChangeSpec := { name := "wordsPuts", fn := fun _ => fun
  | [d1, d2, d3, d4, d5] => { results := [.lit (.bool true)], args := [d1, d2, d3, d4, d5] }
  | _ => none }
def wordsPutsRow : OpenClaim := { program := "ytnhfmmohdiccgaa", sum := "d05bd8bb0bf85604440cb31813fbdea650b59e92cf33bdbfe2deb599527c2636", func := "hatchway/hatchwaylaw01.WordsPuts", spec := "wordsPuts", apart := false }
def WordsPutsSaid : Prop := wordsPutsRow.holds Try.pinned (OpenSpec.ofChange wordsPutsSpec)

/-- ITS FALSE NEIGHBOUR: 'it returns false'. Refute it at one input. -/
def wordsPutsWrong : ChangeSpec := { name := "wordsPuts", fn := fun _ => fun
  | [d1, d2, d3, d4, d5] => { results := [.lit (.bool false)], args := [d1, d2, d3, d4, d5] }
  | _ => none }
def WordsPutsWrongFalsely : Prop := wordsPutsRow.holds Try.pinned (OpenSpec.ofChange wordsPutsWrong)

/-- 'hatchwaylaw01.WordsCrc': WHATEVER THE INPUT: true; the input reads as it did. -/
def wordsCrcSpec : ChangeSpec := { name := "wordsCrc", fn := fun _ => fun
  | [d] => { results := [.lit (.bool true)], args := [d] }
  | _ => none }
def wordsCrcRow : OpenClaim := { program := "ytnhfmmohdiccgaa", sum := "d05bd8bb0bf85604440cb31813fbdea650b59e92cf33bdbfe2deb599527c2636", func := "hatchway/hatchwaylaw01.WordsCrc", spec := "wordsCrc", apart := false }
def WordsCrcSaid : Prop := wordsCrcRow.holds Try.pinned (OpenSpec.ofChange wordsCrcSpec)

/-- ITS FALSE NEIGHBOUR: 'it returns false'. Refute it at one input. -/
def wordsCrcWrong : ChangeSpec := { name := "wordsCrc", fn := fun _ => fun
  | [d] => { results := [.lit (.bool false)], args := [d] }
  | _ => none }
def WordsCrcWrongFalsely : Prop := wordsCrcRow.holds Try.pinned (OpenSpec.ofChange wordsCrcWrong)

/-- 'hatchwaylaw01.WordsBack': WHATEVER THE INPUT: true; the input reads as it did. -/
def wordsBackSpec : ChangeSpec := { name := "wordsBack", fn := fun _ => fun
  | [d1, d2, d3] => { results := [.lit (.bool true)], args := [d1, d2, d3] }
  | _ => none }
def wordsBackRow : OpenClaim := { program := "ytnhfmmohdiccgaa", sum := "d05bd8bb0bf85604440cb31813fbdea650b59e92cf33bdbfe2deb599527c2636", func := "hatchway/hatchwaylaw01.WordsBack", spec := "wordsBack", apart := false }
def WordsBackSaid : Prop := wordsBackRow.holds Try.pinned (OpenSpec.ofChange wordsBackSpec)

/-- ITS FALSE NEIGHBOUR: 'it returns false'. Refute it at one input. -/
def wordsBackWrong : ChangeSpec := { name := "wordsBack", fn := fun _ => fun
  | [d1, d2, d3] => { results := [.lit (.bool false)], args := [d1, d2, d3] }
  | _ => none }
def WordsBackWrongFalsely : Prop := wordsBackRow.holds Try.pinned (OpenSpec.ofChange wordsBackWrong)

/-- 'hatchwaylaw01.WordsTurns': WHATEVER THE INPUT: true; the input reads as it did. -/
def wordsTurnsSpec : ChangeSpec := { name := "wordsTurns", fn := fun _ => fun
  | [d1, d2, d3] => { results := [.lit (.bool true)], args := [d1, d2, d3] }
  | _ => none }
def wordsTurnsRow : OpenClaim := { program := "ytnhfmmohdiccgaa", sum := "d05bd8bb0bf85604440cb31813fbdea650b59e92cf33bdbfe2deb599527c2636", func := "hatchway/hatchwaylaw01.WordsTurns", spec := "wordsTurns", apart := false }
def WordsTurnsSaid : Prop := wordsTurnsRow.holds Try.pinned (OpenSpec.ofChange wordsTurnsSpec)

/-- ITS FALSE NEIGHBOUR: 'it returns false'. Refute it at one input. -/
def wordsTurnsWrong : ChangeSpec := { name := "wordsTurns", fn := fun _ => fun
  | [d1, d2, d3] => { results := [.lit (.bool false)], args := [d1, d2, d3] }
  | _ => none }
def WordsTurnsWrongFalsely : Prop := wordsTurnsRow.holds Try.pinned (OpenSpec.ofChange wordsTurnsWrong)

/-- 'hatchwaylaw01.WordsSizes': WHATEVER THE INPUT: true; the input reads as it did. -/
def wordsSizesSpec : ChangeSpec := { name := "wordsSizes", fn := fun _ => fun
  | [d1, d2, d3] => { results := [.lit (.bool true)], args := [d1, d2, d3] }
  | _ => none }
def wordsSizesRow : OpenClaim := { program := "ytnhfmmohdiccgaa", sum := "d05bd8bb0bf85604440cb31813fbdea650b59e92cf33bdbfe2deb599527c2636", func := "hatchway/hatchwaylaw01.WordsSizes", spec := "wordsSizes", apart := false }
def WordsSizesSaid : Prop := wordsSizesRow.holds Try.pinned (OpenSpec.ofChange wordsSizesSpec)

/-- ITS FALSE NEIGHBOUR: 'it returns false'. Refute it at one input. -/
def wordsSizesWrong : ChangeSpec := { name := "wordsSizes", fn := fun _ => fun
  | [d1, d2, d3] => { results := [.lit (.bool false)], args := [d1, d2, d3] }
  | _ => none }
def WordsSizesWrongFalsely : Prop := wordsSizesRow.holds Try.pinned (OpenSpec.ofChange wordsSizesWrong)

/-- 'hatchwaylaw01.WordsRuns': WHATEVER THE INPUT: true; the input reads as it did. -/
def wordsRunsSpec : ChangeSpec := { name := "wordsRuns", fn := fun _ => fun
  | [d] => { results := [.lit (.bool true)], args := [d] }
  | _ => none }
def wordsRunsRow : OpenClaim := { program := "ytnhfmmohdiccgaa", sum := "d05bd8bb0bf85604440cb31813fbdea650b59e92cf33bdbfe2deb599527c2636", func := "hatchway/hatchwaylaw01.WordsRuns", spec := "wordsRuns", apart := false }
def WordsRunsSaid : Prop := wordsRunsRow.holds Try.pinned (OpenSpec.ofChange wordsRunsSpec)

/-- ITS FALSE NEIGHBOUR: 'it returns false'. Refute it at one input. -/
def wordsRunsWrong : ChangeSpec := { name := "wordsRuns", fn := fun _ => fun
  | [d] => { results := [.lit (.bool false)], args := [d] }
  | _ => none }
def WordsRunsWrongFalsely : Prop := wordsRunsRow.holds Try.pinned (OpenSpec.ofChange wordsRunsWrong)

/-- 'hatchwaylaw01.WordsBits': WHATEVER THE INPUT: true; the input reads as it did. -/
def wordsBitsSpec : ChangeSpec := { name := "wordsBits", fn := fun _ => fun
  | [d1, d2, d3, d4] => { results := [.lit (.bool true)], args := [d1, d2, d3, d4] }
  | _ => none }
def wordsBitsRow : OpenClaim := { program := "ytnhfmmohdiccgaa", sum := "d05bd8bb0bf85604440cb31813fbdea650b59e92cf33bdbfe2deb599527c2636", func := "hatchway/hatchwaylaw01.WordsBits", spec := "wordsBits", apart := false }
def WordsBitsSaid : Prop := wordsBitsRow.holds Try.pinned (OpenSpec.ofChange wordsBitsSpec)

/-- ITS FALSE NEIGHBOUR: 'it returns false'. Refute it at one input. -/
def wordsBitsWrong : ChangeSpec := { name := "wordsBits", fn := fun _ => fun
  | [d1, d2, d3, d4] => { results := [.lit (.bool false)], args := [d1, d2, d3, d4] }
  | _ => none }
def WordsBitsWrongFalsely : Prop := wordsBitsRow.holds Try.pinned (OpenSpec.ofChange wordsBitsWrong)

/-- 'hatchwaylaw01.WordsDiffer': WHATEVER THE INPUT: true; the input reads as it did. -/
def wordsDifferSpec : ChangeSpec := { name := "wordsDiffer", fn := fun _ => fun
  | [d1, d2] => { results := [.lit (.bool true)], args := [d1, d2] }
  | _ => none }
def wordsDifferRow : OpenClaim := { program := "ytnhfmmohdiccgaa", sum := "d05bd8bb0bf85604440cb31813fbdea650b59e92cf33bdbfe2deb599527c2636", func := "hatchway/hatchwaylaw01.WordsDiffer", spec := "wordsDiffer", apart := false }
def WordsDifferSaid : Prop := wordsDifferRow.holds Try.pinned (OpenSpec.ofChange wordsDifferSpec)

/-- ITS FALSE NEIGHBOUR: 'it returns false'. Refute it at one input. -/
def wordsDifferWrong : ChangeSpec := { name := "wordsDiffer", fn := fun _ => fun
  | [d1, d2] => { results := [.lit (.bool false)], args := [d1, d2] }
  | _ => none }
def WordsDifferWrongFalsely : Prop := wordsDifferRow.holds Try.pinned (OpenSpec.ofChange wordsDifferWrong)

/-- 'hatchwaylaw01.WordsQueue': WHATEVER THE INPUT: true; the input reads as it did. -/
def wordsQueueSpec : ChangeSpec := { name := "wordsQueue", fn := fun _ => fun
  | [d1, d2] => { results := [.lit (.bool true)], args := [d1, d2] }
  | _ => none }
def wordsQueueRow : OpenClaim := { program := "ytnhfmmohdiccgaa", sum := "d05bd8bb0bf85604440cb31813fbdea650b59e92cf33bdbfe2deb599527c2636", func := "hatchway/hatchwaylaw01.WordsQueue", spec := "wordsQueue", unfollowed := true, recurses := true, apart := false }
def WordsQueueSaid : Prop := wordsQueueRow.holds Try.pinned (OpenSpec.ofChange wordsQueueSpec)

/-- ITS FALSE NEIGHBOUR: 'it returns false'. Refute it at one input. -/
def wordsQueueWrong : ChangeSpec := { name := "wordsQueue", fn := fun _ => fun
  | [d1, d2] => { results := [.lit (.bool false)], args := [d1, d2] }
  | _ => none }
def WordsQueueWrongFalsely : Prop := wordsQueueRow.holds Try.pinned (OpenSpec.ofChange wordsQueueWrong)

/-- 'hatchwaylaw03.PolyTells': WHATEVER THE INPUT: true; the input reads as it did. -/
def polyTellsSpec : ChangeSpec := { name := "polyTells", fn := fun _ => fun
  | [d1, d2] => { results := [.lit (.bool true)], args := [d1, d2] }
  | _ => none }
def polyTellsRow : OpenClaim := { program := "ytnhfmmohdiccgaa", sum := "d05bd8bb0bf85604440cb31813fbdea650b59e92cf33bdbfe2deb599527c2636", func := "hatchway/hatchwaylaw03.PolyTells", spec := "polyTells", inPlace := ["math/bits.Add64"], apart := false }
def PolyTellsSaid : Prop := polyTellsRow.holds Try.pinned (OpenSpec.ofChange polyTellsSpec)

/-- ITS FALSE NEIGHBOUR: 'it returns false'. Refute it at one input. -/
def polyTellsWrong : ChangeSpec := { name := "polyTells", fn := fun _ => fun
  | [d1, d2] => { results := [.lit (.bool false)], args := [d1, d2] }
  | _ => none }
def PolyTellsWrongFalsely : Prop := polyTellsRow.holds Try.pinned (OpenSpec.ofChange polyTellsWrong)

/-- 'hatchwaylaw03.PolyClamps': WHATEVER THE INPUT: true; the input reads as it did. -/
def polyClampsSpec : ChangeSpec := { name := "polyClamps", fn := fun _ => fun
  | [d1, d2, d3] => { results := [.lit (.bool true)], args := [d1, d2, d3] }
  | _ => none }
def polyClampsRow : OpenClaim := { program := "ytnhfmmohdiccgaa", sum := "d05bd8bb0bf85604440cb31813fbdea650b59e92cf33bdbfe2deb599527c2636", func := "hatchway/hatchwaylaw03.PolyClamps", spec := "polyClamps", inPlace := ["math/bits.Add64"], apart := false }
def PolyClampsSaid : Prop := polyClampsRow.holds Try.pinned (OpenSpec.ofChange polyClampsSpec)

/-- ITS FALSE NEIGHBOUR: 'it returns false'. Refute it at one input. -/
def polyClampsWrong : ChangeSpec := { name := "polyClamps", fn := fun _ => fun
  | [d1, d2, d3] => { results := [.lit (.bool false)], args := [d1, d2, d3] }
  | _ => none }
def PolyClampsWrongFalsely : Prop := polyClampsRow.holds Try.pinned (OpenSpec.ofChange polyClampsWrong)

/-- 'hatchwaylaw03.PolyAdds': WHATEVER THE INPUT: true; the input reads as it did. -/
def polyAddsSpec : ChangeSpec := { name := "polyAdds", fn := fun _ => fun
  | [d1, d2] => { results := [.lit (.bool true)], args := [d1, d2] }
  | _ => none }
def polyAddsRow : OpenClaim := { program := "ytnhfmmohdiccgaa", sum := "d05bd8bb0bf85604440cb31813fbdea650b59e92cf33bdbfe2deb599527c2636", func := "hatchway/hatchwaylaw03.PolyAdds", spec := "polyAdds", inPlace := ["math/bits.Add64"], apart := false }
def PolyAddsSaid : Prop := polyAddsRow.holds Try.pinned (OpenSpec.ofChange polyAddsSpec)

/-- ITS FALSE NEIGHBOUR: 'it returns false'. Refute it at one input. -/
def polyAddsWrong : ChangeSpec := { name := "polyAdds", fn := fun _ => fun
  | [d1, d2] => { results := [.lit (.bool false)], args := [d1, d2] }
  | _ => none }
def PolyAddsWrongFalsely : Prop := polyAddsRow.holds Try.pinned (OpenSpec.ofChange polyAddsWrong)

/-- 'hatchwaylaw03.PolyNone': WHATEVER THE INPUT: true; the input reads as it did. -/
def polyNoneSpec : ChangeSpec := { name := "polyNone", fn := fun _ => fun
  | [d1, d2, d3] => { results := [.lit (.bool true)], args := [d1, d2, d3] }
  | _ => none }
def polyNoneRow : OpenClaim := { program := "ytnhfmmohdiccgaa", sum := "d05bd8bb0bf85604440cb31813fbdea650b59e92cf33bdbfe2deb599527c2636", func := "hatchway/hatchwaylaw03.PolyNone", spec := "polyNone", inPlace := ["math/bits.Add64"], apart := false }
def PolyNoneSaid : Prop := polyNoneRow.holds Try.pinned (OpenSpec.ofChange polyNoneSpec)

/-- ITS FALSE NEIGHBOUR: 'it returns false'. Refute it at one input. -/
def polyNoneWrong : ChangeSpec := { name := "polyNone", fn := fun _ => fun
  | [d1, d2, d3] => { results := [.lit (.bool false)], args := [d1, d2, d3] }
  | _ => none }
def PolyNoneWrongFalsely : Prop := polyNoneRow.holds Try.pinned (OpenSpec.ofChange polyNoneWrong)

/-- 'hatchwaylaw03.PolyOne': WHATEVER THE INPUT: true; the input reads as it did. -/
def polyOneSpec : ChangeSpec := { name := "polyOne", fn := fun _ => fun
  | [d1, d2, d3] => { results := [.lit (.bool true)], args := [d1, d2, d3] }
  | _ => none }
def polyOneRow : OpenClaim := { program := "ytnhfmmohdiccgaa", sum := "d05bd8bb0bf85604440cb31813fbdea650b59e92cf33bdbfe2deb599527c2636", func := "hatchway/hatchwaylaw03.PolyOne", spec := "polyOne", inPlace := ["math/bits.Add64"], apart := false }
def PolyOneSaid : Prop := polyOneRow.holds Try.pinned (OpenSpec.ofChange polyOneSpec)

/-- ITS FALSE NEIGHBOUR: 'it returns false'. Refute it at one input. -/
def polyOneWrong : ChangeSpec := { name := "polyOne", fn := fun _ => fun
  | [d1, d2, d3] => { results := [.lit (.bool false)], args := [d1, d2, d3] }
  | _ => none }
def PolyOneWrongFalsely : Prop := polyOneRow.holds Try.pinned (OpenSpec.ofChange polyOneWrong)

/-- 'hatchwaylaw03.PolyDoubles': WHATEVER THE INPUT: true; the input reads as it did. -/
def polyDoublesSpec : ChangeSpec := { name := "polyDoubles", fn := fun _ => fun
  | [d] => { results := [.lit (.bool true)], args := [d] }
  | _ => none }
def polyDoublesRow : OpenClaim := { program := "ytnhfmmohdiccgaa", sum := "d05bd8bb0bf85604440cb31813fbdea650b59e92cf33bdbfe2deb599527c2636", func := "hatchway/hatchwaylaw03.PolyDoubles", spec := "polyDoubles", inPlace := ["math/bits.Add64"], apart := false }
def PolyDoublesSaid : Prop := polyDoublesRow.holds Try.pinned (OpenSpec.ofChange polyDoublesSpec)

/-- ITS FALSE NEIGHBOUR: 'it returns false'. Refute it at one input. -/
def polyDoublesWrong : ChangeSpec := { name := "polyDoubles", fn := fun _ => fun
  | [d] => { results := [.lit (.bool false)], args := [d] }
  | _ => none }
def PolyDoublesWrongFalsely : Prop := polyDoublesRow.holds Try.pinned (OpenSpec.ofChange polyDoublesWrong)

/- THE SECOND FORM. 'bulk': how many values and letters a reading holds, each counted each time it is reached (what is shared counts as often as it is met; a slice's spare places count too). A statement '..UptoSaid' is the law's where the arguments, and the package variables that the reading takes, are together of bulk at most 1048576: NARROWER than '..Said'. Prove '..Said' where nothing that the law and all that it calls make is longer than what came in: it says more and counts as full. Else prove '..UptoSaid'. A law counts once. -/
mutual
def uptoBulk {H : Type} : DataW H → Nat
  | .lit (.string bytes) => bytes.length + 1
  | .lit _ => 1
  | .nil => 1
  | .ptr d => uptoBulk d + 1
  | .slice elems spare => uptoBulkAll elems + uptoBulkAll spare + 1
  | .agg parts => uptoBulkAll parts + 1
  | .iface _ d => uptoBulk d + 1
  | .map entries => uptoBulkEntries entries + 1
  | .held _ => 1
def uptoBulkAll {H : Type} : List (DataW H) → Nat
  | [] => 0
  | d :: r => uptoBulk d + uptoBulkAll r
def uptoBulkEntries {H : Type} : List (Lit × DataW H) → Nat
  | [] => 0
  | x :: r => uptoBulkEntry x + uptoBulkEntries r
def uptoBulkEntry {H : Type} : Lit × DataW H → Nat
  | (.string bytes, d) => bytes.length + uptoBulk d + 1
  | (_, d) => uptoBulk d + 1
 end
def uptoSmall : (H : Type) → List (DataW H) → Bool := fun _ ds => decide (uptoBulkAll ds ≤ 1048576)
def OpenSpec.upto (s : _root_.Go.ChangeSpec) : _root_.Go.OpenSpec := { _root_.Go.OpenSpec.ofChange s with cond := some uptoSmall }

/-- 'hatchwaylaw01.WordsPuts', WHERE WHAT IT READS IS OF BULK AT MOST 1048576: true; the input reads as it did. -/
def wordsPutsUptoRow : OpenClaim := { program := "ytnhfmmohdiccgaa", sum := "d05bd8bb0bf85604440cb31813fbdea650b59e92cf33bdbfe2deb599527c2636", func := "hatchway/hatchwaylaw01.WordsPuts", spec := "wordsPuts", apart := false, narrowed := true }
def WordsPutsUptoSaid : Prop := wordsPutsUptoRow.holds Try.pinned (OpenSpec.upto wordsPutsSpec)

/-- 'hatchwaylaw01.WordsCrc', WHERE WHAT IT READS IS OF BULK AT MOST 1048576: true; the input reads as it did. -/
def wordsCrcUptoRow : OpenClaim := { program := "ytnhfmmohdiccgaa", sum := "d05bd8bb0bf85604440cb31813fbdea650b59e92cf33bdbfe2deb599527c2636", func := "hatchway/hatchwaylaw01.WordsCrc", spec := "wordsCrc", apart := false, narrowed := true }
def WordsCrcUptoSaid : Prop := wordsCrcUptoRow.holds Try.pinned (OpenSpec.upto wordsCrcSpec)

/-- 'hatchwaylaw01.WordsBack', WHERE WHAT IT READS IS OF BULK AT MOST 1048576: true; the input reads as it did. -/
def wordsBackUptoRow : OpenClaim := { program := "ytnhfmmohdiccgaa", sum := "d05bd8bb0bf85604440cb31813fbdea650b59e92cf33bdbfe2deb599527c2636", func := "hatchway/hatchwaylaw01.WordsBack", spec := "wordsBack", apart := false, narrowed := true }
def WordsBackUptoSaid : Prop := wordsBackUptoRow.holds Try.pinned (OpenSpec.upto wordsBackSpec)

/-- 'hatchwaylaw01.WordsTurns', WHERE WHAT IT READS IS OF BULK AT MOST 1048576: true; the input reads as it did. -/
def wordsTurnsUptoRow : OpenClaim := { program := "ytnhfmmohdiccgaa", sum := "d05bd8bb0bf85604440cb31813fbdea650b59e92cf33bdbfe2deb599527c2636", func := "hatchway/hatchwaylaw01.WordsTurns", spec := "wordsTurns", apart := false, narrowed := true }
def WordsTurnsUptoSaid : Prop := wordsTurnsUptoRow.holds Try.pinned (OpenSpec.upto wordsTurnsSpec)

/-- 'hatchwaylaw01.WordsSizes', WHERE WHAT IT READS IS OF BULK AT MOST 1048576: true; the input reads as it did. -/
def wordsSizesUptoRow : OpenClaim := { program := "ytnhfmmohdiccgaa", sum := "d05bd8bb0bf85604440cb31813fbdea650b59e92cf33bdbfe2deb599527c2636", func := "hatchway/hatchwaylaw01.WordsSizes", spec := "wordsSizes", apart := false, narrowed := true }
def WordsSizesUptoSaid : Prop := wordsSizesUptoRow.holds Try.pinned (OpenSpec.upto wordsSizesSpec)

/-- 'hatchwaylaw01.WordsRuns', WHERE WHAT IT READS IS OF BULK AT MOST 1048576: true; the input reads as it did. -/
def wordsRunsUptoRow : OpenClaim := { program := "ytnhfmmohdiccgaa", sum := "d05bd8bb0bf85604440cb31813fbdea650b59e92cf33bdbfe2deb599527c2636", func := "hatchway/hatchwaylaw01.WordsRuns", spec := "wordsRuns", apart := false, narrowed := true }
def WordsRunsUptoSaid : Prop := wordsRunsUptoRow.holds Try.pinned (OpenSpec.upto wordsRunsSpec)

/-- 'hatchwaylaw01.WordsBits', WHERE WHAT IT READS IS OF BULK AT MOST 1048576: true; the input reads as it did. -/
def wordsBitsUptoRow : OpenClaim := { program := "ytnhfmmohdiccgaa", sum := "d05bd8bb0bf85604440cb31813fbdea650b59e92cf33bdbfe2deb599527c2636", func := "hatchway/hatchwaylaw01.WordsBits", spec := "wordsBits", apart := false, narrowed := true }
def WordsBitsUptoSaid : Prop := wordsBitsUptoRow.holds Try.pinned (OpenSpec.upto wordsBitsSpec)

/-- 'hatchwaylaw01.WordsDiffer', WHERE WHAT IT READS IS OF BULK AT MOST 1048576: true; the input reads as it did. -/
def wordsDifferUptoRow : OpenClaim := { program := "ytnhfmmohdiccgaa", sum := "d05bd8bb0bf85604440cb31813fbdea650b59e92cf33bdbfe2deb599527c2636", func := "hatchway/hatchwaylaw01.WordsDiffer", spec := "wordsDiffer", apart := false, narrowed := true }
def WordsDifferUptoSaid : Prop := wordsDifferUptoRow.holds Try.pinned (OpenSpec.upto wordsDifferSpec)

/-- 'hatchwaylaw01.WordsQueue', WHERE WHAT IT READS IS OF BULK AT MOST 1048576: true; the input reads as it did. -/
def wordsQueueUptoRow : OpenClaim := { program := "ytnhfmmohdiccgaa", sum := "d05bd8bb0bf85604440cb31813fbdea650b59e92cf33bdbfe2deb599527c2636", func := "hatchway/hatchwaylaw01.WordsQueue", spec := "wordsQueue", unfollowed := true, recurses := true, apart := false, narrowed := true }
def WordsQueueUptoSaid : Prop := wordsQueueUptoRow.holds Try.pinned (OpenSpec.upto wordsQueueSpec)

/-- 'hatchwaylaw03.PolyTells', WHERE WHAT IT READS IS OF BULK AT MOST 1048576: true; the input reads as it did. -/
def polyTellsUptoRow : OpenClaim := { program := "ytnhfmmohdiccgaa", sum := "d05bd8bb0bf85604440cb31813fbdea650b59e92cf33bdbfe2deb599527c2636", func := "hatchway/hatchwaylaw03.PolyTells", spec := "polyTells", inPlace := ["math/bits.Add64"], apart := false, narrowed := true }
def PolyTellsUptoSaid : Prop := polyTellsUptoRow.holds Try.pinned (OpenSpec.upto polyTellsSpec)

/-- 'hatchwaylaw03.PolyClamps', WHERE WHAT IT READS IS OF BULK AT MOST 1048576: true; the input reads as it did. -/
def polyClampsUptoRow : OpenClaim := { program := "ytnhfmmohdiccgaa", sum := "d05bd8bb0bf85604440cb31813fbdea650b59e92cf33bdbfe2deb599527c2636", func := "hatchway/hatchwaylaw03.PolyClamps", spec := "polyClamps", inPlace := ["math/bits.Add64"], apart := false, narrowed := true }
def PolyClampsUptoSaid : Prop := polyClampsUptoRow.holds Try.pinned (OpenSpec.upto polyClampsSpec)

/-- 'hatchwaylaw03.PolyAdds', WHERE WHAT IT READS IS OF BULK AT MOST 1048576: true; the input reads as it did. -/
def polyAddsUptoRow : OpenClaim := { program := "ytnhfmmohdiccgaa", sum := "d05bd8bb0bf85604440cb31813fbdea650b59e92cf33bdbfe2deb599527c2636", func := "hatchway/hatchwaylaw03.PolyAdds", spec := "polyAdds", inPlace := ["math/bits.Add64"], apart := false, narrowed := true }
def PolyAddsUptoSaid : Prop := polyAddsUptoRow.holds Try.pinned (OpenSpec.upto polyAddsSpec)

/-- 'hatchwaylaw03.PolyNone', WHERE WHAT IT READS IS OF BULK AT MOST 1048576: true; the input reads as it did. -/
def polyNoneUptoRow : OpenClaim := { program := "ytnhfmmohdiccgaa", sum := "d05bd8bb0bf85604440cb31813fbdea650b59e92cf33bdbfe2deb599527c2636", func := "hatchway/hatchwaylaw03.PolyNone", spec := "polyNone", inPlace := ["math/bits.Add64"], apart := false, narrowed := true }
def PolyNoneUptoSaid : Prop := polyNoneUptoRow.holds Try.pinned (OpenSpec.upto polyNoneSpec)

/-- 'hatchwaylaw03.PolyOne', WHERE WHAT IT READS IS OF BULK AT MOST 1048576: true; the input reads as it did. -/
def polyOneUptoRow : OpenClaim := { program := "ytnhfmmohdiccgaa", sum := "d05bd8bb0bf85604440cb31813fbdea650b59e92cf33bdbfe2deb599527c2636", func := "hatchway/hatchwaylaw03.PolyOne", spec := "polyOne", inPlace := ["math/bits.Add64"], apart := false, narrowed := true }
def PolyOneUptoSaid : Prop := polyOneUptoRow.holds Try.pinned (OpenSpec.upto polyOneSpec)

/-- 'hatchwaylaw03.PolyDoubles', WHERE WHAT IT READS IS OF BULK AT MOST 1048576: true; the input reads as it did. -/
def polyDoublesUptoRow : OpenClaim := { program := "ytnhfmmohdiccgaa", sum := "d05bd8bb0bf85604440cb31813fbdea650b59e92cf33bdbfe2deb599527c2636", func := "hatchway/hatchwaylaw03.PolyDoubles", spec := "polyDoubles", inPlace := ["math/bits.Add64"], apart := false, narrowed := true }
def PolyDoublesUptoSaid : Prop := polyDoublesUptoRow.holds Try.pinned (OpenSpec.upto polyDoublesSpec)

end Rows
end Go.Proofs.Ytnhfmmohdiccgaa

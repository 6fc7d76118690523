/-
  DERIVED. GIVEN WITH THE SEED: THE CARDS: each row of YtnhfmmohdiccgaaDoorRows.lean that lists a variable, with what it lists TIED to the program's text (the seventh form; the later family's looks); each row that meets fmt, with fmt's text TOLD by the authors' own Lean function (tested against real Go, not proved from fmt's source: count such statements apart). THE CARD IS WHAT COUNTS. Prove the row's statement (the work); the ties are given (YtnhfmmohdiccgaaDoorTie.lean); close each card by the builder's one call (the guide's Derived/Test/ToyasCard.lean, 'card_holds'). Laid BY PROGRAM, IN A SANDBOX (cutbox-door.mjs). By AI agents, Wed Nov 11 2026. No macro, syntax, notation, axiom, sorry.
-/
import Derived.Test.YtnhfmmohdiccgaaDoorRows
import GoSem.ClaimSeven
namespace Go.Proofs.YtnhfmmohdiccgaaDoor
namespace Rows

/-- THE TIED CARD OF 'hatchwaylaw02.ChachaTells'. -/
def chachaTellsCard : Claim7 := { stood := { row := chachaTellsRow, standIns := [], harness := (true, "3370d27d9255588c3956976426ca7d2b61d4b9f8ebcd526ac9795ba27740e44b"), looks := false }, kinds := [], alts := [], laidByText := true, laidKinds := [.data], laidTests := true, laidLooks := .later }
def ChachaTellsCardSaid : Prop := Claim7.holds Tryd.pinned (.plain (OpenSpec.ofChange chachaTellsSpec)) chachaTellsCard

/-- THE TIED CARD OF 'hatchwaylaw02.ChachaTwice'. -/
def chachaTwiceCard : Claim7 := { stood := { row := chachaTwiceRow, standIns := [], harness := (true, "3370d27d9255588c3956976426ca7d2b61d4b9f8ebcd526ac9795ba27740e44b"), looks := false }, kinds := [], alts := [], laidByText := true, laidKinds := [.data], laidTests := true, laidLooks := .later }
def ChachaTwiceCardSaid : Prop := Claim7.holds Tryd.pinned (.plain (OpenSpec.ofChange chachaTwiceSpec)) chachaTwiceCard

/-- THE TIED CARD OF 'hatchwaylaw02.ChachaParts'. -/
def chachaPartsCard : Claim7 := { stood := { row := chachaPartsRow, standIns := [], harness := (true, "3370d27d9255588c3956976426ca7d2b61d4b9f8ebcd526ac9795ba27740e44b"), looks := false }, kinds := [], alts := [], laidByText := true, laidKinds := [.data], laidTests := true, laidLooks := .later }
def ChachaPartsCardSaid : Prop := Claim7.holds Tryd.pinned (.plain (OpenSpec.ofChange chachaPartsSpec)) chachaPartsCard

/-- THE TIED CARD OF 'hatchwaylaw02.ChachaBlocks'. -/
def chachaBlocksCard : Claim7 := { stood := { row := chachaBlocksRow, standIns := [], harness := (true, "3370d27d9255588c3956976426ca7d2b61d4b9f8ebcd526ac9795ba27740e44b"), looks := false }, kinds := [], alts := [], laidByText := true, laidKinds := [.data], laidTests := true, laidLooks := .later }
def ChachaBlocksCardSaid : Prop := Claim7.holds Tryd.pinned (.plain (OpenSpec.ofChange chachaBlocksSpec)) chachaBlocksCard

/-- THE TIED CARD OF 'hatchwaylaw02.ChachaSums'. -/
def chachaSumsCard : Claim7 := { stood := { row := chachaSumsRow, standIns := [], harness := (true, "3370d27d9255588c3956976426ca7d2b61d4b9f8ebcd526ac9795ba27740e44b"), looks := false }, kinds := [], alts := [], laidByText := true, laidKinds := [.data], laidTests := true, laidLooks := .later }
def ChachaSumsCardSaid : Prop := Claim7.holds Tryd.pinned (.plain (OpenSpec.ofChange chachaSumsSpec)) chachaSumsCard

/-- THE TIED CARD OF 'hatchwaylaw02.ChachaLens'. -/
def chachaLensCard : Claim7 := { stood := { row := chachaLensRow, standIns := [], harness := (true, "3370d27d9255588c3956976426ca7d2b61d4b9f8ebcd526ac9795ba27740e44b"), looks := false }, kinds := [], alts := [], laidByText := true, laidKinds := [.data], laidTests := true, laidLooks := .later }
def ChachaLensCardSaid : Prop := Claim7.holds Tryd.pinned (.plain (OpenSpec.ofChange chachaLensSpec)) chachaLensCard

/-- THE TIED CARD OF 'hatchwaylaw04.AeadSeals'. -/
def aeadSealsCard : Claim7 := { stood := { row := aeadSealsRow, standIns := [], harness := (true, "3370d27d9255588c3956976426ca7d2b61d4b9f8ebcd526ac9795ba27740e44b"), looks := false }, kinds := [], alts := [], laidByText := true, laidKinds := [.data], laidTests := true, laidLooks := .later }
def AeadSealsCardSaid : Prop := Claim7.holds Tryd.pinned (.plain (OpenSpec.ofChange aeadSealsSpec)) aeadSealsCard

/-- THE TIED CARD OF 'hatchwaylaw04.AeadTags'. -/
def aeadTagsCard : Claim7 := { stood := { row := aeadTagsRow, standIns := [], harness := (true, "3370d27d9255588c3956976426ca7d2b61d4b9f8ebcd526ac9795ba27740e44b"), looks := false }, kinds := [], alts := [], laidByText := true, laidKinds := [.data], laidTests := true, laidLooks := .later }
def AeadTagsCardSaid : Prop := Claim7.holds Tryd.pinned (.plain (OpenSpec.ofChange aeadTagsSpec)) aeadTagsCard

/-- THE TIED CARD OF 'hatchwaylaw04.AeadStream'. -/
def aeadStreamCard : Claim7 := { stood := { row := aeadStreamRow, standIns := [], harness := (true, "3370d27d9255588c3956976426ca7d2b61d4b9f8ebcd526ac9795ba27740e44b"), looks := false }, kinds := [], alts := [], laidByText := true, laidKinds := [.data], laidTests := true, laidLooks := .later }
def AeadStreamCardSaid : Prop := Claim7.holds Tryd.pinned (.plain (OpenSpec.ofChange aeadStreamSpec)) aeadStreamCard

/-- THE TIED CARD OF 'hatchwaylaw04.AeadShort'. -/
def aeadShortCard : Claim7 := { stood := { row := aeadShortRow, standIns := [], harness := (true, "3370d27d9255588c3956976426ca7d2b61d4b9f8ebcd526ac9795ba27740e44b"), looks := false }, kinds := [], alts := [], laidByText := true, laidKinds := [.data], laidTests := true, laidLooks := .later }
def AeadShortCardSaid : Prop := Claim7.holds Tryd.pinned (.plain (OpenSpec.ofChange aeadShortSpec)) aeadShortCard

/-- THE TIED CARD OF 'hatchwaylaw04.AeadSums'. -/
def aeadSumsCard : Claim7 := { stood := { row := aeadSumsRow, standIns := [], harness := (true, "3370d27d9255588c3956976426ca7d2b61d4b9f8ebcd526ac9795ba27740e44b"), looks := false }, kinds := [], alts := [], laidByText := true, laidKinds := [.data], laidTests := true, laidLooks := .later }
def AeadSumsCardSaid : Prop := Claim7.holds Tryd.pinned (.plain (OpenSpec.ofChange aeadSumsSpec)) aeadSumsCard

/-- THE SECOND FORM's CARD OF 'hatchwaylaw02.ChachaTells'. -/
def chachaTellsUptoCard : Claim7 := { stood := { row := chachaTellsUptoRow, standIns := [], harness := (true, "3370d27d9255588c3956976426ca7d2b61d4b9f8ebcd526ac9795ba27740e44b"), looks := false }, kinds := [], alts := [], laidByText := true, laidKinds := [.data], laidTests := true, laidLooks := .later }
def ChachaTellsUptoCardSaid : Prop := Claim7.holds Tryd.pinned (.plain (OpenSpec.upto chachaTellsSpec)) chachaTellsUptoCard

/-- THE SECOND FORM's CARD OF 'hatchwaylaw02.ChachaTwice'. -/
def chachaTwiceUptoCard : Claim7 := { stood := { row := chachaTwiceUptoRow, standIns := [], harness := (true, "3370d27d9255588c3956976426ca7d2b61d4b9f8ebcd526ac9795ba27740e44b"), looks := false }, kinds := [], alts := [], laidByText := true, laidKinds := [.data], laidTests := true, laidLooks := .later }
def ChachaTwiceUptoCardSaid : Prop := Claim7.holds Tryd.pinned (.plain (OpenSpec.upto chachaTwiceSpec)) chachaTwiceUptoCard

/-- THE SECOND FORM's CARD OF 'hatchwaylaw02.ChachaParts'. -/
def chachaPartsUptoCard : Claim7 := { stood := { row := chachaPartsUptoRow, standIns := [], harness := (true, "3370d27d9255588c3956976426ca7d2b61d4b9f8ebcd526ac9795ba27740e44b"), looks := false }, kinds := [], alts := [], laidByText := true, laidKinds := [.data], laidTests := true, laidLooks := .later }
def ChachaPartsUptoCardSaid : Prop := Claim7.holds Tryd.pinned (.plain (OpenSpec.upto chachaPartsSpec)) chachaPartsUptoCard

/-- THE SECOND FORM's CARD OF 'hatchwaylaw02.ChachaBlocks'. -/
def chachaBlocksUptoCard : Claim7 := { stood := { row := chachaBlocksUptoRow, standIns := [], harness := (true, "3370d27d9255588c3956976426ca7d2b61d4b9f8ebcd526ac9795ba27740e44b"), looks := false }, kinds := [], alts := [], laidByText := true, laidKinds := [.data], laidTests := true, laidLooks := .later }
def ChachaBlocksUptoCardSaid : Prop := Claim7.holds Tryd.pinned (.plain (OpenSpec.upto chachaBlocksSpec)) chachaBlocksUptoCard

/-- THE SECOND FORM's CARD OF 'hatchwaylaw02.ChachaSums'. -/
def chachaSumsUptoCard : Claim7 := { stood := { row := chachaSumsUptoRow, standIns := [], harness := (true, "3370d27d9255588c3956976426ca7d2b61d4b9f8ebcd526ac9795ba27740e44b"), looks := false }, kinds := [], alts := [], laidByText := true, laidKinds := [.data], laidTests := true, laidLooks := .later }
def ChachaSumsUptoCardSaid : Prop := Claim7.holds Tryd.pinned (.plain (OpenSpec.upto chachaSumsSpec)) chachaSumsUptoCard

/-- THE SECOND FORM's CARD OF 'hatchwaylaw02.ChachaLens'. -/
def chachaLensUptoCard : Claim7 := { stood := { row := chachaLensUptoRow, standIns := [], harness := (true, "3370d27d9255588c3956976426ca7d2b61d4b9f8ebcd526ac9795ba27740e44b"), looks := false }, kinds := [], alts := [], laidByText := true, laidKinds := [.data], laidTests := true, laidLooks := .later }
def ChachaLensUptoCardSaid : Prop := Claim7.holds Tryd.pinned (.plain (OpenSpec.upto chachaLensSpec)) chachaLensUptoCard

/-- THE SECOND FORM's CARD OF 'hatchwaylaw04.AeadSeals'. -/
def aeadSealsUptoCard : Claim7 := { stood := { row := aeadSealsUptoRow, standIns := [], harness := (true, "3370d27d9255588c3956976426ca7d2b61d4b9f8ebcd526ac9795ba27740e44b"), looks := false }, kinds := [], alts := [], laidByText := true, laidKinds := [.data], laidTests := true, laidLooks := .later }
def AeadSealsUptoCardSaid : Prop := Claim7.holds Tryd.pinned (.plain (OpenSpec.upto aeadSealsSpec)) aeadSealsUptoCard

/-- THE SECOND FORM's CARD OF 'hatchwaylaw04.AeadTags'. -/
def aeadTagsUptoCard : Claim7 := { stood := { row := aeadTagsUptoRow, standIns := [], harness := (true, "3370d27d9255588c3956976426ca7d2b61d4b9f8ebcd526ac9795ba27740e44b"), looks := false }, kinds := [], alts := [], laidByText := true, laidKinds := [.data], laidTests := true, laidLooks := .later }
def AeadTagsUptoCardSaid : Prop := Claim7.holds Tryd.pinned (.plain (OpenSpec.upto aeadTagsSpec)) aeadTagsUptoCard

/-- THE SECOND FORM's CARD OF 'hatchwaylaw04.AeadStream'. -/
def aeadStreamUptoCard : Claim7 := { stood := { row := aeadStreamUptoRow, standIns := [], harness := (true, "3370d27d9255588c3956976426ca7d2b61d4b9f8ebcd526ac9795ba27740e44b"), looks := false }, kinds := [], alts := [], laidByText := true, laidKinds := [.data], laidTests := true, laidLooks := .later }
def AeadStreamUptoCardSaid : Prop := Claim7.holds Tryd.pinned (.plain (OpenSpec.upto aeadStreamSpec)) aeadStreamUptoCard

/-- THE SECOND FORM's CARD OF 'hatchwaylaw04.AeadShort'. -/
def aeadShortUptoCard : Claim7 := { stood := { row := aeadShortUptoRow, standIns := [], harness := (true, "3370d27d9255588c3956976426ca7d2b61d4b9f8ebcd526ac9795ba27740e44b"), looks := false }, kinds := [], alts := [], laidByText := true, laidKinds := [.data], laidTests := true, laidLooks := .later }
def AeadShortUptoCardSaid : Prop := Claim7.holds Tryd.pinned (.plain (OpenSpec.upto aeadShortSpec)) aeadShortUptoCard

/-- THE SECOND FORM's CARD OF 'hatchwaylaw04.AeadSums'. -/
def aeadSumsUptoCard : Claim7 := { stood := { row := aeadSumsUptoRow, standIns := [], harness := (true, "3370d27d9255588c3956976426ca7d2b61d4b9f8ebcd526ac9795ba27740e44b"), looks := false }, kinds := [], alts := [], laidByText := true, laidKinds := [.data], laidTests := true, laidLooks := .later }
def AeadSumsUptoCardSaid : Prop := Claim7.holds Tryd.pinned (.plain (OpenSpec.upto aeadSumsSpec)) aeadSumsUptoCard
end Rows
end Go.Proofs.YtnhfmmohdiccgaaDoor

/-
  DERIVED. GIVEN WITH THE SEED: THE CARDS: each row of YtlmggfbpdciioaaDoorRows.lean that lists a variable, with what it lists TIED to the program's text (the seventh form; the later family's looks); each row that meets fmt, with fmt's text TOLD by the authors' own Lean function (tested against real Go, not proved from fmt's source: count such statements apart). THE CARD IS WHAT COUNTS. Prove the row's statement (the work); the ties are given (YtlmggfbpdciioaaDoorTie.lean); close each card by the builder's one call (the guide's Derived/Test/ToyasCard.lean, 'card_holds'). Laid BY PROGRAM, IN A SANDBOX (cutbox-door.mjs). By AI agents, Wed Nov 11 2026. No macro, syntax, notation, axiom, sorry.
-/
import Derived.Test.YtlmggfbpdciioaaDoorRows
import GoSem.ClaimSeven
namespace Go.Proofs.YtlmggfbpdciioaaDoor
namespace Rows

/-- THE TIED CARD OF 'quoinlaw02.LexNames'. -/
def lexNamesCard : Claim7 := { stood := { row := lexNamesRow, standIns := [], harness := (true, "1724cd18d2a00eba53124b1307c3e9102e9469a9a8adefcf8e280326c71ccb46"), looks := false }, kinds := [], alts := [], laidByText := true, laidKinds := [.listed, .data], laidTests := true, laidLooks := .later }
def LexNamesCardSaid : Prop := Claim7.holds Tryd.pinned (.plain (OpenSpec.ofChange lexNamesSpec)) lexNamesCard

/-- THE TIED CARD OF 'quoinlaw02.LexReads'. -/
def lexReadsCard : Claim7 := { stood := { row := lexReadsRow, standIns := [], harness := (true, "1724cd18d2a00eba53124b1307c3e9102e9469a9a8adefcf8e280326c71ccb46"), looks := false }, kinds := [], alts := [], laidByText := true, laidKinds := [.listed, .data], laidTests := true, laidLooks := .later }
def LexReadsCardSaid : Prop := Claim7.holds Tryd.pinned (.plain (OpenSpec.ofChange lexReadsSpec)) lexReadsCard

/-- THE TIED CARD OF 'quoinlaw02.LexCovers'. -/
def lexCoversCard : Claim7 := { stood := { row := lexCoversRow, standIns := [], harness := (true, "1724cd18d2a00eba53124b1307c3e9102e9469a9a8adefcf8e280326c71ccb46"), looks := false }, kinds := [], alts := [], laidByText := true, laidKinds := [.listed, .data], laidTests := true, laidLooks := .later }
def LexCoversCardSaid : Prop := Claim7.holds Tryd.pinned (.plain (OpenSpec.ofChange lexCoversSpec)) lexCoversCard

/-- THE TIED CARD OF 'quoinlaw02.LexJoins'. -/
def lexJoinsCard : Claim7 := { stood := { row := lexJoinsRow, standIns := [], harness := (true, "1724cd18d2a00eba53124b1307c3e9102e9469a9a8adefcf8e280326c71ccb46"), looks := false }, kinds := [], alts := [], laidByText := true, laidKinds := [.listed, .data], laidTests := true, laidLooks := .later }
def LexJoinsCardSaid : Prop := Claim7.holds Tryd.pinned (.plain (OpenSpec.ofChange lexJoinsSpec)) lexJoinsCard

/-- THE TIED CARD OF 'quoinlaw02.LexBehind'. -/
def lexBehindCard : Claim7 := { stood := { row := lexBehindRow, standIns := [], harness := (true, "1724cd18d2a00eba53124b1307c3e9102e9469a9a8adefcf8e280326c71ccb46"), looks := false }, kinds := [], alts := [], laidByText := true, laidKinds := [.listed, .data], laidTests := true, laidLooks := .later }
def LexBehindCardSaid : Prop := Claim7.holds Tryd.pinned (.plain (OpenSpec.ofChange lexBehindSpec)) lexBehindCard

/-- THE TIED CARD OF 'quoinlaw02.LexSplits'. -/
def lexSplitsCard : Claim7 := { stood := { row := lexSplitsRow, standIns := [], harness := (true, "1724cd18d2a00eba53124b1307c3e9102e9469a9a8adefcf8e280326c71ccb46"), looks := false }, kinds := [], alts := [], laidByText := true, laidKinds := [.listed, .data], laidTests := true, laidLooks := .later }
def LexSplitsCardSaid : Prop := Claim7.holds Tryd.pinned (.plain (OpenSpec.ofChange lexSplitsSpec)) lexSplitsCard

/-- THE TIED CARD OF 'quoinlaw03.TypexNames'. -/
def typexNamesCard : Claim7 := { stood := { row := typexNamesRow, standIns := [], harness := (true, "1724cd18d2a00eba53124b1307c3e9102e9469a9a8adefcf8e280326c71ccb46"), looks := false }, kinds := [], alts := [], laidByText := true, laidKinds := [.listed, .data], laidTests := true, laidLooks := .later }
def TypexNamesCardSaid : Prop := Claim7.holds Tryd.pinned (.plain (OpenSpec.ofChange typexNamesSpec)) typexNamesCard

/-- THE TIED CARD OF 'quoinlaw03.TypexReads'. -/
def typexReadsCard : Claim7 := { stood := { row := typexReadsRow, standIns := [], harness := (true, "1724cd18d2a00eba53124b1307c3e9102e9469a9a8adefcf8e280326c71ccb46"), looks := false }, kinds := [], alts := [], laidByText := true, laidKinds := [.listed, .data], laidTests := true, laidLooks := .later }
def TypexReadsCardSaid : Prop := Claim7.holds Tryd.pinned (.plain (OpenSpec.ofChange typexReadsSpec)) typexReadsCard

/-- THE TIED CARD OF 'quoinlaw03.TypexTexts'. -/
def typexTextsCard : Claim7 := { stood := { row := typexTextsRow, standIns := [], harness := (true, "1724cd18d2a00eba53124b1307c3e9102e9469a9a8adefcf8e280326c71ccb46"), looks := false }, kinds := [], alts := [], laidByText := true, laidKinds := [.listed, .data], laidTests := true, laidLooks := .later }
def TypexTextsCardSaid : Prop := Claim7.holds Tryd.pinned (.plain (OpenSpec.ofChange typexTextsSpec)) typexTextsCard

/-- THE TIED CARD OF 'quoinlaw03.TypexBehind'. -/
def typexBehindCard : Claim7 := { stood := { row := typexBehindRow, standIns := [], harness := (true, "1724cd18d2a00eba53124b1307c3e9102e9469a9a8adefcf8e280326c71ccb46"), looks := false }, kinds := [], alts := [], laidByText := true, laidKinds := [.listed, .data], laidTests := true, laidLooks := .later }
def TypexBehindCardSaid : Prop := Claim7.holds Tryd.pinned (.plain (OpenSpec.ofChange typexBehindSpec)) typexBehindCard

/-- THE TIED CARD OF 'quoinlaw03.TypexDeep'. -/
def typexDeepCard : Claim7 := { stood := { row := typexDeepRow, standIns := [], harness := (true, "1724cd18d2a00eba53124b1307c3e9102e9469a9a8adefcf8e280326c71ccb46"), looks := false }, kinds := [], alts := [], laidByText := true, laidKinds := [.listed, .data], laidTests := true, laidLooks := .later }
def TypexDeepCardSaid : Prop := Claim7.holds Tryd.pinned (.plain (OpenSpec.ofChange typexDeepSpec)) typexDeepCard

/-- THE SECOND FORM's CARD OF 'quoinlaw02.LexNames'. -/
def lexNamesUptoCard : Claim7 := { stood := { row := lexNamesUptoRow, standIns := [], harness := (true, "1724cd18d2a00eba53124b1307c3e9102e9469a9a8adefcf8e280326c71ccb46"), looks := false }, kinds := [], alts := [], laidByText := true, laidKinds := [.listed, .data], laidTests := true, laidLooks := .later }
def LexNamesUptoCardSaid : Prop := Claim7.holds Tryd.pinned (.plain (OpenSpec.upto lexNamesSpec)) lexNamesUptoCard

/-- THE SECOND FORM's CARD OF 'quoinlaw02.LexReads'. -/
def lexReadsUptoCard : Claim7 := { stood := { row := lexReadsUptoRow, standIns := [], harness := (true, "1724cd18d2a00eba53124b1307c3e9102e9469a9a8adefcf8e280326c71ccb46"), looks := false }, kinds := [], alts := [], laidByText := true, laidKinds := [.listed, .data], laidTests := true, laidLooks := .later }
def LexReadsUptoCardSaid : Prop := Claim7.holds Tryd.pinned (.plain (OpenSpec.upto lexReadsSpec)) lexReadsUptoCard

/-- THE SECOND FORM's CARD OF 'quoinlaw02.LexCovers'. -/
def lexCoversUptoCard : Claim7 := { stood := { row := lexCoversUptoRow, standIns := [], harness := (true, "1724cd18d2a00eba53124b1307c3e9102e9469a9a8adefcf8e280326c71ccb46"), looks := false }, kinds := [], alts := [], laidByText := true, laidKinds := [.listed, .data], laidTests := true, laidLooks := .later }
def LexCoversUptoCardSaid : Prop := Claim7.holds Tryd.pinned (.plain (OpenSpec.upto lexCoversSpec)) lexCoversUptoCard

/-- THE SECOND FORM's CARD OF 'quoinlaw02.LexJoins'. -/
def lexJoinsUptoCard : Claim7 := { stood := { row := lexJoinsUptoRow, standIns := [], harness := (true, "1724cd18d2a00eba53124b1307c3e9102e9469a9a8adefcf8e280326c71ccb46"), looks := false }, kinds := [], alts := [], laidByText := true, laidKinds := [.listed, .data], laidTests := true, laidLooks := .later }
def LexJoinsUptoCardSaid : Prop := Claim7.holds Tryd.pinned (.plain (OpenSpec.upto lexJoinsSpec)) lexJoinsUptoCard

/-- THE SECOND FORM's CARD OF 'quoinlaw02.LexBehind'. -/
def lexBehindUptoCard : Claim7 := { stood := { row := lexBehindUptoRow, standIns := [], harness := (true, "1724cd18d2a00eba53124b1307c3e9102e9469a9a8adefcf8e280326c71ccb46"), looks := false }, kinds := [], alts := [], laidByText := true, laidKinds := [.listed, .data], laidTests := true, laidLooks := .later }
def LexBehindUptoCardSaid : Prop := Claim7.holds Tryd.pinned (.plain (OpenSpec.upto lexBehindSpec)) lexBehindUptoCard

/-- THE SECOND FORM's CARD OF 'quoinlaw02.LexSplits'. -/
def lexSplitsUptoCard : Claim7 := { stood := { row := lexSplitsUptoRow, standIns := [], harness := (true, "1724cd18d2a00eba53124b1307c3e9102e9469a9a8adefcf8e280326c71ccb46"), looks := false }, kinds := [], alts := [], laidByText := true, laidKinds := [.listed, .data], laidTests := true, laidLooks := .later }
def LexSplitsUptoCardSaid : Prop := Claim7.holds Tryd.pinned (.plain (OpenSpec.upto lexSplitsSpec)) lexSplitsUptoCard

/-- THE SECOND FORM's CARD OF 'quoinlaw03.TypexNames'. -/
def typexNamesUptoCard : Claim7 := { stood := { row := typexNamesUptoRow, standIns := [], harness := (true, "1724cd18d2a00eba53124b1307c3e9102e9469a9a8adefcf8e280326c71ccb46"), looks := false }, kinds := [], alts := [], laidByText := true, laidKinds := [.listed, .data], laidTests := true, laidLooks := .later }
def TypexNamesUptoCardSaid : Prop := Claim7.holds Tryd.pinned (.plain (OpenSpec.upto typexNamesSpec)) typexNamesUptoCard

/-- THE SECOND FORM's CARD OF 'quoinlaw03.TypexReads'. -/
def typexReadsUptoCard : Claim7 := { stood := { row := typexReadsUptoRow, standIns := [], harness := (true, "1724cd18d2a00eba53124b1307c3e9102e9469a9a8adefcf8e280326c71ccb46"), looks := false }, kinds := [], alts := [], laidByText := true, laidKinds := [.listed, .data], laidTests := true, laidLooks := .later }
def TypexReadsUptoCardSaid : Prop := Claim7.holds Tryd.pinned (.plain (OpenSpec.upto typexReadsSpec)) typexReadsUptoCard

/-- THE SECOND FORM's CARD OF 'quoinlaw03.TypexTexts'. -/
def typexTextsUptoCard : Claim7 := { stood := { row := typexTextsUptoRow, standIns := [], harness := (true, "1724cd18d2a00eba53124b1307c3e9102e9469a9a8adefcf8e280326c71ccb46"), looks := false }, kinds := [], alts := [], laidByText := true, laidKinds := [.listed, .data], laidTests := true, laidLooks := .later }
def TypexTextsUptoCardSaid : Prop := Claim7.holds Tryd.pinned (.plain (OpenSpec.upto typexTextsSpec)) typexTextsUptoCard

/-- THE SECOND FORM's CARD OF 'quoinlaw03.TypexBehind'. -/
def typexBehindUptoCard : Claim7 := { stood := { row := typexBehindUptoRow, standIns := [], harness := (true, "1724cd18d2a00eba53124b1307c3e9102e9469a9a8adefcf8e280326c71ccb46"), looks := false }, kinds := [], alts := [], laidByText := true, laidKinds := [.listed, .data], laidTests := true, laidLooks := .later }
def TypexBehindUptoCardSaid : Prop := Claim7.holds Tryd.pinned (.plain (OpenSpec.upto typexBehindSpec)) typexBehindUptoCard

/-- THE SECOND FORM's CARD OF 'quoinlaw03.TypexDeep'. -/
def typexDeepUptoCard : Claim7 := { stood := { row := typexDeepUptoRow, standIns := [], harness := (true, "1724cd18d2a00eba53124b1307c3e9102e9469a9a8adefcf8e280326c71ccb46"), looks := false }, kinds := [], alts := [], laidByText := true, laidKinds := [.listed, .data], laidTests := true, laidLooks := .later }
def TypexDeepUptoCardSaid : Prop := Claim7.holds Tryd.pinned (.plain (OpenSpec.upto typexDeepSpec)) typexDeepUptoCard
end Rows
end Go.Proofs.YtlmggfbpdciioaaDoor

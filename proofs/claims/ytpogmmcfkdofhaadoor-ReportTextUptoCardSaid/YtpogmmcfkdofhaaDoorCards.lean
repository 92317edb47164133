/-
  DERIVED. GIVEN WITH THE SEED: THE CARDS: each row of YtpogmmcfkdofhaaDoorRows.lean that lists a variable, with what it lists TIED to the program's text (the seventh form; the later family's looks); each row that meets fmt, with fmt's text TOLD by the authors' own Lean function (tested against real Go, not proved from fmt's source: count such statements apart). THE CARD IS WHAT COUNTS. Prove the row's statement (the work); the ties are given (YtpogmmcfkdofhaaDoorTie.lean); close each card by the builder's one call (the guide's Derived/Test/ToyasCard.lean, 'card_holds'). Laid BY PROGRAM, IN A SANDBOX (cutbox-door.mjs). By AI agents, Wed Nov 11 2026. No macro, syntax, notation, axiom, sorry.
-/
import Derived.Test.YtpogmmcfkdofhaaDoorRows
import GoSem.ClaimSeven
namespace Go.Proofs.YtpogmmcfkdofhaaDoor
namespace Rows

/-- THE TIED CARD OF 'canarylaw02.NumberPrint'. -/
def numberPrintCard : Claim7 := { stood := { row := numberPrintRow, standIns := [], harness := (true, "670def0d410f648796f4b10917e69b1d13b62c9260330735313983a6d8dd6d24"), looks := false }, kinds := [], alts := [], laidByText := true, laidKinds := [.data, .data, .data], laidTests := true, laidLooks := .later }
def NumberPrintCardSaid : Prop := Claim7.holds Tryd.pinned (.plain (OpenSpec.ofChange numberPrintSpec)) numberPrintCard

/-- THE TIED CARD OF 'canarylaw02.NumberParse'. -/
def numberParseCard : Claim7 := { stood := { row := numberParseRow, standIns := [], harness := (true, "670def0d410f648796f4b10917e69b1d13b62c9260330735313983a6d8dd6d24"), looks := false }, kinds := [], alts := [], laidByText := true, laidKinds := [.data, .data, .data], laidTests := true, laidLooks := .later }
def NumberParseCardSaid : Prop := Claim7.holds Tryd.pinned (.plain (OpenSpec.ofChange numberParseSpec)) numberParseCard

/-- THE TIED CARD OF 'canarylaw02.NumberLimit'. -/
def numberLimitCard : Claim7 := { stood := { row := numberLimitRow, standIns := [], harness := (true, "670def0d410f648796f4b10917e69b1d13b62c9260330735313983a6d8dd6d24"), looks := false }, kinds := [], alts := [], laidByText := true, laidKinds := [.data, .data, .data], laidTests := true, laidLooks := .later }
def NumberLimitCardSaid : Prop := Claim7.holds Tryd.pinned (.plain (OpenSpec.ofChange numberLimitSpec)) numberLimitCard

/-- THE TIED CARD OF 'canarylaw02.NumberAdd'. -/
def numberAddCard : Claim7 := { stood := { row := numberAddRow, standIns := [], harness := (true, "670def0d410f648796f4b10917e69b1d13b62c9260330735313983a6d8dd6d24"), looks := false }, kinds := [], alts := [], laidByText := true, laidKinds := [.data, .data, .data], laidTests := true, laidLooks := .later }
def NumberAddCardSaid : Prop := Claim7.holds Tryd.pinned (.plain (OpenSpec.ofChange numberAddSpec)) numberAddCard

/-- THE TIED CARD OF 'canarylaw02.NumberAddOrder'. -/
def numberAddOrderCard : Claim7 := { stood := { row := numberAddOrderRow, standIns := [], harness := (true, "670def0d410f648796f4b10917e69b1d13b62c9260330735313983a6d8dd6d24"), looks := false }, kinds := [], alts := [], laidByText := true, laidKinds := [.data, .data, .data], laidTests := true, laidLooks := .later }
def NumberAddOrderCardSaid : Prop := Claim7.holds Tryd.pinned (.plain (OpenSpec.ofChange numberAddOrderSpec)) numberAddOrderCard

/-- THE TIED CARD OF 'canarylaw21.JsonWrite'. -/
def jsonWriteCard : Claim7 := { stood := { row := jsonWriteRow, standIns := [], harness := (true, "670def0d410f648796f4b10917e69b1d13b62c9260330735313983a6d8dd6d24"), looks := false }, kinds := [], alts := [], laidByText := true, laidKinds := [.data, .data, .data], laidTests := true, laidLooks := .later }
def JsonWriteCardSaid : Prop := Claim7.holds Tryd.pinned (.plain (OpenSpec.ofChange jsonWriteSpec)) jsonWriteCard

/-- THE TIED CARD OF 'canarylaw21.JsonPlain'. -/
def jsonPlainCard : Claim7 := { stood := { row := jsonPlainRow, standIns := [], harness := (true, "670def0d410f648796f4b10917e69b1d13b62c9260330735313983a6d8dd6d24"), looks := false }, kinds := [], alts := [], laidByText := true, laidKinds := [.data, .data, .data], laidTests := true, laidLooks := .later }
def JsonPlainCardSaid : Prop := Claim7.holds Tryd.pinned (.plain (OpenSpec.ofChange jsonPlainSpec)) jsonPlainCard

/-- THE TIED CARD OF 'canarylaw21.JsonQuote'. -/
def jsonQuoteCard : Claim7 := { stood := { row := jsonQuoteRow, standIns := [], harness := (true, "670def0d410f648796f4b10917e69b1d13b62c9260330735313983a6d8dd6d24"), looks := false }, kinds := [], alts := [], laidByText := true, laidKinds := [.data, .data, .data], laidTests := true, laidLooks := .later }
def JsonQuoteCardSaid : Prop := Claim7.holds Tryd.pinned (.plain (OpenSpec.ofChange jsonQuoteSpec)) jsonQuoteCard

/-- THE TIED CARD OF 'canarylaw21.JsonUnquote'. -/
def jsonUnquoteCard : Claim7 := { stood := { row := jsonUnquoteRow, standIns := [], harness := (true, "670def0d410f648796f4b10917e69b1d13b62c9260330735313983a6d8dd6d24"), looks := false }, kinds := [], alts := [], laidByText := true, laidKinds := [.data, .data, .data], laidTests := true, laidLooks := .later }
def JsonUnquoteCardSaid : Prop := Claim7.holds Tryd.pinned (.plain (OpenSpec.ofChange jsonUnquoteSpec)) jsonUnquoteCard

/-- THE TIED CARD OF 'canarylaw22.ReportAdd'. -/
def reportAddCard : Claim7 := { stood := { row := reportAddRow, standIns := [], harness := (true, "670def0d410f648796f4b10917e69b1d13b62c9260330735313983a6d8dd6d24"), looks := false }, kinds := [], alts := [], laidByText := true, laidKinds := [.data, .data, .data], laidTests := true, laidLooks := .later }
def ReportAddCardSaid : Prop := Claim7.holds Tryd.pinned (.plain (OpenSpec.ofChange reportAddSpec)) reportAddCard

/-- THE TIED CARD OF 'canarylaw22.ReportText'. -/
def reportTextCard : Claim7 := { stood := { row := reportTextRow, standIns := [], harness := (true, "670def0d410f648796f4b10917e69b1d13b62c9260330735313983a6d8dd6d24"), looks := false }, kinds := [], alts := [], laidByText := true, laidKinds := [.data, .data, .data], laidTests := true, laidLooks := .later }
def ReportTextCardSaid : Prop := Claim7.holds Tryd.pinned (.plain (OpenSpec.ofChange reportTextSpec)) reportTextCard

/-- THE TIED CARD OF 'canarylaw22.ReportLast'. -/
def reportLastCard : Claim7 := { stood := { row := reportLastRow, standIns := [], harness := (true, "670def0d410f648796f4b10917e69b1d13b62c9260330735313983a6d8dd6d24"), looks := false }, kinds := [], alts := [], laidByText := true, laidKinds := [.data, .data, .data], laidTests := true, laidLooks := .later }
def ReportLastCardSaid : Prop := Claim7.holds Tryd.pinned (.plain (OpenSpec.ofChange reportLastSpec)) reportLastCard

/-- THE TIED CARD OF 'canarylaw22.ReportFull'. -/
def reportFullCard : Claim7 := { stood := { row := reportFullRow, standIns := [], harness := (true, "670def0d410f648796f4b10917e69b1d13b62c9260330735313983a6d8dd6d24"), looks := false }, kinds := [], alts := [], laidByText := true, laidKinds := [.data, .data, .data], laidTests := true, laidLooks := .later }
def ReportFullCardSaid : Prop := Claim7.holds Tryd.pinned (.plain (OpenSpec.ofChange reportFullSpec)) reportFullCard

/-- THE SECOND FORM's CARD OF 'canarylaw02.NumberPrint'. -/
def numberPrintUptoCard : Claim7 := { stood := { row := numberPrintUptoRow, standIns := [], harness := (true, "670def0d410f648796f4b10917e69b1d13b62c9260330735313983a6d8dd6d24"), looks := false }, kinds := [], alts := [], laidByText := true, laidKinds := [.data, .data, .data], laidTests := true, laidLooks := .later }
def NumberPrintUptoCardSaid : Prop := Claim7.holds Tryd.pinned (.plain (OpenSpec.upto numberPrintSpec)) numberPrintUptoCard

/-- THE SECOND FORM's CARD OF 'canarylaw02.NumberParse'. -/
def numberParseUptoCard : Claim7 := { stood := { row := numberParseUptoRow, standIns := [], harness := (true, "670def0d410f648796f4b10917e69b1d13b62c9260330735313983a6d8dd6d24"), looks := false }, kinds := [], alts := [], laidByText := true, laidKinds := [.data, .data, .data], laidTests := true, laidLooks := .later }
def NumberParseUptoCardSaid : Prop := Claim7.holds Tryd.pinned (.plain (OpenSpec.upto numberParseSpec)) numberParseUptoCard

/-- THE SECOND FORM's CARD OF 'canarylaw02.NumberLimit'. -/
def numberLimitUptoCard : Claim7 := { stood := { row := numberLimitUptoRow, standIns := [], harness := (true, "670def0d410f648796f4b10917e69b1d13b62c9260330735313983a6d8dd6d24"), looks := false }, kinds := [], alts := [], laidByText := true, laidKinds := [.data, .data, .data], laidTests := true, laidLooks := .later }
def NumberLimitUptoCardSaid : Prop := Claim7.holds Tryd.pinned (.plain (OpenSpec.upto numberLimitSpec)) numberLimitUptoCard

/-- THE SECOND FORM's CARD OF 'canarylaw02.NumberAdd'. -/
def numberAddUptoCard : Claim7 := { stood := { row := numberAddUptoRow, standIns := [], harness := (true, "670def0d410f648796f4b10917e69b1d13b62c9260330735313983a6d8dd6d24"), looks := false }, kinds := [], alts := [], laidByText := true, laidKinds := [.data, .data, .data], laidTests := true, laidLooks := .later }
def NumberAddUptoCardSaid : Prop := Claim7.holds Tryd.pinned (.plain (OpenSpec.upto numberAddSpec)) numberAddUptoCard

/-- THE SECOND FORM's CARD OF 'canarylaw02.NumberAddOrder'. -/
def numberAddOrderUptoCard : Claim7 := { stood := { row := numberAddOrderUptoRow, standIns := [], harness := (true, "670def0d410f648796f4b10917e69b1d13b62c9260330735313983a6d8dd6d24"), looks := false }, kinds := [], alts := [], laidByText := true, laidKinds := [.data, .data, .data], laidTests := true, laidLooks := .later }
def NumberAddOrderUptoCardSaid : Prop := Claim7.holds Tryd.pinned (.plain (OpenSpec.upto numberAddOrderSpec)) numberAddOrderUptoCard

/-- THE SECOND FORM's CARD OF 'canarylaw21.JsonWrite'. -/
def jsonWriteUptoCard : Claim7 := { stood := { row := jsonWriteUptoRow, standIns := [], harness := (true, "670def0d410f648796f4b10917e69b1d13b62c9260330735313983a6d8dd6d24"), looks := false }, kinds := [], alts := [], laidByText := true, laidKinds := [.data, .data, .data], laidTests := true, laidLooks := .later }
def JsonWriteUptoCardSaid : Prop := Claim7.holds Tryd.pinned (.plain (OpenSpec.upto jsonWriteSpec)) jsonWriteUptoCard

/-- THE SECOND FORM's CARD OF 'canarylaw21.JsonPlain'. -/
def jsonPlainUptoCard : Claim7 := { stood := { row := jsonPlainUptoRow, standIns := [], harness := (true, "670def0d410f648796f4b10917e69b1d13b62c9260330735313983a6d8dd6d24"), looks := false }, kinds := [], alts := [], laidByText := true, laidKinds := [.data, .data, .data], laidTests := true, laidLooks := .later }
def JsonPlainUptoCardSaid : Prop := Claim7.holds Tryd.pinned (.plain (OpenSpec.upto jsonPlainSpec)) jsonPlainUptoCard

/-- THE SECOND FORM's CARD OF 'canarylaw21.JsonQuote'. -/
def jsonQuoteUptoCard : Claim7 := { stood := { row := jsonQuoteUptoRow, standIns := [], harness := (true, "670def0d410f648796f4b10917e69b1d13b62c9260330735313983a6d8dd6d24"), looks := false }, kinds := [], alts := [], laidByText := true, laidKinds := [.data, .data, .data], laidTests := true, laidLooks := .later }
def JsonQuoteUptoCardSaid : Prop := Claim7.holds Tryd.pinned (.plain (OpenSpec.upto jsonQuoteSpec)) jsonQuoteUptoCard

/-- THE SECOND FORM's CARD OF 'canarylaw21.JsonUnquote'. -/
def jsonUnquoteUptoCard : Claim7 := { stood := { row := jsonUnquoteUptoRow, standIns := [], harness := (true, "670def0d410f648796f4b10917e69b1d13b62c9260330735313983a6d8dd6d24"), looks := false }, kinds := [], alts := [], laidByText := true, laidKinds := [.data, .data, .data], laidTests := true, laidLooks := .later }
def JsonUnquoteUptoCardSaid : Prop := Claim7.holds Tryd.pinned (.plain (OpenSpec.upto jsonUnquoteSpec)) jsonUnquoteUptoCard

/-- THE SECOND FORM's CARD OF 'canarylaw22.ReportAdd'. -/
def reportAddUptoCard : Claim7 := { stood := { row := reportAddUptoRow, standIns := [], harness := (true, "670def0d410f648796f4b10917e69b1d13b62c9260330735313983a6d8dd6d24"), looks := false }, kinds := [], alts := [], laidByText := true, laidKinds := [.data, .data, .data], laidTests := true, laidLooks := .later }
def ReportAddUptoCardSaid : Prop := Claim7.holds Tryd.pinned (.plain (OpenSpec.upto reportAddSpec)) reportAddUptoCard

/-- THE SECOND FORM's CARD OF 'canarylaw22.ReportText'. -/
def reportTextUptoCard : Claim7 := { stood := { row := reportTextUptoRow, standIns := [], harness := (true, "670def0d410f648796f4b10917e69b1d13b62c9260330735313983a6d8dd6d24"), looks := false }, kinds := [], alts := [], laidByText := true, laidKinds := [.data, .data, .data], laidTests := true, laidLooks := .later }
def ReportTextUptoCardSaid : Prop := Claim7.holds Tryd.pinned (.plain (OpenSpec.upto reportTextSpec)) reportTextUptoCard

/-- THE SECOND FORM's CARD OF 'canarylaw22.ReportLast'. -/
def reportLastUptoCard : Claim7 := { stood := { row := reportLastUptoRow, standIns := [], harness := (true, "670def0d410f648796f4b10917e69b1d13b62c9260330735313983a6d8dd6d24"), looks := false }, kinds := [], alts := [], laidByText := true, laidKinds := [.data, .data, .data], laidTests := true, laidLooks := .later }
def ReportLastUptoCardSaid : Prop := Claim7.holds Tryd.pinned (.plain (OpenSpec.upto reportLastSpec)) reportLastUptoCard

/-- THE SECOND FORM's CARD OF 'canarylaw22.ReportFull'. -/
def reportFullUptoCard : Claim7 := { stood := { row := reportFullUptoRow, standIns := [], harness := (true, "670def0d410f648796f4b10917e69b1d13b62c9260330735313983a6d8dd6d24"), looks := false }, kinds := [], alts := [], laidByText := true, laidKinds := [.data, .data, .data], laidTests := true, laidLooks := .later }
def ReportFullUptoCardSaid : Prop := Claim7.holds Tryd.pinned (.plain (OpenSpec.upto reportFullSpec)) reportFullUptoCard
end Rows
end Go.Proofs.YtpogmmcfkdofhaaDoor

/-
  DERIVED. GIVEN WITH THE SEED: THE CARDS: each row of YtiokdhklhnhfhaaDoorRows.lean that lists a variable, with what it lists TIED to the program's text (the seventh form; the later family's looks); each row that meets fmt, with fmt's text TOLD by the authors' own Lean function (tested against real Go, not proved from fmt's source: count such statements apart). THE CARD IS WHAT COUNTS. Prove the row's statement (the work); the ties are given (YtiokdhklhnhfhaaDoorTie.lean); close each card by the builder's one call (the guide's Derived/Test/ToyasCard.lean, 'card_holds'). Laid BY PROGRAM, IN A SANDBOX (cutbox-door.mjs). By AI agents, Wed Nov 11 2026. No macro, syntax, notation, axiom, sorry.
-/
import Derived.Test.YtiokdhklhnhfhaaDoorRows
import GoSem.ClaimSeven
namespace Go.Proofs.YtiokdhklhnhfhaaDoor
namespace Rows

/-- THE TIED CARD OF 'canarylaw26.ListenerHandle'. -/
def listenerHandleCard : Claim7 := { stood := { row := listenerHandleRow, standIns := [], harness := (true, "ace319e6c0aba5af74c7ca85956221101a5afaf86f86ef14f57d5b0c1eec7b5d"), looks := false }, kinds := [], alts := [], laidByText := true, laidKinds := [.data, .data, .data, .data], laidTests := true, laidLooks := .later }
def ListenerHandleCardSaid : Prop := Claim7.holds Tryd.pinned (.plain (OpenSpec.ofChange listenerHandleSpec)) listenerHandleCard

/-- THE TIED CARD OF 'canarylaw26.ListenerHead'. -/
def listenerHeadCard : Claim7 := { stood := { row := listenerHeadRow, standIns := [], harness := (true, "ace319e6c0aba5af74c7ca85956221101a5afaf86f86ef14f57d5b0c1eec7b5d"), looks := false }, kinds := [], alts := [], laidByText := true, laidKinds := [.data, .data, .data, .data], laidTests := true, laidLooks := .later }
def ListenerHeadCardSaid : Prop := Claim7.holds Tryd.pinned (.plain (OpenSpec.ofChange listenerHeadSpec)) listenerHeadCard

/-- THE TIED CARD OF 'canarylaw09.ChunkedFeed'. -/
def chunkedFeedCard : Claim7 := { stood := { row := chunkedFeedRow, standIns := [], harness := (true, "ace319e6c0aba5af74c7ca85956221101a5afaf86f86ef14f57d5b0c1eec7b5d"), looks := false }, kinds := [], alts := [], laidByText := true, laidKinds := [.data, .data, .data], laidTests := true, laidLooks := .later }
def ChunkedFeedCardSaid : Prop := Claim7.holds Tryd.pinned (.plain (OpenSpec.ofChange chunkedFeedSpec)) chunkedFeedCard

/-- THE TIED CARD OF 'canarylaw09.ChunkedPieces'. -/
def chunkedPiecesCard : Claim7 := { stood := { row := chunkedPiecesRow, standIns := [], harness := (true, "ace319e6c0aba5af74c7ca85956221101a5afaf86f86ef14f57d5b0c1eec7b5d"), looks := false }, kinds := [], alts := [], laidByText := true, laidKinds := [.data, .data, .data], laidTests := true, laidLooks := .later }
def ChunkedPiecesCardSaid : Prop := Claim7.holds Tryd.pinned (.plain (OpenSpec.ofChange chunkedPiecesSpec)) chunkedPiecesCard

/-- THE TIED CARD OF 'canarylaw09.ChunkedDecode'. -/
def chunkedDecodeCard : Claim7 := { stood := { row := chunkedDecodeRow, standIns := [], harness := (true, "ace319e6c0aba5af74c7ca85956221101a5afaf86f86ef14f57d5b0c1eec7b5d"), looks := false }, kinds := [], alts := [], laidByText := true, laidKinds := [.data, .data, .data], laidTests := true, laidLooks := .later }
def ChunkedDecodeCardSaid : Prop := Claim7.holds Tryd.pinned (.plain (OpenSpec.ofChange chunkedDecodeSpec)) chunkedDecodeCard

/-- THE TIED CARD OF 'canarylaw09.ChunkedEncode'. -/
def chunkedEncodeCard : Claim7 := { stood := { row := chunkedEncodeRow, standIns := [], harness := (true, "ace319e6c0aba5af74c7ca85956221101a5afaf86f86ef14f57d5b0c1eec7b5d"), looks := false }, kinds := [], alts := [], laidByText := true, laidKinds := [.data, .data, .data], laidTests := true, laidLooks := .later }
def ChunkedEncodeCardSaid : Prop := Claim7.holds Tryd.pinned (.plain (OpenSpec.ofChange chunkedEncodeSpec)) chunkedEncodeCard

/-- THE TIED CARD OF 'canarylaw09.ChunkedTorn'. -/
def chunkedTornCard : Claim7 := { stood := { row := chunkedTornRow, standIns := [], harness := (true, "ace319e6c0aba5af74c7ca85956221101a5afaf86f86ef14f57d5b0c1eec7b5d"), looks := false }, kinds := [], alts := [], laidByText := true, laidKinds := [.data, .data, .data], laidTests := true, laidLooks := .later }
def ChunkedTornCardSaid : Prop := Claim7.holds Tryd.pinned (.plain (OpenSpec.ofChange chunkedTornSpec)) chunkedTornCard

/-- THE TIED CARD OF 'canarylaw09.ChunkedLimits'. -/
def chunkedLimitsCard : Claim7 := { stood := { row := chunkedLimitsRow, standIns := [], harness := (true, "ace319e6c0aba5af74c7ca85956221101a5afaf86f86ef14f57d5b0c1eec7b5d"), looks := false }, kinds := [], alts := [], laidByText := true, laidKinds := [.data, .data, .data], laidTests := true, laidLooks := .later }
def ChunkedLimitsCardSaid : Prop := Claim7.holds Tryd.pinned (.plain (OpenSpec.ofChange chunkedLimitsSpec)) chunkedLimitsCard

/-- THE TIED CARD OF 'canarylaw25.AdminReads'. -/
def adminReadsCard : Claim7 := { stood := { row := adminReadsRow, standIns := [], harness := (true, "ace319e6c0aba5af74c7ca85956221101a5afaf86f86ef14f57d5b0c1eec7b5d"), looks := false }, kinds := [], alts := [], laidByText := true, laidKinds := [.data, .data, .data, .data, .data, .data], laidTests := true, laidLooks := .later }
def AdminReadsCardSaid : Prop := Claim7.holds Tryd.pinned (.plain (OpenSpec.ofChange adminReadsSpec)) adminReadsCard

/-- THE TIED CARD OF 'canarylaw25.AdminLength'. -/
def adminLengthCard : Claim7 := { stood := { row := adminLengthRow, standIns := [], harness := (true, "ace319e6c0aba5af74c7ca85956221101a5afaf86f86ef14f57d5b0c1eec7b5d"), looks := false }, kinds := [], alts := [], laidByText := true, laidKinds := [.data, .data, .data, .data, .data, .data], laidTests := true, laidLooks := .later }
def AdminLengthCardSaid : Prop := Claim7.holds Tryd.pinned (.plain (OpenSpec.ofChange adminLengthSpec)) adminLengthCard

/-- THE TIED CARD OF 'canarylaw25.AdminCommands'. -/
def adminCommandsCard : Claim7 := { stood := { row := adminCommandsRow, standIns := [], harness := (true, "ace319e6c0aba5af74c7ca85956221101a5afaf86f86ef14f57d5b0c1eec7b5d"), looks := false }, kinds := [], alts := [], laidByText := true, laidKinds := [.data, .data, .data, .data, .data, .data], laidTests := true, laidLooks := .later }
def AdminCommandsCardSaid : Prop := Claim7.holds Tryd.pinned (.plain (OpenSpec.ofChange adminCommandsSpec)) adminCommandsCard

/-- THE TIED CARD OF 'canarylaw19.NormalOrder'. -/
def normalOrderCard : Claim7 := { stood := { row := normalOrderRow, standIns := [], harness := (true, "ace319e6c0aba5af74c7ca85956221101a5afaf86f86ef14f57d5b0c1eec7b5d"), looks := false }, kinds := [], alts := [], laidByText := true, laidKinds := [.data, .pinned], laidTests := true, laidLooks := .later }
def NormalOrderCardSaid : Prop := Claim7.holds Tryd.pinned (.plain (OpenSpec.ofChange normalOrderSpec)) normalOrderCard

/-- THE TIED CARD OF 'canarylaw19.NormalTwice'. -/
def normalTwiceCard : Claim7 := { stood := { row := normalTwiceRow, standIns := [], harness := (true, "ace319e6c0aba5af74c7ca85956221101a5afaf86f86ef14f57d5b0c1eec7b5d"), looks := false }, kinds := [], alts := [], laidByText := true, laidKinds := [.data, .pinned], laidTests := true, laidLooks := .later }
def NormalTwiceCardSaid : Prop := Claim7.holds Tryd.pinned (.plain (OpenSpec.ofChange normalTwiceSpec)) normalTwiceCard

/-- THE SECOND FORM's CARD OF 'canarylaw26.ListenerHandle'. -/
def listenerHandleUptoCard : Claim7 := { stood := { row := listenerHandleUptoRow, standIns := [], harness := (true, "ace319e6c0aba5af74c7ca85956221101a5afaf86f86ef14f57d5b0c1eec7b5d"), looks := false }, kinds := [], alts := [], laidByText := true, laidKinds := [.data, .data, .data, .data], laidTests := true, laidLooks := .later }
def ListenerHandleUptoCardSaid : Prop := Claim7.holds Tryd.pinned (.plain (OpenSpec.upto listenerHandleSpec)) listenerHandleUptoCard

/-- THE SECOND FORM's CARD OF 'canarylaw26.ListenerHead'. -/
def listenerHeadUptoCard : Claim7 := { stood := { row := listenerHeadUptoRow, standIns := [], harness := (true, "ace319e6c0aba5af74c7ca85956221101a5afaf86f86ef14f57d5b0c1eec7b5d"), looks := false }, kinds := [], alts := [], laidByText := true, laidKinds := [.data, .data, .data, .data], laidTests := true, laidLooks := .later }
def ListenerHeadUptoCardSaid : Prop := Claim7.holds Tryd.pinned (.plain (OpenSpec.upto listenerHeadSpec)) listenerHeadUptoCard

/-- THE SECOND FORM's CARD OF 'canarylaw09.ChunkedFeed'. -/
def chunkedFeedUptoCard : Claim7 := { stood := { row := chunkedFeedUptoRow, standIns := [], harness := (true, "ace319e6c0aba5af74c7ca85956221101a5afaf86f86ef14f57d5b0c1eec7b5d"), looks := false }, kinds := [], alts := [], laidByText := true, laidKinds := [.data, .data, .data], laidTests := true, laidLooks := .later }
def ChunkedFeedUptoCardSaid : Prop := Claim7.holds Tryd.pinned (.plain (OpenSpec.upto chunkedFeedSpec)) chunkedFeedUptoCard

/-- THE SECOND FORM's CARD OF 'canarylaw09.ChunkedPieces'. -/
def chunkedPiecesUptoCard : Claim7 := { stood := { row := chunkedPiecesUptoRow, standIns := [], harness := (true, "ace319e6c0aba5af74c7ca85956221101a5afaf86f86ef14f57d5b0c1eec7b5d"), looks := false }, kinds := [], alts := [], laidByText := true, laidKinds := [.data, .data, .data], laidTests := true, laidLooks := .later }
def ChunkedPiecesUptoCardSaid : Prop := Claim7.holds Tryd.pinned (.plain (OpenSpec.upto chunkedPiecesSpec)) chunkedPiecesUptoCard

/-- THE SECOND FORM's CARD OF 'canarylaw09.ChunkedDecode'. -/
def chunkedDecodeUptoCard : Claim7 := { stood := { row := chunkedDecodeUptoRow, standIns := [], harness := (true, "ace319e6c0aba5af74c7ca85956221101a5afaf86f86ef14f57d5b0c1eec7b5d"), looks := false }, kinds := [], alts := [], laidByText := true, laidKinds := [.data, .data, .data], laidTests := true, laidLooks := .later }
def ChunkedDecodeUptoCardSaid : Prop := Claim7.holds Tryd.pinned (.plain (OpenSpec.upto chunkedDecodeSpec)) chunkedDecodeUptoCard

/-- THE SECOND FORM's CARD OF 'canarylaw09.ChunkedEncode'. -/
def chunkedEncodeUptoCard : Claim7 := { stood := { row := chunkedEncodeUptoRow, standIns := [], harness := (true, "ace319e6c0aba5af74c7ca85956221101a5afaf86f86ef14f57d5b0c1eec7b5d"), looks := false }, kinds := [], alts := [], laidByText := true, laidKinds := [.data, .data, .data], laidTests := true, laidLooks := .later }
def ChunkedEncodeUptoCardSaid : Prop := Claim7.holds Tryd.pinned (.plain (OpenSpec.upto chunkedEncodeSpec)) chunkedEncodeUptoCard

/-- THE SECOND FORM's CARD OF 'canarylaw09.ChunkedTorn'. -/
def chunkedTornUptoCard : Claim7 := { stood := { row := chunkedTornUptoRow, standIns := [], harness := (true, "ace319e6c0aba5af74c7ca85956221101a5afaf86f86ef14f57d5b0c1eec7b5d"), looks := false }, kinds := [], alts := [], laidByText := true, laidKinds := [.data, .data, .data], laidTests := true, laidLooks := .later }
def ChunkedTornUptoCardSaid : Prop := Claim7.holds Tryd.pinned (.plain (OpenSpec.upto chunkedTornSpec)) chunkedTornUptoCard

/-- THE SECOND FORM's CARD OF 'canarylaw09.ChunkedLimits'. -/
def chunkedLimitsUptoCard : Claim7 := { stood := { row := chunkedLimitsUptoRow, standIns := [], harness := (true, "ace319e6c0aba5af74c7ca85956221101a5afaf86f86ef14f57d5b0c1eec7b5d"), looks := false }, kinds := [], alts := [], laidByText := true, laidKinds := [.data, .data, .data], laidTests := true, laidLooks := .later }
def ChunkedLimitsUptoCardSaid : Prop := Claim7.holds Tryd.pinned (.plain (OpenSpec.upto chunkedLimitsSpec)) chunkedLimitsUptoCard

/-- THE SECOND FORM's CARD OF 'canarylaw25.AdminReads'. -/
def adminReadsUptoCard : Claim7 := { stood := { row := adminReadsUptoRow, standIns := [], harness := (true, "ace319e6c0aba5af74c7ca85956221101a5afaf86f86ef14f57d5b0c1eec7b5d"), looks := false }, kinds := [], alts := [], laidByText := true, laidKinds := [.data, .data, .data, .data, .data, .data], laidTests := true, laidLooks := .later }
def AdminReadsUptoCardSaid : Prop := Claim7.holds Tryd.pinned (.plain (OpenSpec.upto adminReadsSpec)) adminReadsUptoCard

/-- THE SECOND FORM's CARD OF 'canarylaw25.AdminLength'. -/
def adminLengthUptoCard : Claim7 := { stood := { row := adminLengthUptoRow, standIns := [], harness := (true, "ace319e6c0aba5af74c7ca85956221101a5afaf86f86ef14f57d5b0c1eec7b5d"), looks := false }, kinds := [], alts := [], laidByText := true, laidKinds := [.data, .data, .data, .data, .data, .data], laidTests := true, laidLooks := .later }
def AdminLengthUptoCardSaid : Prop := Claim7.holds Tryd.pinned (.plain (OpenSpec.upto adminLengthSpec)) adminLengthUptoCard

/-- THE SECOND FORM's CARD OF 'canarylaw25.AdminCommands'. -/
def adminCommandsUptoCard : Claim7 := { stood := { row := adminCommandsUptoRow, standIns := [], harness := (true, "ace319e6c0aba5af74c7ca85956221101a5afaf86f86ef14f57d5b0c1eec7b5d"), looks := false }, kinds := [], alts := [], laidByText := true, laidKinds := [.data, .data, .data, .data, .data, .data], laidTests := true, laidLooks := .later }
def AdminCommandsUptoCardSaid : Prop := Claim7.holds Tryd.pinned (.plain (OpenSpec.upto adminCommandsSpec)) adminCommandsUptoCard

/-- THE SECOND FORM's CARD OF 'canarylaw19.NormalOrder'. -/
def normalOrderUptoCard : Claim7 := { stood := { row := normalOrderUptoRow, standIns := [], harness := (true, "ace319e6c0aba5af74c7ca85956221101a5afaf86f86ef14f57d5b0c1eec7b5d"), looks := false }, kinds := [], alts := [], laidByText := true, laidKinds := [.data, .pinned], laidTests := true, laidLooks := .later }
def NormalOrderUptoCardSaid : Prop := Claim7.holds Tryd.pinned (.plain (OpenSpec.upto normalOrderSpec)) normalOrderUptoCard

/-- THE SECOND FORM's CARD OF 'canarylaw19.NormalTwice'. -/
def normalTwiceUptoCard : Claim7 := { stood := { row := normalTwiceUptoRow, standIns := [], harness := (true, "ace319e6c0aba5af74c7ca85956221101a5afaf86f86ef14f57d5b0c1eec7b5d"), looks := false }, kinds := [], alts := [], laidByText := true, laidKinds := [.data, .pinned], laidTests := true, laidLooks := .later }
def NormalTwiceUptoCardSaid : Prop := Claim7.holds Tryd.pinned (.plain (OpenSpec.upto normalTwiceSpec)) normalTwiceUptoCard
end Rows
end Go.Proofs.YtiokdhklhnhfhaaDoor

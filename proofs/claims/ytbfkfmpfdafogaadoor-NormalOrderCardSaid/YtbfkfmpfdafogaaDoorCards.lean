/-
  DERIVED. GIVEN WITH THE SEED: THE CARDS: each row of YtbfkfmpfdafogaaDoorRows.lean that lists a variable, with what it lists TIED to the program's text (the seventh form; the later family's looks); each row that meets fmt, with fmt's text TOLD by the authors' own Lean function (tested against real Go, not proved from fmt's source: count such statements apart). THE CARD IS WHAT COUNTS. Prove the row's statement (the work); the ties are given (YtbfkfmpfdafogaaDoorTie.lean); close each card by the builder's one call (the guide's Derived/Test/ToyasCard.lean, 'card_holds'). Laid BY PROGRAM, IN A SANDBOX (cutbox-door.mjs). By AI agents, Wed Nov 11 2026. No macro, syntax, notation, axiom, sorry.
-/
import Derived.Test.YtbfkfmpfdafogaaDoorRows
import GoSem.ClaimSeven
namespace Go.Proofs.YtbfkfmpfdafogaaDoor
namespace Rows

/-- THE TIED CARD OF 'canarylaw19.NormalOrder'. -/
def normalOrderCard : Claim7 := { stood := { row := normalOrderRow, standIns := [], harness := (true, "7a441a827c4d63d17f10bd56b240fc0d705d8f7e9ddfa7b7260fe12352475d8a"), looks := false }, kinds := [], alts := [], laidByText := true, laidKinds := [.data, .pinned], laidTests := true, laidLooks := .later }
def NormalOrderCardSaid : Prop := Claim7.holds Tryd.pinned (.plain (OpenSpec.ofChange normalOrderSpec)) normalOrderCard

/-- THE TIED CARD OF 'canarylaw19.NormalTwice'. -/
def normalTwiceCard : Claim7 := { stood := { row := normalTwiceRow, standIns := [], harness := (true, "7a441a827c4d63d17f10bd56b240fc0d705d8f7e9ddfa7b7260fe12352475d8a"), looks := false }, kinds := [], alts := [], laidByText := true, laidKinds := [.data, .pinned], laidTests := true, laidLooks := .later }
def NormalTwiceCardSaid : Prop := Claim7.holds Tryd.pinned (.plain (OpenSpec.ofChange normalTwiceSpec)) normalTwiceCard

/-- THE SECOND FORM's CARD OF 'canarylaw19.NormalOrder'. -/
def normalOrderUptoCard : Claim7 := { stood := { row := normalOrderUptoRow, standIns := [], harness := (true, "7a441a827c4d63d17f10bd56b240fc0d705d8f7e9ddfa7b7260fe12352475d8a"), looks := false }, kinds := [], alts := [], laidByText := true, laidKinds := [.data, .pinned], laidTests := true, laidLooks := .later }
def NormalOrderUptoCardSaid : Prop := Claim7.holds Tryd.pinned (.plain (OpenSpec.upto normalOrderSpec)) normalOrderUptoCard

/-- THE SECOND FORM's CARD OF 'canarylaw19.NormalTwice'. -/
def normalTwiceUptoCard : Claim7 := { stood := { row := normalTwiceUptoRow, standIns := [], harness := (true, "7a441a827c4d63d17f10bd56b240fc0d705d8f7e9ddfa7b7260fe12352475d8a"), looks := false }, kinds := [], alts := [], laidByText := true, laidKinds := [.data, .pinned], laidTests := true, laidLooks := .later }
def NormalTwiceUptoCardSaid : Prop := Claim7.holds Tryd.pinned (.plain (OpenSpec.upto normalTwiceSpec)) normalTwiceUptoCard
end Rows
end Go.Proofs.YtbfkfmpfdafogaaDoor

/-
  DERIVED. GIVEN WITH THE SEED: THE CARDS: each row of YtgfplpkmcdpbeaaDoorRows.lean that lists a variable, with what it lists TIED to the program's text (the seventh form; the later family's looks); each row that meets fmt, with fmt's text TOLD by the authors' own Lean function (tested against real Go, not proved from fmt's source: count such statements apart). THE CARD IS WHAT COUNTS. Prove the row's statement (the work); the ties are given (YtgfplpkmcdpbeaaDoorTie.lean); close each card by the builder's one call (the guide's Derived/Test/ToyasCard.lean, 'card_holds'). Laid BY PROGRAM, IN A SANDBOX (cutbox-door.mjs). By AI agents, Wed Nov 11 2026. No macro, syntax, notation, axiom, sorry.
-/
import Derived.Test.YtgfplpkmcdpbeaaDoorRows
import GoSem.ClaimSeven
namespace Go.Proofs.YtgfplpkmcdpbeaaDoor
namespace Rows

/-- THE TIED CARD OF 'cordwoodlaw05.IndexIs'. -/
def indexIsCard : Claim7 := { stood := { row := indexIsRow, standIns := [], harness := (true, "07794d09061703ef7dcbf8e948a813d4b4a7ef6535b08188deabf004d639899c"), looks := false }, kinds := [], alts := [], laidByText := true, laidKinds := [.data, .data], laidTests := true, laidLooks := .later }
def IndexIsCardSaid : Prop := Claim7.holds Tryd.pinned (.plain (OpenSpec.ofChange indexIsSpec)) indexIsCard

/-- THE TIED CARD OF 'cordwoodlaw05.IndexBack'. -/
def indexBackCard : Claim7 := { stood := { row := indexBackRow, standIns := [], harness := (true, "07794d09061703ef7dcbf8e948a813d4b4a7ef6535b08188deabf004d639899c"), looks := false }, kinds := [], alts := [], laidByText := true, laidKinds := [.data, .data], laidTests := true, laidLooks := .later }
def IndexBackCardSaid : Prop := Claim7.holds Tryd.pinned (.plain (OpenSpec.ofChange indexBackSpec)) indexBackCard

/-- THE TIED CARD OF 'cordwoodlaw05.IndexUp'. -/
def indexUpCard : Claim7 := { stood := { row := indexUpRow, standIns := [], harness := (true, "07794d09061703ef7dcbf8e948a813d4b4a7ef6535b08188deabf004d639899c"), looks := false }, kinds := [], alts := [], laidByText := true, laidKinds := [.data, .data], laidTests := true, laidLooks := .later }
def IndexUpCardSaid : Prop := Claim7.holds Tryd.pinned (.plain (OpenSpec.ofChange indexUpSpec)) indexUpCard

/-- THE TIED CARD OF 'cordwoodlaw05.IndexGrows'. -/
def indexGrowsCard : Claim7 := { stood := { row := indexGrowsRow, standIns := [], harness := (true, "07794d09061703ef7dcbf8e948a813d4b4a7ef6535b08188deabf004d639899c"), looks := false }, kinds := [], alts := [], laidByText := true, laidKinds := [.data, .data], laidTests := true, laidLooks := .later }
def IndexGrowsCardSaid : Prop := Claim7.holds Tryd.pinned (.plain (OpenSpec.ofChange indexGrowsSpec)) indexGrowsCard

/-- THE TIED CARD OF 'cordwoodlaw05.IndexLeaves'. -/
def indexLeavesCard : Claim7 := { stood := { row := indexLeavesRow, standIns := [], harness := (true, "07794d09061703ef7dcbf8e948a813d4b4a7ef6535b08188deabf004d639899c"), looks := false }, kinds := [], alts := [], laidByText := true, laidKinds := [.data, .data], laidTests := true, laidLooks := .later }
def IndexLeavesCardSaid : Prop := Claim7.holds Tryd.pinned (.plain (OpenSpec.ofChange indexLeavesSpec)) indexLeavesCard

/-- THE TIED CARD OF 'cordwoodlaw05.IndexSame'. -/
def indexSameCard : Claim7 := { stood := { row := indexSameRow, standIns := [], harness := (true, "07794d09061703ef7dcbf8e948a813d4b4a7ef6535b08188deabf004d639899c"), looks := false }, kinds := [], alts := [], laidByText := true, laidKinds := [.data, .data], laidTests := true, laidLooks := .later }
def IndexSameCardSaid : Prop := Claim7.holds Tryd.pinned (.plain (OpenSpec.ofChange indexSameSpec)) indexSameCard

/-- THE TIED CARD OF 'cordwoodlaw06.WalkIs'. -/
def walkIsCard : Claim7 := { stood := { row := walkIsRow, standIns := [], harness := (true, "07794d09061703ef7dcbf8e948a813d4b4a7ef6535b08188deabf004d639899c"), looks := false }, kinds := [], alts := [], laidByText := true, laidKinds := [.data, .data], laidTests := true, laidLooks := .later }
def WalkIsCardSaid : Prop := Claim7.holds Tryd.pinned (.plain (OpenSpec.ofChange walkIsSpec)) walkIsCard

/-- THE TIED CARD OF 'cordwoodlaw06.WalkBeside'. -/
def walkBesideCard : Claim7 := { stood := { row := walkBesideRow, standIns := [], harness := (true, "07794d09061703ef7dcbf8e948a813d4b4a7ef6535b08188deabf004d639899c"), looks := false }, kinds := [], alts := [], laidByText := true, laidKinds := [.data, .data], laidTests := true, laidLooks := .later }
def WalkBesideCardSaid : Prop := Claim7.holds Tryd.pinned (.plain (OpenSpec.ofChange walkBesideSpec)) walkBesideCard

/-- THE TIED CARD OF 'cordwoodlaw06.WalkLength'. -/
def walkLengthCard : Claim7 := { stood := { row := walkLengthRow, standIns := [], harness := (true, "07794d09061703ef7dcbf8e948a813d4b4a7ef6535b08188deabf004d639899c"), looks := false }, kinds := [], alts := [], laidByText := true, laidKinds := [.data, .data], laidTests := true, laidLooks := .later }
def WalkLengthCardSaid : Prop := Claim7.holds Tryd.pinned (.plain (OpenSpec.ofChange walkLengthSpec)) walkLengthCard

/-- THE TIED CARD OF 'cordwoodlaw06.WalkMeets'. -/
def walkMeetsCard : Claim7 := { stood := { row := walkMeetsRow, standIns := [], harness := (true, "07794d09061703ef7dcbf8e948a813d4b4a7ef6535b08188deabf004d639899c"), looks := false }, kinds := [], alts := [], laidByText := true, laidKinds := [.data, .data], laidTests := true, laidLooks := .later }
def WalkMeetsCardSaid : Prop := Claim7.holds Tryd.pinned (.plain (OpenSpec.ofChange walkMeetsSpec)) walkMeetsCard

/-- THE TIED CARD OF 'cordwoodlaw06.WalkCommon'. -/
def walkCommonCard : Claim7 := { stood := { row := walkCommonRow, standIns := [], harness := (true, "07794d09061703ef7dcbf8e948a813d4b4a7ef6535b08188deabf004d639899c"), looks := false }, kinds := [], alts := [], laidByText := true, laidKinds := [.data, .data], laidTests := true, laidLooks := .later }
def WalkCommonCardSaid : Prop := Claim7.holds Tryd.pinned (.plain (OpenSpec.ofChange walkCommonSpec)) walkCommonCard

/-- THE TIED CARD OF 'cordwoodlaw06.WalkBelow'. -/
def walkBelowCard : Claim7 := { stood := { row := walkBelowRow, standIns := [], harness := (true, "07794d09061703ef7dcbf8e948a813d4b4a7ef6535b08188deabf004d639899c"), looks := false }, kinds := [], alts := [], laidByText := true, laidKinds := [.data, .data], laidTests := true, laidLooks := .later }
def WalkBelowCardSaid : Prop := Claim7.holds Tryd.pinned (.plain (OpenSpec.ofChange walkBelowSpec)) walkBelowCard

/-- THE SECOND FORM's CARD OF 'cordwoodlaw05.IndexIs'. -/
def indexIsUptoCard : Claim7 := { stood := { row := indexIsUptoRow, standIns := [], harness := (true, "07794d09061703ef7dcbf8e948a813d4b4a7ef6535b08188deabf004d639899c"), looks := false }, kinds := [], alts := [], laidByText := true, laidKinds := [.data, .data], laidTests := true, laidLooks := .later }
def IndexIsUptoCardSaid : Prop := Claim7.holds Tryd.pinned (.plain (OpenSpec.upto indexIsSpec)) indexIsUptoCard

/-- THE SECOND FORM's CARD OF 'cordwoodlaw05.IndexBack'. -/
def indexBackUptoCard : Claim7 := { stood := { row := indexBackUptoRow, standIns := [], harness := (true, "07794d09061703ef7dcbf8e948a813d4b4a7ef6535b08188deabf004d639899c"), looks := false }, kinds := [], alts := [], laidByText := true, laidKinds := [.data, .data], laidTests := true, laidLooks := .later }
def IndexBackUptoCardSaid : Prop := Claim7.holds Tryd.pinned (.plain (OpenSpec.upto indexBackSpec)) indexBackUptoCard

/-- THE SECOND FORM's CARD OF 'cordwoodlaw05.IndexUp'. -/
def indexUpUptoCard : Claim7 := { stood := { row := indexUpUptoRow, standIns := [], harness := (true, "07794d09061703ef7dcbf8e948a813d4b4a7ef6535b08188deabf004d639899c"), looks := false }, kinds := [], alts := [], laidByText := true, laidKinds := [.data, .data], laidTests := true, laidLooks := .later }
def IndexUpUptoCardSaid : Prop := Claim7.holds Tryd.pinned (.plain (OpenSpec.upto indexUpSpec)) indexUpUptoCard

/-- THE SECOND FORM's CARD OF 'cordwoodlaw05.IndexGrows'. -/
def indexGrowsUptoCard : Claim7 := { stood := { row := indexGrowsUptoRow, standIns := [], harness := (true, "07794d09061703ef7dcbf8e948a813d4b4a7ef6535b08188deabf004d639899c"), looks := false }, kinds := [], alts := [], laidByText := true, laidKinds := [.data, .data], laidTests := true, laidLooks := .later }
def IndexGrowsUptoCardSaid : Prop := Claim7.holds Tryd.pinned (.plain (OpenSpec.upto indexGrowsSpec)) indexGrowsUptoCard

/-- THE SECOND FORM's CARD OF 'cordwoodlaw05.IndexLeaves'. -/
def indexLeavesUptoCard : Claim7 := { stood := { row := indexLeavesUptoRow, standIns := [], harness := (true, "07794d09061703ef7dcbf8e948a813d4b4a7ef6535b08188deabf004d639899c"), looks := false }, kinds := [], alts := [], laidByText := true, laidKinds := [.data, .data], laidTests := true, laidLooks := .later }
def IndexLeavesUptoCardSaid : Prop := Claim7.holds Tryd.pinned (.plain (OpenSpec.upto indexLeavesSpec)) indexLeavesUptoCard

/-- THE SECOND FORM's CARD OF 'cordwoodlaw05.IndexSame'. -/
def indexSameUptoCard : Claim7 := { stood := { row := indexSameUptoRow, standIns := [], harness := (true, "07794d09061703ef7dcbf8e948a813d4b4a7ef6535b08188deabf004d639899c"), looks := false }, kinds := [], alts := [], laidByText := true, laidKinds := [.data, .data], laidTests := true, laidLooks := .later }
def IndexSameUptoCardSaid : Prop := Claim7.holds Tryd.pinned (.plain (OpenSpec.upto indexSameSpec)) indexSameUptoCard

/-- THE SECOND FORM's CARD OF 'cordwoodlaw06.WalkIs'. -/
def walkIsUptoCard : Claim7 := { stood := { row := walkIsUptoRow, standIns := [], harness := (true, "07794d09061703ef7dcbf8e948a813d4b4a7ef6535b08188deabf004d639899c"), looks := false }, kinds := [], alts := [], laidByText := true, laidKinds := [.data, .data], laidTests := true, laidLooks := .later }
def WalkIsUptoCardSaid : Prop := Claim7.holds Tryd.pinned (.plain (OpenSpec.upto walkIsSpec)) walkIsUptoCard

/-- THE SECOND FORM's CARD OF 'cordwoodlaw06.WalkBeside'. -/
def walkBesideUptoCard : Claim7 := { stood := { row := walkBesideUptoRow, standIns := [], harness := (true, "07794d09061703ef7dcbf8e948a813d4b4a7ef6535b08188deabf004d639899c"), looks := false }, kinds := [], alts := [], laidByText := true, laidKinds := [.data, .data], laidTests := true, laidLooks := .later }
def WalkBesideUptoCardSaid : Prop := Claim7.holds Tryd.pinned (.plain (OpenSpec.upto walkBesideSpec)) walkBesideUptoCard

/-- THE SECOND FORM's CARD OF 'cordwoodlaw06.WalkLength'. -/
def walkLengthUptoCard : Claim7 := { stood := { row := walkLengthUptoRow, standIns := [], harness := (true, "07794d09061703ef7dcbf8e948a813d4b4a7ef6535b08188deabf004d639899c"), looks := false }, kinds := [], alts := [], laidByText := true, laidKinds := [.data, .data], laidTests := true, laidLooks := .later }
def WalkLengthUptoCardSaid : Prop := Claim7.holds Tryd.pinned (.plain (OpenSpec.upto walkLengthSpec)) walkLengthUptoCard

/-- THE SECOND FORM's CARD OF 'cordwoodlaw06.WalkMeets'. -/
def walkMeetsUptoCard : Claim7 := { stood := { row := walkMeetsUptoRow, standIns := [], harness := (true, "07794d09061703ef7dcbf8e948a813d4b4a7ef6535b08188deabf004d639899c"), looks := false }, kinds := [], alts := [], laidByText := true, laidKinds := [.data, .data], laidTests := true, laidLooks := .later }
def WalkMeetsUptoCardSaid : Prop := Claim7.holds Tryd.pinned (.plain (OpenSpec.upto walkMeetsSpec)) walkMeetsUptoCard

/-- THE SECOND FORM's CARD OF 'cordwoodlaw06.WalkCommon'. -/
def walkCommonUptoCard : Claim7 := { stood := { row := walkCommonUptoRow, standIns := [], harness := (true, "07794d09061703ef7dcbf8e948a813d4b4a7ef6535b08188deabf004d639899c"), looks := false }, kinds := [], alts := [], laidByText := true, laidKinds := [.data, .data], laidTests := true, laidLooks := .later }
def WalkCommonUptoCardSaid : Prop := Claim7.holds Tryd.pinned (.plain (OpenSpec.upto walkCommonSpec)) walkCommonUptoCard

/-- THE SECOND FORM's CARD OF 'cordwoodlaw06.WalkBelow'. -/
def walkBelowUptoCard : Claim7 := { stood := { row := walkBelowUptoRow, standIns := [], harness := (true, "07794d09061703ef7dcbf8e948a813d4b4a7ef6535b08188deabf004d639899c"), looks := false }, kinds := [], alts := [], laidByText := true, laidKinds := [.data, .data], laidTests := true, laidLooks := .later }
def WalkBelowUptoCardSaid : Prop := Claim7.holds Tryd.pinned (.plain (OpenSpec.upto walkBelowSpec)) walkBelowUptoCard
end Rows
end Go.Proofs.YtgfplpkmcdpbeaaDoor

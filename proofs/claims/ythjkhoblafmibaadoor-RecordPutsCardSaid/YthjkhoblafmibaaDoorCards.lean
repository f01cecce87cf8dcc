/-
  DERIVED. GIVEN WITH THE SEED: THE CARDS: each row of YthjkhoblafmibaaDoorRows.lean that lists a variable, with what it lists TIED to the program's text (the seventh form; the later family's looks); each row that meets fmt, with fmt's text TOLD by the authors' own Lean function (tested against real Go, not proved from fmt's source: count such statements apart). THE CARD IS WHAT COUNTS. Prove the row's statement (the work); the ties are given (YthjkhoblafmibaaDoorTie.lean); close each card by the builder's one call (the guide's Derived/Test/ToyasCard.lean, 'card_holds'). Laid BY PROGRAM, IN A SANDBOX (cutbox-door.mjs). By AI agents, Wed Nov 11 2026. No macro, syntax, notation, axiom, sorry.
-/
import Derived.Test.YthjkhoblafmibaaDoorRows
import GoSem.ClaimSeven
namespace Go.Proofs.YthjkhoblafmibaaDoor
namespace Rows

/-- THE TIED CARD OF 'passepartoutlaw18.RecordHeads'. -/
def recordHeadsCard : Claim7 := { stood := { row := recordHeadsRow, standIns := [], harness := (true, "9afde292191f1f88facd738c9afd8f5db9ce073f947323907810a6992864f514"), looks := false }, kinds := [], alts := [], laidByText := true, laidKinds := [.data], laidTests := true, laidLooks := .later }
def RecordHeadsCardSaid : Prop := Claim7.holds Tryd.pinned (.plain (OpenSpec.ofChange recordHeadsSpec)) recordHeadsCard

/-- THE TIED CARD OF 'passepartoutlaw18.RecordTypes'. -/
def recordTypesCard : Claim7 := { stood := { row := recordTypesRow, standIns := [], harness := (true, "9afde292191f1f88facd738c9afd8f5db9ce073f947323907810a6992864f514"), looks := false }, kinds := [], alts := [], laidByText := true, laidKinds := [.data], laidTests := true, laidLooks := .later }
def RecordTypesCardSaid : Prop := Claim7.holds Tryd.pinned (.plain (OpenSpec.ofChange recordTypesSpec)) recordTypesCard

/-- THE TIED CARD OF 'passepartoutlaw18.RecordBack'. -/
def recordBackCard : Claim7 := { stood := { row := recordBackRow, standIns := [], harness := (true, "9afde292191f1f88facd738c9afd8f5db9ce073f947323907810a6992864f514"), looks := false }, kinds := [], alts := [], laidByText := true, laidKinds := [.data], laidTests := true, laidLooks := .later }
def RecordBackCardSaid : Prop := Claim7.holds Tryd.pinned (.plain (OpenSpec.ofChange recordBackSpec)) recordBackCard

/-- THE TIED CARD OF 'passepartoutlaw18.RecordPuts'. -/
def recordPutsCard : Claim7 := { stood := { row := recordPutsRow, standIns := [], harness := (true, "9afde292191f1f88facd738c9afd8f5db9ce073f947323907810a6992864f514"), looks := false }, kinds := [], alts := [], laidByText := true, laidKinds := [.data], laidTests := true, laidLooks := .later }
def RecordPutsCardSaid : Prop := Claim7.holds Tryd.pinned (.plain (OpenSpec.ofChange recordPutsSpec)) recordPutsCard

/-- THE SECOND FORM's CARD OF 'passepartoutlaw18.RecordHeads'. -/
def recordHeadsUptoCard : Claim7 := { stood := { row := recordHeadsUptoRow, standIns := [], harness := (true, "9afde292191f1f88facd738c9afd8f5db9ce073f947323907810a6992864f514"), looks := false }, kinds := [], alts := [], laidByText := true, laidKinds := [.data], laidTests := true, laidLooks := .later }
def RecordHeadsUptoCardSaid : Prop := Claim7.holds Tryd.pinned (.plain (OpenSpec.upto recordHeadsSpec)) recordHeadsUptoCard

/-- THE SECOND FORM's CARD OF 'passepartoutlaw18.RecordTypes'. -/
def recordTypesUptoCard : Claim7 := { stood := { row := recordTypesUptoRow, standIns := [], harness := (true, "9afde292191f1f88facd738c9afd8f5db9ce073f947323907810a6992864f514"), looks := false }, kinds := [], alts := [], laidByText := true, laidKinds := [.data], laidTests := true, laidLooks := .later }
def RecordTypesUptoCardSaid : Prop := Claim7.holds Tryd.pinned (.plain (OpenSpec.upto recordTypesSpec)) recordTypesUptoCard

/-- THE SECOND FORM's CARD OF 'passepartoutlaw18.RecordBack'. -/
def recordBackUptoCard : Claim7 := { stood := { row := recordBackUptoRow, standIns := [], harness := (true, "9afde292191f1f88facd738c9afd8f5db9ce073f947323907810a6992864f514"), looks := false }, kinds := [], alts := [], laidByText := true, laidKinds := [.data], laidTests := true, laidLooks := .later }
def RecordBackUptoCardSaid : Prop := Claim7.holds Tryd.pinned (.plain (OpenSpec.upto recordBackSpec)) recordBackUptoCard

/-- THE SECOND FORM's CARD OF 'passepartoutlaw18.RecordPuts'. -/
def recordPutsUptoCard : Claim7 := { stood := { row := recordPutsUptoRow, standIns := [], harness := (true, "9afde292191f1f88facd738c9afd8f5db9ce073f947323907810a6992864f514"), looks := false }, kinds := [], alts := [], laidByText := true, laidKinds := [.data], laidTests := true, laidLooks := .later }
def RecordPutsUptoCardSaid : Prop := Claim7.holds Tryd.pinned (.plain (OpenSpec.upto recordPutsSpec)) recordPutsUptoCard
end Rows
end Go.Proofs.YthjkhoblafmibaaDoor

/-
  DERIVED. GIVEN WITH THE SEED: THE CARDS: each row of YtmdmdbiinngneaaDoorRows.lean that lists a variable, with what it lists TIED to the program's text (the seventh form; the later family's looks); each row that meets fmt, with fmt's text TOLD by the authors' own Lean function (tested against real Go, not proved from fmt's source: count such statements apart). THE CARD IS WHAT COUNTS. Prove the row's statement (the work); the ties are given (YtmdmdbiinngneaaDoorTie.lean); close each card by the builder's one call (the guide's Derived/Test/ToyasCard.lean, 'card_holds'). Laid BY PROGRAM, IN A SANDBOX (cutbox-door.mjs). By AI agents, Wed Nov 11 2026. No macro, syntax, notation, axiom, sorry.
-/
import Derived.Test.YtmdmdbiinngneaaDoorRows
import GoSem.ClaimSeven
namespace Go.Proofs.YtmdmdbiinngneaaDoor
namespace Rows

/-- THE TIED CARD OF 'carcanetlaw25.ScriptBack'. -/
def scriptBackCard : Claim7 := { stood := { row := scriptBackRow, standIns := [], harness := (true, "8542bd2f2a4c2b31673db820eb6fcbf11c9bf018cbd0501eb6711d4c38fe0748"), looks := true }, kinds := [], alts := [], laidByText := true, laidKinds := [.data, .data, .data, .sentinel, .sentinel], laidTests := true, laidLooks := .later }
def ScriptBackCardSaid : Prop := Claim7.holds Tryd.pinned (.plain (OpenSpec.ofChange scriptBackSpec)) scriptBackCard

/-- THE TIED CARD OF 'carcanetlaw25.ScriptLoads'. -/
def scriptLoadsCard : Claim7 := { stood := { row := scriptLoadsRow, standIns := [], harness := (true, "8542bd2f2a4c2b31673db820eb6fcbf11c9bf018cbd0501eb6711d4c38fe0748"), looks := true }, kinds := [], alts := [], laidByText := true, laidKinds := [.data, .data, .data, .sentinel, .sentinel], laidTests := true, laidLooks := .later }
def ScriptLoadsCardSaid : Prop := Claim7.holds Tryd.pinned (.plain (OpenSpec.ofChange scriptLoadsSpec)) scriptLoadsCard

/-- THE TIED CARD OF 'carcanetlaw25.ScriptLines'. -/
def scriptLinesCard : Claim7 := { stood := { row := scriptLinesRow, standIns := [], harness := (true, "8542bd2f2a4c2b31673db820eb6fcbf11c9bf018cbd0501eb6711d4c38fe0748"), looks := true }, kinds := [], alts := [], laidByText := true, laidKinds := [.data, .data, .data, .sentinel, .sentinel], laidTests := true, laidLooks := .later }
def ScriptLinesCardSaid : Prop := Claim7.holds Tryd.pinned (.plain (OpenSpec.ofChange scriptLinesSpec)) scriptLinesCard

/-- THE TIED CARD OF 'carcanetlaw25.ScriptMany'. -/
def scriptManyCard : Claim7 := { stood := { row := scriptManyRow, standIns := [], harness := (true, "8542bd2f2a4c2b31673db820eb6fcbf11c9bf018cbd0501eb6711d4c38fe0748"), looks := true }, kinds := [], alts := [], laidByText := true, laidKinds := [.data, .data, .data, .sentinel, .sentinel], laidTests := true, laidLooks := .later }
def ScriptManyCardSaid : Prop := Claim7.holds Tryd.pinned (.plain (OpenSpec.ofChange scriptManySpec)) scriptManyCard

/-- THE TIED CARD OF 'carcanetlaw25.ScriptPlaces'. -/
def scriptPlacesCard : Claim7 := { stood := { row := scriptPlacesRow, standIns := [], harness := (true, "8542bd2f2a4c2b31673db820eb6fcbf11c9bf018cbd0501eb6711d4c38fe0748"), looks := true }, kinds := [], alts := [], laidByText := true, laidKinds := [.data, .data, .data, .sentinel, .sentinel], laidTests := true, laidLooks := .later }
def ScriptPlacesCardSaid : Prop := Claim7.holds Tryd.pinned (.plain (OpenSpec.ofChange scriptPlacesSpec)) scriptPlacesCard

/-- THE SECOND FORM's CARD OF 'carcanetlaw25.ScriptBack'. -/
def scriptBackUptoCard : Claim7 := { stood := { row := scriptBackUptoRow, standIns := [], harness := (true, "8542bd2f2a4c2b31673db820eb6fcbf11c9bf018cbd0501eb6711d4c38fe0748"), looks := true }, kinds := [], alts := [], laidByText := true, laidKinds := [.data, .data, .data, .sentinel, .sentinel], laidTests := true, laidLooks := .later }
def ScriptBackUptoCardSaid : Prop := Claim7.holds Tryd.pinned (.plain (OpenSpec.upto scriptBackSpec)) scriptBackUptoCard

/-- THE SECOND FORM's CARD OF 'carcanetlaw25.ScriptLoads'. -/
def scriptLoadsUptoCard : Claim7 := { stood := { row := scriptLoadsUptoRow, standIns := [], harness := (true, "8542bd2f2a4c2b31673db820eb6fcbf11c9bf018cbd0501eb6711d4c38fe0748"), looks := true }, kinds := [], alts := [], laidByText := true, laidKinds := [.data, .data, .data, .sentinel, .sentinel], laidTests := true, laidLooks := .later }
def ScriptLoadsUptoCardSaid : Prop := Claim7.holds Tryd.pinned (.plain (OpenSpec.upto scriptLoadsSpec)) scriptLoadsUptoCard

/-- THE SECOND FORM's CARD OF 'carcanetlaw25.ScriptLines'. -/
def scriptLinesUptoCard : Claim7 := { stood := { row := scriptLinesUptoRow, standIns := [], harness := (true, "8542bd2f2a4c2b31673db820eb6fcbf11c9bf018cbd0501eb6711d4c38fe0748"), looks := true }, kinds := [], alts := [], laidByText := true, laidKinds := [.data, .data, .data, .sentinel, .sentinel], laidTests := true, laidLooks := .later }
def ScriptLinesUptoCardSaid : Prop := Claim7.holds Tryd.pinned (.plain (OpenSpec.upto scriptLinesSpec)) scriptLinesUptoCard

/-- THE SECOND FORM's CARD OF 'carcanetlaw25.ScriptMany'. -/
def scriptManyUptoCard : Claim7 := { stood := { row := scriptManyUptoRow, standIns := [], harness := (true, "8542bd2f2a4c2b31673db820eb6fcbf11c9bf018cbd0501eb6711d4c38fe0748"), looks := true }, kinds := [], alts := [], laidByText := true, laidKinds := [.data, .data, .data, .sentinel, .sentinel], laidTests := true, laidLooks := .later }
def ScriptManyUptoCardSaid : Prop := Claim7.holds Tryd.pinned (.plain (OpenSpec.upto scriptManySpec)) scriptManyUptoCard

/-- THE SECOND FORM's CARD OF 'carcanetlaw25.ScriptPlaces'. -/
def scriptPlacesUptoCard : Claim7 := { stood := { row := scriptPlacesUptoRow, standIns := [], harness := (true, "8542bd2f2a4c2b31673db820eb6fcbf11c9bf018cbd0501eb6711d4c38fe0748"), looks := true }, kinds := [], alts := [], laidByText := true, laidKinds := [.data, .data, .data, .sentinel, .sentinel], laidTests := true, laidLooks := .later }
def ScriptPlacesUptoCardSaid : Prop := Claim7.holds Tryd.pinned (.plain (OpenSpec.upto scriptPlacesSpec)) scriptPlacesUptoCard
end Rows
end Go.Proofs.YtmdmdbiinngneaaDoor

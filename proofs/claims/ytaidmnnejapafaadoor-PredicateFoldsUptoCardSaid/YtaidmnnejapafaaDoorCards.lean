/-
  DERIVED. GIVEN WITH THE SEED: THE CARDS: each row of YtaidmnnejapafaaDoorRows.lean that lists a variable, with what it lists TIED to the program's text (the seventh form; the later family's looks); each row that meets fmt, with fmt's text TOLD by the authors' own Lean function (tested against real Go, not proved from fmt's source: count such statements apart). THE CARD IS WHAT COUNTS. Prove the row's statement (the work); the ties are given (YtaidmnnejapafaaDoorTie.lean); close each card by the builder's one call (the guide's Derived/Test/ToyasCard.lean, 'card_holds'). Laid BY PROGRAM, IN A SANDBOX (cutbox-door.mjs). By AI agents, Wed Nov 11 2026. No macro, syntax, notation, axiom, sorry.
-/
import Derived.Test.YtaidmnnejapafaaDoorRows
import GoSem.ClaimSeven
namespace Go.Proofs.YtaidmnnejapafaaDoor
namespace Rows

/-- THE TIED CARD OF 'netverifylaw31.PredicatePartition'. -/
def predicatePartitionCard : Claim7 := { stood := { row := predicatePartitionRow, standIns := [], harness := (true, "413d5cb78627202433601ee41f131665e2adce16869023d14c8a9a41377ba877"), looks := false }, kinds := [], alts := [], laidByText := true, laidKinds := [.data], laidTests := true, laidLooks := .later }
def PredicatePartitionCardSaid : Prop := Claim7.holds Tryd.pinned (.plain (OpenSpec.ofChange predicatePartitionSpec)) predicatePartitionCard

/-- THE TIED CARD OF 'netverifylaw31.PredicateTables'. -/
def predicateTablesCard : Claim7 := { stood := { row := predicateTablesRow, standIns := [], harness := (true, "413d5cb78627202433601ee41f131665e2adce16869023d14c8a9a41377ba877"), looks := false }, kinds := [], alts := [], laidByText := true, laidKinds := [.data], laidTests := true, laidLooks := .later }
def PredicateTablesCardSaid : Prop := Claim7.holds Tryd.pinned (.plain (OpenSpec.ofChange predicateTablesSpec)) predicateTablesCard

/-- THE TIED CARD OF 'netverifylaw31.PredicateCovers'. -/
def predicateCoversCard : Claim7 := { stood := { row := predicateCoversRow, standIns := [], harness := (true, "413d5cb78627202433601ee41f131665e2adce16869023d14c8a9a41377ba877"), looks := false }, kinds := [], alts := [], laidByText := true, laidKinds := [.data], laidTests := true, laidLooks := .later }
def PredicateCoversCardSaid : Prop := Claim7.holds Tryd.pinned (.plain (OpenSpec.ofChange predicateCoversSpec)) predicateCoversCard

/-- THE TIED CARD OF 'netverifylaw31.PredicateFolds'. -/
def predicateFoldsCard : Claim7 := { stood := { row := predicateFoldsRow, standIns := [], harness := (true, "413d5cb78627202433601ee41f131665e2adce16869023d14c8a9a41377ba877"), looks := false }, kinds := [], alts := [], laidByText := true, laidKinds := [.data], laidTests := true, laidLooks := .later }
def PredicateFoldsCardSaid : Prop := Claim7.holds Tryd.pinned (.plain (OpenSpec.ofChange predicateFoldsSpec)) predicateFoldsCard

/-- THE TIED CARD OF 'netverifylaw31.PredicateRules'. -/
def predicateRulesCard : Claim7 := { stood := { row := predicateRulesRow, standIns := [], harness := (true, "413d5cb78627202433601ee41f131665e2adce16869023d14c8a9a41377ba877"), looks := false }, kinds := [], alts := [], laidByText := true, laidKinds := [.data], laidTests := true, laidLooks := .later }
def PredicateRulesCardSaid : Prop := Claim7.holds Tryd.pinned (.plain (OpenSpec.ofChange predicateRulesSpec)) predicateRulesCard

/-- THE SECOND FORM's CARD OF 'netverifylaw31.PredicatePartition'. -/
def predicatePartitionUptoCard : Claim7 := { stood := { row := predicatePartitionUptoRow, standIns := [], harness := (true, "413d5cb78627202433601ee41f131665e2adce16869023d14c8a9a41377ba877"), looks := false }, kinds := [], alts := [], laidByText := true, laidKinds := [.data], laidTests := true, laidLooks := .later }
def PredicatePartitionUptoCardSaid : Prop := Claim7.holds Tryd.pinned (.plain (OpenSpec.upto predicatePartitionSpec)) predicatePartitionUptoCard

/-- THE SECOND FORM's CARD OF 'netverifylaw31.PredicateTables'. -/
def predicateTablesUptoCard : Claim7 := { stood := { row := predicateTablesUptoRow, standIns := [], harness := (true, "413d5cb78627202433601ee41f131665e2adce16869023d14c8a9a41377ba877"), looks := false }, kinds := [], alts := [], laidByText := true, laidKinds := [.data], laidTests := true, laidLooks := .later }
def PredicateTablesUptoCardSaid : Prop := Claim7.holds Tryd.pinned (.plain (OpenSpec.upto predicateTablesSpec)) predicateTablesUptoCard

/-- THE SECOND FORM's CARD OF 'netverifylaw31.PredicateCovers'. -/
def predicateCoversUptoCard : Claim7 := { stood := { row := predicateCoversUptoRow, standIns := [], harness := (true, "413d5cb78627202433601ee41f131665e2adce16869023d14c8a9a41377ba877"), looks := false }, kinds := [], alts := [], laidByText := true, laidKinds := [.data], laidTests := true, laidLooks := .later }
def PredicateCoversUptoCardSaid : Prop := Claim7.holds Tryd.pinned (.plain (OpenSpec.upto predicateCoversSpec)) predicateCoversUptoCard

/-- THE SECOND FORM's CARD OF 'netverifylaw31.PredicateFolds'. -/
def predicateFoldsUptoCard : Claim7 := { stood := { row := predicateFoldsUptoRow, standIns := [], harness := (true, "413d5cb78627202433601ee41f131665e2adce16869023d14c8a9a41377ba877"), looks := false }, kinds := [], alts := [], laidByText := true, laidKinds := [.data], laidTests := true, laidLooks := .later }
def PredicateFoldsUptoCardSaid : Prop := Claim7.holds Tryd.pinned (.plain (OpenSpec.upto predicateFoldsSpec)) predicateFoldsUptoCard

/-- THE SECOND FORM's CARD OF 'netverifylaw31.PredicateRules'. -/
def predicateRulesUptoCard : Claim7 := { stood := { row := predicateRulesUptoRow, standIns := [], harness := (true, "413d5cb78627202433601ee41f131665e2adce16869023d14c8a9a41377ba877"), looks := false }, kinds := [], alts := [], laidByText := true, laidKinds := [.data], laidTests := true, laidLooks := .later }
def PredicateRulesUptoCardSaid : Prop := Claim7.holds Tryd.pinned (.plain (OpenSpec.upto predicateRulesSpec)) predicateRulesUptoCard
end Rows
end Go.Proofs.YtaidmnnejapafaaDoor

/-
  DERIVED. GIVEN WITH THE SEED: THE CARDS: each row of YtaidmnnejapafaaGreatDoorRows.lean that lists a variable, with what it lists TIED to the program's text (the seventh form; the later family's looks); each row that meets fmt, with fmt's text TOLD by the authors' own Lean function (tested against real Go, not proved from fmt's source: count such statements apart). THE CARD IS WHAT COUNTS. Prove the row's statement (the work); the ties are given (YtaidmnnejapafaaGreatDoorTie.lean); close each card by the builder's one call (the guide's Derived/Test/ToyasCard.lean, 'card_holds'). Laid BY PROGRAM, IN A SANDBOX (cutbox-door.mjs). By AI agents, Wed Nov 11 2026. No macro, syntax, notation, axiom, sorry.
-/
import Derived.Test.YtaidmnnejapafaaGreatDoorRows
import GoSem.ClaimSeven
namespace Go.Proofs.YtaidmnnejapafaaGreatDoor
namespace Rows

/-- THE TIED CARD OF 'netverifylaw31.PredicateLists'. -/
def predicateListsCard : Claim7 := { stood := { row := predicateListsRow, standIns := [], harness := (true, "ab8f81bcb3cd532f7a6cd6c9832e710b50beff7744cf39630ff812d83d6ee314"), looks := false }, kinds := [], alts := [], laidByText := true, laidKinds := [.data], laidTests := true, laidLooks := .later }
def PredicateListsCardSaid : Prop := Claim7.holds Tryz.pinned (.plain (OpenSpec.ofChange predicateListsSpec)) predicateListsCard

/-- THE SECOND FORM's CARD OF 'netverifylaw31.PredicateLists'. -/
def predicateListsUptoCard : Claim7 := { stood := { row := predicateListsUptoRow, standIns := [], harness := (true, "ab8f81bcb3cd532f7a6cd6c9832e710b50beff7744cf39630ff812d83d6ee314"), looks := false }, kinds := [], alts := [], laidByText := true, laidKinds := [.data], laidTests := true, laidLooks := .later }
def PredicateListsUptoCardSaid : Prop := Claim7.holds Tryz.pinned (.plain (OpenSpec.upto predicateListsSpec)) predicateListsUptoCard
end Rows
end Go.Proofs.YtaidmnnejapafaaGreatDoor

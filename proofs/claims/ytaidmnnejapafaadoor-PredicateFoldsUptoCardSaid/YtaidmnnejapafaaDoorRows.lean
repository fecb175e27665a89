/-
  NARROWER THAN 'FOR EVERY INPUT', by the rows' own cells (each row's printed sentence says how): PredicatePartition: laid · PredicateTables: laid · PredicateCovers: laid · PredicateFolds: laid · PredicateRules: laid.
  DERIVED. THE GIVEN ROWS OF THIS SEAT. 5 by the template 'for every input the law returns true; each argument reads behind the call as it read before'; 0 by the template 'total and deterministic' (their statements: YtaidmnnejapafaaDoorTotals.lean).
  GIVEN WITH THE SEED: the statements are not yours to turn. If you find one false, say at which input.
  Laid BY PROGRAM, IN A SANDBOX (cutbox-rows.mjs): the forced cells as the released guide's own fill.sh prints them over the translation 486db3c506bb9a5b… (all of the seat's roots in one cut). By AI agents, Wed Nov 11 2026. No macro, syntax, notation, axiom, sorry.
-/
import Derived.Test.YtaidmnnejapafaaDoorChecked
import GoSem.Claim
import GoSem.ClaimJoined
import GoSem.ClaimMapViews
import Derived.JoinedTies
import Derived.KernelRfl
namespace Go.Proofs.YtaidmnnejapafaaDoor
/- THE CELL 'sum', in the pinned program and in every row, IS THE sha256 OF THE DUMP (.gsa) THAT YtaidmnnejapafaaDoorProg.lean LOADS. Nothing in Lean hashes anything: it is a label: what it is worth is what the hold of that sum in a sandbox is worth. -/
noncomputable def Tryd.pinned : Pinned := { name := "ytaidmnnejapafaadoor", sum := "486db3c506bb9a5b5de491a3d0f07adc0b1cffee5a73553ed40f59c5a8c60d4b", checked := Tryd.checked }
namespace Rows
def none {H : Type} : Left H := { results := [], args := [] }

/- WHAT THE LISTED PACKAGE-LEVEL VARIABLES READ AS WHEN THE CALL BEGINS. Each datum BY PROGRAM (the guide's laid-datum.mjs) off the statement by which the dump's own 'gosem.cut.vars' lays the variable. In a bare row this is a premise. The card (YtaidmnnejapafaaDoorCards.lean) ties it to the program's text. -/
def laid_netverify_header_fields {H : Type} : DataW H := .agg [.agg [.lit (.int .i64 0), .lit (.int .i64 32)], .agg [.lit (.int .i64 32), .lit (.int .i64 32)], .agg [.lit (.int .i64 64), .lit (.int .i64 8)], .agg [.lit (.int .i64 72), .lit (.int .i64 16)], .agg [.lit (.int .i64 88), .lit (.int .i64 16)]]

/-- 'netverifylaw31.PredicatePartition': WHATEVER THE INPUT: true; the input reads as it did. -/
def predicatePartitionSpec : ChangeSpec := { name := "predicatePartition", fn := fun _ => fun
  | [d] => { results := [.lit (.bool true)], args := [d] }
  | _ => none }
def predicatePartitionRow : OpenClaim := { program := "ytaidmnnejapafaadoor", sum := "486db3c506bb9a5b5de491a3d0f07adc0b1cffee5a73553ed40f59c5a8c60d4b", func := "netverify/netverifylaw31.PredicatePartition", spec := "predicatePartition", unfollowed := true, recurses := true, named := ["netverify/header.fields"], plainKeys := false, apart := false, laid := [("netverify/header.fields", laid_netverify_header_fields)] }
def PredicatePartitionSaid : Prop := predicatePartitionRow.holds Tryd.pinned (OpenSpec.ofChange predicatePartitionSpec)

/-- ITS FALSE NEIGHBOUR: 'it returns false'. Refute it at one input. -/
def predicatePartitionWrong : ChangeSpec := { name := "predicatePartition", fn := fun _ => fun
  | [d] => { results := [.lit (.bool false)], args := [d] }
  | _ => none }
def PredicatePartitionWrongFalsely : Prop := predicatePartitionRow.holds Tryd.pinned (OpenSpec.ofChange predicatePartitionWrong)

/-- 'netverifylaw31.PredicateTables': WHATEVER THE INPUT: true; the input reads as it did. -/
def predicateTablesSpec : ChangeSpec := { name := "predicateTables", fn := fun _ => fun
  | [d1, d2, d3, d4] => { results := [.lit (.bool true)], args := [d1, d2, d3, d4] }
  | _ => none }
def predicateTablesRow : OpenClaim := { program := "ytaidmnnejapafaadoor", sum := "486db3c506bb9a5b5de491a3d0f07adc0b1cffee5a73553ed40f59c5a8c60d4b", func := "netverify/netverifylaw31.PredicateTables", spec := "predicateTables", unfollowed := true, recurses := true, named := ["netverify/header.fields"], plainKeys := false, apart := false, laid := [("netverify/header.fields", laid_netverify_header_fields)] }
def PredicateTablesSaid : Prop := predicateTablesRow.holds Tryd.pinned (OpenSpec.ofChange predicateTablesSpec)

/-- ITS FALSE NEIGHBOUR: 'it returns false'. Refute it at one input. -/
def predicateTablesWrong : ChangeSpec := { name := "predicateTables", fn := fun _ => fun
  | [d1, d2, d3, d4] => { results := [.lit (.bool false)], args := [d1, d2, d3, d4] }
  | _ => none }
def PredicateTablesWrongFalsely : Prop := predicateTablesRow.holds Tryd.pinned (OpenSpec.ofChange predicateTablesWrong)

/-- 'netverifylaw31.PredicateCovers': WHATEVER THE INPUT: true; the input reads as it did. -/
def predicateCoversSpec : ChangeSpec := { name := "predicateCovers", fn := fun _ => fun
  | [d1, d2] => { results := [.lit (.bool true)], args := [d1, d2] }
  | _ => none }
def predicateCoversRow : OpenClaim := { program := "ytaidmnnejapafaadoor", sum := "486db3c506bb9a5b5de491a3d0f07adc0b1cffee5a73553ed40f59c5a8c60d4b", func := "netverify/netverifylaw31.PredicateCovers", spec := "predicateCovers", unfollowed := true, recurses := true, named := ["netverify/header.fields"], plainKeys := false, apart := false, laid := [("netverify/header.fields", laid_netverify_header_fields)] }
def PredicateCoversSaid : Prop := predicateCoversRow.holds Tryd.pinned (OpenSpec.ofChange predicateCoversSpec)

/-- ITS FALSE NEIGHBOUR: 'it returns false'. Refute it at one input. -/
def predicateCoversWrong : ChangeSpec := { name := "predicateCovers", fn := fun _ => fun
  | [d1, d2] => { results := [.lit (.bool false)], args := [d1, d2] }
  | _ => none }
def PredicateCoversWrongFalsely : Prop := predicateCoversRow.holds Tryd.pinned (OpenSpec.ofChange predicateCoversWrong)

/-- 'netverifylaw31.PredicateFolds': WHATEVER THE INPUT: true; the input reads as it did. -/
def predicateFoldsSpec : ChangeSpec := { name := "predicateFolds", fn := fun _ => fun
  | [d1, d2] => { results := [.lit (.bool true)], args := [d1, d2] }
  | _ => none }
def predicateFoldsRow : OpenClaim := { program := "ytaidmnnejapafaadoor", sum := "486db3c506bb9a5b5de491a3d0f07adc0b1cffee5a73553ed40f59c5a8c60d4b", func := "netverify/netverifylaw31.PredicateFolds", spec := "predicateFolds", unfollowed := true, recurses := true, named := ["netverify/header.fields"], plainKeys := false, apart := false, laid := [("netverify/header.fields", laid_netverify_header_fields)] }
def PredicateFoldsSaid : Prop := predicateFoldsRow.holds Tryd.pinned (OpenSpec.ofChange predicateFoldsSpec)

/-- ITS FALSE NEIGHBOUR: 'it returns false'. Refute it at one input. -/
def predicateFoldsWrong : ChangeSpec := { name := "predicateFolds", fn := fun _ => fun
  | [d1, d2] => { results := [.lit (.bool false)], args := [d1, d2] }
  | _ => none }
def PredicateFoldsWrongFalsely : Prop := predicateFoldsRow.holds Tryd.pinned (OpenSpec.ofChange predicateFoldsWrong)

/-- 'netverifylaw31.PredicateRules': WHATEVER THE INPUT: true; the input reads as it did. -/
def predicateRulesSpec : ChangeSpec := { name := "predicateRules", fn := fun _ => fun
  | [d1, d2] => { results := [.lit (.bool true)], args := [d1, d2] }
  | _ => none }
def predicateRulesRow : OpenClaim := { program := "ytaidmnnejapafaadoor", sum := "486db3c506bb9a5b5de491a3d0f07adc0b1cffee5a73553ed40f59c5a8c60d4b", func := "netverify/netverifylaw31.PredicateRules", spec := "predicateRules", unfollowed := true, recurses := true, named := ["netverify/header.fields"], plainKeys := false, apart := false, laid := [("netverify/header.fields", laid_netverify_header_fields)] }
def PredicateRulesSaid : Prop := predicateRulesRow.holds Tryd.pinned (OpenSpec.ofChange predicateRulesSpec)

/-- ITS FALSE NEIGHBOUR: 'it returns false'. Refute it at one input. -/
def predicateRulesWrong : ChangeSpec := { name := "predicateRules", fn := fun _ => fun
  | [d1, d2] => { results := [.lit (.bool false)], args := [d1, d2] }
  | _ => none }
def PredicateRulesWrongFalsely : Prop := predicateRulesRow.holds Tryd.pinned (OpenSpec.ofChange predicateRulesWrong)

/- THE SECOND FORM. 'bulk': how many values and letters a reading holds, each counted each time it is reached (what is shared counts as often as it is met; a slice's spare places count too). A statement '..UptoSaid' is the law's where the arguments, and the package variables that the reading takes, are together of bulk at most 1048576: NARROWER than '..Said'. Prove '..Said' where nothing that the law and all that it calls make is longer than what came in: it says more and counts as full. Else prove '..UptoSaid'. A law counts once. -/
mutual
def uptoBulk {H : Type} : DataW H → Nat
  | .lit (.string bytes) => bytes.length + 1
  | .lit _ => 1
  | .nil => 1
  | .ptr d => uptoBulk d + 1
  | .slice elems spare => uptoBulkAll elems + uptoBulkAll spare + 1
  | .agg parts => uptoBulkAll parts + 1
  | .iface _ d => uptoBulk d + 1
  | .map entries => uptoBulkEntries entries + 1
  | .held _ => 1
def uptoBulkAll {H : Type} : List (DataW H) → Nat
  | [] => 0
  | d :: r => uptoBulk d + uptoBulkAll r
def uptoBulkEntries {H : Type} : List (Lit × DataW H) → Nat
  | [] => 0
  | x :: r => uptoBulkEntry x + uptoBulkEntries r
def uptoBulkEntry {H : Type} : Lit × DataW H → Nat
  | (.string bytes, d) => bytes.length + uptoBulk d + 1
  | (_, d) => uptoBulk d + 1
 end
def uptoSmall : (H : Type) → List (DataW H) → Bool := fun _ ds => decide (uptoBulkAll ds ≤ 1048576)
def OpenSpec.upto (s : _root_.Go.ChangeSpec) : _root_.Go.OpenSpec := { _root_.Go.OpenSpec.ofChange s with cond := some uptoSmall }

/-- 'netverifylaw31.PredicatePartition', WHERE WHAT IT READS IS OF BULK AT MOST 1048576: true; the input reads as it did. -/
def predicatePartitionUptoRow : OpenClaim := { program := "ytaidmnnejapafaadoor", sum := "486db3c506bb9a5b5de491a3d0f07adc0b1cffee5a73553ed40f59c5a8c60d4b", func := "netverify/netverifylaw31.PredicatePartition", spec := "predicatePartition", unfollowed := true, recurses := true, named := ["netverify/header.fields"], plainKeys := false, apart := false, laid := [("netverify/header.fields", laid_netverify_header_fields)], narrowed := true }
def PredicatePartitionUptoSaid : Prop := predicatePartitionUptoRow.holds Tryd.pinned (OpenSpec.upto predicatePartitionSpec)

/-- 'netverifylaw31.PredicateTables', WHERE WHAT IT READS IS OF BULK AT MOST 1048576: true; the input reads as it did. -/
def predicateTablesUptoRow : OpenClaim := { program := "ytaidmnnejapafaadoor", sum := "486db3c506bb9a5b5de491a3d0f07adc0b1cffee5a73553ed40f59c5a8c60d4b", func := "netverify/netverifylaw31.PredicateTables", spec := "predicateTables", unfollowed := true, recurses := true, named := ["netverify/header.fields"], plainKeys := false, apart := false, laid := [("netverify/header.fields", laid_netverify_header_fields)], narrowed := true }
def PredicateTablesUptoSaid : Prop := predicateTablesUptoRow.holds Tryd.pinned (OpenSpec.upto predicateTablesSpec)

/-- 'netverifylaw31.PredicateCovers', WHERE WHAT IT READS IS OF BULK AT MOST 1048576: true; the input reads as it did. -/
def predicateCoversUptoRow : OpenClaim := { program := "ytaidmnnejapafaadoor", sum := "486db3c506bb9a5b5de491a3d0f07adc0b1cffee5a73553ed40f59c5a8c60d4b", func := "netverify/netverifylaw31.PredicateCovers", spec := "predicateCovers", unfollowed := true, recurses := true, named := ["netverify/header.fields"], plainKeys := false, apart := false, laid := [("netverify/header.fields", laid_netverify_header_fields)], narrowed := true }
def PredicateCoversUptoSaid : Prop := predicateCoversUptoRow.holds Tryd.pinned (OpenSpec.upto predicateCoversSpec)

/-- 'netverifylaw31.PredicateFolds', WHERE WHAT IT READS IS OF BULK AT MOST 1048576: true; the input reads as it did. -/
def predicateFoldsUptoRow : OpenClaim := { program := "ytaidmnnejapafaadoor", sum := "486db3c506bb9a5b5de491a3d0f07adc0b1cffee5a73553ed40f59c5a8c60d4b", func := "netverify/netverifylaw31.PredicateFolds", spec := "predicateFolds", unfollowed := true, recurses := true, named := ["netverify/header.fields"], plainKeys := false, apart := false, laid := [("netverify/header.fields", laid_netverify_header_fields)], narrowed := true }
def PredicateFoldsUptoSaid : Prop := predicateFoldsUptoRow.holds Tryd.pinned (OpenSpec.upto predicateFoldsSpec)

/-- 'netverifylaw31.PredicateRules', WHERE WHAT IT READS IS OF BULK AT MOST 1048576: true; the input reads as it did. -/
def predicateRulesUptoRow : OpenClaim := { program := "ytaidmnnejapafaadoor", sum := "486db3c506bb9a5b5de491a3d0f07adc0b1cffee5a73553ed40f59c5a8c60d4b", func := "netverify/netverifylaw31.PredicateRules", spec := "predicateRules", unfollowed := true, recurses := true, named := ["netverify/header.fields"], plainKeys := false, apart := false, laid := [("netverify/header.fields", laid_netverify_header_fields)], narrowed := true }
def PredicateRulesUptoSaid : Prop := predicateRulesUptoRow.holds Tryd.pinned (OpenSpec.upto predicateRulesSpec)

end Rows
end Go.Proofs.YtaidmnnejapafaaDoor

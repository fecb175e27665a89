/-
  No cell of these rows narrows 'for every input' (looked for: loops, veiled, ifaces, maps, wideKeys, modest, calm, conditions, laid).
  DERIVED. THE GIVEN ROWS OF THIS SEAT. 11 by the template 'for every input the law returns true; each argument reads behind the call as it read before'; 0 by the template 'total and deterministic' (their statements: YtcnlcmbchljpgaaGreatTotals.lean).
  GIVEN WITH THE SEED: the statements are not yours to turn. If you find one false, say at which input.
  Laid BY PROGRAM, IN A SANDBOX (cutbox-rows.mjs): the forced cells as the released guide's own fill.sh prints them over the translation 5dbaaa37e36f626e… (all of the seat's roots in one cut). By AI agents, Wed Nov 11 2026. No macro, syntax, notation, axiom, sorry.
-/
import Derived.Test.YtcnlcmbchljpgaaGreatChecked
import GoSem.Claim
import GoSem.ClaimJoined
import GoSem.ClaimMapViews
import Derived.JoinedTies
import Derived.KernelRfl
namespace Go.Proofs.YtcnlcmbchljpgaaGreat
/- THE CELL 'sum', in the pinned program and in every row, IS THE sha256 OF THE DUMP (.gsa) THAT YtcnlcmbchljpgaaGreatProg.lean LOADS. Nothing in Lean hashes anything: it is a label: what it is worth is what the hold of that sum in a sandbox is worth. -/
noncomputable def Tryz.pinned : Pinned := { name := "ytcnlcmbchljpgaagreat", sum := "5dbaaa37e36f626efc080e3714bf9be2133f1f567386d9fe6a207ebbe33f04d9", checked := Tryz.checked }
namespace Rows
def none {H : Type} : Left H := { results := [], args := [] }

/-- 'netverifylaw17.DistTables': WHATEVER THE INPUT: true; the input reads as it did. -/
def distTablesSpec : ChangeSpec := { name := "distTables", fn := fun _ => fun
  | [d1, d2, d3, d4] => { results := [.lit (.bool true)], args := [d1, d2, d3, d4] }
  | _ => none }
def distTablesRow : OpenClaim := { program := "ytcnlcmbchljpgaagreat", sum := "5dbaaa37e36f626efc080e3714bf9be2133f1f567386d9fe6a207ebbe33f04d9", func := "netverify/netverifylaw17.DistTables", spec := "distTables", unfollowed := true, recurses := true, plainKeys := false, apart := false }
def DistTablesSaid : Prop := distTablesRow.holds Tryz.pinned (OpenSpec.ofChange distTablesSpec)

/-- ITS FALSE NEIGHBOUR: 'it returns false'. Refute it at one input. -/
def distTablesWrong : ChangeSpec := { name := "distTables", fn := fun _ => fun
  | [d1, d2, d3, d4] => { results := [.lit (.bool false)], args := [d1, d2, d3, d4] }
  | _ => none }
def DistTablesWrongFalsely : Prop := distTablesRow.holds Tryz.pinned (OpenSpec.ofChange distTablesWrong)

/-- 'netverifylaw17.DistGrows': WHATEVER THE INPUT: true; the input reads as it did. -/
def distGrowsSpec : ChangeSpec := { name := "distGrows", fn := fun _ => fun
  | [d1, d2, d3] => { results := [.lit (.bool true)], args := [d1, d2, d3] }
  | _ => none }
def distGrowsRow : OpenClaim := { program := "ytcnlcmbchljpgaagreat", sum := "5dbaaa37e36f626efc080e3714bf9be2133f1f567386d9fe6a207ebbe33f04d9", func := "netverify/netverifylaw17.DistGrows", spec := "distGrows", unfollowed := true, recurses := true, plainKeys := false, apart := false }
def DistGrowsSaid : Prop := distGrowsRow.holds Tryz.pinned (OpenSpec.ofChange distGrowsSpec)

/-- ITS FALSE NEIGHBOUR: 'it returns false'. Refute it at one input. -/
def distGrowsWrong : ChangeSpec := { name := "distGrows", fn := fun _ => fun
  | [d1, d2, d3] => { results := [.lit (.bool false)], args := [d1, d2, d3] }
  | _ => none }
def DistGrowsWrongFalsely : Prop := distGrowsRow.holds Tryz.pinned (OpenSpec.ofChange distGrowsWrong)

/-- 'netverifylaw17.DistFilters': WHATEVER THE INPUT: true; the input reads as it did. -/
def distFiltersSpec : ChangeSpec := { name := "distFilters", fn := fun _ => fun
  | [d1, d2, d3] => { results := [.lit (.bool true)], args := [d1, d2, d3] }
  | _ => none }
def distFiltersRow : OpenClaim := { program := "ytcnlcmbchljpgaagreat", sum := "5dbaaa37e36f626efc080e3714bf9be2133f1f567386d9fe6a207ebbe33f04d9", func := "netverify/netverifylaw17.DistFilters", spec := "distFilters", unfollowed := true, recurses := true, plainKeys := false, apart := false }
def DistFiltersSaid : Prop := distFiltersRow.holds Tryz.pinned (OpenSpec.ofChange distFiltersSpec)

/-- ITS FALSE NEIGHBOUR: 'it returns false'. Refute it at one input. -/
def distFiltersWrong : ChangeSpec := { name := "distFilters", fn := fun _ => fun
  | [d1, d2, d3] => { results := [.lit (.bool false)], args := [d1, d2, d3] }
  | _ => none }
def DistFiltersWrongFalsely : Prop := distFiltersRow.holds Tryz.pinned (OpenSpec.ofChange distFiltersWrong)

/-- 'netverifylaw17.DistBetter': WHATEVER THE INPUT: true; the input reads as it did. -/
def distBetterSpec : ChangeSpec := { name := "distBetter", fn := fun _ => fun
  | [d1, d2, d3, d4, d5] => { results := [.lit (.bool true)], args := [d1, d2, d3, d4, d5] }
  | _ => none }
def distBetterRow : OpenClaim := { program := "ytcnlcmbchljpgaagreat", sum := "5dbaaa37e36f626efc080e3714bf9be2133f1f567386d9fe6a207ebbe33f04d9", func := "netverify/netverifylaw17.DistBetter", spec := "distBetter", unfollowed := true, recurses := true, plainKeys := false, apart := false }
def DistBetterSaid : Prop := distBetterRow.holds Tryz.pinned (OpenSpec.ofChange distBetterSpec)

/-- ITS FALSE NEIGHBOUR: 'it returns false'. Refute it at one input. -/
def distBetterWrong : ChangeSpec := { name := "distBetter", fn := fun _ => fun
  | [d1, d2, d3, d4, d5] => { results := [.lit (.bool false)], args := [d1, d2, d3, d4, d5] }
  | _ => none }
def DistBetterWrongFalsely : Prop := distBetterRow.holds Tryz.pinned (OpenSpec.ofChange distBetterWrong)

/-- 'netverifylaw20.PathSessions': WHATEVER THE INPUT: true; the input reads as it did. -/
def pathSessionsSpec : ChangeSpec := { name := "pathSessions", fn := fun _ => fun
  | [d1, d2] => { results := [.lit (.bool true)], args := [d1, d2] }
  | _ => none }
def pathSessionsRow : OpenClaim := { program := "ytcnlcmbchljpgaagreat", sum := "5dbaaa37e36f626efc080e3714bf9be2133f1f567386d9fe6a207ebbe33f04d9", func := "netverify/netverifylaw20.PathSessions", spec := "pathSessions", unfollowed := true, recurses := true, plainKeys := false, apart := false }
def PathSessionsSaid : Prop := pathSessionsRow.holds Tryz.pinned (OpenSpec.ofChange pathSessionsSpec)

/-- ITS FALSE NEIGHBOUR: 'it returns false'. Refute it at one input. -/
def pathSessionsWrong : ChangeSpec := { name := "pathSessions", fn := fun _ => fun
  | [d1, d2] => { results := [.lit (.bool false)], args := [d1, d2] }
  | _ => none }
def PathSessionsWrongFalsely : Prop := pathSessionsRow.holds Tryz.pinned (OpenSpec.ofChange pathSessionsWrong)

/-- 'netverifylaw20.PathExchanges': WHATEVER THE INPUT: true; the input reads as it did. -/
def pathExchangesSpec : ChangeSpec := { name := "pathExchanges", fn := fun _ => fun
  | [d1, d2, d3] => { results := [.lit (.bool true)], args := [d1, d2, d3] }
  | _ => none }
def pathExchangesRow : OpenClaim := { program := "ytcnlcmbchljpgaagreat", sum := "5dbaaa37e36f626efc080e3714bf9be2133f1f567386d9fe6a207ebbe33f04d9", func := "netverify/netverifylaw20.PathExchanges", spec := "pathExchanges", unfollowed := true, recurses := true, plainKeys := false, apart := false }
def PathExchangesSaid : Prop := pathExchangesRow.holds Tryz.pinned (OpenSpec.ofChange pathExchangesSpec)

/-- ITS FALSE NEIGHBOUR: 'it returns false'. Refute it at one input. -/
def pathExchangesWrong : ChangeSpec := { name := "pathExchanges", fn := fun _ => fun
  | [d1, d2, d3] => { results := [.lit (.bool false)], args := [d1, d2, d3] }
  | _ => none }
def PathExchangesWrongFalsely : Prop := pathExchangesRow.holds Tryz.pinned (OpenSpec.ofChange pathExchangesWrong)

/-- 'netverifylaw20.PathLocal': WHATEVER THE INPUT: true; the input reads as it did. -/
def pathLocalSpec : ChangeSpec := { name := "pathLocal", fn := fun _ => fun
  | [d1, d2, d3] => { results := [.lit (.bool true)], args := [d1, d2, d3] }
  | _ => none }
def pathLocalRow : OpenClaim := { program := "ytcnlcmbchljpgaagreat", sum := "5dbaaa37e36f626efc080e3714bf9be2133f1f567386d9fe6a207ebbe33f04d9", func := "netverify/netverifylaw20.PathLocal", spec := "pathLocal", unfollowed := true, recurses := true, plainKeys := false, apart := false }
def PathLocalSaid : Prop := pathLocalRow.holds Tryz.pinned (OpenSpec.ofChange pathLocalSpec)

/-- ITS FALSE NEIGHBOUR: 'it returns false'. Refute it at one input. -/
def pathLocalWrong : ChangeSpec := { name := "pathLocal", fn := fun _ => fun
  | [d1, d2, d3] => { results := [.lit (.bool false)], args := [d1, d2, d3] }
  | _ => none }
def PathLocalWrongFalsely : Prop := pathLocalRow.holds Tryz.pinned (OpenSpec.ofChange pathLocalWrong)

/-- 'netverifylaw20.PathTables': WHATEVER THE INPUT: true; the input reads as it did. -/
def pathTablesSpec : ChangeSpec := { name := "pathTables", fn := fun _ => fun
  | [d1, d2, d3] => { results := [.lit (.bool true)], args := [d1, d2, d3] }
  | _ => none }
def pathTablesRow : OpenClaim := { program := "ytcnlcmbchljpgaagreat", sum := "5dbaaa37e36f626efc080e3714bf9be2133f1f567386d9fe6a207ebbe33f04d9", func := "netverify/netverifylaw20.PathTables", spec := "pathTables", unfollowed := true, recurses := true, plainKeys := false, apart := false }
def PathTablesSaid : Prop := pathTablesRow.holds Tryz.pinned (OpenSpec.ofChange pathTablesSpec)

/-- ITS FALSE NEIGHBOUR: 'it returns false'. Refute it at one input. -/
def pathTablesWrong : ChangeSpec := { name := "pathTables", fn := fun _ => fun
  | [d1, d2, d3] => { results := [.lit (.bool false)], args := [d1, d2, d3] }
  | _ => none }
def PathTablesWrongFalsely : Prop := pathTablesRow.holds Tryz.pinned (OpenSpec.ofChange pathTablesWrong)

/-- 'netverifylaw20.PathLoops': WHATEVER THE INPUT: true; the input reads as it did. -/
def pathLoopsSpec : ChangeSpec := { name := "pathLoops", fn := fun _ => fun
  | [d1, d2, d3] => { results := [.lit (.bool true)], args := [d1, d2, d3] }
  | _ => none }
def pathLoopsRow : OpenClaim := { program := "ytcnlcmbchljpgaagreat", sum := "5dbaaa37e36f626efc080e3714bf9be2133f1f567386d9fe6a207ebbe33f04d9", func := "netverify/netverifylaw20.PathLoops", spec := "pathLoops", unfollowed := true, recurses := true, plainKeys := false, apart := false }
def PathLoopsSaid : Prop := pathLoopsRow.holds Tryz.pinned (OpenSpec.ofChange pathLoopsSpec)

/-- ITS FALSE NEIGHBOUR: 'it returns false'. Refute it at one input. -/
def pathLoopsWrong : ChangeSpec := { name := "pathLoops", fn := fun _ => fun
  | [d1, d2, d3] => { results := [.lit (.bool false)], args := [d1, d2, d3] }
  | _ => none }
def PathLoopsWrongFalsely : Prop := pathLoopsRow.holds Tryz.pinned (OpenSpec.ofChange pathLoopsWrong)

/-- 'netverifylaw20.PathSplit': WHATEVER THE INPUT: true; the input reads as it did. -/
def pathSplitSpec : ChangeSpec := { name := "pathSplit", fn := fun _ => fun
  | [d1, d2, d3] => { results := [.lit (.bool true)], args := [d1, d2, d3] }
  | _ => none }
def pathSplitRow : OpenClaim := { program := "ytcnlcmbchljpgaagreat", sum := "5dbaaa37e36f626efc080e3714bf9be2133f1f567386d9fe6a207ebbe33f04d9", func := "netverify/netverifylaw20.PathSplit", spec := "pathSplit", unfollowed := true, recurses := true, plainKeys := false, apart := false }
def PathSplitSaid : Prop := pathSplitRow.holds Tryz.pinned (OpenSpec.ofChange pathSplitSpec)

/-- ITS FALSE NEIGHBOUR: 'it returns false'. Refute it at one input. -/
def pathSplitWrong : ChangeSpec := { name := "pathSplit", fn := fun _ => fun
  | [d1, d2, d3] => { results := [.lit (.bool false)], args := [d1, d2, d3] }
  | _ => none }
def PathSplitWrongFalsely : Prop := pathSplitRow.holds Tryz.pinned (OpenSpec.ofChange pathSplitWrong)

/-- 'netverifylaw20.PathOwn': WHATEVER THE INPUT: true; the input reads as it did. -/
def pathOwnSpec : ChangeSpec := { name := "pathOwn", fn := fun _ => fun
  | [d1, d2, d3] => { results := [.lit (.bool true)], args := [d1, d2, d3] }
  | _ => none }
def pathOwnRow : OpenClaim := { program := "ytcnlcmbchljpgaagreat", sum := "5dbaaa37e36f626efc080e3714bf9be2133f1f567386d9fe6a207ebbe33f04d9", func := "netverify/netverifylaw20.PathOwn", spec := "pathOwn", unfollowed := true, recurses := true, plainKeys := false, apart := false }
def PathOwnSaid : Prop := pathOwnRow.holds Tryz.pinned (OpenSpec.ofChange pathOwnSpec)

/-- ITS FALSE NEIGHBOUR: 'it returns false'. Refute it at one input. -/
def pathOwnWrong : ChangeSpec := { name := "pathOwn", fn := fun _ => fun
  | [d1, d2, d3] => { results := [.lit (.bool false)], args := [d1, d2, d3] }
  | _ => none }
def PathOwnWrongFalsely : Prop := pathOwnRow.holds Tryz.pinned (OpenSpec.ofChange pathOwnWrong)

/- THE SECOND FORM. 'bulk': how many values and letters a reading holds, each counted each time it is reached (what is shared counts as often as it is met; a slice's spare places count too). A statement '..UptoSaid' is the law's where the arguments, and the package variables that the reading takes, are together of bulk at most 1048576: NARROWER than '..Said'. Prove '..Said' where nothing that the law and all that it calls make is longer than what came in: it says more and counts as full. Else prove '..UptoSaid'. A law counts once. -/
mutual
def uptoBulk {H : Type} : DataW H → Nat
  | .lit (.string bytes) => bytes.length + 1
  | .lit _ => 1
  | .nil => 1
  | .ptr d => uptoBulk d + 1
  | .slice elems spare => uptoBulkAll elems + uptoBulkAll spare + 1
  | .agg parts => uptoBulkAll parts + 1
  | .iface _ d => uptoBulk d + 1
  | .map entries => uptoBulkEntries entries + 1
  | .held _ => 1
def uptoBulkAll {H : Type} : List (DataW H) → Nat
  | [] => 0
  | d :: r => uptoBulk d + uptoBulkAll r
def uptoBulkEntries {H : Type} : List (Lit × DataW H) → Nat
  | [] => 0
  | x :: r => uptoBulkEntry x + uptoBulkEntries r
def uptoBulkEntry {H : Type} : Lit × DataW H → Nat
  | (.string bytes, d) => bytes.length + uptoBulk d + 1
  | (_, d) => uptoBulk d + 1
 end
def uptoSmall : (H : Type) → List (DataW H) → Bool := fun _ ds => decide (uptoBulkAll ds ≤ 1048576)
def OpenSpec.upto (s : _root_.Go.ChangeSpec) : _root_.Go.OpenSpec := { _root_.Go.OpenSpec.ofChange s with cond := some uptoSmall }

/-- 'netverifylaw17.DistTables', WHERE WHAT IT READS IS OF BULK AT MOST 1048576: true; the input reads as it did. -/
def distTablesUptoRow : OpenClaim := { program := "ytcnlcmbchljpgaagreat", sum := "5dbaaa37e36f626efc080e3714bf9be2133f1f567386d9fe6a207ebbe33f04d9", func := "netverify/netverifylaw17.DistTables", spec := "distTables", unfollowed := true, recurses := true, plainKeys := false, apart := false, narrowed := true }
def DistTablesUptoSaid : Prop := distTablesUptoRow.holds Tryz.pinned (OpenSpec.upto distTablesSpec)

/-- 'netverifylaw17.DistGrows', WHERE WHAT IT READS IS OF BULK AT MOST 1048576: true; the input reads as it did. -/
def distGrowsUptoRow : OpenClaim := { program := "ytcnlcmbchljpgaagreat", sum := "5dbaaa37e36f626efc080e3714bf9be2133f1f567386d9fe6a207ebbe33f04d9", func := "netverify/netverifylaw17.DistGrows", spec := "distGrows", unfollowed := true, recurses := true, plainKeys := false, apart := false, narrowed := true }
def DistGrowsUptoSaid : Prop := distGrowsUptoRow.holds Tryz.pinned (OpenSpec.upto distGrowsSpec)

/-- 'netverifylaw17.DistFilters', WHERE WHAT IT READS IS OF BULK AT MOST 1048576: true; the input reads as it did. -/
def distFiltersUptoRow : OpenClaim := { program := "ytcnlcmbchljpgaagreat", sum := "5dbaaa37e36f626efc080e3714bf9be2133f1f567386d9fe6a207ebbe33f04d9", func := "netverify/netverifylaw17.DistFilters", spec := "distFilters", unfollowed := true, recurses := true, plainKeys := false, apart := false, narrowed := true }
def DistFiltersUptoSaid : Prop := distFiltersUptoRow.holds Tryz.pinned (OpenSpec.upto distFiltersSpec)

/-- 'netverifylaw17.DistBetter', WHERE WHAT IT READS IS OF BULK AT MOST 1048576: true; the input reads as it did. -/
def distBetterUptoRow : OpenClaim := { program := "ytcnlcmbchljpgaagreat", sum := "5dbaaa37e36f626efc080e3714bf9be2133f1f567386d9fe6a207ebbe33f04d9", func := "netverify/netverifylaw17.DistBetter", spec := "distBetter", unfollowed := true, recurses := true, plainKeys := false, apart := false, narrowed := true }
def DistBetterUptoSaid : Prop := distBetterUptoRow.holds Tryz.pinned (OpenSpec.upto distBetterSpec)

/-- 'netverifylaw20.PathSessions', WHERE WHAT IT READS IS OF BULK AT MOST 1048576: true; the input reads as it did. -/
def pathSessionsUptoRow : OpenClaim := { program := "ytcnlcmbchljpgaagreat", sum := "5dbaaa37e36f626efc080e3714bf9be2133f1f567386d9fe6a207ebbe33f04d9", func := "netverify/netverifylaw20.PathSessions", spec := "pathSessions", unfollowed := true, recurses := true, plainKeys := false, apart := false, narrowed := true }
def PathSessionsUptoSaid : Prop := pathSessionsUptoRow.holds Tryz.pinned (OpenSpec.upto pathSessionsSpec)

/-- 'netverifylaw20.PathExchanges', WHERE WHAT IT READS IS OF BULK AT MOST 1048576: true; the input reads as it did. -/
def pathExchangesUptoRow : OpenClaim := { program := "ytcnlcmbchljpgaagreat", sum := "5dbaaa37e36f626efc080e3714bf9be2133f1f567386d9fe6a207ebbe33f04d9", func := "netverify/netverifylaw20.PathExchanges", spec := "pathExchanges", unfollowed := true, recurses := true, plainKeys := false, apart := false, narrowed := true }
def PathExchangesUptoSaid : Prop := pathExchangesUptoRow.holds Tryz.pinned (OpenSpec.upto pathExchangesSpec)

/-- 'netverifylaw20.PathLocal', WHERE WHAT IT READS IS OF BULK AT MOST 1048576: true; the input reads as it did. -/
def pathLocalUptoRow : OpenClaim := { program := "ytcnlcmbchljpgaagreat", sum := "5dbaaa37e36f626efc080e3714bf9be2133f1f567386d9fe6a207ebbe33f04d9", func := "netverify/netverifylaw20.PathLocal", spec := "pathLocal", unfollowed := true, recurses := true, plainKeys := false, apart := false, narrowed := true }
def PathLocalUptoSaid : Prop := pathLocalUptoRow.holds Tryz.pinned (OpenSpec.upto pathLocalSpec)

/-- 'netverifylaw20.PathTables', WHERE WHAT IT READS IS OF BULK AT MOST 1048576: true; the input reads as it did. -/
def pathTablesUptoRow : OpenClaim := { program := "ytcnlcmbchljpgaagreat", sum := "5dbaaa37e36f626efc080e3714bf9be2133f1f567386d9fe6a207ebbe33f04d9", func := "netverify/netverifylaw20.PathTables", spec := "pathTables", unfollowed := true, recurses := true, plainKeys := false, apart := false, narrowed := true }
def PathTablesUptoSaid : Prop := pathTablesUptoRow.holds Tryz.pinned (OpenSpec.upto pathTablesSpec)

/-- 'netverifylaw20.PathLoops', WHERE WHAT IT READS IS OF BULK AT MOST 1048576: true; the input reads as it did. -/
def pathLoopsUptoRow : OpenClaim := { program := "ytcnlcmbchljpgaagreat", sum := "5dbaaa37e36f626efc080e3714bf9be2133f1f567386d9fe6a207ebbe33f04d9", func := "netverify/netverifylaw20.PathLoops", spec := "pathLoops", unfollowed := true, recurses := true, plainKeys := false, apart := false, narrowed := true }
def PathLoopsUptoSaid : Prop := pathLoopsUptoRow.holds Tryz.pinned (OpenSpec.upto pathLoopsSpec)

/-- 'netverifylaw20.PathSplit', WHERE WHAT IT READS IS OF BULK AT MOST 1048576: true; the input reads as it did. -/
def pathSplitUptoRow : OpenClaim := { program := "ytcnlcmbchljpgaagreat", sum := "5dbaaa37e36f626efc080e3714bf9be2133f1f567386d9fe6a207ebbe33f04d9", func := "netverify/netverifylaw20.PathSplit", spec := "pathSplit", unfollowed := true, recurses := true, plainKeys := false, apart := false, narrowed := true }
def PathSplitUptoSaid : Prop := pathSplitUptoRow.holds Tryz.pinned (OpenSpec.upto pathSplitSpec)

/-- 'netverifylaw20.PathOwn', WHERE WHAT IT READS IS OF BULK AT MOST 1048576: true; the input reads as it did. -/
def pathOwnUptoRow : OpenClaim := { program := "ytcnlcmbchljpgaagreat", sum := "5dbaaa37e36f626efc080e3714bf9be2133f1f567386d9fe6a207ebbe33f04d9", func := "netverify/netverifylaw20.PathOwn", spec := "pathOwn", unfollowed := true, recurses := true, plainKeys := false, apart := false, narrowed := true }
def PathOwnUptoSaid : Prop := pathOwnUptoRow.holds Tryz.pinned (OpenSpec.upto pathOwnSpec)

end Rows
end Go.Proofs.YtcnlcmbchljpgaaGreat

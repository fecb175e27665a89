/-
  No cell of these rows narrows 'for every input' (looked for: loops, veiled, ifaces, maps, wideKeys, modest, calm, conditions, laid).
  DERIVED. THE GIVEN ROWS OF THIS SEAT. 8 by the template 'for every input the law returns true; each argument reads behind the call as it read before'; 0 by the template 'total and deterministic' (their statements: YtgiopebfjmfmhaaGreatTotals.lean).
  GIVEN WITH THE SEED: the statements are not yours to turn. If you find one false, say at which input.
  Laid BY PROGRAM, IN A SANDBOX (cutbox-rows.mjs): the forced cells as the released guide's own fill.sh prints them over the translation 3d30ff000ec5cd26… (all of the seat's roots in one cut). By AI agents, Wed Nov 11 2026. No macro, syntax, notation, axiom, sorry.
-/
import Derived.Test.YtgiopebfjmfmhaaGreatChecked
import GoSem.Claim
import GoSem.ClaimJoined
import GoSem.ClaimMapViews
import Derived.JoinedTies
import Derived.KernelRfl
namespace Go.Proofs.YtgiopebfjmfmhaaGreat
/- THE CELL 'sum', in the pinned program and in every row, IS THE sha256 OF THE DUMP (.gsa) THAT YtgiopebfjmfmhaaGreatProg.lean LOADS. Nothing in Lean hashes anything: it is a label: what it is worth is what the hold of that sum in a sandbox is worth. -/
noncomputable def Tryz.pinned : Pinned := { name := "ytgiopebfjmfmhaagreat", sum := "3d30ff000ec5cd268e148fab97e69f4f8c1946efa088c24828329e17a0c901c5", checked := Tryz.checked }
namespace Rows
def none {H : Type} : Left H := { results := [], args := [] }

/-- 'netverifylaw16.LinkAreas': WHATEVER THE INPUT: true; the input reads as it did. -/
def linkAreasSpec : ChangeSpec := { name := "linkAreas", fn := fun _ => fun
  | [d1, d2, d3, d4] => { results := [.lit (.bool true)], args := [d1, d2, d3, d4] }
  | _ => none }
def linkAreasRow : OpenClaim := { program := "ytgiopebfjmfmhaagreat", sum := "3d30ff000ec5cd268e148fab97e69f4f8c1946efa088c24828329e17a0c901c5", func := "netverify/netverifylaw16.LinkAreas", spec := "linkAreas", unfollowed := true, recurses := true, plainKeys := false, apart := false }
def LinkAreasSaid : Prop := linkAreasRow.holds Tryz.pinned (OpenSpec.ofChange linkAreasSpec)

/-- ITS FALSE NEIGHBOUR: 'it returns false'. Refute it at one input. -/
def linkAreasWrong : ChangeSpec := { name := "linkAreas", fn := fun _ => fun
  | [d1, d2, d3, d4] => { results := [.lit (.bool false)], args := [d1, d2, d3, d4] }
  | _ => none }
def LinkAreasWrongFalsely : Prop := linkAreasRow.holds Tryz.pinned (OpenSpec.ofChange linkAreasWrong)

/-- 'netverifylaw16.LinkInternal': WHATEVER THE INPUT: true; the input reads as it did. -/
def linkInternalSpec : ChangeSpec := { name := "linkInternal", fn := fun _ => fun
  | [d1, d2] => { results := [.lit (.bool true)], args := [d1, d2] }
  | _ => none }
def linkInternalRow : OpenClaim := { program := "ytgiopebfjmfmhaagreat", sum := "3d30ff000ec5cd268e148fab97e69f4f8c1946efa088c24828329e17a0c901c5", func := "netverify/netverifylaw16.LinkInternal", spec := "linkInternal", unfollowed := true, recurses := true, plainKeys := false, apart := false }
def LinkInternalSaid : Prop := linkInternalRow.holds Tryz.pinned (OpenSpec.ofChange linkInternalSpec)

/-- ITS FALSE NEIGHBOUR: 'it returns false'. Refute it at one input. -/
def linkInternalWrong : ChangeSpec := { name := "linkInternal", fn := fun _ => fun
  | [d1, d2] => { results := [.lit (.bool false)], args := [d1, d2] }
  | _ => none }
def LinkInternalWrongFalsely : Prop := linkInternalRow.holds Tryz.pinned (OpenSpec.ofChange linkInternalWrong)

/-- 'netverifylaw16.LinkReach': WHATEVER THE INPUT: true; the input reads as it did. -/
def linkReachSpec : ChangeSpec := { name := "linkReach", fn := fun _ => fun
  | [d1, d2] => { results := [.lit (.bool true)], args := [d1, d2] }
  | _ => none }
def linkReachRow : OpenClaim := { program := "ytgiopebfjmfmhaagreat", sum := "3d30ff000ec5cd268e148fab97e69f4f8c1946efa088c24828329e17a0c901c5", func := "netverify/netverifylaw16.LinkReach", spec := "linkReach", unfollowed := true, recurses := true, plainKeys := false, apart := false }
def LinkReachSaid : Prop := linkReachRow.holds Tryz.pinned (OpenSpec.ofChange linkReachSpec)

/-- ITS FALSE NEIGHBOUR: 'it returns false'. Refute it at one input. -/
def linkReachWrong : ChangeSpec := { name := "linkReach", fn := fun _ => fun
  | [d1, d2] => { results := [.lit (.bool false)], args := [d1, d2] }
  | _ => none }
def LinkReachWrongFalsely : Prop := linkReachRow.holds Tryz.pinned (OpenSpec.ofChange linkReachWrong)

/-- 'netverifylaw16.LinkOneArea': WHATEVER THE INPUT: true; the input reads as it did. -/
def linkOneAreaSpec : ChangeSpec := { name := "linkOneArea", fn := fun _ => fun
  | [d1, d2] => { results := [.lit (.bool true)], args := [d1, d2] }
  | _ => none }
def linkOneAreaRow : OpenClaim := { program := "ytgiopebfjmfmhaagreat", sum := "3d30ff000ec5cd268e148fab97e69f4f8c1946efa088c24828329e17a0c901c5", func := "netverify/netverifylaw16.LinkOneArea", spec := "linkOneArea", unfollowed := true, recurses := true, plainKeys := false, apart := false }
def LinkOneAreaSaid : Prop := linkOneAreaRow.holds Tryz.pinned (OpenSpec.ofChange linkOneAreaSpec)

/-- ITS FALSE NEIGHBOUR: 'it returns false'. Refute it at one input. -/
def linkOneAreaWrong : ChangeSpec := { name := "linkOneArea", fn := fun _ => fun
  | [d1, d2] => { results := [.lit (.bool false)], args := [d1, d2] }
  | _ => none }
def LinkOneAreaWrongFalsely : Prop := linkOneAreaRow.holds Tryz.pinned (OpenSpec.ofChange linkOneAreaWrong)

/-- 'netverifylaw16.LinkCosts': WHATEVER THE INPUT: true; the input reads as it did. -/
def linkCostsSpec : ChangeSpec := { name := "linkCosts", fn := fun _ => fun
  | [d1, d2, d3, d4, d5] => { results := [.lit (.bool true)], args := [d1, d2, d3, d4, d5] }
  | _ => none }
def linkCostsRow : OpenClaim := { program := "ytgiopebfjmfmhaagreat", sum := "3d30ff000ec5cd268e148fab97e69f4f8c1946efa088c24828329e17a0c901c5", func := "netverify/netverifylaw16.LinkCosts", spec := "linkCosts", unfollowed := true, recurses := true, plainKeys := false, apart := false }
def LinkCostsSaid : Prop := linkCostsRow.holds Tryz.pinned (OpenSpec.ofChange linkCostsSpec)

/-- ITS FALSE NEIGHBOUR: 'it returns false'. Refute it at one input. -/
def linkCostsWrong : ChangeSpec := { name := "linkCosts", fn := fun _ => fun
  | [d1, d2, d3, d4, d5] => { results := [.lit (.bool false)], args := [d1, d2, d3, d4, d5] }
  | _ => none }
def LinkCostsWrongFalsely : Prop := linkCostsRow.holds Tryz.pinned (OpenSpec.ofChange linkCostsWrong)

/-- 'netverifylaw16.LinkRoutes': WHATEVER THE INPUT: true; the input reads as it did. -/
def linkRoutesSpec : ChangeSpec := { name := "linkRoutes", fn := fun _ => fun
  | [d1, d2, d3] => { results := [.lit (.bool true)], args := [d1, d2, d3] }
  | _ => none }
def linkRoutesRow : OpenClaim := { program := "ytgiopebfjmfmhaagreat", sum := "3d30ff000ec5cd268e148fab97e69f4f8c1946efa088c24828329e17a0c901c5", func := "netverify/netverifylaw16.LinkRoutes", spec := "linkRoutes", unfollowed := true, recurses := true, plainKeys := false, apart := false }
def LinkRoutesSaid : Prop := linkRoutesRow.holds Tryz.pinned (OpenSpec.ofChange linkRoutesSpec)

/-- ITS FALSE NEIGHBOUR: 'it returns false'. Refute it at one input. -/
def linkRoutesWrong : ChangeSpec := { name := "linkRoutes", fn := fun _ => fun
  | [d1, d2, d3] => { results := [.lit (.bool false)], args := [d1, d2, d3] }
  | _ => none }
def LinkRoutesWrongFalsely : Prop := linkRoutesRow.holds Tryz.pinned (OpenSpec.ofChange linkRoutesWrong)

/-- 'netverifylaw16.LinkTables': WHATEVER THE INPUT: true; the input reads as it did. -/
def linkTablesSpec : ChangeSpec := { name := "linkTables", fn := fun _ => fun
  | [d1, d2, d3] => { results := [.lit (.bool true)], args := [d1, d2, d3] }
  | _ => none }
def linkTablesRow : OpenClaim := { program := "ytgiopebfjmfmhaagreat", sum := "3d30ff000ec5cd268e148fab97e69f4f8c1946efa088c24828329e17a0c901c5", func := "netverify/netverifylaw16.LinkTables", spec := "linkTables", unfollowed := true, recurses := true, plainKeys := false, apart := false }
def LinkTablesSaid : Prop := linkTablesRow.holds Tryz.pinned (OpenSpec.ofChange linkTablesSpec)

/-- ITS FALSE NEIGHBOUR: 'it returns false'. Refute it at one input. -/
def linkTablesWrong : ChangeSpec := { name := "linkTables", fn := fun _ => fun
  | [d1, d2, d3] => { results := [.lit (.bool false)], args := [d1, d2, d3] }
  | _ => none }
def LinkTablesWrongFalsely : Prop := linkTablesRow.holds Tryz.pinned (OpenSpec.ofChange linkTablesWrong)

/-- 'netverifylaw16.LinkPartition': WHATEVER THE INPUT: true; the input reads as it did. -/
def linkPartitionSpec : ChangeSpec := { name := "linkPartition", fn := fun _ => fun
  | [d1, d2] => { results := [.lit (.bool true)], args := [d1, d2] }
  | _ => none }
def linkPartitionRow : OpenClaim := { program := "ytgiopebfjmfmhaagreat", sum := "3d30ff000ec5cd268e148fab97e69f4f8c1946efa088c24828329e17a0c901c5", func := "netverify/netverifylaw16.LinkPartition", spec := "linkPartition", unfollowed := true, recurses := true, plainKeys := false, apart := false }
def LinkPartitionSaid : Prop := linkPartitionRow.holds Tryz.pinned (OpenSpec.ofChange linkPartitionSpec)

/-- ITS FALSE NEIGHBOUR: 'it returns false'. Refute it at one input. -/
def linkPartitionWrong : ChangeSpec := { name := "linkPartition", fn := fun _ => fun
  | [d1, d2] => { results := [.lit (.bool false)], args := [d1, d2] }
  | _ => none }
def LinkPartitionWrongFalsely : Prop := linkPartitionRow.holds Tryz.pinned (OpenSpec.ofChange linkPartitionWrong)

/- THE SECOND FORM. 'bulk': how many values and letters a reading holds, each counted each time it is reached (what is shared counts as often as it is met; a slice's spare places count too). A statement '..UptoSaid' is the law's where the arguments, and the package variables that the reading takes, are together of bulk at most 1048576: NARROWER than '..Said'. Prove '..Said' where nothing that the law and all that it calls make is longer than what came in: it says more and counts as full. Else prove '..UptoSaid'. A law counts once. -/
mutual
def uptoBulk {H : Type} : DataW H → Nat
  | .lit (.string bytes) => bytes.length + 1
  | .lit _ => 1
  | .nil => 1
  | .ptr d => uptoBulk d + 1
  | .slice elems spare => uptoBulkAll elems + uptoBulkAll spare + 1
  | .agg parts => uptoBulkAll parts + 1
  | .iface _ d => uptoBulk d + 1
  | .map entries => uptoBulkEntries entries + 1
  | .held _ => 1
def uptoBulkAll {H : Type} : List (DataW H) → Nat
  | [] => 0
  | d :: r => uptoBulk d + uptoBulkAll r
def uptoBulkEntries {H : Type} : List (Lit × DataW H) → Nat
  | [] => 0
  | x :: r => uptoBulkEntry x + uptoBulkEntries r
def uptoBulkEntry {H : Type} : Lit × DataW H → Nat
  | (.string bytes, d) => bytes.length + uptoBulk d + 1
  | (_, d) => uptoBulk d + 1
 end
def uptoSmall : (H : Type) → List (DataW H) → Bool := fun _ ds => decide (uptoBulkAll ds ≤ 1048576)
def OpenSpec.upto (s : _root_.Go.ChangeSpec) : _root_.Go.OpenSpec := { _root_.Go.OpenSpec.ofChange s with cond := some uptoSmall }

/-- 'netverifylaw16.LinkAreas', WHERE WHAT IT READS IS OF BULK AT MOST 1048576: true; the input reads as it did. -/
def linkAreasUptoRow : OpenClaim := { program := "ytgiopebfjmfmhaagreat", sum := "3d30ff000ec5cd268e148fab97e69f4f8c1946efa088c24828329e17a0c901c5", func := "netverify/netverifylaw16.LinkAreas", spec := "linkAreas", unfollowed := true, recurses := true, plainKeys := false, apart := false, narrowed := true }
def LinkAreasUptoSaid : Prop := linkAreasUptoRow.holds Tryz.pinned (OpenSpec.upto linkAreasSpec)

/-- 'netverifylaw16.LinkInternal', WHERE WHAT IT READS IS OF BULK AT MOST 1048576: true; the input reads as it did. -/
def linkInternalUptoRow : OpenClaim := { program := "ytgiopebfjmfmhaagreat", sum := "3d30ff000ec5cd268e148fab97e69f4f8c1946efa088c24828329e17a0c901c5", func := "netverify/netverifylaw16.LinkInternal", spec := "linkInternal", unfollowed := true, recurses := true, plainKeys := false, apart := false, narrowed := true }
def LinkInternalUptoSaid : Prop := linkInternalUptoRow.holds Tryz.pinned (OpenSpec.upto linkInternalSpec)

/-- 'netverifylaw16.LinkReach', WHERE WHAT IT READS IS OF BULK AT MOST 1048576: true; the input reads as it did. -/
def linkReachUptoRow : OpenClaim := { program := "ytgiopebfjmfmhaagreat", sum := "3d30ff000ec5cd268e148fab97e69f4f8c1946efa088c24828329e17a0c901c5", func := "netverify/netverifylaw16.LinkReach", spec := "linkReach", unfollowed := true, recurses := true, plainKeys := false, apart := false, narrowed := true }
def LinkReachUptoSaid : Prop := linkReachUptoRow.holds Tryz.pinned (OpenSpec.upto linkReachSpec)

/-- 'netverifylaw16.LinkOneArea', WHERE WHAT IT READS IS OF BULK AT MOST 1048576: true; the input reads as it did. -/
def linkOneAreaUptoRow : OpenClaim := { program := "ytgiopebfjmfmhaagreat", sum := "3d30ff000ec5cd268e148fab97e69f4f8c1946efa088c24828329e17a0c901c5", func := "netverify/netverifylaw16.LinkOneArea", spec := "linkOneArea", unfollowed := true, recurses := true, plainKeys := false, apart := false, narrowed := true }
def LinkOneAreaUptoSaid : Prop := linkOneAreaUptoRow.holds Tryz.pinned (OpenSpec.upto linkOneAreaSpec)

/-- 'netverifylaw16.LinkCosts', WHERE WHAT IT READS IS OF BULK AT MOST 1048576: true; the input reads as it did. -/
def linkCostsUptoRow : OpenClaim := { program := "ytgiopebfjmfmhaagreat", sum := "3d30ff000ec5cd268e148fab97e69f4f8c1946efa088c24828329e17a0c901c5", func := "netverify/netverifylaw16.LinkCosts", spec := "linkCosts", unfollowed := true, recurses := true, plainKeys := false, apart := false, narrowed := true }
def LinkCostsUptoSaid : Prop := linkCostsUptoRow.holds Tryz.pinned (OpenSpec.upto linkCostsSpec)

/-- 'netverifylaw16.LinkRoutes', WHERE WHAT IT READS IS OF BULK AT MOST 1048576: true; the input reads as it did. -/
def linkRoutesUptoRow : OpenClaim := { program := "ytgiopebfjmfmhaagreat", sum := "3d30ff000ec5cd268e148fab97e69f4f8c1946efa088c24828329e17a0c901c5", func := "netverify/netverifylaw16.LinkRoutes", spec := "linkRoutes", unfollowed := true, recurses := true, plainKeys := false, apart := false, narrowed := true }
def LinkRoutesUptoSaid : Prop := linkRoutesUptoRow.holds Tryz.pinned (OpenSpec.upto linkRoutesSpec)

/-- 'netverifylaw16.LinkTables', WHERE WHAT IT READS IS OF BULK AT MOST 1048576: true; the input reads as it did. -/
def linkTablesUptoRow : OpenClaim := { program := "ytgiopebfjmfmhaagreat", sum := "3d30ff000ec5cd268e148fab97e69f4f8c1946efa088c24828329e17a0c901c5", func := "netverify/netverifylaw16.LinkTables", spec := "linkTables", unfollowed := true, recurses := true, plainKeys := false, apart := false, narrowed := true }
def LinkTablesUptoSaid : Prop := linkTablesUptoRow.holds Tryz.pinned (OpenSpec.upto linkTablesSpec)

/-- 'netverifylaw16.LinkPartition', WHERE WHAT IT READS IS OF BULK AT MOST 1048576: true; the input reads as it did. -/
def linkPartitionUptoRow : OpenClaim := { program := "ytgiopebfjmfmhaagreat", sum := "3d30ff000ec5cd268e148fab97e69f4f8c1946efa088c24828329e17a0c901c5", func := "netverify/netverifylaw16.LinkPartition", spec := "linkPartition", unfollowed := true, recurses := true, plainKeys := false, apart := false, narrowed := true }
def LinkPartitionUptoSaid : Prop := linkPartitionUptoRow.holds Tryz.pinned (OpenSpec.upto linkPartitionSpec)

end Rows
end Go.Proofs.YtgiopebfjmfmhaaGreat

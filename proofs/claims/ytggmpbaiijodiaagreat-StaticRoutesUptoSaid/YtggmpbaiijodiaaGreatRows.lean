/-
  No cell of these rows narrows 'for every input' (looked for: loops, veiled, ifaces, maps, wideKeys, modest, calm, conditions, laid).
  DERIVED. THE GIVEN ROWS OF THIS SEAT. 4 by the template 'for every input the law returns true; each argument reads behind the call as it read before'; 0 by the template 'total and deterministic' (their statements: YtggmpbaiijodiaaGreatTotals.lean).
  GIVEN WITH THE SEED: the statements are not yours to turn. If you find one false, say at which input.
  Laid BY PROGRAM, IN A SANDBOX (cutbox-rows.mjs): the forced cells as the released guide's own fill.sh prints them over the translation cb6b34702af7482b… (all of the seat's roots in one cut). By AI agents, Wed Nov 11 2026. No macro, syntax, notation, axiom, sorry.
-/
import Derived.Test.YtggmpbaiijodiaaGreatChecked
import GoSem.Claim
import GoSem.ClaimJoined
import GoSem.ClaimMapViews
import Derived.JoinedTies
import Derived.KernelRfl
namespace Go.Proofs.YtggmpbaiijodiaaGreat
/- THE CELL 'sum', in the pinned program and in every row, IS THE sha256 OF THE DUMP (.gsa) THAT YtggmpbaiijodiaaGreatProg.lean LOADS. Nothing in Lean hashes anything: it is a label: what it is worth is what the hold of that sum in a sandbox is worth. -/
noncomputable def Tryz.pinned : Pinned := { name := "ytggmpbaiijodiaagreat", sum := "cb6b34702af7482b08cc0830c6387d5cf63aca07d8045e34c0c0ba61240f2704", checked := Tryz.checked }
namespace Rows
def none {H : Type} : Left H := { results := [], args := [] }

/-- 'netverifylaw18.StaticRoutes': WHATEVER THE INPUT: true; the input reads as it did. -/
def staticRoutesSpec : ChangeSpec := { name := "staticRoutes", fn := fun _ => fun
  | [d1, d2, d3] => { results := [.lit (.bool true)], args := [d1, d2, d3] }
  | _ => none }
def staticRoutesRow : OpenClaim := { program := "ytggmpbaiijodiaagreat", sum := "cb6b34702af7482b08cc0830c6387d5cf63aca07d8045e34c0c0ba61240f2704", func := "netverify/netverifylaw18.StaticRoutes", spec := "staticRoutes", unfollowed := true, recurses := true, plainKeys := false, apart := false }
def StaticRoutesSaid : Prop := staticRoutesRow.holds Tryz.pinned (OpenSpec.ofChange staticRoutesSpec)

/-- ITS FALSE NEIGHBOUR: 'it returns false'. Refute it at one input. -/
def staticRoutesWrong : ChangeSpec := { name := "staticRoutes", fn := fun _ => fun
  | [d1, d2, d3] => { results := [.lit (.bool false)], args := [d1, d2, d3] }
  | _ => none }
def StaticRoutesWrongFalsely : Prop := staticRoutesRow.holds Tryz.pinned (OpenSpec.ofChange staticRoutesWrong)

/-- 'netverifylaw18.StaticResolves': WHATEVER THE INPUT: true; the input reads as it did. -/
def staticResolvesSpec : ChangeSpec := { name := "staticResolves", fn := fun _ => fun
  | [d1, d2, d3] => { results := [.lit (.bool true)], args := [d1, d2, d3] }
  | _ => none }
def staticResolvesRow : OpenClaim := { program := "ytggmpbaiijodiaagreat", sum := "cb6b34702af7482b08cc0830c6387d5cf63aca07d8045e34c0c0ba61240f2704", func := "netverify/netverifylaw18.StaticResolves", spec := "staticResolves", unfollowed := true, recurses := true, plainKeys := false, apart := false }
def StaticResolvesSaid : Prop := staticResolvesRow.holds Tryz.pinned (OpenSpec.ofChange staticResolvesSpec)

/-- ITS FALSE NEIGHBOUR: 'it returns false'. Refute it at one input. -/
def staticResolvesWrong : ChangeSpec := { name := "staticResolves", fn := fun _ => fun
  | [d1, d2, d3] => { results := [.lit (.bool false)], args := [d1, d2, d3] }
  | _ => none }
def StaticResolvesWrongFalsely : Prop := staticResolvesRow.holds Tryz.pinned (OpenSpec.ofChange staticResolvesWrong)

/-- 'netverifylaw18.StaticAlone': WHATEVER THE INPUT: true; the input reads as it did. -/
def staticAloneSpec : ChangeSpec := { name := "staticAlone", fn := fun _ => fun
  | [d1, d2, d3, d4] => { results := [.lit (.bool true)], args := [d1, d2, d3, d4] }
  | _ => none }
def staticAloneRow : OpenClaim := { program := "ytggmpbaiijodiaagreat", sum := "cb6b34702af7482b08cc0830c6387d5cf63aca07d8045e34c0c0ba61240f2704", func := "netverify/netverifylaw18.StaticAlone", spec := "staticAlone", unfollowed := true, recurses := true, plainKeys := false, apart := false }
def StaticAloneSaid : Prop := staticAloneRow.holds Tryz.pinned (OpenSpec.ofChange staticAloneSpec)

/-- ITS FALSE NEIGHBOUR: 'it returns false'. Refute it at one input. -/
def staticAloneWrong : ChangeSpec := { name := "staticAlone", fn := fun _ => fun
  | [d1, d2, d3, d4] => { results := [.lit (.bool false)], args := [d1, d2, d3, d4] }
  | _ => none }
def StaticAloneWrongFalsely : Prop := staticAloneRow.holds Tryz.pinned (OpenSpec.ofChange staticAloneWrong)

/-- 'netverifylaw18.StaticValid': WHATEVER THE INPUT: true; the input reads as it did. -/
def staticValidSpec : ChangeSpec := { name := "staticValid", fn := fun _ => fun
  | [d1, d2, d3] => { results := [.lit (.bool true)], args := [d1, d2, d3] }
  | _ => none }
def staticValidRow : OpenClaim := { program := "ytggmpbaiijodiaagreat", sum := "cb6b34702af7482b08cc0830c6387d5cf63aca07d8045e34c0c0ba61240f2704", func := "netverify/netverifylaw18.StaticValid", spec := "staticValid", unfollowed := true, recurses := true, plainKeys := false, apart := false }
def StaticValidSaid : Prop := staticValidRow.holds Tryz.pinned (OpenSpec.ofChange staticValidSpec)

/-- ITS FALSE NEIGHBOUR: 'it returns false'. Refute it at one input. -/
def staticValidWrong : ChangeSpec := { name := "staticValid", fn := fun _ => fun
  | [d1, d2, d3] => { results := [.lit (.bool false)], args := [d1, d2, d3] }
  | _ => none }
def StaticValidWrongFalsely : Prop := staticValidRow.holds Tryz.pinned (OpenSpec.ofChange staticValidWrong)

/- THE SECOND FORM. 'bulk': how many values and letters a reading holds, each counted each time it is reached (what is shared counts as often as it is met; a slice's spare places count too). A statement '..UptoSaid' is the law's where the arguments, and the package variables that the reading takes, are together of bulk at most 1048576: NARROWER than '..Said'. Prove '..Said' where nothing that the law and all that it calls make is longer than what came in: it says more and counts as full. Else prove '..UptoSaid'. A law counts once. -/
mutual
def uptoBulk {H : Type} : DataW H → Nat
  | .lit (.string bytes) => bytes.length + 1
  | .lit _ => 1
  | .nil => 1
  | .ptr d => uptoBulk d + 1
  | .slice elems spare => uptoBulkAll elems + uptoBulkAll spare + 1
  | .agg parts => uptoBulkAll parts + 1
  | .iface _ d => uptoBulk d + 1
  | .map entries => uptoBulkEntries entries + 1
  | .held _ => 1
def uptoBulkAll {H : Type} : List (DataW H) → Nat
  | [] => 0
  | d :: r => uptoBulk d + uptoBulkAll r
def uptoBulkEntries {H : Type} : List (Lit × DataW H) → Nat
  | [] => 0
  | x :: r => uptoBulkEntry x + uptoBulkEntries r
def uptoBulkEntry {H : Type} : Lit × DataW H → Nat
  | (.string bytes, d) => bytes.length + uptoBulk d + 1
  | (_, d) => uptoBulk d + 1
 end
def uptoSmall : (H : Type) → List (DataW H) → Bool := fun _ ds => decide (uptoBulkAll ds ≤ 1048576)
def OpenSpec.upto (s : _root_.Go.ChangeSpec) : _root_.Go.OpenSpec := { _root_.Go.OpenSpec.ofChange s with cond := some uptoSmall }

/-- 'netverifylaw18.StaticRoutes', WHERE WHAT IT READS IS OF BULK AT MOST 1048576: true; the input reads as it did. -/
def staticRoutesUptoRow : OpenClaim := { program := "ytggmpbaiijodiaagreat", sum := "cb6b34702af7482b08cc0830c6387d5cf63aca07d8045e34c0c0ba61240f2704", func := "netverify/netverifylaw18.StaticRoutes", spec := "staticRoutes", unfollowed := true, recurses := true, plainKeys := false, apart := false, narrowed := true }
def StaticRoutesUptoSaid : Prop := staticRoutesUptoRow.holds Tryz.pinned (OpenSpec.upto staticRoutesSpec)

/-- 'netverifylaw18.StaticResolves', WHERE WHAT IT READS IS OF BULK AT MOST 1048576: true; the input reads as it did. -/
def staticResolvesUptoRow : OpenClaim := { program := "ytggmpbaiijodiaagreat", sum := "cb6b34702af7482b08cc0830c6387d5cf63aca07d8045e34c0c0ba61240f2704", func := "netverify/netverifylaw18.StaticResolves", spec := "staticResolves", unfollowed := true, recurses := true, plainKeys := false, apart := false, narrowed := true }
def StaticResolvesUptoSaid : Prop := staticResolvesUptoRow.holds Tryz.pinned (OpenSpec.upto staticResolvesSpec)

/-- 'netverifylaw18.StaticAlone', WHERE WHAT IT READS IS OF BULK AT MOST 1048576: true; the input reads as it did. -/
def staticAloneUptoRow : OpenClaim := { program := "ytggmpbaiijodiaagreat", sum := "cb6b34702af7482b08cc0830c6387d5cf63aca07d8045e34c0c0ba61240f2704", func := "netverify/netverifylaw18.StaticAlone", spec := "staticAlone", unfollowed := true, recurses := true, plainKeys := false, apart := false, narrowed := true }
def StaticAloneUptoSaid : Prop := staticAloneUptoRow.holds Tryz.pinned (OpenSpec.upto staticAloneSpec)

/-- 'netverifylaw18.StaticValid', WHERE WHAT IT READS IS OF BULK AT MOST 1048576: true; the input reads as it did. -/
def staticValidUptoRow : OpenClaim := { program := "ytggmpbaiijodiaagreat", sum := "cb6b34702af7482b08cc0830c6387d5cf63aca07d8045e34c0c0ba61240f2704", func := "netverify/netverifylaw18.StaticValid", spec := "staticValid", unfollowed := true, recurses := true, plainKeys := false, apart := false, narrowed := true }
def StaticValidUptoSaid : Prop := staticValidUptoRow.holds Tryz.pinned (OpenSpec.upto staticValidSpec)

end Rows
end Go.Proofs.YtggmpbaiijodiaaGreat

/-
  law21, law23: the sanity checks' network; functions at it by the interpreter.
  law21, law23: contracts (printed by xgen.py).
-/
import Derived.Test.YthhmapljcdohnaaGreatCs16
import Derived.Test.YthhmapljcdohnaaGreatCs13
import Derived.Test.YthhmapljcdohnaaGreatCs17
set_option linter.unusedVariables false
set_option linter.unusedSimpArgs false
namespace Go.Ve
open Go Go.Proofs
set_option maxRecDepth 1000000
set_option maxHeartbeats 0
theorem noCnt : noCount Tryz.prog = true := by kernel_rfl
def J_slices_Clone_int : Nat → Option JA := fun k => match k with
  | 12 => some ⟨336, [], [.t 0 (.sl tI)]⟩
  | _ => none
theorem ok_slices_Clone_int : FnOk U Tryz.prog G0 53 (callS (specX [(.sl tI)] (.p (.sl tI)) slices_Clone_int)) :=
  fnOk_clone (t := tI) (bytes := 8)
    (fnOk_fastG (fn := Tryz.f53) (c := bodyOf Tryz.f53) (S := SpecsX.none U) (A := fun _ => none) tableX_none (by kernel_rfl) (by kernel_rfl) (enc := fun q => [.tl tI (q.1 :: q.2)]) (fun _ _ h => decNE_sound h) (by rintro ⟨⟩ ⟨y, r⟩; kernel_rfl))
    (fun c => fnOk_fastG (fn := Tryz.f53) (c := bodyOf Tryz.f53) (S := SpecsX.none U) (A := fun _ => none) tableX_none (by kernel_rfl) (by kernel_rfl) (enc := fun _ => [.val (.slice none 0 c)]) (fun _ _ h => decEx_sound h) (by rintro ⟨⟩ _; kernel_rfl))
    (fun a c => fnOk_fastG (fn := Tryz.f53) (c := bodyOf Tryz.f53) (S := SpecsX.none U) (A := J_slices_Clone_int) tableX_none (by kernel_rfl) (by kernel_rfl) (enc := fun _ => [.val (.slice (some a) 0 c)]) (fun _ _ h => decEx_sound h) (by rintro ⟨⟩ _; kernel_rfl))
def J_slices_Clone_Hop : Nat → Option JA := fun k => match k with
  | 12 => some ⟨336, [], [.t 0 (.sl tHop)]⟩
  | _ => none
theorem ok_slices_Clone_Hop : FnOk U Tryz.prog G0 137 (callS (specX [(.sl tHop)] (.p (.sl tHop)) slices_Clone_Hop)) :=
  fnOk_clone (t := tHop) (bytes := 16)
    (fnOk_fastG (fn := Tryz.f137) (c := bodyOf Tryz.f137) (S := SpecsX.none U) (A := fun _ => none) tableX_none (by kernel_rfl) (by kernel_rfl) (enc := fun q => [.tl tHop (q.1 :: q.2)]) (fun _ _ h => decNE_sound h) (by rintro ⟨⟩ ⟨y, r⟩; kernel_rfl))
    (fun c => fnOk_fastG (fn := Tryz.f137) (c := bodyOf Tryz.f137) (S := SpecsX.none U) (A := fun _ => none) tableX_none (by kernel_rfl) (by kernel_rfl) (enc := fun _ => [.val (.slice none 0 c)]) (fun _ _ h => decEx_sound h) (by rintro ⟨⟩ _; kernel_rfl))
    (fun a c => fnOk_fastG (fn := Tryz.f137) (c := bodyOf Tryz.f137) (S := SpecsX.none U) (A := J_slices_Clone_Hop) tableX_none (by kernel_rfl) (by kernel_rfl) (enc := fun _ => [.val (.slice (some a) 0 c)]) (fun _ _ h => decEx_sound h) (by rintro ⟨⟩ _; kernel_rfl))
def J_slices_Clone_Route : Nat → Option JA := fun k => match k with
  | 12 => some ⟨336, [], [.t 0 (.sl tRoute)]⟩
  | _ => none
theorem ok_slices_Clone_Route : FnOk U Tryz.prog G0 136 (callS (specX [(.sl tRoute)] (.o tRoute) slices_Clone_Route)) :=
  fnOk_cloneO (t := tRoute) (bytes := 136)
    (fnOk_fastG (fn := Tryz.f136) (c := bodyOf Tryz.f136) (S := SpecsX.none U) (A := fun _ => none) tableX_none (by kernel_rfl) (by kernel_rfl) (enc := fun q => [.tl tRoute (q.1 :: q.2)]) (fun _ _ h => decNE_sound h) (by rintro ⟨⟩ ⟨y, r⟩; kernel_rfl))
    (fun c => fnOk_fastG (fn := Tryz.f136) (c := bodyOf Tryz.f136) (S := SpecsX.none U) (A := fun _ => none) tableX_none (by kernel_rfl) (by kernel_rfl) (enc := fun _ => [.val (.slice none 0 c)]) (fun _ _ h => decEx_sound h) (by rintro ⟨⟩ _; kernel_rfl))
    (fun a c => fnOk_fastG (fn := Tryz.f136) (c := bodyOf Tryz.f136) (S := SpecsX.none U) (A := J_slices_Clone_Route) tableX_none (by kernel_rfl) (by kernel_rfl) (enc := fun _ => [.val (.slice (some a) 0 c)]) (fun _ _ h => decEx_sound h) (by rintro ⟨⟩ _; kernel_rfl))
noncomputable abbrev runH (n : Nat) : Specs (heapSig tPorts) := runF (Γ := heapSig tPorts) LF G0 (SpecsX.addH (SpecsX.none (heapSig tPorts))).toS 300 n
theorem table_runH (n : Nat) : Table (heapSig tPorts) Tryz.prog G0 (runH n) :=
  table_fast mixed noCnt (tableX_addH tableX_none (by kernel_rfl) (by kernel_rfl)) 404 364 300 n
noncomputable def topo_BuildC : ElS [tNetwork] → Option (RTy.El (.tu [tTopo, tI])) := unheap (.tu [tTopoR, tI]) (runX (runH 14 51) [tNetwork] (.tu [tTopoR, tI]))
theorem ok_topo_BuildC : FnOk U Tryz.prog G0 51 (callS (specX [tNetwork] (.tu [tTopo, tI]) topo_BuildC)) :=
  fnOk_unheap (tE := tPorts) (G := G0) (ts := [tNetwork]) (R := .tu [tTopoR, tI]) (g := runX (runH 14 51) [tNetwork] (.tu [tTopoR, tI])) (fun _ => rfl) (by kernel_rfl) (fnOk_runX ((table_runH 14).ok 51) _ _)

def if21 : Ty.El tIface := (⟨#[101, 48]⟩, 167772161, 24, 0, false, false, 0, 0, false, ⟨#[]⟩, ⟨#[]⟩, 0, ())
def rt21 : Ty.El tRouter := (⟨#[97]⟩, 0, [if21], [], [], [], [], [], (false, 0, [], [], ()), (false, 0, ⟨#[]⟩, ⟨#[]⟩, [], ()), (false, 0, 0, [], [], [], [], [], ()), ())
def net21 : Ty.El tNetwork := ([rt21], ())
def topo21 : Ty.El tTopo := ([((167772160, 24, ()), 0, [(0, 0, ())], ())], [], ())
def view21 : Ty.El tView := (net21, topo21, [], ())
def co21 : Ty.El tRoute := ((167772160, 24, ()), 1, 0, 0, 0, 0, 0, 0, [], 0, 0, [(0, 0, ())], false, ())
def z21 : Ty.El tTables := ([], [], [], [], ())
def s21 : Ty.El tTables := ([], [], [], [co21], ())

theorem build21 : topo_BuildC (net21, ()) = some (topo21, 0, ()) := by kernel_rfl

noncomputable abbrev specsC : SpecsX U := (((SpecsX.none U).add 53 (specG (decSW [(.sl tI)]) (.p (.sl tI)) slices_Clone_int)).add 137 (specG (decSW [(.sl tHop)]) (.p (.sl tHop)) slices_Clone_Hop)).add 136 (specG (decSW [(.sl tRoute)]) (.o tRoute) slices_Clone_Route)
noncomputable abbrev runC (n : Nat) : Specs U := runF (Γ := U) LF G0 specsC.toS 300 n
theorem table_runC (n : Nat) : Table U Tryz.prog G0 (runC n) :=
  table_fast mixed noCnt (tableX_add (tableX_add (tableX_add tableX_none (by kernel_rfl) (fnOk_wide ok_slices_Clone_int)) (by kernel_rfl) (fnOk_wide ok_slices_Clone_Hop)) (by kernel_rfl) (fnOk_wide ok_slices_Clone_Route)) 404 364 300 n

/-- A function by the interpreter. -/
noncomputable def runU (f : FuncId) (ts : List Ty) (R : RTy) (x : ElS ts) : Option R.El := (runX (runC 14 f) ts R () x).map Prod.snd
theorem ok_runU (f : FuncId) (ts : List Ty) (R : RTy) : FnOk U Tryz.prog G0 f (callS (specX ts R (runU f ts R))) := by
  refine fnOk_wkS (fnOk_runX ((table_runC 14).ok f) ts R) ?_
  intro s ds r h
  simp only [callS, specX, specG, specS] at h ⊢
  cases hd : decS ts ds with
  | none => rw [hd] at h; cases h
  | some x =>
    rw [hd] at h
    simp only [runU, Option.map_map, Option.map_eq_some_iff, Function.comp] at h ⊢
    obtain ⟨y, hy, rfl⟩ := h
    exact ⟨y, hy, rfl⟩

noncomputable def rib_Redistribute_C := runU 139 [tRouter, (.sl tRedist), (.sl tRoute), tI] (.p (.sl tRoute))
noncomputable def distvector_Table_C := runU 141 [tView, (.sl (.sl tRoute)), (.sl tRoute), tI] (.p (.sl tRoute))
noncomputable def pathvector_Table_C := runU 142 [tView, (.sl tTables), tI] (.p (.sl tRoute))
noncomputable def static_Connected_C := runU 145 [tView, tI] (.p (.sl tRoute))
noncomputable def static_Active_C := runU 146 [tView, (.sl tRoute), tI] (.p (.sl tRoute))
noncomputable def rib_Candidates_C := runU 147 [tTables] (.p (.sl tRoute))
noncomputable def rib_Select_C := runU 143 [(.sl tRoute)] (.p (.sl tRoute))
end Go.Ve

namespace Go.Ve
open Go Go.Proofs
set_option maxRecDepth 1000000
set_option maxHeartbeats 0
theorem ok_law5_Small : OkX 19 [tRouter] (.p .bool) law5_Small := fX [] (A := (jl [jj 6 2092367245128893587945263141069222138700785148154678169600 [] [.t 95 .bool], jj 17 2246662220170186071093357669306372748400539896510929225270622683216 [] [.t 3 tI], jj 32 2246662220170186071093357669306372748400539896510929225270622683216 [] [], jj 37 2412335190197425182395175538125413489691488791064416382276985293406222680336 [] [.t 4 tI], jj 52 2412335190197425182395175538125413489691488791064416382276985293406222680336 [] [], jj 57 2590225187221970235448528471106963021175544371793061347801571462163172713442087797776 [] [.t 5 tI], jj 72 2590225187221970235448528471106963021175544371793061347801571462163172713442087797776 [] []])) (fn := Tryz.f19) (by kernel_rfl) (by kernel_rfl) (by rintro ⟨⟩ ⟨a1, ⟨⟩⟩; kernel_rfl)
noncomputable def e_law5_Small : Ent := entA (by kernel_rfl) ok_law5_Small
theorem ok_law13_Small : OkX 5 [tNetwork] (.p .bool) law13_Small := fX [e_law5_Small] (A := (jl [jj 17 5864061993040 [] [.t 3 tI], jj 32 5864061993040 [] []])) (fn := Tryz.f5) (by kernel_rfl) (by kernel_rfl) (by rintro ⟨⟩ ⟨a1, ⟨⟩⟩; kernel_rfl)
noncomputable def e_law13_Small : Ent := entA (by kernel_rfl) ok_law13_Small
theorem ok_ref4_letter : OkX 66 [(.int .u8)] (.p .bool) ref4_letter := fX [] (A := (jl [jj 6 5726623056 [] [.t 2 .bool]])) (fn := Tryz.f66) (by kernel_rfl) (by kernel_rfl) (by rintro ⟨⟩ ⟨a1, ⟨⟩⟩; kernel_rfl)
noncomputable def e_ref4_letter : Ent := entA (by kernel_rfl) ok_ref4_letter
theorem ok_ref4_Name : OkX 35 [.str] (.p .bool) ref4_Name := fX [e_ref4_letter] (A := (jl [jj 6 91625968640 [] [.t 18 .bool], jj 30 1730765619511609185490967430430720 [] [.t 55 .bool], jj 17 1730765619511609209510073817104720 [] [.t 3 tI], jj 36 1730765619511609209510073817104720 [] []])) (fn := Tryz.f35) (by kernel_rfl) (by kernel_rfl) (by rintro ⟨⟩ ⟨a1, ⟨⟩⟩; kernel_rfl)
noncomputable def e_ref4_Name : Ent := entA (by kernel_rfl) ok_ref4_Name
theorem ok_ref8_within : OkX 36 [tI, tI, tI] (.p .bool) ref8_within := fX [] (A := (jl [jj 6 357912576 [] [.t 6 .bool]])) (fn := Tryz.f36) (by kernel_rfl) (by kernel_rfl) (by rintro ⟨⟩ ⟨a1, a2, a3, ⟨⟩⟩; kernel_rfl)
noncomputable def e_ref8_within : Ent := entA (by kernel_rfl) ok_ref8_within
theorem ok_ref4_Mask : OkX 111 [tI] (.p tU) ref4_Mask := fX [] (A := (jl [jj 16 22906404928 [] [.t 3 tU], jj 13 22906492224 [] [.t 4 tI, .t 3 tU], jj 28 22906492224 [] [.t 3 tU]])) (fn := Tryz.f111) (by kernel_rfl) (by kernel_rfl) (by rintro ⟨⟩ ⟨a1, ⟨⟩⟩; kernel_rfl)
noncomputable def e_ref4_Mask : Ent := entA (by kernel_rfl) ok_ref4_Mask
theorem ok_ref4_Network : OkX 68 [tU, tI] (.p tPrefix) ref4_Network := fX [e_ref4_Mask] (A := fun _ => none) (fn := Tryz.f68) (by kernel_rfl) (by kernel_rfl) (by rintro ⟨⟩ ⟨a1, a2, ⟨⟩⟩; kernel_rfl)
noncomputable def e_ref4_Network : Ent := entA (by kernel_rfl) ok_ref4_Network
theorem ok_ref4_Contains : OkX 154 [tPrefix, tU] (.p .bool) ref4_Contains := fX [e_ref4_Mask] (A := fun _ => none) (fn := Tryz.f154) (by kernel_rfl) (by kernel_rfl) (by rintro ⟨⟩ ⟨a1, a2, ⟨⟩⟩; kernel_rfl)
noncomputable def e_ref4_Contains : Ent := entA (by kernel_rfl) ok_ref4_Contains
theorem ok_ref4_Covers : OkX 110 [tPrefix, tPrefix] (.p .bool) ref4_Covers := fX [e_ref4_Contains] (A := (jl [jj 6 1431655680 [] [.t 4 .bool]])) (fn := Tryz.f110) (by kernel_rfl) (by kernel_rfl) (by rintro ⟨⟩ ⟨a1, a2, ⟨⟩⟩; kernel_rfl)
noncomputable def e_ref4_Covers : Ent := entA (by kernel_rfl) ok_ref4_Covers
theorem ok_ref4_Overlaps : OkX 67 [tPrefix, tPrefix] (.p .bool) ref4_Overlaps := fX [e_ref4_Covers] (A := (jl [jj 6 22369536 [] [.t 4 .bool]])) (fn := Tryz.f67) (by kernel_rfl) (by kernel_rfl) (by rintro ⟨⟩ ⟨a1, a2, ⟨⟩⟩; kernel_rfl)
noncomputable def e_ref4_Overlaps : Ent := entA (by kernel_rfl) ok_ref4_Overlaps
theorem ok_ref8_interfaces : OkX 37 [(.sl tIface)] (.p tI) ref8_interfaces := fX [e_ref4_Overlaps, e_ref4_Network, e_ref8_within, e_ref4_Name] (A := (jl [jj 41 6296488550001201382416 [] [.t 5 tI], jj 56 6296488550001201382416 [] [], jj 58 27043212798572405254770141429760 [] [.t 52 .bool], jj 66 133911503688249189628496841001387004071981355583303067893760 [] [.t 98 .bool], jj 74 38597363079105398340612157981313446322593153860116637802968945187404973604864 [] [.t 127 .bool], jj 94 45567723432979415051570096605279850406945466927309786544954066201002041624518809725788842937548800 [] [.t 162 .bool], jj 85 45567723432979415091055199035204673046383172815272363122919130971985473961973845872487220144771088 [] [.t 6 tI], jj 20 45567723432979415091093796398283778444857696476941925758870220966874020816653665067156523089663760 [] [], jj 17 45567723432979415091093796398283778444857696476941925758870220966874020816653665067156524520970064 [] [.t 3 tI], jj 100 45567723432979415091093796398283778444857696476941925758870220966874020816653665067156524520970064 [] []])) (fn := Tryz.f37) (by kernel_rfl) (by kernel_rfl) (by rintro ⟨⟩ ⟨a1, ⟨⟩⟩; kernel_rfl)
noncomputable def e_ref8_interfaces : Ent := entA (by kernel_rfl) ok_ref8_interfaces
theorem ok_ref4_Valid : OkX 73 [tPrefix] (.p .bool) ref4_Valid := fX [e_ref4_Mask] (A := (jl [jj 6 366503875920 [] [.t 2 .bool]])) (fn := Tryz.f73) (by kernel_rfl) (by kernel_rfl) (by rintro ⟨⟩ ⟨a1, ⟨⟩⟩; kernel_rfl)
noncomputable def e_ref4_Valid : Ent := entA (by kernel_rfl) ok_ref4_Valid
theorem ok_ref8_ValidPrefixRule : OkX 69 [tPRule] (.p .bool) ref8_ValidPrefixRule := fX [e_ref4_Valid] (A := (jl [jj 6 1501199875790160 [] [.t 2 .bool]])) (fn := Tryz.f69) (by kernel_rfl) (by kernel_rfl) (by rintro ⟨⟩ ⟨a1, ⟨⟩⟩; kernel_rfl)
noncomputable def e_ref8_ValidPrefixRule : Ent := entA (by kernel_rfl) ok_ref8_ValidPrefixRule
theorem ok_ref8_prefixLists : OkX 38 [(.sl tPList)] (.p tI) ref8_prefixLists := fX [e_ref8_ValidPrefixRule, e_ref4_Name] (A := (jl [jj 37 25185954569440712458512 [] [.t 4 tI], jj 52 25185954569440712458512 [] [], jj 73 7433581732836780243977355534074804751565840 [] [.t 5 tI], jj 20 7433581732843541047178572757549453477414160 [] [], jj 17 7433581732843541047178572757549453835240784 [] [.t 3 tI], jj 88 7433581732843541047178572757549453835240784 [] []])) (fn := Tryz.f38) (by kernel_rfl) (by kernel_rfl) (by rintro ⟨⟩ ⟨a1, ⟨⟩⟩; kernel_rfl)
noncomputable def e_ref8_prefixLists : Ent := entA (by kernel_rfl) ok_ref8_prefixLists
theorem ok_ref8_PrefixList : OkX 70 [tRouter, .str] (.p tI) ref8_PrefixList := fX [] (A := (jl [jj 9 5864062014720 [] [.t 5 tI], jj 24 5864062014720 [] []])) (fn := Tryz.f70) (by kernel_rfl) (by kernel_rfl) (by rintro ⟨⟩ ⟨a1, a2, ⟨⟩⟩; kernel_rfl)
noncomputable def e_ref8_PrefixList : Ent := entA (by kernel_rfl) ok_ref8_PrefixList
theorem ok_ref8_routeMaps : OkX 39 [tRouter] (.p tI) ref8_routeMaps := fX [e_ref8_within, e_ref8_PrefixList, e_ref4_Name] (A := (jl [jj 41 6447604369776822389310480 [] [.t 5 tI], jj 56 6447604369776822389310480 [] [], jj 90 124714687448262656856724350867958696886044878438400 [] [.t 83 .bool], jj 98 8986648889050213140174198643436161204497942415724039816394959749120 [] [.t 111 .bool], jj 77 8986648889050213264889005029006541827113428629237647983535760396304 [] [.t 6 tI], jj 24 8986648889050213264889005029006543557879048140846857493609577501712 [] [], jj 21 8986648889050213264889005029006543557879048140846857493701181101328 [] [.t 4 tI], jj 104 8986648889050213264889005029006543557879048140846857493701181101328 [] []])) (fn := Tryz.f39) (by kernel_rfl) (by kernel_rfl) (by rintro ⟨⟩ ⟨a1, ⟨⟩⟩; kernel_rfl)
noncomputable def e_ref8_routeMaps : Ent := entA (by kernel_rfl) ok_ref8_routeMaps
theorem ok_ref8_ports : OkX 112 [tPorts] (.p .bool) ref8_ports := fX [] (A := (jl [jj 6 22906492240 [] [.t 2 .bool]])) (fn := Tryz.f112) (by kernel_rfl) (by kernel_rfl) (by rintro ⟨⟩ ⟨a1, ⟨⟩⟩; kernel_rfl)
noncomputable def e_ref8_ports : Ent := entA (by kernel_rfl) ok_ref8_ports
theorem ok_ref8_all : OkX 113 [tPorts] (.p .bool) ref8_all := fX [] (A := fun _ => none) (fn := Tryz.f113) (by kernel_rfl) (by kernel_rfl) (by rintro ⟨⟩ ⟨a1, ⟨⟩⟩; kernel_rfl)
noncomputable def e_ref8_all : Ent := entA (by kernel_rfl) ok_ref8_all
theorem ok_ref8_ValidRule : OkX 71 [tRule] (.p .bool) ref8_ValidRule := fX [e_ref8_all, e_ref8_ports, e_ref8_within] (A := (jl [jj 6 100743818301219097892160 [] [.t 38 .bool], jj 14 6923062477945693019739442674401296 [] [.t 2 .bool]])) (fn := Tryz.f71) (by kernel_rfl) (by kernel_rfl) (by rintro ⟨⟩ ⟨a1, ⟨⟩⟩; kernel_rfl)
noncomputable def e_ref8_ValidRule : Ent := entA (by kernel_rfl) ok_ref8_ValidRule
theorem ok_ref8_accessLists : OkX 40 [(.sl tACL)] (.p tI) ref8_accessLists := fX [e_ref8_ValidRule, e_ref4_Name] (A := (jl [jj 37 25185954569440712458512 [] [.t 4 tI], jj 52 25185954569440712458512 [] [], jj 73 7433581732836780243977355534074804751565840 [] [.t 5 tI], jj 20 7433581732843541047178572757549453477414160 [] [], jj 17 7433581732843541047178572757549453835240784 [] [.t 3 tI], jj 88 7433581732843541047178572757549453835240784 [] []])) (fn := Tryz.f40) (by kernel_rfl) (by kernel_rfl) (by rintro ⟨⟩ ⟨a1, ⟨⟩⟩; kernel_rfl)
noncomputable def e_ref8_accessLists : Ent := entA (by kernel_rfl) ok_ref8_accessLists
theorem ok_ref8_ACL : OkX 72 [tRouter, .str] (.p tI) ref8_ACL := fX [] (A := (jl [jj 9 5864062014720 [] [.t 5 tI], jj 24 5864062014720 [] []])) (fn := Tryz.f72) (by kernel_rfl) (by kernel_rfl) (by rintro ⟨⟩ ⟨a1, a2, ⟨⟩⟩; kernel_rfl)
noncomputable def e_ref8_ACL : Ent := entA (by kernel_rfl) ok_ref8_ACL
theorem ok_ref8_translations : OkX 41 [tRouter] (.p tI) ref8_translations := fX [e_ref8_ACL, e_ref8_within] (A := (jl [jj 42 412646679760292225090585600 [] [.t 5 .bool], jj 50 30447950777727144122641087138733868110036599808 [] [.t 5 .bool], jj 58 37692737381938865697777012862015049227352017065451593534499925742265041920 [] [.t 5 .bool], jj 60 37692737381938865697777013349182261670986323133346537773260926430180541440 [] [.t 5 .bool], jj 70 632378593604264737584744508361900640506471740472781533529553313286966197459353600 [] [.t 134 .bool], jj 17 632379196688062848606595672794114227422658476253951667074157685461882905339889488 [] [.t 3 tI], jj 76 632379196688062848606595672794114227422658476253951667074157685461882905339889488 [] []])) (fn := Tryz.f41) (by kernel_rfl) (by kernel_rfl) (by rintro ⟨⟩ ⟨a1, ⟨⟩⟩; kernel_rfl)
noncomputable def e_ref8_translations : Ent := entA (by kernel_rfl) ok_ref8_translations
theorem ok_ref8_filters : OkX 42 [tRouter] (.p tI) ref8_filters := fX [e_ref8_ACL] (A := (jl [jj 22 100743818301213371269120 [] [.t 38 .bool], jj 9 100743818301219097892688 [] [.t 3 tI], jj 28 100743818301219097892688 [] []])) (fn := Tryz.f42) (by kernel_rfl) (by kernel_rfl) (by rintro ⟨⟩ ⟨a1, ⟨⟩⟩; kernel_rfl)
noncomputable def e_ref8_filters : Ent := entA (by kernel_rfl) ok_ref8_filters
theorem ok_ref8_Address : OkX 21 [tRouter, tU] (.p tI) ref8_Address := fX [] (A := (jl [jj 18 384307168179912704 [] [.t 29 .bool], jj 9 1537228672809129216 [] [.t 5 tI], jj 24 1537228672809129216 [] []])) (fn := Tryz.f21) (by kernel_rfl) (by kernel_rfl) (by rintro ⟨⟩ ⟨a1, a2, ⟨⟩⟩; kernel_rfl)
noncomputable def e_ref8_Address : Ent := entA (by kernel_rfl) ok_ref8_Address
theorem ok_ref8_Interface : OkX 74 [tRouter, .str] (.p tI) ref8_Interface := fX [] (A := (jl [jj 9 5864062014720 [] [.t 5 tI], jj 24 5864062014720 [] []])) (fn := Tryz.f74) (by kernel_rfl) (by kernel_rfl) (by rintro ⟨⟩ ⟨a1, a2, ⟨⟩⟩; kernel_rfl)
noncomputable def e_ref8_Interface : Ent := entA (by kernel_rfl) ok_ref8_Interface
theorem ok_ref8_statics : OkX 43 [tRouter] (.p tI) ref8_statics := fX [e_ref8_Interface, e_ref8_within, e_ref8_Address, e_ref4_Valid] (A := (jl [jj 40 95982967058334720 [] [.t 5 tI], jj 48 98286558267733705728 [] [.t 5 tI], jj 56 25087571940244990198784 [] [.t 5 tI], jj 58 464598858302721315423474842771536090234880 [] [.t 69 .bool], jj 88 1995436901704527259351376376153304285490059033972736 [] [], jj 102 2246662222260509988834430072107158093433561622966889387929056051200 [] [.t 110 .bool], jj 93 2246662222262551320785349088125518235372070433246631536525402193936 [] [.t 7 tI], jj 20 2246662222262553316222251257251635889469762035211714373333674907408 [] [], jj 17 2246662222262553316222251257251635889469762035211714373425295284048 [] [.t 3 tI], jj 108 2246662222262553316222251257251635889469762035211714373425295284048 [] []])) (fn := Tryz.f43) (by kernel_rfl) (by kernel_rfl) (by rintro ⟨⟩ ⟨a1, ⟨⟩⟩; kernel_rfl)
noncomputable def e_ref8_statics : Ent := entA (by kernel_rfl) ok_ref8_statics
theorem ok_ref8_RouteMap : OkX 114 [tRouter, .str] (.p tI) ref8_RouteMap := fX [] (A := (jl [jj 9 5864062014720 [] [.t 5 tI], jj 24 5864062014720 [] []])) (fn := Tryz.f114) (by kernel_rfl) (by kernel_rfl) (by rintro ⟨⟩ ⟨a1, a2, ⟨⟩⟩; kernel_rfl)
noncomputable def e_ref8_RouteMap : Ent := entA (by kernel_rfl) ok_ref8_RouteMap
theorem ok_ref8_redistributions : OkX 75 [tRouter, (.sl tRedist), tI, tI, tI] (.p tI) ref8_redistributions := fX [e_ref8_RouteMap, e_ref8_within] (A := (jl [jj 30 1690200800304299863862767779840 [] [.t 50 .bool], jj 38 7433581732841850846378268451680791564386304 [] [.t 71 .bool], jj 46 7794667965516416053545271929247418555377804902400 [] [.t 81 .bool], jj 57 523091803487547997888166888180986426855020182207097470976 [] [.t 13 tI], jj 20 523091811282223396986315785267305534675196263582539972608 [] [], jj 17 523091811282223396986315785267305534675196287033065603072 [] [.t 11 tI], jj 72 523091811282223396986315785267305534675196287033065603072 [] []])) (fn := Tryz.f75) (by kernel_rfl) (by kernel_rfl) (by rintro ⟨⟩ ⟨a1, a2, a3, a4, a5, ⟨⟩⟩; kernel_rfl)
noncomputable def e_ref8_redistributions : Ent := entA (by kernel_rfl) ok_ref8_redistributions
theorem ok_ref8_linkState : OkX 44 [tRouter] (.p tI) ref8_linkState := fX [e_ref8_redistributions, e_ref4_Overlaps, e_ref4_Valid, e_ref8_within] (A := (jl [jj 14 1501199874392064 [] [.t 25 .bool], jj 54 110768999647131088315831082790420480 [] [.t 58 .bool], jj 74 8173309551284740464483728504488827824841739507723141120 [] [.t 91 .bool], jj 65 8173309551284740577800415145152905989891291396622517264 [] [.t 5 tI], jj 48 8173309551284740577911184144800037078207122479412937744 [] [], jj 45 8173309551284740577911184144801648880917306925194937616 [] [.t 4 tI], jj 80 8173309551284740577911184144801648880917306925194937616 [] []])) (fn := Tryz.f44) (by kernel_rfl) (by kernel_rfl) (by rintro ⟨⟩ ⟨a1, ⟨⟩⟩; kernel_rfl)
noncomputable def e_ref8_linkState : Ent := entA (by kernel_rfl) ok_ref8_linkState
theorem ok_ref8_distance : OkX 45 [tRouter] (.p tI) ref8_distance := fX [e_ref8_redistributions, e_ref8_PrefixList, e_ref8_within] (A := (jl [jj 14 24019198012555264 [] [.t 27 .bool], jj 34 108172851219469426679694103674880 [] [.t 53 .bool]])) (fn := Tryz.f45) (by kernel_rfl) (by kernel_rfl) (by rintro ⟨⟩ ⟨a1, ⟨⟩⟩; kernel_rfl)
noncomputable def e_ref8_distance : Ent := entA (by kernel_rfl) ok_ref8_distance
theorem ok_ref8_neighbors : OkX 76 [tRouter] (.p tI) ref8_neighbors := fX [e_ref8_RouteMap, e_ref8_within] (A := (jl [jj 30 24595658742039576576 [] [.t 32 .bool], jj 38 7259357160980020553860729299779442442240 [] [.t 66 .bool], jj 49 31178701589133238427365255877395379460782172406800 [] [.t 5 tI], jj 24 31178701596392595588345276431280704419303654425616 [] [], jj 21 31178701596392595588345276431280704419326555325712 [] [.t 4 tI], jj 64 31178701596392595588345276431280704419326555325712 [] []])) (fn := Tryz.f76) (by kernel_rfl) (by kernel_rfl) (by rintro ⟨⟩ ⟨a1, ⟨⟩⟩; kernel_rfl)
noncomputable def e_ref8_neighbors : Ent := entA (by kernel_rfl) ok_ref8_neighbors
theorem ok_ref8_originations : OkX 77 [tPV] (.p tI) ref8_originations := fX [e_ref4_Valid] (A := (jl [jj 37 103161669916429158228951312 [] [.t 4 tI], jj 20 103161669940446890226090256 [] [], jj 17 103161669940448356152115536 [] [.t 3 tI], jj 52 103161669940448356152115536 [] [], jj 85 1948668849746180360361501571666429475588596043792 [] [.t 6 tI], jj 68 1948668849774536791580174899052741648666549293072 [] [], jj 65 1948668849774537224245170389450289247010062078992 [] [.t 5 tI], jj 100 1948668849774537224245170389450289247010062078992 [] [], jj 126 8776015936244118375918817192586638416352703146905166652479897600 [] [.t 106 .bool], jj 145 2412335183457438515607515589458659717936581122655130276641842173130320379920 [] [.t 9 tI], jj 116 2412335192444087404649555544796380006365213496389376768509399724846544781328 [] [], jj 113 2412335192444087404657728355488439204661595267009755516997428957606549340176 [] [.t 7 tI], jj 160 2412335192444087404657728355488439204661595267009755516997428957606549340176 [] []])) (fn := Tryz.f77) (by kernel_rfl) (by kernel_rfl) (by rintro ⟨⟩ ⟨a1, ⟨⟩⟩; kernel_rfl)
noncomputable def e_ref8_originations : Ent := entA (by kernel_rfl) ok_ref8_originations
theorem ok_ref8_pathVector : OkX 46 [tRouter] (.p tI) ref8_pathVector := fX [e_ref8_redistributions, e_ref8_originations, e_ref8_neighbors, e_ref8_within] (A := (jl [jj 14 1611901092819505564876800 [] [.t 40 .bool], jj 26 1730765617899708116690659876798464 [] [.t 55 .bool]])) (fn := Tryz.f46) (by kernel_rfl) (by kernel_rfl) (by rintro ⟨⟩ ⟨a1, ⟨⟩⟩; kernel_rfl)
noncomputable def e_ref8_pathVector : Ent := entA (by kernel_rfl) ok_ref8_pathVector
theorem ok_ref8_CheckRouter : OkX 20 [tRouter] (.p tI) ref8_CheckRouter := fX [e_ref8_pathVector, e_ref8_distance, e_ref8_linkState, e_ref8_statics, e_ref8_filters, e_ref8_translations, e_ref8_accessLists, e_ref8_routeMaps, e_ref8_prefixLists, e_ref8_interfaces, e_ref8_within, e_ref4_Name] (A := (jl [jj 29 6760803194920734830822890144016 [] [.t 4 tI], jj 44 6760803194920734830822890144016 [] []])) (fn := Tryz.f20) (by kernel_rfl) (by kernel_rfl) (by rintro ⟨⟩ ⟨a1, ⟨⟩⟩; kernel_rfl)
noncomputable def e_ref8_CheckRouter : Ent := entA (by kernel_rfl) ok_ref8_CheckRouter
theorem ok_ref8_Check : OkX 6 [tNetwork] (.p tI) ref8_Check := fX [e_ref8_Address, e_ref8_CheckRouter] (A := (jl [jj 41 6602346876092618007411426320 [] [.t 5 tI], jj 56 6602346876092618007411426320 [] [], jj 86 1995436894735544384810556644423392325287446063349760 [] [.t 85 .bool], jj 77 1995436902161866760493117671048079757878355510231056 [] [.t 8 tI], jj 64 1995436902169126089961847779416217730674252809617424 [] [], jj 61 1995436902169126117654091089255088894142100436799504 [] [.t 6 tI], jj 20 1995436902169126117654097691601965010778939356992784 [] [], jj 17 1995436902169126117654097691601965082836899876427088 [] [.t 3 tI], jj 92 1995436902169126117654097691601965082836899876427088 [] []])) (fn := Tryz.f6) (by kernel_rfl) (by kernel_rfl) (by rintro ⟨⟩ ⟨a1, ⟨⟩⟩; kernel_rfl)
theorem ok_ref4_Compare : OkX 60 [tPrefix, tPrefix] (.p tI) ref4_Compare := fX [] (A := (jl [jj 6 93824992236544 [] [.t 23 .bool]])) (fn := Tryz.f60) (by kernel_rfl) (by kernel_rfl) (by rintro ⟨⟩ ⟨a1, a2, ⟨⟩⟩; kernel_rfl)
noncomputable def e_ref4_Compare : Ent := entA (by kernel_rfl) ok_ref4_Compare
def J_ref15_Build : Nat → Option JA := fun k => match k with
  | 84 => some ⟨184497489401772529385612327842172717039008268166646221893471402059821287234759868672175917131173661172843563441437060059660158104845032398976807920666283692562120150139178769612799511748636278282415866878160176201872937423527853931074825229289817028865471580173776186278979555862451026349435370470386779578868176354099221238174997807148290368091204552361327921521465467763204555046027307456204118567337113234081310864304329682188410055227959601689731512418582605896572426052789584762208778001498785021309361810928365592763602942101060634062780064931573442859418747069999582698364321162101164826918019197244306192189303006234838493212327877025209681605424513505280, [], [.v 5 [.o 1100 tDomainR, .o 1101 tI], .st]⟩
  | 25 => some ⟨184497489401772529385612327842172717039008268166646221893471402059821287234759868672175917131173661172843563441437060059660158104845032398976807920666283692562120150139178769612799511748636278282415866878160176201872937423527853931074825229289817028865471580173776186278979555862451026349435370470386779578868176354099221238174997807148290368091204552361327921521465467763204555046027307456204118567337113234081310864304329682188410055227959601689731512418582605896572426052789584762208778001498785021309361810928365592763602942101060634062780064931573442859418747069999582698364321162101164826918019197244306192189303006234838493212327877025209681605424513505280, [], [.t 6 tI, .v 5 [.o 1100 tDomainR, .o 1101 tI], .st]⟩
  | 28 => some ⟨184497489401772529385612327842172717039008268166646221893471402059821287234759868672175917131173661172843563441437060059660158104845032398976807920666283692562120150139178769612799511748636278282415866878160176201872937423527853931074825229289817028865471580173776186278979555862451026349435370470386779578868176354099221238174997807148290368091204552361327921521465467763204555046027307456204118567337113234081310864304329682188410055227959601689731512418582605896572426052789584762208778001498785021309361810928365592763602942101060634062780064931573442859418747069999582698364321162101164826918019197244306192189303006234838493212327877025209675600991514216448, [], [.v 5 [.o 1100 tDomainR, .o 1101 tI], .st]⟩
  | 37 => some ⟨184497489401772529385612327842172717039008268166646221893471402059821287234759868672175917131173661172843563441437060059660158104845032398976807920666283692562120150139178769612799511748636278282415866878160176201872937423527853931074825229289817028865471580173776186278979555862451026349435370470386779578868176354099221238174997807148290368091204552361327921521465467763204555046027307456204118567337113234081310864304329682188410055227959601689731512418582605896572426052789584762208778001498785021309361810928365592763602942101060634062780064931573442859418747069999582698364321162101164826918019197244306192189303006234838493212327877025209675600991514216448, [], [.t 7 tI, .v 5 [.o 1100 tDomainR, .o 1101 tI], .st]⟩
  | 40 => some ⟨184497489401772529385612327842172717039008268166646221893471402059821287234759868672175917131173661172843563441437060059660158104845032398976807920666283692562120150139178769612799511748636278282415866878160176201872937423527853931074825229289817028865471580173776186278979555862451026349435370470386779578868176354099221238174997807148290368091204552361327921521465467763204555046027307456204118567337113234081310864304329682188410055227959601689731512418582605896572426052789584762208778001498785021309361810928365592763602942101060634062780064931573442859418747069999582698364321162101164826918019197244306192189303006234838493212327877000023727030486242887680, [], [.v 5 [.o 1100 tDomainR, .o 1101 tI], .st]⟩
  | 80 => some ⟨184497489401772529385612327842172717039008268166646221893471402059821287234759868672175917131173661172843563441437060059660158104845032398976807920666283692562120150139178769612799511748636278282415866878160176201872937423527853931074825229289817028865471580173776186278979555862451026349435370470386779578868176354099221238174997807148290368091204552361327921521465467763204555046027307456204118567337113234081310864304329682188410055227959601689731512418582605896572426052789584762208778001498785021309361810928365592763602942101060634062780064931573442859418747069821583778745688924935728571583505041672838009412557657231906458756740677065373698151113771976704, [], [.v 5 [.o 1100 tDomainR, .o 1101 tI], .st]⟩
  | 70 => some ⟨150770949527755429313232131334431639559735035425831931880481358702119485440, [], [.t 123 .bool, .v 5 [.o 1100 tDomainR, .o 1101 tI], .st]⟩
  | 68 => some ⟨33477875922062297407124099488107905476223153719886495090688, [], [.t 10 tI, .v 5 [.o 1100 tDomainR, .o 1101 tI], .st]⟩
  | 61 => some ⟨33477875922062297407124099488107905476223153719886495090688, [], [.t 10 tI, .v 5 [.o 1100 tDomainR, .o 1101 tI], .st]⟩
  | 62 => some ⟨2092367245128893587945152372069573395711376497566321475584, [], [.t 95 .bool, .v 5 [.o 1100 tDomainR, .o 1101 tI], .st]⟩
  | 50 => some ⟨108166248872599386899585878196224, [], [.t 53 .bool, .v 5 [.o 1100 tDomainR, .o 1101 tI], .st]⟩
  | 92 => some ⟨737989957607090117542449311368690868156033072666584887573885608239285148939039474688703668524694644691374253765748240238640632419380129595907231682665134770248480600556715078451198046994545113129663467512640704807491749694111415724299300917159268115461886320695104745115918223449804105397741481881547118315472705416396884952699991228593161472364818209445311686085861871052818220184109229824816474269348452936325243457217318728753640220911838406758926049674330423586289704211158339048835112005995140085237447243713462371054411768404242536251120259726293772220522512954229778033961281054049025040681255249323705639452069711332539928507387154905727039987508328794112, [], [.v 5 [.o 1100 tDomainR, .o 1101 tI], .st]⟩
  | 89 => some ⟨737989957607090117542449311368690868156033072666584887573885608239285148939039474688703668524694644691374253765748240238640632419380129595907231682665134770248480600556715078451198046994545113129663467512640704807491749694111415724299300917159268115461886320695104745115918223449804105397741481881547118315472705416396884952699991228593161472364818209445311686085861871052818220184109229824816474269348452936325243457217318728753640220911838406758926049674330423586289704211158339048835112005995140085237447243713462371054411768404242536251120259726293772220522515870386078824983771043852409388662279710666054786872263881531095007792867776925237958836497535731712, [], [.t 12 tI, .v 5 [.o 1100 tDomainR, .o 1101 tI], .st]⟩
  | 104 => some ⟨737989957607090117542449311368690868156033072666584887573885608239285148939039474688703668524694644691374253765748240238640632419380129595907231682665134770248480600556715078451198046994545113129663467512640704807491749694111415724299300917159268115461886320695104745115918223449804105397741481881547118315472705416396884952699991228593161472364818209445311686085861871052818220184109229824816474269348452936325243457217318728753640220911838406758926049674330423586289704211158339048835112005995140085237447243713462371054411768404242536251120259726293772220522515870386078824983771043852409388662279710666054786872263881531095007792867776925237958836497535731712, [], [.v 5 [.o 1100 tDomainR, .o 1101 tI], .st]⟩
  | 83 => some ⟨0, [(16, 0, 8)], [.st]⟩
  | 79 => some ⟨0, [(14848, 1024, 0)], [.st]⟩
  | _ => none
theorem hst_ref15_Build : ∀ k j, J_ref15_Build k = some j → hasSt j.sl = true := by
  intro k j h
  unfold J_ref15_Build at h
  split at h <;> (cases h <;> rfl)
theorem okH_ref15_Build : FnOk (heapSig tPorts) Tryz.prog G0 55 (callS (specS (decS [tNetwork]) (.tu [tTopoR, tI]) ref15_Build_H)) :=
  fnOk_fastH (fn := Tryz.f55) (c := bodyOf Tryz.f55) (S := (((((SpecsX.none (heapSig tPorts)).add 6 (specX [tNetwork] (.p tI) ref8_Check)).add 68 (specX [tU, tI] (.p tPrefix) ref4_Network)).add 60 (specX [tPrefix, tPrefix] (.p tI) ref4_Compare)).addH)) (A := J_ref15_Build) hst_ref15_Build (tableX_addH (tableX_add (tableX_add (tableX_add tableX_none (by kernel_rfl) (fnOk_lift (fun _ => rfl) (decB_S (by kernel_rfl)) (by kernel_rfl) ok_ref8_Check)) (by kernel_rfl) (fnOk_lift (fun _ => rfl) (decB_S (by kernel_rfl)) (by kernel_rfl) ok_ref4_Network)) (by kernel_rfl) (fnOk_lift (fun _ => rfl) (decB_S (by kernel_rfl)) (by kernel_rfl) ok_ref4_Compare)) (by kernel_rfl) (by kernel_rfl)) (by kernel_rfl) (by kernel_rfl) (by rintro st0 ⟨a1, ⟨⟩⟩; kernel_rfl)
theorem ok_ref15_Build : FnOk U Tryz.prog G0 55 (callS (specX [tNetwork] (.tu [tTopo, tI]) ref15_Build)) :=
  fnOk_unheap (fun _ => rfl) (by kernel_rfl) okH_ref15_Build
noncomputable def e_ref15_Build : Ent := entA (by kernel_rfl) ok_ref15_Build
theorem ok_ref15_Ascending : OkX 56 [(.sl tI), tI] (.p .bool) ref15_Ascending := fX [] (A := (jl [jj 26 103161669940448355883679744 [] [.t 43 .bool], jj 17 103161669940448356241507584 [] [.t 5 tI], jj 32 103161669940448356241507584 [] []])) (fn := Tryz.f56) (by kernel_rfl) (by kernel_rfl) (by rintro ⟨⟩ ⟨a1, a2, ⟨⟩⟩; kernel_rfl)
noncomputable def e_ref15_Ascending : Ent := entA (by kernel_rfl) ok_ref15_Ascending
theorem ok_ref15_Make : OkX 26 [tNetwork, (.sl tI)] (.tu [tView, tI]) ref15_Make := fX [e_ref15_Ascending, e_ref15_Build] (A := (jl [jj 27 0 [(240, 3, 0)] []])) (fn := Tryz.f26) (by kernel_rfl) (by kernel_rfl) (by rintro ⟨⟩ ⟨a1, a2, ⟨⟩⟩; kernel_rfl)
noncomputable def e_ref15_Make : Ent := entA (by kernel_rfl) ok_ref15_Make
theorem ok_law13_View : OkX 12 [tNetwork, (.sl tI)] (.tu [tView, .bool]) law13_View := fX [e_ref15_Make, e_law13_Small] (A := (jl [jj 6 1431633920 [] [.t 15 .bool]])) (fn := Tryz.f12) (by kernel_rfl) (by kernel_rfl) (by rintro ⟨⟩ ⟨a1, a2, ⟨⟩⟩; kernel_rfl)
noncomputable def e_law13_View : Ent := entA (by kernel_rfl) ok_law13_View
theorem ok_addr_clamp : OkX 171 [tI] (.p tI) addr_clamp := fX [] (A := fun _ => none) (fn := Tryz.f171) (by kernel_rfl) (by kernel_rfl) (by rintro ⟨⟩ ⟨a1, ⟨⟩⟩; kernel_rfl)
noncomputable def e_addr_clamp : Ent := entA (by kernel_rfl) ok_addr_clamp
theorem ok_addr_Mask : OkX 170 [tI] (.p tU) addr_Mask := fX [e_addr_clamp] (A := fun _ => none) (fn := Tryz.f170) (by kernel_rfl) (by kernel_rfl) (by rintro ⟨⟩ ⟨a1, ⟨⟩⟩; kernel_rfl)
noncomputable def e_addr_Mask : Ent := entA (by kernel_rfl) ok_addr_Mask
theorem ok_addr_Valid : OkX 148 [tPrefix] (.p .bool) addr_Valid := fX [e_addr_Mask] (A := (jl [jj 6 366503875920 [] [.t 2 .bool]])) (fn := Tryz.f148) (by kernel_rfl) (by kernel_rfl) (by rintro ⟨⟩ ⟨a1, ⟨⟩⟩; kernel_rfl)
noncomputable def e_addr_Valid : Ent := entA (by kernel_rfl) ok_addr_Valid
theorem ok_cmp_isNaN_int : OkX 120 [tI] (.p .bool) cmp_isNaN_int := fX [] (A := fun _ => none) (fn := Tryz.f120) (by kernel_rfl) (by kernel_rfl) (by rintro ⟨⟩ ⟨a1, ⟨⟩⟩; kernel_rfl)
noncomputable def e_cmp_isNaN_int : Ent := entA (by kernel_rfl) ok_cmp_isNaN_int
theorem ok_cmp_Compare_int : OkX 84 [tI, tI] (.p tI) cmp_Compare_int := fX [e_cmp_isNaN_int] (A := fun _ => none) (fn := Tryz.f84) (by kernel_rfl) (by kernel_rfl) (by rintro ⟨⟩ ⟨a1, a2, ⟨⟩⟩; kernel_rfl)
noncomputable def e_cmp_Compare_int : Ent := entA (by kernel_rfl) ok_cmp_Compare_int
theorem ok_cmp_isNaN_uint32 : OkX 152 [tU] (.p .bool) cmp_isNaN_uint32 := fX [] (A := fun _ => none) (fn := Tryz.f152) (by kernel_rfl) (by kernel_rfl) (by rintro ⟨⟩ ⟨a1, ⟨⟩⟩; kernel_rfl)
noncomputable def e_cmp_isNaN_uint32 : Ent := entA (by kernel_rfl) ok_cmp_isNaN_uint32
theorem ok_cmp_Compare_uint32 : OkX 97 [tU, tU] (.p tI) cmp_Compare_uint32 := fX [e_cmp_isNaN_uint32] (A := fun _ => none) (fn := Tryz.f97) (by kernel_rfl) (by kernel_rfl) (by rintro ⟨⟩ ⟨a1, a2, ⟨⟩⟩; kernel_rfl)
noncomputable def e_cmp_Compare_uint32 : Ent := entA (by kernel_rfl) ok_cmp_Compare_uint32
theorem ok_cmp_Or_int : OkX 83 [(.sl tI)] (.p tI) cmp_Or_int := fX [] (A := (jl [jj 13 5726602256 [] [.t 8 tI], jj 32 5726622736 [] []])) (fn := Tryz.f83) (by kernel_rfl) (by kernel_rfl) (by rintro ⟨⟩ ⟨a1, ⟨⟩⟩; kernel_rfl)
noncomputable def e_cmp_Or_int : Ent := entA (by kernel_rfl) ok_cmp_Or_int
theorem ok_route_compareHops : OkX 149 [tHop, tHop] (.p tI) route_compareHops := fX [e_cmp_Or_int, e_cmp_Compare_uint32, e_cmp_Compare_int] (A := fun _ => none) (fn := Tryz.f149) (by kernel_rfl) (by kernel_rfl) (by rintro ⟨⟩ ⟨a1, a2, ⟨⟩⟩; kernel_rfl)
noncomputable def e_route_compareHops : Ent := entA (by kernel_rfl) ok_route_compareHops
theorem ok_route_common : OkX 90 [tRoute] (.p .bool) route_common := fX [e_route_compareHops, e_addr_Valid] (A := (jl [jj 6 6004799503155200 [] [.t 26 .bool], jj 26 27043212804475363358357197946880 [] [.t 52 .bool], jj 17 108172851219475191287217137910608 [] [.t 30 tI], jj 36 108172851219475569589585837032272 [] [], jj 50 7257584856985640666054786549130681384960 [] [.t 66 .bool], jj 41 29037421720857604169104461793515781754896 [] [.t 57 tI], jj 60 29037428535747230996065724239792213856272 [] []])) (fn := Tryz.f90) (by kernel_rfl) (by kernel_rfl) (by rintro ⟨⟩ ⟨a1, ⟨⟩⟩; kernel_rfl)
noncomputable def e_route_common : Ent := entA (by kernel_rfl) ok_route_common
theorem ok_route_direct : OkX 91 [(.sl tHop)] (.p .bool) route_direct := fX [] (A := (jl [jj 6 22369616 [] [.t 2 .bool]])) (fn := Tryz.f91) (by kernel_rfl) (by kernel_rfl) (by rintro ⟨⟩ ⟨a1, ⟨⟩⟩; kernel_rfl)
noncomputable def e_route_direct : Ent := entA (by kernel_rfl) ok_route_direct
theorem ok_route_bare : OkX 92 [tRoute] (.p .bool) route_bare := fX [] (A := (jl [jj 6 25790417485112089060398416 [] [.t 2 .bool]])) (fn := Tryz.f92) (by kernel_rfl) (by kernel_rfl) (by rintro ⟨⟩ ⟨a1, ⟨⟩⟩; kernel_rfl)
noncomputable def e_route_bare : Ent := entA (by kernel_rfl) ok_route_bare
theorem ok_route_validStatic : OkX 93 [tRoute] (.p .bool) route_validStatic := fX [e_route_bare, e_route_direct] (A := (jl [jj 16 87360 [] [.t 3 tI], jj 28 357826632 [] [.t 3 tI, .v 1 [.p tRoute]], jj 36 91268055104 [] [.t 3 tI], jj 42 6148913225221013520 [] [.t 2 .bool]])) (fn := Tryz.f93) (by kernel_rfl) (by kernel_rfl) (by rintro ⟨⟩ ⟨a1, ⟨⟩⟩; kernel_rfl)
noncomputable def e_route_validStatic : Ent := entA (by kernel_rfl) ok_route_validStatic
theorem ok_route_within : OkX 150 [tI, tI, tI] (.p .bool) route_within := fX [] (A := (jl [jj 6 357912576 [] [.t 6 .bool]])) (fn := Tryz.f150) (by kernel_rfl) (by kernel_rfl) (by rintro ⟨⟩ ⟨a1, a2, a3, ⟨⟩⟩; kernel_rfl)
noncomputable def e_route_within : Ent := entA (by kernel_rfl) ok_route_within
theorem ok_route_indirect : OkX 151 [(.sl tHop)] (.p .bool) route_indirect := fX [] (A := (jl [jj 9 357909264 [] [.t 7 tI], jj 28 357914384 [] []])) (fn := Tryz.f151) (by kernel_rfl) (by kernel_rfl) (by rintro ⟨⟩ ⟨a1, ⟨⟩⟩; kernel_rfl)
noncomputable def e_route_indirect : Ent := entA (by kernel_rfl) ok_route_indirect
theorem ok_route_validLinkState : OkX 94 [tRoute] (.p .bool) route_validLinkState := fX [e_route_indirect, e_route_within, e_route_bare] (A := (jl [jj 14 22906490896 [] [.t 2 .bool], jj 18 98382635036877783040 [] [.t 33 .bool], jj 30 103160095818287399693189120 [] [.t 43 .bool], jj 36 412645105639632468417970184 [] [.v 1 [.p tRoute]]])) (fn := Tryz.f94) (by kernel_rfl) (by kernel_rfl) (by rintro ⟨⟩ ⟨a1, ⟨⟩⟩; kernel_rfl)
noncomputable def e_route_validLinkState : Ent := entA (by kernel_rfl) ok_route_validLinkState
theorem ok_route_validDistance : OkX 95 [tRoute] (.p .bool) route_validDistance := fX [e_route_bare, e_route_indirect, e_route_direct, e_route_within] (A := (jl [jj 22 93824990838848 [] [.t 3 .bool], jj 38 393434463447086530624 [] [.t 3 .bool], jj 44 1574122160956548399176 [] [.t 3 .bool, .v 1 [.p tRoute]], jj 50 6441307882634196071481360 [] [.t 2 .bool]])) (fn := Tryz.f95) (by kernel_rfl) (by kernel_rfl) (by rintro ⟨⟩ ⟨a1, ⟨⟩⟩; kernel_rfl)
noncomputable def e_route_validDistance : Ent := entA (by kernel_rfl) ok_route_validDistance
theorem ok_route_validPathVector : OkX 96 [tRoute] (.p .bool) route_validPathVector := fX [e_route_bare, e_route_within] (A := (jl [jj 6 5592384 [] [.t 3 .bool], jj 30 374933465071680 [] [.t 3 .bool], jj 44 94575592174780416 [] [.t 26 .bool], jj 46 1690200800304209791870220369984 [] [.t 3 .bool], jj 50 28356862219877404984308681957043077184 [] [.t 3 .bool], jj 56 1814839290245005138471331239636007649352 [] [.t 3 .bool, .v 1 [.p tRoute]], jj 58 1856580593920640256656171858147727361703952 [] [.t 2 .bool], jj 47 0 [(22, 0, 8)] []])) (fn := Tryz.f96) (by kernel_rfl) (by kernel_rfl) (by rintro ⟨⟩ ⟨a1, ⟨⟩⟩; kernel_rfl)
noncomputable def e_route_validPathVector : Ent := entA (by kernel_rfl) ok_route_validPathVector
theorem ok_route_Valid : OkX 57 [tRoute] (.p .bool) route_Valid := fX [e_route_validPathVector, e_route_validDistance, e_route_validLinkState, e_route_validStatic, e_route_bare, e_route_direct, e_route_common] (A := (jl [jj 18 24019198012293184 [] [.t 3 .bool], jj 26 98286558267733704720 [] [.t 2 .bool], jj 30 6447505988642962480824320 [] [.t 41 .bool]])) (fn := Tryz.f57) (by kernel_rfl) (by kernel_rfl) (by rintro ⟨⟩ ⟨a1, ⟨⟩⟩; kernel_rfl)
noncomputable def e_route_Valid : Ent := entA (by kernel_rfl) ok_route_Valid
theorem ok_addr_Compare : OkX 58 [tPrefix, tPrefix] (.p tI) addr_Compare := fX [e_cmp_Compare_int, e_cmp_Compare_uint32] (A := fun _ => none) (fn := Tryz.f58) (by kernel_rfl) (by kernel_rfl) (by rintro ⟨⟩ ⟨a1, a2, ⟨⟩⟩; kernel_rfl)
noncomputable def e_addr_Compare : Ent := entA (by kernel_rfl) ok_addr_Compare
theorem ok_route_Table : OkX 27 [(.sl tRoute), tI] (.p .bool) route_Table := fX [e_addr_Compare, e_route_Valid] (A := (jl [jj 18 6004799413682176 [] [.t 26 .bool], jj 26 1611901086814706063114240 [] [.t 40 .bool], jj 9 6447604371278022265025792 [] [.t 9 tI], jj 36 6447604371278022265107712 [] []])) (fn := Tryz.f27) (by kernel_rfl) (by kernel_rfl) (by rintro ⟨⟩ ⟨a1, a2, ⟨⟩⟩; kernel_rfl)
noncomputable def e_route_Table : Ent := entA (by kernel_rfl) ok_route_Table
theorem ok_control_Valid : OkX 13 [tView, (.sl tTables)] (.p .bool) control_Valid := fX [e_route_Table] (A := (jl [jj 26 6447604371277655761223680 [] [.t 41 .bool], jj 17 25790417485112087628755200 [] [.t 16 tI], jj 36 25790417485112088970932480 [] []])) (fn := Tryz.f13) (by kernel_rfl) (by kernel_rfl) (by rintro ⟨⟩ ⟨a1, a2, ⟨⟩⟩; kernel_rfl)
noncomputable def e_control_Valid : Ent := entA (by kernel_rfl) ok_control_Valid
theorem ok_ref15_within : OkX 98 [tI, tI, tI] (.p .bool) ref15_within := fX [] (A := (jl [jj 6 357912576 [] [.t 6 .bool]])) (fn := Tryz.f98) (by kernel_rfl) (by kernel_rfl) (by rintro ⟨⟩ ⟨a1, a2, a3, ⟨⟩⟩; kernel_rfl)
noncomputable def e_ref15_within : Ent := entA (by kernel_rfl) ok_ref15_within
theorem ok_ref15_plain : OkX 99 [tRoute, .bool, .bool, .bool] (.p .bool) ref15_plain := fX [] (A := (jl [jj 6 6447604371278022265077760 [] [.t 8 .bool]])) (fn := Tryz.f99) (by kernel_rfl) (by kernel_rfl) (by rintro ⟨⟩ ⟨a1, a2, a3, a4, ⟨⟩⟩; kernel_rfl)
noncomputable def e_ref15_plain : Ent := entA (by kernel_rfl) ok_ref15_plain
theorem ok_ref15_lessHop : OkX 153 [tHop, tHop] (.p .bool) ref15_lessHop := fX [] (A := (jl [jj 6 93824992236800 [] [.t 4 .bool]])) (fn := Tryz.f153) (by kernel_rfl) (by kernel_rfl) (by rintro ⟨⟩ ⟨a1, a2, ⟨⟩⟩; kernel_rfl)
noncomputable def e_ref15_lessHop : Ent := entA (by kernel_rfl) ok_ref15_lessHop
theorem ok_ref15_hops : OkX 100 [(.sl tHop), .bool] (.p .bool) ref15_hops := fX [e_ref15_lessHop] (A := (jl [jj 18 412646679761793424960782336 [] [.t 44 .bool], jj 9 412646679761793424966374656 [] [.t 5 tI], jj 24 412646679761793424966374656 [] []])) (fn := Tryz.f100) (by kernel_rfl) (by kernel_rfl) (by rintro ⟨⟩ ⟨a1, a2, ⟨⟩⟩; kernel_rfl)
noncomputable def e_ref15_hops : Ent := entA (by kernel_rfl) ok_ref15_hops
theorem ok_ref15_validStatic : OkX 101 [tRoute] (.p .bool) ref15_validStatic := fX [e_ref15_hops, e_ref15_plain, e_ref15_within] (A := (jl [jj 6 5864062014784 [] [.t 21 .bool], jj 18 393529039039261310992 [] [.t 2 .bool], jj 30 1690194352699934590640005840912 [] [.t 2 .bool]])) (fn := Tryz.f101) (by kernel_rfl) (by kernel_rfl) (by rintro ⟨⟩ ⟨a1, ⟨⟩⟩; kernel_rfl)
noncomputable def e_ref15_validStatic : Ent := entA (by kernel_rfl) ok_ref15_validStatic
theorem ok_ref15_validLinkState : OkX 102 [tRoute] (.p .bool) ref15_validLinkState := fX [e_ref15_hops, e_ref15_plain, e_ref15_within] (A := (jl [jj 6 93824992236864 [] [.t 23 .bool], jj 14 25185954481479782236160 [] [.t 37 .bool], jj 26 110768999648340014135445711965126672 [] [.t 2 .bool], jj 30 29037317874920433472551891183589197348880 [] [.t 2 .bool]])) (fn := Tryz.f102) (by kernel_rfl) (by kernel_rfl) (by rintro ⟨⟩ ⟨a1, ⟨⟩⟩; kernel_rfl)
noncomputable def e_ref15_validLinkState : Ent := entA (by kernel_rfl) ok_ref15_validLinkState
theorem ok_ref15_validDistance : OkX 103 [tRoute] (.p .bool) ref15_validDistance := fX [e_ref15_hops, e_ref15_plain, e_ref15_within] (A := (jl [jj 6 5864062014784 [] [.t 21 .bool], jj 22 412646679760292225090584592 [] [.t 2 .bool], jj 38 7089188934306746453259739058493456400 [] [.t 2 .bool]])) (fn := Tryz.f103) (by kernel_rfl) (by kernel_rfl) (by rintro ⟨⟩ ⟨a1, ⟨⟩⟩; kernel_rfl)
noncomputable def e_ref15_validDistance : Ent := entA (by kernel_rfl) ok_ref15_validDistance
theorem ok_ref15_validPath : OkX 104 [tRoute] (.p .bool) ref15_validPath := fX [e_ref15_hops, e_ref15_plain, e_ref15_within] (A := (jl [jj 6 93824992236864 [] [.t 23 .bool], jj 24 94575592174780416 [] [.t 26 .bool], jj 26 6760803201217127397857033191440 [] [.t 2 .bool], jj 36 425930601676685078902892277006336 [] [.t 52 .bool], jj 38 523091811282223396986315352575900656772893909497308774416 [] [.t 2 .bool]])) (fn := Tryz.f104) (by kernel_rfl) (by kernel_rfl) (by rintro ⟨⟩ ⟨a1, ⟨⟩⟩; kernel_rfl)
noncomputable def e_ref15_validPath : Ent := entA (by kernel_rfl) ok_ref15_validPath
theorem ok_ref15_Valid : OkX 59 [tRoute] (.p .bool) ref15_Valid := fX [e_ref15_validPath, e_ref15_validDistance, e_ref15_validLinkState, e_ref15_validStatic, e_ref15_hops, e_ref15_plain, e_ref15_within, e_ref4_Valid] (A := (jl [jj 6 366503875840 [] [.t 19 .bool], jj 17 98382634693280399440 [] [.t 3 tI], jj 32 98382634693280399440 [] [], jj 42 1902996923607946508077689439978084877069189136 [] [.t 2 .bool]])) (fn := Tryz.f59) (by kernel_rfl) (by kernel_rfl) (by rintro ⟨⟩ ⟨a1, ⟨⟩⟩; kernel_rfl)
noncomputable def e_ref15_Valid : Ent := entA (by kernel_rfl) ok_ref15_Valid
theorem ok_ref15_Table : OkX 28 [(.sl tRoute), tI] (.p .bool) ref15_Table := fX [e_ref4_Compare, e_ref15_Valid] (A := (jl [jj 18 422550200076076467165562142720 [] [.t 49 .bool], jj 9 422550200076076467165567735040 [] [.t 5 tI], jj 24 422550200076076467165567735040 [] []])) (fn := Tryz.f28) (by kernel_rfl) (by kernel_rfl) (by rintro ⟨⟩ ⟨a1, a2, ⟨⟩⟩; kernel_rfl)
noncomputable def e_ref15_Table : Ent := entA (by kernel_rfl) ok_ref15_Table
theorem ok_ref24_Valid : OkX 14 [tView, (.sl tTables)] (.p .bool) ref24_Valid := fX [e_ref15_Table] (A := (jl [jj 26 27043212804868893898504709079040 [] [.t 52 .bool], jj 17 27043212804868893898596312679680 [] [.t 5 tI], jj 32 27043212804868893898596312679680 [] []])) (fn := Tryz.f14) (by kernel_rfl) (by kernel_rfl) (by rintro ⟨⟩ ⟨a1, a2, ⟨⟩⟩; kernel_rfl)
noncomputable def e_ref24_Valid : Ent := entA (by kernel_rfl) ok_ref24_Valid
theorem ok_control_Empty : OkX 15 [tView] (.p (.sl tTables)) control_Empty := fX [] (A := fun _ => none) (fn := Tryz.f15) (by kernel_rfl) (by kernel_rfl) (by rintro ⟨⟩ ⟨a1, ⟨⟩⟩; kernel_rfl)
noncomputable def e_control_Empty : Ent := entA (by kernel_rfl) ok_control_Empty
theorem ok_slices_Equal_int : OkX 105 [(.sl tI), (.sl tI)] (.p .bool) slices_Equal_int := fX [] (A := (jl [jj 17 1501199853421824 [] [.t 13 tI], jj 36 1501199874393344 [] []])) (fn := Tryz.f105) (by kernel_rfl) (by kernel_rfl) (by rintro ⟨⟩ ⟨a1, a2, ⟨⟩⟩; kernel_rfl)
noncomputable def e_slices_Equal_int : Ent := entA (by kernel_rfl) ok_slices_Equal_int
theorem ok_slices_Equal_Hop : OkX 106 [(.sl tHop), (.sl tHop)] (.p .bool) slices_Equal_Hop := fX [] (A := (jl [jj 17 1501199853421824 [] [.t 13 tI], jj 36 1501199874393344 [] []])) (fn := Tryz.f106) (by kernel_rfl) (by kernel_rfl) (by rintro ⟨⟩ ⟨a1, a2, ⟨⟩⟩; kernel_rfl)
noncomputable def e_slices_Equal_Hop : Ent := entA (by kernel_rfl) ok_slices_Equal_Hop
theorem ok_route_Same : OkX 62 [tRoute, tRoute] (.p .bool) route_Same := fX [e_slices_Equal_Hop, e_slices_Equal_int] (A := (jl [jj 6 130772952820555849246578946316826383668799071759667385600 [] [.t 4 .bool]])) (fn := Tryz.f62) (by kernel_rfl) (by kernel_rfl) (by rintro ⟨⟩ ⟨a1, a2, ⟨⟩⟩; kernel_rfl)
noncomputable def e_route_Same : Ent := entA (by kernel_rfl) ok_route_Same
theorem ok_slices_EqualFunc_Route : OkA 61 [.d (.sl tRoute), .d (.sl tRoute), .clo 62 []] (.p .bool) slices_EqualFunc_Route := fA [e_route_Same] (A := (jl [jj 17 6148914685510897664 [] [.t 17 tI], jj 40 6148914690879606784 [] []])) (fn := Tryz.f61) (by kernel_rfl) (by kernel_rfl) (by rintro ⟨⟩ ⟨a1, a2, ⟨⟩, ⟨⟩⟩; kernel_rfl)
noncomputable def e_slices_EqualFunc_Route : Ent := entA (by kernel_rfl) ok_slices_EqualFunc_Route
theorem ok_route_SameAll : OkX 31 [(.sl tRoute), (.sl tRoute)] (.p .bool) route_SameAll := fX [e_route_Same, e_slices_EqualFunc_Route] (A := fun _ => none) (fn := Tryz.f31) (by kernel_rfl) (by kernel_rfl) (by rintro ⟨⟩ ⟨a1, a2, ⟨⟩⟩; kernel_rfl)
noncomputable def e_route_SameAll : Ent := entA (by kernel_rfl) ok_route_SameAll
theorem ok_control_Same_c1 : OkX 30 [tTables, tTables] (.p .bool) control_Same_c1 := fX [e_route_SameAll] (A := (jl [jj 6 1537228672809129216 [] [.t 4 .bool]])) (fn := Tryz.f30) (by kernel_rfl) (by kernel_rfl) (by rintro ⟨⟩ ⟨a1, a2, ⟨⟩⟩; kernel_rfl)
noncomputable def e_control_Same_c1 : Ent := entA (by kernel_rfl) ok_control_Same_c1
theorem ok_slices_EqualFunc_Tables : OkA 29 [.d (.sl tTables), .d (.sl tTables), .clo 30 []] (.p .bool) slices_EqualFunc_Tables := fA [e_control_Same_c1] (A := (jl [jj 17 6148914685510897664 [] [.t 17 tI], jj 40 6148914690879606784 [] []])) (fn := Tryz.f29) (by kernel_rfl) (by kernel_rfl) (by rintro ⟨⟩ ⟨a1, a2, ⟨⟩, ⟨⟩⟩; kernel_rfl)
noncomputable def e_slices_EqualFunc_Tables : Ent := entA (by kernel_rfl) ok_slices_EqualFunc_Tables
theorem ok_control_Same : OkX 16 [(.sl tTables), (.sl tTables)] (.p .bool) control_Same := fX [e_control_Same_c1, e_slices_EqualFunc_Tables] (A := fun _ => none) (fn := Tryz.f16) (by kernel_rfl) (by kernel_rfl) (by rintro ⟨⟩ ⟨a1, a2, ⟨⟩⟩; kernel_rfl)
noncomputable def e_control_Same : Ent := entA (by kernel_rfl) ok_control_Same
theorem ok_ref15_Same : OkX 107 [tRoute, tRoute] (.p .bool) ref15_Same := fX [] (A := (jl [jj 6 535646014752996758513987364113720867507400997927597611761664 [] [.t 99 .bool], jj 17 36809313849014027518232367840296815048958860317401327296272531581830400 [] [.t 5 tI], jj 32 36809313849014027518232367840296815048958860317401327296272531581830400 [] [], jj 37 2529516786715442080576833017643471545091823102602734087111722013553331492167356672 [] [.t 6 tI], jj 52 2529516786715442080576833017643471545091823102602734087111722013553331492167356672 [] []])) (fn := Tryz.f107) (by kernel_rfl) (by kernel_rfl) (by rintro ⟨⟩ ⟨a1, a2, ⟨⟩⟩; kernel_rfl)
noncomputable def e_ref15_Same : Ent := entA (by kernel_rfl) ok_ref15_Same
theorem ok_ref15_SameAll : OkX 63 [(.sl tRoute), (.sl tRoute)] (.p .bool) ref15_SameAll := fX [e_ref15_Same] (A := (jl [jj 17 6004799501763840 [] [.t 5 tI], jj 32 6004799501763840 [] []])) (fn := Tryz.f63) (by kernel_rfl) (by kernel_rfl) (by rintro ⟨⟩ ⟨a1, a2, ⟨⟩⟩; kernel_rfl)
noncomputable def e_ref15_SameAll : Ent := entA (by kernel_rfl) ok_ref15_SameAll
theorem ok_ref24_SameTables : OkX 32 [tTables, tTables] (.p .bool) ref24_SameTables := fX [e_ref15_SameAll] (A := (jl [jj 6 1537228672809129216 [] [.t 4 .bool]])) (fn := Tryz.f32) (by kernel_rfl) (by kernel_rfl) (by rintro ⟨⟩ ⟨a1, a2, ⟨⟩⟩; kernel_rfl)
noncomputable def e_ref24_SameTables : Ent := entA (by kernel_rfl) ok_ref24_SameTables
theorem ok_ref24_Same : OkX 17 [(.sl tTables), (.sl tTables)] (.p .bool) ref24_Same := fX [e_ref24_SameTables] (A := (jl [jj 17 6004799501763840 [] [.t 5 tI], jj 32 6004799501763840 [] []])) (fn := Tryz.f17) (by kernel_rfl) (by kernel_rfl) (by rintro ⟨⟩ ⟨a1, a2, ⟨⟩⟩; kernel_rfl)
noncomputable def e_ref24_Same : Ent := entA (by kernel_rfl) ok_ref24_Same
end Go.Ve

/-
  law18: the program's tables.
  law18: functions out of code, over the fast tables.
  law18: the fixed sanity check, run in the kernel.
  The law as a function: law18_StaticRoutes.
  law18: contracts of the checks of a network.
  law18: contracts of the functions of views and static routes.
  The law's contract: law18_StaticRoutes.
-/
import Derived.Test.YtggmpbaiijodiaaGreatProg
import Derived.Test.YtggmpbaiijodiaaGreatR9
import Derived.Test.YtggmpbaiijodiaaGreatR6
import Derived.Test.YtggmpbaiijodiaaGreatR11
import Derived.Test.YtggmpbaiijodiaaGreatR14
import Derived.Test.YtggmpbaiijodiaaGreatR12
import Derived.Test.YtggmpbaiijodiaaGreatR10
set_option linter.unusedVariables false
namespace Go.Ve
open Go Go.Proofs

noncomputable abbrev LF : Look := Look.fast Tryz.prog 210 210
def G0 : Nat → Option (List V) := fun _ => none
abbrev U := unitSig
abbrev bodyOf (f : Func) : Code := match f.body with | some c => c | none => .skip
theorem mixed : Tryz.prog.follows .mixedOrders = true := by kernel_rfl
end Go.Ve

namespace Go.Ve
open Go Go.Proofs

instance : Subsingleton U.St := inferInstanceAs (Subsingleton Unit)

theorem fnOk_fast {S : SpecsX U} {A : Nat → Option JA} (hS : Table U Tryz.prog G0 S.toS) {f : FuncId} {fn : Func} {c : Code} (hf : LF.fn f = some fn) (hb : fn.body = some c)
    {ts : List Ty} {R : RTy} {g : ElS ts → Option R.El} (h : ∀ s x, exF (Γ := U) LF G0 S A fn c R s (encS ts x) = g x) : FnOk U Tryz.prog G0 f (callS (specX ts R g)) := by
  have hl : LF = Look.of Tryz.prog := Look.fast_eq Tryz.prog 210 210
  rw [hl] at hf h
  exact fnOk_exF mixed hS hf hb h

theorem fnOk_fastA {S : SpecsX U} {A : Nat → Option JA} (hS : Table U Tryz.prog G0 S.toS) {f : FuncId} {fn : Func} {c : Code} (hf : LF.fn f = some fn) (hb : fn.body = some c)
    {ts : List ATy} {R : RTy} {g : ElA ts → Option R.El} (h : ∀ s x, exF (Γ := U) LF G0 S A fn c R s (encA ts x) = g x) : FnOk U Tryz.prog G0 f (callS (specA ts R g)) := by
  have hl : LF = Look.of Tryz.prog := Look.fast_eq Tryz.prog 210 210
  rw [hl] at hf h
  exact fnOk_exA mixed hS hf hb h

theorem fnOk_fastB {S : SpecsX U} {A : Nat → Option JA} (hS : Table U Tryz.prog G0 S.toS) {f : FuncId} {fn : Func} {c : Code} (hf : LF.fn f = some fn) (hb : fn.body = some c)
    {t : Ty} {ts : List ATy} {R : RTy} (hpl : R.pl = true) (hno : ∀ ty, R ≠ .o ty) {g : List t.El → ElA ts → Option (List t.El × R.El)} (h : ∀ s xs x, exFB (Γ := U) LF G0 S A fn c t R s xs (encA ts x) = g xs x) : FnOkB U Tryz.prog G0 f t (decA ts) R g := by
  have hl : LF = Look.of Tryz.prog := Look.fast_eq Tryz.prog 210 210
  rw [hl] at hf h
  exact fnOk_exB mixed hS hf hb (decA_sound ts) hpl hno h

theorem fnOk_fastH {tE : Ty} {S : SpecsX (heapSig tE)} {A : Nat → Option JA} (hst : ∀ k j, A k = some j → hasSt j.sl = true) (hS : Table (heapSig tE) Tryz.prog G0 S.toS) {f : FuncId} {fn : Func} {c : Code} (hf : LF.fn f = some fn) (hb : fn.body = some c)
    {ts : List Ty} {R : RTy} {g : HSt tE → ElS ts → Option (HSt tE × R.El)} (h : ∀ s x, exFS (Γ := heapSig tE) LF G0 S A fn c R s (encS ts x) = g s x) : FnOk (heapSig tE) Tryz.prog G0 f (callS (specS (decS ts) R g)) := by
  have hl : LF = Look.of Tryz.prog := Look.fast_eq Tryz.prog 210 210
  rw [hl] at hf h
  exact fnOk_exS hst mixed hS hf hb (decS_sound ts) h
end Go.Ve

namespace Go.Ve
open Go Go.Proofs

theorem noCnt : noCount Tryz.prog = true := by kernel_rfl

/-- The interpreter over a state of lists. -/
noncomputable abbrev runH (n : Nat) : Specs (heapSig tPorts) := runF (Γ := heapSig tPorts) LF G0 (SpecsX.addH (SpecsX.none (heapSig tPorts))).toS 300 n

theorem table_runH (n : Nat) : Table (heapSig tPorts) Tryz.prog G0 (runH n) :=
  table_fast mixed noCnt (tableX_addH tableX_none (by kernel_rfl) (by kernel_rfl)) 210 210 300 n

/-- topo.Build by the interpreter. -/
noncomputable def topo_BuildC : ElS [tNetwork] → Option (RTy.El (.tu [tTopo, tI])) := unheap (.tu [tTopoR, tI]) (runX (runH 13 64) [tNetwork] (.tu [tTopoR, tI]))

theorem ok_topo_BuildC : FnOk U Tryz.prog G0 64 (callS (specX [tNetwork] (.tu [tTopo, tI]) topo_BuildC)) :=
  fnOk_unheap (tE := tPorts) (G := G0) (ts := [tNetwork]) (R := .tu [tTopoR, tI]) (g := runX (runH 13 64) [tNetwork] (.tu [tTopoR, tI])) (fun _ => rfl) (by kernel_rfl) (fnOk_runX ((table_runH 13).ok 64) _ _)

noncomputable abbrev specsM : SpecsX U := (SpecsX.none U).add 64 (specG (decSW [tNetwork]) (.tu [tTopo, tI]) topo_BuildC)

noncomputable abbrev runM (n : Nat) : Specs U := runF (Γ := U) LF G0 specsM.toS 300 n

theorem table_runM (n : Nat) : Table U Tryz.prog G0 (runM n) :=
  table_fast mixed noCnt (tableX_add tableX_none (by kernel_rfl) (fnOk_wide ok_topo_BuildC)) 210 210 300 n

theorem sane14 : runM 14 14 () [] = some ((), .p (.val (.bool true))) := by kernel_rfl

noncomputable def law18_sane : ElS [] → Option (RTy.El (.p .bool)) := fun _ => some true

theorem ok_law18_sane : FnOk U Tryz.prog G0 14 (callS (specX [] (.p .bool) law18_sane)) := by
  refine fnOk_wkS ((table_runM 14).ok 14) ?_
  intro s ds r h
  cases ds with
  | nil =>
    have h : some ((), RV.p (.val (.bool true))) = some r := h
    rw [← h]; exact sane14
  | cons d ds => cases h
end Go.Ve

namespace Go.Ve
open Go Go.Proofs
set_option maxRecDepth 1000000
noncomputable def law18_StaticRoutes : ElS [tNetwork, (.sl tI), (.sl tRoute)] → Option (RTy.El (.p .bool)) := fun x => match x with | (a1, a2, a3, ()) => Option.bind (law13_View (a1, a2, ())) fun (y0 : Ty.El tView × Bool × Unit) => Option.bind (bif !y0.snd.fst then some true else bif decide ((↑(List.length a3) : Int) > (30 : Int)) then some true else Option.bind (ref15_Table (a3, (0 : Int), ())) fun (y2 : Bool) => some !y2) fun (s3 : Bool) => bif s3 then some true else cut2 (loopX (fun (s32 : Int) => bif decide (s32 < (↑(List.length a1.fst) : Int)) then Option.bind (Option.bind (static_Connected (y0.fst, s32, ())) fun (y33 : List (Ty.El tRoute)) => Option.bind (ref20_Connected (y0.fst, s32, ())) fun (y34 : List (Ty.El tRoute)) => Option.bind (ref15_SameAll (y33, y34, ())) fun (y35 : Bool) => bif !y35 then some true else Option.bind (static_Active (y0.fst, a3, s32, ())) fun (y36 : List (Ty.El tRoute)) => Option.bind (ref20_Active (y0.fst, a3, s32, ())) fun (y37 : List (Ty.El tRoute)) => Option.bind (ref15_SameAll (y36, y37, ())) fun (y38 : Bool) => some !y38) fun (s39 : Bool) => bif s39 then some (Sum.inr (Sum.inr false)) else some (Sum.inl (IntKind.wrap IntKind.i64 (s32 + (1 : Int)))) else some (Sum.inr (Sum.inl ()))) (0 : Int)) fun (s40 : Unit) => Option.bind (law18_sane ()) fun (y41 : Bool) => some y41
end Go.Ve

namespace Go.Ve
open Go Go.Proofs
set_option maxRecDepth 1000000
def J_ref4_letter : Nat → Option JA := fun k => match k with
  | 6 => some ⟨5726623056, [], [.t 2 .bool]⟩
  | _ => none
theorem ok_ref4_letter : FnOk U Tryz.prog G0 145 (callS (specX [(.int .u8)] (.p .bool) ref4_letter)) :=
  fnOk_fast (fn := Tryz.f145) (c := bodyOf Tryz.f145) (S := (SpecsX.none U)) (A := J_ref4_letter) tableX_none (by kernel_rfl) (by kernel_rfl) (by rintro ⟨⟩ ⟨a1, ⟨⟩⟩; kernel_rfl)
def J_ref4_Name : Nat → Option JA := fun k => match k with
  | 6 => some ⟨91625968640, [], [.t 18 .bool]⟩
  | 30 => some ⟨1730765619511609185490967430430720, [], [.t 55 .bool]⟩
  | 17 => some ⟨1730765619511609209510073817104720, [], [.t 3 tI]⟩
  | 36 => some ⟨1730765619511609209510073817104720, [], []⟩
  | _ => none
theorem ok_ref4_Name : FnOk U Tryz.prog G0 107 (callS (specX [.str] (.p .bool) ref4_Name)) :=
  fnOk_fast (fn := Tryz.f107) (c := bodyOf Tryz.f107) (S := ((SpecsX.none U).add 145 (specX [(.int .u8)] (.p .bool) ref4_letter))) (A := J_ref4_Name) (tableX_add tableX_none (by kernel_rfl) ok_ref4_letter) (by kernel_rfl) (by kernel_rfl) (by rintro ⟨⟩ ⟨a1, ⟨⟩⟩; kernel_rfl)
def J_ref8_within : Nat → Option JA := fun k => match k with
  | 6 => some ⟨357912576, [], [.t 6 .bool]⟩
  | _ => none
theorem ok_ref8_within : FnOk U Tryz.prog G0 108 (callS (specX [tI, tI, tI] (.p .bool) ref8_within)) :=
  fnOk_fast (fn := Tryz.f108) (c := bodyOf Tryz.f108) (S := (SpecsX.none U)) (A := J_ref8_within) tableX_none (by kernel_rfl) (by kernel_rfl) (by rintro ⟨⟩ ⟨a1, a2, a3, ⟨⟩⟩; kernel_rfl)
def J_ref4_Mask : Nat → Option JA := fun k => match k with
  | 16 => some ⟨22906404928, [], [.t 3 tU]⟩
  | 13 => some ⟨22906492224, [], [.t 4 tI, .t 3 tU]⟩
  | 28 => some ⟨22906492224, [], [.t 3 tU]⟩
  | _ => none
theorem ok_ref4_Mask : FnOk U Tryz.prog G0 36 (callS (specX [tI] (.p tU) ref4_Mask)) :=
  fnOk_fast (fn := Tryz.f36) (c := bodyOf Tryz.f36) (S := (SpecsX.none U)) (A := J_ref4_Mask) tableX_none (by kernel_rfl) (by kernel_rfl) (by rintro ⟨⟩ ⟨a1, ⟨⟩⟩; kernel_rfl)
def J_ref4_Network : Nat → Option JA := fun _ => none
theorem ok_ref4_Network : FnOk U Tryz.prog G0 58 (callS (specX [tU, tI] (.p tPrefix) ref4_Network)) :=
  fnOk_fast (fn := Tryz.f58) (c := bodyOf Tryz.f58) (S := ((SpecsX.none U).add 36 (specX [tI] (.p tU) ref4_Mask))) (A := J_ref4_Network) (tableX_add tableX_none (by kernel_rfl) ok_ref4_Mask) (by kernel_rfl) (by kernel_rfl) (by rintro ⟨⟩ ⟨a1, a2, ⟨⟩⟩; kernel_rfl)
def J_ref4_Contains : Nat → Option JA := fun _ => none
theorem ok_ref4_Contains : FnOk U Tryz.prog G0 17 (callS (specX [tPrefix, tU] (.p .bool) ref4_Contains)) :=
  fnOk_fast (fn := Tryz.f17) (c := bodyOf Tryz.f17) (S := ((SpecsX.none U).add 36 (specX [tI] (.p tU) ref4_Mask))) (A := J_ref4_Contains) (tableX_add tableX_none (by kernel_rfl) ok_ref4_Mask) (by kernel_rfl) (by kernel_rfl) (by rintro ⟨⟩ ⟨a1, a2, ⟨⟩⟩; kernel_rfl)
def J_ref4_Covers : Nat → Option JA := fun k => match k with
  | 6 => some ⟨1431655680, [], [.t 4 .bool]⟩
  | _ => none
theorem ok_ref4_Covers : FnOk U Tryz.prog G0 176 (callS (specX [tPrefix, tPrefix] (.p .bool) ref4_Covers)) :=
  fnOk_fast (fn := Tryz.f176) (c := bodyOf Tryz.f176) (S := ((SpecsX.none U).add 17 (specX [tPrefix, tU] (.p .bool) ref4_Contains))) (A := J_ref4_Covers) (tableX_add tableX_none (by kernel_rfl) ok_ref4_Contains) (by kernel_rfl) (by kernel_rfl) (by rintro ⟨⟩ ⟨a1, a2, ⟨⟩⟩; kernel_rfl)
def J_ref4_Overlaps : Nat → Option JA := fun k => match k with
  | 6 => some ⟨22369536, [], [.t 4 .bool]⟩
  | _ => none
theorem ok_ref4_Overlaps : FnOk U Tryz.prog G0 146 (callS (specX [tPrefix, tPrefix] (.p .bool) ref4_Overlaps)) :=
  fnOk_fast (fn := Tryz.f146) (c := bodyOf Tryz.f146) (S := ((SpecsX.none U).add 176 (specX [tPrefix, tPrefix] (.p .bool) ref4_Covers))) (A := J_ref4_Overlaps) (tableX_add tableX_none (by kernel_rfl) ok_ref4_Covers) (by kernel_rfl) (by kernel_rfl) (by rintro ⟨⟩ ⟨a1, a2, ⟨⟩⟩; kernel_rfl)
def J_ref8_interfaces : Nat → Option JA := fun k => match k with
  | 41 => some ⟨6296488550001201382416, [], [.t 5 tI]⟩
  | 56 => some ⟨6296488550001201382416, [], []⟩
  | 58 => some ⟨27043212798572405254770141429760, [], [.t 52 .bool]⟩
  | 66 => some ⟨133911503688249189628496841001387004071981355583303067893760, [], [.t 98 .bool]⟩
  | 74 => some ⟨38597363079105398340612157981313446322593153860116637802968945187404973604864, [], [.t 127 .bool]⟩
  | 94 => some ⟨45567723432979415051570096605279850406945466927309786544954066201002041624518809725788842937548800, [], [.t 162 .bool]⟩
  | 85 => some ⟨45567723432979415091055199035204673046383172815272363122919130971985473961973845872487220144771088, [], [.t 6 tI]⟩
  | 20 => some ⟨45567723432979415091093796398283778444857696476941925758870220966874020816653665067156523089663760, [], []⟩
  | 17 => some ⟨45567723432979415091093796398283778444857696476941925758870220966874020816653665067156524520970064, [], [.t 3 tI]⟩
  | 100 => some ⟨45567723432979415091093796398283778444857696476941925758870220966874020816653665067156524520970064, [], []⟩
  | _ => none
theorem ok_ref8_interfaces : FnOk U Tryz.prog G0 109 (callS (specX [(.sl tIface)] (.p tI) ref8_interfaces)) :=
  fnOk_fast (fn := Tryz.f109) (c := bodyOf Tryz.f109) (S := (((((SpecsX.none U).add 107 (specX [.str] (.p .bool) ref4_Name)).add 108 (specX [tI, tI, tI] (.p .bool) ref8_within)).add 58 (specX [tU, tI] (.p tPrefix) ref4_Network)).add 146 (specX [tPrefix, tPrefix] (.p .bool) ref4_Overlaps))) (A := J_ref8_interfaces) (tableX_add (tableX_add (tableX_add (tableX_add tableX_none (by kernel_rfl) ok_ref4_Name) (by kernel_rfl) ok_ref8_within) (by kernel_rfl) ok_ref4_Network) (by kernel_rfl) ok_ref4_Overlaps) (by kernel_rfl) (by kernel_rfl) (by rintro ⟨⟩ ⟨a1, ⟨⟩⟩; kernel_rfl)
def J_ref4_Valid : Nat → Option JA := fun k => match k with
  | 6 => some ⟨366503875920, [], [.t 2 .bool]⟩
  | _ => none
theorem ok_ref4_Valid : FnOk U Tryz.prog G0 37 (callS (specX [tPrefix] (.p .bool) ref4_Valid)) :=
  fnOk_fast (fn := Tryz.f37) (c := bodyOf Tryz.f37) (S := ((SpecsX.none U).add 36 (specX [tI] (.p tU) ref4_Mask))) (A := J_ref4_Valid) (tableX_add tableX_none (by kernel_rfl) ok_ref4_Mask) (by kernel_rfl) (by kernel_rfl) (by rintro ⟨⟩ ⟨a1, ⟨⟩⟩; kernel_rfl)
def J_ref8_ValidPrefixRule : Nat → Option JA := fun k => match k with
  | 6 => some ⟨1501199875790160, [], [.t 2 .bool]⟩
  | _ => none
theorem ok_ref8_ValidPrefixRule : FnOk U Tryz.prog G0 147 (callS (specX [tPRule] (.p .bool) ref8_ValidPrefixRule)) :=
  fnOk_fast (fn := Tryz.f147) (c := bodyOf Tryz.f147) (S := ((SpecsX.none U).add 37 (specX [tPrefix] (.p .bool) ref4_Valid))) (A := J_ref8_ValidPrefixRule) (tableX_add tableX_none (by kernel_rfl) ok_ref4_Valid) (by kernel_rfl) (by kernel_rfl) (by rintro ⟨⟩ ⟨a1, ⟨⟩⟩; kernel_rfl)
def J_ref8_prefixLists : Nat → Option JA := fun k => match k with
  | 37 => some ⟨25185954569440712458512, [], [.t 4 tI]⟩
  | 52 => some ⟨25185954569440712458512, [], []⟩
  | 73 => some ⟨7433581732836780243977355534074804751565840, [], [.t 5 tI]⟩
  | 20 => some ⟨7433581732843541047178572757549453477414160, [], []⟩
  | 17 => some ⟨7433581732843541047178572757549453835240784, [], [.t 3 tI]⟩
  | 88 => some ⟨7433581732843541047178572757549453835240784, [], []⟩
  | _ => none
theorem ok_ref8_prefixLists : FnOk U Tryz.prog G0 110 (callS (specX [(.sl tPList)] (.p tI) ref8_prefixLists)) :=
  fnOk_fast (fn := Tryz.f110) (c := bodyOf Tryz.f110) (S := (((SpecsX.none U).add 107 (specX [.str] (.p .bool) ref4_Name)).add 147 (specX [tPRule] (.p .bool) ref8_ValidPrefixRule))) (A := J_ref8_prefixLists) (tableX_add (tableX_add tableX_none (by kernel_rfl) ok_ref4_Name) (by kernel_rfl) ok_ref8_ValidPrefixRule) (by kernel_rfl) (by kernel_rfl) (by rintro ⟨⟩ ⟨a1, ⟨⟩⟩; kernel_rfl)
def J_ref8_PrefixList : Nat → Option JA := fun k => match k with
  | 9 => some ⟨5864062014720, [], [.t 5 tI]⟩
  | 24 => some ⟨5864062014720, [], []⟩
  | _ => none
theorem ok_ref8_PrefixList : FnOk U Tryz.prog G0 148 (callS (specX [tRouter, .str] (.p tI) ref8_PrefixList)) :=
  fnOk_fast (fn := Tryz.f148) (c := bodyOf Tryz.f148) (S := (SpecsX.none U)) (A := J_ref8_PrefixList) tableX_none (by kernel_rfl) (by kernel_rfl) (by rintro ⟨⟩ ⟨a1, a2, ⟨⟩⟩; kernel_rfl)
def J_ref8_routeMaps : Nat → Option JA := fun k => match k with
  | 41 => some ⟨6447604369776822389310480, [], [.t 5 tI]⟩
  | 56 => some ⟨6447604369776822389310480, [], []⟩
  | 90 => some ⟨124714687448262656856724350867958696886044878438400, [], [.t 83 .bool]⟩
  | 98 => some ⟨8986648889050213140174198643436161204497942415724039816394959749120, [], [.t 111 .bool]⟩
  | 77 => some ⟨8986648889050213264889005029006541827113428629237647983535760396304, [], [.t 6 tI]⟩
  | 24 => some ⟨8986648889050213264889005029006543557879048140846857493609577501712, [], []⟩
  | 21 => some ⟨8986648889050213264889005029006543557879048140846857493701181101328, [], [.t 4 tI]⟩
  | 104 => some ⟨8986648889050213264889005029006543557879048140846857493701181101328, [], []⟩
  | _ => none
theorem ok_ref8_routeMaps : FnOk U Tryz.prog G0 111 (callS (specX [tRouter] (.p tI) ref8_routeMaps)) :=
  fnOk_fast (fn := Tryz.f111) (c := bodyOf Tryz.f111) (S := ((((SpecsX.none U).add 107 (specX [.str] (.p .bool) ref4_Name)).add 148 (specX [tRouter, .str] (.p tI) ref8_PrefixList)).add 108 (specX [tI, tI, tI] (.p .bool) ref8_within))) (A := J_ref8_routeMaps) (tableX_add (tableX_add (tableX_add tableX_none (by kernel_rfl) ok_ref4_Name) (by kernel_rfl) ok_ref8_PrefixList) (by kernel_rfl) ok_ref8_within) (by kernel_rfl) (by kernel_rfl) (by rintro ⟨⟩ ⟨a1, ⟨⟩⟩; kernel_rfl)
def J_ref8_ports : Nat → Option JA := fun k => match k with
  | 6 => some ⟨22906492240, [], [.t 2 .bool]⟩
  | _ => none
theorem ok_ref8_ports : FnOk U Tryz.prog G0 177 (callS (specX [tPorts] (.p .bool) ref8_ports)) :=
  fnOk_fast (fn := Tryz.f177) (c := bodyOf Tryz.f177) (S := (SpecsX.none U)) (A := J_ref8_ports) tableX_none (by kernel_rfl) (by kernel_rfl) (by rintro ⟨⟩ ⟨a1, ⟨⟩⟩; kernel_rfl)
def J_ref8_all : Nat → Option JA := fun _ => none
theorem ok_ref8_all : FnOk U Tryz.prog G0 178 (callS (specX [tPorts] (.p .bool) ref8_all)) :=
  fnOk_fast (fn := Tryz.f178) (c := bodyOf Tryz.f178) (S := (SpecsX.none U)) (A := J_ref8_all) tableX_none (by kernel_rfl) (by kernel_rfl) (by rintro ⟨⟩ ⟨a1, ⟨⟩⟩; kernel_rfl)
def J_ref8_ValidRule : Nat → Option JA := fun k => match k with
  | 6 => some ⟨100743818301219097892160, [], [.t 38 .bool]⟩
  | 14 => some ⟨6923062477945693019739442674401296, [], [.t 2 .bool]⟩
  | _ => none
theorem ok_ref8_ValidRule : FnOk U Tryz.prog G0 149 (callS (specX [tRule] (.p .bool) ref8_ValidRule)) :=
  fnOk_fast (fn := Tryz.f149) (c := bodyOf Tryz.f149) (S := ((((SpecsX.none U).add 108 (specX [tI, tI, tI] (.p .bool) ref8_within)).add 177 (specX [tPorts] (.p .bool) ref8_ports)).add 178 (specX [tPorts] (.p .bool) ref8_all))) (A := J_ref8_ValidRule) (tableX_add (tableX_add (tableX_add tableX_none (by kernel_rfl) ok_ref8_within) (by kernel_rfl) ok_ref8_ports) (by kernel_rfl) ok_ref8_all) (by kernel_rfl) (by kernel_rfl) (by rintro ⟨⟩ ⟨a1, ⟨⟩⟩; kernel_rfl)
def J_ref8_accessLists : Nat → Option JA := fun k => match k with
  | 37 => some ⟨25185954569440712458512, [], [.t 4 tI]⟩
  | 52 => some ⟨25185954569440712458512, [], []⟩
  | 73 => some ⟨7433581732836780243977355534074804751565840, [], [.t 5 tI]⟩
  | 20 => some ⟨7433581732843541047178572757549453477414160, [], []⟩
  | 17 => some ⟨7433581732843541047178572757549453835240784, [], [.t 3 tI]⟩
  | 88 => some ⟨7433581732843541047178572757549453835240784, [], []⟩
  | _ => none
theorem ok_ref8_accessLists : FnOk U Tryz.prog G0 112 (callS (specX [(.sl tACL)] (.p tI) ref8_accessLists)) :=
  fnOk_fast (fn := Tryz.f112) (c := bodyOf Tryz.f112) (S := (((SpecsX.none U).add 107 (specX [.str] (.p .bool) ref4_Name)).add 149 (specX [tRule] (.p .bool) ref8_ValidRule))) (A := J_ref8_accessLists) (tableX_add (tableX_add tableX_none (by kernel_rfl) ok_ref4_Name) (by kernel_rfl) ok_ref8_ValidRule) (by kernel_rfl) (by kernel_rfl) (by rintro ⟨⟩ ⟨a1, ⟨⟩⟩; kernel_rfl)
def J_ref8_ACL : Nat → Option JA := fun k => match k with
  | 9 => some ⟨5864062014720, [], [.t 5 tI]⟩
  | 24 => some ⟨5864062014720, [], []⟩
  | _ => none
theorem ok_ref8_ACL : FnOk U Tryz.prog G0 150 (callS (specX [tRouter, .str] (.p tI) ref8_ACL)) :=
  fnOk_fast (fn := Tryz.f150) (c := bodyOf Tryz.f150) (S := (SpecsX.none U)) (A := J_ref8_ACL) tableX_none (by kernel_rfl) (by kernel_rfl) (by rintro ⟨⟩ ⟨a1, a2, ⟨⟩⟩; kernel_rfl)
def J_ref8_translations : Nat → Option JA := fun k => match k with
  | 42 => some ⟨412646679760292225090585600, [], [.t 5 .bool]⟩
  | 50 => some ⟨30447950777727144122641087138733868110036599808, [], [.t 5 .bool]⟩
  | 58 => some ⟨37692737381938865697777012862015049227352017065451593534499925742265041920, [], [.t 5 .bool]⟩
  | 60 => some ⟨37692737381938865697777013349182261670986323133346537773260926430180541440, [], [.t 5 .bool]⟩
  | 70 => some ⟨632378593604264737584744508361900640506471740472781533529553313286966197459353600, [], [.t 134 .bool]⟩
  | 17 => some ⟨632379196688062848606595672794114227422658476253951667074157685461882905339889488, [], [.t 3 tI]⟩
  | 76 => some ⟨632379196688062848606595672794114227422658476253951667074157685461882905339889488, [], []⟩
  | _ => none
theorem ok_ref8_translations : FnOk U Tryz.prog G0 113 (callS (specX [tRouter] (.p tI) ref8_translations)) :=
  fnOk_fast (fn := Tryz.f113) (c := bodyOf Tryz.f113) (S := (((SpecsX.none U).add 108 (specX [tI, tI, tI] (.p .bool) ref8_within)).add 150 (specX [tRouter, .str] (.p tI) ref8_ACL))) (A := J_ref8_translations) (tableX_add (tableX_add tableX_none (by kernel_rfl) ok_ref8_within) (by kernel_rfl) ok_ref8_ACL) (by kernel_rfl) (by kernel_rfl) (by rintro ⟨⟩ ⟨a1, ⟨⟩⟩; kernel_rfl)
def J_ref8_filters : Nat → Option JA := fun k => match k with
  | 22 => some ⟨100743818301213371269120, [], [.t 38 .bool]⟩
  | 9 => some ⟨100743818301219097892688, [], [.t 3 tI]⟩
  | 28 => some ⟨100743818301219097892688, [], []⟩
  | _ => none
theorem ok_ref8_filters : FnOk U Tryz.prog G0 114 (callS (specX [tRouter] (.p tI) ref8_filters)) :=
  fnOk_fast (fn := Tryz.f114) (c := bodyOf Tryz.f114) (S := ((SpecsX.none U).add 150 (specX [tRouter, .str] (.p tI) ref8_ACL))) (A := J_ref8_filters) (tableX_add tableX_none (by kernel_rfl) ok_ref8_ACL) (by kernel_rfl) (by kernel_rfl) (by rintro ⟨⟩ ⟨a1, ⟨⟩⟩; kernel_rfl)
def J_ref8_Address : Nat → Option JA := fun k => match k with
  | 18 => some ⟨384307168179912704, [], [.t 29 .bool]⟩
  | 9 => some ⟨1537228672809129216, [], [.t 5 tI]⟩
  | 24 => some ⟨1537228672809129216, [], []⟩
  | _ => none
theorem ok_ref8_Address : FnOk U Tryz.prog G0 85 (callS (specX [tRouter, tU] (.p tI) ref8_Address)) :=
  fnOk_fast (fn := Tryz.f85) (c := bodyOf Tryz.f85) (S := (SpecsX.none U)) (A := J_ref8_Address) tableX_none (by kernel_rfl) (by kernel_rfl) (by rintro ⟨⟩ ⟨a1, a2, ⟨⟩⟩; kernel_rfl)
def J_ref8_Interface : Nat → Option JA := fun k => match k with
  | 9 => some ⟨5864062014720, [], [.t 5 tI]⟩
  | 24 => some ⟨5864062014720, [], []⟩
  | _ => none
theorem ok_ref8_Interface : FnOk U Tryz.prog G0 33 (callS (specX [tRouter, .str] (.p tI) ref8_Interface)) :=
  fnOk_fast (fn := Tryz.f33) (c := bodyOf Tryz.f33) (S := (SpecsX.none U)) (A := J_ref8_Interface) tableX_none (by kernel_rfl) (by kernel_rfl) (by rintro ⟨⟩ ⟨a1, a2, ⟨⟩⟩; kernel_rfl)
def J_ref8_statics : Nat → Option JA := fun k => match k with
  | 40 => some ⟨95982967058334720, [], [.t 5 tI]⟩
  | 48 => some ⟨98286558267733705728, [], [.t 5 tI]⟩
  | 56 => some ⟨25087571940244990198784, [], [.t 5 tI]⟩
  | 58 => some ⟨464598858302721315423474842771536090234880, [], [.t 69 .bool]⟩
  | 88 => some ⟨1995436901704527259351376376153304285490059033972736, [], []⟩
  | 102 => some ⟨2246662222260509988834430072107158093433561622966889387929056051200, [], [.t 110 .bool]⟩
  | 93 => some ⟨2246662222262551320785349088125518235372070433246631536525402193936, [], [.t 7 tI]⟩
  | 20 => some ⟨2246662222262553316222251257251635889469762035211714373333674907408, [], []⟩
  | 17 => some ⟨2246662222262553316222251257251635889469762035211714373425295284048, [], [.t 3 tI]⟩
  | 108 => some ⟨2246662222262553316222251257251635889469762035211714373425295284048, [], []⟩
  | _ => none
theorem ok_ref8_statics : FnOk U Tryz.prog G0 115 (callS (specX [tRouter] (.p tI) ref8_statics)) :=
  fnOk_fast (fn := Tryz.f115) (c := bodyOf Tryz.f115) (S := (((((SpecsX.none U).add 37 (specX [tPrefix] (.p .bool) ref4_Valid)).add 85 (specX [tRouter, tU] (.p tI) ref8_Address)).add 108 (specX [tI, tI, tI] (.p .bool) ref8_within)).add 33 (specX [tRouter, .str] (.p tI) ref8_Interface))) (A := J_ref8_statics) (tableX_add (tableX_add (tableX_add (tableX_add tableX_none (by kernel_rfl) ok_ref4_Valid) (by kernel_rfl) ok_ref8_Address) (by kernel_rfl) ok_ref8_within) (by kernel_rfl) ok_ref8_Interface) (by kernel_rfl) (by kernel_rfl) (by rintro ⟨⟩ ⟨a1, ⟨⟩⟩; kernel_rfl)
def J_ref8_RouteMap : Nat → Option JA := fun k => match k with
  | 9 => some ⟨5864062014720, [], [.t 5 tI]⟩
  | 24 => some ⟨5864062014720, [], []⟩
  | _ => none
theorem ok_ref8_RouteMap : FnOk U Tryz.prog G0 179 (callS (specX [tRouter, .str] (.p tI) ref8_RouteMap)) :=
  fnOk_fast (fn := Tryz.f179) (c := bodyOf Tryz.f179) (S := (SpecsX.none U)) (A := J_ref8_RouteMap) tableX_none (by kernel_rfl) (by kernel_rfl) (by rintro ⟨⟩ ⟨a1, a2, ⟨⟩⟩; kernel_rfl)
def J_ref8_redistributions : Nat → Option JA := fun k => match k with
  | 30 => some ⟨1690200800304299863862767779840, [], [.t 50 .bool]⟩
  | 38 => some ⟨7433581732841850846378268451680791564386304, [], [.t 71 .bool]⟩
  | 46 => some ⟨7794667965516416053545271929247418555377804902400, [], [.t 81 .bool]⟩
  | 57 => some ⟨523091803487547997888166888180986426855020182207097470976, [], [.t 13 tI]⟩
  | 20 => some ⟨523091811282223396986315785267305534675196263582539972608, [], []⟩
  | 17 => some ⟨523091811282223396986315785267305534675196287033065603072, [], [.t 11 tI]⟩
  | 72 => some ⟨523091811282223396986315785267305534675196287033065603072, [], []⟩
  | _ => none
theorem ok_ref8_redistributions : FnOk U Tryz.prog G0 151 (callS (specX [tRouter, (.sl tRedist), tI, tI, tI] (.p tI) ref8_redistributions)) :=
  fnOk_fast (fn := Tryz.f151) (c := bodyOf Tryz.f151) (S := (((SpecsX.none U).add 108 (specX [tI, tI, tI] (.p .bool) ref8_within)).add 179 (specX [tRouter, .str] (.p tI) ref8_RouteMap))) (A := J_ref8_redistributions) (tableX_add (tableX_add tableX_none (by kernel_rfl) ok_ref8_within) (by kernel_rfl) ok_ref8_RouteMap) (by kernel_rfl) (by kernel_rfl) (by rintro ⟨⟩ ⟨a1, a2, a3, a4, a5, ⟨⟩⟩; kernel_rfl)
def J_ref8_linkState : Nat → Option JA := fun k => match k with
  | 14 => some ⟨1501199874392064, [], [.t 25 .bool]⟩
  | 54 => some ⟨110768999647131088315831082790420480, [], [.t 58 .bool]⟩
  | 74 => some ⟨8173309551284740464483728504488827824841739507723141120, [], [.t 91 .bool]⟩
  | 65 => some ⟨8173309551284740577800415145152905989891291396622517264, [], [.t 5 tI]⟩
  | 48 => some ⟨8173309551284740577911184144800037078207122479412937744, [], []⟩
  | 45 => some ⟨8173309551284740577911184144801648880917306925194937616, [], [.t 4 tI]⟩
  | 80 => some ⟨8173309551284740577911184144801648880917306925194937616, [], []⟩
  | _ => none
theorem ok_ref8_linkState : FnOk U Tryz.prog G0 116 (callS (specX [tRouter] (.p tI) ref8_linkState)) :=
  fnOk_fast (fn := Tryz.f116) (c := bodyOf Tryz.f116) (S := (((((SpecsX.none U).add 108 (specX [tI, tI, tI] (.p .bool) ref8_within)).add 37 (specX [tPrefix] (.p .bool) ref4_Valid)).add 146 (specX [tPrefix, tPrefix] (.p .bool) ref4_Overlaps)).add 151 (specX [tRouter, (.sl tRedist), tI, tI, tI] (.p tI) ref8_redistributions))) (A := J_ref8_linkState) (tableX_add (tableX_add (tableX_add (tableX_add tableX_none (by kernel_rfl) ok_ref8_within) (by kernel_rfl) ok_ref4_Valid) (by kernel_rfl) ok_ref4_Overlaps) (by kernel_rfl) ok_ref8_redistributions) (by kernel_rfl) (by kernel_rfl) (by rintro ⟨⟩ ⟨a1, ⟨⟩⟩; kernel_rfl)
def J_ref8_distance : Nat → Option JA := fun k => match k with
  | 14 => some ⟨24019198012555264, [], [.t 27 .bool]⟩
  | 34 => some ⟨108172851219469426679694103674880, [], [.t 53 .bool]⟩
  | _ => none
theorem ok_ref8_distance : FnOk U Tryz.prog G0 117 (callS (specX [tRouter] (.p tI) ref8_distance)) :=
  fnOk_fast (fn := Tryz.f117) (c := bodyOf Tryz.f117) (S := ((((SpecsX.none U).add 108 (specX [tI, tI, tI] (.p .bool) ref8_within)).add 148 (specX [tRouter, .str] (.p tI) ref8_PrefixList)).add 151 (specX [tRouter, (.sl tRedist), tI, tI, tI] (.p tI) ref8_redistributions))) (A := J_ref8_distance) (tableX_add (tableX_add (tableX_add tableX_none (by kernel_rfl) ok_ref8_within) (by kernel_rfl) ok_ref8_PrefixList) (by kernel_rfl) ok_ref8_redistributions) (by kernel_rfl) (by kernel_rfl) (by rintro ⟨⟩ ⟨a1, ⟨⟩⟩; kernel_rfl)
def J_ref8_neighbors : Nat → Option JA := fun k => match k with
  | 30 => some ⟨24595658742039576576, [], [.t 32 .bool]⟩
  | 38 => some ⟨7259357160980020553860729299779442442240, [], [.t 66 .bool]⟩
  | 49 => some ⟨31178701589133238427365255877395379460782172406800, [], [.t 5 tI]⟩
  | 24 => some ⟨31178701596392595588345276431280704419303654425616, [], []⟩
  | 21 => some ⟨31178701596392595588345276431280704419326555325712, [], [.t 4 tI]⟩
  | 64 => some ⟨31178701596392595588345276431280704419326555325712, [], []⟩
  | _ => none
theorem ok_ref8_neighbors : FnOk U Tryz.prog G0 152 (callS (specX [tRouter] (.p tI) ref8_neighbors)) :=
  fnOk_fast (fn := Tryz.f152) (c := bodyOf Tryz.f152) (S := (((SpecsX.none U).add 108 (specX [tI, tI, tI] (.p .bool) ref8_within)).add 179 (specX [tRouter, .str] (.p tI) ref8_RouteMap))) (A := J_ref8_neighbors) (tableX_add (tableX_add tableX_none (by kernel_rfl) ok_ref8_within) (by kernel_rfl) ok_ref8_RouteMap) (by kernel_rfl) (by kernel_rfl) (by rintro ⟨⟩ ⟨a1, ⟨⟩⟩; kernel_rfl)
def J_ref8_originations : Nat → Option JA := fun k => match k with
  | 37 => some ⟨103161669916429158228951312, [], [.t 4 tI]⟩
  | 20 => some ⟨103161669940446890226090256, [], []⟩
  | 17 => some ⟨103161669940448356152115536, [], [.t 3 tI]⟩
  | 52 => some ⟨103161669940448356152115536, [], []⟩
  | 85 => some ⟨1948668849746180360361501571666429475588596043792, [], [.t 6 tI]⟩
  | 68 => some ⟨1948668849774536791580174899052741648666549293072, [], []⟩
  | 65 => some ⟨1948668849774537224245170389450289247010062078992, [], [.t 5 tI]⟩
  | 100 => some ⟨1948668849774537224245170389450289247010062078992, [], []⟩
  | 126 => some ⟨8776015936244118375918817192586638416352703146905166652479897600, [], [.t 106 .bool]⟩
  | 145 => some ⟨2412335183457438515607515589458659717936581122655130276641842173130320379920, [], [.t 9 tI]⟩
  | 116 => some ⟨2412335192444087404649555544796380006365213496389376768509399724846544781328, [], []⟩
  | 113 => some ⟨2412335192444087404657728355488439204661595267009755516997428957606549340176, [], [.t 7 tI]⟩
  | 160 => some ⟨2412335192444087404657728355488439204661595267009755516997428957606549340176, [], []⟩
  | _ => none
theorem ok_ref8_originations : FnOk U Tryz.prog G0 153 (callS (specX [tPV] (.p tI) ref8_originations)) :=
  fnOk_fast (fn := Tryz.f153) (c := bodyOf Tryz.f153) (S := ((SpecsX.none U).add 37 (specX [tPrefix] (.p .bool) ref4_Valid))) (A := J_ref8_originations) (tableX_add tableX_none (by kernel_rfl) ok_ref4_Valid) (by kernel_rfl) (by kernel_rfl) (by rintro ⟨⟩ ⟨a1, ⟨⟩⟩; kernel_rfl)
def J_ref8_pathVector : Nat → Option JA := fun k => match k with
  | 14 => some ⟨1611901092819505564876800, [], [.t 40 .bool]⟩
  | 26 => some ⟨1730765617899708116690659876798464, [], [.t 55 .bool]⟩
  | _ => none
theorem ok_ref8_pathVector : FnOk U Tryz.prog G0 118 (callS (specX [tRouter] (.p tI) ref8_pathVector)) :=
  fnOk_fast (fn := Tryz.f118) (c := bodyOf Tryz.f118) (S := (((((SpecsX.none U).add 108 (specX [tI, tI, tI] (.p .bool) ref8_within)).add 152 (specX [tRouter] (.p tI) ref8_neighbors)).add 153 (specX [tPV] (.p tI) ref8_originations)).add 151 (specX [tRouter, (.sl tRedist), tI, tI, tI] (.p tI) ref8_redistributions))) (A := J_ref8_pathVector) (tableX_add (tableX_add (tableX_add (tableX_add tableX_none (by kernel_rfl) ok_ref8_within) (by kernel_rfl) ok_ref8_neighbors) (by kernel_rfl) ok_ref8_originations) (by kernel_rfl) ok_ref8_redistributions) (by kernel_rfl) (by kernel_rfl) (by rintro ⟨⟩ ⟨a1, ⟨⟩⟩; kernel_rfl)
def J_ref8_CheckRouter : Nat → Option JA := fun k => match k with
  | 29 => some ⟨6760803194920734830822890144016, [], [.t 4 tI]⟩
  | 44 => some ⟨6760803194920734830822890144016, [], []⟩
  | _ => none
theorem ok_ref8_CheckRouter : FnOk U Tryz.prog G0 84 (callS (specX [tRouter] (.p tI) ref8_CheckRouter)) :=
  fnOk_fast (fn := Tryz.f84) (c := bodyOf Tryz.f84) (S := (((((((((((((SpecsX.none U).add 107 (specX [.str] (.p .bool) ref4_Name)).add 108 (specX [tI, tI, tI] (.p .bool) ref8_within)).add 109 (specX [(.sl tIface)] (.p tI) ref8_interfaces)).add 110 (specX [(.sl tPList)] (.p tI) ref8_prefixLists)).add 111 (specX [tRouter] (.p tI) ref8_routeMaps)).add 112 (specX [(.sl tACL)] (.p tI) ref8_accessLists)).add 113 (specX [tRouter] (.p tI) ref8_translations)).add 114 (specX [tRouter] (.p tI) ref8_filters)).add 115 (specX [tRouter] (.p tI) ref8_statics)).add 116 (specX [tRouter] (.p tI) ref8_linkState)).add 117 (specX [tRouter] (.p tI) ref8_distance)).add 118 (specX [tRouter] (.p tI) ref8_pathVector))) (A := J_ref8_CheckRouter) (tableX_add (tableX_add (tableX_add (tableX_add (tableX_add (tableX_add (tableX_add (tableX_add (tableX_add (tableX_add (tableX_add (tableX_add tableX_none (by kernel_rfl) ok_ref4_Name) (by kernel_rfl) ok_ref8_within) (by kernel_rfl) ok_ref8_interfaces) (by kernel_rfl) ok_ref8_prefixLists) (by kernel_rfl) ok_ref8_routeMaps) (by kernel_rfl) ok_ref8_accessLists) (by kernel_rfl) ok_ref8_translations) (by kernel_rfl) ok_ref8_filters) (by kernel_rfl) ok_ref8_statics) (by kernel_rfl) ok_ref8_linkState) (by kernel_rfl) ok_ref8_distance) (by kernel_rfl) ok_ref8_pathVector) (by kernel_rfl) (by kernel_rfl) (by rintro ⟨⟩ ⟨a1, ⟨⟩⟩; kernel_rfl)
def J_ref8_Check : Nat → Option JA := fun k => match k with
  | 41 => some ⟨6602346876092618007411426320, [], [.t 5 tI]⟩
  | 56 => some ⟨6602346876092618007411426320, [], []⟩
  | 86 => some ⟨1995436894735544384810556644423392325287446063349760, [], [.t 85 .bool]⟩
  | 77 => some ⟨1995436902161866760493117671048079757878355510231056, [], [.t 8 tI]⟩
  | 64 => some ⟨1995436902169126089961847779416217730674252809617424, [], []⟩
  | 61 => some ⟨1995436902169126117654091089255088894142100436799504, [], [.t 6 tI]⟩
  | 20 => some ⟨1995436902169126117654097691601965010778939356992784, [], []⟩
  | 17 => some ⟨1995436902169126117654097691601965082836899876427088, [], [.t 3 tI]⟩
  | 92 => some ⟨1995436902169126117654097691601965082836899876427088, [], []⟩
  | _ => none
theorem ok_ref8_Check : FnOk U Tryz.prog G0 68 (callS (specX [tNetwork] (.p tI) ref8_Check)) :=
  fnOk_fast (fn := Tryz.f68) (c := bodyOf Tryz.f68) (S := (((SpecsX.none U).add 84 (specX [tRouter] (.p tI) ref8_CheckRouter)).add 85 (specX [tRouter, tU] (.p tI) ref8_Address))) (A := J_ref8_Check) (tableX_add (tableX_add tableX_none (by kernel_rfl) ok_ref8_CheckRouter) (by kernel_rfl) ok_ref8_Address) (by kernel_rfl) (by kernel_rfl) (by rintro ⟨⟩ ⟨a1, ⟨⟩⟩; kernel_rfl)

end Go.Ve

namespace Go.Ve
open Go Go.Proofs
set_option maxRecDepth 1000000
set_option maxHeartbeats 0
def J_law5_Small : Nat → Option JA := fun k => match k with
  | 6 => some ⟨2092367245128893587945263141069222138700785148154678169600, [], [.t 95 .bool]⟩
  | 17 => some ⟨2246662220170186071093357669306372748400539896510929225270622683216, [], [.t 3 tI]⟩
  | 32 => some ⟨2246662220170186071093357669306372748400539896510929225270622683216, [], []⟩
  | 37 => some ⟨2412335190197425182395175538125413489691488791064416382276985293406222680336, [], [.t 4 tI]⟩
  | 52 => some ⟨2412335190197425182395175538125413489691488791064416382276985293406222680336, [], []⟩
  | 57 => some ⟨2590225187221970235448528471106963021175544371793061347801571462163172713442087797776, [], [.t 5 tI]⟩
  | 72 => some ⟨2590225187221970235448528471106963021175544371793061347801571462163172713442087797776, [], []⟩
  | _ => none
theorem ok_law5_Small : FnOk U Tryz.prog G0 45 (callS (specX [tRouter] (.p .bool) law5_Small)) :=
  fnOk_fast (fn := Tryz.f45) (c := bodyOf Tryz.f45) (S := (SpecsX.none U)) (A := J_law5_Small) tableX_none (by kernel_rfl) (by kernel_rfl) (by rintro ⟨⟩ ⟨a1, ⟨⟩⟩; kernel_rfl)
def J_law13_Small : Nat → Option JA := fun k => match k with
  | 17 => some ⟨5864061993040, [], [.t 3 tI]⟩
  | 32 => some ⟨5864061993040, [], []⟩
  | _ => none
theorem ok_law13_Small : FnOk U Tryz.prog G0 20 (callS (specX [tNetwork] (.p .bool) law13_Small)) :=
  fnOk_fast (fn := Tryz.f20) (c := bodyOf Tryz.f20) (S := ((SpecsX.none U).add 45 (specX [tRouter] (.p .bool) law5_Small))) (A := J_law13_Small) (tableX_add tableX_none (by kernel_rfl) ok_law5_Small) (by kernel_rfl) (by kernel_rfl) (by rintro ⟨⟩ ⟨a1, ⟨⟩⟩; kernel_rfl)
def J_ref4_Compare : Nat → Option JA := fun k => match k with
  | 6 => some ⟨93824992236544, [], [.t 23 .bool]⟩
  | _ => none
theorem ok_ref4_Compare : FnOk U Tryz.prog G0 22 (callS (specX [tPrefix, tPrefix] (.p tI) ref4_Compare)) :=
  fnOk_fast (fn := Tryz.f22) (c := bodyOf Tryz.f22) (S := (SpecsX.none U)) (A := J_ref4_Compare) tableX_none (by kernel_rfl) (by kernel_rfl) (by rintro ⟨⟩ ⟨a1, a2, ⟨⟩⟩; kernel_rfl)
def J_ref15_Build : Nat → Option JA := fun k => match k with
  | 84 => some ⟨184497489401772529385612327842172717039008268166646221893471402059821287234759868672175917131173661172843563441437060059660158104845032398976807920666283692562120150139178769612799511748636278282415866878160176201872937423527853931074825229289817028865471580173776186278979555862451026349435370470386779578868176354099221238174997807148290368091204552361327921521465467763204555046027307456204118567337113234081310864304329682188410055227959601689731512418582605896572426052789584762208778001498785021309361810928365592763602942101060634062780064931573442859418747069999582698364321162101164826918019197244306192189303006234838493212327877025209681605424513505280, [], [.v 5 [.o 1100 tDomainR, .o 1101 tI], .st]⟩
  | 25 => some ⟨184497489401772529385612327842172717039008268166646221893471402059821287234759868672175917131173661172843563441437060059660158104845032398976807920666283692562120150139178769612799511748636278282415866878160176201872937423527853931074825229289817028865471580173776186278979555862451026349435370470386779578868176354099221238174997807148290368091204552361327921521465467763204555046027307456204118567337113234081310864304329682188410055227959601689731512418582605896572426052789584762208778001498785021309361810928365592763602942101060634062780064931573442859418747069999582698364321162101164826918019197244306192189303006234838493212327877025209681605424513505280, [], [.t 6 tI, .v 5 [.o 1100 tDomainR, .o 1101 tI], .st]⟩
  | 28 => some ⟨184497489401772529385612327842172717039008268166646221893471402059821287234759868672175917131173661172843563441437060059660158104845032398976807920666283692562120150139178769612799511748636278282415866878160176201872937423527853931074825229289817028865471580173776186278979555862451026349435370470386779578868176354099221238174997807148290368091204552361327921521465467763204555046027307456204118567337113234081310864304329682188410055227959601689731512418582605896572426052789584762208778001498785021309361810928365592763602942101060634062780064931573442859418747069999582698364321162101164826918019197244306192189303006234838493212327877025209675600991514216448, [], [.v 5 [.o 1100 tDomainR, .o 1101 tI], .st]⟩
  | 37 => some ⟨184497489401772529385612327842172717039008268166646221893471402059821287234759868672175917131173661172843563441437060059660158104845032398976807920666283692562120150139178769612799511748636278282415866878160176201872937423527853931074825229289817028865471580173776186278979555862451026349435370470386779578868176354099221238174997807148290368091204552361327921521465467763204555046027307456204118567337113234081310864304329682188410055227959601689731512418582605896572426052789584762208778001498785021309361810928365592763602942101060634062780064931573442859418747069999582698364321162101164826918019197244306192189303006234838493212327877025209675600991514216448, [], [.t 7 tI, .v 5 [.o 1100 tDomainR, .o 1101 tI], .st]⟩
  | 40 => some ⟨184497489401772529385612327842172717039008268166646221893471402059821287234759868672175917131173661172843563441437060059660158104845032398976807920666283692562120150139178769612799511748636278282415866878160176201872937423527853931074825229289817028865471580173776186278979555862451026349435370470386779578868176354099221238174997807148290368091204552361327921521465467763204555046027307456204118567337113234081310864304329682188410055227959601689731512418582605896572426052789584762208778001498785021309361810928365592763602942101060634062780064931573442859418747069999582698364321162101164826918019197244306192189303006234838493212327877000023727030486242887680, [], [.v 5 [.o 1100 tDomainR, .o 1101 tI], .st]⟩
  | 80 => some ⟨184497489401772529385612327842172717039008268166646221893471402059821287234759868672175917131173661172843563441437060059660158104845032398976807920666283692562120150139178769612799511748636278282415866878160176201872937423527853931074825229289817028865471580173776186278979555862451026349435370470386779578868176354099221238174997807148290368091204552361327921521465467763204555046027307456204118567337113234081310864304329682188410055227959601689731512418582605896572426052789584762208778001498785021309361810928365592763602942101060634062780064931573442859418747069821583778745688924935728571583505041672838009412557657231906458756740677065373698151113771976704, [], [.v 5 [.o 1100 tDomainR, .o 1101 tI], .st]⟩
  | 70 => some ⟨150770949527755429313232131334431639559735035425831931880481358702119485440, [], [.t 123 .bool, .v 5 [.o 1100 tDomainR, .o 1101 tI], .st]⟩
  | 68 => some ⟨33477875922062297407124099488107905476223153719886495090688, [], [.t 10 tI, .v 5 [.o 1100 tDomainR, .o 1101 tI], .st]⟩
  | 61 => some ⟨33477875922062297407124099488107905476223153719886495090688, [], [.t 10 tI, .v 5 [.o 1100 tDomainR, .o 1101 tI], .st]⟩
  | 62 => some ⟨2092367245128893587945152372069573395711376497566321475584, [], [.t 95 .bool, .v 5 [.o 1100 tDomainR, .o 1101 tI], .st]⟩
  | 50 => some ⟨108166248872599386899585878196224, [], [.t 53 .bool, .v 5 [.o 1100 tDomainR, .o 1101 tI], .st]⟩
  | 92 => some ⟨737989957607090117542449311368690868156033072666584887573885608239285148939039474688703668524694644691374253765748240238640632419380129595907231682665134770248480600556715078451198046994545113129663467512640704807491749694111415724299300917159268115461886320695104745115918223449804105397741481881547118315472705416396884952699991228593161472364818209445311686085861871052818220184109229824816474269348452936325243457217318728753640220911838406758926049674330423586289704211158339048835112005995140085237447243713462371054411768404242536251120259726293772220522512954229778033961281054049025040681255249323705639452069711332539928507387154905727039987508328794112, [], [.v 5 [.o 1100 tDomainR, .o 1101 tI], .st]⟩
  | 89 => some ⟨737989957607090117542449311368690868156033072666584887573885608239285148939039474688703668524694644691374253765748240238640632419380129595907231682665134770248480600556715078451198046994545113129663467512640704807491749694111415724299300917159268115461886320695104745115918223449804105397741481881547118315472705416396884952699991228593161472364818209445311686085861871052818220184109229824816474269348452936325243457217318728753640220911838406758926049674330423586289704211158339048835112005995140085237447243713462371054411768404242536251120259726293772220522515870386078824983771043852409388662279710666054786872263881531095007792867776925237958836497535731712, [], [.t 12 tI, .v 5 [.o 1100 tDomainR, .o 1101 tI], .st]⟩
  | 104 => some ⟨737989957607090117542449311368690868156033072666584887573885608239285148939039474688703668524694644691374253765748240238640632419380129595907231682665134770248480600556715078451198046994545113129663467512640704807491749694111415724299300917159268115461886320695104745115918223449804105397741481881547118315472705416396884952699991228593161472364818209445311686085861871052818220184109229824816474269348452936325243457217318728753640220911838406758926049674330423586289704211158339048835112005995140085237447243713462371054411768404242536251120259726293772220522515870386078824983771043852409388662279710666054786872263881531095007792867776925237958836497535731712, [], [.v 5 [.o 1100 tDomainR, .o 1101 tI], .st]⟩
  | 83 => some ⟨0, [(16, 0, 8)], [.st]⟩
  | 79 => some ⟨0, [(14848, 1024, 0)], [.st]⟩
  | _ => none
theorem hst_ref15_Build : ∀ k j, J_ref15_Build k = some j → hasSt j.sl = true := by
  intro k j h
  unfold J_ref15_Build at h
  split at h <;> (cases h <;> rfl)
theorem okH_ref15_Build : FnOk (heapSig tPorts) Tryz.prog G0 46 (callS (specS (decS [tNetwork]) (.tu [tTopoR, tI]) ref15_Build_H)) :=
  fnOk_fastH (fn := Tryz.f46) (c := bodyOf Tryz.f46) (S := (((((SpecsX.none (heapSig tPorts)).add 68 (specX [tNetwork] (.p tI) ref8_Check)).add 58 (specX [tU, tI] (.p tPrefix) ref4_Network)).add 22 (specX [tPrefix, tPrefix] (.p tI) ref4_Compare)).addH)) (A := J_ref15_Build) hst_ref15_Build (tableX_addH (tableX_add (tableX_add (tableX_add tableX_none (by kernel_rfl) (fnOk_lift (by kernel_rfl) ok_ref8_Check)) (by kernel_rfl) (fnOk_lift (by kernel_rfl) ok_ref4_Network)) (by kernel_rfl) (fnOk_lift (by kernel_rfl) ok_ref4_Compare)) (by kernel_rfl) (by kernel_rfl)) (by kernel_rfl) (by kernel_rfl) (by rintro st0 ⟨a1, ⟨⟩⟩; kernel_rfl)
theorem ok_ref15_Build : FnOk U Tryz.prog G0 46 (callS (specX [tNetwork] (.tu [tTopo, tI]) ref15_Build)) :=
  fnOk_unheap (fun _ => rfl) (by kernel_rfl) okH_ref15_Build
def J_ref15_Ascending : Nat → Option JA := fun k => match k with
  | 26 => some ⟨103161669940448355883679744, [], [.t 43 .bool]⟩
  | 17 => some ⟨103161669940448356241507584, [], [.t 5 tI]⟩
  | 32 => some ⟨103161669940448356241507584, [], []⟩
  | _ => none
theorem ok_ref15_Ascending : FnOk U Tryz.prog G0 47 (callS (specX [(.sl tI), tI] (.p .bool) ref15_Ascending)) :=
  fnOk_fast (fn := Tryz.f47) (c := bodyOf Tryz.f47) (S := (SpecsX.none U)) (A := J_ref15_Ascending) tableX_none (by kernel_rfl) (by kernel_rfl) (by rintro ⟨⟩ ⟨a1, a2, ⟨⟩⟩; kernel_rfl)
def J_ref15_Make : Nat → Option JA := fun k => match k with
  | 27 => some ⟨0, [(240, 3, 0)], []⟩
  | _ => none
theorem ok_ref15_Make : FnOk U Tryz.prog G0 21 (callS (specX [tNetwork, (.sl tI)] (.tu [tView, tI]) ref15_Make)) :=
  fnOk_fast (fn := Tryz.f21) (c := bodyOf Tryz.f21) (S := (((SpecsX.none U).add 46 (specX [tNetwork] (.tu [tTopo, tI]) ref15_Build)).add 47 (specX [(.sl tI), tI] (.p .bool) ref15_Ascending))) (A := J_ref15_Make) (tableX_add (tableX_add tableX_none (by kernel_rfl) ok_ref15_Build) (by kernel_rfl) ok_ref15_Ascending) (by kernel_rfl) (by kernel_rfl) (by rintro ⟨⟩ ⟨a1, a2, ⟨⟩⟩; kernel_rfl)
def J_law13_View : Nat → Option JA := fun k => match k with
  | 6 => some ⟨1431633920, [], [.t 15 .bool]⟩
  | _ => none
theorem ok_law13_View : FnOk U Tryz.prog G0 7 (callS (specX [tNetwork, (.sl tI)] (.tu [tView, .bool]) law13_View)) :=
  fnOk_fast (fn := Tryz.f7) (c := bodyOf Tryz.f7) (S := (((SpecsX.none U).add 20 (specX [tNetwork] (.p .bool) law13_Small)).add 21 (specX [tNetwork, (.sl tI)] (.tu [tView, tI]) ref15_Make))) (A := J_law13_View) (tableX_add (tableX_add tableX_none (by kernel_rfl) ok_law13_Small) (by kernel_rfl) ok_ref15_Make) (by kernel_rfl) (by kernel_rfl) (by rintro ⟨⟩ ⟨a1, a2, ⟨⟩⟩; kernel_rfl)
def J_ref15_within : Nat → Option JA := fun k => match k with
  | 6 => some ⟨357912576, [], [.t 6 .bool]⟩
  | _ => none
theorem ok_ref15_within : FnOk U Tryz.prog G0 38 (callS (specX [tI, tI, tI] (.p .bool) ref15_within)) :=
  fnOk_fast (fn := Tryz.f38) (c := bodyOf Tryz.f38) (S := (SpecsX.none U)) (A := J_ref15_within) tableX_none (by kernel_rfl) (by kernel_rfl) (by rintro ⟨⟩ ⟨a1, a2, a3, ⟨⟩⟩; kernel_rfl)
def J_ref15_plain : Nat → Option JA := fun k => match k with
  | 6 => some ⟨6447604371278022265077760, [], [.t 8 .bool]⟩
  | _ => none
theorem ok_ref15_plain : FnOk U Tryz.prog G0 39 (callS (specX [tRoute, .bool, .bool, .bool] (.p .bool) ref15_plain)) :=
  fnOk_fast (fn := Tryz.f39) (c := bodyOf Tryz.f39) (S := (SpecsX.none U)) (A := J_ref15_plain) tableX_none (by kernel_rfl) (by kernel_rfl) (by rintro ⟨⟩ ⟨a1, a2, a3, a4, ⟨⟩⟩; kernel_rfl)
def J_ref15_lessHop : Nat → Option JA := fun k => match k with
  | 6 => some ⟨93824992236800, [], [.t 4 .bool]⟩
  | _ => none
theorem ok_ref15_lessHop : FnOk U Tryz.prog G0 67 (callS (specX [tHop, tHop] (.p .bool) ref15_lessHop)) :=
  fnOk_fast (fn := Tryz.f67) (c := bodyOf Tryz.f67) (S := (SpecsX.none U)) (A := J_ref15_lessHop) tableX_none (by kernel_rfl) (by kernel_rfl) (by rintro ⟨⟩ ⟨a1, a2, ⟨⟩⟩; kernel_rfl)
def J_ref15_hops : Nat → Option JA := fun k => match k with
  | 18 => some ⟨412646679761793424960782336, [], [.t 44 .bool]⟩
  | 9 => some ⟨412646679761793424966374656, [], [.t 5 tI]⟩
  | 24 => some ⟨412646679761793424966374656, [], []⟩
  | _ => none
theorem ok_ref15_hops : FnOk U Tryz.prog G0 40 (callS (specX [(.sl tHop), .bool] (.p .bool) ref15_hops)) :=
  fnOk_fast (fn := Tryz.f40) (c := bodyOf Tryz.f40) (S := ((SpecsX.none U).add 67 (specX [tHop, tHop] (.p .bool) ref15_lessHop))) (A := J_ref15_hops) (tableX_add tableX_none (by kernel_rfl) ok_ref15_lessHop) (by kernel_rfl) (by kernel_rfl) (by rintro ⟨⟩ ⟨a1, a2, ⟨⟩⟩; kernel_rfl)
def J_ref15_validStatic : Nat → Option JA := fun k => match k with
  | 6 => some ⟨5864062014784, [], [.t 21 .bool]⟩
  | 18 => some ⟨393529039039261310992, [], [.t 2 .bool]⟩
  | 30 => some ⟨1690194352699934590640005840912, [], [.t 2 .bool]⟩
  | _ => none
theorem ok_ref15_validStatic : FnOk U Tryz.prog G0 41 (callS (specX [tRoute] (.p .bool) ref15_validStatic)) :=
  fnOk_fast (fn := Tryz.f41) (c := bodyOf Tryz.f41) (S := ((((SpecsX.none U).add 38 (specX [tI, tI, tI] (.p .bool) ref15_within)).add 39 (specX [tRoute, .bool, .bool, .bool] (.p .bool) ref15_plain)).add 40 (specX [(.sl tHop), .bool] (.p .bool) ref15_hops))) (A := J_ref15_validStatic) (tableX_add (tableX_add (tableX_add tableX_none (by kernel_rfl) ok_ref15_within) (by kernel_rfl) ok_ref15_plain) (by kernel_rfl) ok_ref15_hops) (by kernel_rfl) (by kernel_rfl) (by rintro ⟨⟩ ⟨a1, ⟨⟩⟩; kernel_rfl)
def J_ref15_validLinkState : Nat → Option JA := fun k => match k with
  | 6 => some ⟨93824992236864, [], [.t 23 .bool]⟩
  | 14 => some ⟨25185954481479782236160, [], [.t 37 .bool]⟩
  | 26 => some ⟨110768999648340014135445711965126672, [], [.t 2 .bool]⟩
  | 30 => some ⟨29037317874920433472551891183589197348880, [], [.t 2 .bool]⟩
  | _ => none
theorem ok_ref15_validLinkState : FnOk U Tryz.prog G0 42 (callS (specX [tRoute] (.p .bool) ref15_validLinkState)) :=
  fnOk_fast (fn := Tryz.f42) (c := bodyOf Tryz.f42) (S := ((((SpecsX.none U).add 38 (specX [tI, tI, tI] (.p .bool) ref15_within)).add 39 (specX [tRoute, .bool, .bool, .bool] (.p .bool) ref15_plain)).add 40 (specX [(.sl tHop), .bool] (.p .bool) ref15_hops))) (A := J_ref15_validLinkState) (tableX_add (tableX_add (tableX_add tableX_none (by kernel_rfl) ok_ref15_within) (by kernel_rfl) ok_ref15_plain) (by kernel_rfl) ok_ref15_hops) (by kernel_rfl) (by kernel_rfl) (by rintro ⟨⟩ ⟨a1, ⟨⟩⟩; kernel_rfl)
def J_ref15_validDistance : Nat → Option JA := fun k => match k with
  | 6 => some ⟨5864062014784, [], [.t 21 .bool]⟩
  | 22 => some ⟨412646679760292225090584592, [], [.t 2 .bool]⟩
  | 38 => some ⟨7089188934306746453259739058493456400, [], [.t 2 .bool]⟩
  | _ => none
theorem ok_ref15_validDistance : FnOk U Tryz.prog G0 43 (callS (specX [tRoute] (.p .bool) ref15_validDistance)) :=
  fnOk_fast (fn := Tryz.f43) (c := bodyOf Tryz.f43) (S := ((((SpecsX.none U).add 38 (specX [tI, tI, tI] (.p .bool) ref15_within)).add 39 (specX [tRoute, .bool, .bool, .bool] (.p .bool) ref15_plain)).add 40 (specX [(.sl tHop), .bool] (.p .bool) ref15_hops))) (A := J_ref15_validDistance) (tableX_add (tableX_add (tableX_add tableX_none (by kernel_rfl) ok_ref15_within) (by kernel_rfl) ok_ref15_plain) (by kernel_rfl) ok_ref15_hops) (by kernel_rfl) (by kernel_rfl) (by rintro ⟨⟩ ⟨a1, ⟨⟩⟩; kernel_rfl)
def J_ref15_validPath : Nat → Option JA := fun k => match k with
  | 6 => some ⟨93824992236864, [], [.t 23 .bool]⟩
  | 24 => some ⟨94575592174780416, [], [.t 26 .bool]⟩
  | 26 => some ⟨6760803201217127397857033191440, [], [.t 2 .bool]⟩
  | 36 => some ⟨425930601676685078902892277006336, [], [.t 52 .bool]⟩
  | 38 => some ⟨523091811282223396986315352575900656772893909497308774416, [], [.t 2 .bool]⟩
  | _ => none
theorem ok_ref15_validPath : FnOk U Tryz.prog G0 44 (callS (specX [tRoute] (.p .bool) ref15_validPath)) :=
  fnOk_fast (fn := Tryz.f44) (c := bodyOf Tryz.f44) (S := ((((SpecsX.none U).add 38 (specX [tI, tI, tI] (.p .bool) ref15_within)).add 39 (specX [tRoute, .bool, .bool, .bool] (.p .bool) ref15_plain)).add 40 (specX [(.sl tHop), .bool] (.p .bool) ref15_hops))) (A := J_ref15_validPath) (tableX_add (tableX_add (tableX_add tableX_none (by kernel_rfl) ok_ref15_within) (by kernel_rfl) ok_ref15_plain) (by kernel_rfl) ok_ref15_hops) (by kernel_rfl) (by kernel_rfl) (by rintro ⟨⟩ ⟨a1, ⟨⟩⟩; kernel_rfl)
def J_ref15_Valid : Nat → Option JA := fun k => match k with
  | 6 => some ⟨366503875840, [], [.t 19 .bool]⟩
  | 17 => some ⟨98382634693280399440, [], [.t 3 tI]⟩
  | 32 => some ⟨98382634693280399440, [], []⟩
  | 42 => some ⟨1902996923607946508077689439978084877069189136, [], [.t 2 .bool]⟩
  | _ => none
theorem ok_ref15_Valid : FnOk U Tryz.prog G0 19 (callS (specX [tRoute] (.p .bool) ref15_Valid)) :=
  fnOk_fast (fn := Tryz.f19) (c := bodyOf Tryz.f19) (S := (((((((((SpecsX.none U).add 37 (specX [tPrefix] (.p .bool) ref4_Valid)).add 38 (specX [tI, tI, tI] (.p .bool) ref15_within)).add 39 (specX [tRoute, .bool, .bool, .bool] (.p .bool) ref15_plain)).add 40 (specX [(.sl tHop), .bool] (.p .bool) ref15_hops)).add 41 (specX [tRoute] (.p .bool) ref15_validStatic)).add 42 (specX [tRoute] (.p .bool) ref15_validLinkState)).add 43 (specX [tRoute] (.p .bool) ref15_validDistance)).add 44 (specX [tRoute] (.p .bool) ref15_validPath))) (A := J_ref15_Valid) (tableX_add (tableX_add (tableX_add (tableX_add (tableX_add (tableX_add (tableX_add (tableX_add tableX_none (by kernel_rfl) ok_ref4_Valid) (by kernel_rfl) ok_ref15_within) (by kernel_rfl) ok_ref15_plain) (by kernel_rfl) ok_ref15_hops) (by kernel_rfl) ok_ref15_validStatic) (by kernel_rfl) ok_ref15_validLinkState) (by kernel_rfl) ok_ref15_validDistance) (by kernel_rfl) ok_ref15_validPath) (by kernel_rfl) (by kernel_rfl) (by rintro ⟨⟩ ⟨a1, ⟨⟩⟩; kernel_rfl)
def J_ref15_Table : Nat → Option JA := fun k => match k with
  | 18 => some ⟨422550200076076467165562142720, [], [.t 49 .bool]⟩
  | 9 => some ⟨422550200076076467165567735040, [], [.t 5 tI]⟩
  | 24 => some ⟨422550200076076467165567735040, [], []⟩
  | _ => none
theorem ok_ref15_Table : FnOk U Tryz.prog G0 8 (callS (specX [(.sl tRoute), tI] (.p .bool) ref15_Table)) :=
  fnOk_fast (fn := Tryz.f8) (c := bodyOf Tryz.f8) (S := (((SpecsX.none U).add 19 (specX [tRoute] (.p .bool) ref15_Valid)).add 22 (specX [tPrefix, tPrefix] (.p tI) ref4_Compare))) (A := J_ref15_Table) (tableX_add (tableX_add tableX_none (by kernel_rfl) ok_ref15_Valid) (by kernel_rfl) ok_ref4_Compare) (by kernel_rfl) (by kernel_rfl) (by rintro ⟨⟩ ⟨a1, a2, ⟨⟩⟩; kernel_rfl)
def J_addr_clamp : Nat → Option JA := fun _ => none
theorem ok_addr_clamp : FnOk U Tryz.prog G0 52 (callS (specX [tI] (.p tI) addr_clamp)) :=
  fnOk_fast (fn := Tryz.f52) (c := bodyOf Tryz.f52) (S := (SpecsX.none U)) (A := J_addr_clamp) tableX_none (by kernel_rfl) (by kernel_rfl) (by rintro ⟨⟩ ⟨a1, ⟨⟩⟩; kernel_rfl)
def J_addr_Mask : Nat → Option JA := fun _ => none
theorem ok_addr_Mask : FnOk U Tryz.prog G0 51 (callS (specX [tI] (.p tU) addr_Mask)) :=
  fnOk_fast (fn := Tryz.f51) (c := bodyOf Tryz.f51) (S := ((SpecsX.none U).add 52 (specX [tI] (.p tI) addr_clamp))) (A := J_addr_Mask) (tableX_add tableX_none (by kernel_rfl) ok_addr_clamp) (by kernel_rfl) (by kernel_rfl) (by rintro ⟨⟩ ⟨a1, ⟨⟩⟩; kernel_rfl)
def J_addr_Contains : Nat → Option JA := fun _ => none
theorem ok_addr_Contains : FnOk U Tryz.prog G0 35 (callS (specX [tPrefix, tU] (.p .bool) addr_Contains)) :=
  fnOk_fast (fn := Tryz.f35) (c := bodyOf Tryz.f35) (S := ((SpecsX.none U).add 51 (specX [tI] (.p tU) addr_Mask))) (A := J_addr_Contains) (tableX_add tableX_none (by kernel_rfl) ok_addr_Mask) (by kernel_rfl) (by kernel_rfl) (by rintro ⟨⟩ ⟨a1, a2, ⟨⟩⟩; kernel_rfl)
def J_static_Resolves : Nat → Option JA := fun k => match k with
  | 22 => some ⟨24019192286019584, [], [.t 27 .bool]⟩
  | 26 => some ⟨6447604347258824252456960, [], [.t 41 .bool]⟩
  | 32 => some ⟨25790417485112088971788288, [], [.t 7 tI]⟩
  | 13 => some ⟨103161669940448356236869632, [], [.t 12 tI, .t 7 tI]⟩
  | 36 => some ⟨103161669940448356242112512, [], [.t 7 tI]⟩
  | _ => none
theorem ok_static_Resolves : FnOk U Tryz.prog G0 15 (callS (specX [(.sl tRoute), tPrefix, tU] (.p tI) static_Resolves)) :=
  fnOk_fast (fn := Tryz.f15) (c := bodyOf Tryz.f15) (S := ((SpecsX.none U).add 35 (specX [tPrefix, tU] (.p .bool) addr_Contains))) (A := J_static_Resolves) (tableX_add tableX_none (by kernel_rfl) ok_addr_Contains) (by kernel_rfl) (by kernel_rfl) (by rintro ⟨⟩ ⟨a1, a2, a3, ⟨⟩⟩; kernel_rfl)
def J_model_Interface_c1 : Nat → Option JA := fun _ => none
theorem ok_model_Interface_c1 : FnOk U Tryz.prog G0 63 (callS (specA [.d tIface, .pp .str] (.p .bool) model_Interface_c1)) :=
  fnOk_fastA (fn := Tryz.f63) (c := bodyOf Tryz.f63) (S := (SpecsX.none U)) (A := J_model_Interface_c1) tableX_none (by kernel_rfl) (by kernel_rfl) (by rintro ⟨⟩ ⟨a1, a2, ⟨⟩⟩; kernel_rfl)
def J_slices_IndexFunc_Interface__c63 : Nat → Option JA := fun k => match k with
  | 9 => some ⟨91625948416, [], [.t 8 tI]⟩
  | 28 => some ⟨91625968896, [], []⟩
  | _ => none
theorem ok_slices_IndexFunc_Interface__c63 : FnOk U Tryz.prog G0 62 (callS (specA [.d (.sl tIface), .clo 63 [(true, .str)]] (.p tI) slices_IndexFunc_Interface__c63)) :=
  fnOk_fastA (fn := Tryz.f62) (c := bodyOf Tryz.f62) (S := ((SpecsX.none U).add 63 (specA [.d tIface, .pp .str] (.p .bool) model_Interface_c1))) (A := J_slices_IndexFunc_Interface__c63) (tableX_add tableX_none (by kernel_rfl) ok_model_Interface_c1) (by kernel_rfl) (by kernel_rfl) (by rintro ⟨⟩ ⟨a1, ⟨a2, ⟨⟩⟩, ⟨⟩⟩; kernel_rfl)
def J_model_Interface : Nat → Option JA := fun _ => none
theorem ok_model_Interface : FnOk U Tryz.prog G0 32 (callS (specX [tRouter, .str] (.p tI) model_Interface)) :=
  fnOk_fast (fn := Tryz.f32) (c := bodyOf Tryz.f32) (S := (((SpecsX.none U).add 63 (specA [.d tIface, .pp .str] (.p .bool) model_Interface_c1)).add 62 (specA [.d (.sl tIface), .clo 63 [(true, .str)]] (.p tI) slices_IndexFunc_Interface__c63))) (A := J_model_Interface) (tableX_add (tableX_add tableX_none (by kernel_rfl) ok_model_Interface_c1) (by kernel_rfl) ok_slices_IndexFunc_Interface__c63) (by kernel_rfl) (by kernel_rfl) (by rintro ⟨⟩ ⟨a1, a2, ⟨⟩⟩; kernel_rfl)
def J_slices_Index_End : Nat → Option JA := fun k => match k with
  | 9 => some ⟨91625948416, [], [.t 8 tI]⟩
  | 28 => some ⟨91625968896, [], []⟩
  | _ => none
theorem ok_slices_Index_End : FnOk U Tryz.prog G0 86 (callS (specX [(.sl tPorts), tPorts] (.p tI) slices_Index_End)) :=
  fnOk_fast (fn := Tryz.f86) (c := bodyOf Tryz.f86) (S := (SpecsX.none U)) (A := J_slices_Index_End) tableX_none (by kernel_rfl) (by kernel_rfl) (by rintro ⟨⟩ ⟨a1, a2, ⟨⟩⟩; kernel_rfl)
def J_slices_Contains_End : Nat → Option JA := fun _ => none
theorem ok_slices_Contains_End : FnOk U Tryz.prog G0 69 (callS (specX [(.sl tPorts), tPorts] (.p .bool) slices_Contains_End)) :=
  fnOk_fast (fn := Tryz.f69) (c := bodyOf Tryz.f69) (S := ((SpecsX.none U).add 86 (specX [(.sl tPorts), tPorts] (.p tI) slices_Index_End))) (A := J_slices_Contains_End) (tableX_add tableX_none (by kernel_rfl) ok_slices_Index_End) (by kernel_rfl) (by kernel_rfl) (by rintro ⟨⟩ ⟨a1, a2, ⟨⟩⟩; kernel_rfl)
def J_topo_Domain : Nat → Option JA := fun k => match k with
  | 13 => some ⟨24019192286875648, [], [.t 17 tI]⟩
  | 32 => some ⟨24019197991129088, [], []⟩
  | _ => none
theorem ok_topo_Domain : FnOk U Tryz.prog G0 48 (callS (specX [tView, tI, tI] (.p tI) topo_Domain)) :=
  fnOk_fast (fn := Tryz.f48) (c := bodyOf Tryz.f48) (S := ((SpecsX.none U).add 69 (specX [(.sl tPorts), tPorts] (.p .bool) slices_Contains_End))) (A := J_topo_Domain) (tableX_add tableX_none (by kernel_rfl) ok_slices_Contains_End) (by kernel_rfl) (by kernel_rfl) (by rintro ⟨⟩ ⟨a1, a2, a3, ⟨⟩⟩; kernel_rfl)
def J_slices_Index_int : Nat → Option JA := fun k => match k with
  | 9 => some ⟨91625948416, [], [.t 8 tI]⟩
  | 28 => some ⟨91625968896, [], []⟩
  | _ => none
theorem ok_slices_Index_int : FnOk U Tryz.prog G0 70 (callS (specX [(.sl tI), tI] (.p tI) slices_Index_int)) :=
  fnOk_fast (fn := Tryz.f70) (c := bodyOf Tryz.f70) (S := (SpecsX.none U)) (A := J_slices_Index_int) tableX_none (by kernel_rfl) (by kernel_rfl) (by rintro ⟨⟩ ⟨a1, a2, ⟨⟩⟩; kernel_rfl)
def J_topo_Link : Nat → Option JA := fun _ => none
theorem ok_topo_Link : FnOk U Tryz.prog G0 49 (callS (specX [tView, tI, tI] (.p tI) topo_Link)) :=
  fnOk_fast (fn := Tryz.f49) (c := bodyOf Tryz.f49) (S := (((SpecsX.none U).add 48 (specX [tView, tI, tI] (.p tI) topo_Domain)).add 70 (specX [(.sl tI), tI] (.p tI) slices_Index_int))) (A := J_topo_Link) (tableX_add (tableX_add tableX_none (by kernel_rfl) ok_topo_Domain) (by kernel_rfl) ok_slices_Index_int) (by kernel_rfl) (by kernel_rfl) (by rintro ⟨⟩ ⟨a1, a2, a3, ⟨⟩⟩; kernel_rfl)
def J_slices_Contains_int : Nat → Option JA := fun _ => none
theorem ok_slices_Contains_int : FnOk U Tryz.prog G0 50 (callS (specX [(.sl tI), tI] (.p .bool) slices_Contains_int)) :=
  fnOk_fast (fn := Tryz.f50) (c := bodyOf Tryz.f50) (S := ((SpecsX.none U).add 70 (specX [(.sl tI), tI] (.p tI) slices_Index_int))) (A := J_slices_Contains_int) (tableX_add tableX_none (by kernel_rfl) ok_slices_Index_int) (by kernel_rfl) (by kernel_rfl) (by rintro ⟨⟩ ⟨a1, a2, ⟨⟩⟩; kernel_rfl)
def J_topo_Up : Nat → Option JA := fun k => match k with
  | 18 => some ⟨1501194149171200, [], [.t 6 .bool]⟩
  | _ => none
theorem ok_topo_Up : FnOk U Tryz.prog G0 23 (callS (specX [tView, tI, tI] (.p .bool) topo_Up)) :=
  fnOk_fast (fn := Tryz.f23) (c := bodyOf Tryz.f23) (S := ((((SpecsX.none U).add 48 (specX [tView, tI, tI] (.p tI) topo_Domain)).add 49 (specX [tView, tI, tI] (.p tI) topo_Link)).add 50 (specX [(.sl tI), tI] (.p .bool) slices_Contains_int))) (A := J_topo_Up) (tableX_add (tableX_add (tableX_add tableX_none (by kernel_rfl) ok_topo_Domain) (by kernel_rfl) ok_topo_Link) (by kernel_rfl) ok_slices_Contains_int) (by kernel_rfl) (by kernel_rfl) (by rintro ⟨⟩ ⟨a1, a2, a3, ⟨⟩⟩; kernel_rfl)
def J_static_Active : Nat → Option JA := fun k => match k with
  | 6 => some ⟨93824902758400, [], [.t 23 .bool]⟩
  | 46 => some ⟨28356755737226985813038956233973825536, [], [.t 62 .bool, .o 8 8 tRoute]⟩
  | 76 => some ⟨7981747608676504470616390663246190390899243445452800, [], [.o 8 8 tRoute, .v 11 [.p tRoute]]⟩
  | 80 => some ⟨2043327387821185144477796036200411851294445257207382016, [], [.o 8 8 tRoute]⟩
  | 25 => some ⟨8173309551284740577911184144801648954704283220132823040, [], [.t 33 tI, .o 8 8 tRoute]⟩
  | 84 => some ⟨8173309551284740577911184144801648978915634816876609536, [], [.o 8 8 tRoute]⟩
  | _ => none
theorem ok_static_Active : FnOk U Tryz.prog G0 12 (callS (specX [tView, (.sl tRoute), tI] (.p (.sl tRoute)) static_Active)) :=
  fnOk_fast (fn := Tryz.f12) (c := bodyOf Tryz.f12) (S := ((((SpecsX.none U).add 15 (specX [(.sl tRoute), tPrefix, tU] (.p tI) static_Resolves)).add 32 (specX [tRouter, .str] (.p tI) model_Interface)).add 23 (specX [tView, tI, tI] (.p .bool) topo_Up))) (A := J_static_Active) (tableX_add (tableX_add (tableX_add tableX_none (by kernel_rfl) ok_static_Resolves) (by kernel_rfl) ok_model_Interface) (by kernel_rfl) ok_topo_Up) (by kernel_rfl) (by kernel_rfl) (by rintro ⟨⟩ ⟨a1, a2, a3, ⟨⟩⟩; kernel_rfl)
def J_ref15_Same : Nat → Option JA := fun k => match k with
  | 6 => some ⟨535646014752996758513987364113720867507400997927597611761664, [], [.t 99 .bool]⟩
  | 17 => some ⟨36809313849014027518232367840296815048958860317401327296272531581830400, [], [.t 5 tI]⟩
  | 32 => some ⟨36809313849014027518232367840296815048958860317401327296272531581830400, [], []⟩
  | 37 => some ⟨2529516786715442080576833017643471545091823102602734087111722013553331492167356672, [], [.t 6 tI]⟩
  | 52 => some ⟨2529516786715442080576833017643471545091823102602734087111722013553331492167356672, [], []⟩
  | _ => none
theorem ok_ref15_Same : FnOk U Tryz.prog G0 18 (callS (specX [tRoute, tRoute] (.p .bool) ref15_Same)) :=
  fnOk_fast (fn := Tryz.f18) (c := bodyOf Tryz.f18) (S := (SpecsX.none U)) (A := J_ref15_Same) tableX_none (by kernel_rfl) (by kernel_rfl) (by rintro ⟨⟩ ⟨a1, a2, ⟨⟩⟩; kernel_rfl)
def J_addr_Network : Nat → Option JA := fun _ => none
theorem ok_addr_Network : FnOk U Tryz.prog G0 24 (callS (specX [tU, tI] (.p tPrefix) addr_Network)) :=
  fnOk_fast (fn := Tryz.f24) (c := bodyOf Tryz.f24) (S := (((SpecsX.none U).add 51 (specX [tI] (.p tU) addr_Mask)).add 52 (specX [tI] (.p tI) addr_clamp))) (A := J_addr_Network) (tableX_add (tableX_add tableX_none (by kernel_rfl) ok_addr_Mask) (by kernel_rfl) ok_addr_clamp) (by kernel_rfl) (by kernel_rfl) (by rintro ⟨⟩ ⟨a1, a2, ⟨⟩⟩; kernel_rfl)
def J_cmp_isNaN_uint32 : Nat → Option JA := fun _ => none
theorem ok_cmp_isNaN_uint32 : FnOk U Tryz.prog G0 73 (callS (specX [tU] (.p .bool) cmp_isNaN_uint32)) :=
  fnOk_fast (fn := Tryz.f73) (c := bodyOf Tryz.f73) (S := (SpecsX.none U)) (A := J_cmp_isNaN_uint32) tableX_none (by kernel_rfl) (by kernel_rfl) (by rintro ⟨⟩ ⟨a1, ⟨⟩⟩; kernel_rfl)
def J_cmp_Compare_uint32 : Nat → Option JA := fun _ => none
theorem ok_cmp_Compare_uint32 : FnOk U Tryz.prog G0 54 (callS (specX [tU, tU] (.p tI) cmp_Compare_uint32)) :=
  fnOk_fast (fn := Tryz.f54) (c := bodyOf Tryz.f54) (S := ((SpecsX.none U).add 73 (specX [tU] (.p .bool) cmp_isNaN_uint32))) (A := J_cmp_Compare_uint32) (tableX_add tableX_none (by kernel_rfl) ok_cmp_isNaN_uint32) (by kernel_rfl) (by kernel_rfl) (by rintro ⟨⟩ ⟨a1, a2, ⟨⟩⟩; kernel_rfl)
def J_cmp_isNaN_int : Nat → Option JA := fun _ => none
theorem ok_cmp_isNaN_int : FnOk U Tryz.prog G0 74 (callS (specX [tI] (.p .bool) cmp_isNaN_int)) :=
  fnOk_fast (fn := Tryz.f74) (c := bodyOf Tryz.f74) (S := (SpecsX.none U)) (A := J_cmp_isNaN_int) tableX_none (by kernel_rfl) (by kernel_rfl) (by rintro ⟨⟩ ⟨a1, ⟨⟩⟩; kernel_rfl)
def J_cmp_Compare_int : Nat → Option JA := fun _ => none
theorem ok_cmp_Compare_int : FnOk U Tryz.prog G0 55 (callS (specX [tI, tI] (.p tI) cmp_Compare_int)) :=
  fnOk_fast (fn := Tryz.f55) (c := bodyOf Tryz.f55) (S := ((SpecsX.none U).add 74 (specX [tI] (.p .bool) cmp_isNaN_int))) (A := J_cmp_Compare_int) (tableX_add tableX_none (by kernel_rfl) ok_cmp_isNaN_int) (by kernel_rfl) (by kernel_rfl) (by rintro ⟨⟩ ⟨a1, a2, ⟨⟩⟩; kernel_rfl)
def J_addr_Compare : Nat → Option JA := fun _ => none
theorem ok_addr_Compare : FnOk U Tryz.prog G0 27 (callS (specX [tPrefix, tPrefix] (.p tI) addr_Compare)) :=
  fnOk_fast (fn := Tryz.f27) (c := bodyOf Tryz.f27) (S := (((SpecsX.none U).add 54 (specX [tU, tU] (.p tI) cmp_Compare_uint32)).add 55 (specX [tI, tI] (.p tI) cmp_Compare_int))) (A := J_addr_Compare) (tableX_add (tableX_add tableX_none (by kernel_rfl) ok_cmp_Compare_uint32) (by kernel_rfl) ok_cmp_Compare_int) (by kernel_rfl) (by kernel_rfl) (by rintro ⟨⟩ ⟨a1, a2, ⟨⟩⟩; kernel_rfl)
def J_static_Connected_c1 : Nat → Option JA := fun _ => none
theorem ok_static_Connected_c1 : FnOk U Tryz.prog G0 26 (callS (specX [tRoute, tRoute] (.p tI) static_Connected_c1)) :=
  fnOk_fast (fn := Tryz.f26) (c := bodyOf Tryz.f26) (S := ((SpecsX.none U).add 27 (specX [tPrefix, tPrefix] (.p tI) addr_Compare))) (A := J_static_Connected_c1) (tableX_add tableX_none (by kernel_rfl) ok_addr_Compare) (by kernel_rfl) (by kernel_rfl) (by rintro ⟨⟩ ⟨a1, a2, ⟨⟩⟩; kernel_rfl)
def J_slices_insertionSortCmpFunc_Route : Nat → Option JA := fun k => match k with
  | 18 => some ⟨393530540216230608896, [], [.t 34 .bool, .o 0 1000000 tRoute]⟩
  | 17 => some ⟨27043212804868893898573428817921, [], [.t 9 tI, .o 0 1000000 tRoute]⟩
  | 8 => some ⟨27043212804868893898590608687105, [], [.o 0 1000000 tRoute]⟩
  | 5 => some ⟨27043212804868893898596329783297, [], [.t 8 tI, .o 0 1000000 tRoute]⟩
  | 27 => some ⟨0, [(229376, 28, 0)], []⟩
  | _ => none
theorem ok_slices_insertionSortCmpFunc_Route : FnOkB U Tryz.prog G0 71 tRoute (decA [.d tI, .d tI, .clo 26 []]) (.tu []) slices_insertionSortCmpFunc_Route :=
  fnOk_fastB (fn := Tryz.f71) (c := bodyOf Tryz.f71) (S := ((SpecsX.none U).add 26 (specX [tRoute, tRoute] (.p tI) static_Connected_c1))) (A := J_slices_insertionSortCmpFunc_Route) (tableX_add tableX_none (by kernel_rfl) ok_static_Connected_c1) (by kernel_rfl) (by kernel_rfl) (by kernel_rfl) (by intro ty h; cases h) (by rintro ⟨⟩ a0 ⟨a1, a2, ⟨⟩, ⟨⟩⟩; kernel_rfl)
theorem ok_slices_symMergeCmpFunc_Route : FnOkB U Tryz.prog G0 72 tRoute (decA [.d tI, .d tI, .d tI, .clo 26 []]) (.tu []) slices_symMergeCmpFunc_Route := fun _ _ _ _ _ _ _ h => by cases h
def J_slices_stableCmpFunc_Route : Nat → Option JA := fun k => match k with
  | 9 => some ⟨23456246743040, [], [.t 8 tI, .o 0 1000000 tRoute, .t 7 tI]⟩
  | 24 => some ⟨23456246743041, [], [.o 0 1000000 tRoute, .t 7 tI]⟩
  | 37 => some ⟨105637549994423458026445946880, [], [.t 8 tI, .o 0 1000000 tRoute, .t 7 tI]⟩
  | 52 => some ⟨105637549994423458026445946881, [], [.t 7 tI, .o 0 1000000 tRoute]⟩
  | 64 => some ⟨1772303888742337811519292622315454464, [], [.o 0 1000000 tRoute]⟩
  | 29 => some ⟨28356863910078205288590531421301723137, [], [.t 6 tI, .o 0 1000000 tRoute]⟩
  | _ => none
theorem ok_slices_stableCmpFunc_Route : FnOkB U Tryz.prog G0 53 tRoute (decA [.d tI, .clo 26 []]) (.tu []) slices_stableCmpFunc_Route :=
  fnOk_fastB (fn := Tryz.f53) (c := bodyOf Tryz.f53) (S := ((((SpecsX.none U).addB 71 (specBor tRoute (decA [.d tI, .d tI, .clo 26 []]) (.tu []) slices_insertionSortCmpFunc_Route)).addB 72 (specBor tRoute (decA [.d tI, .d tI, .d tI, .clo 26 []]) (.tu []) slices_symMergeCmpFunc_Route)).add 26 (specX [tRoute, tRoute] (.p tI) static_Connected_c1))) (A := J_slices_stableCmpFunc_Route) (tableX_add (tableX_addB (tableX_addB tableX_none (by kernel_rfl) ok_slices_insertionSortCmpFunc_Route) (by kernel_rfl) ok_slices_symMergeCmpFunc_Route) (by kernel_rfl) ok_static_Connected_c1) (by kernel_rfl) (by kernel_rfl) (by kernel_rfl) (by intro ty h; cases h) (by rintro ⟨⟩ a0 ⟨a1, ⟨⟩, ⟨⟩⟩; kernel_rfl)
def J_slices_SortStableFunc_Route : Nat → Option JA := fun _ => none
theorem ok_slices_SortStableFunc_Route : FnOkB U Tryz.prog G0 25 tRoute (decA [.clo 26 []]) (.tu []) slices_SortStableFunc_Route :=
  fnOk_fastB (fn := Tryz.f25) (c := bodyOf Tryz.f25) (S := (((SpecsX.none U).addB 53 (specBor tRoute (decA [.d tI, .clo 26 []]) (.tu []) slices_stableCmpFunc_Route)).add 26 (specX [tRoute, tRoute] (.p tI) static_Connected_c1))) (A := J_slices_SortStableFunc_Route) (tableX_add (tableX_addB tableX_none (by kernel_rfl) ok_slices_stableCmpFunc_Route) (by kernel_rfl) ok_static_Connected_c1) (by kernel_rfl) (by kernel_rfl) (by kernel_rfl) (by intro ty h; cases h) (by rintro ⟨⟩ a0 ⟨⟨⟩, ⟨⟩⟩; kernel_rfl)
def J_static_Connected : Nat → Option JA := fun k => match k with
  | 6 => some ⟨22906470400, [], [.t 17 .bool]⟩
  | 36 => some ⟨6602346876164675601449407488, [], [.o 5 5 tRoute]⟩
  | 21 => some ⟨26409387504753277997972247552, [], [.t 26 tI, .o 5 5 tRoute]⟩
  | 40 => some ⟨26409387504754779174941545472, [], [.o 5 5 tRoute]⟩
  | _ => none
theorem ok_static_Connected : FnOk U Tryz.prog G0 10 (callS (specX [tView, tI] (.p (.sl tRoute)) static_Connected)) :=
  fnOk_fast (fn := Tryz.f10) (c := bodyOf Tryz.f10) (S := (((((SpecsX.none U).add 23 (specX [tView, tI, tI] (.p .bool) topo_Up)).add 24 (specX [tU, tI] (.p tPrefix) addr_Network)).addB 25 (specBor tRoute (decA [.clo 26 []]) (.tu []) slices_SortStableFunc_Route)).add 26 (specX [tRoute, tRoute] (.p tI) static_Connected_c1))) (A := J_static_Connected) (tableX_add (tableX_addB (tableX_add (tableX_add tableX_none (by kernel_rfl) ok_topo_Up) (by kernel_rfl) ok_addr_Network) (by kernel_rfl) ok_slices_SortStableFunc_Route) (by kernel_rfl) ok_static_Connected_c1) (by kernel_rfl) (by kernel_rfl) (by rintro ⟨⟩ ⟨a1, a2, ⟨⟩⟩; kernel_rfl)
def J_ref20_router : Nat → Option JA := fun k => match k with
  | 6 => some ⟨357913856, [], [.t 4 .bool]⟩
  | _ => none
theorem ok_ref20_router : FnOk U Tryz.prog G0 28 (callS (specX [tView, tI] (.p .bool) ref20_router)) :=
  fnOk_fast (fn := Tryz.f28) (c := bodyOf Tryz.f28) (S := (SpecsX.none U)) (A := J_ref20_router) tableX_none (by kernel_rfl) (by kernel_rfl) (by rintro ⟨⟩ ⟨a1, a2, ⟨⟩⟩; kernel_rfl)
def J_ref15_Domain : Nat → Option JA := fun k => match k with
  | 21 => some ⟨103161669940448350515040256, [], [.t 8 tI]⟩
  | 12 => some ⟨103161669940448350515040256, [], []⟩
  | 9 => some ⟨103161669940448356241592320, [], [.t 7 tI]⟩
  | 36 => some ⟨103161669940448356241592320, [], []⟩
  | _ => none
theorem ok_ref15_Domain : FnOk U Tryz.prog G0 56 (callS (specX [tView, tI, tI] (.p tI) ref15_Domain)) :=
  fnOk_fast (fn := Tryz.f56) (c := bodyOf Tryz.f56) (S := (SpecsX.none U)) (A := J_ref15_Domain) tableX_none (by kernel_rfl) (by kernel_rfl) (by rintro ⟨⟩ ⟨a1, a2, a3, ⟨⟩⟩; kernel_rfl)
def J_ref15_Link : Nat → Option JA := fun k => match k with
  | 22 => some ⟨24595657298930565120, [], [.t 32 .bool]⟩
  | 13 => some ⟨98382635059761975296, [], [.t 8 tI]⟩
  | 28 => some ⟨98382635059761975296, [], []⟩
  | _ => none
theorem ok_ref15_Link : FnOk U Tryz.prog G0 57 (callS (specX [tView, tI, tI] (.p tI) ref15_Link)) :=
  fnOk_fast (fn := Tryz.f57) (c := bodyOf Tryz.f57) (S := ((SpecsX.none U).add 56 (specX [tView, tI, tI] (.p tI) ref15_Domain))) (A := J_ref15_Link) (tableX_add tableX_none (by kernel_rfl) ok_ref15_Domain) (by kernel_rfl) (by kernel_rfl) (by rintro ⟨⟩ ⟨a1, a2, a3, ⟨⟩⟩; kernel_rfl)
def J_ref15_Up : Nat → Option JA := fun k => match k with
  | 21 => some ⟨6148914668330094592, [], [.t 8 tI]⟩
  | 36 => some ⟨6148914668330094592, [], []⟩
  | _ => none
theorem ok_ref15_Up : FnOk U Tryz.prog G0 29 (callS (specX [tView, tI, tI] (.p .bool) ref15_Up)) :=
  fnOk_fast (fn := Tryz.f29) (c := bodyOf Tryz.f29) (S := (((SpecsX.none U).add 56 (specX [tView, tI, tI] (.p tI) ref15_Domain)).add 57 (specX [tView, tI, tI] (.p tI) ref15_Link))) (A := J_ref15_Up) (tableX_add (tableX_add tableX_none (by kernel_rfl) ok_ref15_Domain) (by kernel_rfl) ok_ref15_Link) (by kernel_rfl) (by kernel_rfl) (by rintro ⟨⟩ ⟨a1, a2, a3, ⟨⟩⟩; kernel_rfl)
def J_ref20_network : Nat → Option JA := fun _ => none
theorem ok_ref20_network : FnOk U Tryz.prog G0 30 (callS (specX [tView, tI, tI] (.p tPrefix) ref20_network)) :=
  fnOk_fast (fn := Tryz.f30) (c := bodyOf Tryz.f30) (S := ((SpecsX.none U).add 58 (specX [tU, tI] (.p tPrefix) ref4_Network))) (A := J_ref20_network) (tableX_add tableX_none (by kernel_rfl) ok_ref4_Network) (by kernel_rfl) (by kernel_rfl) (by rintro ⟨⟩ ⟨a1, a2, a3, ⟨⟩⟩; kernel_rfl)
def J_ref15_prefixes : Nat → Option JA := fun k => match k with
  | 26 => some ⟨96076792044978176, [], [.t 28 .bool, .o 3 3 tPrefix]⟩
  | 25 => some ⟨1537228672803537984, [], [.t 5 tI, .o 3 3 tPrefix]⟩
  | 32 => some ⟨1537228672803537984, [], [.t 5 tI, .o 3 3 tPrefix]⟩
  | 34 => some ⟨6602346874651466126652866560, [], [.t 46 .bool, .o 3 3 tPrefix]⟩
  | 16 => some ⟨28356863910078205288614550619308426304, [], [.o 3 3 tPrefix]⟩
  | 13 => some ⟨28356863910078205288614550619314017600, [], [.t 4 tI, .o 3 3 tPrefix]⟩
  | 40 => some ⟨28356863910078205288614550619314017600, [], [.o 3 3 tPrefix]⟩
  | 39 => some ⟨0, [(100368, 30688, 0), (3, 0, 0), (51, 3, 1)], []⟩
  | _ => none
theorem ok_ref15_prefixes : FnOk U Tryz.prog G0 59 (callS (specX [(.sl tRoute)] (.p (.sl tPrefix)) ref15_prefixes)) :=
  fnOk_fast (fn := Tryz.f59) (c := bodyOf Tryz.f59) (S := ((SpecsX.none U).add 22 (specX [tPrefix, tPrefix] (.p tI) ref4_Compare))) (A := J_ref15_prefixes) (tableX_add tableX_none (by kernel_rfl) ok_ref4_Compare) (by kernel_rfl) (by kernel_rfl) (by rintro ⟨⟩ ⟨a1, ⟨⟩⟩; kernel_rfl)
def J_ref15_rank : Nat → Option JA := fun _ => none
theorem ok_ref15_rank : FnOk U Tryz.prog G0 75 (callS (specX [tRoute] (.p (.pair tI (.pair tI (.pair tI (.pair tI (.pair tI tPorts)))))) ref15_rank)) :=
  fnOk_fast (fn := Tryz.f75) (c := bodyOf Tryz.f75) (S := (SpecsX.none U)) (A := J_ref15_rank) tableX_none (by kernel_rfl) (by kernel_rfl) (by rintro ⟨⟩ ⟨a1, ⟨⟩⟩; kernel_rfl)
def J_ref15_Prefer : Nat → Option JA := fun k => match k with
  | 36 => some ⟨384307168196706304, [], []⟩
  | _ => none
theorem ok_ref15_Prefer : FnOk U Tryz.prog G0 60 (callS (specX [tRoute, tRoute] (.p tI) ref15_Prefer)) :=
  fnOk_fast (fn := Tryz.f60) (c := bodyOf Tryz.f60) (S := ((SpecsX.none U).add 75 (specX [tRoute] (.p (.pair tI (.pair tI (.pair tI (.pair tI (.pair tI tPorts)))))) ref15_rank))) (A := J_ref15_Prefer) (tableX_add tableX_none (by kernel_rfl) ok_ref15_rank) (by kernel_rfl) (by kernel_rfl) (by rintro ⟨⟩ ⟨a1, a2, ⟨⟩⟩; kernel_rfl)
def J_ref15_addHop : Nat → Option JA := fun k => match k with
  | 10 => some ⟨22906490880, [], [.t 17 .bool]⟩
  | 9 => some ⟨366503875584, [], [.t 5 tI]⟩
  | 16 => some ⟨366503875584, [], [.t 5 tI]⟩
  | 18 => some ⟨6148914324732641280, [], [.t 31 .bool]⟩
  | 27 => some ⟨0, [(6288, 1888, 0)], []⟩
  | _ => none
theorem ok_ref15_addHop : FnOk U Tryz.prog G0 76 (callS (specX [(.sl tHop), tHop] (.p (.sl tHop)) ref15_addHop)) :=
  fnOk_fast (fn := Tryz.f76) (c := bodyOf Tryz.f76) (S := ((SpecsX.none U).add 67 (specX [tHop, tHop] (.p .bool) ref15_lessHop))) (A := J_ref15_addHop) (tableX_add tableX_none (by kernel_rfl) ok_ref15_lessHop) (by kernel_rfl) (by kernel_rfl) (by rintro ⟨⟩ ⟨a1, a2, ⟨⟩⟩; kernel_rfl)
def J_ref15_AddHops : Nat → Option JA := fun k => match k with
  | 9 => some ⟨22906491905, [], [.t 5 tI, .t 0 (.sl tHop)]⟩
  | 20 => some ⟨22906491905, [], [.t 0 (.sl tHop)]⟩
  | _ => none
theorem ok_ref15_AddHops : FnOk U Tryz.prog G0 61 (callS (specX [(.sl tHop), (.sl tHop)] (.p (.sl tHop)) ref15_AddHops)) :=
  fnOk_fast (fn := Tryz.f61) (c := bodyOf Tryz.f61) (S := ((SpecsX.none U).add 76 (specX [(.sl tHop), tHop] (.p (.sl tHop)) ref15_addHop))) (A := J_ref15_AddHops) (tableX_add tableX_none (by kernel_rfl) ok_ref15_addHop) (by kernel_rfl) (by kernel_rfl) (by rintro ⟨⟩ ⟨a1, a2, ⟨⟩⟩; kernel_rfl)
def J_ref15_Merge : Nat → Option JA := fun k => match k with
  | 42 => some ⟨422550200076076373340575498240, [], [.t 49 .bool, .o 4 4 tRoute]⟩
  | 36 => some ⟨1690200800304305774837278707968, [], [.t 6 tI, .o 4 4 tRoute]⟩
  | 33 => some ⟨1690200800304305868639364468992, [], [.t 7 tI, .t 6 tI, .o 4 4 tRoute]⟩
  | 48 => some ⟨1690200800304305868639364468992, [], [.t 6 tI, .o 4 4 tRoute]⟩
  | 74 => some ⟨127707961738816812172701272241971879976603049126789120, [], [.t 88 .bool, .o 4 4 tRoute, .v 8 [.p tU, .p tI, .p tI, .p tI, .p tI, .p tI, .p tI, .p tI, .p tI, .o 58 tI, .p tU, .p tU, .p (.sl tHop), .p .bool]]⟩
  | 68 => some ⟨33477875922062297399864853096127533665327237411930462355712, [], [.o 4 4 tRoute, .v 8 [.p tU, .p tI, .p tI, .p tI, .p tI, .p tI, .p tI, .p tI, .p tI, .o 58 tI, .p tU, .p tU, .p (.sl tHop), .p .bool]]⟩
  | 65 => some ⟨33477875922062297407122437953113174331382023961061144002816, [], [.t 9 tI, .o 4 4 tRoute, .v 8 [.p tU, .p tI, .p tI, .p tI, .p tI, .p tI, .p tI, .p tI, .p tI, .o 58 tI, .p tU, .p tU, .p (.sl tHop), .p .bool]]⟩
  | 80 => some ⟨33477875922062297407122437953113174331382023961061144002816, [], [.o 4 4 tRoute, .v 8 [.p tU, .p tI, .p tI, .p tI, .p tI, .p tI, .p tI, .p tI, .p tI, .o 58 tI, .p tU, .p tU, .p (.sl tHop), .p .bool]]⟩
  | 20 => some ⟨8570336236047948136223797825819533880118415966841538882261248, [], [.o 4 4 tRoute]⟩
  | 17 => some ⟨8570336236047948136223797825819533880118415966841561783162112, [], [.t 5 tI, .o 4 4 tRoute]⟩
  | 84 => some ⟨8570336236047948136223797825819533880118415966841561783162112, [], [.o 4 4 tRoute]⟩
  | _ => none
theorem ok_ref15_Merge : FnOk U Tryz.prog G0 31 (callS (specX [(.sl tRoute)] (.p (.sl tRoute)) ref15_Merge)) :=
  fnOk_fast (fn := Tryz.f31) (c := bodyOf Tryz.f31) (S := ((((SpecsX.none U).add 59 (specX [(.sl tRoute)] (.p (.sl tPrefix)) ref15_prefixes)).add 60 (specX [tRoute, tRoute] (.p tI) ref15_Prefer)).add 61 (specX [(.sl tHop), (.sl tHop)] (.p (.sl tHop)) ref15_AddHops))) (A := J_ref15_Merge) (tableX_add (tableX_add (tableX_add tableX_none (by kernel_rfl) ok_ref15_prefixes) (by kernel_rfl) ok_ref15_Prefer) (by kernel_rfl) ok_ref15_AddHops) (by kernel_rfl) (by kernel_rfl) (by rintro ⟨⟩ ⟨a1, ⟨⟩⟩; kernel_rfl)
def J_ref20_Connected : Nat → Option JA := fun k => match k with
  | 14 => some ⟨5864062009344, [], [.t 21 .bool, .o 5 5 tRoute]⟩
  | 16 => some ⟨100743818207394105656320, [], [.o 5 5 tRoute]⟩
  | 13 => some ⟨100743818301219097891840, [], [.t 6 tI, .o 5 5 tRoute]⟩
  | 28 => some ⟨100743818301219097891840, [], [.o 5 5 tRoute]⟩
  | _ => none
theorem ok_ref20_Connected : FnOk U Tryz.prog G0 11 (callS (specX [tView, tI] (.p (.sl tRoute)) ref20_Connected)) :=
  fnOk_fast (fn := Tryz.f11) (c := bodyOf Tryz.f11) (S := (((((SpecsX.none U).add 28 (specX [tView, tI] (.p .bool) ref20_router)).add 29 (specX [tView, tI, tI] (.p .bool) ref15_Up)).add 30 (specX [tView, tI, tI] (.p tPrefix) ref20_network)).add 31 (specX [(.sl tRoute)] (.p (.sl tRoute)) ref15_Merge))) (A := J_ref20_Connected) (tableX_add (tableX_add (tableX_add (tableX_add tableX_none (by kernel_rfl) ok_ref20_router) (by kernel_rfl) ok_ref15_Up) (by kernel_rfl) ok_ref20_network) (by kernel_rfl) ok_ref15_Merge) (by kernel_rfl) (by kernel_rfl) (by rintro ⟨⟩ ⟨a1, a2, ⟨⟩⟩; kernel_rfl)
def J_ref15_SameAll : Nat → Option JA := fun k => match k with
  | 17 => some ⟨6004799501763840, [], [.t 5 tI]⟩
  | 32 => some ⟨6004799501763840, [], []⟩
  | _ => none
theorem ok_ref15_SameAll : FnOk U Tryz.prog G0 9 (callS (specX [(.sl tRoute), (.sl tRoute)] (.p .bool) ref15_SameAll)) :=
  fnOk_fast (fn := Tryz.f9) (c := bodyOf Tryz.f9) (S := ((SpecsX.none U).add 18 (specX [tRoute, tRoute] (.p .bool) ref15_Same))) (A := J_ref15_SameAll) (tableX_add tableX_none (by kernel_rfl) ok_ref15_Same) (by kernel_rfl) (by kernel_rfl) (by rintro ⟨⟩ ⟨a1, a2, ⟨⟩⟩; kernel_rfl)
def J_ref20_Resolves : Nat → Option JA := fun k => match k with
  | 22 => some ⟨422550200076076467165209821184, [], [.t 49 .bool]⟩
  | 16 => some ⟨1690200800304305868661913042944, [], [.t 7 tI]⟩
  | 13 => some ⟨1690200800304305868662270935040, [], [.t 8 tI, .t 7 tI]⟩
  | 28 => some ⟨1690200800304305868662270935040, [], [.t 7 tI]⟩
  | _ => none
theorem ok_ref20_Resolves : FnOk U Tryz.prog G0 16 (callS (specX [(.sl tRoute), tPrefix, tU] (.p tI) ref20_Resolves)) :=
  fnOk_fast (fn := Tryz.f16) (c := bodyOf Tryz.f16) (S := ((SpecsX.none U).add 17 (specX [tPrefix, tU] (.p .bool) ref4_Contains))) (A := J_ref20_Resolves) (tableX_add tableX_none (by kernel_rfl) ok_ref4_Contains) (by kernel_rfl) (by kernel_rfl) (by rintro ⟨⟩ ⟨a1, a2, a3, ⟨⟩⟩; kernel_rfl)
def J_ref20_Active : Nat → Option JA := fun k => match k with
  | 50 => some ⟨453708091795631773008623299743581208576, [], [.t 64 .bool, .o 7 7 tRoute]⟩
  | 52 => some ⟨453709822554648937741644115109579079680, [], [.o 7 7 tRoute]⟩
  | 68 => some ⟨1948668849320827401710328492337211216298961272832, [], [.o 7 7 tRoute, .v 11 [.p tRoute]]⟩
  | 28 => some ⟨498859225542281529413524422900489733480552265170944, [], [.o 7 7 tRoute]⟩
  | 25 => some ⟨498859225542281529413524422900491270615400082325504, [], [.t 9 tI, .o 7 7 tRoute]⟩
  | 72 => some ⟨498859225542281529413524422900491270615400082325504, [], [.o 7 7 tRoute]⟩
  | _ => none
theorem ok_ref20_Active : FnOk U Tryz.prog G0 13 (callS (specX [tView, (.sl tRoute), tI] (.p (.sl tRoute)) ref20_Active)) :=
  fnOk_fast (fn := Tryz.f13) (c := bodyOf Tryz.f13) (S := (((((SpecsX.none U).add 28 (specX [tView, tI] (.p .bool) ref20_router)).add 16 (specX [(.sl tRoute), tPrefix, tU] (.p tI) ref20_Resolves)).add 33 (specX [tRouter, .str] (.p tI) ref8_Interface)).add 29 (specX [tView, tI, tI] (.p .bool) ref15_Up))) (A := J_ref20_Active) (tableX_add (tableX_add (tableX_add (tableX_add tableX_none (by kernel_rfl) ok_ref20_router) (by kernel_rfl) ok_ref20_Resolves) (by kernel_rfl) ok_ref8_Interface) (by kernel_rfl) ok_ref15_Up) (by kernel_rfl) (by kernel_rfl) (by rintro ⟨⟩ ⟨a1, a2, a3, ⟨⟩⟩; kernel_rfl)

end Go.Ve

namespace Go.Ve
open Go Go.Proofs
set_option maxRecDepth 1000000
set_option maxHeartbeats 0
def J_law18_StaticRoutes : Nat → Option JA := fun k => match k with
  | 10 => some ⟨24019196580986880, [], [.t 27 .bool]⟩
  | 30 => some ⟨432691404877508771837302223667200, [], [.t 54 .bool]⟩
  | 21 => some ⟨432691404877902278358343348391936, [], [.t 9 tI]⟩
  | 36 => some ⟨432691404877902278358343348391936, [], []⟩
  | _ => none
theorem ok_law18_StaticRoutes : FnOk U Tryz.prog G0 3 (callS (specX [tNetwork, (.sl tI), (.sl tRoute)] (.p .bool) law18_StaticRoutes)) :=
  fnOk_fast (fn := Tryz.f3) (c := bodyOf Tryz.f3) (S := (((((((((SpecsX.none U).add 7 (specX [tNetwork, (.sl tI)] (.tu [tView, .bool]) law13_View)).add 8 (specX [(.sl tRoute), tI] (.p .bool) ref15_Table)).add 10 (specX [tView, tI] (.p (.sl tRoute)) static_Connected)).add 11 (specX [tView, tI] (.p (.sl tRoute)) ref20_Connected)).add 9 (specX [(.sl tRoute), (.sl tRoute)] (.p .bool) ref15_SameAll)).add 12 (specX [tView, (.sl tRoute), tI] (.p (.sl tRoute)) static_Active)).add 13 (specX [tView, (.sl tRoute), tI] (.p (.sl tRoute)) ref20_Active)).add 14 (specX [] (.p .bool) law18_sane))) (A := J_law18_StaticRoutes) (tableX_add (tableX_add (tableX_add (tableX_add (tableX_add (tableX_add (tableX_add (tableX_add tableX_none (by kernel_rfl) ok_law13_View) (by kernel_rfl) ok_ref15_Table) (by kernel_rfl) ok_static_Connected) (by kernel_rfl) ok_ref20_Connected) (by kernel_rfl) ok_ref15_SameAll) (by kernel_rfl) ok_static_Active) (by kernel_rfl) ok_ref20_Active) (by kernel_rfl) ok_law18_sane) (by kernel_rfl) (by kernel_rfl) (by rintro ⟨⟩ ⟨a1, a2, a3, ⟨⟩⟩; kernel_rfl)

end Go.Ve

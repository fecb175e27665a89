/-
  law17 and law20: the program's tables.
  Functions out of code, over the fast tables.
  Contracts of the functions of NvF1.
  Contracts of the functions of NvF2.
  Contracts of the functions of NvF3.
-/
import Derived.Test.YtcnlcmbchljpgaaGreatProg
import Derived.Test.YtcnlcmbchljpgaaGreatQg10
import Derived.Test.YtcnlcmbchljpgaaGreatQg7
import Derived.Test.YtcnlcmbchljpgaaGreatQg11
import Derived.Test.YtcnlcmbchljpgaaGreatQg13
import Derived.Test.YtcnlcmbchljpgaaGreatQg12
set_option linter.unusedVariables false
namespace Go.Ve
open Go Go.Proofs
noncomputable abbrev LF : jC := jC.fast Tryz.prog 330 310
def G0 : Nat → Option (List V) := fun _ => none
abbrev U := jB
abbrev vA (f : Func) : Code := match f.body with | some c => c | none => .skip
theorem mixed : Tryz.prog.follows .mixedOrders = true := by kernel_rfl
end Go.Ve

namespace Go.Ve
open Go Go.Proofs
instance : Subsingleton U.St := inferInstanceAs (Subsingleton Unit)
theorem zTf {S : zQ U} {A : Nat → Option JA} (hS : qC U Tryz.prog G0 S.toS) {f : FuncId} {fn : Func} {c : Code} (hf : LF.fn f = some fn) (hb : fn.body = some c)
  {ts : List Ty} {R : RTy} {g : ElS ts → Option R.El} (h : ∀ s x, exF (Γ := U) LF G0 S A fn c R s (vD ts x) = g x) : j6 U Tryz.prog G0 f (qG (jM ts R g)) := by
 have hl : LF = jC.of Tryz.prog := jC.fast_eq Tryz.prog 330 310
 rw [hl] at hf h
 exact zUP mixed hS hf hb h
theorem zRs {S : zQ U} {A : Nat → Option JA} (hS : qC U Tryz.prog G0 S.toS) {f : FuncId} {fn : Func} {c : Code} (hf : LF.fn f = some fn) (hb : fn.body = some c)
  {ts : List ATy} {R : RTy} {g : ElA ts → Option R.El} (h : ∀ s x, exF (Γ := U) LF G0 S A fn c R s (zTu ts x) = g x) : j6 U Tryz.prog G0 f (qG (zT2 ts R g)) := by
 have hl : LF = jC.of Tryz.prog := jC.fast_eq Tryz.prog 330 310
 rw [hl] at hf h
 exact zUR mixed hS hf hb h
theorem zA6 {S : zQ U} {A : Nat → Option JA} (hS : qC U Tryz.prog G0 S.toS) {f : FuncId} {fn : Func} {c : Code} (hf : LF.fn f = some fn) (hb : fn.body = some c)
  {X : Type} {dec : List V → Option X} {enc : X → List V} (hdec : ∀ ds x, dec ds = some x → j5 ds (enc x)) {R : RTy} {g : X → Option R.El} (h : ∀ s x, exF (Γ := U) LF G0 S A fn c R s (enc x) = g x) : j6 U Tryz.prog G0 f (qG (wH dec R g)) := by
 have hl : LF = jC.of Tryz.prog := jC.fast_eq Tryz.prog 330 310
 rw [hl] at hf h
 exact zLM mixed hS hf hb hdec h
theorem wM {S : zQ U} {A : Nat → Option JA} (hS : qC U Tryz.prog G0 S.toS) {f : FuncId} {fn : Func} {c : Code} (hf : LF.fn f = some fn) (hb : fn.body = some c)
  {t : Ty} {ts : List ATy} {R : RTy} (hpl : R.pl = true) (hno : ∀ ty, R ≠ .o ty) {g : List t.El → ElA ts → Option (List t.El × R.El)} (h : ∀ s xs x, zWZ (Γ := U) LF G0 S A fn c t R s xs (zTu ts x) = g xs x) : zAn U Tryz.prog G0 f t (uG ts) R g := by
 have hl : LF = jC.of Tryz.prog := jC.fast_eq Tryz.prog 330 310
 rw [hl] at hf h
 exact zUQ mixed hS hf hb (zHd ts) hpl hno h
theorem zRr {tE : Ty} {S : zQ (jL tE)} {A : Nat → Option JA} (hst : ∀ k j, A k = some j → zDp j.sl = true) (hS : qC (jL tE) Tryz.prog G0 S.toS) {f : FuncId} {fn : Func} {c : Code} (hf : LF.fn f = some fn) (hb : fn.body = some c)
  {ts : List Ty} {R : RTy} {g : HSt tE → ElS ts → Option (HSt tE × R.El)} (h : ∀ s x, zWY (Γ := jL tE) LF G0 S A fn c R s (vD ts x) = g s x) : j6 (jL tE) Tryz.prog G0 f (qG (zJE (zCx ts) R g)) := by
 have hl : LF = jC.of Tryz.prog := jC.fast_eq Tryz.prog 330 310
 rw [hl] at hf h
 exact zUO hst mixed hS hf hb (w9 ts) h
structure Ent where
 ad : zQ U → zQ U
 ok : ∀ S : zQ U, qC U Tryz.prog G0 S.toS → qC U Tryz.prog G0 (ad S).toS
def qF {f : FuncId} {sp : U.St → List V → Option (zDz U.St)} (hi : zKo Tryz.prog f = true) (h : j6 U Tryz.prog G0 f (qG sp)) : Ent := ⟨fun S => S.add f sp, fun _ hS => qQ hS hi h⟩
def zW1 {f : FuncId} {t : Ty} {X : Type} {dec : List V → Option X} {R : RTy} {g : List t.El → X → Option (List t.El × R.El)} (hi : zKo Tryz.prog f = true) (h : zAn U Tryz.prog G0 f t dec R g) : Ent := ⟨fun S => S.addB f (wK t dec R g), fun _ hS => jP hS hi h⟩
def zXM {f : FuncId} {t : Ty} {X : Type} {dec : List V → Option X} {g : List t.El → X → Option (List t.El)} (hi : zKo Tryz.prog f = true) (h : zSI U Tryz.prog G0 f t dec g) : Ent := ⟨fun S => S.addB f (zCD t dec g), fun _ hS => zPc hS hi h⟩
def zV7 : List Ent → zQ U
 | [] => zQ.none U
 | e :: r => e.ad (zV7 r)
theorem zOE : ∀ l, qC U Tryz.prog G0 (zV7 l).toS
 | [] => qA
 | e :: r => e.ok _ (zOE r)
abbrev OkX (f : FuncId) (ts : List Ty) (R : RTy) (g : ElS ts → Option R.El) : Prop := j6 U Tryz.prog G0 f (qG (jM ts R g))
abbrev OkA (f : FuncId) (ts : List ATy) (R : RTy) (g : ElA ts → Option R.El) : Prop := j6 U Tryz.prog G0 f (qG (zT2 ts R g))
theorem fX (l : List Ent) {A : Nat → Option JA} {f : FuncId} {fn : Func} (hf : LF.fn f = some fn) (hb : fn.body = some (vA fn))
  {ts : List Ty} {R : RTy} {g : ElS ts → Option R.El} (h : ∀ s x, exF (Γ := U) LF G0 (zV7 l) A fn (vA fn) R s (vD ts x) = g x) : OkX f ts R g := zTf (zOE l) hf hb h
theorem fA (l : List Ent) {A : Nat → Option JA} {f : FuncId} {fn : Func} (hf : LF.fn f = some fn) (hb : fn.body = some (vA fn))
  {ts : List ATy} {R : RTy} {g : ElA ts → Option R.El} (h : ∀ s x, exF (Γ := U) LF G0 (zV7 l) A fn (vA fn) R s (zTu ts x) = g x) : OkA f ts R g := zRs (zOE l) hf hb h
def jj (k b : Nat) (l : List (Nat × Nat × Nat)) (s : List zAp) : Nat × JA := (k, ⟨b, l, s⟩)
def jl : List (Nat × JA) → Nat → Option JA
 | [], _ => none
 | (a, j) :: r, k => match Nat.beq a k with
  | true => some j
  | false => jl r k
end Go.Ve

namespace Go.Ve
open Go Go.Proofs
set_option maxRecDepth 1000000
set_option maxHeartbeats 0
theorem zOn : OkX 128 [tI] (.p tU) zAf := fX [] (A := (jl [jj 16 22906404928 [] [.t 3 tU], jj 13 22906492224 [] [.t 4 tI, .t 3 tU], jj 28 22906492224 [] [.t 3 tU]])) (fn := Tryz.f128) (by kernel_rfl) (by kernel_rfl) (by rintro ⟨⟩ ⟨a1, ⟨⟩⟩; kernel_rfl)
noncomputable def zFp : Ent := qF (by kernel_rfl) zOn
theorem zMK : OkX 71 [zG] (.p .bool) j8 := fX [zFp] (A := (jl [jj 6 366503875920 [] [.t 2 .bool]])) (fn := Tryz.f71) (by kernel_rfl) (by kernel_rfl) (by rintro ⟨⟩ ⟨a1, ⟨⟩⟩; kernel_rfl)
noncomputable def zAK : Ent := qF (by kernel_rfl) zMK
theorem zI0 : OkX 101 [zG, tU] (.p .bool) uP := fX [zFp] (A := fun _ => none) (fn := Tryz.f101) (by kernel_rfl) (by kernel_rfl) (by rintro ⟨⟩ ⟨a1, a2, ⟨⟩⟩; kernel_rfl)
noncomputable def zKy : Ent := qF (by kernel_rfl) zI0
theorem zLo : OkX 44 [zG, zG] (.p .bool) u6 := fX [zKy] (A := (jl [jj 6 1431655680 [] [.t 4 .bool]])) (fn := Tryz.f44) (by kernel_rfl) (by kernel_rfl) (by rintro ⟨⟩ ⟨a1, a2, ⟨⟩⟩; kernel_rfl)
noncomputable def zM0 : Ent := qF (by kernel_rfl) zLo
theorem zGP : OkX 64 [zH, .str] (.p tI) wL := fX [] (A := (jl [jj 9 5864062014720 [] [.t 5 tI], jj 24 5864062014720 [] []])) (fn := Tryz.f64) (by kernel_rfl) (by kernel_rfl) (by rintro ⟨⟩ ⟨a1, a2, ⟨⟩⟩; kernel_rfl)
noncomputable def zCS : Ent := qF (by kernel_rfl) zGP
theorem zIY : OkX 134 [zH, .str] (.p tI) vU := fX [] (A := (jl [jj 9 5864062014720 [] [.t 5 tI], jj 24 5864062014720 [] []])) (fn := Tryz.f134) (by kernel_rfl) (by kernel_rfl) (by rintro ⟨⟩ ⟨a1, a2, ⟨⟩⟩; kernel_rfl)
noncomputable def zEt : Ent := qF (by kernel_rfl) zIY
theorem zLn : OkX 248 [(.int .u8)] (.p .bool) zBi := fX [] (A := (jl [jj 6 5726623056 [] [.t 2 .bool]])) (fn := Tryz.f248) (by kernel_rfl) (by kernel_rfl) (by rintro ⟨⟩ ⟨a1, ⟨⟩⟩; kernel_rfl)
noncomputable def zMZ : Ent := qF (by kernel_rfl) zLn
theorem zOm : OkX 202 [.str] (.p .bool) zAe := fX [zMZ] (A := (jl [jj 6 91625968640 [] [.t 18 .bool], jj 30 1730765619511609185490967430430720 [] [.t 55 .bool], jj 17 1730765619511609209510073817104720 [] [.t 3 tI], jj 36 1730765619511609209510073817104720 [] []])) (fn := Tryz.f202) (by kernel_rfl) (by kernel_rfl) (by rintro ⟨⟩ ⟨a1, ⟨⟩⟩; kernel_rfl)
noncomputable def zBo : Ent := qF (by kernel_rfl) zOm
theorem zLm : OkX 203 [tI, tI, tI] (.p .bool) zT := fX [] (A := (jl [jj 6 357912576 [] [.t 6 .bool]])) (fn := Tryz.f203) (by kernel_rfl) (by kernel_rfl) (by rintro ⟨⟩ ⟨a1, a2, a3, ⟨⟩⟩; kernel_rfl)
noncomputable def jJ : Ent := qF (by kernel_rfl) zLm
theorem zEo : OkX 113 [tU, tI] (.p zG) wE := fX [zFp] (A := fun _ => none) (fn := Tryz.f113) (by kernel_rfl) (by kernel_rfl) (by rintro ⟨⟩ ⟨a1, a2, ⟨⟩⟩; kernel_rfl)
noncomputable def zMa : Ent := qF (by kernel_rfl) zEo
theorem zIZ : OkX 249 [zG, zG] (.p .bool) vW := fX [zM0] (A := (jl [jj 6 22369536 [] [.t 4 .bool]])) (fn := Tryz.f249) (by kernel_rfl) (by kernel_rfl) (by rintro ⟨⟩ ⟨a1, a2, ⟨⟩⟩; kernel_rfl)
noncomputable def zEu : Ent := qF (by kernel_rfl) zIZ
theorem zGO : OkX 204 [(.sl qB)] (.p tI) vI := fX [zEu, zMa, jJ, zBo] (A := (jl [jj 41 6296488550001201382416 [] [.t 5 tI], jj 56 6296488550001201382416 [] [], jj 58 27043212798572405254770141429760 [] [.t 52 .bool], jj 66 133911503688249189628496841001387004071981355583303067893760 [] [.t 98 .bool], jj 74 38597363079105398340612157981313446322593153860116637802968945187404973604864 [] [.t 127 .bool], jj 94 45567723432979415051570096605279850406945466927309786544954066201002041624518809725788842937548800 [] [.t 162 .bool], jj 85 45567723432979415091055199035204673046383172815272363122919130971985473961973845872487220144771088 [] [.t 6 tI], jj 20 45567723432979415091093796398283778444857696476941925758870220966874020816653665067156523089663760 [] [], jj 17 45567723432979415091093796398283778444857696476941925758870220966874020816653665067156524520970064 [] [.t 3 tI], jj 100 45567723432979415091093796398283778444857696476941925758870220966874020816653665067156524520970064 [] []])) (fn := Tryz.f204) (by kernel_rfl) (by kernel_rfl) (by rintro ⟨⟩ ⟨a1, ⟨⟩⟩; kernel_rfl)
noncomputable def zIo : Ent := qF (by kernel_rfl) zGO
theorem zDk : OkX 250 [zBs] (.p .bool) vM := fX [zAK] (A := (jl [jj 6 1501199875790160 [] [.t 2 .bool]])) (fn := Tryz.f250) (by kernel_rfl) (by kernel_rfl) (by rintro ⟨⟩ ⟨a1, ⟨⟩⟩; kernel_rfl)
noncomputable def zD8 : Ent := qF (by kernel_rfl) zDk
theorem zF2 : OkX 205 [(.sl wG)] (.p tI) kJ := fX [zD8, zBo] (A := (jl [jj 37 25185954569440712458512 [] [.t 4 tI], jj 52 25185954569440712458512 [] [], jj 73 7433581732836780243977355534074804751565840 [] [.t 5 tI], jj 20 7433581732843541047178572757549453477414160 [] [], jj 17 7433581732843541047178572757549453835240784 [] [.t 3 tI], jj 88 7433581732843541047178572757549453835240784 [] []])) (fn := Tryz.f205) (by kernel_rfl) (by kernel_rfl) (by rintro ⟨⟩ ⟨a1, ⟨⟩⟩; kernel_rfl)
noncomputable def zG7 : Ent := qF (by kernel_rfl) zF2
theorem zHV : OkX 206 [zH] (.p tI) u4 := fX [jJ, zCS, zBo] (A := (jl [jj 41 6447604369776822389310480 [] [.t 5 tI], jj 56 6447604369776822389310480 [] [], jj 90 124714687448262656856724350867958696886044878438400 [] [.t 83 .bool], jj 98 8986648889050213140174198643436161204497942415724039816394959749120 [] [.t 111 .bool], jj 77 8986648889050213264889005029006541827113428629237647983535760396304 [] [.t 6 tI], jj 24 8986648889050213264889005029006543557879048140846857493609577501712 [] [], jj 21 8986648889050213264889005029006543557879048140846857493701181101328 [] [.t 4 tI], jj 104 8986648889050213264889005029006543557879048140846857493701181101328 [] []])) (fn := Tryz.f206) (by kernel_rfl) (by kernel_rfl) (by rintro ⟨⟩ ⟨a1, ⟨⟩⟩; kernel_rfl)
noncomputable def zJn : Ent := qF (by kernel_rfl) zHV
theorem zMI : OkX 279 [zJ] (.p .bool) zB5 := fX [] (A := (jl [jj 6 22906492240 [] [.t 2 .bool]])) (fn := Tryz.f279) (by kernel_rfl) (by kernel_rfl) (by rintro ⟨⟩ ⟨a1, ⟨⟩⟩; kernel_rfl)
noncomputable def zOH : Ent := qF (by kernel_rfl) zMI
theorem zPI : OkX 280 [zJ] (.p .bool) zE6 := fX [] (A := fun _ => none) (fn := Tryz.f280) (by kernel_rfl) (by kernel_rfl) (by rintro ⟨⟩ ⟨a1, ⟨⟩⟩; kernel_rfl)
noncomputable def zRJ : Ent := qF (by kernel_rfl) zPI
theorem zHY : OkX 251 [zPd] (.p .bool) zAC := fX [zRJ, zOH, jJ] (A := (jl [jj 6 100743818301219097892160 [] [.t 38 .bool], jj 14 6923062477945693019739442674401296 [] [.t 2 .bool]])) (fn := Tryz.f251) (by kernel_rfl) (by kernel_rfl) (by rintro ⟨⟩ ⟨a1, ⟨⟩⟩; kernel_rfl)
noncomputable def zJq : Ent := qF (by kernel_rfl) zHY
theorem zF3 : OkX 207 [(.sl zIL)] (.p tI) kK := fX [zJq, zBo] (A := (jl [jj 37 25185954569440712458512 [] [.t 4 tI], jj 52 25185954569440712458512 [] [], jj 73 7433581732836780243977355534074804751565840 [] [.t 5 tI], jj 20 7433581732843541047178572757549453477414160 [] [], jj 17 7433581732843541047178572757549453835240784 [] [.t 3 tI], jj 88 7433581732843541047178572757549453835240784 [] []])) (fn := Tryz.f207) (by kernel_rfl) (by kernel_rfl) (by rintro ⟨⟩ ⟨a1, ⟨⟩⟩; kernel_rfl)
noncomputable def zG8 : Ent := qF (by kernel_rfl) zF3
theorem zPJ : OkX 252 [zH, .str] (.p tI) zB6 := fX [] (A := (jl [jj 9 5864062014720 [] [.t 5 tI], jj 24 5864062014720 [] []])) (fn := Tryz.f252) (by kernel_rfl) (by kernel_rfl) (by rintro ⟨⟩ ⟨a1, a2, ⟨⟩⟩; kernel_rfl)
noncomputable def zL9 : Ent := qF (by kernel_rfl) zPJ
theorem zFa : OkX 208 [zH] (.p tI) vL := fX [zL9, jJ] (A := (jl [jj 42 412646679760292225090585600 [] [.t 5 .bool], jj 50 30447950777727144122641087138733868110036599808 [] [.t 5 .bool], jj 58 37692737381938865697777012862015049227352017065451593534499925742265041920 [] [.t 5 .bool], jj 60 37692737381938865697777013349182261670986323133346537773260926430180541440 [] [.t 5 .bool], jj 70 632378593604264737584744508361900640506471740472781533529553313286966197459353600 [] [.t 134 .bool], jj 17 632379196688062848606595672794114227422658476253951667074157685461882905339889488 [] [.t 3 tI], jj 76 632379196688062848606595672794114227422658476253951667074157685461882905339889488 [] []])) (fn := Tryz.f208) (by kernel_rfl) (by kernel_rfl) (by rintro ⟨⟩ ⟨a1, ⟨⟩⟩; kernel_rfl)
noncomputable def zGa : Ent := qF (by kernel_rfl) zFa
theorem zKf : OkX 209 [zH] (.p tI) zAB := fX [zL9] (A := (jl [jj 22 100743818301213371269120 [] [.t 38 .bool], jj 9 100743818301219097892688 [] [.t 3 tI], jj 28 100743818301219097892688 [] []])) (fn := Tryz.f209) (by kernel_rfl) (by kernel_rfl) (by rintro ⟨⟩ ⟨a1, ⟨⟩⟩; kernel_rfl)
noncomputable def zL8 : Ent := qF (by kernel_rfl) zKf
theorem zKg : OkX 174 [zH, tU] (.p tI) uC := fX [] (A := (jl [jj 18 384307168179912704 [] [.t 29 .bool], jj 9 1537228672809129216 [] [.t 5 tI], jj 24 1537228672809129216 [] []])) (fn := Tryz.f174) (by kernel_rfl) (by kernel_rfl) (by rintro ⟨⟩ ⟨a1, a2, ⟨⟩⟩; kernel_rfl)
noncomputable def zFo : Ent := qF (by kernel_rfl) zKg
theorem zHZ : OkX 172 [zH, .str] (.p tI) kM := fX [] (A := (jl [jj 9 5864062014720 [] [.t 5 tI], jj 24 5864062014720 [] []])) (fn := Tryz.f172) (by kernel_rfl) (by kernel_rfl) (by rintro ⟨⟩ ⟨a1, a2, ⟨⟩⟩; kernel_rfl)
noncomputable def zJr : Ent := qF (by kernel_rfl) zHZ
theorem zKe : OkX 210 [zH] (.p tI) yT := fX [zJr, jJ, zFo, zAK] (A := (jl [jj 40 95982967058334720 [] [.t 5 tI], jj 48 98286558267733705728 [] [.t 5 tI], jj 56 25087571940244990198784 [] [.t 5 tI], jj 58 464598858302721315423474842771536090234880 [] [.t 69 .bool], jj 88 1995436901704527259351376376153304285490059033972736 [] [], jj 102 2246662222260509988834430072107158093433561622966889387929056051200 [] [.t 110 .bool], jj 93 2246662222262551320785349088125518235372070433246631536525402193936 [] [.t 7 tI], jj 20 2246662222262553316222251257251635889469762035211714373333674907408 [] [], jj 17 2246662222262553316222251257251635889469762035211714373425295284048 [] [.t 3 tI], jj 108 2246662222262553316222251257251635889469762035211714373425295284048 [] []])) (fn := Tryz.f210) (by kernel_rfl) (by kernel_rfl) (by rintro ⟨⟩ ⟨a1, ⟨⟩⟩; kernel_rfl)
noncomputable def zL7 : Ent := qF (by kernel_rfl) zKe
theorem zDj : OkX 253 [zH, (.sl zCB), tI, tI, tI] (.p tI) jR := fX [zEt, jJ] (A := (jl [jj 30 1690200800304299863862767779840 [] [.t 50 .bool], jj 38 7433581732841850846378268451680791564386304 [] [.t 71 .bool], jj 46 7794667965516416053545271929247418555377804902400 [] [.t 81 .bool], jj 57 523091803487547997888166888180986426855020182207097470976 [] [.t 13 tI], jj 20 523091811282223396986315785267305534675196263582539972608 [] [], jj 17 523091811282223396986315785267305534675196287033065603072 [] [.t 11 tI], jj 72 523091811282223396986315785267305534675196287033065603072 [] []])) (fn := Tryz.f253) (by kernel_rfl) (by kernel_rfl) (by rintro ⟨⟩ ⟨a1, a2, a3, a4, a5, ⟨⟩⟩; kernel_rfl)
noncomputable def uE : Ent := qF (by kernel_rfl) zDj
theorem zHX : OkX 211 [zH] (.p tI) u5 := fX [uE, zEu, zAK, jJ] (A := (jl [jj 14 1501199874392064 [] [.t 25 .bool], jj 54 110768999647131088315831082790420480 [] [.t 58 .bool], jj 74 8173309551284740464483728504488827824841739507723141120 [] [.t 91 .bool], jj 65 8173309551284740577800415145152905989891291396622517264 [] [.t 5 tI], jj 48 8173309551284740577911184144800037078207122479412937744 [] [], jj 45 8173309551284740577911184144801648880917306925194937616 [] [.t 4 tI], jj 80 8173309551284740577911184144801648880917306925194937616 [] []])) (fn := Tryz.f211) (by kernel_rfl) (by kernel_rfl) (by rintro ⟨⟩ ⟨a1, ⟨⟩⟩; kernel_rfl)
noncomputable def zJp : Ent := qF (by kernel_rfl) zHX
theorem zIX : OkX 212 [zH] (.p tI) xL := fX [uE, zCS, jJ] (A := (jl [jj 14 24019198012555264 [] [.t 27 .bool], jj 34 108172851219469426679694103674880 [] [.t 53 .bool]])) (fn := Tryz.f212) (by kernel_rfl) (by kernel_rfl) (by rintro ⟨⟩ ⟨a1, ⟨⟩⟩; kernel_rfl)
noncomputable def zKx : Ent := qF (by kernel_rfl) zIX
theorem zHW : OkX 254 [zH] (.p tI) zAA := fX [zEt, jJ] (A := (jl [jj 30 24595658742039576576 [] [.t 32 .bool], jj 38 7259357160980020553860729299779442442240 [] [.t 66 .bool], jj 49 31178701589133238427365255877395379460782172406800 [] [.t 5 tI], jj 24 31178701596392595588345276431280704419303654425616 [] [], jj 21 31178701596392595588345276431280704419326555325712 [] [.t 4 tI], jj 64 31178701596392595588345276431280704419326555325712 [] []])) (fn := Tryz.f254) (by kernel_rfl) (by kernel_rfl) (by rintro ⟨⟩ ⟨a1, ⟨⟩⟩; kernel_rfl)
noncomputable def zJo : Ent := qF (by kernel_rfl) zHW
theorem zFb : OkX 255 [tPV] (.p tI) uU := fX [zAK] (A := (jl [jj 37 103161669916429158228951312 [] [.t 4 tI], jj 20 103161669940446890226090256 [] [], jj 17 103161669940448356152115536 [] [.t 3 tI], jj 52 103161669940448356152115536 [] [], jj 85 1948668849746180360361501571666429475588596043792 [] [.t 6 tI], jj 68 1948668849774536791580174899052741648666549293072 [] [], jj 65 1948668849774537224245170389450289247010062078992 [] [.t 5 tI], jj 100 1948668849774537224245170389450289247010062078992 [] [], jj 126 8776015936244118375918817192586638416352703146905166652479897600 [] [.t 106 .bool], jj 145 2412335183457438515607515589458659717936581122655130276641842173130320379920 [] [.t 9 tI], jj 116 2412335192444087404649555544796380006365213496389376768509399724846544781328 [] [], jj 113 2412335192444087404657728355488439204661595267009755516997428957606549340176 [] [.t 7 tI], jj 160 2412335192444087404657728355488439204661595267009755516997428957606549340176 [] []])) (fn := Tryz.f255) (by kernel_rfl) (by kernel_rfl) (by rintro ⟨⟩ ⟨a1, ⟨⟩⟩; kernel_rfl)
noncomputable def zGb : Ent := qF (by kernel_rfl) zFb
theorem zGN : OkX 213 [zH] (.p tI) uK := fX [uE, zGb, zJo, jJ] (A := (jl [jj 14 1611901092819505564876800 [] [.t 40 .bool], jj 26 1730765617899708116690659876798464 [] [.t 55 .bool]])) (fn := Tryz.f213) (by kernel_rfl) (by kernel_rfl) (by rintro ⟨⟩ ⟨a1, ⟨⟩⟩; kernel_rfl)
noncomputable def zIn : Ent := qF (by kernel_rfl) zGN
theorem zF4 : OkX 173 [zH] (.p tI) wZ := fX [zIn, zKx, zJp, zL7, zL8, zGa, zG8, zJn, zG7, zIo, jJ, zBo] (A := (jl [jj 29 6760803194920734830822890144016 [] [.t 4 tI], jj 44 6760803194920734830822890144016 [] []])) (fn := Tryz.f173) (by kernel_rfl) (by kernel_rfl) (by rintro ⟨⟩ ⟨a1, ⟨⟩⟩; kernel_rfl)
noncomputable def zG9 : Ent := qF (by kernel_rfl) zF4
theorem zMJ : OkX 144 [zS] (.p tI) vV := fX [zFo, zG9] (A := (jl [jj 41 6602346876092618007411426320 [] [.t 5 tI], jj 56 6602346876092618007411426320 [] [], jj 86 1995436894735544384810556644423392325287446063349760 [] [.t 85 .bool], jj 77 1995436902161866760493117671048079757878355510231056 [] [.t 8 tI], jj 64 1995436902169126089961847779416217730674252809617424 [] [], jj 61 1995436902169126117654091089255088894142100436799504 [] [.t 6 tI], jj 20 1995436902169126117654097691601965010778939356992784 [] [], jj 17 1995436902169126117654097691601965082836899876427088 [] [.t 3 tI], jj 92 1995436902169126117654097691601965082836899876427088 [] []])) (fn := Tryz.f144) (by kernel_rfl) (by kernel_rfl) (by rintro ⟨⟩ ⟨a1, ⟨⟩⟩; kernel_rfl)
end Go.Ve

namespace Go.Ve
open Go Go.Proofs
set_option maxRecDepth 1000000
set_option maxHeartbeats 0
theorem zKh : OkX 72 [tI, tI, tI] (.p .bool) qL := fX [] (A := (jl [jj 6 357912576 [] [.t 6 .bool]])) (fn := Tryz.f72) (by kernel_rfl) (by kernel_rfl) (by rintro ⟨⟩ ⟨a1, a2, a3, ⟨⟩⟩; kernel_rfl)
noncomputable def yK : Ent := qF (by kernel_rfl) zKh
theorem zLp : OkX 73 [zA, .bool, .bool, .bool] (.p .bool) wU := fX [] (A := (jl [jj 6 6447604371278022265077760 [] [.t 8 .bool]])) (fn := Tryz.f73) (by kernel_rfl) (by kernel_rfl) (by rintro ⟨⟩ ⟨a1, a2, a3, a4, ⟨⟩⟩; kernel_rfl)
noncomputable def xT : Ent := qF (by kernel_rfl) zLp
theorem zI1 : OkX 129 [qT, qT] (.p .bool) zBc := fX [] (A := (jl [jj 6 93824992236800 [] [.t 4 .bool]])) (fn := Tryz.f129) (by kernel_rfl) (by kernel_rfl) (by rintro ⟨⟩ ⟨a1, a2, ⟨⟩⟩; kernel_rfl)
noncomputable def zKz : Ent := qF (by kernel_rfl) zI1
theorem zML : OkX 74 [(.sl qT), .bool] (.p .bool) w7 := fX [zKz] (A := (jl [jj 18 412646679761793424960782336 [] [.t 44 .bool], jj 9 412646679761793424966374656 [] [.t 5 tI], jj 24 412646679761793424966374656 [] []])) (fn := Tryz.f74) (by kernel_rfl) (by kernel_rfl) (by rintro ⟨⟩ ⟨a1, a2, ⟨⟩⟩; kernel_rfl)
noncomputable def zAL : Ent := qF (by kernel_rfl) zML
theorem zFc : OkX 75 [zA] (.p .bool) uV := fX [zAL, xT, yK] (A := (jl [jj 6 5864062014784 [] [.t 21 .bool], jj 18 393529039039261310992 [] [.t 2 .bool], jj 30 1690194352699934590640005840912 [] [.t 2 .bool]])) (fn := Tryz.f75) (by kernel_rfl) (by kernel_rfl) (by rintro ⟨⟩ ⟨a1, ⟨⟩⟩; kernel_rfl)
noncomputable def zGc : Ent := qF (by kernel_rfl) zFc
theorem zDl : OkX 76 [zA] (.p .bool) vO := fX [zAL, xT, yK] (A := (jl [jj 6 93824992236864 [] [.t 23 .bool], jj 14 25185954481479782236160 [] [.t 37 .bool], jj 26 110768999648340014135445711965126672 [] [.t 2 .bool], jj 30 29037317874920433472551891183589197348880 [] [.t 2 .bool]])) (fn := Tryz.f76) (by kernel_rfl) (by kernel_rfl) (by rintro ⟨⟩ ⟨a1, ⟨⟩⟩; kernel_rfl)
noncomputable def zD9 : Ent := qF (by kernel_rfl) zDl
theorem zDY : OkX 77 [zA] (.p .bool) wN := fX [zAL, xT, yK] (A := (jl [jj 6 5864062014784 [] [.t 21 .bool], jj 22 412646679760292225090584592 [] [.t 2 .bool], jj 38 7089188934306746453259739058493456400 [] [.t 2 .bool]])) (fn := Tryz.f77) (by kernel_rfl) (by kernel_rfl) (by rintro ⟨⟩ ⟨a1, ⟨⟩⟩; kernel_rfl)
noncomputable def zEQ : Ent := qF (by kernel_rfl) zDY
theorem zGQ : OkX 78 [zA] (.p .bool) xY := fX [zAL, xT, yK] (A := (jl [jj 6 93824992236864 [] [.t 23 .bool], jj 24 94575592174780416 [] [.t 26 .bool], jj 26 6760803201217127397857033191440 [] [.t 2 .bool], jj 36 425930601676685078902892277006336 [] [.t 52 .bool], jj 38 523091811282223396986315352575900656772893909497308774416 [] [.t 2 .bool]])) (fn := Tryz.f78) (by kernel_rfl) (by kernel_rfl) (by rintro ⟨⟩ ⟨a1, ⟨⟩⟩; kernel_rfl)
noncomputable def zIp : Ent := qF (by kernel_rfl) zGQ
theorem zLq : OkX 32 [zA] (.p .bool) wV := fX [zIp, zEQ, zD9, zGc, zAL, xT, yK, zAK] (A := (jl [jj 6 366503875840 [] [.t 19 .bool], jj 17 98382634693280399440 [] [.t 3 tI], jj 32 98382634693280399440 [] [], jj 42 1902996923607946508077689439978084877069189136 [] [.t 2 .bool]])) (fn := Tryz.f32) (by kernel_rfl) (by kernel_rfl) (by rintro ⟨⟩ ⟨a1, ⟨⟩⟩; kernel_rfl)
noncomputable def zM1 : Ent := qF (by kernel_rfl) zLq
theorem zEp : OkX 102 [zG, zG] (.p tI) vN := fX [] (A := (jl [jj 6 93824992236544 [] [.t 23 .bool]])) (fn := Tryz.f102) (by kernel_rfl) (by kernel_rfl) (by rintro ⟨⟩ ⟨a1, a2, ⟨⟩⟩; kernel_rfl)
noncomputable def zMb : Ent := qF (by kernel_rfl) zEp
theorem zLr : OkX 45 [(.sl zA), tI] (.p .bool) zCH := fX [zMb, zM1] (A := (jl [jj 18 422550200076076467165562142720 [] [.t 49 .bool], jj 9 422550200076076467165567735040 [] [.t 5 tI], jj 24 422550200076076467165567735040 [] []])) (fn := Tryz.f45) (by kernel_rfl) (by kernel_rfl) (by rintro ⟨⟩ ⟨a1, a2, ⟨⟩⟩; kernel_rfl)
noncomputable def zM2 : Ent := qF (by kernel_rfl) zLr
theorem zF0 : OkX 176 [(.sl zJ), zJ] (.p tI) yR := fX [] (A := (jl [jj 9 91625948416 [] [.t 8 tI], jj 28 91625968896 [] []])) (fn := Tryz.f176) (by kernel_rfl) (by kernel_rfl) (by rintro ⟨⟩ ⟨a1, a2, ⟨⟩⟩; kernel_rfl)
noncomputable def zG5 : Ent := qF (by kernel_rfl) zF0
theorem zDW : OkX 152 [(.sl zJ), zJ] (.p .bool) v7 := fX [zG5] (A := fun _ => none) (fn := Tryz.f152) (by kernel_rfl) (by kernel_rfl) (by rintro ⟨⟩ ⟨a1, a2, ⟨⟩⟩; kernel_rfl)
noncomputable def zEO : Ent := qF (by kernel_rfl) zDW
theorem zLj : OkX 117 [zV, tI, tI] (.p tI) zAc := fX [zEO] (A := (jl [jj 13 24019192286875648 [] [.t 17 tI], jj 32 24019197991129088 [] []])) (fn := Tryz.f117) (by kernel_rfl) (by kernel_rfl) (by rintro ⟨⟩ ⟨a1, a2, a3, ⟨⟩⟩; kernel_rfl)
noncomputable def zC4 : Ent := qF (by kernel_rfl) zLj
theorem zFZ : OkX 135 [(.sl tI), tI] (.p tI) kI := fX [] (A := (jl [jj 9 91625948416 [] [.t 8 tI], jj 28 91625968896 [] []])) (fn := Tryz.f135) (by kernel_rfl) (by kernel_rfl) (by rintro ⟨⟩ ⟨a1, a2, ⟨⟩⟩; kernel_rfl)
noncomputable def zCf : Ent := qF (by kernel_rfl) zFZ
theorem zOl : OkX 145 [zV, tI, tI] (.p tI) zFA := fX [zCf, zC4] (A := fun _ => none) (fn := Tryz.f145) (by kernel_rfl) (by kernel_rfl) (by rintro ⟨⟩ ⟨a1, a2, a3, ⟨⟩⟩; kernel_rfl)
noncomputable def zQi : Ent := qF (by kernel_rfl) zOl
theorem zDV : OkX 87 [(.sl tI), tI] (.p .bool) v6 := fX [zCf] (A := fun _ => none) (fn := Tryz.f87) (by kernel_rfl) (by kernel_rfl) (by rintro ⟨⟩ ⟨a1, a2, ⟨⟩⟩; kernel_rfl)
noncomputable def zEN : Ent := qF (by kernel_rfl) zDV
theorem zRb : OkX 107 [zV, tI, tI] (.p .bool) zHr := fX [zEN, zQi, zC4] (A := (jl [jj 18 1501194149171200 [] [.t 6 .bool]])) (fn := Tryz.f107) (by kernel_rfl) (by kernel_rfl) (by rintro ⟨⟩ ⟨a1, a2, a3, ⟨⟩⟩; kernel_rfl)
noncomputable def zNN : Ent := qF (by kernel_rfl) zRb
theorem zMT : OkX 109 [tI] (.p tI) zCp := fX [] (A := fun _ => none) (fn := Tryz.f109) (by kernel_rfl) (by kernel_rfl) (by rintro ⟨⟩ ⟨a1, ⟨⟩⟩; kernel_rfl)
noncomputable def zIt : Ent := qF (by kernel_rfl) zMT
theorem zOo : OkX 108 [tI] (.p tU) zDy := fX [zIt] (A := fun _ => none) (fn := Tryz.f108) (by kernel_rfl) (by kernel_rfl) (by rintro ⟨⟩ ⟨a1, ⟨⟩⟩; kernel_rfl)
noncomputable def zJR : Ent := qF (by kernel_rfl) zOo
theorem zI3 : OkX 168 [zG, tU] (.p .bool) xV := fX [zJR] (A := fun _ => none) (fn := Tryz.f168) (by kernel_rfl) (by kernel_rfl) (by rintro ⟨⟩ ⟨a1, a2, ⟨⟩⟩; kernel_rfl)
noncomputable def zKB : Ent := qF (by kernel_rfl) zI3
theorem zKi : OkX 67 [zV, tI, tI] (.p tI) yU := fX [] (A := (jl [jj 21 103161669940448350515040256 [] [.t 8 tI], jj 12 103161669940448350515040256 [] [], jj 9 103161669940448356241592320 [] [.t 7 tI], jj 36 103161669940448356241592320 [] []])) (fn := Tryz.f67) (by kernel_rfl) (by kernel_rfl) (by rintro ⟨⟩ ⟨a1, a2, a3, ⟨⟩⟩; kernel_rfl)
noncomputable def zCg : Ent := qF (by kernel_rfl) zKi
theorem zMN : OkX 126 [zV, tI, tI] (.p tI) zDP := fX [zCg] (A := (jl [jj 22 24595657298930565120 [] [.t 32 .bool], jj 13 98382635059761975296 [] [.t 8 tI], jj 28 98382635059761975296 [] []])) (fn := Tryz.f126) (by kernel_rfl) (by kernel_rfl) (by rintro ⟨⟩ ⟨a1, a2, a3, ⟨⟩⟩; kernel_rfl)
noncomputable def zOJ : Ent := qF (by kernel_rfl) zMN
theorem zPK : OkX 66 [zV, tI, tI] (.p .bool) zHH := fX [zOJ, zCg] (A := (jl [jj 21 6148914668330094592 [] [.t 8 tI], jj 36 6148914668330094592 [] []])) (fn := Tryz.f66) (by kernel_rfl) (by kernel_rfl) (by rintro ⟨⟩ ⟨a1, a2, a3, ⟨⟩⟩; kernel_rfl)
noncomputable def zRK : Ent := qF (by kernel_rfl) zPK
theorem zMP : OkX 103 [zH] (.p .bool) zD0 := fX [] (A := (jl [jj 6 2092367245128893587945263141069222138700785148154678169600 [] [.t 95 .bool], jj 17 2246662220170186071093357669306372748400539896510929225270622683216 [] [.t 3 tI], jj 32 2246662220170186071093357669306372748400539896510929225270622683216 [] [], jj 37 2412335190197425182395175538125413489691488791064416382276985293406222680336 [] [.t 4 tI], jj 52 2412335190197425182395175538125413489691488791064416382276985293406222680336 [] [], jj 57 2590225187221970235448528471106963021175544371793061347801571462163172713442087797776 [] [.t 5 tI], jj 72 2590225187221970235448528471106963021175544371793061347801571462163172713442087797776 [] []])) (fn := Tryz.f103) (by kernel_rfl) (by kernel_rfl) (by rintro ⟨⟩ ⟨a1, ⟨⟩⟩; kernel_rfl)
noncomputable def zOL : Ent := qF (by kernel_rfl) zMP
theorem zLv : OkX 46 [zS] (.p .bool) zCO := fX [zOL] (A := (jl [jj 17 5864061993040 [] [.t 3 tI], jj 32 5864061993040 [] []])) (fn := Tryz.f46) (by kernel_rfl) (by kernel_rfl) (by rintro ⟨⟩ ⟨a1, ⟨⟩⟩; kernel_rfl)
noncomputable def zM6 : Ent := qF (by kernel_rfl) zLv
def zC5 : Nat → Option JA := fun k => match k with
 | 84 => some ⟨184497489401772529385612327842172717039008268166646221893471402059821287234759868672175917131173661172843563441437060059660158104845032398976807920666283692562120150139178769612799511748636278282415866878160176201872937423527853931074825229289817028865471580173776186278979555862451026349435370470386779578868176354099221238174997807148290368091204552361327921521465467763204555046027307456204118567337113234081310864304329682188410055227959601689731512418582605896572426052789584762208778001498785021309361810928365592763602942101060634062780064931573442859418747069999582698364321162101164826918019197244306192189303006234838493212327877025209681605424513505280, [], [.v 5 [.o 1100 zM, .o 1101 tI], .st]⟩
 | 25 => some ⟨184497489401772529385612327842172717039008268166646221893471402059821287234759868672175917131173661172843563441437060059660158104845032398976807920666283692562120150139178769612799511748636278282415866878160176201872937423527853931074825229289817028865471580173776186278979555862451026349435370470386779578868176354099221238174997807148290368091204552361327921521465467763204555046027307456204118567337113234081310864304329682188410055227959601689731512418582605896572426052789584762208778001498785021309361810928365592763602942101060634062780064931573442859418747069999582698364321162101164826918019197244306192189303006234838493212327877025209681605424513505280, [], [.t 6 tI, .v 5 [.o 1100 zM, .o 1101 tI], .st]⟩
 | 28 => some ⟨184497489401772529385612327842172717039008268166646221893471402059821287234759868672175917131173661172843563441437060059660158104845032398976807920666283692562120150139178769612799511748636278282415866878160176201872937423527853931074825229289817028865471580173776186278979555862451026349435370470386779578868176354099221238174997807148290368091204552361327921521465467763204555046027307456204118567337113234081310864304329682188410055227959601689731512418582605896572426052789584762208778001498785021309361810928365592763602942101060634062780064931573442859418747069999582698364321162101164826918019197244306192189303006234838493212327877025209675600991514216448, [], [.v 5 [.o 1100 zM, .o 1101 tI], .st]⟩
 | 37 => some ⟨184497489401772529385612327842172717039008268166646221893471402059821287234759868672175917131173661172843563441437060059660158104845032398976807920666283692562120150139178769612799511748636278282415866878160176201872937423527853931074825229289817028865471580173776186278979555862451026349435370470386779578868176354099221238174997807148290368091204552361327921521465467763204555046027307456204118567337113234081310864304329682188410055227959601689731512418582605896572426052789584762208778001498785021309361810928365592763602942101060634062780064931573442859418747069999582698364321162101164826918019197244306192189303006234838493212327877025209675600991514216448, [], [.t 7 tI, .v 5 [.o 1100 zM, .o 1101 tI], .st]⟩
 | 40 => some ⟨184497489401772529385612327842172717039008268166646221893471402059821287234759868672175917131173661172843563441437060059660158104845032398976807920666283692562120150139178769612799511748636278282415866878160176201872937423527853931074825229289817028865471580173776186278979555862451026349435370470386779578868176354099221238174997807148290368091204552361327921521465467763204555046027307456204118567337113234081310864304329682188410055227959601689731512418582605896572426052789584762208778001498785021309361810928365592763602942101060634062780064931573442859418747069999582698364321162101164826918019197244306192189303006234838493212327877000023727030486242887680, [], [.v 5 [.o 1100 zM, .o 1101 tI], .st]⟩
 | 80 => some ⟨184497489401772529385612327842172717039008268166646221893471402059821287234759868672175917131173661172843563441437060059660158104845032398976807920666283692562120150139178769612799511748636278282415866878160176201872937423527853931074825229289817028865471580173776186278979555862451026349435370470386779578868176354099221238174997807148290368091204552361327921521465467763204555046027307456204118567337113234081310864304329682188410055227959601689731512418582605896572426052789584762208778001498785021309361810928365592763602942101060634062780064931573442859418747069821583778745688924935728571583505041672838009412557657231906458756740677065373698151113771976704, [], [.v 5 [.o 1100 zM, .o 1101 tI], .st]⟩
 | 70 => some ⟨150770949527755429313232131334431639559735035425831931880481358702119485440, [], [.t 123 .bool, .v 5 [.o 1100 zM, .o 1101 tI], .st]⟩
 | 68 => some ⟨33477875922062297407124099488107905476223153719886495090688, [], [.t 10 tI, .v 5 [.o 1100 zM, .o 1101 tI], .st]⟩
 | 61 => some ⟨33477875922062297407124099488107905476223153719886495090688, [], [.t 10 tI, .v 5 [.o 1100 zM, .o 1101 tI], .st]⟩
 | 62 => some ⟨2092367245128893587945152372069573395711376497566321475584, [], [.t 95 .bool, .v 5 [.o 1100 zM, .o 1101 tI], .st]⟩
 | 50 => some ⟨108166248872599386899585878196224, [], [.t 53 .bool, .v 5 [.o 1100 zM, .o 1101 tI], .st]⟩
 | 92 => some ⟨737989957607090117542449311368690868156033072666584887573885608239285148939039474688703668524694644691374253765748240238640632419380129595907231682665134770248480600556715078451198046994545113129663467512640704807491749694111415724299300917159268115461886320695104745115918223449804105397741481881547118315472705416396884952699991228593161472364818209445311686085861871052818220184109229824816474269348452936325243457217318728753640220911838406758926049674330423586289704211158339048835112005995140085237447243713462371054411768404242536251120259726293772220522512954229778033961281054049025040681255249323705639452069711332539928507387154905727039987508328794112, [], [.v 5 [.o 1100 zM, .o 1101 tI], .st]⟩
 | 89 => some ⟨737989957607090117542449311368690868156033072666584887573885608239285148939039474688703668524694644691374253765748240238640632419380129595907231682665134770248480600556715078451198046994545113129663467512640704807491749694111415724299300917159268115461886320695104745115918223449804105397741481881547118315472705416396884952699991228593161472364818209445311686085861871052818220184109229824816474269348452936325243457217318728753640220911838406758926049674330423586289704211158339048835112005995140085237447243713462371054411768404242536251120259726293772220522515870386078824983771043852409388662279710666054786872263881531095007792867776925237958836497535731712, [], [.t 12 tI, .v 5 [.o 1100 zM, .o 1101 tI], .st]⟩
 | 104 => some ⟨737989957607090117542449311368690868156033072666584887573885608239285148939039474688703668524694644691374253765748240238640632419380129595907231682665134770248480600556715078451198046994545113129663467512640704807491749694111415724299300917159268115461886320695104745115918223449804105397741481881547118315472705416396884952699991228593161472364818209445311686085861871052818220184109229824816474269348452936325243457217318728753640220911838406758926049674330423586289704211158339048835112005995140085237447243713462371054411768404242536251120259726293772220522515870386078824983771043852409388662279710666054786872263881531095007792867776925237958836497535731712, [], [.v 5 [.o 1100 zM, .o 1101 tI], .st]⟩
 | 83 => some ⟨0, [(16, 0, 8)], [.st]⟩
 | 79 => some ⟨0, [(14848, 1024, 0)], [.st]⟩
 | _ => none
theorem zKp : ∀ k j, zC5 k = some j → zDp j.sl = true := by
 intro k j h
 unfold zC5 at h
 split at h <;> (cases h <;> rfl)
theorem zKm : j6 (jL zJ) Tryz.prog G0 104 (qG (zJE (zCx [zS]) (.tu [zEX, tI]) zBd)) :=
 zRr (fn := Tryz.f104) (c := vA Tryz.f104) (S := (((((zQ.none (jL zJ)).add 144 (jM [zS] (.p tI) vV)).add 113 (jM [tU, tI] (.p zG) wE)).add 102 (jM [zG, zG] (.p tI) vN)).addH)) (A := zC5) zKp (zJC (qQ (qQ (qQ qA (by kernel_rfl) (zI7 (by kernel_rfl) zMJ)) (by kernel_rfl) (zI7 (by kernel_rfl) zEo)) (by kernel_rfl) (zI7 (by kernel_rfl) zEp)) (by kernel_rfl) (by kernel_rfl)) (by kernel_rfl) (by kernel_rfl) (by rintro st0 ⟨a1, ⟨⟩⟩; kernel_rfl)
theorem zLt : j6 U Tryz.prog G0 104 (qG (jM [zS] (.tu [zHt, tI]) zCJ)) :=
 zJL (fun _ => rfl) (by kernel_rfl) zKm
noncomputable def zM4 : Ent := qF (by kernel_rfl) zLt
theorem zGS : OkX 105 [(.sl tI), tI] (.p .bool) x3 := fX [] (A := (jl [jj 26 103161669940448355883679744 [] [.t 43 .bool], jj 17 103161669940448356241507584 [] [.t 5 tI], jj 32 103161669940448356241507584 [] []])) (fn := Tryz.f105) (by kernel_rfl) (by kernel_rfl) (by rintro ⟨⟩ ⟨a1, a2, ⟨⟩⟩; kernel_rfl)
noncomputable def zIr : Ent := qF (by kernel_rfl) zGS
theorem zMM : OkX 47 [zS, (.sl tI)] (.tu [zV, tI]) zDO := fX [zIr, zM4] (A := (jl [jj 27 0 [(240, 3, 0)] []])) (fn := Tryz.f47) (by kernel_rfl) (by kernel_rfl) (by rintro ⟨⟩ ⟨a1, a2, ⟨⟩⟩; kernel_rfl)
noncomputable def zOI : Ent := qF (by kernel_rfl) zMM
theorem zMR : OkX 14 [zS, (.sl tI)] (.tu [zV, .bool]) zD1 := fX [zOI, zM6] (A := (jl [jj 6 1431633920 [] [.t 15 .bool]])) (fn := Tryz.f14) (by kernel_rfl) (by kernel_rfl) (by rintro ⟨⟩ ⟨a1, a2, ⟨⟩⟩; kernel_rfl)
noncomputable def zON : Ent := qF (by kernel_rfl) zMR
end Go.Ve

namespace Go.Ve
open Go Go.Proofs
set_option maxRecDepth 1000000
set_option maxHeartbeats 0
theorem zLu : OkX 15 [zV, (.sl (.sl zA))] (.p .bool) zCN := fX [zM2] (A := (jl [jj 26 24595658673320099840 [] [.t 32 .bool], jj 17 24595658764923700480 [] [.t 5 tI], jj 32 24595658764923700480 [] []])) (fn := Tryz.f15) (by kernel_rfl) (by kernel_rfl) (by rintro ⟨⟩ ⟨a1, a2, ⟨⟩⟩; kernel_rfl)
noncomputable def zM5 : Ent := qF (by kernel_rfl) zLu
theorem zCw : OkX 106 [zV, tI, tI] (.tu [qB, .bool]) jZ := fX [] (A := (jl [jj 6 98382635059784253440 [] [.t 33 .bool]])) (fn := Tryz.f106) (by kernel_rfl) (by kernel_rfl) (by rintro ⟨⟩ ⟨a1, a2, a3, ⟨⟩⟩; kernel_rfl)
noncomputable def xU : Ent := qF (by kernel_rfl) zCw
theorem zDm : OkX 48 [zV, tI, tI] (.p .bool) jU := fX [zNN, xU] (A := (jl [jj 10 6296488643824761966592 [] [.t 6 .bool]])) (fn := Tryz.f48) (by kernel_rfl) (by kernel_rfl) (by rintro ⟨⟩ ⟨a1, a2, a3, ⟨⟩⟩; kernel_rfl)
noncomputable def zAM : Ent := qF (by kernel_rfl) zDm
theorem zHS : OkX 57 [zV, tI, tI] (.p (.sl zJ)) zAs := fX [zC4, zNN] (A := (jl [jj 30 402974888897708189286400 [] [.t 39 .bool, .o 7 7 zJ], jj 36 103161669916429158229753856 [] [.o 7 7 zJ], jj 21 412646679760292225091387392 [] [.t 26 tI, .o 7 7 zJ], jj 40 412646679761793424609263616 [] [.o 7 7 zJ]])) (fn := Tryz.f57) (by kernel_rfl) (by kernel_rfl) (by rintro ⟨⟩ ⟨a1, a2, a3, ⟨⟩⟩; kernel_rfl)
noncomputable def zJk : Ent := qF (by kernel_rfl) zHS
theorem zDZ : OkA 178 [.d wG, .pp .str] (.p .bool) xG := fA [] (A := fun _ => none) (fn := Tryz.f178) (by kernel_rfl) (by kernel_rfl) (by rintro ⟨⟩ ⟨a1, a2, ⟨⟩⟩; kernel_rfl)
noncomputable def zAW : Ent := qF (by kernel_rfl) zDZ
theorem zAo : OkA 177 [.d (.sl wG), .clo 178 [(true, .str)]] (.p tI) j7 := fA [zAW] (A := (jl [jj 9 91625948416 [] [.t 8 tI], jj 28 91625968896 [] []])) (fn := Tryz.f177) (by kernel_rfl) (by kernel_rfl) (by rintro ⟨⟩ ⟨a1, ⟨a2, ⟨⟩⟩, ⟨⟩⟩; kernel_rfl)
noncomputable def zAJ : Ent := qF (by kernel_rfl) zAo
theorem zF5 : OkX 153 [zH, .str] (.p tI) yV := fX [zAJ, zAW] (A := fun _ => none) (fn := Tryz.f153) (by kernel_rfl) (by kernel_rfl) (by rintro ⟨⟩ ⟨a1, a2, ⟨⟩⟩; kernel_rfl)
noncomputable def zHa : Ent := qF (by kernel_rfl) zF5
theorem zLw : OkX 141 [zG, zG] (.p .bool) zBr := fX [zKB] (A := (jl [jj 6 1431655680 [] [.t 4 .bool]])) (fn := Tryz.f141) (by kernel_rfl) (by kernel_rfl) (by rintro ⟨⟩ ⟨a1, a2, ⟨⟩⟩; kernel_rfl)
noncomputable def zM7 : Ent := qF (by kernel_rfl) zLw
theorem zH1 : OkX 179 [zBs, zG] (.p .bool) yB := fX [zM7] (A := (jl [jj 6 23456248059136 [] [.t 4 .bool]])) (fn := Tryz.f179) (by kernel_rfl) (by kernel_rfl) (by rintro ⟨⟩ ⟨a1, a2, ⟨⟩⟩; kernel_rfl)
noncomputable def zJt : Ent := qF (by kernel_rfl) zH1
theorem zKj : OkX 154 [wG, zG] (.p tI) zBJ := fX [zJt] (A := (jl [jj 9 366503539968 [] [.t 10 tI], jj 28 366503884032 [] []])) (fn := Tryz.f154) (by kernel_rfl) (by kernel_rfl) (by rintro ⟨⟩ ⟨a1, a2, ⟨⟩⟩; kernel_rfl)
noncomputable def zMc : Ent := qF (by kernel_rfl) zKj
theorem zH0 : OkX 118 [zH, .str, zG] (.p .bool) yA := fX [zMc, zHa] (A := (jl [jj 30 6296488620369945563136 [] [.t 6 .bool]])) (fn := Tryz.f118) (by kernel_rfl) (by kernel_rfl) (by rintro ⟨⟩ ⟨a1, a2, a3, ⟨⟩⟩; kernel_rfl)
noncomputable def zJs : Ent := qF (by kernel_rfl) zH0
theorem zEH : OkX 58 [zV, (.sl zA), tI, tI, zJ] (.p (.sl zA)) uF := fX [zJs, xU] (A := (jl [jj 30 116149714575678678275446152163010350678016 [] [.t 68 .bool, .o 15 15 zA], jj 36 31926990434706017882465562962469771384942094750580736 [] [.o 15 15 zA], jj 21 127707961738824071529862252256078160930283623863549952 [] [.t 42 tI, .o 15 15 zA], jj 40 127707961738824071529862252262122790028356769737080832 [] [.o 15 15 zA], jj 7 0 [(98304, 8128, 0)] []])) (fn := Tryz.f58) (by kernel_rfl) (by kernel_rfl) (by rintro ⟨⟩ ⟨a1, a2, a3, a4, a5, ⟨⟩⟩; kernel_rfl)
noncomputable def zFq : Ent := qF (by kernel_rfl) zEH
theorem zEI : OkX 20 [zV, (.sl (.sl zA)), tI] (.p (.sl zA)) j9 := fX [zFq, zJk, zAM] (A := (jl [jj 6 1466014105600 [] [.t 20 .bool], jj 46 110768997998156270361476888491196416 [] [.t 58 .bool, .o 7 7 zA], jj 52 1858395433210885158632973248939007220400128 [] [.o 7 7 zA], jj 37 7433581732843541040730968386271431573389312 [] [.t 42 tI, .o 7 7 zA], jj 56 7433581732843541047178571220320781029425152 [] [.o 7 7 zA], jj 21 29734326931374164188714290934121023293964288 [] [.t 29 tI, .o 7 7 zA], jj 60 29734326931374164188714291030196349329031168 [] [.o 7 7 zA]])) (fn := Tryz.f20) (by kernel_rfl) (by kernel_rfl) (by rintro ⟨⟩ ⟨a1, a2, a3, ⟨⟩⟩; kernel_rfl)
noncomputable def zBp : Ent := qF (by kernel_rfl) zEI
theorem zGR : OkX 28 [zV, tI, tI] (.p (.sl zJ)) xZ := fX [zCg, zRK] (A := (jl [jj 28 412646678224564752157261824 [] [.o 7 7 zJ], jj 25 412646679761418124997705728 [] [.t 9 tI, .o 7 7 zJ], jj 40 412646679761418124997705728 [] [.o 7 7 zJ]])) (fn := Tryz.f28) (by kernel_rfl) (by kernel_rfl) (by rintro ⟨⟩ ⟨a1, a2, a3, ⟨⟩⟩; kernel_rfl)
noncomputable def zIq : Ent := qF (by kernel_rfl) zGR
theorem zPL : OkX 59 [zV, zJ] (.p qB) zHI := fX [] (A := fun _ => none) (fn := Tryz.f59) (by kernel_rfl) (by kernel_rfl) (by rintro ⟨⟩ ⟨a1, a2, ⟨⟩⟩; kernel_rfl)
noncomputable def zRL : Ent := qF (by kernel_rfl) zPL
theorem zLs : OkX 25 [zV, tI, tI, tU] (.tu [zJ, .bool]) zCI := fX [zRL, zIq] (A := (jl [jj 13 393530540237710032896 [] [.t 11 tI, .v 8 [.p zJ]], jj 28 393530540237710032896 [] [.v 8 [.p zJ]]])) (fn := Tryz.f25) (by kernel_rfl) (by kernel_rfl) (by rintro ⟨⟩ ⟨a1, a2, a3, a4, ⟨⟩⟩; kernel_rfl)
noncomputable def zM3 : Ent := qF (by kernel_rfl) zLs
theorem zMO : OkX 26 [(.sl zA), zG] (.p tI) zDQ := fX [] (A := (jl [jj 9 366503875840 [] [.t 5 tI], jj 24 366503875840 [] []])) (fn := Tryz.f26) (by kernel_rfl) (by kernel_rfl) (by rintro ⟨⟩ ⟨a1, a2, ⟨⟩⟩; kernel_rfl)
noncomputable def zOK : Ent := qF (by kernel_rfl) zMO
def zNX : Nat → Option JA := fun k => match k with
 | 12 => some ⟨336, [], [.t 0 (.sl vH)]⟩
 | _ => none
def zHi : Nat → Option JA := fun k => match k with
 | 12 => some ⟨336, [], [.t 0 (.sl tI)]⟩
 | _ => none
theorem zF1 : j6 U Tryz.prog G0 83 (qG (jM [(.sl tI)] (.p (.sl tI)) yS)) :=
 zRt (t := tI) (bytes := 8)
  (zA6 (fn := Tryz.f83) (c := vA Tryz.f83) (S := zQ.none U) (A := fun _ => none) qA (by kernel_rfl) (by kernel_rfl) (enc := fun q => [.tl tI (q.1 :: q.2)]) (fun _ _ h => zJU h) (by rintro ⟨⟩ ⟨y, r⟩; kernel_rfl))
  (fun c => zA6 (fn := Tryz.f83) (c := vA Tryz.f83) (S := zQ.none U) (A := fun _ => none) qA (by kernel_rfl) (by kernel_rfl) (enc := fun _ => [.val (.slice none 0 c)]) (fun _ _ h => zCT h) (by rintro ⟨⟩ _; kernel_rfl))
  (fun a c => zA6 (fn := Tryz.f83) (c := vA Tryz.f83) (S := zQ.none U) (A := zHi) qA (by kernel_rfl) (by kernel_rfl) (enc := fun _ => [.val (.slice (some a) 0 c)]) (fun _ _ h => zCT h) (by rintro ⟨⟩ _; kernel_rfl))
noncomputable def zG6 : Ent := qF (by kernel_rfl) zF1
end Go.Ve

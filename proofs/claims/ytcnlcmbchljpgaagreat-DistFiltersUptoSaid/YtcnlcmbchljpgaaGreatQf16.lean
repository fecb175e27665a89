/-
  law17 and law20: the program's tables.
  Functions out of code, over the fast tables.
  Contracts of the functions of NvF1.
  Contracts of the functions of NvF2.
  Contracts of the functions of NvF3.
-/
import Derived.Test.YtcnlcmbchljpgaaGreatProg
import Derived.Test.YtcnlcmbchljpgaaGreatQf10
import Derived.Test.YtcnlcmbchljpgaaGreatQf7
import Derived.Test.YtcnlcmbchljpgaaGreatQf11
import Derived.Test.YtcnlcmbchljpgaaGreatQf13
import Derived.Test.YtcnlcmbchljpgaaGreatQf12
set_option linter.unusedVariables false
namespace Go.Ve
open Go Go.Proofs
noncomputable abbrev LF : jC := jC.fast Tryz.prog 330 310
def G0 : Nat → Option (List V) := fun _ => none
abbrev U := jB
abbrev vD (f : Func) : Code := match f.body with | some c => c | none => .skip
theorem mixed : Tryz.prog.follows .mixedOrders = true := by kernel_rfl
end Go.Ve

namespace Go.Ve
open Go Go.Proofs
instance : Subsingleton U.St := inferInstanceAs (Subsingleton Unit)
theorem zTz {S : zS U} {A : Nat → Option JA} (hS : qD U Tryz.prog G0 S.toS) {f : FuncId} {fn : Func} {c : Code} (hf : LF.fn f = some fn) (hb : fn.body = some c)
  {ts : List Ty} {R : RTy} {g : ElS ts → Option R.El} (h : ∀ s x, exF (Γ := U) LF G0 S A fn c R s (vG ts x) = g x) : j8 U Tryz.prog G0 f (qH (jP ts R g)) := by
 have hl : LF = jC.of Tryz.prog := jC.fast_eq Tryz.prog 330 310
 rw [hl] at hf h
 exact zVa mixed hS hf hb h
theorem zRM {S : zS U} {A : Nat → Option JA} (hS : qD U Tryz.prog G0 S.toS) {f : FuncId} {fn : Func} {c : Code} (hf : LF.fn f = some fn) (hb : fn.body = some c)
  {ts : List ATy} {R : RTy} {g : ElA ts → Option R.El} (h : ∀ s x, exF (Γ := U) LF G0 S A fn c R s (zTQ ts x) = g x) : j8 U Tryz.prog G0 f (qH (zUn ts R g)) := by
 have hl : LF = jC.of Tryz.prog := jC.fast_eq Tryz.prog 330 310
 rw [hl] at hf h
 exact zVc mixed hS hf hb h
theorem zBf {S : zS U} {A : Nat → Option JA} (hS : qD U Tryz.prog G0 S.toS) {f : FuncId} {fn : Func} {c : Code} (hf : LF.fn f = some fn) (hb : fn.body = some c)
  {X : Type} {dec : List V → Option X} {enc : X → List V} (hdec : ∀ ds x, dec ds = some x → j7 ds (enc x)) {R : RTy} {g : X → Option R.El} (h : ∀ s x, exF (Γ := U) LF G0 S A fn c R s (enc x) = g x) : j8 U Tryz.prog G0 f (qH (wI dec R g)) := by
 have hl : LF = jC.of Tryz.prog := jC.fast_eq Tryz.prog 330 310
 rw [hl] at hf h
 exact zMc mixed hS hf hb hdec h
theorem wN {S : zS U} {A : Nat → Option JA} (hS : qD U Tryz.prog G0 S.toS) {f : FuncId} {fn : Func} {c : Code} (hf : LF.fn f = some fn) (hb : fn.body = some c)
  {t : Ty} {ts : List ATy} {R : RTy} (hpl : R.pl = true) (hno : ∀ ty, R ≠ .o ty) {g : List t.El → ElA ts → Option (List t.El × R.El)} (h : ∀ s xs x, zXs (Γ := U) LF G0 S A fn c t R s xs (zTQ ts x) = g xs x) : zAv U Tryz.prog G0 f t (kB ts) R g := by
 have hl : LF = jC.of Tryz.prog := jC.fast_eq Tryz.prog 330 310
 rw [hl] at hf h
 exact zVb mixed hS hf hb (zHz ts) (zVu ts) hpl hno h
theorem zRL {tE : Ty} {S : zS (jN tE)} {A : Nat → Option JA} (hst : ∀ k j, A k = some j → zDA j.sl = true) (hS : qD (jN tE) Tryz.prog G0 S.toS) {f : FuncId} {fn : Func} {c : Code} (hf : LF.fn f = some fn) (hb : fn.body = some c)
  {ts : List Ty} {R : RTy} {g : HSt tE → ElS ts → Option (HSt tE × R.El)} (h : ∀ s x, zXr (Γ := jN tE) LF G0 S A fn c R s (vG ts x) = g s x) : j8 (jN tE) Tryz.prog G0 f (qH (zJ7 (zCL ts) R g)) := by
 have hl : LF = jC.of Tryz.prog := jC.fast_eq Tryz.prog 330 310
 rw [hl] at hf h
 exact zU9 hst mixed hS hf hb (vC ts) h
structure Ent where
 ad : zS U → zS U
 ok : ∀ S : zS U, qD U Tryz.prog G0 S.toS → qD U Tryz.prog G0 (ad S).toS
def qG {f : FuncId} {sp : U.St → List V → Option (zDM U.St)} (hi : zKP Tryz.prog f = true) (h : j8 U Tryz.prog G0 f (qH sp)) : Ent := ⟨fun S => S.add f sp, fun _ hS => qS hS hi h⟩
def zXu {f : FuncId} {t : Ty} {X : Type} {dec : List V → Option X} {R : RTy} {g : List t.El → X → Option (List t.El × R.El)} (hi : zKP Tryz.prog f = true) (h : zAv U Tryz.prog G0 f t dec R g) : Ent := ⟨fun S => S.addB f (wM t dec R g), fun _ hS => jR hS hi h⟩
def zYj {f : FuncId} {t : Ty} {X : Type} {dec : List V → Option X} {g : List t.El → X → Option (List t.El)} (hi : zKP Tryz.prog f = true) (h : zS1 U Tryz.prog G0 f t dec g) : Ent := ⟨fun S => S.addB f (zCR t dec g), fun _ hS => zPu hS hi h⟩
def zWx : List Ent → zS U
 | [] => zS.none U
 | e :: r => e.ad (zWx r)
theorem zOZ : ∀ l, qD U Tryz.prog G0 (zWx l).toS
 | [] => qC
 | e :: r => e.ok _ (zOZ r)
abbrev OkX (f : FuncId) (ts : List Ty) (R : RTy) (g : ElS ts → Option R.El) : Prop := j8 U Tryz.prog G0 f (qH (jP ts R g))
abbrev OkA (f : FuncId) (ts : List ATy) (R : RTy) (g : ElA ts → Option R.El) : Prop := j8 U Tryz.prog G0 f (qH (zUn ts R g))
theorem fX (l : List Ent) {A : Nat → Option JA} {f : FuncId} {fn : Func} (hf : LF.fn f = some fn) (hb : fn.body = some (vD fn))
  {ts : List Ty} {R : RTy} {g : ElS ts → Option R.El} (h : ∀ s x, exF (Γ := U) LF G0 (zWx l) A fn (vD fn) R s (vG ts x) = g x) : OkX f ts R g := zTz (zOZ l) hf hb h
theorem fA (l : List Ent) {A : Nat → Option JA} {f : FuncId} {fn : Func} (hf : LF.fn f = some fn) (hb : fn.body = some (vD fn))
  {ts : List ATy} {R : RTy} {g : ElA ts → Option R.El} (h : ∀ s x, exF (Γ := U) LF G0 (zWx l) A fn (vD fn) R s (zTQ ts x) = g x) : OkA f ts R g := zRM (zOZ l) hf hb h
def jj (k b : Nat) (l : List (Nat × Nat × Nat)) (s : List zAx) : Nat × JA := (k, ⟨b, l, s⟩)
def jl : List (Nat × JA) → Nat → Option JA
 | [], _ => none
 | (a, j) :: r, k => match Nat.beq a k with
  | true => some j
  | false => jl r k
end Go.Ve

namespace Go.Ve
open Go Go.Proofs
set_option maxRecDepth 1000000
set_option maxHeartbeats 0
theorem zOI : OkX 128 [tI] (.p tU) zAo := fX [] (A := (jl [jj 16 22906404928 [] [.t 3 tU], jj 13 22906492224 [] [.t 4 tI, .t 3 tU], jj 28 22906492224 [] [.t 3 tU]])) (fn := Tryz.f128) (by kernel_rfl) (by kernel_rfl) (by rintro ⟨⟩ ⟨a1, ⟨⟩⟩; kernel_rfl)
noncomputable def zFI : Ent := qG (by kernel_rfl) zOI
theorem zM7 : OkX 71 [zG] (.p .bool) wA := fX [zFI] (A := (jl [jj 6 366503875920 [] [.t 2 .bool]])) (fn := Tryz.f71) (by kernel_rfl) (by kernel_rfl) (by rintro ⟨⟩ ⟨a1, ⟨⟩⟩; kernel_rfl)
noncomputable def zAS : Ent := qG (by kernel_rfl) zM7
theorem zJr : OkX 101 [zG, tU] (.p .bool) uW := fX [zFI] (A := fun _ => none) (fn := Tryz.f101) (by kernel_rfl) (by kernel_rfl) (by rintro ⟨⟩ ⟨a1, a2, ⟨⟩⟩; kernel_rfl)
noncomputable def zKZ : Ent := qG (by kernel_rfl) zJr
theorem zLP : OkX 44 [zG, zG] (.p .bool) vQ := fX [zKZ] (A := (jl [jj 6 1431655680 [] [.t 4 .bool]])) (fn := Tryz.f44) (by kernel_rfl) (by kernel_rfl) (by rintro ⟨⟩ ⟨a1, a2, ⟨⟩⟩; kernel_rfl)
noncomputable def zGF : Ent := qG (by kernel_rfl) zLP
theorem zHa : OkX 64 [zH, .str] (.p tI) jH := fX [] (A := (jl [jj 9 5864062014720 [] [.t 5 tI], jj 24 5864062014720 [] []])) (fn := Tryz.f64) (by kernel_rfl) (by kernel_rfl) (by rintro ⟨⟩ ⟨a1, a2, ⟨⟩⟩; kernel_rfl)
noncomputable def zAR : Ent := qG (by kernel_rfl) zHa
theorem zJp : OkX 134 [zH, .str] (.p tI) vZ := fX [] (A := (jl [jj 9 5864062014720 [] [.t 5 tI], jj 24 5864062014720 [] []])) (fn := Tryz.f134) (by kernel_rfl) (by kernel_rfl) (by rintro ⟨⟩ ⟨a1, a2, ⟨⟩⟩; kernel_rfl)
noncomputable def zEF : Ent := qG (by kernel_rfl) zJp
theorem zLO : OkX 248 [(.int .u8)] (.p .bool) zBr := fX [] (A := (jl [jj 6 5726623056 [] [.t 2 .bool]])) (fn := Tryz.f248) (by kernel_rfl) (by kernel_rfl) (by rintro ⟨⟩ ⟨a1, ⟨⟩⟩; kernel_rfl)
noncomputable def zNk : Ent := qG (by kernel_rfl) zLO
theorem zOH : OkX 202 [.str] (.p .bool) zAn := fX [zNk] (A := (jl [jj 6 91625968640 [] [.t 18 .bool], jj 30 1730765619511609185490967430430720 [] [.t 55 .bool], jj 17 1730765619511609209510073817104720 [] [.t 3 tI], jj 36 1730765619511609209510073817104720 [] []])) (fn := Tryz.f202) (by kernel_rfl) (by kernel_rfl) (by rintro ⟨⟩ ⟨a1, ⟨⟩⟩; kernel_rfl)
noncomputable def zBy : Ent := qG (by kernel_rfl) zOH
theorem zLN : OkX 203 [tI, tI, tI] (.p .bool) zU := fX [] (A := (jl [jj 6 357912576 [] [.t 6 .bool]])) (fn := Tryz.f203) (by kernel_rfl) (by kernel_rfl) (by rintro ⟨⟩ ⟨a1, a2, a3, ⟨⟩⟩; kernel_rfl)
noncomputable def jL : Ent := qG (by kernel_rfl) zLN
theorem zEA : OkX 113 [tU, tI] (.p zG) wG := fX [zFI] (A := fun _ => none) (fn := Tryz.f113) (by kernel_rfl) (by kernel_rfl) (by rintro ⟨⟩ ⟨a1, a2, ⟨⟩⟩; kernel_rfl)
noncomputable def zMB : Ent := qG (by kernel_rfl) zEA
theorem zJq : OkX 249 [zG, zG] (.p .bool) v6 := fX [zGF] (A := (jl [jj 6 22369536 [] [.t 4 .bool]])) (fn := Tryz.f249) (by kernel_rfl) (by kernel_rfl) (by rintro ⟨⟩ ⟨a1, a2, ⟨⟩⟩; kernel_rfl)
noncomputable def zEG : Ent := qG (by kernel_rfl) zJq
theorem zG9 : OkX 204 [(.sl qA)] (.p tI) vL := fX [zEG, zMB, jL, zBy] (A := (jl [jj 41 6296488550001201382416 [] [.t 5 tI], jj 56 6296488550001201382416 [] [], jj 58 27043212798572405254770141429760 [] [.t 52 .bool], jj 66 133911503688249189628496841001387004071981355583303067893760 [] [.t 98 .bool], jj 74 38597363079105398340612157981313446322593153860116637802968945187404973604864 [] [.t 127 .bool], jj 94 45567723432979415051570096605279850406945466927309786544954066201002041624518809725788842937548800 [] [.t 162 .bool], jj 85 45567723432979415091055199035204673046383172815272363122919130971985473961973845872487220144771088 [] [.t 6 tI], jj 20 45567723432979415091093796398283778444857696476941925758870220966874020816653665067156523089663760 [] [], jj 17 45567723432979415091093796398283778444857696476941925758870220966874020816653665067156524520970064 [] [.t 3 tI], jj 100 45567723432979415091093796398283778444857696476941925758870220966874020816653665067156524520970064 [] []])) (fn := Tryz.f204) (by kernel_rfl) (by kernel_rfl) (by rintro ⟨⟩ ⟨a1, ⟨⟩⟩; kernel_rfl)
noncomputable def zIM : Ent := qG (by kernel_rfl) zG9
theorem zDw : OkX 250 [uX] (.p .bool) vP := fX [zAS] (A := (jl [jj 6 1501199875790160 [] [.t 2 .bool]])) (fn := Tryz.f250) (by kernel_rfl) (by kernel_rfl) (by rintro ⟨⟩ ⟨a1, ⟨⟩⟩; kernel_rfl)
noncomputable def zEk : Ent := qG (by kernel_rfl) zDw
theorem zGj : OkX 205 [(.sl jI)] (.p tI) kS := fX [zEk, zBy] (A := (jl [jj 37 25185954569440712458512 [] [.t 4 tI], jj 52 25185954569440712458512 [] [], jj 73 7433581732836780243977355534074804751565840 [] [.t 5 tI], jj 20 7433581732843541047178572757549453477414160 [] [], jj 17 7433581732843541047178572757549453835240784 [] [.t 3 tI], jj 88 7433581732843541047178572757549453835240784 [] []])) (fn := Tryz.f205) (by kernel_rfl) (by kernel_rfl) (by rintro ⟨⟩ ⟨a1, ⟨⟩⟩; kernel_rfl)
noncomputable def zHs : Ent := qG (by kernel_rfl) zGj
theorem zIj : OkX 206 [zH] (.p tI) yG := fX [jL, zAR, zBy] (A := (jl [jj 41 6447604369776822389310480 [] [.t 5 tI], jj 56 6447604369776822389310480 [] [], jj 90 124714687448262656856724350867958696886044878438400 [] [.t 83 .bool], jj 98 8986648889050213140174198643436161204497942415724039816394959749120 [] [.t 111 .bool], jj 77 8986648889050213264889005029006541827113428629237647983535760396304 [] [.t 6 tI], jj 24 8986648889050213264889005029006543557879048140846857493609577501712 [] [], jj 21 8986648889050213264889005029006543557879048140846857493701181101328 [] [.t 4 tI], jj 104 8986648889050213264889005029006543557879048140846857493701181101328 [] []])) (fn := Tryz.f206) (by kernel_rfl) (by kernel_rfl) (by rintro ⟨⟩ ⟨a1, ⟨⟩⟩; kernel_rfl)
noncomputable def zJO : Ent := qG (by kernel_rfl) zIj
theorem zM5 : OkX 279 [zJ] (.p .bool) zCg := fX [] (A := (jl [jj 6 22906492240 [] [.t 2 .bool]])) (fn := Tryz.f279) (by kernel_rfl) (by kernel_rfl) (by rintro ⟨⟩ ⟨a1, ⟨⟩⟩; kernel_rfl)
noncomputable def zO1 : Ent := qG (by kernel_rfl) zM5
theorem zP1 : OkX 280 [zJ] (.p .bool) zFm := fX [] (A := fun _ => none) (fn := Tryz.f280) (by kernel_rfl) (by kernel_rfl) (by rintro ⟨⟩ ⟨a1, ⟨⟩⟩; kernel_rfl)
noncomputable def zR3 : Ent := qG (by kernel_rfl) zP1
theorem zIm : OkX 251 [zPv] (.p .bool) zAK := fX [zR3, zO1, jL] (A := (jl [jj 6 100743818301219097892160 [] [.t 38 .bool], jj 14 6923062477945693019739442674401296 [] [.t 2 .bool]])) (fn := Tryz.f251) (by kernel_rfl) (by kernel_rfl) (by rintro ⟨⟩ ⟨a1, ⟨⟩⟩; kernel_rfl)
noncomputable def zJR : Ent := qG (by kernel_rfl) zIm
theorem zGk : OkX 207 [(.sl zJb)] (.p tI) kU := fX [zJR, zBy] (A := (jl [jj 37 25185954569440712458512 [] [.t 4 tI], jj 52 25185954569440712458512 [] [], jj 73 7433581732836780243977355534074804751565840 [] [.t 5 tI], jj 20 7433581732843541047178572757549453477414160 [] [], jj 17 7433581732843541047178572757549453835240784 [] [.t 3 tI], jj 88 7433581732843541047178572757549453835240784 [] []])) (fn := Tryz.f207) (by kernel_rfl) (by kernel_rfl) (by rintro ⟨⟩ ⟨a1, ⟨⟩⟩; kernel_rfl)
noncomputable def zHt : Ent := qG (by kernel_rfl) zGk
theorem zP2 : OkX 252 [zH, .str] (.p tI) zCh := fX [] (A := (jl [jj 9 5864062014720 [] [.t 5 tI], jj 24 5864062014720 [] []])) (fn := Tryz.f252) (by kernel_rfl) (by kernel_rfl) (by rintro ⟨⟩ ⟨a1, a2, ⟨⟩⟩; kernel_rfl)
noncomputable def zMA : Ent := qG (by kernel_rfl) zP2
theorem zFq : OkX 208 [zH] (.p tI) vO := fX [zMA, jL] (A := (jl [jj 42 412646679760292225090585600 [] [.t 5 .bool], jj 50 30447950777727144122641087138733868110036599808 [] [.t 5 .bool], jj 58 37692737381938865697777012862015049227352017065451593534499925742265041920 [] [.t 5 .bool], jj 60 37692737381938865697777013349182261670986323133346537773260926430180541440 [] [.t 5 .bool], jj 70 632378593604264737584744508361900640506471740472781533529553313286966197459353600 [] [.t 134 .bool], jj 17 632379196688062848606595672794114227422658476253951667074157685461882905339889488 [] [.t 3 tI], jj 76 632379196688062848606595672794114227422658476253951667074157685461882905339889488 [] []])) (fn := Tryz.f208) (by kernel_rfl) (by kernel_rfl) (by rintro ⟨⟩ ⟨a1, ⟨⟩⟩; kernel_rfl)
noncomputable def zGs : Ent := qG (by kernel_rfl) zFq
theorem zKF : OkX 209 [zH] (.p tI) zAJ := fX [zMA] (A := (jl [jj 22 100743818301213371269120 [] [.t 38 .bool], jj 9 100743818301219097892688 [] [.t 3 tI], jj 28 100743818301219097892688 [] []])) (fn := Tryz.f209) (by kernel_rfl) (by kernel_rfl) (by rintro ⟨⟩ ⟨a1, ⟨⟩⟩; kernel_rfl)
noncomputable def zMz : Ent := qG (by kernel_rfl) zKF
theorem zKG : OkX 174 [zH, tU] (.p tI) uL := fX [] (A := (jl [jj 18 384307168179912704 [] [.t 29 .bool], jj 9 1537228672809129216 [] [.t 5 tI], jj 24 1537228672809129216 [] []])) (fn := Tryz.f174) (by kernel_rfl) (by kernel_rfl) (by rintro ⟨⟩ ⟨a1, a2, ⟨⟩⟩; kernel_rfl)
noncomputable def zFH : Ent := qG (by kernel_rfl) zKG
theorem zIn : OkX 172 [zH, .str] (.p tI) kW := fX [] (A := (jl [jj 9 5864062014720 [] [.t 5 tI], jj 24 5864062014720 [] []])) (fn := Tryz.f172) (by kernel_rfl) (by kernel_rfl) (by rintro ⟨⟩ ⟨a1, a2, ⟨⟩⟩; kernel_rfl)
noncomputable def zJS : Ent := qG (by kernel_rfl) zIn
theorem zKE : OkX 210 [zH] (.p tI) xB := fX [zJS, jL, zFH, zAS] (A := (jl [jj 40 95982967058334720 [] [.t 5 tI], jj 48 98286558267733705728 [] [.t 5 tI], jj 56 25087571940244990198784 [] [.t 5 tI], jj 58 464598858302721315423474842771536090234880 [] [.t 69 .bool], jj 88 1995436901704527259351376376153304285490059033972736 [] [], jj 102 2246662222260509988834430072107158093433561622966889387929056051200 [] [.t 110 .bool], jj 93 2246662222262551320785349088125518235372070433246631536525402193936 [] [.t 7 tI], jj 20 2246662222262553316222251257251635889469762035211714373333674907408 [] [], jj 17 2246662222262553316222251257251635889469762035211714373425295284048 [] [.t 3 tI], jj 108 2246662222262553316222251257251635889469762035211714373425295284048 [] []])) (fn := Tryz.f210) (by kernel_rfl) (by kernel_rfl) (by rintro ⟨⟩ ⟨a1, ⟨⟩⟩; kernel_rfl)
noncomputable def zMy : Ent := qG (by kernel_rfl) zKE
theorem zDv : OkX 253 [zH, (.sl zCP), tI, tI, tI] (.p tI) jT := fX [zEF, jL] (A := (jl [jj 30 1690200800304299863862767779840 [] [.t 50 .bool], jj 38 7433581732841850846378268451680791564386304 [] [.t 71 .bool], jj 46 7794667965516416053545271929247418555377804902400 [] [.t 81 .bool], jj 57 523091803487547997888166888180986426855020182207097470976 [] [.t 13 tI], jj 20 523091811282223396986315785267305534675196263582539972608 [] [], jj 17 523091811282223396986315785267305534675196287033065603072 [] [.t 11 tI], jj 72 523091811282223396986315785267305534675196287033065603072 [] []])) (fn := Tryz.f253) (by kernel_rfl) (by kernel_rfl) (by rintro ⟨⟩ ⟨a1, a2, a3, a4, a5, ⟨⟩⟩; kernel_rfl)
noncomputable def uN : Ent := qG (by kernel_rfl) zDv
theorem zIl : OkX 211 [zH] (.p tI) yH := fX [uN, zEG, zAS, jL] (A := (jl [jj 14 1501199874392064 [] [.t 25 .bool], jj 54 110768999647131088315831082790420480 [] [.t 58 .bool], jj 74 8173309551284740464483728504488827824841739507723141120 [] [.t 91 .bool], jj 65 8173309551284740577800415145152905989891291396622517264 [] [.t 5 tI], jj 48 8173309551284740577911184144800037078207122479412937744 [] [], jj 45 8173309551284740577911184144801648880917306925194937616 [] [.t 4 tI], jj 80 8173309551284740577911184144801648880917306925194937616 [] []])) (fn := Tryz.f211) (by kernel_rfl) (by kernel_rfl) (by rintro ⟨⟩ ⟨a1, ⟨⟩⟩; kernel_rfl)
noncomputable def zJQ : Ent := qG (by kernel_rfl) zIl
theorem zJo : OkX 212 [zH] (.p tI) xW := fX [uN, zAR, jL] (A := (jl [jj 14 24019198012555264 [] [.t 27 .bool], jj 34 108172851219469426679694103674880 [] [.t 53 .bool]])) (fn := Tryz.f212) (by kernel_rfl) (by kernel_rfl) (by rintro ⟨⟩ ⟨a1, ⟨⟩⟩; kernel_rfl)
noncomputable def zKY : Ent := qG (by kernel_rfl) zJo
theorem zIk : OkX 254 [zH] (.p tI) zAI := fX [zEF, jL] (A := (jl [jj 30 24595658742039576576 [] [.t 32 .bool], jj 38 7259357160980020553860729299779442442240 [] [.t 66 .bool], jj 49 31178701589133238427365255877395379460782172406800 [] [.t 5 tI], jj 24 31178701596392595588345276431280704419303654425616 [] [], jj 21 31178701596392595588345276431280704419326555325712 [] [.t 4 tI], jj 64 31178701596392595588345276431280704419326555325712 [] []])) (fn := Tryz.f254) (by kernel_rfl) (by kernel_rfl) (by rintro ⟨⟩ ⟨a1, ⟨⟩⟩; kernel_rfl)
noncomputable def zJP : Ent := qG (by kernel_rfl) zIk
theorem zFr : OkX 255 [tPV] (.p tI) u9 := fX [zAS] (A := (jl [jj 37 103161669916429158228951312 [] [.t 4 tI], jj 20 103161669940446890226090256 [] [], jj 17 103161669940448356152115536 [] [.t 3 tI], jj 52 103161669940448356152115536 [] [], jj 85 1948668849746180360361501571666429475588596043792 [] [.t 6 tI], jj 68 1948668849774536791580174899052741648666549293072 [] [], jj 65 1948668849774537224245170389450289247010062078992 [] [.t 5 tI], jj 100 1948668849774537224245170389450289247010062078992 [] [], jj 126 8776015936244118375918817192586638416352703146905166652479897600 [] [.t 106 .bool], jj 145 2412335183457438515607515589458659717936581122655130276641842173130320379920 [] [.t 9 tI], jj 116 2412335192444087404649555544796380006365213496389376768509399724846544781328 [] [], jj 113 2412335192444087404657728355488439204661595267009755516997428957606549340176 [] [.t 7 tI], jj 160 2412335192444087404657728355488439204661595267009755516997428957606549340176 [] []])) (fn := Tryz.f255) (by kernel_rfl) (by kernel_rfl) (by rintro ⟨⟩ ⟨a1, ⟨⟩⟩; kernel_rfl)
noncomputable def zGt : Ent := qG (by kernel_rfl) zFr
theorem zG8 : OkX 213 [zH] (.p tI) uR := fX [uN, zGt, zJP, jL] (A := (jl [jj 14 1611901092819505564876800 [] [.t 40 .bool], jj 26 1730765617899708116690659876798464 [] [.t 55 .bool]])) (fn := Tryz.f213) (by kernel_rfl) (by kernel_rfl) (by rintro ⟨⟩ ⟨a1, ⟨⟩⟩; kernel_rfl)
noncomputable def zIL : Ent := qG (by kernel_rfl) zG8
theorem zGm : OkX 173 [zH] (.p tI) w5 := fX [zIL, zKY, zJQ, zMy, zMz, zGs, zHt, zJO, zHs, zIM, jL, zBy] (A := (jl [jj 29 6760803194920734830822890144016 [] [.t 4 tI], jj 44 6760803194920734830822890144016 [] []])) (fn := Tryz.f173) (by kernel_rfl) (by kernel_rfl) (by rintro ⟨⟩ ⟨a1, ⟨⟩⟩; kernel_rfl)
noncomputable def zHv : Ent := qG (by kernel_rfl) zGm
theorem zM6 : OkX 144 [zQ] (.p tI) v2 := fX [zFH, zHv] (A := (jl [jj 41 6602346876092618007411426320 [] [.t 5 tI], jj 56 6602346876092618007411426320 [] [], jj 86 1995436894735544384810556644423392325287446063349760 [] [.t 85 .bool], jj 77 1995436902161866760493117671048079757878355510231056 [] [.t 8 tI], jj 64 1995436902169126089961847779416217730674252809617424 [] [], jj 61 1995436902169126117654091089255088894142100436799504 [] [.t 6 tI], jj 20 1995436902169126117654097691601965010778939356992784 [] [], jj 17 1995436902169126117654097691601965082836899876427088 [] [.t 3 tI], jj 92 1995436902169126117654097691601965082836899876427088 [] []])) (fn := Tryz.f144) (by kernel_rfl) (by kernel_rfl) (by rintro ⟨⟩ ⟨a1, ⟨⟩⟩; kernel_rfl)
end Go.Ve

namespace Go.Ve
open Go Go.Proofs
set_option maxRecDepth 1000000
set_option maxHeartbeats 0
theorem zKH : OkX 72 [tI, tI, tI] (.p .bool) qM := fX [] (A := (jl [jj 6 357912576 [] [.t 6 .bool]])) (fn := Tryz.f72) (by kernel_rfl) (by kernel_rfl) (by rintro ⟨⟩ ⟨a1, a2, a3, ⟨⟩⟩; kernel_rfl)
noncomputable def yS : Ent := qG (by kernel_rfl) zKH
theorem zLQ : OkX 73 [zA, .bool, .bool, .bool] (.p .bool) wW := fX [] (A := (jl [jj 6 6447604371278022265077760 [] [.t 8 .bool]])) (fn := Tryz.f73) (by kernel_rfl) (by kernel_rfl) (by rintro ⟨⟩ ⟨a1, a2, a3, a4, ⟨⟩⟩; kernel_rfl)
noncomputable def x7 : Ent := qG (by kernel_rfl) zLQ
theorem zJs : OkX 129 [qY, qY] (.p .bool) zBl := fX [] (A := (jl [jj 6 93824992236800 [] [.t 4 .bool]])) (fn := Tryz.f129) (by kernel_rfl) (by kernel_rfl) (by rintro ⟨⟩ ⟨a1, a2, ⟨⟩⟩; kernel_rfl)
noncomputable def zK0 : Ent := qG (by kernel_rfl) zJs
theorem zM8 : OkX 74 [(.sl qY), .bool] (.p .bool) vA := fX [zK0] (A := (jl [jj 18 412646679761793424960782336 [] [.t 44 .bool], jj 9 412646679761793424966374656 [] [.t 5 tI], jj 24 412646679761793424966374656 [] []])) (fn := Tryz.f74) (by kernel_rfl) (by kernel_rfl) (by rintro ⟨⟩ ⟨a1, a2, ⟨⟩⟩; kernel_rfl)
noncomputable def zAT : Ent := qG (by kernel_rfl) zM8
theorem zFs : OkX 75 [zA] (.p .bool) yA := fX [zAT, x7, yS] (A := (jl [jj 6 5864062014784 [] [.t 21 .bool], jj 18 393529039039261310992 [] [.t 2 .bool], jj 30 1690194352699934590640005840912 [] [.t 2 .bool]])) (fn := Tryz.f75) (by kernel_rfl) (by kernel_rfl) (by rintro ⟨⟩ ⟨a1, ⟨⟩⟩; kernel_rfl)
noncomputable def zGu : Ent := qG (by kernel_rfl) zFs
theorem zDx : OkX 76 [zA] (.p .bool) vT := fX [zAT, x7, yS] (A := (jl [jj 6 93824992236864 [] [.t 23 .bool], jj 14 25185954481479782236160 [] [.t 37 .bool], jj 26 110768999648340014135445711965126672 [] [.t 2 .bool], jj 30 29037317874920433472551891183589197348880 [] [.t 2 .bool]])) (fn := Tryz.f76) (by kernel_rfl) (by kernel_rfl) (by rintro ⟨⟩ ⟨a1, ⟨⟩⟩; kernel_rfl)
noncomputable def zEl : Ent := qG (by kernel_rfl) zDx
theorem zD9 : OkX 77 [zA] (.p .bool) wO := fX [zAT, x7, yS] (A := (jl [jj 6 5864062014784 [] [.t 21 .bool], jj 22 412646679760292225090584592 [] [.t 2 .bool], jj 38 7089188934306746453259739058493456400 [] [.t 2 .bool]])) (fn := Tryz.f77) (by kernel_rfl) (by kernel_rfl) (by rintro ⟨⟩ ⟨a1, ⟨⟩⟩; kernel_rfl)
noncomputable def zE4 : Ent := qG (by kernel_rfl) zD9
theorem zHb : OkX 78 [zA] (.p .bool) zAc := fX [zAT, x7, yS] (A := (jl [jj 6 93824992236864 [] [.t 23 .bool], jj 24 94575592174780416 [] [.t 26 .bool], jj 26 6760803201217127397857033191440 [] [.t 2 .bool], jj 36 425930601676685078902892277006336 [] [.t 52 .bool], jj 38 523091811282223396986315352575900656772893909497308774416 [] [.t 2 .bool]])) (fn := Tryz.f78) (by kernel_rfl) (by kernel_rfl) (by rintro ⟨⟩ ⟨a1, ⟨⟩⟩; kernel_rfl)
noncomputable def zIN : Ent := qG (by kernel_rfl) zHb
theorem zLR : OkX 32 [zA] (.p .bool) wY := fX [zIN, zE4, zEl, zGu, zAT, x7, yS, zAS] (A := (jl [jj 6 366503875840 [] [.t 19 .bool], jj 17 98382634693280399440 [] [.t 3 tI], jj 32 98382634693280399440 [] [], jj 42 1902996923607946508077689439978084877069189136 [] [.t 2 .bool]])) (fn := Tryz.f32) (by kernel_rfl) (by kernel_rfl) (by rintro ⟨⟩ ⟨a1, ⟨⟩⟩; kernel_rfl)
noncomputable def zNl : Ent := qG (by kernel_rfl) zLR
theorem zEB : OkX 102 [zG, zG] (.p tI) vR := fX [] (A := (jl [jj 6 93824992236544 [] [.t 23 .bool]])) (fn := Tryz.f102) (by kernel_rfl) (by kernel_rfl) (by rintro ⟨⟩ ⟨a1, a2, ⟨⟩⟩; kernel_rfl)
noncomputable def zMC : Ent := qG (by kernel_rfl) zEB
theorem zLS : OkX 45 [(.sl zA), tI] (.p .bool) zCV := fX [zMC, zNl] (A := (jl [jj 18 422550200076076467165562142720 [] [.t 49 .bool], jj 9 422550200076076467165567735040 [] [.t 5 tI], jj 24 422550200076076467165567735040 [] []])) (fn := Tryz.f45) (by kernel_rfl) (by kernel_rfl) (by rintro ⟨⟩ ⟨a1, a2, ⟨⟩⟩; kernel_rfl)
noncomputable def zNm : Ent := qG (by kernel_rfl) zLS
theorem zGh : OkX 176 [(.sl zJ), zJ] (.p tI) yZ := fX [] (A := (jl [jj 9 91625948416 [] [.t 8 tI], jj 28 91625968896 [] []])) (fn := Tryz.f176) (by kernel_rfl) (by kernel_rfl) (by rintro ⟨⟩ ⟨a1, a2, ⟨⟩⟩; kernel_rfl)
noncomputable def zHq : Ent := qG (by kernel_rfl) zGh
theorem zD7 : OkX 152 [(.sl zJ), zJ] (.p .bool) kF := fX [zHq] (A := fun _ => none) (fn := Tryz.f152) (by kernel_rfl) (by kernel_rfl) (by rintro ⟨⟩ ⟨a1, a2, ⟨⟩⟩; kernel_rfl)
noncomputable def zE2 : Ent := qG (by kernel_rfl) zD7
theorem zLK : OkX 117 [zW, tI, tI] (.p tI) zAl := fX [zE2] (A := (jl [jj 13 24019192286875648 [] [.t 17 tI], jj 32 24019197991129088 [] []])) (fn := Tryz.f117) (by kernel_rfl) (by kernel_rfl) (by rintro ⟨⟩ ⟨a1, a2, a3, ⟨⟩⟩; kernel_rfl)
noncomputable def zDf : Ent := qG (by kernel_rfl) zLK
theorem zGg : OkX 135 [(.sl tI), tI] (.p tI) kR := fX [] (A := (jl [jj 9 91625948416 [] [.t 8 tI], jj 28 91625968896 [] []])) (fn := Tryz.f135) (by kernel_rfl) (by kernel_rfl) (by rintro ⟨⟩ ⟨a1, a2, ⟨⟩⟩; kernel_rfl)
noncomputable def zCu : Ent := qG (by kernel_rfl) zGg
theorem zOG : OkX 145 [zW, tI, tI] (.p tI) zFT := fX [zCu, zDf] (A := fun _ => none) (fn := Tryz.f145) (by kernel_rfl) (by kernel_rfl) (by rintro ⟨⟩ ⟨a1, a2, a3, ⟨⟩⟩; kernel_rfl)
noncomputable def zQB : Ent := qG (by kernel_rfl) zOG
theorem zD6 : OkX 87 [(.sl tI), tI] (.p .bool) kE := fX [zCu] (A := fun _ => none) (fn := Tryz.f87) (by kernel_rfl) (by kernel_rfl) (by rintro ⟨⟩ ⟨a1, a2, ⟨⟩⟩; kernel_rfl)
noncomputable def zE1 : Ent := qG (by kernel_rfl) zD6
theorem zRv : OkX 107 [zW, tI, tI] (.p .bool) zHN := fX [zE1, zQB, zDf] (A := (jl [jj 18 1501194149171200 [] [.t 6 .bool]])) (fn := Tryz.f107) (by kernel_rfl) (by kernel_rfl) (by rintro ⟨⟩ ⟨a1, a2, a3, ⟨⟩⟩; kernel_rfl)
noncomputable def zN8 : Ent := qG (by kernel_rfl) zRv
theorem zNf : OkX 109 [tI] (.p tI) zCE := fX [] (A := fun _ => none) (fn := Tryz.f109) (by kernel_rfl) (by kernel_rfl) (by rintro ⟨⟩ ⟨a1, ⟨⟩⟩; kernel_rfl)
noncomputable def zIR : Ent := qG (by kernel_rfl) zNf
theorem zOJ : OkX 108 [tI] (.p tU) zDK := fX [zIR] (A := fun _ => none) (fn := Tryz.f108) (by kernel_rfl) (by kernel_rfl) (by rintro ⟨⟩ ⟨a1, ⟨⟩⟩; kernel_rfl)
noncomputable def zKj : Ent := qG (by kernel_rfl) zOJ
theorem zJu : OkX 168 [zG, tU] (.p .bool) x9 := fX [zKj] (A := fun _ => none) (fn := Tryz.f168) (by kernel_rfl) (by kernel_rfl) (by rintro ⟨⟩ ⟨a1, a2, ⟨⟩⟩; kernel_rfl)
noncomputable def zK2 : Ent := qG (by kernel_rfl) zJu
theorem zKI : OkX 67 [zW, tI, tI] (.p tI) xD := fX [] (A := (jl [jj 21 103161669940448350515040256 [] [.t 8 tI], jj 12 103161669940448350515040256 [] [], jj 9 103161669940448356241592320 [] [.t 7 tI], jj 36 103161669940448356241592320 [] []])) (fn := Tryz.f67) (by kernel_rfl) (by kernel_rfl) (by rintro ⟨⟩ ⟨a1, a2, a3, ⟨⟩⟩; kernel_rfl)
noncomputable def zCv : Ent := qG (by kernel_rfl) zKI
theorem zNa : OkX 126 [zW, tI, tI] (.p tI) zD2 := fX [zCv] (A := (jl [jj 22 24595657298930565120 [] [.t 32 .bool], jj 13 98382635059761975296 [] [.t 8 tI], jj 28 98382635059761975296 [] []])) (fn := Tryz.f126) (by kernel_rfl) (by kernel_rfl) (by rintro ⟨⟩ ⟨a1, a2, a3, ⟨⟩⟩; kernel_rfl)
noncomputable def zO3 : Ent := qG (by kernel_rfl) zNa
theorem zP3 : OkX 66 [zW, tI, tI] (.p .bool) zH5 := fX [zO3, zCv] (A := (jl [jj 21 6148914668330094592 [] [.t 8 tI], jj 36 6148914668330094592 [] []])) (fn := Tryz.f66) (by kernel_rfl) (by kernel_rfl) (by rintro ⟨⟩ ⟨a1, a2, a3, ⟨⟩⟩; kernel_rfl)
noncomputable def zR4 : Ent := qG (by kernel_rfl) zP3
theorem zNb : OkX 103 [zH] (.p .bool) zEb := fX [] (A := (jl [jj 6 2092367245128893587945263141069222138700785148154678169600 [] [.t 95 .bool], jj 17 2246662220170186071093357669306372748400539896510929225270622683216 [] [.t 3 tI], jj 32 2246662220170186071093357669306372748400539896510929225270622683216 [] [], jj 37 2412335190197425182395175538125413489691488791064416382276985293406222680336 [] [.t 4 tI], jj 52 2412335190197425182395175538125413489691488791064416382276985293406222680336 [] [], jj 57 2590225187221970235448528471106963021175544371793061347801571462163172713442087797776 [] [.t 5 tI], jj 72 2590225187221970235448528471106963021175544371793061347801571462163172713442087797776 [] []])) (fn := Tryz.f103) (by kernel_rfl) (by kernel_rfl) (by rintro ⟨⟩ ⟨a1, ⟨⟩⟩; kernel_rfl)
noncomputable def zO4 : Ent := qG (by kernel_rfl) zNb
theorem zLV : OkX 46 [zQ] (.p .bool) zC2 := fX [zO4] (A := (jl [jj 17 5864061993040 [] [.t 3 tI], jj 32 5864061993040 [] []])) (fn := Tryz.f46) (by kernel_rfl) (by kernel_rfl) (by rintro ⟨⟩ ⟨a1, ⟨⟩⟩; kernel_rfl)
noncomputable def zNp : Ent := qG (by kernel_rfl) zLV
def zDg : Nat → Option JA := fun k => match k with
 | 84 => some ⟨184497489401772529385612327842172717039008268166646221893471402059821287234759868672175917131173661172843563441437060059660158104845032398976807920666283692562120150139178769612799511748636278282415866878160176201872937423527853931074825229289817028865471580173776186278979555862451026349435370470386779578868176354099221238174997807148290368091204552361327921521465467763204555046027307456204118567337113234081310864304329682188410055227959601689731512418582605896572426052789584762208778001498785021309361810928365592763602942101060634062780064931573442859418747069999582698364321162101164826918019197244306192189303006234838493212327877025209681605424513505280, [], [.v 5 [.o 1100 zN, .o 1101 tI], .st]⟩
 | 25 => some ⟨184497489401772529385612327842172717039008268166646221893471402059821287234759868672175917131173661172843563441437060059660158104845032398976807920666283692562120150139178769612799511748636278282415866878160176201872937423527853931074825229289817028865471580173776186278979555862451026349435370470386779578868176354099221238174997807148290368091204552361327921521465467763204555046027307456204118567337113234081310864304329682188410055227959601689731512418582605896572426052789584762208778001498785021309361810928365592763602942101060634062780064931573442859418747069999582698364321162101164826918019197244306192189303006234838493212327877025209681605424513505280, [], [.t 6 tI, .v 5 [.o 1100 zN, .o 1101 tI], .st]⟩
 | 28 => some ⟨184497489401772529385612327842172717039008268166646221893471402059821287234759868672175917131173661172843563441437060059660158104845032398976807920666283692562120150139178769612799511748636278282415866878160176201872937423527853931074825229289817028865471580173776186278979555862451026349435370470386779578868176354099221238174997807148290368091204552361327921521465467763204555046027307456204118567337113234081310864304329682188410055227959601689731512418582605896572426052789584762208778001498785021309361810928365592763602942101060634062780064931573442859418747069999582698364321162101164826918019197244306192189303006234838493212327877025209675600991514216448, [], [.v 5 [.o 1100 zN, .o 1101 tI], .st]⟩
 | 37 => some ⟨184497489401772529385612327842172717039008268166646221893471402059821287234759868672175917131173661172843563441437060059660158104845032398976807920666283692562120150139178769612799511748636278282415866878160176201872937423527853931074825229289817028865471580173776186278979555862451026349435370470386779578868176354099221238174997807148290368091204552361327921521465467763204555046027307456204118567337113234081310864304329682188410055227959601689731512418582605896572426052789584762208778001498785021309361810928365592763602942101060634062780064931573442859418747069999582698364321162101164826918019197244306192189303006234838493212327877025209675600991514216448, [], [.t 7 tI, .v 5 [.o 1100 zN, .o 1101 tI], .st]⟩
 | 40 => some ⟨184497489401772529385612327842172717039008268166646221893471402059821287234759868672175917131173661172843563441437060059660158104845032398976807920666283692562120150139178769612799511748636278282415866878160176201872937423527853931074825229289817028865471580173776186278979555862451026349435370470386779578868176354099221238174997807148290368091204552361327921521465467763204555046027307456204118567337113234081310864304329682188410055227959601689731512418582605896572426052789584762208778001498785021309361810928365592763602942101060634062780064931573442859418747069999582698364321162101164826918019197244306192189303006234838493212327877000023727030486242887680, [], [.v 5 [.o 1100 zN, .o 1101 tI], .st]⟩
 | 80 => some ⟨184497489401772529385612327842172717039008268166646221893471402059821287234759868672175917131173661172843563441437060059660158104845032398976807920666283692562120150139178769612799511748636278282415866878160176201872937423527853931074825229289817028865471580173776186278979555862451026349435370470386779578868176354099221238174997807148290368091204552361327921521465467763204555046027307456204118567337113234081310864304329682188410055227959601689731512418582605896572426052789584762208778001498785021309361810928365592763602942101060634062780064931573442859418747069821583778745688924935728571583505041672838009412557657231906458756740677065373698151113771976704, [], [.v 5 [.o 1100 zN, .o 1101 tI], .st]⟩
 | 70 => some ⟨150770949527755429313232131334431639559735035425831931880481358702119485440, [], [.t 123 .bool, .v 5 [.o 1100 zN, .o 1101 tI], .st]⟩
 | 68 => some ⟨33477875922062297407124099488107905476223153719886495090688, [], [.t 10 tI, .v 5 [.o 1100 zN, .o 1101 tI], .st]⟩
 | 61 => some ⟨33477875922062297407124099488107905476223153719886495090688, [], [.t 10 tI, .v 5 [.o 1100 zN, .o 1101 tI], .st]⟩
 | 62 => some ⟨2092367245128893587945152372069573395711376497566321475584, [], [.t 95 .bool, .v 5 [.o 1100 zN, .o 1101 tI], .st]⟩
 | 50 => some ⟨108166248872599386899585878196224, [], [.t 53 .bool, .v 5 [.o 1100 zN, .o 1101 tI], .st]⟩
 | 92 => some ⟨737989957607090117542449311368690868156033072666584887573885608239285148939039474688703668524694644691374253765748240238640632419380129595907231682665134770248480600556715078451198046994545113129663467512640704807491749694111415724299300917159268115461886320695104745115918223449804105397741481881547118315472705416396884952699991228593161472364818209445311686085861871052818220184109229824816474269348452936325243457217318728753640220911838406758926049674330423586289704211158339048835112005995140085237447243713462371054411768404242536251120259726293772220522512954229778033961281054049025040681255249323705639452069711332539928507387154905727039987508328794112, [], [.v 5 [.o 1100 zN, .o 1101 tI], .st]⟩
 | 89 => some ⟨737989957607090117542449311368690868156033072666584887573885608239285148939039474688703668524694644691374253765748240238640632419380129595907231682665134770248480600556715078451198046994545113129663467512640704807491749694111415724299300917159268115461886320695104745115918223449804105397741481881547118315472705416396884952699991228593161472364818209445311686085861871052818220184109229824816474269348452936325243457217318728753640220911838406758926049674330423586289704211158339048835112005995140085237447243713462371054411768404242536251120259726293772220522515870386078824983771043852409388662279710666054786872263881531095007792867776925237958836497535731712, [], [.t 12 tI, .v 5 [.o 1100 zN, .o 1101 tI], .st]⟩
 | 104 => some ⟨737989957607090117542449311368690868156033072666584887573885608239285148939039474688703668524694644691374253765748240238640632419380129595907231682665134770248480600556715078451198046994545113129663467512640704807491749694111415724299300917159268115461886320695104745115918223449804105397741481881547118315472705416396884952699991228593161472364818209445311686085861871052818220184109229824816474269348452936325243457217318728753640220911838406758926049674330423586289704211158339048835112005995140085237447243713462371054411768404242536251120259726293772220522515870386078824983771043852409388662279710666054786872263881531095007792867776925237958836497535731712, [], [.v 5 [.o 1100 zN, .o 1101 tI], .st]⟩
 | 83 => some ⟨0, [(16, 0, 8)], [.st]⟩
 | 79 => some ⟨0, [(14848, 1024, 0)], [.st]⟩
 | _ => none
theorem zKQ : ∀ k j, zDg k = some j → zDA j.sl = true := by
 intro k j h
 unfold zDg at h
 split at h <;> (cases h <;> rfl)
theorem zKM : j8 (jN zJ) Tryz.prog G0 104 (qH (zJ7 (zCL [zQ]) (.tu [zFc, tI]) zBm)) :=
 zRL (fn := Tryz.f104) (c := vD Tryz.f104) (S := (((((zS.none (jN zJ)).add 144 (jP [zQ] (.p tI) v2)).add 113 (jP [tU, tI] (.p zG) wG)).add 102 (jP [zG, zG] (.p tI) vR)).addH)) (A := zDg) zKQ (zJ5 (qS (qS (qS qC (by kernel_rfl) (zJy (by kernel_rfl) zM6)) (by kernel_rfl) (zJy (by kernel_rfl) zEA)) (by kernel_rfl) (zJy (by kernel_rfl) zEB)) (by kernel_rfl) (by kernel_rfl)) (by kernel_rfl) (by kernel_rfl) (by rintro st0 ⟨a1, ⟨⟩⟩; kernel_rfl)
theorem zLT : j8 U Tryz.prog G0 104 (qH (jP [zQ] (.tu [zHQ, tI]) zCW)) :=
 zKd (fun _ => rfl) (by kernel_rfl) zKM
noncomputable def zNn : Ent := qG (by kernel_rfl) zLT
theorem zHd : OkX 105 [(.sl tI), tI] (.p .bool) zAe := fX [] (A := (jl [jj 26 103161669940448355883679744 [] [.t 43 .bool], jj 17 103161669940448356241507584 [] [.t 5 tI], jj 32 103161669940448356241507584 [] []])) (fn := Tryz.f105) (by kernel_rfl) (by kernel_rfl) (by rintro ⟨⟩ ⟨a1, a2, ⟨⟩⟩; kernel_rfl)
noncomputable def zIP : Ent := qG (by kernel_rfl) zHd
theorem zM9 : OkX 47 [zQ, (.sl tI)] (.tu [zW, tI]) zD1 := fX [zIP, zNn] (A := (jl [jj 27 0 [(240, 3, 0)] []])) (fn := Tryz.f47) (by kernel_rfl) (by kernel_rfl) (by rintro ⟨⟩ ⟨a1, a2, ⟨⟩⟩; kernel_rfl)
noncomputable def zO2 : Ent := qG (by kernel_rfl) zM9
theorem zNd : OkX 14 [zQ, (.sl tI)] (.tu [zW, .bool]) zEc := fX [zO2, zNp] (A := (jl [jj 6 1431633920 [] [.t 15 .bool]])) (fn := Tryz.f14) (by kernel_rfl) (by kernel_rfl) (by rintro ⟨⟩ ⟨a1, a2, ⟨⟩⟩; kernel_rfl)
noncomputable def zO6 : Ent := qG (by kernel_rfl) zNd
end Go.Ve

namespace Go.Ve
open Go Go.Proofs
set_option maxRecDepth 1000000
set_option maxHeartbeats 0
theorem zLU : OkX 15 [zW, (.sl (.sl zA))] (.p .bool) zC1 := fX [zNm] (A := (jl [jj 26 24595658673320099840 [] [.t 32 .bool], jj 17 24595658764923700480 [] [.t 5 tI], jj 32 24595658764923700480 [] []])) (fn := Tryz.f15) (by kernel_rfl) (by kernel_rfl) (by rintro ⟨⟩ ⟨a1, a2, ⟨⟩⟩; kernel_rfl)
noncomputable def zNo : Ent := qG (by kernel_rfl) zLU
theorem zCJ : OkX 106 [zW, tI, tI] (.tu [qA, .bool]) j3 := fX [] (A := (jl [jj 6 98382635059784253440 [] [.t 33 .bool]])) (fn := Tryz.f106) (by kernel_rfl) (by kernel_rfl) (by rintro ⟨⟩ ⟨a1, a2, a3, ⟨⟩⟩; kernel_rfl)
noncomputable def x8 : Ent := qG (by kernel_rfl) zCJ
theorem zDy : OkX 48 [zW, tI, tI] (.p .bool) jW := fX [zN8, x8] (A := (jl [jj 10 6296488643824761966592 [] [.t 6 .bool]])) (fn := Tryz.f48) (by kernel_rfl) (by kernel_rfl) (by rintro ⟨⟩ ⟨a1, a2, a3, ⟨⟩⟩; kernel_rfl)
noncomputable def zAU : Ent := qG (by kernel_rfl) zDy
theorem zIg : OkX 57 [zW, tI, tI] (.p (.sl zJ)) zAB := fX [zDf, zN8] (A := (jl [jj 30 402974888897708189286400 [] [.t 39 .bool, .o 7 7 zJ], jj 36 103161669916429158229753856 [] [.o 7 7 zJ], jj 21 412646679760292225091387392 [] [.t 26 tI, .o 7 7 zJ], jj 40 412646679761793424609263616 [] [.o 7 7 zJ]])) (fn := Tryz.f57) (by kernel_rfl) (by kernel_rfl) (by rintro ⟨⟩ ⟨a1, a2, a3, ⟨⟩⟩; kernel_rfl)
noncomputable def zJL : Ent := qG (by kernel_rfl) zIg
theorem zEa : OkA 178 [.d jI, .pp .str] (.p .bool) xQ := fA [] (A := fun _ => none) (fn := Tryz.f178) (by kernel_rfl) (by kernel_rfl) (by rintro ⟨⟩ ⟨a1, a2, ⟨⟩⟩; kernel_rfl)
noncomputable def zA3 : Ent := qG (by kernel_rfl) zEa
theorem zAw : OkA 177 [.d (.sl jI), .clo 178 [(true, .str)]] (.p tI) j9 := fA [zA3] (A := (jl [jj 9 91625948416 [] [.t 8 tI], jj 28 91625968896 [] []])) (fn := Tryz.f177) (by kernel_rfl) (by kernel_rfl) (by rintro ⟨⟩ ⟨a1, ⟨a2, ⟨⟩⟩, ⟨⟩⟩; kernel_rfl)
noncomputable def zAQ : Ent := qG (by kernel_rfl) zAw
theorem zGn : OkX 153 [zH, .str] (.p tI) xE := fX [zAQ, zA3] (A := fun _ => none) (fn := Tryz.f153) (by kernel_rfl) (by kernel_rfl) (by rintro ⟨⟩ ⟨a1, a2, ⟨⟩⟩; kernel_rfl)
noncomputable def zHw : Ent := qG (by kernel_rfl) zGn
theorem zLW : OkX 141 [zG, zG] (.p .bool) zBC := fX [zK2] (A := (jl [jj 6 1431655680 [] [.t 4 .bool]])) (fn := Tryz.f141) (by kernel_rfl) (by kernel_rfl) (by rintro ⟨⟩ ⟨a1, a2, ⟨⟩⟩; kernel_rfl)
noncomputable def zNq : Ent := qG (by kernel_rfl) zLW
theorem zIp : OkX 179 [uX, zG] (.p .bool) yK := fX [zNq] (A := (jl [jj 6 23456248059136 [] [.t 4 .bool]])) (fn := Tryz.f179) (by kernel_rfl) (by kernel_rfl) (by rintro ⟨⟩ ⟨a1, a2, ⟨⟩⟩; kernel_rfl)
noncomputable def zJU : Ent := qG (by kernel_rfl) zIp
theorem zKJ : OkX 154 [jI, zG] (.p tI) zBS := fX [zJU] (A := (jl [jj 9 366503539968 [] [.t 10 tI], jj 28 366503884032 [] []])) (fn := Tryz.f154) (by kernel_rfl) (by kernel_rfl) (by rintro ⟨⟩ ⟨a1, a2, ⟨⟩⟩; kernel_rfl)
noncomputable def zMD : Ent := qG (by kernel_rfl) zKJ
theorem zIo : OkX 118 [zH, .str, zG] (.p .bool) yJ := fX [zMD, zHw] (A := (jl [jj 30 6296488620369945563136 [] [.t 6 .bool]])) (fn := Tryz.f118) (by kernel_rfl) (by kernel_rfl) (by rintro ⟨⟩ ⟨a1, a2, a3, ⟨⟩⟩; kernel_rfl)
noncomputable def zJT : Ent := qG (by kernel_rfl) zIo
theorem zEV : OkX 58 [zW, (.sl zA), tI, tI, zJ] (.p (.sl zA)) uO := fX [zJT, x8] (A := (jl [jj 30 116149714575678678275446152163010350678016 [] [.t 68 .bool, .o 15 15 zA], jj 36 31926990434706017882465562962469771384942094750580736 [] [.o 15 15 zA], jj 21 127707961738824071529862252256078160930283623863549952 [] [.t 42 tI, .o 15 15 zA], jj 40 127707961738824071529862252262122790028356769737080832 [] [.o 15 15 zA], jj 7 0 [(98304, 8128, 0)] []])) (fn := Tryz.f58) (by kernel_rfl) (by kernel_rfl) (by rintro ⟨⟩ ⟨a1, a2, a3, a4, a5, ⟨⟩⟩; kernel_rfl)
noncomputable def zFJ : Ent := qG (by kernel_rfl) zEV
theorem zEW : OkX 20 [zW, (.sl (.sl zA)), tI] (.p (.sl zA)) wB := fX [zFJ, zJL, zAU] (A := (jl [jj 6 1466014105600 [] [.t 20 .bool], jj 46 110768997998156270361476888491196416 [] [.t 58 .bool, .o 7 7 zA], jj 52 1858395433210885158632973248939007220400128 [] [.o 7 7 zA], jj 37 7433581732843541040730968386271431573389312 [] [.t 42 tI, .o 7 7 zA], jj 56 7433581732843541047178571220320781029425152 [] [.o 7 7 zA], jj 21 29734326931374164188714290934121023293964288 [] [.t 29 tI, .o 7 7 zA], jj 60 29734326931374164188714291030196349329031168 [] [.o 7 7 zA]])) (fn := Tryz.f20) (by kernel_rfl) (by kernel_rfl) (by rintro ⟨⟩ ⟨a1, a2, a3, ⟨⟩⟩; kernel_rfl)
noncomputable def zBz : Ent := qG (by kernel_rfl) zEW
theorem zHc : OkX 28 [zW, tI, tI] (.p (.sl zJ)) zAd := fX [zCv, zR4] (A := (jl [jj 28 412646678224564752157261824 [] [.o 7 7 zJ], jj 25 412646679761418124997705728 [] [.t 9 tI, .o 7 7 zJ], jj 40 412646679761418124997705728 [] [.o 7 7 zJ]])) (fn := Tryz.f28) (by kernel_rfl) (by kernel_rfl) (by rintro ⟨⟩ ⟨a1, a2, a3, ⟨⟩⟩; kernel_rfl)
noncomputable def zIO : Ent := qG (by kernel_rfl) zHc
theorem zEU : OkX 125 [uX, zG] (.p .bool) w9 := fX [zGF] (A := (jl [jj 6 23456248059136 [] [.t 4 .bool]])) (fn := Tryz.f125) (by kernel_rfl) (by kernel_rfl) (by rintro ⟨⟩ ⟨a1, a2, ⟨⟩⟩; kernel_rfl)
noncomputable def zFG : Ent := qG (by kernel_rfl) zEU
theorem zGl : OkX 65 [jI, zG] (.p tI) xC := fX [zFG] (A := (jl [jj 9 1466015503616 [] [.t 5 tI], jj 24 1466015503616 [] []])) (fn := Tryz.f65) (by kernel_rfl) (by kernel_rfl) (by rintro ⟨⟩ ⟨a1, a2, ⟨⟩⟩; kernel_rfl)
noncomputable def zHu : Ent := qG (by kernel_rfl) zGl
theorem zET : OkX 27 [zH, .str, zG] (.p .bool) uK := fX [zHu, zAR] (A := (jl [jj 30 6296488620369945563136 [] [.t 6 .bool]])) (fn := Tryz.f27) (by kernel_rfl) (by kernel_rfl) (by rintro ⟨⟩ ⟨a1, a2, a3, ⟨⟩⟩; kernel_rfl)
noncomputable def zFF : Ent := qG (by kernel_rfl) zET
def zOh : Nat → Option JA := fun k => match k with
 | 12 => some ⟨336, [], [.t 0 (.sl vK)]⟩
 | _ => none
def zHE : Nat → Option JA := fun k => match k with
 | 12 => some ⟨336, [], [.t 0 (.sl tI)]⟩
 | _ => none
theorem zGi : j8 U Tryz.prog G0 83 (qH (jP [(.sl tI)] (.p (.sl tI)) xA)) :=
 zRN (t := tI) (bytes := 8)
  (zBf (fn := Tryz.f83) (c := vD Tryz.f83) (S := zS.none U) (A := fun _ => none) qC (by kernel_rfl) (by kernel_rfl) (enc := fun q => [.tl tI (q.1 :: q.2)]) (fun _ _ h => zKm h) (by rintro ⟨⟩ ⟨y, r⟩; kernel_rfl))
  (fun c => zBf (fn := Tryz.f83) (c := vD Tryz.f83) (S := zS.none U) (A := fun _ => none) qC (by kernel_rfl) (by kernel_rfl) (enc := fun _ => [.val (.slice none 0 c)]) (fun _ _ h => zC5 h) (by rintro ⟨⟩ _; kernel_rfl))
  (fun a c => zBf (fn := Tryz.f83) (c := vD Tryz.f83) (S := zS.none U) (A := zHE) qC (by kernel_rfl) (by kernel_rfl) (enc := fun _ => [.val (.slice (some a) 0 c)]) (fun _ _ h => zC5 h) (by rintro ⟨⟩ _; kernel_rfl))
noncomputable def zHr : Ent := qG (by kernel_rfl) zGi
end Go.Ve

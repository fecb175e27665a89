/-
  law17 and law20: the program's tables.
  Functions out of code, over the fast tables.
  Contracts of the functions of NvF1.
  Contracts of the functions of NvF2.
  Contracts of the functions of NvF3.
-/
import Derived.Test.YtcnlcmbchljpgaaGreatProg
import Derived.Test.YtcnlcmbchljpgaaGreatQt10
import Derived.Test.YtcnlcmbchljpgaaGreatQt7
import Derived.Test.YtcnlcmbchljpgaaGreatQt11
import Derived.Test.YtcnlcmbchljpgaaGreatQt15
import Derived.Test.YtcnlcmbchljpgaaGreatQt12
set_option linter.unusedVariables false
namespace Go.Ve
open Go Go.Proofs
noncomputable abbrev LF : jC := jC.fast Tryz.prog 330 310
def G0 : Nat → Option (List V) := fun _ => none
abbrev U := jB
abbrev vJ (f : Func) : Code := match f.body with | some c => c | none => .skip
theorem mixed : Tryz.prog.follows .mixedOrders = true := by kernel_rfl
end Go.Ve

namespace Go.Ve
open Go Go.Proofs
instance : Subsingleton U.St := inferInstanceAs (Subsingleton Unit)
theorem zUY {S : zR U} {A : Nat → Option JA} (hS : qG U Tryz.prog G0 S.toS) {f : FuncId} {fn : Func} {c : Code} (hf : LF.fn f = some fn) (hb : fn.body = some c)
  {ts : List Ty} {R : RTy} {g : ElS ts → Option R.El} (h : ∀ s x, exF (Γ := U) LF G0 S A fn c R s (vN ts x) = g x) : wC U Tryz.prog G0 f (qI (jQ ts R g)) := by
 have hl : LF = jC.of Tryz.prog := jC.fast_eq Tryz.prog 330 310
 rw [hl] at hf h
 exact zWw mixed hS hf hb h
theorem zTc {S : zR U} {A : Nat → Option JA} (hS : qG U Tryz.prog G0 S.toS) {f : FuncId} {fn : Func} {c : Code} (hf : LF.fn f = some fn) (hb : fn.body = some c)
  {ts : List ATy} {R : RTy} {g : ElA ts → Option R.El} (h : ∀ s x, exF (Γ := U) LF G0 S A fn c R s (zVd ts x) = g x) : wC U Tryz.prog G0 f (qI (zVK ts R g)) := by
 have hl : LF = jC.of Tryz.prog := jC.fast_eq Tryz.prog 330 310
 rw [hl] at hf h
 exact zWy mixed hS hf hb h
theorem zBD {S : zR U} {A : Nat → Option JA} (hS : qG U Tryz.prog G0 S.toS) {f : FuncId} {fn : Func} {c : Code} (hf : LF.fn f = some fn) (hb : fn.body = some c)
  {X : Type} {dec : List V → Option X} {enc : X → List V} (hdec : ∀ ds x, dec ds = some x → wB ds (enc x)) {R : RTy} {g : X → Option R.El} (h : ∀ s x, exF (Γ := U) LF G0 S A fn c R s (enc x) = g x) : wC U Tryz.prog G0 f (qI (wM dec R g)) := by
 have hl : LF = jC.of Tryz.prog := jC.fast_eq Tryz.prog 330 310
 rw [hl] at hf h
 exact zNt mixed hS hf hb hdec h
theorem wR {S : zR U} {A : Nat → Option JA} (hS : qG U Tryz.prog G0 S.toS) {f : FuncId} {fn : Func} {c : Code} (hf : LF.fn f = some fn) (hb : fn.body = some c)
  {t : Ty} {ts : List ATy} {R : RTy} (hpl : R.pl = true) (hno : ∀ ty, R ≠ .o ty) {g : List t.El → ElA ts → Option (List t.El × R.El)} (h : ∀ s xs x, zYF (Γ := U) LF G0 S A fn c t R s xs (zVd ts x) = g xs x) : zAN U Tryz.prog G0 f t (kK ts) R g := by
 have hl : LF = jC.of Tryz.prog := jC.fast_eq Tryz.prog 330 310
 rw [hl] at hf h
 exact zWx mixed hS hf hb (zIu ts) (zWP ts) hpl hno h
theorem zTb {tE : Ty} {S : zR (jO tE)} {A : Nat → Option JA} (hst : ∀ k j, A k = some j → zD2 j.sl = true) (hS : qG (jO tE) Tryz.prog G0 S.toS) {f : FuncId} {fn : Func} {c : Code} (hf : LF.fn f = some fn) (hb : fn.body = some c)
  {ts : List Ty} {R : RTy} {g : HSt tE → ElS ts → Option (HSt tE × R.El)} (h : ∀ s x, zYE (Γ := jO tE) LF G0 S A fn c R s (vN ts x) = g s x) : wC (jO tE) Tryz.prog G0 f (qI (zLd (zC9 ts) R g)) := by
 have hl : LF = jC.of Tryz.prog := jC.fast_eq Tryz.prog 330 310
 rw [hl] at hf h
 exact zWv hst mixed hS hf hb (vI ts) h
structure Ent where
 ad : zR U → zR U
 ok : ∀ S : zR U, qG U Tryz.prog G0 S.toS → qG U Tryz.prog G0 (ad S).toS
def z7 {f : FuncId} {sp : U.St → List V → Option (zEd U.St)} (hi : zLW Tryz.prog f = true) (h : wC U Tryz.prog G0 f (qI sp)) : Ent := ⟨fun S => S.add f sp, fun _ hS => qT hS hi h⟩
def zYH {f : FuncId} {t : Ty} {X : Type} {dec : List V → Option X} {R : RTy} {g : List t.El → X → Option (List t.El × R.El)} (hi : zLW Tryz.prog f = true) (h : zAN U Tryz.prog G0 f t dec R g) : Ent := ⟨fun S => S.addB f (wP t dec R g), fun _ hS => jS hS hi h⟩
def zZt {f : FuncId} {t : Ty} {X : Type} {dec : List V → Option X} {g : List t.El → X → Option (List t.El)} (hi : zLW Tryz.prog f = true) (h : zUr U Tryz.prog G0 f t dec g) : Ent := ⟨fun S => S.addB f (zDf t dec g), fun _ hS => zQV hS hi h⟩
def zXN : List Ent → zR U
 | [] => zR.none U
 | e :: r => e.ad (zXN r)
theorem zQl : ∀ l, qG U Tryz.prog G0 (zXN l).toS
 | [] => qF
 | e :: r => e.ok _ (zQl r)
abbrev OkX (f : FuncId) (ts : List Ty) (R : RTy) (g : ElS ts → Option R.El) : Prop := wC U Tryz.prog G0 f (qI (jQ ts R g))
abbrev OkA (f : FuncId) (ts : List ATy) (R : RTy) (g : ElA ts → Option R.El) : Prop := wC U Tryz.prog G0 f (qI (zVK ts R g))
theorem fX (l : List Ent) {A : Nat → Option JA} {f : FuncId} {fn : Func} (hf : LF.fn f = some fn) (hb : fn.body = some (vJ fn))
  {ts : List Ty} {R : RTy} {g : ElS ts → Option R.El} (h : ∀ s x, exF (Γ := U) LF G0 (zXN l) A fn (vJ fn) R s (vN ts x) = g x) : OkX f ts R g := zUY (zQl l) hf hb h
theorem fA (l : List Ent) {A : Nat → Option JA} {f : FuncId} {fn : Func} (hf : LF.fn f = some fn) (hb : fn.body = some (vJ fn))
  {ts : List ATy} {R : RTy} {g : ElA ts → Option R.El} (h : ∀ s x, exF (Γ := U) LF G0 (zXN l) A fn (vJ fn) R s (zVd ts x) = g x) : OkA f ts R g := zTc (zQl l) hf hb h
def jj (k b : Nat) (l : List (Nat × Nat × Nat)) (s : List zAP) : Nat × JA := (k, ⟨b, l, s⟩)
def jl : List (Nat × JA) → Nat → Option JA
 | [], _ => none
 | (a, j) :: r, k => match Nat.beq a k with
  | true => some j
  | false => jl r k
end Go.Ve

namespace Go.Ve
open Go Go.Proofs
set_option maxRecDepth 1000000
set_option maxHeartbeats 0
theorem zP2 : OkX 128 [tI] (.p tU) zAF := fX [] (A := (jl [jj 16 22906404928 [] [.t 3 tU], jj 13 22906492224 [] [.t 4 tI, .t 3 tU], jj 28 22906492224 [] [.t 3 tU]])) (fn := Tryz.f128) (by kernel_rfl) (by kernel_rfl) (by rintro ⟨⟩ ⟨a1, ⟨⟩⟩; kernel_rfl)
noncomputable def zGm : Ent := z7 (by kernel_rfl) zP2
theorem zOq : OkX 71 [zF] (.p .bool) wF := fX [zGm] (A := (jl [jj 6 366503875920 [] [.t 2 .bool]])) (fn := Tryz.f71) (by kernel_rfl) (by kernel_rfl) (by rintro ⟨⟩ ⟨a1, ⟨⟩⟩; kernel_rfl)
noncomputable def zBg : Ent := z7 (by kernel_rfl) zOq
theorem zKr : OkX 101 [zF, tU] (.p .bool) yE := fX [zGm] (A := fun _ => none) (fn := Tryz.f101) (by kernel_rfl) (by kernel_rfl) (by rintro ⟨⟩ ⟨a1, a2, ⟨⟩⟩; kernel_rfl)
noncomputable def zL6 : Ent := z7 (by kernel_rfl) zKr
theorem zM2 : OkX 44 [zF, zF] (.p .bool) vZ := fX [zL6] (A := (jl [jj 6 1431655680 [] [.t 4 .bool]])) (fn := Tryz.f44) (by kernel_rfl) (by kernel_rfl) (by rintro ⟨⟩ ⟨a1, a2, ⟨⟩⟩; kernel_rfl)
noncomputable def zHu : Ent := z7 (by kernel_rfl) zM2
theorem zH5 : OkX 64 [zH, .str] (.p tI) jI := fX [] (A := (jl [jj 9 5864062014720 [] [.t 5 tI], jj 24 5864062014720 [] []])) (fn := Tryz.f64) (by kernel_rfl) (by kernel_rfl) (by rintro ⟨⟩ ⟨a1, a2, ⟨⟩⟩; kernel_rfl)
noncomputable def zBf : Ent := z7 (by kernel_rfl) zH5
theorem zKp : OkX 134 [zH, .str] (.p tI) kC := fX [] (A := (jl [jj 9 5864062014720 [] [.t 5 tI], jj 24 5864062014720 [] []])) (fn := Tryz.f134) (by kernel_rfl) (by kernel_rfl) (by rintro ⟨⟩ ⟨a1, a2, ⟨⟩⟩; kernel_rfl)
noncomputable def zFb : Ent := z7 (by kernel_rfl) zKp
theorem zM1 : OkX 248 [(.int .u8)] (.p .bool) zBP := fX [] (A := (jl [jj 6 5726623056 [] [.t 2 .bool]])) (fn := Tryz.f248) (by kernel_rfl) (by kernel_rfl) (by rintro ⟨⟩ ⟨a1, ⟨⟩⟩; kernel_rfl)
noncomputable def zOF : Ent := z7 (by kernel_rfl) zM1
theorem zP1 : OkX 202 [.str] (.p .bool) zAE := fX [zOF] (A := (jl [jj 6 91625968640 [] [.t 18 .bool], jj 30 1730765619511609185490967430430720 [] [.t 55 .bool], jj 17 1730765619511609209510073817104720 [] [.t 3 tI], jj 36 1730765619511609209510073817104720 [] []])) (fn := Tryz.f202) (by kernel_rfl) (by kernel_rfl) (by rintro ⟨⟩ ⟨a1, ⟨⟩⟩; kernel_rfl)
noncomputable def zBX : Ent := z7 (by kernel_rfl) zP1
theorem zM0 : OkX 203 [tI, tI, tI] (.p .bool) zV := fX [] (A := (jl [jj 6 357912576 [] [.t 6 .bool]])) (fn := Tryz.f203) (by kernel_rfl) (by kernel_rfl) (by rintro ⟨⟩ ⟨a1, a2, a3, ⟨⟩⟩; kernel_rfl)
noncomputable def jM : Ent := z7 (by kernel_rfl) zM0
theorem zE5 : OkX 113 [tU, tI] (.p zF) j5 := fX [zGm] (A := fun _ => none) (fn := Tryz.f113) (by kernel_rfl) (by kernel_rfl) (by rintro ⟨⟩ ⟨a1, a2, ⟨⟩⟩; kernel_rfl)
noncomputable def zGl : Ent := z7 (by kernel_rfl) zE5
theorem zKq : OkX 249 [zF, zF] (.p .bool) kE := fX [zHu] (A := (jl [jj 6 22369536 [] [.t 4 .bool]])) (fn := Tryz.f249) (by kernel_rfl) (by kernel_rfl) (by rintro ⟨⟩ ⟨a1, a2, ⟨⟩⟩; kernel_rfl)
noncomputable def zFc : Ent := z7 (by kernel_rfl) zKq
theorem zH4 : OkX 204 [(.sl qA)] (.p tI) vT := fX [zFc, zGl, jM, zBX] (A := (jl [jj 41 6296488550001201382416 [] [.t 5 tI], jj 56 6296488550001201382416 [] [], jj 58 27043212798572405254770141429760 [] [.t 52 .bool], jj 66 133911503688249189628496841001387004071981355583303067893760 [] [.t 98 .bool], jj 74 38597363079105398340612157981313446322593153860116637802968945187404973604864 [] [.t 127 .bool], jj 94 45567723432979415051570096605279850406945466927309786544954066201002041624518809725788842937548800 [] [.t 162 .bool], jj 85 45567723432979415091055199035204673046383172815272363122919130971985473961973845872487220144771088 [] [.t 6 tI], jj 20 45567723432979415091093796398283778444857696476941925758870220966874020816653665067156523089663760 [] [], jj 17 45567723432979415091093796398283778444857696476941925758870220966874020816653665067156524520970064 [] [.t 3 tI], jj 100 45567723432979415091093796398283778444857696476941925758870220966874020816653665067156524520970064 [] []])) (fn := Tryz.f204) (by kernel_rfl) (by kernel_rfl) (by rintro ⟨⟩ ⟨a1, ⟨⟩⟩; kernel_rfl)
noncomputable def zJM : Ent := z7 (by kernel_rfl) zH4
theorem zDY : OkX 250 [yF] (.p .bool) vY := fX [zBg] (A := (jl [jj 6 1501199875790160 [] [.t 2 .bool]])) (fn := Tryz.f250) (by kernel_rfl) (by kernel_rfl) (by rintro ⟨⟩ ⟨a1, ⟨⟩⟩; kernel_rfl)
noncomputable def zEO : Ent := z7 (by kernel_rfl) zDY
theorem zG7 : OkX 205 [(.sl jJ)] (.p tI) uA := fX [zEO, zBX] (A := (jl [jj 37 25185954569440712458512 [] [.t 4 tI], jj 52 25185954569440712458512 [] [], jj 73 7433581732836780243977355534074804751565840 [] [.t 5 tI], jj 20 7433581732843541047178572757549453477414160 [] [], jj 17 7433581732843541047178572757549453835240784 [] [.t 3 tI], jj 88 7433581732843541047178572757549453835240784 [] []])) (fn := Tryz.f205) (by kernel_rfl) (by kernel_rfl) (by rintro ⟨⟩ ⟨a1, ⟨⟩⟩; kernel_rfl)
noncomputable def zIm : Ent := z7 (by kernel_rfl) zG7
theorem zJg : OkX 206 [zH] (.p tI) yR := fX [jM, zBf, zBX] (A := (jl [jj 41 6447604369776822389310480 [] [.t 5 tI], jj 56 6447604369776822389310480 [] [], jj 90 124714687448262656856724350867958696886044878438400 [] [.t 83 .bool], jj 98 8986648889050213140174198643436161204497942415724039816394959749120 [] [.t 111 .bool], jj 77 8986648889050213264889005029006541827113428629237647983535760396304 [] [.t 6 tI], jj 24 8986648889050213264889005029006543557879048140846857493609577501712 [] [], jj 21 8986648889050213264889005029006543557879048140846857493701181101328 [] [.t 4 tI], jj 104 8986648889050213264889005029006543557879048140846857493701181101328 [] []])) (fn := Tryz.f206) (by kernel_rfl) (by kernel_rfl) (by rintro ⟨⟩ ⟨a1, ⟨⟩⟩; kernel_rfl)
noncomputable def zKS : Ent := z7 (by kernel_rfl) zJg
theorem zOo : OkX 279 [zK] (.p .bool) zCG := fX [] (A := (jl [jj 6 22906492240 [] [.t 2 .bool]])) (fn := Tryz.f279) (by kernel_rfl) (by kernel_rfl) (by rintro ⟨⟩ ⟨a1, ⟨⟩⟩; kernel_rfl)
noncomputable def zQn : Ent := z7 (by kernel_rfl) zOo
theorem zRp : OkX 280 [zK] (.p .bool) zFV := fX [] (A := fun _ => none) (fn := Tryz.f280) (by kernel_rfl) (by kernel_rfl) (by rintro ⟨⟩ ⟨a1, ⟨⟩⟩; kernel_rfl)
noncomputable def zTu : Ent := z7 (by kernel_rfl) zRp
theorem zJj : OkX 251 [zQW] (.p .bool) zA3 := fX [zTu, zQn, jM] (A := (jl [jj 6 100743818301219097892160 [] [.t 38 .bool], jj 14 6923062477945693019739442674401296 [] [.t 2 .bool]])) (fn := Tryz.f251) (by kernel_rfl) (by kernel_rfl) (by rintro ⟨⟩ ⟨a1, ⟨⟩⟩; kernel_rfl)
noncomputable def zKV : Ent := z7 (by kernel_rfl) zJj
theorem zG8 : OkX 207 [(.sl zKa)] (.p tI) uB := fX [zKV, zBX] (A := (jl [jj 37 25185954569440712458512 [] [.t 4 tI], jj 52 25185954569440712458512 [] [], jj 73 7433581732836780243977355534074804751565840 [] [.t 5 tI], jj 20 7433581732843541047178572757549453477414160 [] [], jj 17 7433581732843541047178572757549453835240784 [] [.t 3 tI], jj 88 7433581732843541047178572757549453835240784 [] []])) (fn := Tryz.f207) (by kernel_rfl) (by kernel_rfl) (by rintro ⟨⟩ ⟨a1, ⟨⟩⟩; kernel_rfl)
noncomputable def zIn : Ent := z7 (by kernel_rfl) zG8
theorem zRq : OkX 252 [zH, .str] (.p tI) zCH := fX [] (A := (jl [jj 9 5864062014720 [] [.t 5 tI], jj 24 5864062014720 [] []])) (fn := Tryz.f252) (by kernel_rfl) (by kernel_rfl) (by rintro ⟨⟩ ⟨a1, a2, ⟨⟩⟩; kernel_rfl)
noncomputable def zNP : Ent := z7 (by kernel_rfl) zRq
theorem zF2 : OkX 208 [zH] (.p tI) vX := fX [zNP, jM] (A := (jl [jj 42 412646679760292225090585600 [] [.t 5 .bool], jj 50 30447950777727144122641087138733868110036599808 [] [.t 5 .bool], jj 58 37692737381938865697777012862015049227352017065451593534499925742265041920 [] [.t 5 .bool], jj 60 37692737381938865697777013349182261670986323133346537773260926430180541440 [] [.t 5 .bool], jj 70 632378593604264737584744508361900640506471740472781533529553313286966197459353600 [] [.t 134 .bool], jj 17 632379196688062848606595672794114227422658476253951667074157685461882905339889488 [] [.t 3 tI], jj 76 632379196688062848606595672794114227422658476253951667074157685461882905339889488 [] []])) (fn := Tryz.f208) (by kernel_rfl) (by kernel_rfl) (by rintro ⟨⟩ ⟨a1, ⟨⟩⟩; kernel_rfl)
noncomputable def zHg : Ent := z7 (by kernel_rfl) zF2
theorem zLK : OkX 209 [zH] (.p tI) zA2 := fX [zNP] (A := (jl [jj 22 100743818301213371269120 [] [.t 38 .bool], jj 9 100743818301219097892688 [] [.t 3 tI], jj 28 100743818301219097892688 [] []])) (fn := Tryz.f209) (by kernel_rfl) (by kernel_rfl) (by rintro ⟨⟩ ⟨a1, ⟨⟩⟩; kernel_rfl)
noncomputable def zNO : Ent := z7 (by kernel_rfl) zLK
theorem zLL : OkX 174 [zH, tU] (.p tI) uZ := fX [] (A := (jl [jj 18 384307168179912704 [] [.t 29 .bool], jj 9 1537228672809129216 [] [.t 5 tI], jj 24 1537228672809129216 [] []])) (fn := Tryz.f174) (by kernel_rfl) (by kernel_rfl) (by rintro ⟨⟩ ⟨a1, a2, ⟨⟩⟩; kernel_rfl)
noncomputable def zGk : Ent := z7 (by kernel_rfl) zLL
theorem zJk : OkX 172 [zH, .str] (.p tI) uC := fX [] (A := (jl [jj 9 5864062014720 [] [.t 5 tI], jj 24 5864062014720 [] []])) (fn := Tryz.f172) (by kernel_rfl) (by kernel_rfl) (by rintro ⟨⟩ ⟨a1, a2, ⟨⟩⟩; kernel_rfl)
noncomputable def zKW : Ent := z7 (by kernel_rfl) zJk
theorem zLJ : OkX 210 [zH] (.p tI) xM := fX [zKW, jM, zGk, zBg] (A := (jl [jj 40 95982967058334720 [] [.t 5 tI], jj 48 98286558267733705728 [] [.t 5 tI], jj 56 25087571940244990198784 [] [.t 5 tI], jj 58 464598858302721315423474842771536090234880 [] [.t 69 .bool], jj 88 1995436901704527259351376376153304285490059033972736 [] [], jj 102 2246662222260509988834430072107158093433561622966889387929056051200 [] [.t 110 .bool], jj 93 2246662222262551320785349088125518235372070433246631536525402193936 [] [.t 7 tI], jj 20 2246662222262553316222251257251635889469762035211714373333674907408 [] [], jj 17 2246662222262553316222251257251635889469762035211714373425295284048 [] [.t 3 tI], jj 108 2246662222262553316222251257251635889469762035211714373425295284048 [] []])) (fn := Tryz.f210) (by kernel_rfl) (by kernel_rfl) (by rintro ⟨⟩ ⟨a1, ⟨⟩⟩; kernel_rfl)
noncomputable def zNN : Ent := z7 (by kernel_rfl) zLJ
theorem zDX : OkX 253 [zH, (.sl zDd), tI, tI, tI] (.p tI) jU := fX [zFb, jM] (A := (jl [jj 30 1690200800304299863862767779840 [] [.t 50 .bool], jj 38 7433581732841850846378268451680791564386304 [] [.t 71 .bool], jj 46 7794667965516416053545271929247418555377804902400 [] [.t 81 .bool], jj 57 523091803487547997888166888180986426855020182207097470976 [] [.t 13 tI], jj 20 523091811282223396986315785267305534675196263582539972608 [] [], jj 17 523091811282223396986315785267305534675196287033065603072 [] [.t 11 tI], jj 72 523091811282223396986315785267305534675196287033065603072 [] []])) (fn := Tryz.f253) (by kernel_rfl) (by kernel_rfl) (by rintro ⟨⟩ ⟨a1, a2, a3, a4, a5, ⟨⟩⟩; kernel_rfl)
noncomputable def u4 : Ent := z7 (by kernel_rfl) zDX
theorem zJi : OkX 211 [zH] (.p tI) yS := fX [u4, zFc, zBg, jM] (A := (jl [jj 14 1501199874392064 [] [.t 25 .bool], jj 54 110768999647131088315831082790420480 [] [.t 58 .bool], jj 74 8173309551284740464483728504488827824841739507723141120 [] [.t 91 .bool], jj 65 8173309551284740577800415145152905989891291396622517264 [] [.t 5 tI], jj 48 8173309551284740577911184144800037078207122479412937744 [] [], jj 45 8173309551284740577911184144801648880917306925194937616 [] [.t 4 tI], jj 80 8173309551284740577911184144801648880917306925194937616 [] []])) (fn := Tryz.f211) (by kernel_rfl) (by kernel_rfl) (by rintro ⟨⟩ ⟨a1, ⟨⟩⟩; kernel_rfl)
noncomputable def zKU : Ent := z7 (by kernel_rfl) zJi
theorem zKo : OkX 212 [zH] (.p tI) zAc := fX [u4, zBf, jM] (A := (jl [jj 14 24019198012555264 [] [.t 27 .bool], jj 34 108172851219469426679694103674880 [] [.t 53 .bool]])) (fn := Tryz.f212) (by kernel_rfl) (by kernel_rfl) (by rintro ⟨⟩ ⟨a1, ⟨⟩⟩; kernel_rfl)
noncomputable def zL5 : Ent := z7 (by kernel_rfl) zKo
theorem zJh : OkX 254 [zH] (.p tI) zA1 := fX [zFb, jM] (A := (jl [jj 30 24595658742039576576 [] [.t 32 .bool], jj 38 7259357160980020553860729299779442442240 [] [.t 66 .bool], jj 49 31178701589133238427365255877395379460782172406800 [] [.t 5 tI], jj 24 31178701596392595588345276431280704419303654425616 [] [], jj 21 31178701596392595588345276431280704419326555325712 [] [.t 4 tI], jj 64 31178701596392595588345276431280704419326555325712 [] []])) (fn := Tryz.f254) (by kernel_rfl) (by kernel_rfl) (by rintro ⟨⟩ ⟨a1, ⟨⟩⟩; kernel_rfl)
noncomputable def zKT : Ent := z7 (by kernel_rfl) zJh
theorem zF3 : OkX 255 [tPV] (.p tI) yK := fX [zBg] (A := (jl [jj 37 103161669916429158228951312 [] [.t 4 tI], jj 20 103161669940446890226090256 [] [], jj 17 103161669940448356152115536 [] [.t 3 tI], jj 52 103161669940448356152115536 [] [], jj 85 1948668849746180360361501571666429475588596043792 [] [.t 6 tI], jj 68 1948668849774536791580174899052741648666549293072 [] [], jj 65 1948668849774537224245170389450289247010062078992 [] [.t 5 tI], jj 100 1948668849774537224245170389450289247010062078992 [] [], jj 126 8776015936244118375918817192586638416352703146905166652479897600 [] [.t 106 .bool], jj 145 2412335183457438515607515589458659717936581122655130276641842173130320379920 [] [.t 9 tI], jj 116 2412335192444087404649555544796380006365213496389376768509399724846544781328 [] [], jj 113 2412335192444087404657728355488439204661595267009755516997428957606549340176 [] [.t 7 tI], jj 160 2412335192444087404657728355488439204661595267009755516997428957606549340176 [] []])) (fn := Tryz.f255) (by kernel_rfl) (by kernel_rfl) (by rintro ⟨⟩ ⟨a1, ⟨⟩⟩; kernel_rfl)
noncomputable def zHh : Ent := z7 (by kernel_rfl) zF3
theorem zH3 : OkX 213 [zH] (.p tI) u9 := fX [u4, zHh, zKT, jM] (A := (jl [jj 14 1611901092819505564876800 [] [.t 40 .bool], jj 26 1730765617899708116690659876798464 [] [.t 55 .bool]])) (fn := Tryz.f213) (by kernel_rfl) (by kernel_rfl) (by rintro ⟨⟩ ⟨a1, ⟨⟩⟩; kernel_rfl)
noncomputable def zJL : Ent := z7 (by kernel_rfl) zH3
theorem zHa : OkX 173 [zH] (.p tI) vA := fX [zJL, zL5, zKU, zNN, zNO, zHg, zIn, zKS, zIm, zJM, jM, zBX] (A := (jl [jj 29 6760803194920734830822890144016 [] [.t 4 tI], jj 44 6760803194920734830822890144016 [] []])) (fn := Tryz.f173) (by kernel_rfl) (by kernel_rfl) (by rintro ⟨⟩ ⟨a1, ⟨⟩⟩; kernel_rfl)
noncomputable def zIp : Ent := z7 (by kernel_rfl) zHa
theorem zOp : OkX 144 [zT] (.p tI) kD := fX [zGk, zIp] (A := (jl [jj 41 6602346876092618007411426320 [] [.t 5 tI], jj 56 6602346876092618007411426320 [] [], jj 86 1995436894735544384810556644423392325287446063349760 [] [.t 85 .bool], jj 77 1995436902161866760493117671048079757878355510231056 [] [.t 8 tI], jj 64 1995436902169126089961847779416217730674252809617424 [] [], jj 61 1995436902169126117654091089255088894142100436799504 [] [.t 6 tI], jj 20 1995436902169126117654097691601965010778939356992784 [] [], jj 17 1995436902169126117654097691601965082836899876427088 [] [.t 3 tI], jj 92 1995436902169126117654097691601965082836899876427088 [] []])) (fn := Tryz.f144) (by kernel_rfl) (by kernel_rfl) (by rintro ⟨⟩ ⟨a1, ⟨⟩⟩; kernel_rfl)
end Go.Ve

namespace Go.Ve
open Go Go.Proofs
set_option maxRecDepth 1000000
set_option maxHeartbeats 0
theorem zLN : OkX 72 [tI, tI, tI] (.p .bool) qO := fX [] (A := (jl [jj 6 357912576 [] [.t 6 .bool]])) (fn := Tryz.f72) (by kernel_rfl) (by kernel_rfl) (by rintro ⟨⟩ ⟨a1, a2, a3, ⟨⟩⟩; kernel_rfl)
noncomputable def xE : Ent := z7 (by kernel_rfl) zLN
theorem zM4 : OkX 73 [zA, .bool, .bool, .bool] (.p .bool) w6 := fX [] (A := (jl [jj 6 6447604371278022265077760 [] [.t 8 .bool]])) (fn := Tryz.f73) (by kernel_rfl) (by kernel_rfl) (by rintro ⟨⟩ ⟨a1, a2, a3, a4, ⟨⟩⟩; kernel_rfl)
noncomputable def zAm : Ent := z7 (by kernel_rfl) zM4
theorem zKu : OkX 129 [z1, z1] (.p .bool) kF := fX [] (A := (jl [jj 6 93824992236800 [] [.t 4 .bool]])) (fn := Tryz.f129) (by kernel_rfl) (by kernel_rfl) (by rintro ⟨⟩ ⟨a1, a2, ⟨⟩⟩; kernel_rfl)
noncomputable def zFe : Ent := z7 (by kernel_rfl) zKu
theorem zOs : OkX 74 [(.sl z1), .bool] (.p .bool) vG := fX [zFe] (A := (jl [jj 18 412646679761793424960782336 [] [.t 44 .bool], jj 9 412646679761793424966374656 [] [.t 5 tI], jj 24 412646679761793424966374656 [] []])) (fn := Tryz.f74) (by kernel_rfl) (by kernel_rfl) (by rintro ⟨⟩ ⟨a1, a2, ⟨⟩⟩; kernel_rfl)
noncomputable def zBh : Ent := z7 (by kernel_rfl) zOs
theorem zF4 : OkX 75 [zA] (.p .bool) yL := fX [zBh, zAm, xE] (A := (jl [jj 6 5864062014784 [] [.t 21 .bool], jj 18 393529039039261310992 [] [.t 2 .bool], jj 30 1690194352699934590640005840912 [] [.t 2 .bool]])) (fn := Tryz.f75) (by kernel_rfl) (by kernel_rfl) (by rintro ⟨⟩ ⟨a1, ⟨⟩⟩; kernel_rfl)
noncomputable def zHi : Ent := z7 (by kernel_rfl) zF4
theorem zDZ : OkX 76 [zA] (.p .bool) v2 := fX [zBh, zAm, xE] (A := (jl [jj 6 93824992236864 [] [.t 23 .bool], jj 14 25185954481479782236160 [] [.t 37 .bool], jj 26 110768999648340014135445711965126672 [] [.t 2 .bool], jj 30 29037317874920433472551891183589197348880 [] [.t 2 .bool]])) (fn := Tryz.f76) (by kernel_rfl) (by kernel_rfl) (by rintro ⟨⟩ ⟨a1, ⟨⟩⟩; kernel_rfl)
noncomputable def zEP : Ent := z7 (by kernel_rfl) zDZ
theorem zEB : OkX 77 [zA] (.p .bool) wS := fX [zBh, zAm, xE] (A := (jl [jj 6 5864062014784 [] [.t 21 .bool], jj 22 412646679760292225090584592 [] [.t 2 .bool], jj 38 7089188934306746453259739058493456400 [] [.t 2 .bool]])) (fn := Tryz.f77) (by kernel_rfl) (by kernel_rfl) (by rintro ⟨⟩ ⟨a1, ⟨⟩⟩; kernel_rfl)
noncomputable def zFD : Ent := z7 (by kernel_rfl) zEB
theorem zH6 : OkX 78 [zA] (.p .bool) zAr := fX [zBh, zAm, xE] (A := (jl [jj 6 93824992236864 [] [.t 23 .bool], jj 24 94575592174780416 [] [.t 26 .bool], jj 26 6760803201217127397857033191440 [] [.t 2 .bool], jj 36 425930601676685078902892277006336 [] [.t 52 .bool], jj 38 523091811282223396986315352575900656772893909497308774416 [] [.t 2 .bool]])) (fn := Tryz.f78) (by kernel_rfl) (by kernel_rfl) (by rintro ⟨⟩ ⟨a1, ⟨⟩⟩; kernel_rfl)
noncomputable def zJN : Ent := z7 (by kernel_rfl) zH6
theorem zM5 : OkX 32 [zA] (.p .bool) w7 := fX [zJN, zFD, zEP, zHi, zBh, zAm, xE, zBg] (A := (jl [jj 6 366503875840 [] [.t 19 .bool], jj 17 98382634693280399440 [] [.t 3 tI], jj 32 98382634693280399440 [] [], jj 42 1902996923607946508077689439978084877069189136 [] [.t 2 .bool]])) (fn := Tryz.f32) (by kernel_rfl) (by kernel_rfl) (by rintro ⟨⟩ ⟨a1, ⟨⟩⟩; kernel_rfl)
noncomputable def zOG : Ent := z7 (by kernel_rfl) zM5
theorem zE6 : OkX 102 [zF, zF] (.p tI) wV := fX [] (A := (jl [jj 6 93824992236544 [] [.t 23 .bool]])) (fn := Tryz.f102) (by kernel_rfl) (by kernel_rfl) (by rintro ⟨⟩ ⟨a1, a2, ⟨⟩⟩; kernel_rfl)
noncomputable def zGn : Ent := z7 (by kernel_rfl) zE6
theorem zM6 : OkX 45 [(.sl zA), tI] (.p .bool) zBQ := fX [zGn, zOG] (A := (jl [jj 18 422550200076076467165562142720 [] [.t 49 .bool], jj 9 422550200076076467165567735040 [] [.t 5 tI], jj 24 422550200076076467165567735040 [] []])) (fn := Tryz.f45) (by kernel_rfl) (by kernel_rfl) (by rintro ⟨⟩ ⟨a1, a2, ⟨⟩⟩; kernel_rfl)
noncomputable def zHw : Ent := z7 (by kernel_rfl) zM6
theorem zG5 : OkX 176 [(.sl zK), zK] (.p tI) xK := fX [] (A := (jl [jj 9 91625948416 [] [.t 8 tI], jj 28 91625968896 [] []])) (fn := Tryz.f176) (by kernel_rfl) (by kernel_rfl) (by rintro ⟨⟩ ⟨a1, a2, ⟨⟩⟩; kernel_rfl)
noncomputable def zIk : Ent := z7 (by kernel_rfl) zG5
theorem zEz : OkX 152 [(.sl zK), zK] (.p .bool) kR := fX [zIk] (A := fun _ => none) (fn := Tryz.f152) (by kernel_rfl) (by kernel_rfl) (by rintro ⟨⟩ ⟨a1, a2, ⟨⟩⟩; kernel_rfl)
noncomputable def zFB : Ent := z7 (by kernel_rfl) zEz
theorem zMX : OkX 117 [zS, tI, tI] (.p tI) zAA := fX [zFB] (A := (jl [jj 13 24019192286875648 [] [.t 17 tI], jj 32 24019197991129088 [] []])) (fn := Tryz.f117) (by kernel_rfl) (by kernel_rfl) (by rintro ⟨⟩ ⟨a1, a2, a3, ⟨⟩⟩; kernel_rfl)
noncomputable def zDF : Ent := z7 (by kernel_rfl) zMX
theorem zG4 : OkX 135 [(.sl tI), tI] (.p tI) k9 := fX [] (A := (jl [jj 9 91625948416 [] [.t 8 tI], jj 28 91625968896 [] []])) (fn := Tryz.f135) (by kernel_rfl) (by kernel_rfl) (by rintro ⟨⟩ ⟨a1, a2, ⟨⟩⟩; kernel_rfl)
noncomputable def zCU : Ent := z7 (by kernel_rfl) zG4
theorem zP0 : OkX 145 [zS, tI, tI] (.p tI) zGC := fX [zCU, zDF] (A := fun _ => none) (fn := Tryz.f145) (by kernel_rfl) (by kernel_rfl) (by rintro ⟨⟩ ⟨a1, a2, a3, ⟨⟩⟩; kernel_rfl)
noncomputable def zRZ : Ent := z7 (by kernel_rfl) zP0
theorem zEy : OkX 87 [(.sl tI), tI] (.p .bool) kQ := fX [zCU] (A := fun _ => none) (fn := Tryz.f87) (by kernel_rfl) (by kernel_rfl) (by rintro ⟨⟩ ⟨a1, a2, ⟨⟩⟩; kernel_rfl)
noncomputable def zFA : Ent := z7 (by kernel_rfl) zEy
theorem zSV : OkX 107 [zS, tI, tI] (.p .bool) zGB := fX [zFA, zRZ, zDF] (A := (jl [jj 18 1501194149171200 [] [.t 6 .bool]])) (fn := Tryz.f107) (by kernel_rfl) (by kernel_rfl) (by rintro ⟨⟩ ⟨a1, a2, a3, ⟨⟩⟩; kernel_rfl)
noncomputable def zPr : Ent := z7 (by kernel_rfl) zSV
theorem zOA : OkX 109 [tI] (.p tI) zC4 := fX [] (A := fun _ => none) (fn := Tryz.f109) (by kernel_rfl) (by kernel_rfl) (by rintro ⟨⟩ ⟨a1, ⟨⟩⟩; kernel_rfl)
noncomputable def zJR : Ent := z7 (by kernel_rfl) zOA
theorem zP4 : OkX 108 [tI] (.p tU) zEc := fX [zJR] (A := fun _ => none) (fn := Tryz.f108) (by kernel_rfl) (by kernel_rfl) (by rintro ⟨⟩ ⟨a1, ⟨⟩⟩; kernel_rfl)
noncomputable def zLq : Ent := z7 (by kernel_rfl) zP4
theorem zKy : OkX 168 [zF, tU] (.p .bool) zAo := fX [zLq] (A := fun _ => none) (fn := Tryz.f168) (by kernel_rfl) (by kernel_rfl) (by rintro ⟨⟩ ⟨a1, a2, ⟨⟩⟩; kernel_rfl)
noncomputable def zMb : Ent := z7 (by kernel_rfl) zKy
theorem zLQ : OkX 67 [zS, tI, tI] (.p tI) xP := fX [] (A := (jl [jj 21 103161669940448350515040256 [] [.t 8 tI], jj 12 103161669940448350515040256 [] [], jj 9 103161669940448356241592320 [] [.t 7 tI], jj 36 103161669940448356241592320 [] []])) (fn := Tryz.f67) (by kernel_rfl) (by kernel_rfl) (by rintro ⟨⟩ ⟨a1, a2, a3, ⟨⟩⟩; kernel_rfl)
noncomputable def zCW : Ent := z7 (by kernel_rfl) zLQ
theorem zOv : OkX 126 [zS, tI, tI] (.p tI) zEu := fX [zCW] (A := (jl [jj 22 24595657298930565120 [] [.t 32 .bool], jj 13 98382635059761975296 [] [.t 8 tI], jj 28 98382635059761975296 [] []])) (fn := Tryz.f126) (by kernel_rfl) (by kernel_rfl) (by rintro ⟨⟩ ⟨a1, a2, a3, ⟨⟩⟩; kernel_rfl)
noncomputable def zQr : Ent := z7 (by kernel_rfl) zOv
theorem zRr : OkX 66 [zS, tI, tI] (.p .bool) zFW := fX [zQr, zCW] (A := (jl [jj 21 6148914668330094592 [] [.t 8 tI], jj 36 6148914668330094592 [] []])) (fn := Tryz.f66) (by kernel_rfl) (by kernel_rfl) (by rintro ⟨⟩ ⟨a1, a2, a3, ⟨⟩⟩; kernel_rfl)
noncomputable def zNR : Ent := z7 (by kernel_rfl) zRr
theorem zLM : OkX 53 [zS, tI] (.p .bool) xO := fX [] (A := (jl [jj 6 357913856 [] [.t 4 .bool]])) (fn := Tryz.f53) (by kernel_rfl) (by kernel_rfl) (by rintro ⟨⟩ ⟨a1, a2, ⟨⟩⟩; kernel_rfl)
noncomputable def zCV : Ent := z7 (by kernel_rfl) zLM
theorem zOw : OkX 103 [zH] (.p .bool) zEE := fX [] (A := (jl [jj 6 2092367245128893587945263141069222138700785148154678169600 [] [.t 95 .bool], jj 17 2246662220170186071093357669306372748400539896510929225270622683216 [] [.t 3 tI], jj 32 2246662220170186071093357669306372748400539896510929225270622683216 [] [], jj 37 2412335190197425182395175538125413489691488791064416382276985293406222680336 [] [.t 4 tI], jj 52 2412335190197425182395175538125413489691488791064416382276985293406222680336 [] [], jj 57 2590225187221970235448528471106963021175544371793061347801571462163172713442087797776 [] [.t 5 tI], jj 72 2590225187221970235448528471106963021175544371793061347801571462163172713442087797776 [] []])) (fn := Tryz.f103) (by kernel_rfl) (by kernel_rfl) (by rintro ⟨⟩ ⟨a1, ⟨⟩⟩; kernel_rfl)
noncomputable def zQs : Ent := z7 (by kernel_rfl) zOw
theorem zNa : OkX 46 [zT] (.p .bool) zDq := fX [zQs] (A := (jl [jj 17 5864061993040 [] [.t 3 tI], jj 32 5864061993040 [] []])) (fn := Tryz.f46) (by kernel_rfl) (by kernel_rfl) (by rintro ⟨⟩ ⟨a1, ⟨⟩⟩; kernel_rfl)
noncomputable def zOJ : Ent := z7 (by kernel_rfl) zNa
def zDG : Nat → Option JA := fun k => match k with
 | 84 => some ⟨184497489401772529385612327842172717039008268166646221893471402059821287234759868672175917131173661172843563441437060059660158104845032398976807920666283692562120150139178769612799511748636278282415866878160176201872937423527853931074825229289817028865471580173776186278979555862451026349435370470386779578868176354099221238174997807148290368091204552361327921521465467763204555046027307456204118567337113234081310864304329682188410055227959601689731512418582605896572426052789584762208778001498785021309361810928365592763602942101060634062780064931573442859418747069999582698364321162101164826918019197244306192189303006234838493212327877025209681605424513505280, [], [.v 5 [.o 1100 zO, .o 1101 tI], .st]⟩
 | 25 => some ⟨184497489401772529385612327842172717039008268166646221893471402059821287234759868672175917131173661172843563441437060059660158104845032398976807920666283692562120150139178769612799511748636278282415866878160176201872937423527853931074825229289817028865471580173776186278979555862451026349435370470386779578868176354099221238174997807148290368091204552361327921521465467763204555046027307456204118567337113234081310864304329682188410055227959601689731512418582605896572426052789584762208778001498785021309361810928365592763602942101060634062780064931573442859418747069999582698364321162101164826918019197244306192189303006234838493212327877025209681605424513505280, [], [.t 6 tI, .v 5 [.o 1100 zO, .o 1101 tI], .st]⟩
 | 28 => some ⟨184497489401772529385612327842172717039008268166646221893471402059821287234759868672175917131173661172843563441437060059660158104845032398976807920666283692562120150139178769612799511748636278282415866878160176201872937423527853931074825229289817028865471580173776186278979555862451026349435370470386779578868176354099221238174997807148290368091204552361327921521465467763204555046027307456204118567337113234081310864304329682188410055227959601689731512418582605896572426052789584762208778001498785021309361810928365592763602942101060634062780064931573442859418747069999582698364321162101164826918019197244306192189303006234838493212327877025209675600991514216448, [], [.v 5 [.o 1100 zO, .o 1101 tI], .st]⟩
 | 37 => some ⟨184497489401772529385612327842172717039008268166646221893471402059821287234759868672175917131173661172843563441437060059660158104845032398976807920666283692562120150139178769612799511748636278282415866878160176201872937423527853931074825229289817028865471580173776186278979555862451026349435370470386779578868176354099221238174997807148290368091204552361327921521465467763204555046027307456204118567337113234081310864304329682188410055227959601689731512418582605896572426052789584762208778001498785021309361810928365592763602942101060634062780064931573442859418747069999582698364321162101164826918019197244306192189303006234838493212327877025209675600991514216448, [], [.t 7 tI, .v 5 [.o 1100 zO, .o 1101 tI], .st]⟩
 | 40 => some ⟨184497489401772529385612327842172717039008268166646221893471402059821287234759868672175917131173661172843563441437060059660158104845032398976807920666283692562120150139178769612799511748636278282415866878160176201872937423527853931074825229289817028865471580173776186278979555862451026349435370470386779578868176354099221238174997807148290368091204552361327921521465467763204555046027307456204118567337113234081310864304329682188410055227959601689731512418582605896572426052789584762208778001498785021309361810928365592763602942101060634062780064931573442859418747069999582698364321162101164826918019197244306192189303006234838493212327877000023727030486242887680, [], [.v 5 [.o 1100 zO, .o 1101 tI], .st]⟩
 | 80 => some ⟨184497489401772529385612327842172717039008268166646221893471402059821287234759868672175917131173661172843563441437060059660158104845032398976807920666283692562120150139178769612799511748636278282415866878160176201872937423527853931074825229289817028865471580173776186278979555862451026349435370470386779578868176354099221238174997807148290368091204552361327921521465467763204555046027307456204118567337113234081310864304329682188410055227959601689731512418582605896572426052789584762208778001498785021309361810928365592763602942101060634062780064931573442859418747069821583778745688924935728571583505041672838009412557657231906458756740677065373698151113771976704, [], [.v 5 [.o 1100 zO, .o 1101 tI], .st]⟩
 | 70 => some ⟨150770949527755429313232131334431639559735035425831931880481358702119485440, [], [.t 123 .bool, .v 5 [.o 1100 zO, .o 1101 tI], .st]⟩
 | 68 => some ⟨33477875922062297407124099488107905476223153719886495090688, [], [.t 10 tI, .v 5 [.o 1100 zO, .o 1101 tI], .st]⟩
 | 61 => some ⟨33477875922062297407124099488107905476223153719886495090688, [], [.t 10 tI, .v 5 [.o 1100 zO, .o 1101 tI], .st]⟩
 | 62 => some ⟨2092367245128893587945152372069573395711376497566321475584, [], [.t 95 .bool, .v 5 [.o 1100 zO, .o 1101 tI], .st]⟩
 | 50 => some ⟨108166248872599386899585878196224, [], [.t 53 .bool, .v 5 [.o 1100 zO, .o 1101 tI], .st]⟩
 | 92 => some ⟨737989957607090117542449311368690868156033072666584887573885608239285148939039474688703668524694644691374253765748240238640632419380129595907231682665134770248480600556715078451198046994545113129663467512640704807491749694111415724299300917159268115461886320695104745115918223449804105397741481881547118315472705416396884952699991228593161472364818209445311686085861871052818220184109229824816474269348452936325243457217318728753640220911838406758926049674330423586289704211158339048835112005995140085237447243713462371054411768404242536251120259726293772220522512954229778033961281054049025040681255249323705639452069711332539928507387154905727039987508328794112, [], [.v 5 [.o 1100 zO, .o 1101 tI], .st]⟩
 | 89 => some ⟨737989957607090117542449311368690868156033072666584887573885608239285148939039474688703668524694644691374253765748240238640632419380129595907231682665134770248480600556715078451198046994545113129663467512640704807491749694111415724299300917159268115461886320695104745115918223449804105397741481881547118315472705416396884952699991228593161472364818209445311686085861871052818220184109229824816474269348452936325243457217318728753640220911838406758926049674330423586289704211158339048835112005995140085237447243713462371054411768404242536251120259726293772220522515870386078824983771043852409388662279710666054786872263881531095007792867776925237958836497535731712, [], [.t 12 tI, .v 5 [.o 1100 zO, .o 1101 tI], .st]⟩
 | 104 => some ⟨737989957607090117542449311368690868156033072666584887573885608239285148939039474688703668524694644691374253765748240238640632419380129595907231682665134770248480600556715078451198046994545113129663467512640704807491749694111415724299300917159268115461886320695104745115918223449804105397741481881547118315472705416396884952699991228593161472364818209445311686085861871052818220184109229824816474269348452936325243457217318728753640220911838406758926049674330423586289704211158339048835112005995140085237447243713462371054411768404242536251120259726293772220522515870386078824983771043852409388662279710666054786872263881531095007792867776925237958836497535731712, [], [.v 5 [.o 1100 zO, .o 1101 tI], .st]⟩
 | 83 => some ⟨0, [(16, 0, 8)], [.st]⟩
 | 79 => some ⟨0, [(14848, 1024, 0)], [.st]⟩
 | _ => none
theorem zLX : ∀ k j, zDG k = some j → zD2 j.sl = true := by
 intro k j h
 unfold zDG at h
 split at h <;> (cases h <;> rfl)
theorem zLU : wC (jO zK) Tryz.prog G0 104 (qI (zLd (zC9 [zT]) (.tu [zFK, tI]) zBJ)) :=
 zTb (fn := Tryz.f104) (c := vJ Tryz.f104) (S := (((((zR.none (jO zK)).add 144 (jQ [zT] (.p tI) kD)).add 113 (jQ [tU, tI] (.p zF) j5)).add 102 (jQ [zF, zF] (.p tI) wV)).addH)) (A := zDG) zLX (zLb (qT (qT (qT qF (by kernel_rfl) (zKC (by kernel_rfl) zOp)) (by kernel_rfl) (zKC (by kernel_rfl) zE5)) (by kernel_rfl) (zKC (by kernel_rfl) zE6)) (by kernel_rfl) (by kernel_rfl)) (by kernel_rfl) (by kernel_rfl) (by rintro st0 ⟨a1, ⟨⟩⟩; kernel_rfl)
theorem zM8 : wC U Tryz.prog G0 104 (qI (jQ [zT] (.tu [zIK, tI]) zDj)) :=
 zLj (fun _ => rfl) (by kernel_rfl) zLU
noncomputable def zOH : Ent := z7 (by kernel_rfl) zM8
theorem zH8 : OkX 105 [(.sl tI), tI] (.p .bool) zAt := fX [] (A := (jl [jj 26 103161669940448355883679744 [] [.t 43 .bool], jj 17 103161669940448356241507584 [] [.t 5 tI], jj 32 103161669940448356241507584 [] []])) (fn := Tryz.f105) (by kernel_rfl) (by kernel_rfl) (by rintro ⟨⟩ ⟨a1, a2, ⟨⟩⟩; kernel_rfl)
noncomputable def zJP : Ent := z7 (by kernel_rfl) zH8
theorem zOu : OkX 47 [zT, (.sl tI)] (.tu [zS, tI]) zEt := fX [zJP, zOH] (A := (jl [jj 27 0 [(240, 3, 0)] []])) (fn := Tryz.f47) (by kernel_rfl) (by kernel_rfl) (by rintro ⟨⟩ ⟨a1, a2, ⟨⟩⟩; kernel_rfl)
noncomputable def zQq : Ent := z7 (by kernel_rfl) zOu
theorem zOy : OkX 14 [zT, (.sl tI)] (.tu [zS, .bool]) zEF := fX [zQq, zOJ] (A := (jl [jj 6 1431633920 [] [.t 15 .bool]])) (fn := Tryz.f14) (by kernel_rfl) (by kernel_rfl) (by rintro ⟨⟩ ⟨a1, a2, ⟨⟩⟩; kernel_rfl)
noncomputable def zQu : Ent := z7 (by kernel_rfl) zOy
end Go.Ve

namespace Go.Ve
open Go Go.Proofs
set_option maxRecDepth 1000000
set_option maxHeartbeats 0
theorem zM9 : OkX 15 [zS, (.sl (.sl zA))] (.p .bool) zDp := fX [zHw] (A := (jl [jj 26 24595658673320099840 [] [.t 32 .bool], jj 17 24595658764923700480 [] [.t 5 tI], jj 32 24595658764923700480 [] []])) (fn := Tryz.f15) (by kernel_rfl) (by kernel_rfl) (by rintro ⟨⟩ ⟨a1, a2, ⟨⟩⟩; kernel_rfl)
noncomputable def zOI : Ent := z7 (by kernel_rfl) zM9
theorem zC8 : OkX 106 [zS, tI, tI] (.tu [qA, .bool]) j6 := fX [] (A := (jl [jj 6 98382635059784253440 [] [.t 33 .bool]])) (fn := Tryz.f106) (by kernel_rfl) (by kernel_rfl) (by rintro ⟨⟩ ⟨a1, a2, a3, ⟨⟩⟩; kernel_rfl)
noncomputable def zAn : Ent := z7 (by kernel_rfl) zC8
theorem zD0 : OkX 48 [zS, tI, tI] (.p .bool) jX := fX [zPr, zAn] (A := (jl [jj 10 6296488643824761966592 [] [.t 6 .bool]])) (fn := Tryz.f48) (by kernel_rfl) (by kernel_rfl) (by rintro ⟨⟩ ⟨a1, a2, a3, ⟨⟩⟩; kernel_rfl)
noncomputable def zBi : Ent := z7 (by kernel_rfl) zD0
theorem zJd : OkX 57 [zS, tI, tI] (.p (.sl zK)) zAS := fX [zDF, zPr] (A := (jl [jj 30 402974888897708189286400 [] [.t 39 .bool, .o 7 7 zK], jj 36 103161669916429158229753856 [] [.o 7 7 zK], jj 21 412646679760292225091387392 [] [.t 26 tI, .o 7 7 zK], jj 40 412646679761793424609263616 [] [.o 7 7 zK]])) (fn := Tryz.f57) (by kernel_rfl) (by kernel_rfl) (by rintro ⟨⟩ ⟨a1, a2, a3, ⟨⟩⟩; kernel_rfl)
noncomputable def zKP : Ent := z7 (by kernel_rfl) zJd
theorem zEC : OkA 178 [.d jJ, .pp .str] (.p .bool) x5 := fA [] (A := fun _ => none) (fn := Tryz.f178) (by kernel_rfl) (by kernel_rfl) (by rintro ⟨⟩ ⟨a1, a2, ⟨⟩⟩; kernel_rfl)
noncomputable def zBt : Ent := z7 (by kernel_rfl) zEC
theorem zAO : OkA 177 [.d (.sl jJ), .clo 178 [(true, .str)]] (.p tI) wE := fA [zBt] (A := (jl [jj 9 91625948416 [] [.t 8 tI], jj 28 91625968896 [] []])) (fn := Tryz.f177) (by kernel_rfl) (by kernel_rfl) (by rintro ⟨⟩ ⟨a1, ⟨a2, ⟨⟩⟩, ⟨⟩⟩; kernel_rfl)
noncomputable def zBe : Ent := z7 (by kernel_rfl) zAO
theorem zHb : OkX 153 [zH, .str] (.p tI) xQ := fX [zBe, zBt] (A := fun _ => none) (fn := Tryz.f153) (by kernel_rfl) (by kernel_rfl) (by rintro ⟨⟩ ⟨a1, a2, ⟨⟩⟩; kernel_rfl)
noncomputable def zIq : Ent := z7 (by kernel_rfl) zHb
theorem zNb : OkX 141 [zF, zF] (.p .bool) zB1 := fX [zMb] (A := (jl [jj 6 1431655680 [] [.t 4 .bool]])) (fn := Tryz.f141) (by kernel_rfl) (by kernel_rfl) (by rintro ⟨⟩ ⟨a1, a2, ⟨⟩⟩; kernel_rfl)
noncomputable def zOK : Ent := z7 (by kernel_rfl) zNb
theorem zJo : OkX 179 [yF, zF] (.p .bool) yV := fX [zOK] (A := (jl [jj 6 23456248059136 [] [.t 4 .bool]])) (fn := Tryz.f179) (by kernel_rfl) (by kernel_rfl) (by rintro ⟨⟩ ⟨a1, a2, ⟨⟩⟩; kernel_rfl)
noncomputable def zK0 : Ent := z7 (by kernel_rfl) zJo
theorem zLR : OkX 154 [jJ, zF] (.p tI) zCi := fX [zK0] (A := (jl [jj 9 366503539968 [] [.t 10 tI], jj 28 366503884032 [] []])) (fn := Tryz.f154) (by kernel_rfl) (by kernel_rfl) (by rintro ⟨⟩ ⟨a1, a2, ⟨⟩⟩; kernel_rfl)
noncomputable def zNT : Ent := z7 (by kernel_rfl) zLR
theorem zJn : OkX 118 [zH, .str, zF] (.p .bool) yU := fX [zNT, zIq] (A := (jl [jj 30 6296488620369945563136 [] [.t 6 .bool]])) (fn := Tryz.f118) (by kernel_rfl) (by kernel_rfl) (by rintro ⟨⟩ ⟨a1, a2, a3, ⟨⟩⟩; kernel_rfl)
noncomputable def zKZ : Ent := z7 (by kernel_rfl) zJn
theorem zFu : OkX 58 [zS, (.sl zA), tI, tI, zK] (.p (.sl zA)) u5 := fX [zKZ, zAn] (A := (jl [jj 30 116149714575678678275446152163010350678016 [] [.t 68 .bool, .o 15 15 zA], jj 36 31926990434706017882465562962469771384942094750580736 [] [.o 15 15 zA], jj 21 127707961738824071529862252256078160930283623863549952 [] [.t 42 tI, .o 15 15 zA], jj 40 127707961738824071529862252262122790028356769737080832 [] [.o 15 15 zA], jj 7 0 [(98304, 8128, 0)] []])) (fn := Tryz.f58) (by kernel_rfl) (by kernel_rfl) (by rintro ⟨⟩ ⟨a1, a2, a3, a4, a5, ⟨⟩⟩; kernel_rfl)
noncomputable def zGo : Ent := z7 (by kernel_rfl) zFu
theorem zFv : OkX 20 [zS, (.sl (.sl zA)), tI] (.p (.sl zA)) wG := fX [zGo, zKP, zBi] (A := (jl [jj 6 1466014105600 [] [.t 20 .bool], jj 46 110768997998156270361476888491196416 [] [.t 58 .bool, .o 7 7 zA], jj 52 1858395433210885158632973248939007220400128 [] [.o 7 7 zA], jj 37 7433581732843541040730968386271431573389312 [] [.t 42 tI, .o 7 7 zA], jj 56 7433581732843541047178571220320781029425152 [] [.o 7 7 zA], jj 21 29734326931374164188714290934121023293964288 [] [.t 29 tI, .o 7 7 zA], jj 60 29734326931374164188714291030196349329031168 [] [.o 7 7 zA]])) (fn := Tryz.f20) (by kernel_rfl) (by kernel_rfl) (by rintro ⟨⟩ ⟨a1, a2, a3, ⟨⟩⟩; kernel_rfl)
noncomputable def zBY : Ent := z7 (by kernel_rfl) zFv
theorem zH7 : OkX 28 [zS, tI, tI] (.p (.sl zK)) zAs := fX [zCW, zNR] (A := (jl [jj 28 412646678224564752157261824 [] [.o 7 7 zK], jj 25 412646679761418124997705728 [] [.t 9 tI, .o 7 7 zK], jj 40 412646679761418124997705728 [] [.o 7 7 zK]])) (fn := Tryz.f28) (by kernel_rfl) (by kernel_rfl) (by rintro ⟨⟩ ⟨a1, a2, a3, ⟨⟩⟩; kernel_rfl)
noncomputable def zJO : Ent := z7 (by kernel_rfl) zH7
theorem zRs : OkX 59 [zS, zK] (.p qA) zI2 := fX [] (A := fun _ => none) (fn := Tryz.f59) (by kernel_rfl) (by kernel_rfl) (by rintro ⟨⟩ ⟨a1, a2, ⟨⟩⟩; kernel_rfl)
noncomputable def zTv : Ent := z7 (by kernel_rfl) zRs
theorem zFt : OkX 125 [yF, zF] (.p .bool) vF := fX [zHu] (A := (jl [jj 6 23456248059136 [] [.t 4 .bool]])) (fn := Tryz.f125) (by kernel_rfl) (by kernel_rfl) (by rintro ⟨⟩ ⟨a1, a2, ⟨⟩⟩; kernel_rfl)
noncomputable def zGj : Ent := z7 (by kernel_rfl) zFt
theorem zG9 : OkX 65 [jJ, zF] (.p tI) xN := fX [zGj] (A := (jl [jj 9 1466015503616 [] [.t 5 tI], jj 24 1466015503616 [] []])) (fn := Tryz.f65) (by kernel_rfl) (by kernel_rfl) (by rintro ⟨⟩ ⟨a1, a2, ⟨⟩⟩; kernel_rfl)
noncomputable def zIo : Ent := z7 (by kernel_rfl) zG9
theorem zFs : OkX 27 [zH, .str, zF] (.p .bool) vE := fX [zIo, zBf] (A := (jl [jj 30 6296488620369945563136 [] [.t 6 .bool]])) (fn := Tryz.f27) (by kernel_rfl) (by kernel_rfl) (by rintro ⟨⟩ ⟨a1, a2, a3, ⟨⟩⟩; kernel_rfl)
noncomputable def zGi : Ent := z7 (by kernel_rfl) zFs
def zPB : Nat → Option JA := fun k => match k with
 | 12 => some ⟨336, [], [.t 0 (.sl vR)]⟩
 | _ => none
def zIz : Nat → Option JA := fun k => match k with
 | 12 => some ⟨336, [], [.t 0 (.sl tI)]⟩
 | _ => none
theorem zG6 : wC U Tryz.prog G0 83 (qI (jQ [(.sl tI)] (.p (.sl tI)) xL)) :=
 zTd (t := tI) (bytes := 8)
  (zBD (fn := Tryz.f83) (c := vJ Tryz.f83) (S := zR.none U) (A := fun _ => none) qF (by kernel_rfl) (by kernel_rfl) (enc := fun q => [.tl tI (q.1 :: q.2)]) (fun _ _ h => zLt h) (by rintro ⟨⟩ ⟨y, r⟩; kernel_rfl))
  (fun c => zBD (fn := Tryz.f83) (c := vJ Tryz.f83) (S := zR.none U) (A := fun _ => none) qF (by kernel_rfl) (by kernel_rfl) (enc := fun _ => [.val (.slice none 0 c)]) (fun _ _ h => zDu h) (by rintro ⟨⟩ _; kernel_rfl))
  (fun a c => zBD (fn := Tryz.f83) (c := vJ Tryz.f83) (S := zR.none U) (A := zIz) qF (by kernel_rfl) (by kernel_rfl) (enc := fun _ => [.val (.slice (some a) 0 c)]) (fun _ _ h => zDu h) (by rintro ⟨⟩ _; kernel_rfl))
noncomputable def zIl : Ent := z7 (by kernel_rfl) zG6
theorem zM3 : OkX 54 [zS, tI, tI] (.p .bool) zAG := fX [zNR] (A := (jl [jj 6 98382635059784273920 [] [.t 6 .bool]])) (fn := Tryz.f54) (by kernel_rfl) (by kernel_rfl) (by rintro ⟨⟩ ⟨a1, a2, a3, ⟨⟩⟩; kernel_rfl)
noncomputable def zHv : Ent := z7 (by kernel_rfl) zM3
theorem zKt : OkX 21 [zS, (.sl (.sl zA)), tI] (.p (.sl zA)) zAd := fX [zTv, zGi, zJO, zHv, zCV] (A := (jl [jj 82 8776024305712974176686783403256849312135532827228081964948914176 [] [.t 106 .bool, .o 7 7 zA], jj 72 2470231237062745502369514346852001088882065241080966388649924728194755945578496 [] [.o 7 7 zA], jj 69 2470231237062745502369514346852008700840722244223078617292887159001306034618368 [] [.t 14 tI, .o 7 7 zA], jj 48 2470231237062745502369514346852008700869759672866972290120923704056285958782976 [] [.o 7 7 zA], jj 45 2470231237062745502369514346852008700869759672866998693060824087557461545861120 [] [.t 11 tI, .o 7 7 zA], jj 28 2470231237062745502369514346852008700869759672866998699508403863176718865940480 [] [.o 7 7 zA], jj 25 2470231237062745502369514346852008700869759672866998699508428457334283936481280 [] [.t 9 tI, .o 7 7 zA], jj 88 2470231237062745502369514346852008700869759672866998699508428457334283936481280 [] [.o 7 7 zA]])) (fn := Tryz.f21) (by kernel_rfl) (by kernel_rfl) (by rintro ⟨⟩ ⟨a1, a2, a3, ⟨⟩⟩; kernel_rfl)
noncomputable def zFd : Ent := z7 (by kernel_rfl) zKt
end Go.Ve

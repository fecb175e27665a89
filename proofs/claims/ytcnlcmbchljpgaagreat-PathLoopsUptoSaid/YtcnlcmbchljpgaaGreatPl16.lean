/-
  law17 and law20: the program's tables.
  Functions out of code, over the fast tables.
  Contracts of the functions of NvF1.
  Contracts of the functions of NvF2.
  Contracts of the functions of NvF3.
-/
import Derived.Test.YtcnlcmbchljpgaaGreatProg
import Derived.Test.YtcnlcmbchljpgaaGreatPl9
import Derived.Test.YtcnlcmbchljpgaaGreatPl6
import Derived.Test.YtcnlcmbchljpgaaGreatPl10
import Derived.Test.YtcnlcmbchljpgaaGreatPl13
import Derived.Test.YtcnlcmbchljpgaaGreatPl11
set_option linter.unusedVariables false
namespace Go.Ve
open Go Go.Proofs
noncomputable abbrev LF:jA:=jA.fast Tryz.prog 330 310
def G0:Nat→Option (List V):=fun _=>none
abbrev U:=jL
abbrev wC (f:Func):Code:=match f.body with|some c=>c|none=> .skip
theorem mixed:Tryz.prog.follows .mixedOrders=true:=by kernel_rfl
end Go.Ve

namespace Go.Ve
open Go Go.Proofs
instance:Subsingleton U.St:=inferInstanceAs (Subsingleton Unit)
theorem zVT {S:zP U} {A:Nat→Option JA} (hS:qE U Tryz.prog G0 S.toS) {f:FuncId} {fn:Func} {c:Code} (hf:LF.fn f=some fn) (hb:fn.body=some c)
  {ts:List Ty} {R:RTy} {g:ElS ts→Option R.El} (h: ∀s x,exF (Γ:=U) LF G0 S A fn c R s (kA ts x)=g x):wL U Tryz.prog G0 f (qN (j4 ts R g)):=by
 have hl:LF=jA.of Tryz.prog:=jA.fast_eq Tryz.prog 330 310
 rw [hl] at hf h
 exact zXy mixed hS hf hb h
theorem zTX {S:zP U} {A:Nat→Option JA} (hS:qE U Tryz.prog G0 S.toS) {f:FuncId} {fn:Func} {c:Code} (hf:LF.fn f=some fn) (hb:fn.body=some c)
  {ts:List ATy} {R:RTy} {g:ElA ts→Option R.El} (h: ∀s x,exF (Γ:=U) LF G0 S A fn c R s (zUd ts x)=g x):wL U Tryz.prog G0 f (qN (zWF ts R g)):=by
 have hl:LF=jA.of Tryz.prog:=jA.fast_eq Tryz.prog 330 310
 rw [hl] at hf h
 exact zXA mixed hS hf hb h
theorem vC {S:zP U} {A:Nat→Option JA} (hS:qE U Tryz.prog G0 S.toS) {f:FuncId} {fn:Func} {c:Code} (hf:LF.fn f=some fn) (hb:fn.body=some c)
  {X:Type} {dec:List V→Option X} {enc:X→List V} (hdec: ∀ds x,dec ds=some x→wK ds (enc x)) {R:RTy} {g:X→Option R.El} (h: ∀s x,exF (Γ:=U) LF G0 S A fn c R s (enc x)=g x):wL U Tryz.prog G0 f (qN (wY dec R g)):=by
 have hl:LF=jA.of Tryz.prog:=jA.fast_eq Tryz.prog 330 310
 rw [hl] at hf h
 exact zN6 mixed hS hf hb hdec h
theorem vD {S:zP U} {A:Nat→Option JA} (hS:qE U Tryz.prog G0 S.toS) {f:FuncId} {fn:Func} {c:Code} (hf:LF.fn f=some fn) (hb:fn.body=some c)
  {t:Ty} {ts:List ATy} {R:RTy} (hpl:R.pl=true) (hno: ∀ty,R≠ .o ty) {g:List t.El→ElA ts→Option (List t.El×R.El)} (h: ∀s xs x,zZ7 (Γ:=U) LF G0 S A fn c t R s xs (zUd ts x)=g xs x):zBc U Tryz.prog G0 f t (kW ts) R g:=by
 have hl:LF=jA.of Tryz.prog:=jA.fast_eq Tryz.prog 330 310
 rw [hl] at hf h
 exact zXz mixed hS hf hb (zFE ts) (zXW ts) hpl hno h
theorem zTV {S:zP U} {A:Nat→Option JA} (hS:qE U Tryz.prog G0 S.toS) {f:FuncId} {fn:Func} {c:Code} (hf:LF.fn f=some fn) (hb:fn.body=some c)
  {t:Ty} {p:Nat} {ts:List ATy} {R:RTy} (hpl:R.pl=true) (hno: ∀ty,R≠ .o ty) {g:t.El→ElA ts→Option (t.El×R.El)} (h: ∀s y x,zZ6 (Γ:=U) LF G0 S A fn c t R p s y (zUd ts x)=g y x):zTb U Tryz.prog G0 f t p (kW ts) R g:=by
 have hl:LF=jA.of Tryz.prog:=jA.fast_eq Tryz.prog 330 310
 rw [hl] at hf h
 exact zXx mixed hS hf hb (zFE ts) hpl hno h
theorem zTW {tE:Ty} {S:zP (j1 tE)} {A:Nat→Option JA} (hst: ∀k j,A k=some j→zEM j.sl=true) (hS:qE (j1 tE) Tryz.prog G0 S.toS) {f:FuncId} {fn:Func} {c:Code} (hf:LF.fn f=some fn) (hb:fn.body=some c)
  {ts:List Ty} {R:RTy} {g:HSt tE→ElS ts→Option (HSt tE×R.El)} (h: ∀s x,zZ5 (Γ:=j1 tE) LF G0 S A fn c R s (kA ts x)=g s x):wL (j1 tE) Tryz.prog G0 f (qN (zLS (zEq ts) R g)):=by
 have hl:LF=jA.of Tryz.prog:=jA.fast_eq Tryz.prog 330 310
 rw [hl] at hf h
 exact zXw hst mixed hS hf hb (uD ts) h
structure Ent where
 ad:zP U→zP U
 ok: ∀S:zP U,qE U Tryz.prog G0 S.toS→qE U Tryz.prog G0 (ad S).toS
def z6 {f:FuncId} {sp:U.St→List V→Option (zCW U.St)} (hi:zGR Tryz.prog f=true) (h:wL U Tryz.prog G0 f (qN sp)):Ent:=⟨fun S=>S.add f sp,fun _ hS=>qU hS hi h⟩
def zZ9 {f:FuncId} {t:Ty} {X:Type} {dec:List V→Option X} {R:RTy} {g:List t.El→X→Option (List t.El×R.El)} (hi:zGR Tryz.prog f=true) (h:zBc U Tryz.prog G0 f t dec R g):Ent:=⟨fun S=>S.addB f (w6 t dec R g),fun _ hS=>j3 hS hi h⟩
def qA2 {f:FuncId} {t:Ty} {p:Nat} {X:Type} {dec:List V→Option X} {R:RTy} {g:t.El→X→Option (t.El×R.El)} (hi:zGR Tryz.prog f=true) (h:zTb U Tryz.prog G0 f t p dec R g):Ent:=⟨fun S=>S.addB f (zQm t p dec R g),fun _ hS=>zRx hS hi h⟩
def qA3 {f:FuncId} {t:Ty} {X:Type} {dec:List V→Option X} {g:List t.El→X→Option (List t.El)} (hi:zGR Tryz.prog f=true) (h:zVf U Tryz.prog G0 f t dec g):Ent:=⟨fun S=>S.addB f (zDW t dec g),fun _ hS=>zRy hS hi h⟩
def zXP:List Ent→zP U
 |[]=>zP.none U
 |e::r=>e.ad (zXP r)
theorem zM3: ∀l,qE U Tryz.prog G0 (zXP l).toS
 |[]=>zZ
 |e::r=>e.ok _ (zM3 r)
abbrev OkX (f:FuncId) (ts:List Ty) (R:RTy) (g:ElS ts→Option R.El):Prop:=wL U Tryz.prog G0 f (qN (j4 ts R g))
abbrev OkA (f:FuncId) (ts:List ATy) (R:RTy) (g:ElA ts→Option R.El):Prop:=wL U Tryz.prog G0 f (qN (zWF ts R g))
theorem fX (l:List Ent) {A:Nat→Option JA} {f:FuncId} {fn:Func} (hf:LF.fn f=some fn) (hb:fn.body=some (wC fn))
  {ts:List Ty} {R:RTy} {g:ElS ts→Option R.El} (h: ∀s x,exF (Γ:=U) LF G0 (zXP l) A fn (wC fn) R s (kA ts x)=g x):OkX f ts R g:=zVT (zM3 l) hf hb h
theorem fA (l:List Ent) {A:Nat→Option JA} {f:FuncId} {fn:Func} (hf:LF.fn f=some fn) (hb:fn.body=some (wC fn))
  {ts:List ATy} {R:RTy} {g:ElA ts→Option R.El} (h: ∀s x,exF (Γ:=U) LF G0 (zXP l) A fn (wC fn) R s (zUd ts x)=g x):OkA f ts R g:=zTX (zM3 l) hf hb h
def jj (k b:Nat) (l:List (Nat×Nat×Nat)) (s:List zBg):Nat×JA:=(k,⟨b,l,s⟩)
def jl:List (Nat×JA)→Nat→Option JA
 |[],_=>none
 |(a,j)::r,k=>match Nat.beq a k with
  |true=>some j
  |false=>jl r k
end Go.Ve

namespace Go.Ve
open Go Go.Proofs
set_option maxRecDepth 1000000
set_option maxHeartbeats 0
theorem zQC:OkX 128 [tI] (.p tU) zA5:=fX [] (A:=(jl [jj 16 22906404928 [] [.t 3 tU],jj 13 22906492224 [] [.t 4 tI, .t 3 tU],jj 28 22906492224 [] [.t 3 tU]])) (fn:=Tryz.f128) (by kernel_rfl) (by kernel_rfl) (by rintro ⟨⟩ ⟨a1,⟨⟩⟩;kernel_rfl)
noncomputable def zGZ:Ent:=z6 (by kernel_rfl) zQC
theorem zO6:OkX 71 [zH] (.p .bool) wP:=fX [zGZ] (A:=(jl [jj 6 366503875920 [] [.t 2 .bool]])) (fn:=Tryz.f71) (by kernel_rfl) (by kernel_rfl) (by rintro ⟨⟩ ⟨a1,⟨⟩⟩;kernel_rfl)
noncomputable def zBL:Ent:=z6 (by kernel_rfl) zO6
theorem zK6:OkX 101 [zH,tU] (.p .bool) xD:=fX [zGZ] (A:=fun _=>none) (fn:=Tryz.f101) (by kernel_rfl) (by kernel_rfl) (by rintro ⟨⟩ ⟨a1,a2,⟨⟩⟩;kernel_rfl)
noncomputable def zMO:Ent:=z6 (by kernel_rfl) zK6
theorem zNJ:OkX 44 [zH,zH] (.p .bool) xQ:=fX [zMO] (A:=(jl [jj 6 1431655680 [] [.t 4 .bool]])) (fn:=Tryz.f44) (by kernel_rfl) (by kernel_rfl) (by rintro ⟨⟩ ⟨a1,a2,⟨⟩⟩;kernel_rfl)
noncomputable def zPm:Ent:=z6 (by kernel_rfl) zNJ
theorem zIK:OkX 64 [zD, .str] (.p tI) vB:=fX [] (A:=(jl [jj 9 5864062014720 [] [.t 5 tI],jj 24 5864062014720 [] []])) (fn:=Tryz.f64) (by kernel_rfl) (by kernel_rfl) (by rintro ⟨⟩ ⟨a1,a2,⟨⟩⟩;kernel_rfl)
noncomputable def zD8:Ent:=z6 (by kernel_rfl) zIK
theorem zK4:OkX 134 [zD, .str] (.p tI) vO:=fX [] (A:=(jl [jj 9 5864062014720 [] [.t 5 tI],jj 24 5864062014720 [] []])) (fn:=Tryz.f134) (by kernel_rfl) (by kernel_rfl) (by rintro ⟨⟩ ⟨a1,a2,⟨⟩⟩;kernel_rfl)
noncomputable def zFU:Ent:=z6 (by kernel_rfl) zK4
theorem zNI:OkX 248 [(.int .u8)] (.p .bool) zCq:=fX [] (A:=(jl [jj 6 5726623056 [] [.t 2 .bool]])) (fn:=Tryz.f248) (by kernel_rfl) (by kernel_rfl) (by rintro ⟨⟩ ⟨a1,⟨⟩⟩;kernel_rfl)
noncomputable def zPl:Ent:=z6 (by kernel_rfl) zNI
theorem zQB:OkX 202 [.str] (.p .bool) zA4:=fX [zPl] (A:=(jl [jj 6 91625968640 [] [.t 18 .bool],jj 30 1730765619511609185490967430430720 [] [.t 55 .bool],jj 17 1730765619511609209510073817104720 [] [.t 3 tI],jj 36 1730765619511609209510073817104720 [] []])) (fn:=Tryz.f202) (by kernel_rfl) (by kernel_rfl) (by rintro ⟨⟩ ⟨a1,⟨⟩⟩;kernel_rfl)
noncomputable def zCA:Ent:=z6 (by kernel_rfl) zQB
theorem zNH:OkX 203 [tI,tI,tI] (.p .bool) zX:=fX [] (A:=(jl [jj 6 357912576 [] [.t 6 .bool]])) (fn:=Tryz.f203) (by kernel_rfl) (by kernel_rfl) (by rintro ⟨⟩ ⟨a1,a2,a3,⟨⟩⟩;kernel_rfl)
noncomputable def jW:Ent:=z6 (by kernel_rfl) zNH
theorem zFP:OkX 113 [tU,tI] (.p zH) wU:=fX [zGZ] (A:=fun _=>none) (fn:=Tryz.f113) (by kernel_rfl) (by kernel_rfl) (by rintro ⟨⟩ ⟨a1,a2,⟨⟩⟩;kernel_rfl)
noncomputable def zOt:Ent:=z6 (by kernel_rfl) zFP
theorem zK5:OkX 249 [zH,zH] (.p .bool) k6:=fX [zPm] (A:=(jl [jj 6 22369536 [] [.t 4 .bool]])) (fn:=Tryz.f249) (by kernel_rfl) (by kernel_rfl) (by rintro ⟨⟩ ⟨a1,a2,⟨⟩⟩;kernel_rfl)
noncomputable def zFV:Ent:=z6 (by kernel_rfl) zK5
theorem zIJ:OkX 204 [(.sl z7)] (.p tI) kC:=fX [zFV,zOt,jW,zCA] (A:=(jl [jj 41 6296488550001201382416 [] [.t 5 tI],jj 56 6296488550001201382416 [] [],jj 58 27043212798572405254770141429760 [] [.t 52 .bool],jj 66 133911503688249189628496841001387004071981355583303067893760 [] [.t 98 .bool],jj 74 38597363079105398340612157981313446322593153860116637802968945187404973604864 [] [.t 127 .bool],jj 94 45567723432979415051570096605279850406945466927309786544954066201002041624518809725788842937548800 [] [.t 162 .bool],jj 85 45567723432979415091055199035204673046383172815272363122919130971985473961973845872487220144771088 [] [.t 6 tI],jj 20 45567723432979415091093796398283778444857696476941925758870220966874020816653665067156523089663760 [] [],jj 17 45567723432979415091093796398283778444857696476941925758870220966874020816653665067156524520970064 [] [.t 3 tI],jj 100 45567723432979415091093796398283778444857696476941925758870220966874020816653665067156524520970064 [] []])) (fn:=Tryz.f204) (by kernel_rfl) (by kernel_rfl) (by rintro ⟨⟩ ⟨a1,⟨⟩⟩;kernel_rfl)
noncomputable def zKt:Ent:=z6 (by kernel_rfl) zIJ
theorem zEH:OkX 250 [zCF] (.p .bool) kI:=fX [zBL] (A:=(jl [jj 6 1501199875790160 [] [.t 2 .bool]])) (fn:=Tryz.f250) (by kernel_rfl) (by kernel_rfl) (by rintro ⟨⟩ ⟨a1,⟨⟩⟩;kernel_rfl)
noncomputable def zFA:Ent:=z6 (by kernel_rfl) zEH
theorem zHL:OkX 205 [(.sl wW)] (.p tI) uV:=fX [zFA,zCA] (A:=(jl [jj 37 25185954569440712458512 [] [.t 4 tI],jj 52 25185954569440712458512 [] [],jj 73 7433581732836780243977355534074804751565840 [] [.t 5 tI],jj 20 7433581732843541047178572757549453477414160 [] [],jj 17 7433581732843541047178572757549453835240784 [] [.t 3 tI],jj 88 7433581732843541047178572757549453835240784 [] []])) (fn:=Tryz.f205) (by kernel_rfl) (by kernel_rfl) (by rintro ⟨⟩ ⟨a1,⟨⟩⟩;kernel_rfl)
noncomputable def zI4:Ent:=z6 (by kernel_rfl) zHL
theorem zJW:OkX 206 [zD] (.p tI) vZ:=fX [jW,zD8,zCA] (A:=(jl [jj 41 6447604369776822389310480 [] [.t 5 tI],jj 56 6447604369776822389310480 [] [],jj 90 124714687448262656856724350867958696886044878438400 [] [.t 83 .bool],jj 98 8986648889050213140174198643436161204497942415724039816394959749120 [] [.t 111 .bool],jj 77 8986648889050213264889005029006541827113428629237647983535760396304 [] [.t 6 tI],jj 24 8986648889050213264889005029006543557879048140846857493609577501712 [] [],jj 21 8986648889050213264889005029006543557879048140846857493701181101328 [] [.t 4 tI],jj 104 8986648889050213264889005029006543557879048140846857493701181101328 [] []])) (fn:=Tryz.f206) (by kernel_rfl) (by kernel_rfl) (by rintro ⟨⟩ ⟨a1,⟨⟩⟩;kernel_rfl)
noncomputable def zLv:Ent:=z6 (by kernel_rfl) zJW
theorem zO4:OkX 279 [zL] (.p .bool) zDp:=fX [] (A:=(jl [jj 6 22906492240 [] [.t 2 .bool]])) (fn:=Tryz.f279) (by kernel_rfl) (by kernel_rfl) (by rintro ⟨⟩ ⟨a1,⟨⟩⟩;kernel_rfl)
noncomputable def zQ0:Ent:=z6 (by kernel_rfl) zO4
theorem zR4:OkX 280 [zL] (.p .bool) zGB:=fX [] (A:=fun _=>none) (fn:=Tryz.f280) (by kernel_rfl) (by kernel_rfl) (by rintro ⟨⟩ ⟨a1,⟨⟩⟩;kernel_rfl)
noncomputable def zUe:Ent:=z6 (by kernel_rfl) zR4
theorem zJZ:OkX 251 [zRA] (.p .bool) zBv:=fX [zUe,zQ0,jW] (A:=(jl [jj 6 100743818301219097892160 [] [.t 38 .bool],jj 14 6923062477945693019739442674401296 [] [.t 2 .bool]])) (fn:=Tryz.f251) (by kernel_rfl) (by kernel_rfl) (by rintro ⟨⟩ ⟨a1,⟨⟩⟩;kernel_rfl)
noncomputable def zLy:Ent:=z6 (by kernel_rfl) zJZ
theorem zHM:OkX 207 [(.sl zKS)] (.p tI) uX:=fX [zLy,zCA] (A:=(jl [jj 37 25185954569440712458512 [] [.t 4 tI],jj 52 25185954569440712458512 [] [],jj 73 7433581732836780243977355534074804751565840 [] [.t 5 tI],jj 20 7433581732843541047178572757549453477414160 [] [],jj 17 7433581732843541047178572757549453835240784 [] [.t 3 tI],jj 88 7433581732843541047178572757549453835240784 [] []])) (fn:=Tryz.f207) (by kernel_rfl) (by kernel_rfl) (by rintro ⟨⟩ ⟨a1,⟨⟩⟩;kernel_rfl)
noncomputable def zI5:Ent:=z6 (by kernel_rfl) zHM
theorem zR5:OkX 252 [zD, .str] (.p tI) zDq:=fX [] (A:=(jl [jj 9 5864062014720 [] [.t 5 tI],jj 24 5864062014720 [] []])) (fn:=Tryz.f252) (by kernel_rfl) (by kernel_rfl) (by rintro ⟨⟩ ⟨a1,a2,⟨⟩⟩;kernel_rfl)
noncomputable def zOs:Ent:=z6 (by kernel_rfl) zR5
theorem zGG:OkX 208 [zD] (.p tI) kH:=fX [zOs,jW] (A:=(jl [jj 42 412646679760292225090585600 [] [.t 5 .bool],jj 50 30447950777727144122641087138733868110036599808 [] [.t 5 .bool],jj 58 37692737381938865697777012862015049227352017065451593534499925742265041920 [] [.t 5 .bool],jj 60 37692737381938865697777013349182261670986323133346537773260926430180541440 [] [.t 5 .bool],jj 70 632378593604264737584744508361900640506471740472781533529553313286966197459353600 [] [.t 134 .bool],jj 17 632379196688062848606595672794114227422658476253951667074157685461882905339889488 [] [.t 3 tI],jj 76 632379196688062848606595672794114227422658476253951667074157685461882905339889488 [] []])) (fn:=Tryz.f208) (by kernel_rfl) (by kernel_rfl) (by rintro ⟨⟩ ⟨a1,⟨⟩⟩;kernel_rfl)
noncomputable def zHV:Ent:=z6 (by kernel_rfl) zGG
theorem zMu:OkX 209 [zD] (.p tI) zBu:=fX [zOs] (A:=(jl [jj 22 100743818301213371269120 [] [.t 38 .bool],jj 9 100743818301219097892688 [] [.t 3 tI],jj 28 100743818301219097892688 [] []])) (fn:=Tryz.f209) (by kernel_rfl) (by kernel_rfl) (by rintro ⟨⟩ ⟨a1,⟨⟩⟩;kernel_rfl)
noncomputable def zOr:Ent:=z6 (by kernel_rfl) zMu
theorem zMv:OkX 174 [zD,tU] (.p tI) yP:=fX [] (A:=(jl [jj 18 384307168179912704 [] [.t 29 .bool],jj 9 1537228672809129216 [] [.t 5 tI],jj 24 1537228672809129216 [] []])) (fn:=Tryz.f174) (by kernel_rfl) (by kernel_rfl) (by rintro ⟨⟩ ⟨a1,a2,⟨⟩⟩;kernel_rfl)
noncomputable def zGY:Ent:=z6 (by kernel_rfl) zMv
theorem zJ0:OkX 172 [zD, .str] (.p tI) uY:=fX [] (A:=(jl [jj 9 5864062014720 [] [.t 5 tI],jj 24 5864062014720 [] []])) (fn:=Tryz.f172) (by kernel_rfl) (by kernel_rfl) (by rintro ⟨⟩ ⟨a1,a2,⟨⟩⟩;kernel_rfl)
noncomputable def zLz:Ent:=z6 (by kernel_rfl) zJ0
theorem zMt:OkX 210 [zD] (.p tI) zAa:=fX [zLz,jW,zGY,zBL] (A:=(jl [jj 40 95982967058334720 [] [.t 5 tI],jj 48 98286558267733705728 [] [.t 5 tI],jj 56 25087571940244990198784 [] [.t 5 tI],jj 58 464598858302721315423474842771536090234880 [] [.t 69 .bool],jj 88 1995436901704527259351376376153304285490059033972736 [] [],jj 102 2246662222260509988834430072107158093433561622966889387929056051200 [] [.t 110 .bool],jj 93 2246662222262551320785349088125518235372070433246631536525402193936 [] [.t 7 tI],jj 20 2246662222262553316222251257251635889469762035211714373333674907408 [] [],jj 17 2246662222262553316222251257251635889469762035211714373425295284048 [] [.t 3 tI],jj 108 2246662222262553316222251257251635889469762035211714373425295284048 [] []])) (fn:=Tryz.f210) (by kernel_rfl) (by kernel_rfl) (by rintro ⟨⟩ ⟨a1,⟨⟩⟩;kernel_rfl)
noncomputable def zOq:Ent:=z6 (by kernel_rfl) zMt
theorem zEG:OkX 253 [zD,(.sl jE),tI,tI,tI] (.p tI) j5:=fX [zFU,jW] (A:=(jl [jj 30 1690200800304299863862767779840 [] [.t 50 .bool],jj 38 7433581732841850846378268451680791564386304 [] [.t 71 .bool],jj 46 7794667965516416053545271929247418555377804902400 [] [.t 81 .bool],jj 57 523091803487547997888166888180986426855020182207097470976 [] [.t 13 tI],jj 20 523091811282223396986315785267305534675196263582539972608 [] [],jj 17 523091811282223396986315785267305534675196287033065603072 [] [.t 11 tI],jj 72 523091811282223396986315785267305534675196287033065603072 [] []])) (fn:=Tryz.f253) (by kernel_rfl) (by kernel_rfl) (by rintro ⟨⟩ ⟨a1,a2,a3,a4,a5,⟨⟩⟩;kernel_rfl)
noncomputable def yR:Ent:=z6 (by kernel_rfl) zEG
theorem zJY:OkX 211 [zD] (.p tI) xP:=fX [yR,zFV,zBL,jW] (A:=(jl [jj 14 1501199874392064 [] [.t 25 .bool],jj 54 110768999647131088315831082790420480 [] [.t 58 .bool],jj 74 8173309551284740464483728504488827824841739507723141120 [] [.t 91 .bool],jj 65 8173309551284740577800415145152905989891291396622517264 [] [.t 5 tI],jj 48 8173309551284740577911184144800037078207122479412937744 [] [],jj 45 8173309551284740577911184144801648880917306925194937616 [] [.t 4 tI],jj 80 8173309551284740577911184144801648880917306925194937616 [] []])) (fn:=Tryz.f211) (by kernel_rfl) (by kernel_rfl) (by rintro ⟨⟩ ⟨a1,⟨⟩⟩;kernel_rfl)
noncomputable def zLx:Ent:=z6 (by kernel_rfl) zJY
theorem zK3:OkX 212 [zD] (.p tI) zAy:=fX [yR,zD8,jW] (A:=(jl [jj 14 24019198012555264 [] [.t 27 .bool],jj 34 108172851219469426679694103674880 [] [.t 53 .bool]])) (fn:=Tryz.f212) (by kernel_rfl) (by kernel_rfl) (by rintro ⟨⟩ ⟨a1,⟨⟩⟩;kernel_rfl)
noncomputable def zMN:Ent:=z6 (by kernel_rfl) zK3
theorem zJX:OkX 254 [zD] (.p tI) uW:=fX [zFU,jW] (A:=(jl [jj 30 24595658742039576576 [] [.t 32 .bool],jj 38 7259357160980020553860729299779442442240 [] [.t 66 .bool],jj 49 31178701589133238427365255877395379460782172406800 [] [.t 5 tI],jj 24 31178701596392595588345276431280704419303654425616 [] [],jj 21 31178701596392595588345276431280704419326555325712 [] [.t 4 tI],jj 64 31178701596392595588345276431280704419326555325712 [] []])) (fn:=Tryz.f254) (by kernel_rfl) (by kernel_rfl) (by rintro ⟨⟩ ⟨a1,⟨⟩⟩;kernel_rfl)
noncomputable def zLw:Ent:=z6 (by kernel_rfl) zJX
theorem zGH:OkX 255 [tPV] (.p tI) xK:=fX [zBL] (A:=(jl [jj 37 103161669916429158228951312 [] [.t 4 tI],jj 20 103161669940446890226090256 [] [],jj 17 103161669940448356152115536 [] [.t 3 tI],jj 52 103161669940448356152115536 [] [],jj 85 1948668849746180360361501571666429475588596043792 [] [.t 6 tI],jj 68 1948668849774536791580174899052741648666549293072 [] [],jj 65 1948668849774537224245170389450289247010062078992 [] [.t 5 tI],jj 100 1948668849774537224245170389450289247010062078992 [] [],jj 126 8776015936244118375918817192586638416352703146905166652479897600 [] [.t 106 .bool],jj 145 2412335183457438515607515589458659717936581122655130276641842173130320379920 [] [.t 9 tI],jj 116 2412335192444087404649555544796380006365213496389376768509399724846544781328 [] [],jj 113 2412335192444087404657728355488439204661595267009755516997428957606549340176 [] [.t 7 tI],jj 160 2412335192444087404657728355488439204661595267009755516997428957606549340176 [] []])) (fn:=Tryz.f255) (by kernel_rfl) (by kernel_rfl) (by rintro ⟨⟩ ⟨a1,⟨⟩⟩;kernel_rfl)
noncomputable def zHW:Ent:=z6 (by kernel_rfl) zGH
theorem zII:OkX 213 [zD] (.p tI) vA:=fX [yR,zHW,zLw,jW] (A:=(jl [jj 14 1611901092819505564876800 [] [.t 40 .bool],jj 26 1730765617899708116690659876798464 [] [.t 55 .bool]])) (fn:=Tryz.f213) (by kernel_rfl) (by kernel_rfl) (by rintro ⟨⟩ ⟨a1,⟨⟩⟩;kernel_rfl)
noncomputable def zKs:Ent:=z6 (by kernel_rfl) zII
theorem zHN:OkX 173 [zD] (.p tI) vR:=fX [zKs,zMN,zLx,zOq,zOr,zHV,zI5,zLv,zI4,zKt,jW,zCA] (A:=(jl [jj 29 6760803194920734830822890144016 [] [.t 4 tI],jj 44 6760803194920734830822890144016 [] []])) (fn:=Tryz.f173) (by kernel_rfl) (by kernel_rfl) (by rintro ⟨⟩ ⟨a1,⟨⟩⟩;kernel_rfl)
noncomputable def zI6:Ent:=z6 (by kernel_rfl) zHN
theorem zO5:OkX 144 [zV] (.p tI) kZ:=fX [zGY,zI6] (A:=(jl [jj 41 6602346876092618007411426320 [] [.t 5 tI],jj 56 6602346876092618007411426320 [] [],jj 86 1995436894735544384810556644423392325287446063349760 [] [.t 85 .bool],jj 77 1995436902161866760493117671048079757878355510231056 [] [.t 8 tI],jj 64 1995436902169126089961847779416217730674252809617424 [] [],jj 61 1995436902169126117654091089255088894142100436799504 [] [.t 6 tI],jj 20 1995436902169126117654097691601965010778939356992784 [] [],jj 17 1995436902169126117654097691601965082836899876427088 [] [.t 3 tI],jj 92 1995436902169126117654097691601965082836899876427088 [] []])) (fn:=Tryz.f144) (by kernel_rfl) (by kernel_rfl) (by rintro ⟨⟩ ⟨a1,⟨⟩⟩;kernel_rfl)
end Go.Ve

namespace Go.Ve
open Go Go.Proofs
set_option maxRecDepth 1000000
set_option maxHeartbeats 0
theorem zMx:OkX 72 [tI,tI,tI] (.p .bool) q7:=fX [] (A:=(jl [jj 6 357912576 [] [.t 6 .bool]])) (fn:=Tryz.f72) (by kernel_rfl) (by kernel_rfl) (by rintro ⟨⟩ ⟨a1,a2,a3,⟨⟩⟩;kernel_rfl)
noncomputable def xZ:Ent:=z6 (by kernel_rfl) zMx
theorem zNK:OkX 73 [zA, .bool, .bool, .bool] (.p .bool) yJ:=fX [] (A:=(jl [jj 6 6447604371278022265077760 [] [.t 8 .bool]])) (fn:=Tryz.f73) (by kernel_rfl) (by kernel_rfl) (by rintro ⟨⟩ ⟨a1,a2,a3,a4,⟨⟩⟩;kernel_rfl)
noncomputable def zAH:Ent:=z6 (by kernel_rfl) zNK
theorem zK7:OkX 129 [qQ,qQ] (.p .bool) zCk:=fX [] (A:=(jl [jj 6 93824992236800 [] [.t 4 .bool]])) (fn:=Tryz.f129) (by kernel_rfl) (by kernel_rfl) (by rintro ⟨⟩ ⟨a1,a2,⟨⟩⟩;kernel_rfl)
noncomputable def zMP:Ent:=z6 (by kernel_rfl) zK7
theorem zO8:OkX 74 [(.sl qQ), .bool] (.p .bool) k7:=fX [zMP] (A:=(jl [jj 18 412646679761793424960782336 [] [.t 44 .bool],jj 9 412646679761793424966374656 [] [.t 5 tI],jj 24 412646679761793424966374656 [] []])) (fn:=Tryz.f74) (by kernel_rfl) (by kernel_rfl) (by rintro ⟨⟩ ⟨a1,a2,⟨⟩⟩;kernel_rfl)
noncomputable def zBM:Ent:=z6 (by kernel_rfl) zO8
theorem zGI:OkX 75 [zA] (.p .bool) xL:=fX [zBM,zAH,xZ] (A:=(jl [jj 6 5864062014784 [] [.t 21 .bool],jj 18 393529039039261310992 [] [.t 2 .bool],jj 30 1690194352699934590640005840912 [] [.t 2 .bool]])) (fn:=Tryz.f75) (by kernel_rfl) (by kernel_rfl) (by rintro ⟨⟩ ⟨a1,⟨⟩⟩;kernel_rfl)
noncomputable def zHX:Ent:=z6 (by kernel_rfl) zGI
theorem zEI:OkX 76 [zA] (.p .bool) kJ:=fX [zBM,zAH,xZ] (A:=(jl [jj 6 93824992236864 [] [.t 23 .bool],jj 14 25185954481479782236160 [] [.t 37 .bool],jj 26 110768999648340014135445711965126672 [] [.t 2 .bool],jj 30 29037317874920433472551891183589197348880 [] [.t 2 .bool]])) (fn:=Tryz.f76) (by kernel_rfl) (by kernel_rfl) (by rintro ⟨⟩ ⟨a1,⟨⟩⟩;kernel_rfl)
noncomputable def zFB:Ent:=z6 (by kernel_rfl) zEI
theorem zFi:OkX 77 [zA] (.p .bool) uK:=fX [zBM,zAH,xZ] (A:=(jl [jj 6 5864062014784 [] [.t 21 .bool],jj 22 412646679760292225090584592 [] [.t 2 .bool],jj 38 7089188934306746453259739058493456400 [] [.t 2 .bool]])) (fn:=Tryz.f77) (by kernel_rfl) (by kernel_rfl) (by rintro ⟨⟩ ⟨a1,⟨⟩⟩;kernel_rfl)
noncomputable def zGh:Ent:=z6 (by kernel_rfl) zFi
theorem zIL:OkX 78 [zA] (.p .bool) zAM:=fX [zBM,zAH,xZ] (A:=(jl [jj 6 93824992236864 [] [.t 23 .bool],jj 24 94575592174780416 [] [.t 26 .bool],jj 26 6760803201217127397857033191440 [] [.t 2 .bool],jj 36 425930601676685078902892277006336 [] [.t 52 .bool],jj 38 523091811282223396986315352575900656772893909497308774416 [] [.t 2 .bool]])) (fn:=Tryz.f78) (by kernel_rfl) (by kernel_rfl) (by rintro ⟨⟩ ⟨a1,⟨⟩⟩;kernel_rfl)
noncomputable def zKu:Ent:=z6 (by kernel_rfl) zIL
theorem zNL:OkX 32 [zA] (.p .bool) zD0:=fX [zKu,zGh,zFB,zHX,zBM,zAH,xZ,zBL] (A:=(jl [jj 6 366503875840 [] [.t 19 .bool],jj 17 98382634693280399440 [] [.t 3 tI],jj 32 98382634693280399440 [] [],jj 42 1902996923607946508077689439978084877069189136 [] [.t 2 .bool]])) (fn:=Tryz.f32) (by kernel_rfl) (by kernel_rfl) (by rintro ⟨⟩ ⟨a1,⟨⟩⟩;kernel_rfl)
noncomputable def zPn:Ent:=z6 (by kernel_rfl) zNL
theorem zMw:OkX 102 [zH,zH] (.p tI) zBw:=fX [] (A:=(jl [jj 6 93824992236544 [] [.t 23 .bool]])) (fn:=Tryz.f102) (by kernel_rfl) (by kernel_rfl) (by rintro ⟨⟩ ⟨a1,a2,⟨⟩⟩;kernel_rfl)
theorem zHH:OkX 176 [(.sl zL),zL] (.p tI) x7:=fX [] (A:=(jl [jj 9 91625948416 [] [.t 8 tI],jj 28 91625968896 [] []])) (fn:=Tryz.f176) (by kernel_rfl) (by kernel_rfl) (by rintro ⟨⟩ ⟨a1,a2,⟨⟩⟩;kernel_rfl)
noncomputable def zI2:Ent:=z6 (by kernel_rfl) zHH
theorem zFh:OkX 152 [(.sl zL),zL] (.p .bool) uJ:=fX [zI2] (A:=fun _=>none) (fn:=Tryz.f152) (by kernel_rfl) (by kernel_rfl) (by rintro ⟨⟩ ⟨a1,a2,⟨⟩⟩;kernel_rfl)
noncomputable def zGg:Ent:=z6 (by kernel_rfl) zFh
theorem zNE:OkX 117 [zR,tI,tI] (.p tI) zA2:=fX [zGg] (A:=(jl [jj 13 24019192286875648 [] [.t 17 tI],jj 32 24019197991129088 [] []])) (fn:=Tryz.f117) (by kernel_rfl) (by kernel_rfl) (by rintro ⟨⟩ ⟨a1,a2,a3,⟨⟩⟩;kernel_rfl)
noncomputable def zEp:Ent:=z6 (by kernel_rfl) zNE
theorem zHG:OkX 135 [(.sl tI),tI] (.p tI) uU:=fX [] (A:=(jl [jj 9 91625948416 [] [.t 8 tI],jj 28 91625968896 [] []])) (fn:=Tryz.f135) (by kernel_rfl) (by kernel_rfl) (by rintro ⟨⟩ ⟨a1,a2,⟨⟩⟩;kernel_rfl)
noncomputable def zDC:Ent:=z6 (by kernel_rfl) zHG
theorem zQA:OkX 145 [zR,tI,tI] (.p tI) zHd:=fX [zDC,zEp] (A:=fun _=>none) (fn:=Tryz.f145) (by kernel_rfl) (by kernel_rfl) (by rintro ⟨⟩ ⟨a1,a2,a3,⟨⟩⟩;kernel_rfl)
noncomputable def zSF:Ent:=z6 (by kernel_rfl) zQA
theorem zFg:OkX 87 [(.sl tI),tI] (.p .bool) vE:=fX [zDC] (A:=fun _=>none) (fn:=Tryz.f87) (by kernel_rfl) (by kernel_rfl) (by rintro ⟨⟩ ⟨a1,a2,⟨⟩⟩;kernel_rfl)
noncomputable def zB1:Ent:=z6 (by kernel_rfl) zFg
theorem zTE:OkX 107 [zR,tI,tI] (.p .bool) zHc:=fX [zB1,zSF,zEp] (A:=(jl [jj 18 1501194149171200 [] [.t 6 .bool]])) (fn:=Tryz.f107) (by kernel_rfl) (by kernel_rfl) (by rintro ⟨⟩ ⟨a1,a2,a3,⟨⟩⟩;kernel_rfl)
noncomputable def zLr:Ent:=z6 (by kernel_rfl) zTE
theorem zPf:OkX 109 [tI] (.p tI) zCf:=fX [] (A:=fun _=>none) (fn:=Tryz.f109) (by kernel_rfl) (by kernel_rfl) (by rintro ⟨⟩ ⟨a1,⟨⟩⟩;kernel_rfl)
noncomputable def zKz:Ent:=z6 (by kernel_rfl) zPf
theorem zQE:OkX 108 [tI] (.p tU) zDf:=fX [zKz] (A:=fun _=>none) (fn:=Tryz.f108) (by kernel_rfl) (by kernel_rfl) (by rintro ⟨⟩ ⟨a1,⟨⟩⟩;kernel_rfl)
noncomputable def zL4:Ent:=z6 (by kernel_rfl) zQE
theorem zLa:OkX 168 [zH,tU] (.p .bool) wD:=fX [zL4] (A:=fun _=>none) (fn:=Tryz.f168) (by kernel_rfl) (by kernel_rfl) (by rintro ⟨⟩ ⟨a1,a2,⟨⟩⟩;kernel_rfl)
noncomputable def zFX:Ent:=z6 (by kernel_rfl) zLa
theorem zMy:OkX 67 [zR,tI,tI] (.p tI) zAb:=fX [] (A:=(jl [jj 21 103161669940448350515040256 [] [.t 8 tI],jj 12 103161669940448350515040256 [] [],jj 9 103161669940448356241592320 [] [.t 7 tI],jj 36 103161669940448356241592320 [] []])) (fn:=Tryz.f67) (by kernel_rfl) (by kernel_rfl) (by rintro ⟨⟩ ⟨a1,a2,a3,⟨⟩⟩;kernel_rfl)
noncomputable def zDE:Ent:=z6 (by kernel_rfl) zMy
theorem zPa:OkX 126 [zR,tI,tI] (.p tI) zFd:=fX [zDE] (A:=(jl [jj 22 24595657298930565120 [] [.t 32 .bool],jj 13 98382635059761975296 [] [.t 8 tI],jj 28 98382635059761975296 [] []])) (fn:=Tryz.f126) (by kernel_rfl) (by kernel_rfl) (by rintro ⟨⟩ ⟨a1,a2,a3,⟨⟩⟩;kernel_rfl)
noncomputable def zQ3:Ent:=z6 (by kernel_rfl) zPa
theorem zR6:OkX 66 [zR,tI,tI] (.p .bool) zJG:=fX [zQ3,zDE] (A:=(jl [jj 21 6148914668330094592 [] [.t 8 tI],jj 36 6148914668330094592 [] []])) (fn:=Tryz.f66) (by kernel_rfl) (by kernel_rfl) (by rintro ⟨⟩ ⟨a1,a2,a3,⟨⟩⟩;kernel_rfl)
noncomputable def zUf:Ent:=z6 (by kernel_rfl) zR6
theorem zPb:OkX 103 [zD] (.p .bool) zFr:=fX [] (A:=(jl [jj 6 2092367245128893587945263141069222138700785148154678169600 [] [.t 95 .bool],jj 17 2246662220170186071093357669306372748400539896510929225270622683216 [] [.t 3 tI],jj 32 2246662220170186071093357669306372748400539896510929225270622683216 [] [],jj 37 2412335190197425182395175538125413489691488791064416382276985293406222680336 [] [.t 4 tI],jj 52 2412335190197425182395175538125413489691488791064416382276985293406222680336 [] [],jj 57 2590225187221970235448528471106963021175544371793061347801571462163172713442087797776 [] [.t 5 tI],jj 72 2590225187221970235448528471106963021175544371793061347801571462163172713442087797776 [] []])) (fn:=Tryz.f103) (by kernel_rfl) (by kernel_rfl) (by rintro ⟨⟩ ⟨a1,⟨⟩⟩;kernel_rfl)
noncomputable def zQ4:Ent:=z6 (by kernel_rfl) zPb
theorem zNN:OkX 46 [zV] (.p .bool) zD4:=fX [zQ4] (A:=(jl [jj 17 5864061993040 [] [.t 3 tI],jj 32 5864061993040 [] []])) (fn:=Tryz.f46) (by kernel_rfl) (by kernel_rfl) (by rintro ⟨⟩ ⟨a1,⟨⟩⟩;kernel_rfl)
noncomputable def zPp:Ent:=z6 (by kernel_rfl) zNN
def zEr:Nat→Option JA:=fun k=>match k with
 |84=>some ⟨184497489401772529385612327842172717039008268166646221893471402059821287234759868672175917131173661172843563441437060059660158104845032398976807920666283692562120150139178769612799511748636278282415866878160176201872937423527853931074825229289817028865471580173776186278979555862451026349435370470386779578868176354099221238174997807148290368091204552361327921521465467763204555046027307456204118567337113234081310864304329682188410055227959601689731512418582605896572426052789584762208778001498785021309361810928365592763602942101060634062780064931573442859418747069999582698364321162101164826918019197244306192189303006234838493212327877025209681605424513505280,[],[.v 5 [.o 1100 zQ, .o 1101 tI], .st]⟩
 |25=>some ⟨184497489401772529385612327842172717039008268166646221893471402059821287234759868672175917131173661172843563441437060059660158104845032398976807920666283692562120150139178769612799511748636278282415866878160176201872937423527853931074825229289817028865471580173776186278979555862451026349435370470386779578868176354099221238174997807148290368091204552361327921521465467763204555046027307456204118567337113234081310864304329682188410055227959601689731512418582605896572426052789584762208778001498785021309361810928365592763602942101060634062780064931573442859418747069999582698364321162101164826918019197244306192189303006234838493212327877025209681605424513505280,[],[.t 6 tI, .v 5 [.o 1100 zQ, .o 1101 tI], .st]⟩
 |28=>some ⟨184497489401772529385612327842172717039008268166646221893471402059821287234759868672175917131173661172843563441437060059660158104845032398976807920666283692562120150139178769612799511748636278282415866878160176201872937423527853931074825229289817028865471580173776186278979555862451026349435370470386779578868176354099221238174997807148290368091204552361327921521465467763204555046027307456204118567337113234081310864304329682188410055227959601689731512418582605896572426052789584762208778001498785021309361810928365592763602942101060634062780064931573442859418747069999582698364321162101164826918019197244306192189303006234838493212327877025209675600991514216448,[],[.v 5 [.o 1100 zQ, .o 1101 tI], .st]⟩
 |37=>some ⟨184497489401772529385612327842172717039008268166646221893471402059821287234759868672175917131173661172843563441437060059660158104845032398976807920666283692562120150139178769612799511748636278282415866878160176201872937423527853931074825229289817028865471580173776186278979555862451026349435370470386779578868176354099221238174997807148290368091204552361327921521465467763204555046027307456204118567337113234081310864304329682188410055227959601689731512418582605896572426052789584762208778001498785021309361810928365592763602942101060634062780064931573442859418747069999582698364321162101164826918019197244306192189303006234838493212327877025209675600991514216448,[],[.t 7 tI, .v 5 [.o 1100 zQ, .o 1101 tI], .st]⟩
 |40=>some ⟨184497489401772529385612327842172717039008268166646221893471402059821287234759868672175917131173661172843563441437060059660158104845032398976807920666283692562120150139178769612799511748636278282415866878160176201872937423527853931074825229289817028865471580173776186278979555862451026349435370470386779578868176354099221238174997807148290368091204552361327921521465467763204555046027307456204118567337113234081310864304329682188410055227959601689731512418582605896572426052789584762208778001498785021309361810928365592763602942101060634062780064931573442859418747069999582698364321162101164826918019197244306192189303006234838493212327877000023727030486242887680,[],[.v 5 [.o 1100 zQ, .o 1101 tI], .st]⟩
 |80=>some ⟨184497489401772529385612327842172717039008268166646221893471402059821287234759868672175917131173661172843563441437060059660158104845032398976807920666283692562120150139178769612799511748636278282415866878160176201872937423527853931074825229289817028865471580173776186278979555862451026349435370470386779578868176354099221238174997807148290368091204552361327921521465467763204555046027307456204118567337113234081310864304329682188410055227959601689731512418582605896572426052789584762208778001498785021309361810928365592763602942101060634062780064931573442859418747069821583778745688924935728571583505041672838009412557657231906458756740677065373698151113771976704,[],[.v 5 [.o 1100 zQ, .o 1101 tI], .st]⟩
 |70=>some ⟨150770949527755429313232131334431639559735035425831931880481358702119485440,[],[.t 123 .bool, .v 5 [.o 1100 zQ, .o 1101 tI], .st]⟩
 |68=>some ⟨33477875922062297407124099488107905476223153719886495090688,[],[.t 10 tI, .v 5 [.o 1100 zQ, .o 1101 tI], .st]⟩
 |61=>some ⟨33477875922062297407124099488107905476223153719886495090688,[],[.t 10 tI, .v 5 [.o 1100 zQ, .o 1101 tI], .st]⟩
 |62=>some ⟨2092367245128893587945152372069573395711376497566321475584,[],[.t 95 .bool, .v 5 [.o 1100 zQ, .o 1101 tI], .st]⟩
 |50=>some ⟨108166248872599386899585878196224,[],[.t 53 .bool, .v 5 [.o 1100 zQ, .o 1101 tI], .st]⟩
 |92=>some ⟨737989957607090117542449311368690868156033072666584887573885608239285148939039474688703668524694644691374253765748240238640632419380129595907231682665134770248480600556715078451198046994545113129663467512640704807491749694111415724299300917159268115461886320695104745115918223449804105397741481881547118315472705416396884952699991228593161472364818209445311686085861871052818220184109229824816474269348452936325243457217318728753640220911838406758926049674330423586289704211158339048835112005995140085237447243713462371054411768404242536251120259726293772220522512954229778033961281054049025040681255249323705639452069711332539928507387154905727039987508328794112,[],[.v 5 [.o 1100 zQ, .o 1101 tI], .st]⟩
 |89=>some ⟨737989957607090117542449311368690868156033072666584887573885608239285148939039474688703668524694644691374253765748240238640632419380129595907231682665134770248480600556715078451198046994545113129663467512640704807491749694111415724299300917159268115461886320695104745115918223449804105397741481881547118315472705416396884952699991228593161472364818209445311686085861871052818220184109229824816474269348452936325243457217318728753640220911838406758926049674330423586289704211158339048835112005995140085237447243713462371054411768404242536251120259726293772220522515870386078824983771043852409388662279710666054786872263881531095007792867776925237958836497535731712,[],[.t 12 tI, .v 5 [.o 1100 zQ, .o 1101 tI], .st]⟩
 |104=>some ⟨737989957607090117542449311368690868156033072666584887573885608239285148939039474688703668524694644691374253765748240238640632419380129595907231682665134770248480600556715078451198046994545113129663467512640704807491749694111415724299300917159268115461886320695104745115918223449804105397741481881547118315472705416396884952699991228593161472364818209445311686085861871052818220184109229824816474269348452936325243457217318728753640220911838406758926049674330423586289704211158339048835112005995140085237447243713462371054411768404242536251120259726293772220522515870386078824983771043852409388662279710666054786872263881531095007792867776925237958836497535731712,[],[.v 5 [.o 1100 zQ, .o 1101 tI], .st]⟩
 |83=>some ⟨0,[(16,0,8)],[.st]⟩
 |79=>some ⟨0,[(14848,1024,0)],[.st]⟩
 |_=>none
theorem zMG: ∀k j,zEr k=some j→zEM j.sl=true:=by
 intro k j h
 unfold zEr at h
 split at h<;>(cases h<;>rfl)
theorem zMD:wL (j1 zL) Tryz.prog G0 104 (qN (zLS (zEq [zV]) (.tu [zGp,tI]) zCl)):=
 zTW (fn:=Tryz.f104) (c:=wC Tryz.f104) (S:=(((((zP.none (j1 zL)).add 144 (j4 [zV] (.p tI) kZ)).add 113 (j4 [tU,tI] (.p zH) wU)).add 102 (j4 [zH,zH] (.p tI) zBw)).addH)) (A:=zEr) zMG (zLQ (qU (qU (qU zZ (by kernel_rfl) (zLe (by kernel_rfl) zO5)) (by kernel_rfl) (zLe (by kernel_rfl) zFP)) (by kernel_rfl) (zLe (by kernel_rfl) zMw)) (by kernel_rfl) (by kernel_rfl)) (by kernel_rfl) (by kernel_rfl) (by rintro st0 ⟨a1,⟨⟩⟩;kernel_rfl)
theorem zNM:wL U Tryz.prog G0 104 (qN (j4 [zV] (.tu [zJs,tI]) zD1)):=
 zLY (fun _=>rfl) (by kernel_rfl) zMD
noncomputable def zPo:Ent:=z6 (by kernel_rfl) zNM
theorem zIN:OkX 105 [(.sl tI),tI] (.p .bool) zAO:=fX [] (A:=(jl [jj 26 103161669940448355883679744 [] [.t 43 .bool],jj 17 103161669940448356241507584 [] [.t 5 tI],jj 32 103161669940448356241507584 [] []])) (fn:=Tryz.f105) (by kernel_rfl) (by kernel_rfl) (by rintro ⟨⟩ ⟨a1,a2,⟨⟩⟩;kernel_rfl)
noncomputable def zKw:Ent:=z6 (by kernel_rfl) zIN
theorem zO9:OkX 47 [zV,(.sl tI)] (.tu [zR,tI]) zFc:=fX [zKw,zPo] (A:=(jl [jj 27 0 [(240,3,0)] []])) (fn:=Tryz.f47) (by kernel_rfl) (by kernel_rfl) (by rintro ⟨⟩ ⟨a1,a2,⟨⟩⟩;kernel_rfl)
noncomputable def zQ2:Ent:=z6 (by kernel_rfl) zO9
theorem zPd:OkX 14 [zV,(.sl tI)] (.tu [zR, .bool]) zFs:=fX [zQ2,zPp] (A:=(jl [jj 6 1431633920 [] [.t 15 .bool]])) (fn:=Tryz.f14) (by kernel_rfl) (by kernel_rfl) (by rintro ⟨⟩ ⟨a1,a2,⟨⟩⟩;kernel_rfl)
noncomputable def zQ6:Ent:=z6 (by kernel_rfl) zPd
end Go.Ve

namespace Go.Ve
open Go Go.Proofs
set_option maxRecDepth 1000000
set_option maxHeartbeats 0
theorem zJT:OkX 57 [zR,tI,tI] (.p (.sl zL)) zBi:=fX [zEp,zLr] (A:=(jl [jj 30 402974888897708189286400 [] [.t 39 .bool, .o 7 7 zL],jj 36 103161669916429158229753856 [] [.o 7 7 zL],jj 21 412646679760292225091387392 [] [.t 26 tI, .o 7 7 zL],jj 40 412646679761793424609263616 [] [.o 7 7 zL]])) (fn:=Tryz.f57) (by kernel_rfl) (by kernel_rfl) (by rintro ⟨⟩ ⟨a1,a2,a3,⟨⟩⟩;kernel_rfl)
noncomputable def zLs:Ent:=z6 (by kernel_rfl) zJT
theorem zFp:OkA 178 [.d wW, .pp .str] (.p .bool) zAt:=fA [] (A:=fun _=>none) (fn:=Tryz.f178) (by kernel_rfl) (by kernel_rfl) (by rintro ⟨⟩ ⟨a1,a2,⟨⟩⟩;kernel_rfl)
noncomputable def zB3:Ent:=z6 (by kernel_rfl) zFp
theorem zBe:OkA 177 [.d (.sl wW), .clo 178 [(true, .str)]] (.p tI) wO:=fA [zB3] (A:=(jl [jj 9 91625948416 [] [.t 8 tI],jj 28 91625968896 [] []])) (fn:=Tryz.f177) (by kernel_rfl) (by kernel_rfl) (by rintro ⟨⟩ ⟨a1,⟨a2,⟨⟩⟩,⟨⟩⟩;kernel_rfl)
noncomputable def zBK:Ent:=z6 (by kernel_rfl) zBe
theorem zHR:OkX 153 [zD, .str] (.p tI) zAd:=fX [zBK,zB3] (A:=fun _=>none) (fn:=Tryz.f153) (by kernel_rfl) (by kernel_rfl) (by rintro ⟨⟩ ⟨a1,a2,⟨⟩⟩;kernel_rfl)
noncomputable def zI9:Ent:=z6 (by kernel_rfl) zHR
theorem zNO:OkX 141 [zH,zH] (.p .bool) zBa:=fX [zFX] (A:=(jl [jj 6 1431655680 [] [.t 4 .bool]])) (fn:=Tryz.f141) (by kernel_rfl) (by kernel_rfl) (by rintro ⟨⟩ ⟨a1,a2,⟨⟩⟩;kernel_rfl)
noncomputable def zH8:Ent:=z6 (by kernel_rfl) zNO
theorem zJ4:OkX 179 [zCF,zH] (.p .bool) xS:=fX [zH8] (A:=(jl [jj 6 23456248059136 [] [.t 4 .bool]])) (fn:=Tryz.f179) (by kernel_rfl) (by kernel_rfl) (by rintro ⟨⟩ ⟨a1,a2,⟨⟩⟩;kernel_rfl)
noncomputable def zLD:Ent:=z6 (by kernel_rfl) zJ4
theorem zMz:OkX 154 [wW,zH] (.p tI) zC0:=fX [zLD] (A:=(jl [jj 9 366503539968 [] [.t 10 tI],jj 28 366503884032 [] []])) (fn:=Tryz.f154) (by kernel_rfl) (by kernel_rfl) (by rintro ⟨⟩ ⟨a1,a2,⟨⟩⟩;kernel_rfl)
noncomputable def zOu:Ent:=z6 (by kernel_rfl) zMz
theorem zJ3:OkX 118 [zD, .str,zH] (.p .bool) zBz:=fX [zOu,zI9] (A:=(jl [jj 30 6296488620369945563136 [] [.t 6 .bool]])) (fn:=Tryz.f118) (by kernel_rfl) (by kernel_rfl) (by rintro ⟨⟩ ⟨a1,a2,a3,⟨⟩⟩;kernel_rfl)
noncomputable def zLC:Ent:=z6 (by kernel_rfl) zJ3
theorem zIM:OkX 28 [zR,tI,tI] (.p (.sl zL)) zAN:=fX [zDE,zUf] (A:=(jl [jj 28 412646678224564752157261824 [] [.o 7 7 zL],jj 25 412646679761418124997705728 [] [.t 9 tI, .o 7 7 zL],jj 40 412646679761418124997705728 [] [.o 7 7 zL]])) (fn:=Tryz.f28) (by kernel_rfl) (by kernel_rfl) (by rintro ⟨⟩ ⟨a1,a2,a3,⟨⟩⟩;kernel_rfl)
noncomputable def zKv:Ent:=z6 (by kernel_rfl) zIM
theorem zR7:OkX 59 [zR,zL] (.p z7) zJH:=fX [] (A:=fun _=>none) (fn:=Tryz.f59) (by kernel_rfl) (by kernel_rfl) (by rintro ⟨⟩ ⟨a1,a2,⟨⟩⟩;kernel_rfl)
noncomputable def zUg:Ent:=z6 (by kernel_rfl) zR7
theorem zO7:OkX 69 [zD,tU,tI] (.p tI) zDr:=fX [] (A:=(jl [jj 18 1574122160955116748800 [] [.t 35 .bool],jj 9 6296488643826193616896 [] [.t 7 tI],jj 24 6296488643826193616896 [] []])) (fn:=Tryz.f69) (by kernel_rfl) (by kernel_rfl) (by rintro ⟨⟩ ⟨a1,a2,a3,⟨⟩⟩;kernel_rfl)
noncomputable def zQ1:Ent:=z6 (by kernel_rfl) zO7
theorem zJ1:OkX 30 [zR] (.p (.sl zK)) zBx:=fX [zQ1,zUg,zKv] (A:=(jl [jj 30 98382541234792038400 [] [.t 33 .bool, .o 3 3 zK],jj 58 1995436902169126115923332072090355873326734455603200 [] [.t 85 .bool, .o 3 3 zK],jj 48 8776024305713098891493168973639202691590671230998585571327868992 [] [.o 3 3 zK],jj 45 8776024305713098891493168973639202693240854974772554394801864768 [] [.t 8 tI, .o 3 3 zK],jj 32 8776024305713098891493168973639202693241256375923598314645045312 [] [.o 3 3 zK],jj 29 8776024305713098891493168973639202693241257950045665446201217088 [] [.t 6 tI, .o 3 3 zK],jj 16 8776024305713098891493168973639202693241257950045759248286964800 [] [.o 3 3 zK],jj 13 8776024305713098891493168973639202693241257950045759271193107776 [] [.t 4 tI, .o 3 3 zK],jj 64 8776024305713098891493168973639202693241257950045759271193107776 [] [.o 3 3 zK]])) (fn:=Tryz.f30) (by kernel_rfl) (by kernel_rfl) (by rintro ⟨⟩ ⟨a1,⟨⟩⟩;kernel_rfl)
noncomputable def zLA:Ent:=z6 (by kernel_rfl) zJ1
theorem zDT:OkX 79 [zR,tI,tI] (.tu [z7, .bool]) q8:=fX [] (A:=(jl [jj 6 98382635059784253440 [] [.t 33 .bool]])) (fn:=Tryz.f79) (by kernel_rfl) (by kernel_rfl) (by rintro ⟨⟩ ⟨a1,a2,a3,⟨⟩⟩;kernel_rfl)
noncomputable def uB:Ent:=z6 (by kernel_rfl) zDT
theorem zDx:OkX 97 [zH,zH] (.p .bool) jJ:=fX [zH8] (A:=(jl [jj 6 357913856 [] [.t 4 .bool]])) (fn:=Tryz.f97) (by kernel_rfl) (by kernel_rfl) (by rintro ⟨⟩ ⟨a1,a2,⟨⟩⟩;kernel_rfl)
noncomputable def zAo:Ent:=z6 (by kernel_rfl) zDx
theorem zGK:OkX 80 [zD,zH] (.p .bool) kM:=fX [zAo] (A:=(jl [jj 18 23455890145280 [] [.t 22 .bool],jj 9 93824990851328 [] [.t 11 tI],jj 28 93824992243968 [] []])) (fn:=Tryz.f80) (by kernel_rfl) (by kernel_rfl) (by rintro ⟨⟩ ⟨a1,a2,⟨⟩⟩;kernel_rfl)
noncomputable def zHY:Ent:=z6 (by kernel_rfl) zGK
def zEW:Nat→Option JA:=fun k=>match k with
 |12=>some ⟨336,[],[.t 0 (.sl zT)]⟩
 |_=>none
theorem zEm:wL U Tryz.prog G0 130 (qN (j4 [(.sl zT)] (.p (.sl zT)) v7)):=
 zIW (t:=zT) (bytes:=48)
  (vC (fn:=Tryz.f130) (c:=wC Tryz.f130) (S:=zP.none U) (A:=fun _=>none) zZ (by kernel_rfl) (by kernel_rfl) (enc:=fun q=>[.tl zT (q.1::q.2)]) (fun _ _ h=>zD9 h) (by rintro ⟨⟩ ⟨y,r⟩;kernel_rfl))
  (fun c=>vC (fn:=Tryz.f130) (c:=wC Tryz.f130) (S:=zP.none U) (A:=fun _=>none) zZ (by kernel_rfl) (by kernel_rfl) (enc:=fun _=>[.val (.slice none 0 c)]) (fun _ _ h=>yK h) (by rintro ⟨⟩ _;kernel_rfl))
  (fun a c=>vC (fn:=Tryz.f130) (c:=wC Tryz.f130) (S:=zP.none U) (A:=zEW) zZ (by kernel_rfl) (by kernel_rfl) (enc:=fun _=>[.val (.slice (some a) 0 c)]) (fun _ _ h=>yK h) (by rintro ⟨⟩ _;kernel_rfl))
noncomputable def zES:Ent:=z6 (by kernel_rfl) zEm
theorem zEn:OkX 81 [zD,tU] (.tu [zT, .bool]) jU:=fX [zES] (A:=(jl [jj 9 23456225740288 [] [.t 13 tI, .v 4 [.p zT]],jj 28 23456248088064 [] [.v 4 [.p zT]]])) (fn:=Tryz.f81) (by kernel_rfl) (by kernel_rfl) (by rintro ⟨⟩ ⟨a1,a2,⟨⟩⟩;kernel_rfl)
noncomputable def yC:Ent:=z6 (by kernel_rfl) zEn
def zJg:Nat→Option JA:=fun k=>match k with
 |12=>some ⟨336,[],[.t 0 (.sl tI)]⟩
 |_=>none
theorem zHI:wL U Tryz.prog G0 83 (qN (j4 [(.sl tI)] (.p (.sl tI)) jO)):=
 zIW (t:=tI) (bytes:=8)
  (vC (fn:=Tryz.f83) (c:=wC Tryz.f83) (S:=zP.none U) (A:=fun _=>none) zZ (by kernel_rfl) (by kernel_rfl) (enc:=fun q=>[.tl tI (q.1::q.2)]) (fun _ _ h=>zD9 h) (by rintro ⟨⟩ ⟨y,r⟩;kernel_rfl))
  (fun c=>vC (fn:=Tryz.f83) (c:=wC Tryz.f83) (S:=zP.none U) (A:=fun _=>none) zZ (by kernel_rfl) (by kernel_rfl) (enc:=fun _=>[.val (.slice none 0 c)]) (fun _ _ h=>yK h) (by rintro ⟨⟩ _;kernel_rfl))
  (fun a c=>vC (fn:=Tryz.f83) (c:=wC Tryz.f83) (S:=zP.none U) (A:=zJg) zZ (by kernel_rfl) (by kernel_rfl) (enc:=fun _=>[.val (.slice (some a) 0 c)]) (fun _ _ h=>yK h) (by rintro ⟨⟩ _;kernel_rfl))
noncomputable def yQ:Ent:=z6 (by kernel_rfl) zHI
def zJh:Nat→Option JA:=fun k=>match k with
 |12=>some ⟨336,[],[.t 0 (.sl qQ)]⟩
 |_=>none
theorem zHJ:wL U Tryz.prog G0 131 (qN (j4 [(.sl qQ)] (.p (.sl qQ)) x8)):=
 zIW (t:=qQ) (bytes:=16)
  (vC (fn:=Tryz.f131) (c:=wC Tryz.f131) (S:=zP.none U) (A:=fun _=>none) zZ (by kernel_rfl) (by kernel_rfl) (enc:=fun q=>[.tl qQ (q.1::q.2)]) (fun _ _ h=>zD9 h) (by rintro ⟨⟩ ⟨y,r⟩;kernel_rfl))
  (fun c=>vC (fn:=Tryz.f131) (c:=wC Tryz.f131) (S:=zP.none U) (A:=fun _=>none) zZ (by kernel_rfl) (by kernel_rfl) (enc:=fun _=>[.val (.slice none 0 c)]) (fun _ _ h=>yK h) (by rintro ⟨⟩ _;kernel_rfl))
  (fun a c=>vC (fn:=Tryz.f131) (c:=wC Tryz.f131) (S:=zP.none U) (A:=zJh) zZ (by kernel_rfl) (by kernel_rfl) (enc:=fun _=>[.val (.slice (some a) 0 c)]) (fun _ _ h=>yK h) (by rintro ⟨⟩ _;kernel_rfl))
noncomputable def zI3:Ent:=z6 (by kernel_rfl) zHJ
theorem zGN:OkA 201 [.d yI, .pp .str] (.p .bool) zBH:=fA [] (A:=fun _=>none) (fn:=Tryz.f201) (by kernel_rfl) (by kernel_rfl) (by rintro ⟨⟩ ⟨a1,a2,⟨⟩⟩;kernel_rfl)
noncomputable def zCU:Ent:=z6 (by kernel_rfl) zGN
theorem zBS:OkA 200 [.d (.sl yI), .clo 201 [(true, .str)]] (.p tI) w9:=fA [zCU] (A:=(jl [jj 9 91625948416 [] [.t 8 tI],jj 28 91625968896 [] []])) (fn:=Tryz.f200) (by kernel_rfl) (by kernel_rfl) (by rintro ⟨⟩ ⟨a1,⟨a2,⟨⟩⟩,⟨⟩⟩;kernel_rfl)
noncomputable def zCd:Ent:=z6 (by kernel_rfl) zBS
theorem zJ5:OkX 167 [zD, .str] (.p tI) u9:=fX [zCd,zCU] (A:=fun _=>none) (fn:=Tryz.f167) (by kernel_rfl) (by kernel_rfl) (by rintro ⟨⟩ ⟨a1,a2,⟨⟩⟩;kernel_rfl)
noncomputable def zCe:Ent:=z6 (by kernel_rfl) zJ5
theorem zK8:OkX 166 [zD, .str,zA] (.p tI) zAB:=fX [zLC,zCe] (A:=(jl [jj 30 412646679755788625463214080 [] [.t 44 .bool],jj 21 6602346876188688935400837120 [] [.t 22 tI],jj 40 6602346876188694799104937984 [] []])) (fn:=Tryz.f166) (by kernel_rfl) (by kernel_rfl) (by rintro ⟨⟩ ⟨a1,a2,a3,⟨⟩⟩;kernel_rfl)
noncomputable def zFW:Ent:=z6 (by kernel_rfl) zK8
theorem zGJ:OkX 132 [zD, .str,zA] (.tu [kE, .bool]) kK:=fX [zCe,zFW] (A:=(jl [jj 23 0 [(24,6,0)] []])) (fn:=Tryz.f132) (by kernel_rfl) (by kernel_rfl) (by rintro ⟨⟩ ⟨a1,a2,a3,⟨⟩⟩;kernel_rfl)
noncomputable def zCR:Ent:=z6 (by kernel_rfl) zGJ
theorem zMA:OkX 82 [zD, .str,zA] (.tu [zA, .bool]) zBA:=fX [zCR,zI3,yQ] (A:=(jl [jj 40 6294951415153384491008 [] [.v 5 [.p zA]],jj 48 25784120996468262866782208 [] [.v 5 [.p zA]],jj 56 105611759601534004702331537408 [] [.v 5 [.p zA]]])) (fn:=Tryz.f82) (by kernel_rfl) (by kernel_rfl) (by rintro ⟨⟩ ⟨a1,a2,a3,⟨⟩⟩;kernel_rfl)
noncomputable def zG0:Ent:=z6 (by kernel_rfl) zMA
theorem zJ2:OkX 84 [zD, .str,zA] (.p tI) zBy:=fX [zCR] (A:=fun _=>none) (fn:=Tryz.f84) (by kernel_rfl) (by kernel_rfl) (by rintro ⟨⟩ ⟨a1,a2,a3,⟨⟩⟩;kernel_rfl)
noncomputable def zLB:Ent:=z6 (by kernel_rfl) zJ2
theorem zGM:OkX 33 [zR,zK,zA] (.tu [zA, .bool]) kQ:=fX [zLB,yQ,zG0,yC,zHY,uB] (A:=(jl [jj 10 402975273111051399331840 [] [.t 39 .bool],jj 22 1772303967970500325783630215859142656 [] [.t 60 .bool],jj 48 1895563341875102967030536053175110728008337408 [] [.v 5 [.p zA]],jj 97 103306820458156294656094485043318397790635090902388946122367707859777845371548719137571334688294830173338045864258315365141449000983439330570722177320589644328128484780111578894057787027214873304103335256792309343028840886044961322246476108298013154969353085650378313636073913237440168557404030730338649054415667327346451647959874702629371426920550153268168687275985196999172625645221308629576524627973939548823809852279076982073490062444913175105919980287343435086195103354082877569179339345906014093643802654768824784598425433370375894370875326609869190966074923449127369128351652870267768452471452849970927815399626776427044480897028208553957599361475910156051730904598780369929893044647575859313341023466256213064678367516543731361522401958183831988215660675072 [] [.t 118 tI, .v 13 [.p tU, .p tI, .p tI, .p tI, .p tI, .p tI, .p tI, .p tI, .p tI, .o 1269 tI, .p tU, .p tU, .p (.sl qQ), .p .bool]],jj 108 103306820458156294656094485043318397790635090902388946122367707859777845371548719137571334688294830173338045864258315365141449000983439330570722177320589644328128484780111578894057787027214873304103335256792309343028840886044961322246476108298013154969353085650378313636073913237440168557404030730338649054415667327346451647959874702629371426920550153268168687275985196999172625645221308629576524627973939548823809852279076982073490062444913175105919980287343435086195103354082877569179339345906014093643802654768824784598425433370375894370875326609869190966074923449127369128351652870267768452471452849970927815399626776427044480897028208553957599361475910156051730904598780369929893044647575886920326410628511362803701816624645541165958290639730052638312555872256 [] [.v 13 [.p tU, .p tI, .p tI, .p tI, .p tI, .p tI, .p tI, .p tI, .p tI, .o 1269 tI, .p tU, .p tU, .p (.sl qQ), .p .bool]]])) (fn:=Tryz.f33) (by kernel_rfl) (by kernel_rfl) (by rintro ⟨⟩ ⟨a1,a2,a3,⟨⟩⟩;kernel_rfl)
noncomputable def zCT:Ent:=z6 (by kernel_rfl) zGM
theorem zGL:OkX 36 [zR,zK,zA] (.tu [zA, .bool]) kP:=fX [yQ,zG0,yC,zB1,uB] (A:=(jl [jj 10 100743818277762849832960 [] [.t 38 .bool],jj 64 137117010307786654605228984160548265193339852328872370033917952 [] [.v 13 [.p zA]],jj 63 0 [(112,7,0)] []])) (fn:=Tryz.f36) (by kernel_rfl) (by kernel_rfl) (by rintro ⟨⟩ ⟨a1,a2,a3,⟨⟩⟩;kernel_rfl)
noncomputable def zCS:Ent:=z6 (by kernel_rfl) zGL
theorem zQD:OkX 43 [(.sl tI),(.sl tI)] (.p .bool) zEL:=fX [] (A:=(jl [jj 17 1501199874393344 [] [.t 5 tI],jj 32 1501199874393344 [] []])) (fn:=Tryz.f43) (by kernel_rfl) (by kernel_rfl) (by rintro ⟨⟩ ⟨a1,a2,⟨⟩⟩;kernel_rfl)
noncomputable def zSG:Ent:=z6 (by kernel_rfl) zQD
theorem zHO:OkX 127 [zD,tU,tI] (.p .bool) u5:=fX [yC] (A:=(jl [jj 10 5863704104960 [] [.t 6 .bool]])) (fn:=Tryz.f127) (by kernel_rfl) (by kernel_rfl) (by rintro ⟨⟩ ⟨a1,a2,a3,⟨⟩⟩;kernel_rfl)
noncomputable def zI7:Ent:=z6 (by kernel_rfl) zHO
theorem zDw:OkX 68 [zR,tI,tI] (.p (.sl zK)) j6:=fX [zI7,zLs,uB] (A:=(jl [jj 50 487167212441862002073515056408222597138270388224 [] [.t 79 .bool, .o 10 10 zK],jj 64 8369468980515574351781052564276886942902047773129773678592 [] [.o 10 10 zK],jj 29 33477875922062297407124210257107554118468744069272380112896 [] [.t 39 tI, .o 10 10 zK],jj 68 33477875922062297407124210257107554219114179735431693729792 [] [.o 10 10 zK]])) (fn:=Tryz.f68) (by kernel_rfl) (by kernel_rfl) (by rintro ⟨⟩ ⟨a1,a2,a3,⟨⟩⟩;kernel_rfl)
noncomputable def zAn:Ent:=z6 (by kernel_rfl) zDw
theorem zFl:OkX 29 [zR] (.p (.sl zK)) uN:=fX [zAn] (A:=(jl [jj 25 96076700424605760 [] [.t 19 tI, .o 3 3 zK],jj 40 96076792028208448 [] [.o 3 3 zK],jj 13 384307168200891712 [] [.t 11 tI, .o 3 3 zK],jj 44 384307168202284352 [] [.o 3 3 zK]])) (fn:=Tryz.f29) (by kernel_rfl) (by kernel_rfl) (by rintro ⟨⟩ ⟨a1,⟨⟩⟩;kernel_rfl)
end Go.Ve

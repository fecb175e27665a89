/-
  law17 and law20: the program's tables.
  Functions out of code, over the fast tables.
  Contracts of the functions of NvF1.
  Contracts of the functions of NvF2.
  Contracts of the functions of NvF3.
-/
import Derived.Test.YtcnlcmbchljpgaaGreatProg
import Derived.Test.YtcnlcmbchljpgaaGreatPt9
import Derived.Test.YtcnlcmbchljpgaaGreatPt7
import Derived.Test.YtcnlcmbchljpgaaGreatPt10
import Derived.Test.YtcnlcmbchljpgaaGreatPt14
import Derived.Test.YtcnlcmbchljpgaaGreatPt11
set_option linter.unusedVariables false
namespace Go.Ve
open Go Go.Proofs
noncomputable abbrev LF:jJ:=jJ.fast Tryz.prog 330 310
def G0:Nat→Option (List V):=fun _=>none
abbrev U:=jT
abbrev wQ (f:Func):Code:=match f.body with|some c=>c|none=> .skip
theorem mixed:Tryz.prog.follows .mixedOrders=true:=by kernel_rfl
end Go.Ve

namespace Go.Ve
open Go Go.Proofs
instance:Subsingleton U.St:=inferInstanceAs (Subsingleton Unit)
theorem zYv {S:zQ U} {A:Nat→Option JA} (hS:qG U Tryz.prog G0 S.toS) {f:FuncId} {fn:Func} {c:Code} (hf:LF.fn f=some fn) (hb:fn.body=some c)
  {ts:List Ty} {R:RTy} {g:ElS ts→Option R.El} (h: ∀s x,exF (Γ:=U) LF G0 S A fn c R s (kP ts x)=g x):w6 U Tryz.prog G0 f (qQ (wI ts R g)):=by
 have hl:LF=jJ.of Tryz.prog:=jJ.fast_eq Tryz.prog 330 310
 rw [hl] at hf h
 exact qAi mixed hS hf hb h
theorem zWD {S:zQ U} {A:Nat→Option JA} (hS:qG U Tryz.prog G0 S.toS) {f:FuncId} {fn:Func} {c:Code} (hf:LF.fn f=some fn) (hb:fn.body=some c)
  {ts:List ATy} {R:RTy} {g:ElA ts→Option R.El} (h: ∀s x,exF (Γ:=U) LF G0 S A fn c R s (zWT ts x)=g x):w6 U Tryz.prog G0 f (qQ (zZp ts R g)):=by
 have hl:LF=jJ.of Tryz.prog:=jJ.fast_eq Tryz.prog 330 310
 rw [hl] at hf h
 exact qAk mixed hS hf hb h
theorem vM {S:zQ U} {A:Nat→Option JA} (hS:qG U Tryz.prog G0 S.toS) {f:FuncId} {fn:Func} {c:Code} (hf:LF.fn f=some fn) (hb:fn.body=some c)
  {X:Type} {dec:List V→Option X} {enc:X→List V} (hdec: ∀ds x,dec ds=some x→w5 ds (enc x)) {R:RTy} {g:X→Option R.El} (h: ∀s x,exF (Γ:=U) LF G0 S A fn c R s (enc x)=g x):w6 U Tryz.prog G0 f (qQ (vG dec R g)):=by
 have hl:LF=jJ.of Tryz.prog:=jJ.fast_eq Tryz.prog 330 310
 rw [hl] at hf h
 exact zQp mixed hS hf hb hdec h
theorem vN {S:zQ U} {A:Nat→Option JA} (hS:qG U Tryz.prog G0 S.toS) {f:FuncId} {fn:Func} {c:Code} (hf:LF.fn f=some fn) (hb:fn.body=some c)
  {t:Ty} {ts:List ATy} {R:RTy} (hpl:R.pl=true) (hno: ∀ty,R≠ .o ty) {g:List t.El→ElA ts→Option (List t.El×R.El)} (h: ∀s xs x,qCK (Γ:=U) LF G0 S A fn c t R s xs (zWT ts x)=g xs x):zBH U Tryz.prog G0 f t (uH ts) R g:=by
 have hl:LF=jJ.of Tryz.prog:=jJ.fast_eq Tryz.prog 330 310
 rw [hl] at hf h
 exact qAj mixed hS hf hb (zGS ts) (qAH ts) hpl hno h
theorem zWB {S:zQ U} {A:Nat→Option JA} (hS:qG U Tryz.prog G0 S.toS) {f:FuncId} {fn:Func} {c:Code} (hf:LF.fn f=some fn) (hb:fn.body=some c)
  {t:Ty} {p:Nat} {ts:List ATy} {R:RTy} (hpl:R.pl=true) (hno: ∀ty,R≠ .o ty) {g:t.El→ElA ts→Option (t.El×R.El)} (h: ∀s y x,qCJ (Γ:=U) LF G0 S A fn c t R p s y (zWT ts x)=g y x):zVV U Tryz.prog G0 f t p (uH ts) R g:=by
 have hl:LF=jJ.of Tryz.prog:=jJ.fast_eq Tryz.prog 330 310
 rw [hl] at hf h
 exact qAh mixed hS hf hb (zGS ts) hpl hno h
theorem zWC {tE:Ty} {S:zQ (wF tE)} {A:Nat→Option JA} (hst: ∀k j,A k=some j→zFR j.sl=true) (hS:qG (wF tE) Tryz.prog G0 S.toS) {f:FuncId} {fn:Func} {c:Code} (hf:LF.fn f=some fn) (hb:fn.body=some c)
  {ts:List Ty} {R:RTy} {g:HSt tE→ElS ts→Option (HSt tE×R.El)} (h: ∀s x,qCI (Γ:=wF tE) LF G0 S A fn c R s (kP ts x)=g s x):w6 (wF tE) Tryz.prog G0 f (qQ (zNS (zFs ts) R g)):=by
 have hl:LF=jJ.of Tryz.prog:=jJ.fast_eq Tryz.prog 330 310
 rw [hl] at hf h
 exact qAg hst mixed hS hf hb (uU ts) h
structure Ent where
 ad:zQ U→zQ U
 ok: ∀S:zQ U,qG U Tryz.prog G0 S.toS→qG U Tryz.prog G0 (ad S).toS
def z6 {f:FuncId} {sp:U.St→List V→Option (zDL U.St)} (hi:zId Tryz.prog f=true) (h:w6 U Tryz.prog G0 f (qQ sp)):Ent:=⟨fun S=>S.add f sp,fun _ hS=>q7 hS hi h⟩
def qCM {f:FuncId} {t:Ty} {X:Type} {dec:List V→Option X} {R:RTy} {g:List t.El→X→Option (List t.El×R.El)} (hi:zId Tryz.prog f=true) (h:zBH U Tryz.prog G0 f t dec R g):Ent:=⟨fun S=>S.addB f (vI t dec R g),fun _ hS=>wH hS hi h⟩
def qDI {f:FuncId} {t:Ty} {p:Nat} {X:Type} {dec:List V→Option X} {R:RTy} {g:t.El→X→Option (t.El×R.El)} (hi:zId Tryz.prog f=true) (h:zVV U Tryz.prog G0 f t p dec R g):Ent:=⟨fun S=>S.addB f (zSS t p dec R g),fun _ hS=>zUa hS hi h⟩
def qDJ {f:FuncId} {t:Ty} {X:Type} {dec:List V→Option X} {g:List t.El→X→Option (List t.El)} (hi:zId Tryz.prog f=true) (h:zXT U Tryz.prog G0 f t dec g):Ent:=⟨fun S=>S.addB f (zEU t dec g),fun _ hS=>zUb hS hi h⟩
def qDh:Ent:=⟨fun S=>S.addE,fun _ hS=>zUd hS (by kernel_rfl)⟩
def qAB:List Ent→zQ U
 |[]=>zQ.none U
 |e::r=>e.ad (qAB r)
theorem zPb: ∀l,qG U Tryz.prog G0 (qAB l).toS
 |[]=>qC
 |e::r=>e.ok _ (zPb r)
abbrev OkX (f:FuncId) (ts:List Ty) (R:RTy) (g:ElS ts→Option R.El):Prop:=w6 U Tryz.prog G0 f (qQ (wI ts R g))
abbrev OkA (f:FuncId) (ts:List ATy) (R:RTy) (g:ElA ts→Option R.El):Prop:=w6 U Tryz.prog G0 f (qQ (zZp ts R g))
theorem fX (l:List Ent) {A:Nat→Option JA} {f:FuncId} {fn:Func} (hf:LF.fn f=some fn) (hb:fn.body=some (wQ fn))
  {ts:List Ty} {R:RTy} {g:ElS ts→Option R.El} (h: ∀s x,exF (Γ:=U) LF G0 (qAB l) A fn (wQ fn) R s (kP ts x)=g x):OkX f ts R g:=zYv (zPb l) hf hb h
theorem fA (l:List Ent) {A:Nat→Option JA} {f:FuncId} {fn:Func} (hf:LF.fn f=some fn) (hb:fn.body=some (wQ fn))
  {ts:List ATy} {R:RTy} {g:ElA ts→Option R.El} (h: ∀s x,exF (Γ:=U) LF G0 (qAB l) A fn (wQ fn) R s (zWT ts x)=g x):OkA f ts R g:=zWD (zPb l) hf hb h
def jj (k b:Nat) (l:List (Nat×Nat×Nat)) (s:List zBM):Nat×JA:=(k,⟨b,l,s⟩)
def jl:List (Nat×JA)→Nat→Option JA
 |[],_=>none
 |(a,j)::r,k=>match Nat.beq a k with
  |true=>some j
  |false=>jl r k
end Go.Ve

namespace Go.Ve
open Go Go.Proofs
set_option maxRecDepth 1000000
set_option maxHeartbeats 0
theorem zS9:OkX 128 [tI] (.p tU) zBA:=fX [] (A:=(jl [jj 16 22906404928 [] [.t 3 tU],jj 13 22906492224 [] [.t 4 tI, .t 3 tU],jj 28 22906492224 [] [.t 3 tU]])) (fn:=Tryz.f128) (by kernel_rfl) (by kernel_rfl) (by rintro ⟨⟩ ⟨a1,⟨⟩⟩;kernel_rfl)
noncomputable def zIq:Ent:=z6 (by kernel_rfl) zS9
theorem zRt:OkX 71 [zG] (.p .bool) w8:=fX [zIq] (A:=(jl [jj 6 366503875920 [] [.t 2 .bool]])) (fn:=Tryz.f71) (by kernel_rfl) (by kernel_rfl) (by rintro ⟨⟩ ⟨a1,⟨⟩⟩;kernel_rfl)
noncomputable def zCm:Ent:=z6 (by kernel_rfl) zRt
theorem zM1:OkX 101 [zG,tU] (.p .bool) uN:=fX [zIq] (A:=fun _=>none) (fn:=Tryz.f101) (by kernel_rfl) (by kernel_rfl) (by rintro ⟨⟩ ⟨a1,a2,⟨⟩⟩;kernel_rfl)
noncomputable def zHb:Ent:=z6 (by kernel_rfl) zM1
theorem zPU:OkX 44 [zG,zG] (.p .bool) wY:=fX [zHb] (A:=(jl [jj 6 1431655680 [] [.t 4 .bool]])) (fn:=Tryz.f44) (by kernel_rfl) (by kernel_rfl) (by rintro ⟨⟩ ⟨a1,a2,⟨⟩⟩;kernel_rfl)
noncomputable def zC5:Ent:=z6 (by kernel_rfl) zPU
theorem zKo:OkX 64 [zF, .str] (.p tI) jX:=fX [] (A:=(jl [jj 9 5864062014720 [] [.t 5 tI],jj 24 5864062014720 [] []])) (fn:=Tryz.f64) (by kernel_rfl) (by kernel_rfl) (by rintro ⟨⟩ ⟨a1,a2,⟨⟩⟩;kernel_rfl)
noncomputable def zCl:Ent:=z6 (by kernel_rfl) zKo
theorem zMZ:OkX 134 [zF, .str] (.p tI) jC:=fX [] (A:=(jl [jj 9 5864062014720 [] [.t 5 tI],jj 24 5864062014720 [] []])) (fn:=Tryz.f134) (by kernel_rfl) (by kernel_rfl) (by rintro ⟨⟩ ⟨a1,a2,⟨⟩⟩;kernel_rfl)
noncomputable def kW:Ent:=z6 (by kernel_rfl) zMZ
theorem zPT:OkX 248 [(.int .u8)] (.p .bool) zDa:=fX [] (A:=(jl [jj 6 5726623056 [] [.t 2 .bool]])) (fn:=Tryz.f248) (by kernel_rfl) (by kernel_rfl) (by rintro ⟨⟩ ⟨a1,⟨⟩⟩;kernel_rfl)
noncomputable def zRK:Ent:=z6 (by kernel_rfl) zPT
theorem zS8:OkX 202 [.str] (.p .bool) zBz:=fX [zRK] (A:=(jl [jj 6 91625968640 [] [.t 18 .bool],jj 30 1730765619511609185490967430430720 [] [.t 55 .bool],jj 17 1730765619511609209510073817104720 [] [.t 3 tI],jj 36 1730765619511609209510073817104720 [] []])) (fn:=Tryz.f202) (by kernel_rfl) (by kernel_rfl) (by rintro ⟨⟩ ⟨a1,⟨⟩⟩;kernel_rfl)
noncomputable def zDm:Ent:=z6 (by kernel_rfl) zS8
theorem zPR:OkX 203 [tI,tI,tI] (.p .bool) z2:=fX [] (A:=(jl [jj 6 357912576 [] [.t 6 .bool]])) (fn:=Tryz.f203) (by kernel_rfl) (by kernel_rfl) (by rintro ⟨⟩ ⟨a1,a2,a3,⟨⟩⟩;kernel_rfl)
noncomputable def wC:Ent:=z6 (by kernel_rfl) zPR
theorem zG4:OkX 113 [tU,tI] (.p zG) wU:=fX [zIq] (A:=fun _=>none) (fn:=Tryz.f113) (by kernel_rfl) (by kernel_rfl) (by rintro ⟨⟩ ⟨a1,a2,⟨⟩⟩;kernel_rfl)
noncomputable def zIp:Ent:=z6 (by kernel_rfl) zG4
theorem zM0:OkX 249 [zG,zG] (.p .bool) uM:=fX [zC5] (A:=(jl [jj 6 22369536 [] [.t 4 .bool]])) (fn:=Tryz.f249) (by kernel_rfl) (by kernel_rfl) (by rintro ⟨⟩ ⟨a1,a2,⟨⟩⟩;kernel_rfl)
noncomputable def zHa:Ent:=z6 (by kernel_rfl) zM0
theorem zKn:OkX 204 [(.sl qA)] (.p tI) kU:=fX [zHa,zIp,wC,zDm] (A:=(jl [jj 41 6296488550001201382416 [] [.t 5 tI],jj 56 6296488550001201382416 [] [],jj 58 27043212798572405254770141429760 [] [.t 52 .bool],jj 66 133911503688249189628496841001387004071981355583303067893760 [] [.t 98 .bool],jj 74 38597363079105398340612157981313446322593153860116637802968945187404973604864 [] [.t 127 .bool],jj 94 45567723432979415051570096605279850406945466927309786544954066201002041624518809725788842937548800 [] [.t 162 .bool],jj 85 45567723432979415091055199035204673046383172815272363122919130971985473961973845872487220144771088 [] [.t 6 tI],jj 20 45567723432979415091093796398283778444857696476941925758870220966874020816653665067156523089663760 [] [],jj 17 45567723432979415091093796398283778444857696476941925758870220966874020816653665067156524520970064 [] [.t 3 tI],jj 100 45567723432979415091093796398283778444857696476941925758870220966874020816653665067156524520970064 [] []])) (fn:=Tryz.f204) (by kernel_rfl) (by kernel_rfl) (by rintro ⟨⟩ ⟨a1,⟨⟩⟩;kernel_rfl)
noncomputable def zMj:Ent:=z6 (by kernel_rfl) zKn
theorem zFM:OkX 250 [x6] (.p .bool) k9:=fX [zCm] (A:=(jl [jj 6 1501199875790160 [] [.t 2 .bool]])) (fn:=Tryz.f250) (by kernel_rfl) (by kernel_rfl) (by rintro ⟨⟩ ⟨a1,⟨⟩⟩;kernel_rfl)
noncomputable def zGN:Ent:=z6 (by kernel_rfl) zFM
theorem zJk:OkX 205 [(.sl j1)] (.p tI) yL:=fX [zGN,zDm] (A:=(jl [jj 37 25185954569440712458512 [] [.t 4 tI],jj 52 25185954569440712458512 [] [],jj 73 7433581732836780243977355534074804751565840 [] [.t 5 tI],jj 20 7433581732843541047178572757549453477414160 [] [],jj 17 7433581732843541047178572757549453835240784 [] [.t 3 tI],jj 88 7433581732843541047178572757549453835240784 [] []])) (fn:=Tryz.f205) (by kernel_rfl) (by kernel_rfl) (by rintro ⟨⟩ ⟨a1,⟨⟩⟩;kernel_rfl)
noncomputable def zKJ:Ent:=z6 (by kernel_rfl) zJk
theorem zLI:OkX 206 [zF] (.p tI) kG:=fX [wC,zCl,zDm] (A:=(jl [jj 41 6447604369776822389310480 [] [.t 5 tI],jj 56 6447604369776822389310480 [] [],jj 90 124714687448262656856724350867958696886044878438400 [] [.t 83 .bool],jj 98 8986648889050213140174198643436161204497942415724039816394959749120 [] [.t 111 .bool],jj 77 8986648889050213264889005029006541827113428629237647983535760396304 [] [.t 6 tI],jj 24 8986648889050213264889005029006543557879048140846857493609577501712 [] [],jj 21 8986648889050213264889005029006543557879048140846857493701181101328 [] [.t 4 tI],jj 104 8986648889050213264889005029006543557879048140846857493701181101328 [] []])) (fn:=Tryz.f206) (by kernel_rfl) (by kernel_rfl) (by rintro ⟨⟩ ⟨a1,⟨⟩⟩;kernel_rfl)
noncomputable def zNs:Ent:=z6 (by kernel_rfl) zLI
theorem zRq:OkX 279 [zO] (.p .bool) zEl:=fX [] (A:=(jl [jj 6 22906492240 [] [.t 2 .bool]])) (fn:=Tryz.f279) (by kernel_rfl) (by kernel_rfl) (by rintro ⟨⟩ ⟨a1,⟨⟩⟩;kernel_rfl)
noncomputable def zTB:Ent:=z6 (by kernel_rfl) zRq
theorem zUI:OkX 280 [zO] (.p .bool) zHW:=fX [] (A:=fun _=>none) (fn:=Tryz.f280) (by kernel_rfl) (by kernel_rfl) (by rintro ⟨⟩ ⟨a1,⟨⟩⟩;kernel_rfl)
noncomputable def zWU:Ent:=z6 (by kernel_rfl) zUI
theorem zLL:OkX 251 [zUe] (.p .bool) zB1:=fX [zWU,zTB,wC] (A:=(jl [jj 6 100743818301219097892160 [] [.t 38 .bool],jj 14 6923062477945693019739442674401296 [] [.t 2 .bool]])) (fn:=Tryz.f251) (by kernel_rfl) (by kernel_rfl) (by rintro ⟨⟩ ⟨a1,⟨⟩⟩;kernel_rfl)
noncomputable def zNv:Ent:=z6 (by kernel_rfl) zLL
theorem zJl:OkX 207 [(.sl zMK)] (.p tI) yN:=fX [zNv,zDm] (A:=(jl [jj 37 25185954569440712458512 [] [.t 4 tI],jj 52 25185954569440712458512 [] [],jj 73 7433581732836780243977355534074804751565840 [] [.t 5 tI],jj 20 7433581732843541047178572757549453477414160 [] [],jj 17 7433581732843541047178572757549453835240784 [] [.t 3 tI],jj 88 7433581732843541047178572757549453835240784 [] []])) (fn:=Tryz.f207) (by kernel_rfl) (by kernel_rfl) (by rintro ⟨⟩ ⟨a1,⟨⟩⟩;kernel_rfl)
noncomputable def zKK:Ent:=z6 (by kernel_rfl) zJl
theorem zUJ:OkX 252 [zF, .str] (.p tI) zEn:=fX [] (A:=(jl [jj 9 5864062014720 [] [.t 5 tI],jj 24 5864062014720 [] []])) (fn:=Tryz.f252) (by kernel_rfl) (by kernel_rfl) (by rintro ⟨⟩ ⟨a1,a2,⟨⟩⟩;kernel_rfl)
noncomputable def zQL:Ent:=z6 (by kernel_rfl) zUJ
theorem zH2:OkX 208 [zF] (.p tI) k8:=fX [zQL,wC] (A:=(jl [jj 42 412646679760292225090585600 [] [.t 5 .bool],jj 50 30447950777727144122641087138733868110036599808 [] [.t 5 .bool],jj 58 37692737381938865697777012862015049227352017065451593534499925742265041920 [] [.t 5 .bool],jj 60 37692737381938865697777013349182261670986323133346537773260926430180541440 [] [.t 5 .bool],jj 70 632378593604264737584744508361900640506471740472781533529553313286966197459353600 [] [.t 134 .bool],jj 17 632379196688062848606595672794114227422658476253951667074157685461882905339889488 [] [.t 3 tI],jj 76 632379196688062848606595672794114227422658476253951667074157685461882905339889488 [] []])) (fn:=Tryz.f208) (by kernel_rfl) (by kernel_rfl) (by rintro ⟨⟩ ⟨a1,⟨⟩⟩;kernel_rfl)
noncomputable def zJw:Ent:=z6 (by kernel_rfl) zH2
theorem zOr:OkX 209 [zF] (.p tI) zB0:=fX [zQL] (A:=(jl [jj 22 100743818301213371269120 [] [.t 38 .bool],jj 9 100743818301219097892688 [] [.t 3 tI],jj 28 100743818301219097892688 [] []])) (fn:=Tryz.f209) (by kernel_rfl) (by kernel_rfl) (by rintro ⟨⟩ ⟨a1,⟨⟩⟩;kernel_rfl)
noncomputable def zQJ:Ent:=z6 (by kernel_rfl) zOr
theorem zOt:OkX 174 [zF,tU] (.p tI) xK:=fX [] (A:=(jl [jj 18 384307168179912704 [] [.t 29 .bool],jj 9 1537228672809129216 [] [.t 5 tI],jj 24 1537228672809129216 [] []])) (fn:=Tryz.f174) (by kernel_rfl) (by kernel_rfl) (by rintro ⟨⟩ ⟨a1,a2,⟨⟩⟩;kernel_rfl)
noncomputable def zIo:Ent:=z6 (by kernel_rfl) zOt
theorem zLM:OkX 172 [zF, .str] (.p tI) kI:=fX [] (A:=(jl [jj 9 5864062014720 [] [.t 5 tI],jj 24 5864062014720 [] []])) (fn:=Tryz.f172) (by kernel_rfl) (by kernel_rfl) (by rintro ⟨⟩ ⟨a1,a2,⟨⟩⟩;kernel_rfl)
noncomputable def zFZ:Ent:=z6 (by kernel_rfl) zLM
theorem zOq:OkX 210 [zF] (.p tI) zAD:=fX [zFZ,wC,zIo,zCm] (A:=(jl [jj 40 95982967058334720 [] [.t 5 tI],jj 48 98286558267733705728 [] [.t 5 tI],jj 56 25087571940244990198784 [] [.t 5 tI],jj 58 464598858302721315423474842771536090234880 [] [.t 69 .bool],jj 88 1995436901704527259351376376153304285490059033972736 [] [],jj 102 2246662222260509988834430072107158093433561622966889387929056051200 [] [.t 110 .bool],jj 93 2246662222262551320785349088125518235372070433246631536525402193936 [] [.t 7 tI],jj 20 2246662222262553316222251257251635889469762035211714373333674907408 [] [],jj 17 2246662222262553316222251257251635889469762035211714373425295284048 [] [.t 3 tI],jj 108 2246662222262553316222251257251635889469762035211714373425295284048 [] []])) (fn:=Tryz.f210) (by kernel_rfl) (by kernel_rfl) (by rintro ⟨⟩ ⟨a1,⟨⟩⟩;kernel_rfl)
noncomputable def zQI:Ent:=z6 (by kernel_rfl) zOq
theorem zFL:OkX 253 [zF,(.sl qO),tI,tI,tI] (.p tI) jD:=fX [kW,wC] (A:=(jl [jj 30 1690200800304299863862767779840 [] [.t 50 .bool],jj 38 7433581732841850846378268451680791564386304 [] [.t 71 .bool],jj 46 7794667965516416053545271929247418555377804902400 [] [.t 81 .bool],jj 57 523091803487547997888166888180986426855020182207097470976 [] [.t 13 tI],jj 20 523091811282223396986315785267305534675196263582539972608 [] [],jj 17 523091811282223396986315785267305534675196287033065603072 [] [.t 11 tI],jj 72 523091811282223396986315785267305534675196287033065603072 [] []])) (fn:=Tryz.f253) (by kernel_rfl) (by kernel_rfl) (by rintro ⟨⟩ ⟨a1,a2,a3,a4,a5,⟨⟩⟩;kernel_rfl)
noncomputable def xN:Ent:=z6 (by kernel_rfl) zFL
theorem zLK:OkX 211 [zF] (.p tI) zAj:=fX [xN,zHa,zCm,wC] (A:=(jl [jj 14 1501199874392064 [] [.t 25 .bool],jj 54 110768999647131088315831082790420480 [] [.t 58 .bool],jj 74 8173309551284740464483728504488827824841739507723141120 [] [.t 91 .bool],jj 65 8173309551284740577800415145152905989891291396622517264 [] [.t 5 tI],jj 48 8173309551284740577911184144800037078207122479412937744 [] [],jj 45 8173309551284740577911184144801648880917306925194937616 [] [.t 4 tI],jj 80 8173309551284740577911184144801648880917306925194937616 [] []])) (fn:=Tryz.f211) (by kernel_rfl) (by kernel_rfl) (by rintro ⟨⟩ ⟨a1,⟨⟩⟩;kernel_rfl)
noncomputable def zNu:Ent:=z6 (by kernel_rfl) zLK
theorem zMY:OkX 212 [zF] (.p tI) zA7:=fX [xN,zCl,wC] (A:=(jl [jj 14 24019198012555264 [] [.t 27 .bool],jj 34 108172851219469426679694103674880 [] [.t 53 .bool]])) (fn:=Tryz.f212) (by kernel_rfl) (by kernel_rfl) (by rintro ⟨⟩ ⟨a1,⟨⟩⟩;kernel_rfl)
noncomputable def zOS:Ent:=z6 (by kernel_rfl) zMY
theorem zLJ:OkX 254 [zF] (.p tI) yM:=fX [kW,wC] (A:=(jl [jj 30 24595658742039576576 [] [.t 32 .bool],jj 38 7259357160980020553860729299779442442240 [] [.t 66 .bool],jj 49 31178701589133238427365255877395379460782172406800 [] [.t 5 tI],jj 24 31178701596392595588345276431280704419303654425616 [] [],jj 21 31178701596392595588345276431280704419326555325712 [] [.t 4 tI],jj 64 31178701596392595588345276431280704419326555325712 [] []])) (fn:=Tryz.f254) (by kernel_rfl) (by kernel_rfl) (by rintro ⟨⟩ ⟨a1,⟨⟩⟩;kernel_rfl)
noncomputable def zNt:Ent:=z6 (by kernel_rfl) zLJ
theorem zH3:OkX 255 [tPV] (.p tI) vJ:=fX [zCm] (A:=(jl [jj 37 103161669916429158228951312 [] [.t 4 tI],jj 20 103161669940446890226090256 [] [],jj 17 103161669940448356152115536 [] [.t 3 tI],jj 52 103161669940448356152115536 [] [],jj 85 1948668849746180360361501571666429475588596043792 [] [.t 6 tI],jj 68 1948668849774536791580174899052741648666549293072 [] [],jj 65 1948668849774537224245170389450289247010062078992 [] [.t 5 tI],jj 100 1948668849774537224245170389450289247010062078992 [] [],jj 126 8776015936244118375918817192586638416352703146905166652479897600 [] [.t 106 .bool],jj 145 2412335183457438515607515589458659717936581122655130276641842173130320379920 [] [.t 9 tI],jj 116 2412335192444087404649555544796380006365213496389376768509399724846544781328 [] [],jj 113 2412335192444087404657728355488439204661595267009755516997428957606549340176 [] [.t 7 tI],jj 160 2412335192444087404657728355488439204661595267009755516997428957606549340176 [] []])) (fn:=Tryz.f255) (by kernel_rfl) (by kernel_rfl) (by rintro ⟨⟩ ⟨a1,⟨⟩⟩;kernel_rfl)
noncomputable def zJx:Ent:=z6 (by kernel_rfl) zH3
theorem zKm:OkX 213 [zF] (.p tI) wE:=fX [xN,zJx,zNt,wC] (A:=(jl [jj 14 1611901092819505564876800 [] [.t 40 .bool],jj 26 1730765617899708116690659876798464 [] [.t 55 .bool]])) (fn:=Tryz.f213) (by kernel_rfl) (by kernel_rfl) (by rintro ⟨⟩ ⟨a1,⟨⟩⟩;kernel_rfl)
noncomputable def zMi:Ent:=z6 (by kernel_rfl) zKm
theorem zJn:OkX 173 [zF] (.p tI) v8:=fX [zMi,zOS,zNu,zQI,zQJ,zJw,zKK,zNs,zKJ,zMj,wC,zDm] (A:=(jl [jj 29 6760803194920734830822890144016 [] [.t 4 tI],jj 44 6760803194920734830822890144016 [] []])) (fn:=Tryz.f173) (by kernel_rfl) (by kernel_rfl) (by rintro ⟨⟩ ⟨a1,⟨⟩⟩;kernel_rfl)
noncomputable def zKM:Ent:=z6 (by kernel_rfl) zJn
theorem zRr:OkX 144 [zX] (.p tI) uL:=fX [zIo,zKM] (A:=(jl [jj 41 6602346876092618007411426320 [] [.t 5 tI],jj 56 6602346876092618007411426320 [] [],jj 86 1995436894735544384810556644423392325287446063349760 [] [.t 85 .bool],jj 77 1995436902161866760493117671048079757878355510231056 [] [.t 8 tI],jj 64 1995436902169126089961847779416217730674252809617424 [] [],jj 61 1995436902169126117654091089255088894142100436799504 [] [.t 6 tI],jj 20 1995436902169126117654097691601965010778939356992784 [] [],jj 17 1995436902169126117654097691601965082836899876427088 [] [.t 3 tI],jj 92 1995436902169126117654097691601965082836899876427088 [] []])) (fn:=Tryz.f144) (by kernel_rfl) (by kernel_rfl) (by rintro ⟨⟩ ⟨a1,⟨⟩⟩;kernel_rfl)
end Go.Ve

namespace Go.Ve
open Go Go.Proofs
set_option maxRecDepth 1000000
set_option maxHeartbeats 0
theorem zOy:OkX 72 [tI,tI,tI] (.p .bool) qV:=fX [] (A:=(jl [jj 6 357912576 [] [.t 6 .bool]])) (fn:=Tryz.f72) (by kernel_rfl) (by kernel_rfl) (by rintro ⟨⟩ ⟨a1,a2,a3,⟨⟩⟩;kernel_rfl)
noncomputable def zAv:Ent:=z6 (by kernel_rfl) zOy
theorem zPX:OkX 73 [zB, .bool, .bool, .bool] (.p .bool) vZ:=fX [] (A:=(jl [jj 6 6447604371278022265077760 [] [.t 8 .bool]])) (fn:=Tryz.f73) (by kernel_rfl) (by kernel_rfl) (by rintro ⟨⟩ ⟨a1,a2,a3,a4,⟨⟩⟩;kernel_rfl)
noncomputable def zBf:Ent:=z6 (by kernel_rfl) zPX
theorem zM3:OkX 129 [qB,qB] (.p .bool) uO:=fX [] (A:=(jl [jj 6 93824992236800 [] [.t 4 .bool]])) (fn:=Tryz.f129) (by kernel_rfl) (by kernel_rfl) (by rintro ⟨⟩ ⟨a1,a2,⟨⟩⟩;kernel_rfl)
noncomputable def zHc:Ent:=z6 (by kernel_rfl) zM3
theorem zRw:OkX 74 [(.sl qB), .bool] (.p .bool) vL:=fX [zHc] (A:=(jl [jj 18 412646679761793424960782336 [] [.t 44 .bool],jj 9 412646679761793424966374656 [] [.t 5 tI],jj 24 412646679761793424966374656 [] []])) (fn:=Tryz.f74) (by kernel_rfl) (by kernel_rfl) (by rintro ⟨⟩ ⟨a1,a2,⟨⟩⟩;kernel_rfl)
noncomputable def zCn:Ent:=z6 (by kernel_rfl) zRw
theorem zH4:OkX 75 [zB] (.p .bool) zAc:=fX [zCn,zBf,zAv] (A:=(jl [jj 6 5864062014784 [] [.t 21 .bool],jj 18 393529039039261310992 [] [.t 2 .bool],jj 30 1690194352699934590640005840912 [] [.t 2 .bool]])) (fn:=Tryz.f75) (by kernel_rfl) (by kernel_rfl) (by rintro ⟨⟩ ⟨a1,⟨⟩⟩;kernel_rfl)
noncomputable def zJy:Ent:=z6 (by kernel_rfl) zH4
theorem zFN:OkX 76 [zB] (.p .bool) uA:=fX [zCn,zBf,zAv] (A:=(jl [jj 6 93824992236864 [] [.t 23 .bool],jj 14 25185954481479782236160 [] [.t 37 .bool],jj 26 110768999648340014135445711965126672 [] [.t 2 .bool],jj 30 29037317874920433472551891183589197348880 [] [.t 2 .bool]])) (fn:=Tryz.f76) (by kernel_rfl) (by kernel_rfl) (by rintro ⟨⟩ ⟨a1,⟨⟩⟩;kernel_rfl)
noncomputable def zGP:Ent:=z6 (by kernel_rfl) zFN
theorem zGu:OkX 77 [zB] (.p .bool) u6:=fX [zCn,zBf,zAv] (A:=(jl [jj 6 5864062014784 [] [.t 21 .bool],jj 22 412646679760292225090584592 [] [.t 2 .bool],jj 38 7089188934306746453259739058493456400 [] [.t 2 .bool]])) (fn:=Tryz.f77) (by kernel_rfl) (by kernel_rfl) (by rintro ⟨⟩ ⟨a1,⟨⟩⟩;kernel_rfl)
noncomputable def zHB:Ent:=z6 (by kernel_rfl) zGu
theorem zKp:OkX 78 [zB] (.p .bool) xT:=fX [zCn,zBf,zAv] (A:=(jl [jj 6 93824992236864 [] [.t 23 .bool],jj 24 94575592174780416 [] [.t 26 .bool],jj 26 6760803201217127397857033191440 [] [.t 2 .bool],jj 36 425930601676685078902892277006336 [] [.t 52 .bool],jj 38 523091811282223396986315352575900656772893909497308774416 [] [.t 2 .bool]])) (fn:=Tryz.f78) (by kernel_rfl) (by kernel_rfl) (by rintro ⟨⟩ ⟨a1,⟨⟩⟩;kernel_rfl)
noncomputable def zMl:Ent:=z6 (by kernel_rfl) zKp
theorem zPY:OkX 32 [zB] (.p .bool) v2:=fX [zMl,zHB,zGP,zJy,zCn,zBf,zAv,zCm] (A:=(jl [jj 6 366503875840 [] [.t 19 .bool],jj 17 98382634693280399440 [] [.t 3 tI],jj 32 98382634693280399440 [] [],jj 42 1902996923607946508077689439978084877069189136 [] [.t 2 .bool]])) (fn:=Tryz.f32) (by kernel_rfl) (by kernel_rfl) (by rintro ⟨⟩ ⟨a1,⟨⟩⟩;kernel_rfl)
noncomputable def zRN:Ent:=z6 (by kernel_rfl) zPY
theorem zG5:OkX 102 [zG,zG] (.p tI) vU:=fX [] (A:=(jl [jj 6 93824992236544 [] [.t 23 .bool]])) (fn:=Tryz.f102) (by kernel_rfl) (by kernel_rfl) (by rintro ⟨⟩ ⟨a1,a2,⟨⟩⟩;kernel_rfl)
noncomputable def zIr:Ent:=z6 (by kernel_rfl) zG5
theorem zPZ:OkX 45 [(.sl zB),tI] (.p .bool) zAk:=fX [zIr,zRN] (A:=(jl [jj 18 422550200076076467165562142720 [] [.t 49 .bool],jj 9 422550200076076467165567735040 [] [.t 5 tI],jj 24 422550200076076467165567735040 [] []])) (fn:=Tryz.f45) (by kernel_rfl) (by kernel_rfl) (by rintro ⟨⟩ ⟨a1,a2,⟨⟩⟩;kernel_rfl)
noncomputable def zRO:Ent:=z6 (by kernel_rfl) zPZ
theorem zJg:OkX 176 [(.sl zO),zO] (.p tI) zAz:=fX [] (A:=(jl [jj 9 91625948416 [] [.t 8 tI],jj 28 91625968896 [] []])) (fn:=Tryz.f176) (by kernel_rfl) (by kernel_rfl) (by rintro ⟨⟩ ⟨a1,a2,⟨⟩⟩;kernel_rfl)
noncomputable def zKH:Ent:=z6 (by kernel_rfl) zJg
theorem zGt:OkX 152 [(.sl zO),zO] (.p .bool) u5:=fX [zKH] (A:=fun _=>none) (fn:=Tryz.f152) (by kernel_rfl) (by kernel_rfl) (by rintro ⟨⟩ ⟨a1,a2,⟨⟩⟩;kernel_rfl)
noncomputable def zHA:Ent:=z6 (by kernel_rfl) zGt
theorem zPO:OkX 117 [zN,tI,tI] (.p tI) zBw:=fX [zHA] (A:=(jl [jj 13 24019192286875648 [] [.t 17 tI],jj 32 24019197991129088 [] []])) (fn:=Tryz.f117) (by kernel_rfl) (by kernel_rfl) (by rintro ⟨⟩ ⟨a1,a2,a3,⟨⟩⟩;kernel_rfl)
noncomputable def zFq:Ent:=z6 (by kernel_rfl) zPO
theorem zJf:OkX 135 [(.sl tI),tI] (.p tI) yK:=fX [] (A:=(jl [jj 9 91625948416 [] [.t 8 tI],jj 28 91625968896 [] []])) (fn:=Tryz.f135) (by kernel_rfl) (by kernel_rfl) (by rintro ⟨⟩ ⟨a1,a2,⟨⟩⟩;kernel_rfl)
noncomputable def zEy:Ent:=z6 (by kernel_rfl) zJf
theorem zS7:OkX 145 [zN,tI,tI] (.p tI) zIG:=fX [zEy,zFq] (A:=fun _=>none) (fn:=Tryz.f145) (by kernel_rfl) (by kernel_rfl) (by rintro ⟨⟩ ⟨a1,a2,a3,⟨⟩⟩;kernel_rfl)
noncomputable def zVl:Ent:=z6 (by kernel_rfl) zS7
theorem zGs:OkX 87 [(.sl tI),tI] (.p .bool) vP:=fX [zEy] (A:=fun _=>none) (fn:=Tryz.f87) (by kernel_rfl) (by kernel_rfl) (by rintro ⟨⟩ ⟨a1,a2,⟨⟩⟩;kernel_rfl)
noncomputable def zCD:Ent:=z6 (by kernel_rfl) zGs
theorem zWp:OkX 107 [zN,tI,tI] (.p .bool) zIF:=fX [zCD,zVl,zFq] (A:=(jl [jj 18 1501194149171200 [] [.t 6 .bool]])) (fn:=Tryz.f107) (by kernel_rfl) (by kernel_rfl) (by rintro ⟨⟩ ⟨a1,a2,a3,⟨⟩⟩;kernel_rfl)
noncomputable def zNo:Ent:=z6 (by kernel_rfl) zWp
theorem zRF:OkX 109 [tI] (.p tI) zCX:=fX [] (A:=fun _=>none) (fn:=Tryz.f109) (by kernel_rfl) (by kernel_rfl) (by rintro ⟨⟩ ⟨a1,⟨⟩⟩;kernel_rfl)
noncomputable def zMr:Ent:=z6 (by kernel_rfl) zRF
theorem zTc:OkX 108 [tI] (.p tU) zD8:=fX [zMr] (A:=fun _=>none) (fn:=Tryz.f108) (by kernel_rfl) (by kernel_rfl) (by rintro ⟨⟩ ⟨a1,⟨⟩⟩;kernel_rfl)
noncomputable def zN4:Ent:=z6 (by kernel_rfl) zTc
theorem zM8:OkX 168 [zG,tU] (.p .bool) wR:=fX [zN4] (A:=fun _=>none) (fn:=Tryz.f168) (by kernel_rfl) (by kernel_rfl) (by rintro ⟨⟩ ⟨a1,a2,⟨⟩⟩;kernel_rfl)
noncomputable def zHe:Ent:=z6 (by kernel_rfl) zM8
theorem zOB:OkX 67 [zN,tI,tI] (.p tI) zAH:=fX [] (A:=(jl [jj 21 103161669940448350515040256 [] [.t 8 tI],jj 12 103161669940448350515040256 [] [],jj 9 103161669940448356241592320 [] [.t 7 tI],jj 36 103161669940448356241592320 [] []])) (fn:=Tryz.f67) (by kernel_rfl) (by kernel_rfl) (by rintro ⟨⟩ ⟨a1,a2,a3,⟨⟩⟩;kernel_rfl)
noncomputable def zEB:Ent:=z6 (by kernel_rfl) zOB
theorem zRz:OkX 126 [zN,tI,tI] (.p tI) zGo:=fX [zEB] (A:=(jl [jj 22 24595657298930565120 [] [.t 32 .bool],jj 13 98382635059761975296 [] [.t 8 tI],jj 28 98382635059761975296 [] []])) (fn:=Tryz.f126) (by kernel_rfl) (by kernel_rfl) (by rintro ⟨⟩ ⟨a1,a2,a3,⟨⟩⟩;kernel_rfl)
noncomputable def zTF:Ent:=z6 (by kernel_rfl) zRz
theorem zUK:OkX 66 [zN,tI,tI] (.p .bool) zFH:=fX [zTF,zEB] (A:=(jl [jj 21 6148914668330094592 [] [.t 8 tI],jj 36 6148914668330094592 [] []])) (fn:=Tryz.f66) (by kernel_rfl) (by kernel_rfl) (by rintro ⟨⟩ ⟨a1,a2,a3,⟨⟩⟩;kernel_rfl)
noncomputable def zKO:Ent:=z6 (by kernel_rfl) zUK
theorem zOu:OkX 53 [zN,tI] (.p .bool) zAF:=fX [] (A:=(jl [jj 6 357913856 [] [.t 4 .bool]])) (fn:=Tryz.f53) (by kernel_rfl) (by kernel_rfl) (by rintro ⟨⟩ ⟨a1,a2,⟨⟩⟩;kernel_rfl)
noncomputable def zEA:Ent:=z6 (by kernel_rfl) zOu
theorem zRB:OkX 103 [zF] (.p .bool) zGD:=fX [] (A:=(jl [jj 6 2092367245128893587945263141069222138700785148154678169600 [] [.t 95 .bool],jj 17 2246662220170186071093357669306372748400539896510929225270622683216 [] [.t 3 tI],jj 32 2246662220170186071093357669306372748400539896510929225270622683216 [] [],jj 37 2412335190197425182395175538125413489691488791064416382276985293406222680336 [] [.t 4 tI],jj 52 2412335190197425182395175538125413489691488791064416382276985293406222680336 [] [],jj 57 2590225187221970235448528471106963021175544371793061347801571462163172713442087797776 [] [.t 5 tI],jj 72 2590225187221970235448528471106963021175544371793061347801571462163172713442087797776 [] []])) (fn:=Tryz.f103) (by kernel_rfl) (by kernel_rfl) (by rintro ⟨⟩ ⟨a1,⟨⟩⟩;kernel_rfl)
noncomputable def zTG:Ent:=z6 (by kernel_rfl) zRB
theorem zP3:OkX 46 [zX] (.p .bool) zE6:=fX [zTG] (A:=(jl [jj 17 5864061993040 [] [.t 3 tI],jj 32 5864061993040 [] []])) (fn:=Tryz.f46) (by kernel_rfl) (by kernel_rfl) (by rintro ⟨⟩ ⟨a1,⟨⟩⟩;kernel_rfl)
noncomputable def zRS:Ent:=z6 (by kernel_rfl) zP3
def zFt:Nat→Option JA:=fun k=>match k with
 |84=>some ⟨184497489401772529385612327842172717039008268166646221893471402059821287234759868672175917131173661172843563441437060059660158104845032398976807920666283692562120150139178769612799511748636278282415866878160176201872937423527853931074825229289817028865471580173776186278979555862451026349435370470386779578868176354099221238174997807148290368091204552361327921521465467763204555046027307456204118567337113234081310864304329682188410055227959601689731512418582605896572426052789584762208778001498785021309361810928365592763602942101060634062780064931573442859418747069999582698364321162101164826918019197244306192189303006234838493212327877025209681605424513505280,[],[.v 5 [.o 1100 zR, .o 1101 tI], .st]⟩
 |25=>some ⟨184497489401772529385612327842172717039008268166646221893471402059821287234759868672175917131173661172843563441437060059660158104845032398976807920666283692562120150139178769612799511748636278282415866878160176201872937423527853931074825229289817028865471580173776186278979555862451026349435370470386779578868176354099221238174997807148290368091204552361327921521465467763204555046027307456204118567337113234081310864304329682188410055227959601689731512418582605896572426052789584762208778001498785021309361810928365592763602942101060634062780064931573442859418747069999582698364321162101164826918019197244306192189303006234838493212327877025209681605424513505280,[],[.t 6 tI, .v 5 [.o 1100 zR, .o 1101 tI], .st]⟩
 |28=>some ⟨184497489401772529385612327842172717039008268166646221893471402059821287234759868672175917131173661172843563441437060059660158104845032398976807920666283692562120150139178769612799511748636278282415866878160176201872937423527853931074825229289817028865471580173776186278979555862451026349435370470386779578868176354099221238174997807148290368091204552361327921521465467763204555046027307456204118567337113234081310864304329682188410055227959601689731512418582605896572426052789584762208778001498785021309361810928365592763602942101060634062780064931573442859418747069999582698364321162101164826918019197244306192189303006234838493212327877025209675600991514216448,[],[.v 5 [.o 1100 zR, .o 1101 tI], .st]⟩
 |37=>some ⟨184497489401772529385612327842172717039008268166646221893471402059821287234759868672175917131173661172843563441437060059660158104845032398976807920666283692562120150139178769612799511748636278282415866878160176201872937423527853931074825229289817028865471580173776186278979555862451026349435370470386779578868176354099221238174997807148290368091204552361327921521465467763204555046027307456204118567337113234081310864304329682188410055227959601689731512418582605896572426052789584762208778001498785021309361810928365592763602942101060634062780064931573442859418747069999582698364321162101164826918019197244306192189303006234838493212327877025209675600991514216448,[],[.t 7 tI, .v 5 [.o 1100 zR, .o 1101 tI], .st]⟩
 |40=>some ⟨184497489401772529385612327842172717039008268166646221893471402059821287234759868672175917131173661172843563441437060059660158104845032398976807920666283692562120150139178769612799511748636278282415866878160176201872937423527853931074825229289817028865471580173776186278979555862451026349435370470386779578868176354099221238174997807148290368091204552361327921521465467763204555046027307456204118567337113234081310864304329682188410055227959601689731512418582605896572426052789584762208778001498785021309361810928365592763602942101060634062780064931573442859418747069999582698364321162101164826918019197244306192189303006234838493212327877000023727030486242887680,[],[.v 5 [.o 1100 zR, .o 1101 tI], .st]⟩
 |80=>some ⟨184497489401772529385612327842172717039008268166646221893471402059821287234759868672175917131173661172843563441437060059660158104845032398976807920666283692562120150139178769612799511748636278282415866878160176201872937423527853931074825229289817028865471580173776186278979555862451026349435370470386779578868176354099221238174997807148290368091204552361327921521465467763204555046027307456204118567337113234081310864304329682188410055227959601689731512418582605896572426052789584762208778001498785021309361810928365592763602942101060634062780064931573442859418747069821583778745688924935728571583505041672838009412557657231906458756740677065373698151113771976704,[],[.v 5 [.o 1100 zR, .o 1101 tI], .st]⟩
 |70=>some ⟨150770949527755429313232131334431639559735035425831931880481358702119485440,[],[.t 123 .bool, .v 5 [.o 1100 zR, .o 1101 tI], .st]⟩
 |68=>some ⟨33477875922062297407124099488107905476223153719886495090688,[],[.t 10 tI, .v 5 [.o 1100 zR, .o 1101 tI], .st]⟩
 |61=>some ⟨33477875922062297407124099488107905476223153719886495090688,[],[.t 10 tI, .v 5 [.o 1100 zR, .o 1101 tI], .st]⟩
 |62=>some ⟨2092367245128893587945152372069573395711376497566321475584,[],[.t 95 .bool, .v 5 [.o 1100 zR, .o 1101 tI], .st]⟩
 |50=>some ⟨108166248872599386899585878196224,[],[.t 53 .bool, .v 5 [.o 1100 zR, .o 1101 tI], .st]⟩
 |92=>some ⟨737989957607090117542449311368690868156033072666584887573885608239285148939039474688703668524694644691374253765748240238640632419380129595907231682665134770248480600556715078451198046994545113129663467512640704807491749694111415724299300917159268115461886320695104745115918223449804105397741481881547118315472705416396884952699991228593161472364818209445311686085861871052818220184109229824816474269348452936325243457217318728753640220911838406758926049674330423586289704211158339048835112005995140085237447243713462371054411768404242536251120259726293772220522512954229778033961281054049025040681255249323705639452069711332539928507387154905727039987508328794112,[],[.v 5 [.o 1100 zR, .o 1101 tI], .st]⟩
 |89=>some ⟨737989957607090117542449311368690868156033072666584887573885608239285148939039474688703668524694644691374253765748240238640632419380129595907231682665134770248480600556715078451198046994545113129663467512640704807491749694111415724299300917159268115461886320695104745115918223449804105397741481881547118315472705416396884952699991228593161472364818209445311686085861871052818220184109229824816474269348452936325243457217318728753640220911838406758926049674330423586289704211158339048835112005995140085237447243713462371054411768404242536251120259726293772220522515870386078824983771043852409388662279710666054786872263881531095007792867776925237958836497535731712,[],[.t 12 tI, .v 5 [.o 1100 zR, .o 1101 tI], .st]⟩
 |104=>some ⟨737989957607090117542449311368690868156033072666584887573885608239285148939039474688703668524694644691374253765748240238640632419380129595907231682665134770248480600556715078451198046994545113129663467512640704807491749694111415724299300917159268115461886320695104745115918223449804105397741481881547118315472705416396884952699991228593161472364818209445311686085861871052818220184109229824816474269348452936325243457217318728753640220911838406758926049674330423586289704211158339048835112005995140085237447243713462371054411768404242536251120259726293772220522515870386078824983771043852409388662279710666054786872263881531095007792867776925237958836497535731712,[],[.v 5 [.o 1100 zR, .o 1101 tI], .st]⟩
 |83=>some ⟨0,[(16,0,8)],[.st]⟩
 |79=>some ⟨0,[(14848,1024,0)],[.st]⟩
 |_=>none
theorem zOK: ∀k j,zFt k=some j→zFR j.sl=true:=by
 intro k j h
 unfold zFt at h
 split at h<;>(cases h<;>rfl)
theorem zOG:w6 (wF zO) Tryz.prog G0 104 (qQ (zNS (zFs [zX]) (.tu [zHK,tI]) zC3)):=
 zWC (fn:=Tryz.f104) (c:=wQ Tryz.f104) (S:=(((((zQ.none (wF zO)).add 144 (wI [zX] (.p tI) uL)).add 113 (wI [tU,tI] (.p zG) wU)).add 102 (wI [zG,zG] (.p tI) vU)).addH)) (A:=zFt) zOK (zNQ (q7 (q7 (q7 qC (by kernel_rfl) (zNc (by kernel_rfl) zRr)) (by kernel_rfl) (zNc (by kernel_rfl) zG4)) (by kernel_rfl) (zNc (by kernel_rfl) zG5)) (by kernel_rfl) (by kernel_rfl)) (by kernel_rfl) (by kernel_rfl) (by rintro st0 ⟨a1,⟨⟩⟩;kernel_rfl)
theorem zP1:w6 U Tryz.prog G0 104 (qQ (wI [zX] (.tu [zLc,tI]) zE1)):=
 zNY (fun _=>rfl) (by kernel_rfl) zOG
noncomputable def zRQ:Ent:=z6 (by kernel_rfl) zP1
theorem zKr:OkX 105 [(.sl tI),tI] (.p .bool) zBk:=fX [] (A:=(jl [jj 26 103161669940448355883679744 [] [.t 43 .bool],jj 17 103161669940448356241507584 [] [.t 5 tI],jj 32 103161669940448356241507584 [] []])) (fn:=Tryz.f105) (by kernel_rfl) (by kernel_rfl) (by rintro ⟨⟩ ⟨a1,a2,⟨⟩⟩;kernel_rfl)
noncomputable def zMo:Ent:=z6 (by kernel_rfl) zKr
theorem zRy:OkX 47 [zX,(.sl tI)] (.tu [zN,tI]) zGn:=fX [zMo,zRQ] (A:=(jl [jj 27 0 [(240,3,0)] []])) (fn:=Tryz.f47) (by kernel_rfl) (by kernel_rfl) (by rintro ⟨⟩ ⟨a1,a2,⟨⟩⟩;kernel_rfl)
noncomputable def zTE:Ent:=z6 (by kernel_rfl) zRy
theorem zRD:OkX 14 [zX,(.sl tI)] (.tu [zN, .bool]) zGE:=fX [zTE,zRS] (A:=(jl [jj 6 1431633920 [] [.t 15 .bool]])) (fn:=Tryz.f14) (by kernel_rfl) (by kernel_rfl) (by rintro ⟨⟩ ⟨a1,a2,⟨⟩⟩;kernel_rfl)
noncomputable def zTI:Ent:=z6 (by kernel_rfl) zRD
end Go.Ve

namespace Go.Ve
open Go Go.Proofs
set_option maxRecDepth 1000000
set_option maxHeartbeats 0
theorem zLF:OkX 57 [zN,tI,tI] (.p (.sl zO)) zBO:=fX [zFq,zNo] (A:=(jl [jj 30 402974888897708189286400 [] [.t 39 .bool, .o 7 7 zO],jj 36 103161669916429158229753856 [] [.o 7 7 zO],jj 21 412646679760292225091387392 [] [.t 26 tI, .o 7 7 zO],jj 40 412646679761793424609263616 [] [.o 7 7 zO]])) (fn:=Tryz.f57) (by kernel_rfl) (by kernel_rfl) (by rintro ⟨⟩ ⟨a1,a2,a3,⟨⟩⟩;kernel_rfl)
noncomputable def zNp:Ent:=z6 (by kernel_rfl) zLF
theorem zGB:OkA 178 [.d j1, .pp .str] (.p .bool) zA0:=fA [] (A:=fun _=>none) (fn:=Tryz.f178) (by kernel_rfl) (by kernel_rfl) (by rintro ⟨⟩ ⟨a1,a2,⟨⟩⟩;kernel_rfl)
noncomputable def zCF:Ent:=z6 (by kernel_rfl) zGB
theorem zBK:OkA 177 [.d (.sl j1), .clo 178 [(true, .str)]] (.p tI) w7:=fA [zCF] (A:=(jl [jj 9 91625948416 [] [.t 8 tI],jj 28 91625968896 [] []])) (fn:=Tryz.f177) (by kernel_rfl) (by kernel_rfl) (by rintro ⟨⟩ ⟨a1,⟨a2,⟨⟩⟩,⟨⟩⟩;kernel_rfl)
noncomputable def zCk:Ent:=z6 (by kernel_rfl) zBK
theorem zJr:OkX 153 [zF, .str] (.p tI) zAI:=fX [zCk,zCF] (A:=fun _=>none) (fn:=Tryz.f153) (by kernel_rfl) (by kernel_rfl) (by rintro ⟨⟩ ⟨a1,a2,⟨⟩⟩;kernel_rfl)
noncomputable def zKS:Ent:=z6 (by kernel_rfl) zJr
theorem zP4:OkX 141 [zG,zG] (.p .bool) zBG:=fX [zHe] (A:=(jl [jj 6 1431655680 [] [.t 4 .bool]])) (fn:=Tryz.f141) (by kernel_rfl) (by kernel_rfl) (by rintro ⟨⟩ ⟨a1,a2,⟨⟩⟩;kernel_rfl)
noncomputable def zJL:Ent:=z6 (by kernel_rfl) zP4
theorem zLS:OkX 179 [x6,zG] (.p .bool) zAo:=fX [zJL] (A:=(jl [jj 6 23456248059136 [] [.t 4 .bool]])) (fn:=Tryz.f179) (by kernel_rfl) (by kernel_rfl) (by rintro ⟨⟩ ⟨a1,a2,⟨⟩⟩;kernel_rfl)
noncomputable def zNB:Ent:=z6 (by kernel_rfl) zLS
theorem zOC:OkX 154 [j1,zG] (.p tI) zDS:=fX [zNB] (A:=(jl [jj 9 366503539968 [] [.t 10 tI],jj 28 366503884032 [] []])) (fn:=Tryz.f154) (by kernel_rfl) (by kernel_rfl) (by rintro ⟨⟩ ⟨a1,a2,⟨⟩⟩;kernel_rfl)
noncomputable def zQR:Ent:=z6 (by kernel_rfl) zOC
theorem zLR:OkX 118 [zF, .str,zG] (.p .bool) zB9:=fX [zQR,zKS] (A:=(jl [jj 30 6296488620369945563136 [] [.t 6 .bool]])) (fn:=Tryz.f118) (by kernel_rfl) (by kernel_rfl) (by rintro ⟨⟩ ⟨a1,a2,a3,⟨⟩⟩;kernel_rfl)
noncomputable def zNA:Ent:=z6 (by kernel_rfl) zLR
theorem zKq:OkX 28 [zN,tI,tI] (.p (.sl zO)) zBj:=fX [zEB,zKO] (A:=(jl [jj 28 412646678224564752157261824 [] [.o 7 7 zO],jj 25 412646679761418124997705728 [] [.t 9 tI, .o 7 7 zO],jj 40 412646679761418124997705728 [] [.o 7 7 zO]])) (fn:=Tryz.f28) (by kernel_rfl) (by kernel_rfl) (by rintro ⟨⟩ ⟨a1,a2,a3,⟨⟩⟩;kernel_rfl)
noncomputable def zMm:Ent:=z6 (by kernel_rfl) zKq
theorem zUL:OkX 59 [zN,zO] (.p qA) zLt:=fX [] (A:=fun _=>none) (fn:=Tryz.f59) (by kernel_rfl) (by kernel_rfl) (by rintro ⟨⟩ ⟨a1,a2,⟨⟩⟩;kernel_rfl)
noncomputable def zWV:Ent:=z6 (by kernel_rfl) zUL
theorem zRA:OkX 26 [(.sl zB),zG] (.p tI) zCO:=fX [] (A:=(jl [jj 9 366503875840 [] [.t 5 tI],jj 24 366503875840 [] []])) (fn:=Tryz.f26) (by kernel_rfl) (by kernel_rfl) (by rintro ⟨⟩ ⟨a1,a2,⟨⟩⟩;kernel_rfl)
noncomputable def zMn:Ent:=z6 (by kernel_rfl) zRA
theorem zHt:OkX 125 [x6,zG] (.p .bool) kH:=fX [zC5] (A:=(jl [jj 6 23456248059136 [] [.t 4 .bool]])) (fn:=Tryz.f125) (by kernel_rfl) (by kernel_rfl) (by rintro ⟨⟩ ⟨a1,a2,⟨⟩⟩;kernel_rfl)
noncomputable def zIn:Ent:=z6 (by kernel_rfl) zHt
theorem zJm:OkX 65 [j1,zG] (.p tI) zAE:=fX [zIn] (A:=(jl [jj 9 1466015503616 [] [.t 5 tI],jj 24 1466015503616 [] []])) (fn:=Tryz.f65) (by kernel_rfl) (by kernel_rfl) (by rintro ⟨⟩ ⟨a1,a2,⟨⟩⟩;kernel_rfl)
noncomputable def zKL:Ent:=z6 (by kernel_rfl) zJm
theorem zHs:OkX 27 [zF, .str,zG] (.p .bool) xJ:=fX [zKL,zCl] (A:=(jl [jj 30 6296488620369945563136 [] [.t 6 .bool]])) (fn:=Tryz.f27) (by kernel_rfl) (by kernel_rfl) (by rintro ⟨⟩ ⟨a1,a2,a3,⟨⟩⟩;kernel_rfl)
noncomputable def zIm:Ent:=z6 (by kernel_rfl) zHs
theorem zRu:OkX 69 [zF,tU,tI] (.p tI) zBo:=fX [] (A:=(jl [jj 18 1574122160955116748800 [] [.t 35 .bool],jj 9 6296488643826193616896 [] [.t 7 tI],jj 24 6296488643826193616896 [] []])) (fn:=Tryz.f69) (by kernel_rfl) (by kernel_rfl) (by rintro ⟨⟩ ⟨a1,a2,a3,⟨⟩⟩;kernel_rfl)
noncomputable def zGO:Ent:=z6 (by kernel_rfl) zRu
theorem zLN:OkX 30 [zN] (.p (.sl zK)) zB3:=fX [zGO,zWV,zMm] (A:=(jl [jj 30 98382541234792038400 [] [.t 33 .bool, .o 3 3 zK],jj 58 1995436902169126115923332072090355873326734455603200 [] [.t 85 .bool, .o 3 3 zK],jj 48 8776024305713098891493168973639202691590671230998585571327868992 [] [.o 3 3 zK],jj 45 8776024305713098891493168973639202693240854974772554394801864768 [] [.t 8 tI, .o 3 3 zK],jj 32 8776024305713098891493168973639202693241256375923598314645045312 [] [.o 3 3 zK],jj 29 8776024305713098891493168973639202693241257950045665446201217088 [] [.t 6 tI, .o 3 3 zK],jj 16 8776024305713098891493168973639202693241257950045759248286964800 [] [.o 3 3 zK],jj 13 8776024305713098891493168973639202693241257950045759271193107776 [] [.t 4 tI, .o 3 3 zK],jj 64 8776024305713098891493168973639202693241257950045759271193107776 [] [.o 3 3 zK]])) (fn:=Tryz.f30) (by kernel_rfl) (by kernel_rfl) (by rintro ⟨⟩ ⟨a1,⟨⟩⟩;kernel_rfl)
noncomputable def zNw:Ent:=z6 (by kernel_rfl) zLN
theorem zEP:OkX 79 [zN,tI,tI] (.tu [qA, .bool]) jG:=fX [] (A:=(jl [jj 6 98382635059784253440 [] [.t 33 .bool]])) (fn:=Tryz.f79) (by kernel_rfl) (by kernel_rfl) (by rintro ⟨⟩ ⟨a1,a2,a3,⟨⟩⟩;kernel_rfl)
noncomputable def uS:Ent:=z6 (by kernel_rfl) zEP
theorem zEs:OkX 97 [zG,zG] (.p .bool) jS:=fX [zJL] (A:=(jl [jj 6 357913856 [] [.t 4 .bool]])) (fn:=Tryz.f97) (by kernel_rfl) (by kernel_rfl) (by rintro ⟨⟩ ⟨a1,a2,⟨⟩⟩;kernel_rfl)
noncomputable def zAU:Ent:=z6 (by kernel_rfl) zEs
theorem zH6:OkX 80 [zF,zG] (.p .bool) uC:=fX [zAU] (A:=(jl [jj 18 23455890145280 [] [.t 22 .bool],jj 9 93824990851328 [] [.t 11 tI],jj 28 93824992243968 [] []])) (fn:=Tryz.f80) (by kernel_rfl) (by kernel_rfl) (by rintro ⟨⟩ ⟨a1,a2,⟨⟩⟩;kernel_rfl)
noncomputable def zJz:Ent:=z6 (by kernel_rfl) zH6
def zF3:Nat→Option JA:=fun k=>match k with
 |12=>some ⟨336,[],[.t 0 (.sl zT)]⟩
 |_=>none
theorem zFo:w6 U Tryz.prog G0 130 (qQ (wI [(.sl zT)] (.p (.sl zT)) kN)):=
 zKA (t:=zT) (bytes:=48)
  (vM (fn:=Tryz.f130) (c:=wQ Tryz.f130) (S:=zQ.none U) (A:=fun _=>none) qC (by kernel_rfl) (by kernel_rfl) (enc:=fun q=>[.tl zT (q.1::q.2)]) (fun _ _ h=>zFb h) (by rintro ⟨⟩ ⟨y,r⟩;kernel_rfl))
  (fun c=>vM (fn:=Tryz.f130) (c:=wQ Tryz.f130) (S:=zQ.none U) (A:=fun _=>none) qC (by kernel_rfl) (by kernel_rfl) (enc:=fun _=>[.val (.slice none 0 c)]) (fun _ _ h=>xD h) (by rintro ⟨⟩ _;kernel_rfl))
  (fun a c=>vM (fn:=Tryz.f130) (c:=wQ Tryz.f130) (S:=zQ.none U) (A:=zF3) qC (by kernel_rfl) (by kernel_rfl) (enc:=fun _=>[.val (.slice (some a) 0 c)]) (fun _ _ h=>xD h) (by rintro ⟨⟩ _;kernel_rfl))
noncomputable def zFY:Ent:=z6 (by kernel_rfl) zFo
theorem zFp:OkX 81 [zF,tU] (.tu [zT, .bool]) j8:=fX [zFY] (A:=(jl [jj 9 23456225740288 [] [.t 13 tI, .v 4 [.p zT]],jj 28 23456248088064 [] [.v 4 [.p zT]]])) (fn:=Tryz.f81) (by kernel_rfl) (by kernel_rfl) (by rintro ⟨⟩ ⟨a1,a2,⟨⟩⟩;kernel_rfl)
noncomputable def yX:Ent:=z6 (by kernel_rfl) zFp
def zK0:Nat→Option JA:=fun k=>match k with
 |12=>some ⟨336,[],[.t 0 (.sl tI)]⟩
 |_=>none
theorem zJh:w6 U Tryz.prog G0 83 (qQ (wI [(.sl tI)] (.p (.sl tI)) jY)):=
 zKA (t:=tI) (bytes:=8)
  (vM (fn:=Tryz.f83) (c:=wQ Tryz.f83) (S:=zQ.none U) (A:=fun _=>none) qC (by kernel_rfl) (by kernel_rfl) (enc:=fun q=>[.tl tI (q.1::q.2)]) (fun _ _ h=>zFb h) (by rintro ⟨⟩ ⟨y,r⟩;kernel_rfl))
  (fun c=>vM (fn:=Tryz.f83) (c:=wQ Tryz.f83) (S:=zQ.none U) (A:=fun _=>none) qC (by kernel_rfl) (by kernel_rfl) (enc:=fun _=>[.val (.slice none 0 c)]) (fun _ _ h=>xD h) (by rintro ⟨⟩ _;kernel_rfl))
  (fun a c=>vM (fn:=Tryz.f83) (c:=wQ Tryz.f83) (S:=zQ.none U) (A:=zK0) qC (by kernel_rfl) (by kernel_rfl) (enc:=fun _=>[.val (.slice (some a) 0 c)]) (fun _ _ h=>xD h) (by rintro ⟨⟩ _;kernel_rfl))
noncomputable def xM:Ent:=z6 (by kernel_rfl) zJh
def zK1:Nat→Option JA:=fun k=>match k with
 |12=>some ⟨336,[],[.t 0 (.sl qB)]⟩
 |_=>none
theorem zJi:w6 U Tryz.prog G0 131 (qQ (wI [(.sl qB)] (.p (.sl qB)) zAA)):=
 zKA (t:=qB) (bytes:=16)
  (vM (fn:=Tryz.f131) (c:=wQ Tryz.f131) (S:=zQ.none U) (A:=fun _=>none) qC (by kernel_rfl) (by kernel_rfl) (enc:=fun q=>[.tl qB (q.1::q.2)]) (fun _ _ h=>zFb h) (by rintro ⟨⟩ ⟨y,r⟩;kernel_rfl))
  (fun c=>vM (fn:=Tryz.f131) (c:=wQ Tryz.f131) (S:=zQ.none U) (A:=fun _=>none) qC (by kernel_rfl) (by kernel_rfl) (enc:=fun _=>[.val (.slice none 0 c)]) (fun _ _ h=>xD h) (by rintro ⟨⟩ _;kernel_rfl))
  (fun a c=>vM (fn:=Tryz.f131) (c:=wQ Tryz.f131) (S:=zQ.none U) (A:=zK1) qC (by kernel_rfl) (by kernel_rfl) (enc:=fun _=>[.val (.slice (some a) 0 c)]) (fun _ _ h=>xD h) (by rintro ⟨⟩ _;kernel_rfl))
noncomputable def zKI:Ent:=z6 (by kernel_rfl) zJi
theorem zH9:OkA 201 [.d vO, .pp .str] (.p .bool) zCh:=fA [] (A:=fun _=>none) (fn:=Tryz.f201) (by kernel_rfl) (by kernel_rfl) (by rintro ⟨⟩ ⟨a1,a2,⟨⟩⟩;kernel_rfl)
noncomputable def zDJ:Ent:=z6 (by kernel_rfl) zH9
theorem zCu:OkA 200 [.d (.sl vO), .clo 201 [(true, .str)]] (.p tI) vK:=fA [zDJ] (A:=(jl [jj 9 91625948416 [] [.t 8 tI],jj 28 91625968896 [] []])) (fn:=Tryz.f200) (by kernel_rfl) (by kernel_rfl) (by rintro ⟨⟩ ⟨a1,⟨a2,⟨⟩⟩,⟨⟩⟩;kernel_rfl)
noncomputable def zCU:Ent:=z6 (by kernel_rfl) zCu
theorem zLT:OkX 167 [zF, .str] (.p tI) yU:=fX [zCU,zDJ] (A:=fun _=>none) (fn:=Tryz.f167) (by kernel_rfl) (by kernel_rfl) (by rintro ⟨⟩ ⟨a1,a2,⟨⟩⟩;kernel_rfl)
noncomputable def zCV:Ent:=z6 (by kernel_rfl) zLT
theorem zM6:OkX 166 [zF, .str,zB] (.p tI) zA9:=fX [zNA,zCV] (A:=(jl [jj 30 412646679755788625463214080 [] [.t 44 .bool],jj 21 6602346876188688935400837120 [] [.t 22 tI],jj 40 6602346876188694799104937984 [] []])) (fn:=Tryz.f166) (by kernel_rfl) (by kernel_rfl) (by rintro ⟨⟩ ⟨a1,a2,a3,⟨⟩⟩;kernel_rfl)
noncomputable def zHd:Ent:=z6 (by kernel_rfl) zM6
theorem zH5:OkX 132 [zF, .str,zB] (.tu [vD, .bool]) uB:=fX [zCV,zHd] (A:=(jl [jj 23 0 [(24,6,0)] []])) (fn:=Tryz.f132) (by kernel_rfl) (by kernel_rfl) (by rintro ⟨⟩ ⟨a1,a2,a3,⟨⟩⟩;kernel_rfl)
noncomputable def zDI:Ent:=z6 (by kernel_rfl) zH5
theorem zOD:OkX 82 [zF, .str,zB] (.tu [zB, .bool]) zCa:=fX [zDI,zKI,xM] (A:=(jl [jj 40 6294951415153384491008 [] [.v 5 [.p zB]],jj 48 25784120996468262866782208 [] [.v 5 [.p zB]],jj 56 105611759601534004702331537408 [] [.v 5 [.p zB]]])) (fn:=Tryz.f82) (by kernel_rfl) (by kernel_rfl) (by rintro ⟨⟩ ⟨a1,a2,a3,⟨⟩⟩;kernel_rfl)
noncomputable def zIt:Ent:=z6 (by kernel_rfl) zOD
theorem zLQ:OkX 84 [zF, .str,zB] (.p tI) zB8:=fX [zDI] (A:=fun _=>none) (fn:=Tryz.f84) (by kernel_rfl) (by kernel_rfl) (by rintro ⟨⟩ ⟨a1,a2,a3,⟨⟩⟩;kernel_rfl)
noncomputable def zNz:Ent:=z6 (by kernel_rfl) zLQ
theorem zH8:OkX 33 [zN,zK,zB] (.tu [zB, .bool]) zAe:=fX [zNz,xM,zIt,yX,zJz,uS] (A:=(jl [jj 10 402975273111051399331840 [] [.t 39 .bool],jj 22 1772303967970500325783630215859142656 [] [.t 60 .bool],jj 48 1895563341875102967030536053175110728008337408 [] [.v 5 [.p zB]],jj 97 103306820458156294656094485043318397790635090902388946122367707859777845371548719137571334688294830173338045864258315365141449000983439330570722177320589644328128484780111578894057787027214873304103335256792309343028840886044961322246476108298013154969353085650378313636073913237440168557404030730338649054415667327346451647959874702629371426920550153268168687275985196999172625645221308629576524627973939548823809852279076982073490062444913175105919980287343435086195103354082877569179339345906014093643802654768824784598425433370375894370875326609869190966074923449127369128351652870267768452471452849970927815399626776427044480897028208553957599361475910156051730904598780369929893044647575859313341023466256213064678367516543731361522401958183831988215660675072 [] [.t 118 tI, .v 13 [.p tU, .p tI, .p tI, .p tI, .p tI, .p tI, .p tI, .p tI, .p tI, .o 1269 tI, .p tU, .p tU, .p (.sl qB), .p .bool]],jj 108 103306820458156294656094485043318397790635090902388946122367707859777845371548719137571334688294830173338045864258315365141449000983439330570722177320589644328128484780111578894057787027214873304103335256792309343028840886044961322246476108298013154969353085650378313636073913237440168557404030730338649054415667327346451647959874702629371426920550153268168687275985196999172625645221308629576524627973939548823809852279076982073490062444913175105919980287343435086195103354082877569179339345906014093643802654768824784598425433370375894370875326609869190966074923449127369128351652870267768452471452849970927815399626776427044480897028208553957599361475910156051730904598780369929893044647575886920326410628511362803701816624645541165958290639730052638312555872256 [] [.v 13 [.p tU, .p tI, .p tI, .p tI, .p tI, .p tI, .p tI, .p tI, .p tI, .o 1269 tI, .p tU, .p tU, .p (.sl qB), .p .bool]]])) (fn:=Tryz.f33) (by kernel_rfl) (by kernel_rfl) (by rintro ⟨⟩ ⟨a1,a2,a3,⟨⟩⟩;kernel_rfl)
noncomputable def zJB:Ent:=z6 (by kernel_rfl) zH8
theorem zH7:OkX 36 [zN,zK,zB] (.tu [zB, .bool]) zAd:=fX [xM,zIt,yX,zCD,uS] (A:=(jl [jj 10 100743818277762849832960 [] [.t 38 .bool],jj 64 137117010307786654605228984160548265193339852328872370033917952 [] [.v 13 [.p zB]],jj 63 0 [(112,7,0)] []])) (fn:=Tryz.f36) (by kernel_rfl) (by kernel_rfl) (by rintro ⟨⟩ ⟨a1,a2,a3,⟨⟩⟩;kernel_rfl)
noncomputable def zJA:Ent:=z6 (by kernel_rfl) zH7
theorem zJp:OkX 127 [zF,tU,tI] (.p .bool) yQ:=fX [yX] (A:=(jl [jj 10 5863704104960 [] [.t 6 .bool]])) (fn:=Tryz.f127) (by kernel_rfl) (by kernel_rfl) (by rintro ⟨⟩ ⟨a1,a2,a3,⟨⟩⟩;kernel_rfl)
noncomputable def zKP:Ent:=z6 (by kernel_rfl) zJp
theorem zEr:OkX 68 [zN,tI,tI] (.p (.sl zK)) wK:=fX [zKP,zNp,uS] (A:=(jl [jj 50 487167212441862002073515056408222597138270388224 [] [.t 79 .bool, .o 10 10 zK],jj 64 8369468980515574351781052564276886942902047773129773678592 [] [.o 10 10 zK],jj 29 33477875922062297407124210257107554118468744069272380112896 [] [.t 39 tI, .o 10 10 zK],jj 68 33477875922062297407124210257107554219114179735431693729792 [] [.o 10 10 zK]])) (fn:=Tryz.f68) (by kernel_rfl) (by kernel_rfl) (by rintro ⟨⟩ ⟨a1,a2,a3,⟨⟩⟩;kernel_rfl)
noncomputable def zAT:Ent:=z6 (by kernel_rfl) zEr
theorem zGx:OkX 29 [zN] (.p (.sl zK)) yA:=fX [zAT] (A:=(jl [jj 25 96076700424605760 [] [.t 19 tI, .o 3 3 zK],jj 40 96076792028208448 [] [.o 3 3 zK],jj 13 384307168200891712 [] [.t 11 tI, .o 3 3 zK],jj 44 384307168202284352 [] [.o 3 3 zK]])) (fn:=Tryz.f29) (by kernel_rfl) (by kernel_rfl) (by rintro ⟨⟩ ⟨a1,⟨⟩⟩;kernel_rfl)
theorem zPS:OkX 133 [zF, .str,zB] (.p tI) zBy:=fX [zIm,kW] (A:=(jl [jj 34 27043212804475363358357197946880 [] [.t 52 .bool],jj 21 108172851219475575594384983134208 [] [.t 8 tI],jj 40 108172851219475575594384983134208 [] []])) (fn:=Tryz.f133) (by kernel_rfl) (by kernel_rfl) (by rintro ⟨⟩ ⟨a1,a2,a3,⟨⟩⟩;kernel_rfl)
noncomputable def zFr:Ent:=z6 (by kernel_rfl) zPS
theorem zRs:OkX 85 [zF, .str,zB] (.tu [zB, .bool]) zEm:=fX [kW,zFr] (A:=(jl [jj 44 1611507562279266429175808 [] [.v 5 [.p zB]],jj 52 6600734975095875293895723008 [] [.v 5 [.p zB]],jj 60 27036610457992705203796873054208 [] [.v 5 [.p zB]]])) (fn:=Tryz.f85) (by kernel_rfl) (by kernel_rfl) (by rintro ⟨⟩ ⟨a1,a2,a3,⟨⟩⟩;kernel_rfl)
noncomputable def zMk:Ent:=z6 (by kernel_rfl) zRs
theorem zOs:OkX 86 [zF, .str,zB] (.p tI) zB2:=fX [kW,zFr] (A:=fun _=>none) (fn:=Tryz.f86) (by kernel_rfl) (by kernel_rfl) (by rintro ⟨⟩ ⟨a1,a2,a3,⟨⟩⟩;kernel_rfl)
noncomputable def zQK:Ent:=z6 (by kernel_rfl) zOs
end Go.Ve

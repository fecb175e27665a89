/-
  law17 and law20: the program's tables.
  Functions out of code, over the fast tables.
  Contracts of the functions of NvF1.
  Contracts of the functions of NvF2.
  Contracts of the functions of NvF3.
-/
import Derived.Test.YtcnlcmbchljpgaaGreatProg
import Derived.Test.YtcnlcmbchljpgaaGreatPo9
import Derived.Test.YtcnlcmbchljpgaaGreatPo6
import Derived.Test.YtcnlcmbchljpgaaGreatPo10
import Derived.Test.YtcnlcmbchljpgaaGreatPo13
set_option linter.unusedVariables false
namespace Go.Ve
open Go Go.Proofs
noncomputable abbrev LF:jE:=jE.fast Tryz.prog 330 310
def G0:Nat→Option (List V):=fun _=>none
abbrev U:=jP
abbrev wM (f:Func):Code:=match f.body with|some c=>c|none=> .skip
theorem mixed:Tryz.prog.follows .mixedOrders=true:=by kernel_rfl
end Go.Ve

namespace Go.Ve
open Go Go.Proofs
instance:Subsingleton U.St:=inferInstanceAs (Subsingleton Unit)
theorem zWh {S:zM U} {A:Nat→Option JA} (hS:qH U Tryz.prog G0 S.toS) {f:FuncId} {fn:Func} {c:Code} (hf:LF.fn f=some fn) (hb:fn.body=some c)
  {ts:List Ty} {R:RTy} {g:ElS ts→Option R.El} (h: ∀s x,exF (Γ:=U) LF G0 S A fn c R s (kQ ts x)=g x):wY U Tryz.prog G0 f (qO (wE ts R g)):=by
 have hl:LF=jE.of Tryz.prog:=jE.fast_eq Tryz.prog 330 310
 rw [hl] at hf h
 exact zX4 mixed hS hf hb h
theorem zUl {S:zM U} {A:Nat→Option JA} (hS:qH U Tryz.prog G0 S.toS) {f:FuncId} {fn:Func} {c:Code} (hf:LF.fn f=some fn) (hb:fn.body=some c)
  {ts:List ATy} {R:RTy} {g:ElA ts→Option R.El} (h: ∀s x,exF (Γ:=U) LF G0 S A fn c R s (zUB ts x)=g x):wY U Tryz.prog G0 f (qO (zXa ts R g)):=by
 have hl:LF=jE.of Tryz.prog:=jE.fast_eq Tryz.prog 330 310
 rw [hl] at hf h
 exact zX6 mixed hS hf hb h
theorem vO {S:zM U} {A:Nat→Option JA} (hS:qH U Tryz.prog G0 S.toS) {f:FuncId} {fn:Func} {c:Code} (hf:LF.fn f=some fn) (hb:fn.body=some c)
  {X:Type} {dec:List V→Option X} {enc:X→List V} (hdec: ∀ds x,dec ds=some x→wW ds (enc x)) {R:RTy} {g:X→Option R.El} (h: ∀s x,exF (Γ:=U) LF G0 S A fn c R s (enc x)=g x):wY U Tryz.prog G0 f (qO (vD dec R g)):=by
 have hl:LF=jE.of Tryz.prog:=jE.fast_eq Tryz.prog 330 310
 rw [hl] at hf h
 exact zOh mixed hS hf hb hdec h
theorem vP {S:zM U} {A:Nat→Option JA} (hS:qH U Tryz.prog G0 S.toS) {f:FuncId} {fn:Func} {c:Code} (hf:LF.fn f=some fn) (hb:fn.body=some c)
  {t:Ty} {ts:List ATy} {R:RTy} (hpl:R.pl=true) (hno: ∀ty,R≠ .o ty) {g:List t.El→ElA ts→Option (List t.El×R.El)} (h: ∀s xs x,qAH (Γ:=U) LF G0 S A fn c t R s xs (zUB ts x)=g xs x):zBt U Tryz.prog G0 f t (uF ts) R g:=by
 have hl:LF=jE.of Tryz.prog:=jE.fast_eq Tryz.prog 330 310
 rw [hl] at hf h
 exact zX5 mixed hS hf hb (zFQ ts) (zYu ts) hpl hno h
theorem zUj {S:zM U} {A:Nat→Option JA} (hS:qH U Tryz.prog G0 S.toS) {f:FuncId} {fn:Func} {c:Code} (hf:LF.fn f=some fn) (hb:fn.body=some c)
  {t:Ty} {p:Nat} {ts:List ATy} {R:RTy} (hpl:R.pl=true) (hno: ∀ty,R≠ .o ty) {g:t.El→ElA ts→Option (t.El×R.El)} (h: ∀s y x,qAG (Γ:=U) LF G0 S A fn c t R p s y (zUB ts x)=g y x):zTx U Tryz.prog G0 f t p (uF ts) R g:=by
 have hl:LF=jE.of Tryz.prog:=jE.fast_eq Tryz.prog 330 310
 rw [hl] at hf h
 exact zX3 mixed hS hf hb (zFQ ts) hpl hno h
theorem zUk {tE:Ty} {S:zM (wA tE)} {A:Nat→Option JA} (hst: ∀k j,A k=some j→zEU j.sl=true) (hS:qH (wA tE) Tryz.prog G0 S.toS) {f:FuncId} {fn:Func} {c:Code} (hf:LF.fn f=some fn) (hb:fn.body=some c)
  {ts:List Ty} {R:RTy} {g:HSt tE→ElS ts→Option (HSt tE×R.El)} (h: ∀s x,qAF (Γ:=wA tE) LF G0 S A fn c R s (kQ ts x)=g s x):wY (wA tE) Tryz.prog G0 f (qO (zL4 (zEy ts) R g)):=by
 have hl:LF=jE.of Tryz.prog:=jE.fast_eq Tryz.prog 330 310
 rw [hl] at hf h
 exact zX2 hst mixed hS hf hb (uP ts) h
structure Ent where
 ad:zM U→zM U
 ok: ∀S:zM U,qH U Tryz.prog G0 S.toS→qH U Tryz.prog G0 (ad S).toS
def qD {f:FuncId} {sp:U.St→List V→Option (zDb U.St)} (hi:zG3 Tryz.prog f=true) (h:wY U Tryz.prog G0 f (qO sp)):Ent:=⟨fun S=>S.add f sp,fun _ hS=>qW hS hi h⟩
def qAJ {f:FuncId} {t:Ty} {X:Type} {dec:List V→Option X} {R:RTy} {g:List t.El→X→Option (List t.El×R.El)} (hi:zG3 Tryz.prog f=true) (h:zBt U Tryz.prog G0 f t dec R g):Ent:=⟨fun S=>S.addB f (vG t dec R g),fun _ hS=>wD hS hi h⟩
def qBG {f:FuncId} {t:Ty} {p:Nat} {X:Type} {dec:List V→Option X} {R:RTy} {g:t.El→X→Option (t.El×R.El)} (hi:zG3 Tryz.prog f=true) (h:zTx U Tryz.prog G0 f t p dec R g):Ent:=⟨fun S=>S.addB f (zQy t p dec R g),fun _ hS=>zRM hS hi h⟩
def qBH {f:FuncId} {t:Ty} {X:Type} {dec:List V→Option X} {g:List t.El→X→Option (List t.El)} (hi:zG3 Tryz.prog f=true) (h:zVD U Tryz.prog G0 f t dec g):Ent:=⟨fun S=>S.addB f (zD5 t dec g),fun _ hS=>zRN hS hi h⟩
def zYn:List Ent→zM U
 |[]=>zM.none U
 |e::r=>e.ad (zYn r)
theorem zNc: ∀l,qH U Tryz.prog G0 (zYn l).toS
 |[]=>z8
 |e::r=>e.ok _ (zNc r)
abbrev OkX (f:FuncId) (ts:List Ty) (R:RTy) (g:ElS ts→Option R.El):Prop:=wY U Tryz.prog G0 f (qO (wE ts R g))
abbrev OkA (f:FuncId) (ts:List ATy) (R:RTy) (g:ElA ts→Option R.El):Prop:=wY U Tryz.prog G0 f (qO (zXa ts R g))
theorem fX (l:List Ent) {A:Nat→Option JA} {f:FuncId} {fn:Func} (hf:LF.fn f=some fn) (hb:fn.body=some (wM fn))
  {ts:List Ty} {R:RTy} {g:ElS ts→Option R.El} (h: ∀s x,exF (Γ:=U) LF G0 (zYn l) A fn (wM fn) R s (kQ ts x)=g x):OkX f ts R g:=zWh (zNc l) hf hb h
theorem fA (l:List Ent) {A:Nat→Option JA} {f:FuncId} {fn:Func} (hf:LF.fn f=some fn) (hb:fn.body=some (wM fn))
  {ts:List ATy} {R:RTy} {g:ElA ts→Option R.El} (h: ∀s x,exF (Γ:=U) LF G0 (zYn l) A fn (wM fn) R s (zUB ts x)=g x):OkA f ts R g:=zUl (zNc l) hf hb h
def jj (k b:Nat) (l:List (Nat×Nat×Nat)) (s:List zBx):Nat×JA:=(k,⟨b,l,s⟩)
def jl:List (Nat×JA)→Nat→Option JA
 |[],_=>none
 |(a,j)::r,k=>match Nat.beq a k with
  |true=>some j
  |false=>jl r k
end Go.Ve

namespace Go.Ve
open Go Go.Proofs
set_option maxRecDepth 1000000
set_option maxHeartbeats 0
theorem zQQ:OkX 128 [tI] (.p tU) zBn:=fX [] (A:=(jl [jj 16 22906404928 [] [.t 3 tU],jj 13 22906492224 [] [.t 4 tI, .t 3 tU],jj 28 22906492224 [] [.t 3 tU]])) (fn:=Tryz.f128) (by kernel_rfl) (by kernel_rfl) (by rintro ⟨⟩ ⟨a1,⟨⟩⟩;kernel_rfl)
noncomputable def zHd:Ent:=qD (by kernel_rfl) zQQ
theorem zPi:OkX 71 [zH] (.p .bool) w4:=fX [zHd] (A:=(jl [jj 6 366503875920 [] [.t 2 .bool]])) (fn:=Tryz.f71) (by kernel_rfl) (by kernel_rfl) (by rintro ⟨⟩ ⟨a1,⟨⟩⟩;kernel_rfl)
noncomputable def zBY:Ent:=qD (by kernel_rfl) zPi
theorem zLg:OkX 101 [zH,tU] (.p .bool) xS:=fX [zHd] (A:=fun _=>none) (fn:=Tryz.f101) (by kernel_rfl) (by kernel_rfl) (by rintro ⟨⟩ ⟨a1,a2,⟨⟩⟩;kernel_rfl)
noncomputable def zMV:Ent:=qD (by kernel_rfl) zLg
theorem zNR:OkX 44 [zH,zH] (.p .bool) zAe:=fX [zMV] (A:=(jl [jj 6 1431655680 [] [.t 4 .bool]])) (fn:=Tryz.f44) (by kernel_rfl) (by kernel_rfl) (by rintro ⟨⟩ ⟨a1,a2,⟨⟩⟩;kernel_rfl)
noncomputable def zPw:Ent:=qD (by kernel_rfl) zNR
theorem zI2:OkX 64 [zF, .str] (.p tI) vM:=fX [] (A:=(jl [jj 9 5864062014720 [] [.t 5 tI],jj 24 5864062014720 [] []])) (fn:=Tryz.f64) (by kernel_rfl) (by kernel_rfl) (by rintro ⟨⟩ ⟨a1,a2,⟨⟩⟩;kernel_rfl)
noncomputable def zEh:Ent:=qD (by kernel_rfl) zI2
theorem zLe:OkX 134 [zF, .str] (.p tI) v7:=fX [] (A:=(jl [jj 9 5864062014720 [] [.t 5 tI],jj 24 5864062014720 [] []])) (fn:=Tryz.f134) (by kernel_rfl) (by kernel_rfl) (by rintro ⟨⟩ ⟨a1,a2,⟨⟩⟩;kernel_rfl)
noncomputable def zF6:Ent:=qD (by kernel_rfl) zLe
theorem zNQ:OkX 248 [(.int .u8)] (.p .bool) zCG:=fX [] (A:=(jl [jj 6 5726623056 [] [.t 2 .bool]])) (fn:=Tryz.f248) (by kernel_rfl) (by kernel_rfl) (by rintro ⟨⟩ ⟨a1,⟨⟩⟩;kernel_rfl)
noncomputable def zPv:Ent:=qD (by kernel_rfl) zNQ
theorem zQP:OkX 202 [.str] (.p .bool) zBm:=fX [zPv] (A:=(jl [jj 6 91625968640 [] [.t 18 .bool],jj 30 1730765619511609185490967430430720 [] [.t 55 .bool],jj 17 1730765619511609209510073817104720 [] [.t 3 tI],jj 36 1730765619511609209510073817104720 [] []])) (fn:=Tryz.f202) (by kernel_rfl) (by kernel_rfl) (by rintro ⟨⟩ ⟨a1,⟨⟩⟩;kernel_rfl)
noncomputable def zCR:Ent:=qD (by kernel_rfl) zQP
theorem zNP:OkX 203 [tI,tI,tI] (.p .bool) zX:=fX [] (A:=(jl [jj 6 357912576 [] [.t 6 .bool]])) (fn:=Tryz.f203) (by kernel_rfl) (by kernel_rfl) (by rintro ⟨⟩ ⟨a1,a2,a3,⟨⟩⟩;kernel_rfl)
noncomputable def j5:Ent:=qD (by kernel_rfl) zNP
theorem zF1:OkX 113 [tU,tI] (.p zH) w9:=fX [zHd] (A:=fun _=>none) (fn:=Tryz.f113) (by kernel_rfl) (by kernel_rfl) (by rintro ⟨⟩ ⟨a1,a2,⟨⟩⟩;kernel_rfl)
noncomputable def zOE:Ent:=qD (by kernel_rfl) zF1
theorem zLf:OkX 249 [zH,zH] (.p .bool) uK:=fX [zPw] (A:=(jl [jj 6 22369536 [] [.t 4 .bool]])) (fn:=Tryz.f249) (by kernel_rfl) (by kernel_rfl) (by rintro ⟨⟩ ⟨a1,a2,⟨⟩⟩;kernel_rfl)
noncomputable def zF7:Ent:=qD (by kernel_rfl) zLf
theorem zI1:OkX 204 [(.sl qG)] (.p tI) kU:=fX [zF7,zOE,j5,zCR] (A:=(jl [jj 41 6296488550001201382416 [] [.t 5 tI],jj 56 6296488550001201382416 [] [],jj 58 27043212798572405254770141429760 [] [.t 52 .bool],jj 66 133911503688249189628496841001387004071981355583303067893760 [] [.t 98 .bool],jj 74 38597363079105398340612157981313446322593153860116637802968945187404973604864 [] [.t 127 .bool],jj 94 45567723432979415051570096605279850406945466927309786544954066201002041624518809725788842937548800 [] [.t 162 .bool],jj 85 45567723432979415091055199035204673046383172815272363122919130971985473961973845872487220144771088 [] [.t 6 tI],jj 20 45567723432979415091093796398283778444857696476941925758870220966874020816653665067156523089663760 [] [],jj 17 45567723432979415091093796398283778444857696476941925758870220966874020816653665067156524520970064 [] [.t 3 tI],jj 100 45567723432979415091093796398283778444857696476941925758870220966874020816653665067156524520970064 [] []])) (fn:=Tryz.f204) (by kernel_rfl) (by kernel_rfl) (by rintro ⟨⟩ ⟨a1,⟨⟩⟩;kernel_rfl)
noncomputable def zKF:Ent:=qD (by kernel_rfl) zI1
theorem zEQ:OkX 250 [zCW] (.p .bool) k6:=fX [zBY] (A:=(jl [jj 6 1501199875790160 [] [.t 2 .bool]])) (fn:=Tryz.f250) (by kernel_rfl) (by kernel_rfl) (by rintro ⟨⟩ ⟨a1,⟨⟩⟩;kernel_rfl)
noncomputable def zFM:Ent:=qD (by kernel_rfl) zEQ
theorem zH3:OkX 205 [(.sl vC)] (.p tI) yD:=fX [zFM,zCR] (A:=(jl [jj 37 25185954569440712458512 [] [.t 4 tI],jj 52 25185954569440712458512 [] [],jj 73 7433581732836780243977355534074804751565840 [] [.t 5 tI],jj 20 7433581732843541047178572757549453477414160 [] [],jj 17 7433581732843541047178572757549453835240784 [] [.t 3 tI],jj 88 7433581732843541047178572757549453835240784 [] []])) (fn:=Tryz.f205) (by kernel_rfl) (by kernel_rfl) (by rintro ⟨⟩ ⟨a1,⟨⟩⟩;kernel_rfl)
noncomputable def zJl:Ent:=qD (by kernel_rfl) zH3
theorem zJ9:OkX 206 [zF] (.p tI) kI:=fX [j5,zEh,zCR] (A:=(jl [jj 41 6447604369776822389310480 [] [.t 5 tI],jj 56 6447604369776822389310480 [] [],jj 90 124714687448262656856724350867958696886044878438400 [] [.t 83 .bool],jj 98 8986648889050213140174198643436161204497942415724039816394959749120 [] [.t 111 .bool],jj 77 8986648889050213264889005029006541827113428629237647983535760396304 [] [.t 6 tI],jj 24 8986648889050213264889005029006543557879048140846857493609577501712 [] [],jj 21 8986648889050213264889005029006543557879048140846857493701181101328 [] [.t 4 tI],jj 104 8986648889050213264889005029006543557879048140846857493701181101328 [] []])) (fn:=Tryz.f206) (by kernel_rfl) (by kernel_rfl) (by rintro ⟨⟩ ⟨a1,⟨⟩⟩;kernel_rfl)
noncomputable def zLH:Ent:=qD (by kernel_rfl) zJ9
theorem zPg:OkX 279 [zO] (.p .bool) zDD:=fX [] (A:=(jl [jj 6 22906492240 [] [.t 2 .bool]])) (fn:=Tryz.f279) (by kernel_rfl) (by kernel_rfl) (by rintro ⟨⟩ ⟨a1,⟨⟩⟩;kernel_rfl)
noncomputable def zRd:Ent:=qD (by kernel_rfl) zPg
theorem zSk:OkX 280 [zO] (.p .bool) zGL:=fX [] (A:=fun _=>none) (fn:=Tryz.f280) (by kernel_rfl) (by kernel_rfl) (by rintro ⟨⟩ ⟨a1,⟨⟩⟩;kernel_rfl)
noncomputable def zUC:Ent:=qD (by kernel_rfl) zSk
theorem zKc:OkX 251 [zRP] (.p .bool) zBJ:=fX [zUC,zRd,j5] (A:=(jl [jj 6 100743818301219097892160 [] [.t 38 .bool],jj 14 6923062477945693019739442674401296 [] [.t 2 .bool]])) (fn:=Tryz.f251) (by kernel_rfl) (by kernel_rfl) (by rintro ⟨⟩ ⟨a1,⟨⟩⟩;kernel_rfl)
noncomputable def zLK:Ent:=qD (by kernel_rfl) zKc
theorem zH4:OkX 207 [(.sl zK2)] (.p tI) yF:=fX [zLK,zCR] (A:=(jl [jj 37 25185954569440712458512 [] [.t 4 tI],jj 52 25185954569440712458512 [] [],jj 73 7433581732836780243977355534074804751565840 [] [.t 5 tI],jj 20 7433581732843541047178572757549453477414160 [] [],jj 17 7433581732843541047178572757549453835240784 [] [.t 3 tI],jj 88 7433581732843541047178572757549453835240784 [] []])) (fn:=Tryz.f207) (by kernel_rfl) (by kernel_rfl) (by rintro ⟨⟩ ⟨a1,⟨⟩⟩;kernel_rfl)
noncomputable def zJm:Ent:=qD (by kernel_rfl) zH4
theorem zSl:OkX 252 [zF, .str] (.p tI) zDE:=fX [] (A:=(jl [jj 9 5864062014720 [] [.t 5 tI],jj 24 5864062014720 [] []])) (fn:=Tryz.f252) (by kernel_rfl) (by kernel_rfl) (by rintro ⟨⟩ ⟨a1,a2,⟨⟩⟩;kernel_rfl)
noncomputable def zOD:Ent:=qD (by kernel_rfl) zSl
theorem zGR:OkX 208 [zF] (.p tI) kZ:=fX [zOD,j5] (A:=(jl [jj 42 412646679760292225090585600 [] [.t 5 .bool],jj 50 30447950777727144122641087138733868110036599808 [] [.t 5 .bool],jj 58 37692737381938865697777012862015049227352017065451593534499925742265041920 [] [.t 5 .bool],jj 60 37692737381938865697777013349182261670986323133346537773260926430180541440 [] [.t 5 .bool],jj 70 632378593604264737584744508361900640506471740472781533529553313286966197459353600 [] [.t 134 .bool],jj 17 632379196688062848606595672794114227422658476253951667074157685461882905339889488 [] [.t 3 tI],jj 76 632379196688062848606595672794114227422658476253951667074157685461882905339889488 [] []])) (fn:=Tryz.f208) (by kernel_rfl) (by kernel_rfl) (by rintro ⟨⟩ ⟨a1,⟨⟩⟩;kernel_rfl)
noncomputable def zIc:Ent:=qD (by kernel_rfl) zGR
theorem zMD:OkX 209 [zF] (.p tI) zBI:=fX [zOD] (A:=(jl [jj 22 100743818301213371269120 [] [.t 38 .bool],jj 9 100743818301219097892688 [] [.t 3 tI],jj 28 100743818301219097892688 [] []])) (fn:=Tryz.f209) (by kernel_rfl) (by kernel_rfl) (by rintro ⟨⟩ ⟨a1,⟨⟩⟩;kernel_rfl)
noncomputable def zOC:Ent:=qD (by kernel_rfl) zMD
theorem zME:OkX 174 [zF,tU] (.p tI) xD:=fX [] (A:=(jl [jj 18 384307168179912704 [] [.t 29 .bool],jj 9 1537228672809129216 [] [.t 5 tI],jj 24 1537228672809129216 [] []])) (fn:=Tryz.f174) (by kernel_rfl) (by kernel_rfl) (by rintro ⟨⟩ ⟨a1,a2,⟨⟩⟩;kernel_rfl)
noncomputable def zHc:Ent:=qD (by kernel_rfl) zME
theorem zKd:OkX 172 [zF, .str] (.p tI) yG:=fX [] (A:=(jl [jj 9 5864062014720 [] [.t 5 tI],jj 24 5864062014720 [] []])) (fn:=Tryz.f172) (by kernel_rfl) (by kernel_rfl) (by rintro ⟨⟩ ⟨a1,a2,⟨⟩⟩;kernel_rfl)
noncomputable def zLL:Ent:=qD (by kernel_rfl) zKd
theorem zMC:OkX 210 [zF] (.p tI) zAz:=fX [zLL,j5,zHc,zBY] (A:=(jl [jj 40 95982967058334720 [] [.t 5 tI],jj 48 98286558267733705728 [] [.t 5 tI],jj 56 25087571940244990198784 [] [.t 5 tI],jj 58 464598858302721315423474842771536090234880 [] [.t 69 .bool],jj 88 1995436901704527259351376376153304285490059033972736 [] [],jj 102 2246662222260509988834430072107158093433561622966889387929056051200 [] [.t 110 .bool],jj 93 2246662222262551320785349088125518235372070433246631536525402193936 [] [.t 7 tI],jj 20 2246662222262553316222251257251635889469762035211714373333674907408 [] [],jj 17 2246662222262553316222251257251635889469762035211714373425295284048 [] [.t 3 tI],jj 108 2246662222262553316222251257251635889469762035211714373425295284048 [] []])) (fn:=Tryz.f210) (by kernel_rfl) (by kernel_rfl) (by rintro ⟨⟩ ⟨a1,⟨⟩⟩;kernel_rfl)
noncomputable def zOB:Ent:=qD (by kernel_rfl) zMC
theorem zEP:OkX 253 [zF,(.sl qT),tI,tI,tI] (.p tI) jA:=fX [zF6,j5] (A:=(jl [jj 30 1690200800304299863862767779840 [] [.t 50 .bool],jj 38 7433581732841850846378268451680791564386304 [] [.t 71 .bool],jj 46 7794667965516416053545271929247418555377804902400 [] [.t 81 .bool],jj 57 523091803487547997888166888180986426855020182207097470976 [] [.t 13 tI],jj 20 523091811282223396986315785267305534675196263582539972608 [] [],jj 17 523091811282223396986315785267305534675196287033065603072 [] [.t 11 tI],jj 72 523091811282223396986315785267305534675196287033065603072 [] []])) (fn:=Tryz.f253) (by kernel_rfl) (by kernel_rfl) (by rintro ⟨⟩ ⟨a1,a2,a3,a4,a5,⟨⟩⟩;kernel_rfl)
noncomputable def xG:Ent:=qD (by kernel_rfl) zEP
theorem zKb:OkX 211 [zF] (.p tI) zAd:=fX [xG,zF7,zBY,j5] (A:=(jl [jj 14 1501199874392064 [] [.t 25 .bool],jj 54 110768999647131088315831082790420480 [] [.t 58 .bool],jj 74 8173309551284740464483728504488827824841739507723141120 [] [.t 91 .bool],jj 65 8173309551284740577800415145152905989891291396622517264 [] [.t 5 tI],jj 48 8173309551284740577911184144800037078207122479412937744 [] [],jj 45 8173309551284740577911184144801648880917306925194937616 [] [.t 4 tI],jj 80 8173309551284740577911184144801648880917306925194937616 [] []])) (fn:=Tryz.f211) (by kernel_rfl) (by kernel_rfl) (by rintro ⟨⟩ ⟨a1,⟨⟩⟩;kernel_rfl)
noncomputable def zLJ:Ent:=qD (by kernel_rfl) zKb
theorem zLd:OkX 212 [zF] (.p tI) zAV:=fX [xG,zEh,j5] (A:=(jl [jj 14 24019198012555264 [] [.t 27 .bool],jj 34 108172851219469426679694103674880 [] [.t 53 .bool]])) (fn:=Tryz.f212) (by kernel_rfl) (by kernel_rfl) (by rintro ⟨⟩ ⟨a1,⟨⟩⟩;kernel_rfl)
noncomputable def zMU:Ent:=qD (by kernel_rfl) zLd
theorem zKa:OkX 254 [zF] (.p tI) yE:=fX [zF6,j5] (A:=(jl [jj 30 24595658742039576576 [] [.t 32 .bool],jj 38 7259357160980020553860729299779442442240 [] [.t 66 .bool],jj 49 31178701589133238427365255877395379460782172406800 [] [.t 5 tI],jj 24 31178701596392595588345276431280704419303654425616 [] [],jj 21 31178701596392595588345276431280704419326555325712 [] [.t 4 tI],jj 64 31178701596392595588345276431280704419326555325712 [] []])) (fn:=Tryz.f254) (by kernel_rfl) (by kernel_rfl) (by rintro ⟨⟩ ⟨a1,⟨⟩⟩;kernel_rfl)
noncomputable def zLI:Ent:=qD (by kernel_rfl) zKa
theorem zGS:OkX 255 [tPV] (.p tI) vH:=fX [zBY] (A:=(jl [jj 37 103161669916429158228951312 [] [.t 4 tI],jj 20 103161669940446890226090256 [] [],jj 17 103161669940448356152115536 [] [.t 3 tI],jj 52 103161669940448356152115536 [] [],jj 85 1948668849746180360361501571666429475588596043792 [] [.t 6 tI],jj 68 1948668849774536791580174899052741648666549293072 [] [],jj 65 1948668849774537224245170389450289247010062078992 [] [.t 5 tI],jj 100 1948668849774537224245170389450289247010062078992 [] [],jj 126 8776015936244118375918817192586638416352703146905166652479897600 [] [.t 106 .bool],jj 145 2412335183457438515607515589458659717936581122655130276641842173130320379920 [] [.t 9 tI],jj 116 2412335192444087404649555544796380006365213496389376768509399724846544781328 [] [],jj 113 2412335192444087404657728355488439204661595267009755516997428957606549340176 [] [.t 7 tI],jj 160 2412335192444087404657728355488439204661595267009755516997428957606549340176 [] []])) (fn:=Tryz.f255) (by kernel_rfl) (by kernel_rfl) (by rintro ⟨⟩ ⟨a1,⟨⟩⟩;kernel_rfl)
noncomputable def zId:Ent:=qD (by kernel_rfl) zGS
theorem zI0:OkX 213 [zF] (.p tI) j9:=fX [xG,zId,zLI,j5] (A:=(jl [jj 14 1611901092819505564876800 [] [.t 40 .bool],jj 26 1730765617899708116690659876798464 [] [.t 55 .bool]])) (fn:=Tryz.f213) (by kernel_rfl) (by kernel_rfl) (by rintro ⟨⟩ ⟨a1,⟨⟩⟩;kernel_rfl)
noncomputable def zKE:Ent:=qD (by kernel_rfl) zI0
theorem zH5:OkX 173 [zF] (.p tI) kC:=fX [zKE,zMU,zLJ,zOB,zOC,zIc,zJm,zLH,zJl,zKF,j5,zCR] (A:=(jl [jj 29 6760803194920734830822890144016 [] [.t 4 tI],jj 44 6760803194920734830822890144016 [] []])) (fn:=Tryz.f173) (by kernel_rfl) (by kernel_rfl) (by rintro ⟨⟩ ⟨a1,⟨⟩⟩;kernel_rfl)
noncomputable def zJn:Ent:=qD (by kernel_rfl) zH5
theorem zPh:OkX 144 [zQ] (.p tI) uJ:=fX [zHc,zJn] (A:=(jl [jj 41 6602346876092618007411426320 [] [.t 5 tI],jj 56 6602346876092618007411426320 [] [],jj 86 1995436894735544384810556644423392325287446063349760 [] [.t 85 .bool],jj 77 1995436902161866760493117671048079757878355510231056 [] [.t 8 tI],jj 64 1995436902169126089961847779416217730674252809617424 [] [],jj 61 1995436902169126117654091089255088894142100436799504 [] [.t 6 tI],jj 20 1995436902169126117654097691601965010778939356992784 [] [],jj 17 1995436902169126117654097691601965082836899876427088 [] [.t 3 tI],jj 92 1995436902169126117654097691601965082836899876427088 [] []])) (fn:=Tryz.f144) (by kernel_rfl) (by kernel_rfl) (by rintro ⟨⟩ ⟨a1,⟨⟩⟩;kernel_rfl)
end Go.Ve

namespace Go.Ve
open Go Go.Proofs
set_option maxRecDepth 1000000
set_option maxHeartbeats 0
theorem zMF:OkX 72 [tI,tI,tI] (.p .bool) qS:=fX [] (A:=(jl [jj 6 357912576 [] [.t 6 .bool]])) (fn:=Tryz.f72) (by kernel_rfl) (by kernel_rfl) (by rintro ⟨⟩ ⟨a1,a2,a3,⟨⟩⟩;kernel_rfl)
noncomputable def zAp:Ent:=qD (by kernel_rfl) zMF
theorem zNT:OkX 73 [zB, .bool, .bool, .bool] (.p .bool) wT:=fX [] (A:=(jl [jj 6 6447604371278022265077760 [] [.t 8 .bool]])) (fn:=Tryz.f73) (by kernel_rfl) (by kernel_rfl) (by rintro ⟨⟩ ⟨a1,a2,a3,a4,⟨⟩⟩;kernel_rfl)
noncomputable def zA3:Ent:=qD (by kernel_rfl) zNT
theorem zLh:OkX 129 [qP,qP] (.p .bool) zCz:=fX [] (A:=(jl [jj 6 93824992236800 [] [.t 4 .bool]])) (fn:=Tryz.f129) (by kernel_rfl) (by kernel_rfl) (by rintro ⟨⟩ ⟨a1,a2,⟨⟩⟩;kernel_rfl)
noncomputable def zMW:Ent:=qD (by kernel_rfl) zLh
theorem zPj:OkX 74 [(.sl qP), .bool] (.p .bool) jV:=fX [zMW] (A:=(jl [jj 18 412646679761793424960782336 [] [.t 44 .bool],jj 9 412646679761793424966374656 [] [.t 5 tI],jj 24 412646679761793424966374656 [] []])) (fn:=Tryz.f74) (by kernel_rfl) (by kernel_rfl) (by rintro ⟨⟩ ⟨a1,a2,⟨⟩⟩;kernel_rfl)
noncomputable def zBZ:Ent:=qD (by kernel_rfl) zPj
theorem zGT:OkX 75 [zB] (.p .bool) x6:=fX [zBZ,zA3,zAp] (A:=(jl [jj 6 5864062014784 [] [.t 21 .bool],jj 18 393529039039261310992 [] [.t 2 .bool],jj 30 1690194352699934590640005840912 [] [.t 2 .bool]])) (fn:=Tryz.f75) (by kernel_rfl) (by kernel_rfl) (by rintro ⟨⟩ ⟨a1,⟨⟩⟩;kernel_rfl)
noncomputable def zIe:Ent:=qD (by kernel_rfl) zGT
theorem zER:OkX 76 [zB] (.p .bool) k7:=fX [zBZ,zA3,zAp] (A:=(jl [jj 6 93824992236864 [] [.t 23 .bool],jj 14 25185954481479782236160 [] [.t 37 .bool],jj 26 110768999648340014135445711965126672 [] [.t 2 .bool],jj 30 29037317874920433472551891183589197348880 [] [.t 2 .bool]])) (fn:=Tryz.f76) (by kernel_rfl) (by kernel_rfl) (by rintro ⟨⟩ ⟨a1,⟨⟩⟩;kernel_rfl)
noncomputable def zFN:Ent:=qD (by kernel_rfl) zER
theorem zFt:OkX 77 [zB] (.p .bool) uW:=fX [zBZ,zA3,zAp] (A:=(jl [jj 6 5864062014784 [] [.t 21 .bool],jj 22 412646679760292225090584592 [] [.t 2 .bool],jj 38 7089188934306746453259739058493456400 [] [.t 2 .bool]])) (fn:=Tryz.f77) (by kernel_rfl) (by kernel_rfl) (by rintro ⟨⟩ ⟨a1,⟨⟩⟩;kernel_rfl)
noncomputable def zGs:Ent:=qD (by kernel_rfl) zFt
theorem zI3:OkX 78 [zB] (.p .bool) vN:=fX [zBZ,zA3,zAp] (A:=(jl [jj 6 93824992236864 [] [.t 23 .bool],jj 24 94575592174780416 [] [.t 26 .bool],jj 26 6760803201217127397857033191440 [] [.t 2 .bool],jj 36 425930601676685078902892277006336 [] [.t 52 .bool],jj 38 523091811282223396986315352575900656772893909497308774416 [] [.t 2 .bool]])) (fn:=Tryz.f78) (by kernel_rfl) (by kernel_rfl) (by rintro ⟨⟩ ⟨a1,⟨⟩⟩;kernel_rfl)
noncomputable def zKG:Ent:=qD (by kernel_rfl) zI3
theorem zNU:OkX 32 [zB] (.p .bool) jJ:=fX [zKG,zGs,zFN,zIe,zBZ,zA3,zAp,zBY] (A:=(jl [jj 6 366503875840 [] [.t 19 .bool],jj 17 98382634693280399440 [] [.t 3 tI],jj 32 98382634693280399440 [] [],jj 42 1902996923607946508077689439978084877069189136 [] [.t 2 .bool]])) (fn:=Tryz.f32) (by kernel_rfl) (by kernel_rfl) (by rintro ⟨⟩ ⟨a1,⟨⟩⟩;kernel_rfl)
noncomputable def zPy:Ent:=qD (by kernel_rfl) zNU
theorem zF2:OkX 102 [zH,zH] (.p tI) vW:=fX [] (A:=(jl [jj 6 93824992236544 [] [.t 23 .bool]])) (fn:=Tryz.f102) (by kernel_rfl) (by kernel_rfl) (by rintro ⟨⟩ ⟨a1,a2,⟨⟩⟩;kernel_rfl)
noncomputable def zOF:Ent:=qD (by kernel_rfl) zF2
theorem zNV:OkX 45 [(.sl zB),tI] (.p .bool) v8:=fX [zOF,zPy] (A:=(jl [jj 18 422550200076076467165562142720 [] [.t 49 .bool],jj 9 422550200076076467165567735040 [] [.t 5 tI],jj 24 422550200076076467165567735040 [] []])) (fn:=Tryz.f45) (by kernel_rfl) (by kernel_rfl) (by rintro ⟨⟩ ⟨a1,a2,⟨⟩⟩;kernel_rfl)
noncomputable def zIq:Ent:=qD (by kernel_rfl) zNV
theorem zHZ:OkX 176 [(.sl zO),zO] (.p tI) zAw:=fX [] (A:=(jl [jj 9 91625948416 [] [.t 8 tI],jj 28 91625968896 [] []])) (fn:=Tryz.f176) (by kernel_rfl) (by kernel_rfl) (by rintro ⟨⟩ ⟨a1,a2,⟨⟩⟩;kernel_rfl)
noncomputable def zJj:Ent:=qD (by kernel_rfl) zHZ
theorem zFs:OkX 152 [(.sl zO),zO] (.p .bool) uV:=fX [zJj] (A:=fun _=>none) (fn:=Tryz.f152) (by kernel_rfl) (by kernel_rfl) (by rintro ⟨⟩ ⟨a1,a2,⟨⟩⟩;kernel_rfl)
noncomputable def zGr:Ent:=qD (by kernel_rfl) zFs
theorem zNM:OkX 117 [zR,tI,tI] (.p tI) zBk:=fX [zGr] (A:=(jl [jj 13 24019192286875648 [] [.t 17 tI],jj 32 24019197991129088 [] []])) (fn:=Tryz.f117) (by kernel_rfl) (by kernel_rfl) (by rintro ⟨⟩ ⟨a1,a2,a3,⟨⟩⟩;kernel_rfl)
noncomputable def zEx:Ent:=qD (by kernel_rfl) zNM
theorem zHY:OkX 135 [(.sl tI),tI] (.p tI) yC:=fX [] (A:=(jl [jj 9 91625948416 [] [.t 8 tI],jj 28 91625968896 [] []])) (fn:=Tryz.f135) (by kernel_rfl) (by kernel_rfl) (by rintro ⟨⟩ ⟨a1,a2,⟨⟩⟩;kernel_rfl)
noncomputable def zDN:Ent:=qD (by kernel_rfl) zHY
theorem zQO:OkX 145 [zR,tI,tI] (.p tI) zHs:=fX [zDN,zEx] (A:=fun _=>none) (fn:=Tryz.f145) (by kernel_rfl) (by kernel_rfl) (by rintro ⟨⟩ ⟨a1,a2,a3,⟨⟩⟩;kernel_rfl)
noncomputable def zS0:Ent:=qD (by kernel_rfl) zQO
theorem zFr:OkX 87 [(.sl tI),tI] (.p .bool) vR:=fX [zDN] (A:=fun _=>none) (fn:=Tryz.f87) (by kernel_rfl) (by kernel_rfl) (by rintro ⟨⟩ ⟨a1,a2,⟨⟩⟩;kernel_rfl)
noncomputable def zCd:Ent:=qD (by kernel_rfl) zFr
theorem zT6:OkX 107 [zR,tI,tI] (.p .bool) zHr:=fX [zCd,zS0,zEx] (A:=(jl [jj 18 1501194149171200 [] [.t 6 .bool]])) (fn:=Tryz.f107) (by kernel_rfl) (by kernel_rfl) (by rintro ⟨⟩ ⟨a1,a2,a3,⟨⟩⟩;kernel_rfl)
noncomputable def zLD:Ent:=qD (by kernel_rfl) zT6
theorem zPq:OkX 109 [tI] (.p tI) zCv:=fX [] (A:=fun _=>none) (fn:=Tryz.f109) (by kernel_rfl) (by kernel_rfl) (by rintro ⟨⟩ ⟨a1,⟨⟩⟩;kernel_rfl)
noncomputable def zKK:Ent:=qD (by kernel_rfl) zPq
theorem zQR:OkX 108 [tI] (.p tU) zDt:=fX [zKK] (A:=fun _=>none) (fn:=Tryz.f108) (by kernel_rfl) (by kernel_rfl) (by rintro ⟨⟩ ⟨a1,⟨⟩⟩;kernel_rfl)
noncomputable def zMg:Ent:=qD (by kernel_rfl) zQR
theorem zLl:OkX 168 [zH,tU] (.p .bool) wN:=fX [zMg] (A:=fun _=>none) (fn:=Tryz.f168) (by kernel_rfl) (by kernel_rfl) (by rintro ⟨⟩ ⟨a1,a2,⟨⟩⟩;kernel_rfl)
noncomputable def zF9:Ent:=qD (by kernel_rfl) zLl
theorem zPm:OkX 103 [zF] (.p .bool) zFD:=fX [] (A:=(jl [jj 6 2092367245128893587945263141069222138700785148154678169600 [] [.t 95 .bool],jj 17 2246662220170186071093357669306372748400539896510929225270622683216 [] [.t 3 tI],jj 32 2246662220170186071093357669306372748400539896510929225270622683216 [] [],jj 37 2412335190197425182395175538125413489691488791064416382276985293406222680336 [] [.t 4 tI],jj 52 2412335190197425182395175538125413489691488791064416382276985293406222680336 [] [],jj 57 2590225187221970235448528471106963021175544371793061347801571462163172713442087797776 [] [.t 5 tI],jj 72 2590225187221970235448528471106963021175544371793061347801571462163172713442087797776 [] []])) (fn:=Tryz.f103) (by kernel_rfl) (by kernel_rfl) (by rintro ⟨⟩ ⟨a1,⟨⟩⟩;kernel_rfl)
noncomputable def zRg:Ent:=qD (by kernel_rfl) zPm
theorem zNY:OkX 46 [zQ] (.p .bool) zEe:=fX [zRg] (A:=(jl [jj 17 5864061993040 [] [.t 3 tI],jj 32 5864061993040 [] []])) (fn:=Tryz.f46) (by kernel_rfl) (by kernel_rfl) (by rintro ⟨⟩ ⟨a1,⟨⟩⟩;kernel_rfl)
noncomputable def zPB:Ent:=qD (by kernel_rfl) zNY
def zEA:Nat→Option JA:=fun k=>match k with
 |84=>some ⟨184497489401772529385612327842172717039008268166646221893471402059821287234759868672175917131173661172843563441437060059660158104845032398976807920666283692562120150139178769612799511748636278282415866878160176201872937423527853931074825229289817028865471580173776186278979555862451026349435370470386779578868176354099221238174997807148290368091204552361327921521465467763204555046027307456204118567337113234081310864304329682188410055227959601689731512418582605896572426052789584762208778001498785021309361810928365592763602942101060634062780064931573442859418747069999582698364321162101164826918019197244306192189303006234838493212327877025209681605424513505280,[],[.v 5 [.o 1100 zP, .o 1101 tI], .st]⟩
 |25=>some ⟨184497489401772529385612327842172717039008268166646221893471402059821287234759868672175917131173661172843563441437060059660158104845032398976807920666283692562120150139178769612799511748636278282415866878160176201872937423527853931074825229289817028865471580173776186278979555862451026349435370470386779578868176354099221238174997807148290368091204552361327921521465467763204555046027307456204118567337113234081310864304329682188410055227959601689731512418582605896572426052789584762208778001498785021309361810928365592763602942101060634062780064931573442859418747069999582698364321162101164826918019197244306192189303006234838493212327877025209681605424513505280,[],[.t 6 tI, .v 5 [.o 1100 zP, .o 1101 tI], .st]⟩
 |28=>some ⟨184497489401772529385612327842172717039008268166646221893471402059821287234759868672175917131173661172843563441437060059660158104845032398976807920666283692562120150139178769612799511748636278282415866878160176201872937423527853931074825229289817028865471580173776186278979555862451026349435370470386779578868176354099221238174997807148290368091204552361327921521465467763204555046027307456204118567337113234081310864304329682188410055227959601689731512418582605896572426052789584762208778001498785021309361810928365592763602942101060634062780064931573442859418747069999582698364321162101164826918019197244306192189303006234838493212327877025209675600991514216448,[],[.v 5 [.o 1100 zP, .o 1101 tI], .st]⟩
 |37=>some ⟨184497489401772529385612327842172717039008268166646221893471402059821287234759868672175917131173661172843563441437060059660158104845032398976807920666283692562120150139178769612799511748636278282415866878160176201872937423527853931074825229289817028865471580173776186278979555862451026349435370470386779578868176354099221238174997807148290368091204552361327921521465467763204555046027307456204118567337113234081310864304329682188410055227959601689731512418582605896572426052789584762208778001498785021309361810928365592763602942101060634062780064931573442859418747069999582698364321162101164826918019197244306192189303006234838493212327877025209675600991514216448,[],[.t 7 tI, .v 5 [.o 1100 zP, .o 1101 tI], .st]⟩
 |40=>some ⟨184497489401772529385612327842172717039008268166646221893471402059821287234759868672175917131173661172843563441437060059660158104845032398976807920666283692562120150139178769612799511748636278282415866878160176201872937423527853931074825229289817028865471580173776186278979555862451026349435370470386779578868176354099221238174997807148290368091204552361327921521465467763204555046027307456204118567337113234081310864304329682188410055227959601689731512418582605896572426052789584762208778001498785021309361810928365592763602942101060634062780064931573442859418747069999582698364321162101164826918019197244306192189303006234838493212327877000023727030486242887680,[],[.v 5 [.o 1100 zP, .o 1101 tI], .st]⟩
 |80=>some ⟨184497489401772529385612327842172717039008268166646221893471402059821287234759868672175917131173661172843563441437060059660158104845032398976807920666283692562120150139178769612799511748636278282415866878160176201872937423527853931074825229289817028865471580173776186278979555862451026349435370470386779578868176354099221238174997807148290368091204552361327921521465467763204555046027307456204118567337113234081310864304329682188410055227959601689731512418582605896572426052789584762208778001498785021309361810928365592763602942101060634062780064931573442859418747069821583778745688924935728571583505041672838009412557657231906458756740677065373698151113771976704,[],[.v 5 [.o 1100 zP, .o 1101 tI], .st]⟩
 |70=>some ⟨150770949527755429313232131334431639559735035425831931880481358702119485440,[],[.t 123 .bool, .v 5 [.o 1100 zP, .o 1101 tI], .st]⟩
 |68=>some ⟨33477875922062297407124099488107905476223153719886495090688,[],[.t 10 tI, .v 5 [.o 1100 zP, .o 1101 tI], .st]⟩
 |61=>some ⟨33477875922062297407124099488107905476223153719886495090688,[],[.t 10 tI, .v 5 [.o 1100 zP, .o 1101 tI], .st]⟩
 |62=>some ⟨2092367245128893587945152372069573395711376497566321475584,[],[.t 95 .bool, .v 5 [.o 1100 zP, .o 1101 tI], .st]⟩
 |50=>some ⟨108166248872599386899585878196224,[],[.t 53 .bool, .v 5 [.o 1100 zP, .o 1101 tI], .st]⟩
 |92=>some ⟨737989957607090117542449311368690868156033072666584887573885608239285148939039474688703668524694644691374253765748240238640632419380129595907231682665134770248480600556715078451198046994545113129663467512640704807491749694111415724299300917159268115461886320695104745115918223449804105397741481881547118315472705416396884952699991228593161472364818209445311686085861871052818220184109229824816474269348452936325243457217318728753640220911838406758926049674330423586289704211158339048835112005995140085237447243713462371054411768404242536251120259726293772220522512954229778033961281054049025040681255249323705639452069711332539928507387154905727039987508328794112,[],[.v 5 [.o 1100 zP, .o 1101 tI], .st]⟩
 |89=>some ⟨737989957607090117542449311368690868156033072666584887573885608239285148939039474688703668524694644691374253765748240238640632419380129595907231682665134770248480600556715078451198046994545113129663467512640704807491749694111415724299300917159268115461886320695104745115918223449804105397741481881547118315472705416396884952699991228593161472364818209445311686085861871052818220184109229824816474269348452936325243457217318728753640220911838406758926049674330423586289704211158339048835112005995140085237447243713462371054411768404242536251120259726293772220522515870386078824983771043852409388662279710666054786872263881531095007792867776925237958836497535731712,[],[.t 12 tI, .v 5 [.o 1100 zP, .o 1101 tI], .st]⟩
 |104=>some ⟨737989957607090117542449311368690868156033072666584887573885608239285148939039474688703668524694644691374253765748240238640632419380129595907231682665134770248480600556715078451198046994545113129663467512640704807491749694111415724299300917159268115461886320695104745115918223449804105397741481881547118315472705416396884952699991228593161472364818209445311686085861871052818220184109229824816474269348452936325243457217318728753640220911838406758926049674330423586289704211158339048835112005995140085237447243713462371054411768404242536251120259726293772220522515870386078824983771043852409388662279710666054786872263881531095007792867776925237958836497535731712,[],[.v 5 [.o 1100 zP, .o 1101 tI], .st]⟩
 |83=>some ⟨0,[(16,0,8)],[.st]⟩
 |79=>some ⟨0,[(14848,1024,0)],[.st]⟩
 |_=>none
theorem zMM: ∀k j,zEA k=some j→zEU j.sl=true:=by
 intro k j h
 unfold zEA at h
 split at h<;>(cases h<;>rfl)
theorem zMK:wY (wA zO) Tryz.prog G0 104 (qO (zL4 (zEy [zQ]) (.tu [zGA,tI]) zCA)):=
 zUk (fn:=Tryz.f104) (c:=wM Tryz.f104) (S:=(((((zM.none (wA zO)).add 144 (wE [zQ] (.p tI) uJ)).add 113 (wE [tU,tI] (.p zH) w9)).add 102 (wE [zH,zH] (.p tI) vW)).addH)) (A:=zEA) zMM (zL2 (qW (qW (qW z8 (by kernel_rfl) (zLq (by kernel_rfl) zPh)) (by kernel_rfl) (zLq (by kernel_rfl) zF1)) (by kernel_rfl) (zLq (by kernel_rfl) zF2)) (by kernel_rfl) (by kernel_rfl)) (by kernel_rfl) (by kernel_rfl) (by rintro st0 ⟨a1,⟨⟩⟩;kernel_rfl)
theorem zNW:wY U Tryz.prog G0 104 (qO (wE [zQ] (.tu [zJK,tI]) zEa)):=
 zMb (fun _=>rfl) (by kernel_rfl) zMK
noncomputable def zPz:Ent:=qD (by kernel_rfl) zNW
theorem zI4:OkX 105 [(.sl tI),tI] (.p .bool) zA8:=fX [] (A:=(jl [jj 26 103161669940448355883679744 [] [.t 43 .bool],jj 17 103161669940448356241507584 [] [.t 5 tI],jj 32 103161669940448356241507584 [] []])) (fn:=Tryz.f105) (by kernel_rfl) (by kernel_rfl) (by rintro ⟨⟩ ⟨a1,a2,⟨⟩⟩;kernel_rfl)
noncomputable def zKH:Ent:=qD (by kernel_rfl) zI4
theorem zPk:OkX 47 [zQ,(.sl tI)] (.tu [zR,tI]) zFm:=fX [zKH,zPz] (A:=(jl [jj 27 0 [(240,3,0)] []])) (fn:=Tryz.f47) (by kernel_rfl) (by kernel_rfl) (by rintro ⟨⟩ ⟨a1,a2,⟨⟩⟩;kernel_rfl)
noncomputable def zRe:Ent:=qD (by kernel_rfl) zPk
theorem zPo:OkX 14 [zQ,(.sl tI)] (.tu [zR, .bool]) zFE:=fX [zRe,zPB] (A:=(jl [jj 6 1431633920 [] [.t 15 .bool]])) (fn:=Tryz.f14) (by kernel_rfl) (by kernel_rfl) (by rintro ⟨⟩ ⟨a1,a2,⟨⟩⟩;kernel_rfl)
noncomputable def zRi:Ent:=qD (by kernel_rfl) zPo
end Go.Ve

namespace Go.Ve
open Go Go.Proofs
set_option maxRecDepth 1000000
set_option maxHeartbeats 0
theorem zJ6:OkX 57 [zR,tI,tI] (.p (.sl zO)) zBz:=fX [zEx,zLD] (A:=(jl [jj 30 402974888897708189286400 [] [.t 39 .bool, .o 7 7 zO],jj 36 103161669916429158229753856 [] [.o 7 7 zO],jj 21 412646679760292225091387392 [] [.t 26 tI, .o 7 7 zO],jj 40 412646679761793424609263616 [] [.o 7 7 zO]])) (fn:=Tryz.f57) (by kernel_rfl) (by kernel_rfl) (by rintro ⟨⟩ ⟨a1,a2,a3,⟨⟩⟩;kernel_rfl)
noncomputable def zLE:Ent:=qD (by kernel_rfl) zJ6
theorem zFA:OkA 178 [.d vC, .pp .str] (.p .bool) zAQ:=fA [] (A:=fun _=>none) (fn:=Tryz.f178) (by kernel_rfl) (by kernel_rfl) (by rintro ⟨⟩ ⟨a1,a2,⟨⟩⟩;kernel_rfl)
noncomputable def zCf:Ent:=qD (by kernel_rfl) zFA
theorem zBv:OkA 177 [.d (.sl vC), .clo 178 [(true, .str)]] (.p tI) wZ:=fA [zCf] (A:=(jl [jj 9 91625948416 [] [.t 8 tI],jj 28 91625968896 [] []])) (fn:=Tryz.f177) (by kernel_rfl) (by kernel_rfl) (by rintro ⟨⟩ ⟨a1,⟨a2,⟨⟩⟩,⟨⟩⟩;kernel_rfl)
noncomputable def zBX:Ent:=qD (by kernel_rfl) zBv
theorem zH8:OkX 153 [zF, .str] (.p tI) zAA:=fX [zBX,zCf] (A:=fun _=>none) (fn:=Tryz.f153) (by kernel_rfl) (by kernel_rfl) (by rintro ⟨⟩ ⟨a1,a2,⟨⟩⟩;kernel_rfl)
noncomputable def zJq:Ent:=qD (by kernel_rfl) zH8
theorem zNZ:OkX 141 [zH,zH] (.p .bool) zBs:=fX [zF9] (A:=(jl [jj 6 1431655680 [] [.t 4 .bool]])) (fn:=Tryz.f141) (by kernel_rfl) (by kernel_rfl) (by rintro ⟨⟩ ⟨a1,a2,⟨⟩⟩;kernel_rfl)
noncomputable def zIr:Ent:=qD (by kernel_rfl) zNZ
theorem zKg:OkX 179 [zCW,zH] (.p .bool) zAh:=fX [zIr] (A:=(jl [jj 6 23456248059136 [] [.t 4 .bool]])) (fn:=Tryz.f179) (by kernel_rfl) (by kernel_rfl) (by rintro ⟨⟩ ⟨a1,a2,⟨⟩⟩;kernel_rfl)
noncomputable def zLO:Ent:=qD (by kernel_rfl) zKg
theorem zMG:OkX 154 [vC,zH] (.p tI) zDf:=fX [zLO] (A:=(jl [jj 9 366503539968 [] [.t 10 tI],jj 28 366503884032 [] []])) (fn:=Tryz.f154) (by kernel_rfl) (by kernel_rfl) (by rintro ⟨⟩ ⟨a1,a2,⟨⟩⟩;kernel_rfl)
noncomputable def zOG:Ent:=qD (by kernel_rfl) zMG
theorem zKf:OkX 118 [zF, .str,zH] (.p .bool) zBL:=fX [zOG,zJq] (A:=(jl [jj 30 6296488620369945563136 [] [.t 6 .bool]])) (fn:=Tryz.f118) (by kernel_rfl) (by kernel_rfl) (by rintro ⟨⟩ ⟨a1,a2,a3,⟨⟩⟩;kernel_rfl)
noncomputable def zLN:Ent:=qD (by kernel_rfl) zKf
theorem zPl:OkX 26 [(.sl zB),zH] (.p tI) zFn:=fX [] (A:=(jl [jj 9 366503875840 [] [.t 5 tI],jj 24 366503875840 [] []])) (fn:=Tryz.f26) (by kernel_rfl) (by kernel_rfl) (by rintro ⟨⟩ ⟨a1,a2,⟨⟩⟩;kernel_rfl)
noncomputable def zRf:Ent:=qD (by kernel_rfl) zPl
theorem zD2:OkX 79 [zR,tI,tI] (.tu [qG, .bool]) jC:=fX [] (A:=(jl [jj 6 98382635059784253440 [] [.t 33 .bool]])) (fn:=Tryz.f79) (by kernel_rfl) (by kernel_rfl) (by rintro ⟨⟩ ⟨a1,a2,a3,⟨⟩⟩;kernel_rfl)
noncomputable def uO:Ent:=qD (by kernel_rfl) zD2
theorem zDJ:OkX 97 [zH,zH] (.p .bool) jN:=fX [zIr] (A:=(jl [jj 6 357913856 [] [.t 4 .bool]])) (fn:=Tryz.f97) (by kernel_rfl) (by kernel_rfl) (by rintro ⟨⟩ ⟨a1,a2,⟨⟩⟩;kernel_rfl)
noncomputable def zAL:Ent:=qD (by kernel_rfl) zDJ
theorem zGV:OkX 80 [zF,zH] (.p .bool) k9:=fX [zAL] (A:=(jl [jj 18 23455890145280 [] [.t 22 .bool],jj 9 93824990851328 [] [.t 11 tI],jj 28 93824992243968 [] []])) (fn:=Tryz.f80) (by kernel_rfl) (by kernel_rfl) (by rintro ⟨⟩ ⟨a1,a2,⟨⟩⟩;kernel_rfl)
noncomputable def zIf:Ent:=qD (by kernel_rfl) zGV
def zE5:Nat→Option JA:=fun k=>match k with
 |12=>some ⟨336,[],[.t 0 (.sl z6)]⟩
 |_=>none
theorem zEu:wY U Tryz.prog G0 130 (qO (wE [(.sl z6)] (.p (.sl z6)) kP)):=
 zJd (t:=z6) (bytes:=48)
  (vO (fn:=Tryz.f130) (c:=wM Tryz.f130) (S:=zM.none U) (A:=fun _=>none) z8 (by kernel_rfl) (by kernel_rfl) (enc:=fun q=>[.tl z6 (q.1::q.2)]) (fun _ _ h=>zEi h) (by rintro ⟨⟩ ⟨y,r⟩;kernel_rfl))
  (fun c=>vO (fn:=Tryz.f130) (c:=wM Tryz.f130) (S:=zM.none U) (A:=fun _=>none) z8 (by kernel_rfl) (by kernel_rfl) (enc:=fun _=>[.val (.slice none 0 c)]) (fun _ _ h=>yY h) (by rintro ⟨⟩ _;kernel_rfl))
  (fun a c=>vO (fn:=Tryz.f130) (c:=wM Tryz.f130) (S:=zM.none U) (A:=zE5) z8 (by kernel_rfl) (by kernel_rfl) (enc:=fun _=>[.val (.slice (some a) 0 c)]) (fun _ _ h=>yY h) (by rintro ⟨⟩ _;kernel_rfl))
noncomputable def zE0:Ent:=qD (by kernel_rfl) zEu
theorem zEv:OkX 81 [zF,tU] (.tu [z6, .bool]) jZ:=fX [zE0] (A:=(jl [jj 9 23456225740288 [] [.t 13 tI, .v 4 [.p z6]],jj 28 23456248088064 [] [.v 4 [.p z6]]])) (fn:=Tryz.f81) (by kernel_rfl) (by kernel_rfl) (by rintro ⟨⟩ ⟨a1,a2,⟨⟩⟩;kernel_rfl)
noncomputable def yQ:Ent:=qD (by kernel_rfl) zEv
def zJy:Nat→Option JA:=fun k=>match k with
 |12=>some ⟨336,[],[.t 0 (.sl tI)]⟩
 |_=>none
theorem zH0:wY U Tryz.prog G0 83 (qO (wE [(.sl tI)] (.p (.sl tI)) jT)):=
 zJd (t:=tI) (bytes:=8)
  (vO (fn:=Tryz.f83) (c:=wM Tryz.f83) (S:=zM.none U) (A:=fun _=>none) z8 (by kernel_rfl) (by kernel_rfl) (enc:=fun q=>[.tl tI (q.1::q.2)]) (fun _ _ h=>zEi h) (by rintro ⟨⟩ ⟨y,r⟩;kernel_rfl))
  (fun c=>vO (fn:=Tryz.f83) (c:=wM Tryz.f83) (S:=zM.none U) (A:=fun _=>none) z8 (by kernel_rfl) (by kernel_rfl) (enc:=fun _=>[.val (.slice none 0 c)]) (fun _ _ h=>yY h) (by rintro ⟨⟩ _;kernel_rfl))
  (fun a c=>vO (fn:=Tryz.f83) (c:=wM Tryz.f83) (S:=zM.none U) (A:=zJy) z8 (by kernel_rfl) (by kernel_rfl) (enc:=fun _=>[.val (.slice (some a) 0 c)]) (fun _ _ h=>yY h) (by rintro ⟨⟩ _;kernel_rfl))
noncomputable def xF:Ent:=qD (by kernel_rfl) zH0
def zJz:Nat→Option JA:=fun k=>match k with
 |12=>some ⟨336,[],[.t 0 (.sl qP)]⟩
 |_=>none
theorem zH1:wY U Tryz.prog G0 131 (qO (wE [(.sl qP)] (.p (.sl qP)) zAx)):=
 zJd (t:=qP) (bytes:=16)
  (vO (fn:=Tryz.f131) (c:=wM Tryz.f131) (S:=zM.none U) (A:=fun _=>none) z8 (by kernel_rfl) (by kernel_rfl) (enc:=fun q=>[.tl qP (q.1::q.2)]) (fun _ _ h=>zEi h) (by rintro ⟨⟩ ⟨y,r⟩;kernel_rfl))
  (fun c=>vO (fn:=Tryz.f131) (c:=wM Tryz.f131) (S:=zM.none U) (A:=fun _=>none) z8 (by kernel_rfl) (by kernel_rfl) (enc:=fun _=>[.val (.slice none 0 c)]) (fun _ _ h=>yY h) (by rintro ⟨⟩ _;kernel_rfl))
  (fun a c=>vO (fn:=Tryz.f131) (c:=wM Tryz.f131) (S:=zM.none U) (A:=zJz) z8 (by kernel_rfl) (by kernel_rfl) (enc:=fun _=>[.val (.slice (some a) 0 c)]) (fun _ _ h=>yY h) (by rintro ⟨⟩ _;kernel_rfl))
noncomputable def zJk:Ent:=qD (by kernel_rfl) zH1
theorem zGY:OkA 201 [.d yW, .pp .str] (.p .bool) zBT:=fA [] (A:=fun _=>none) (fn:=Tryz.f201) (by kernel_rfl) (by kernel_rfl) (by rintro ⟨⟩ ⟨a1,a2,⟨⟩⟩;kernel_rfl)
noncomputable def zC8:Ent:=qD (by kernel_rfl) zGY
theorem zB5:OkA 200 [.d (.sl yW), .clo 201 [(true, .str)]] (.p tI) vL:=fA [zC8] (A:=(jl [jj 9 91625948416 [] [.t 8 tI],jj 28 91625968896 [] []])) (fn:=Tryz.f200) (by kernel_rfl) (by kernel_rfl) (by rintro ⟨⟩ ⟨a1,⟨a2,⟨⟩⟩,⟨⟩⟩;kernel_rfl)
noncomputable def zCs:Ent:=qD (by kernel_rfl) zB5
theorem zKh:OkX 167 [zF, .str] (.p tI) yN:=fX [zCs,zC8] (A:=fun _=>none) (fn:=Tryz.f167) (by kernel_rfl) (by kernel_rfl) (by rintro ⟨⟩ ⟨a1,a2,⟨⟩⟩;kernel_rfl)
noncomputable def zCt:Ent:=qD (by kernel_rfl) zKh
theorem zLi:OkX 166 [zF, .str,zB] (.p tI) zAY:=fX [zLN,zCt] (A:=(jl [jj 30 412646679755788625463214080 [] [.t 44 .bool],jj 21 6602346876188688935400837120 [] [.t 22 tI],jj 40 6602346876188694799104937984 [] []])) (fn:=Tryz.f166) (by kernel_rfl) (by kernel_rfl) (by rintro ⟨⟩ ⟨a1,a2,a3,⟨⟩⟩;kernel_rfl)
noncomputable def zF8:Ent:=qD (by kernel_rfl) zLi
theorem zGU:OkX 132 [zF, .str,zB] (.tu [kN, .bool]) k8:=fX [zCt,zF8] (A:=(jl [jj 23 0 [(24,6,0)] []])) (fn:=Tryz.f132) (by kernel_rfl) (by kernel_rfl) (by rintro ⟨⟩ ⟨a1,a2,a3,⟨⟩⟩;kernel_rfl)
noncomputable def zC7:Ent:=qD (by kernel_rfl) zGU
theorem zMH:OkX 82 [zF, .str,zB] (.tu [zB, .bool]) zBM:=fX [zC7,zJk,xF] (A:=(jl [jj 40 6294951415153384491008 [] [.v 5 [.p zB]],jj 48 25784120996468262866782208 [] [.v 5 [.p zB]],jj 56 105611759601534004702331537408 [] [.v 5 [.p zB]]])) (fn:=Tryz.f82) (by kernel_rfl) (by kernel_rfl) (by rintro ⟨⟩ ⟨a1,a2,a3,⟨⟩⟩;kernel_rfl)
noncomputable def zHe:Ent:=qD (by kernel_rfl) zMH
theorem zKe:OkX 84 [zF, .str,zB] (.p tI) zBK:=fX [zC7] (A:=fun _=>none) (fn:=Tryz.f84) (by kernel_rfl) (by kernel_rfl) (by rintro ⟨⟩ ⟨a1,a2,a3,⟨⟩⟩;kernel_rfl)
noncomputable def zLM:Ent:=qD (by kernel_rfl) zKe
theorem zGX:OkX 33 [zR,zW,zB] (.tu [zB, .bool]) x8:=fX [zLM,xF,zHe,yQ,zIf,uO] (A:=(jl [jj 10 402975273111051399331840 [] [.t 39 .bool],jj 22 1772303967970500325783630215859142656 [] [.t 60 .bool],jj 48 1895563341875102967030536053175110728008337408 [] [.v 5 [.p zB]],jj 97 103306820458156294656094485043318397790635090902388946122367707859777845371548719137571334688294830173338045864258315365141449000983439330570722177320589644328128484780111578894057787027214873304103335256792309343028840886044961322246476108298013154969353085650378313636073913237440168557404030730338649054415667327346451647959874702629371426920550153268168687275985196999172625645221308629576524627973939548823809852279076982073490062444913175105919980287343435086195103354082877569179339345906014093643802654768824784598425433370375894370875326609869190966074923449127369128351652870267768452471452849970927815399626776427044480897028208553957599361475910156051730904598780369929893044647575859313341023466256213064678367516543731361522401958183831988215660675072 [] [.t 118 tI, .v 13 [.p tU, .p tI, .p tI, .p tI, .p tI, .p tI, .p tI, .p tI, .p tI, .o 1269 tI, .p tU, .p tU, .p (.sl qP), .p .bool]],jj 108 103306820458156294656094485043318397790635090902388946122367707859777845371548719137571334688294830173338045864258315365141449000983439330570722177320589644328128484780111578894057787027214873304103335256792309343028840886044961322246476108298013154969353085650378313636073913237440168557404030730338649054415667327346451647959874702629371426920550153268168687275985196999172625645221308629576524627973939548823809852279076982073490062444913175105919980287343435086195103354082877569179339345906014093643802654768824784598425433370375894370875326609869190966074923449127369128351652870267768452471452849970927815399626776427044480897028208553957599361475910156051730904598780369929893044647575886920326410628511362803701816624645541165958290639730052638312555872256 [] [.v 13 [.p tU, .p tI, .p tI, .p tI, .p tI, .p tI, .p tI, .p tI, .p tI, .o 1269 tI, .p tU, .p tU, .p (.sl qP), .p .bool]]])) (fn:=Tryz.f33) (by kernel_rfl) (by kernel_rfl) (by rintro ⟨⟩ ⟨a1,a2,a3,⟨⟩⟩;kernel_rfl)
noncomputable def zIh:Ent:=qD (by kernel_rfl) zGX
theorem zGW:OkX 36 [zR,zW,zB] (.tu [zB, .bool]) x7:=fX [xF,zHe,yQ,zCd,uO] (A:=(jl [jj 10 100743818277762849832960 [] [.t 38 .bool],jj 64 137117010307786654605228984160548265193339852328872370033917952 [] [.v 13 [.p zB]],jj 63 0 [(112,7,0)] []])) (fn:=Tryz.f36) (by kernel_rfl) (by kernel_rfl) (by rintro ⟨⟩ ⟨a1,a2,a3,⟨⟩⟩;kernel_rfl)
noncomputable def zIg:Ent:=qD (by kernel_rfl) zGW
theorem zH6:OkX 127 [zF,tU,tI] (.p .bool) yJ:=fX [yQ] (A:=(jl [jj 10 5863704104960 [] [.t 6 .bool]])) (fn:=Tryz.f127) (by kernel_rfl) (by kernel_rfl) (by rintro ⟨⟩ ⟨a1,a2,a3,⟨⟩⟩;kernel_rfl)
noncomputable def zJo:Ent:=qD (by kernel_rfl) zH6
theorem zDI:OkX 68 [zR,tI,tI] (.p (.sl zW)) wF:=fX [zJo,zLE,uO] (A:=(jl [jj 50 487167212441862002073515056408222597138270388224 [] [.t 79 .bool, .o 10 10 zW],jj 64 8369468980515574351781052564276886942902047773129773678592 [] [.o 10 10 zW],jj 29 33477875922062297407124210257107554118468744069272380112896 [] [.t 39 tI, .o 10 10 zW],jj 68 33477875922062297407124210257107554219114179735431693729792 [] [.o 10 10 zW]])) (fn:=Tryz.f68) (by kernel_rfl) (by kernel_rfl) (by rintro ⟨⟩ ⟨a1,a2,a3,⟨⟩⟩;kernel_rfl)
noncomputable def zAK:Ent:=qD (by kernel_rfl) zDI
theorem zFw:OkX 29 [zR] (.p (.sl zW)) uZ:=fX [zAK] (A:=(jl [jj 25 96076700424605760 [] [.t 19 tI, .o 3 3 zW],jj 40 96076792028208448 [] [.o 3 3 zW],jj 13 384307168200891712 [] [.t 11 tI, .o 3 3 zW],jj 44 384307168202284352 [] [.o 3 3 zW]])) (fn:=Tryz.f29) (by kernel_rfl) (by kernel_rfl) (by rintro ⟨⟩ ⟨a1,⟨⟩⟩;kernel_rfl)
end Go.Ve

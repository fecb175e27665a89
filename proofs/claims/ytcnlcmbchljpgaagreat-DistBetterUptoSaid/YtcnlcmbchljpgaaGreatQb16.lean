/-
  law17 and law20: the program's tables.
  Functions out of code, over the fast tables.
  Contracts of the functions of NvF1.
  Contracts of the functions of NvF2.
  Contracts of the functions of NvF3.
-/
import Derived.Test.YtcnlcmbchljpgaaGreatProg
import Derived.Test.YtcnlcmbchljpgaaGreatQb10
import Derived.Test.YtcnlcmbchljpgaaGreatQb7
import Derived.Test.YtcnlcmbchljpgaaGreatQb11
import Derived.Test.YtcnlcmbchljpgaaGreatQb13
set_option linter.unusedVariables false
namespace Go.Ve
open Go Go.Proofs
noncomputable abbrev LF:jG:=jG.fast Tryz.prog 330 310
def G0:Nat→Option (List V):=fun _=>none
abbrev U:=jI
abbrev w7 (f:Func):Code:=match f.body with|some c=>c|none=> .skip
theorem mixed:Tryz.prog.follows .mixedOrders=true:=by kernel_rfl
end Go.Ve

namespace Go.Ve
open Go Go.Proofs
instance:Subsingleton U.St:=inferInstanceAs (Subsingleton Unit)
theorem zTm {S:zQ U} {A:Nat→Option JA} (hS:z7 U Tryz.prog G0 S.toS) {f:FuncId} {fn:Func} {c:Code} (hf:LF.fn f=some fn) (hb:fn.body=some c)
  {ts:List Ty} {R:RTy} {g:ElS ts→Option R.El} (h: ∀s x,exF (Γ:=U) LF G0 S A fn c R s (vA ts x)=g x):j7 U Tryz.prog G0 f (qG (jV ts R g)):=by
 have hl:LF=jG.of Tryz.prog:=jG.fast_eq Tryz.prog 330 310
 rw [hl] at hf h
 exact zUT mixed hS hf hb h
theorem zRz {S:zQ U} {A:Nat→Option JA} (hS:z7 U Tryz.prog G0 S.toS) {f:FuncId} {fn:Func} {c:Code} (hf:LF.fn f=some fn) (hb:fn.body=some c)
  {ts:List ATy} {R:RTy} {g:ElA ts→Option R.El} (h: ∀s x,exF (Γ:=U) LF G0 S A fn c R s (zTA ts x)=g x):j7 U Tryz.prog G0 f (qG (zT5 ts R g)):=by
 have hl:LF=jG.of Tryz.prog:=jG.fast_eq Tryz.prog 330 310
 rw [hl] at hf h
 exact zUV mixed hS hf hb h
theorem zA7 {S:zQ U} {A:Nat→Option JA} (hS:z7 U Tryz.prog G0 S.toS) {f:FuncId} {fn:Func} {c:Code} (hf:LF.fn f=some fn) (hb:fn.body=some c)
  {X:Type} {dec:List V→Option X} {enc:X→List V} (hdec: ∀ds x,dec ds=some x→j5 ds (enc x)) {R:RTy} {g:X→Option R.El} (h: ∀s x,exF (Γ:=U) LF G0 S A fn c R s (enc x)=g x):j7 U Tryz.prog G0 f (qG (wF dec R g)):=by
 have hl:LF=jG.of Tryz.prog:=jG.fast_eq Tryz.prog 330 310
 rw [hl] at hf h
 exact zLT mixed hS hf hb hdec h
theorem wK {S:zQ U} {A:Nat→Option JA} (hS:z7 U Tryz.prog G0 S.toS) {f:FuncId} {fn:Func} {c:Code} (hf:LF.fn f=some fn) (hb:fn.body=some c)
  {t:Ty} {ts:List ATy} {R:RTy} (hpl:R.pl=true) (hno: ∀ty,R≠ .o ty) {g:List t.El→ElA ts→Option (List t.El×R.El)} (h: ∀s xs x,zW3 (Γ:=U) LF G0 S A fn c t R s xs (zTA ts x)=g xs x):zAp U Tryz.prog G0 f t (vX ts) R g:=by
 have hl:LF=jG.of Tryz.prog:=jG.fast_eq Tryz.prog 330 310
 rw [hl] at hf h
 exact zUU mixed hS hf hb (zHf ts) (zVc ts) hpl hno h
theorem zRy {tE:Ty} {S:zQ (jU tE)} {A:Nat→Option JA} (hst: ∀k j,A k=some j→zDm j.sl=true) (hS:z7 (jU tE) Tryz.prog G0 S.toS) {f:FuncId} {fn:Func} {c:Code} (hf:LF.fn f=some fn) (hb:fn.body=some c)
  {ts:List Ty} {R:RTy} {g:HSt tE→ElS ts→Option (HSt tE×R.El)} (h: ∀s x,zW2 (Γ:=jU tE) LF G0 S A fn c R s (vA ts x)=g s x):j7 (jU tE) Tryz.prog G0 f (qG (zJJ (zCu ts) R g)):=by
 have hl:LF=jG.of Tryz.prog:=jG.fast_eq Tryz.prog 330 310
 rw [hl] at hf h
 exact zUS hst mixed hS hf hb (w6 ts) h
structure Ent where
 ad:zQ U→zQ U
 ok: ∀S:zQ U,z7 U Tryz.prog G0 S.toS→z7 U Tryz.prog G0 (ad S).toS
def qJ {f:FuncId} {sp:U.St→List V→Option (zDx U.St)} (hi:zKp Tryz.prog f=true) (h:j7 U Tryz.prog G0 f (qG sp)):Ent:=⟨fun S=>S.add f sp,fun _ hS=>qU hS hi h⟩
def zW5 {f:FuncId} {t:Ty} {X:Type} {dec:List V→Option X} {R:RTy} {g:List t.El→X→Option (List t.El×R.El)} (hi:zKp Tryz.prog f=true) (h:zAp U Tryz.prog G0 f t dec R g):Ent:=⟨fun S=>S.addB f (wH t dec R g),fun _ hS=>jW hS hi h⟩
def zXS {f:FuncId} {t:Ty} {X:Type} {dec:List V→Option X} {g:List t.El→X→Option (List t.El)} (hi:zKp Tryz.prog f=true) (h:zSR U Tryz.prog G0 f t dec g):Ent:=⟨fun S=>S.addB f (zCA t dec g),fun _ hS=>zPe hS hi h⟩
def zWc:List Ent→zQ U
 |[]=>zQ.none U
 |e::r=>e.ad (zWc r)
theorem zOJ: ∀l,z7 U Tryz.prog G0 (zWc l).toS
 |[]=>qC
 |e::r=>e.ok _ (zOJ r)
abbrev OkX (f:FuncId) (ts:List Ty) (R:RTy) (g:ElS ts→Option R.El):Prop:=j7 U Tryz.prog G0 f (qG (jV ts R g))
abbrev OkA (f:FuncId) (ts:List ATy) (R:RTy) (g:ElA ts→Option R.El):Prop:=j7 U Tryz.prog G0 f (qG (zT5 ts R g))
theorem fX (l:List Ent) {A:Nat→Option JA} {f:FuncId} {fn:Func} (hf:LF.fn f=some fn) (hb:fn.body=some (w7 fn))
  {ts:List Ty} {R:RTy} {g:ElS ts→Option R.El} (h: ∀s x,exF (Γ:=U) LF G0 (zWc l) A fn (w7 fn) R s (vA ts x)=g x):OkX f ts R g:=zTm (zOJ l) hf hb h
theorem fA (l:List Ent) {A:Nat→Option JA} {f:FuncId} {fn:Func} (hf:LF.fn f=some fn) (hb:fn.body=some (w7 fn))
  {ts:List ATy} {R:RTy} {g:ElA ts→Option R.El} (h: ∀s x,exF (Γ:=U) LF G0 (zWc l) A fn (w7 fn) R s (zTA ts x)=g x):OkA f ts R g:=zRz (zOJ l) hf hb h
def jj (k b:Nat) (l:List (Nat×Nat×Nat)) (s:List zAr):Nat×JA:=(k,⟨b,l,s⟩)
def jl:List (Nat×JA)→Nat→Option JA
 |[],_=>none
 |(a,j)::r,k=>match Nat.beq a k with
  |true=>some j
  |false=>jl r k
end Go.Ve

namespace Go.Ve
open Go Go.Proofs
set_option maxRecDepth 1000000
set_option maxHeartbeats 0
theorem zOr:OkX 128 [tI] (.p tU) zAh:=fX [] (A:=(jl [jj 16 22906404928 [] [.t 3 tU],jj 13 22906492224 [] [.t 4 tI, .t 3 tU],jj 28 22906492224 [] [.t 3 tU]])) (fn:=Tryz.f128) (by kernel_rfl) (by kernel_rfl) (by rintro ⟨⟩ ⟨a1,⟨⟩⟩;kernel_rfl)
noncomputable def zFk:Ent:=qJ (by kernel_rfl) zOr
theorem zMJ:OkX 71 [zF] (.p .bool) j9:=fX [zFk] (A:=(jl [jj 6 366503875920 [] [.t 2 .bool]])) (fn:=Tryz.f71) (by kernel_rfl) (by kernel_rfl) (by rintro ⟨⟩ ⟨a1,⟨⟩⟩;kernel_rfl)
noncomputable def zAO:Ent:=qJ (by kernel_rfl) zMJ
theorem zI2:OkX 101 [zF,tU] (.p .bool) zBh:=fX [zFk] (A:=fun _=>none) (fn:=Tryz.f101) (by kernel_rfl) (by kernel_rfl) (by rintro ⟨⟩ ⟨a1,a2,⟨⟩⟩;kernel_rfl)
noncomputable def zKA:Ent:=qJ (by kernel_rfl) zI2
theorem zLs:OkX 44 [zF,zF] (.p .bool) zBn:=fX [zKA] (A:=(jl [jj 6 1431655680 [] [.t 4 .bool]])) (fn:=Tryz.f44) (by kernel_rfl) (by kernel_rfl) (by rintro ⟨⟩ ⟨a1,a2,⟨⟩⟩;kernel_rfl)
noncomputable def zMY:Ent:=qJ (by kernel_rfl) zLs
theorem zGU:OkX 64 [zG, .str] (.p tI) wJ:=fX [] (A:=(jl [jj 9 5864062014720 [] [.t 5 tI],jj 24 5864062014720 [] []])) (fn:=Tryz.f64) (by kernel_rfl) (by kernel_rfl) (by rintro ⟨⟩ ⟨a1,a2,⟨⟩⟩;kernel_rfl)
noncomputable def zCN:Ent:=qJ (by kernel_rfl) zGU
theorem zI0:OkX 134 [zG, .str] (.p tI) vQ:=fX [] (A:=(jl [jj 9 5864062014720 [] [.t 5 tI],jj 24 5864062014720 [] []])) (fn:=Tryz.f134) (by kernel_rfl) (by kernel_rfl) (by rintro ⟨⟩ ⟨a1,a2,⟨⟩⟩;kernel_rfl)
noncomputable def zEq:Ent:=qJ (by kernel_rfl) zI0
theorem zLr:OkX 248 [(.int .u8)] (.p .bool) zBm:=fX [] (A:=(jl [jj 6 5726623056 [] [.t 2 .bool]])) (fn:=Tryz.f248) (by kernel_rfl) (by kernel_rfl) (by rintro ⟨⟩ ⟨a1,⟨⟩⟩;kernel_rfl)
noncomputable def zMX:Ent:=qJ (by kernel_rfl) zLr
theorem zOq:OkX 202 [.str] (.p .bool) zAg:=fX [zMX] (A:=(jl [jj 6 91625968640 [] [.t 18 .bool],jj 30 1730765619511609185490967430430720 [] [.t 55 .bool],jj 17 1730765619511609209510073817104720 [] [.t 3 tI],jj 36 1730765619511609209510073817104720 [] []])) (fn:=Tryz.f202) (by kernel_rfl) (by kernel_rfl) (by rintro ⟨⟩ ⟨a1,⟨⟩⟩;kernel_rfl)
noncomputable def zBu:Ent:=qJ (by kernel_rfl) zOq
theorem zLq:OkX 203 [tI,tI,tI] (.p .bool) zU:=fX [] (A:=(jl [jj 6 357912576 [] [.t 6 .bool]])) (fn:=Tryz.f203) (by kernel_rfl) (by kernel_rfl) (by rintro ⟨⟩ ⟨a1,a2,a3,⟨⟩⟩;kernel_rfl)
noncomputable def jS:Ent:=qJ (by kernel_rfl) zLq
theorem zEm:OkX 113 [tU,tI] (.p zF) vI:=fX [zFk] (A:=fun _=>none) (fn:=Tryz.f113) (by kernel_rfl) (by kernel_rfl) (by rintro ⟨⟩ ⟨a1,a2,⟨⟩⟩;kernel_rfl)
noncomputable def zMg:Ent:=qJ (by kernel_rfl) zEm
theorem zI1:OkX 249 [zF,zF] (.p .bool) xK:=fX [zMY] (A:=(jl [jj 6 22369536 [] [.t 4 .bool]])) (fn:=Tryz.f249) (by kernel_rfl) (by kernel_rfl) (by rintro ⟨⟩ ⟨a1,a2,⟨⟩⟩;kernel_rfl)
noncomputable def zEr:Ent:=qJ (by kernel_rfl) zI1
theorem zGT:OkX 204 [(.sl qQ)] (.p tI) x3:=fX [zEr,zMg,jS,zBu] (A:=(jl [jj 41 6296488550001201382416 [] [.t 5 tI],jj 56 6296488550001201382416 [] [],jj 58 27043212798572405254770141429760 [] [.t 52 .bool],jj 66 133911503688249189628496841001387004071981355583303067893760 [] [.t 98 .bool],jj 74 38597363079105398340612157981313446322593153860116637802968945187404973604864 [] [.t 127 .bool],jj 94 45567723432979415051570096605279850406945466927309786544954066201002041624518809725788842937548800 [] [.t 162 .bool],jj 85 45567723432979415091055199035204673046383172815272363122919130971985473961973845872487220144771088 [] [.t 6 tI],jj 20 45567723432979415091093796398283778444857696476941925758870220966874020816653665067156523089663760 [] [],jj 17 45567723432979415091093796398283778444857696476941925758870220966874020816653665067156524520970064 [] [.t 3 tI],jj 100 45567723432979415091093796398283778444857696476941925758870220966874020816653665067156524520970064 [] []])) (fn:=Tryz.f204) (by kernel_rfl) (by kernel_rfl) (by rintro ⟨⟩ ⟨a1,⟨⟩⟩;kernel_rfl)
noncomputable def zIr:Ent:=qJ (by kernel_rfl) zGT
theorem zDh:OkX 250 [zBy] (.p .bool) vH:=fX [zAO] (A:=(jl [jj 6 1501199875790160 [] [.t 2 .bool]])) (fn:=Tryz.f250) (by kernel_rfl) (by kernel_rfl) (by rintro ⟨⟩ ⟨a1,⟨⟩⟩;kernel_rfl)
noncomputable def zD5:Ent:=qJ (by kernel_rfl) zDh
theorem zF4:OkX 205 [(.sl wE)] (.p tI) yP:=fX [zD5,zBu] (A:=(jl [jj 37 25185954569440712458512 [] [.t 4 tI],jj 52 25185954569440712458512 [] [],jj 73 7433581732836780243977355534074804751565840 [] [.t 5 tI],jj 20 7433581732843541047178572757549453477414160 [] [],jj 17 7433581732843541047178572757549453835240784 [] [.t 3 tI],jj 88 7433581732843541047178572757549453835240784 [] []])) (fn:=Tryz.f205) (by kernel_rfl) (by kernel_rfl) (by rintro ⟨⟩ ⟨a1,⟨⟩⟩;kernel_rfl)
noncomputable def zG8:Ent:=qJ (by kernel_rfl) zF4
theorem zHZ:OkX 206 [zG] (.p tI) zAA:=fX [jS,zCN,zBu] (A:=(jl [jj 41 6447604369776822389310480 [] [.t 5 tI],jj 56 6447604369776822389310480 [] [],jj 90 124714687448262656856724350867958696886044878438400 [] [.t 83 .bool],jj 98 8986648889050213140174198643436161204497942415724039816394959749120 [] [.t 111 .bool],jj 77 8986648889050213264889005029006541827113428629237647983535760396304 [] [.t 6 tI],jj 24 8986648889050213264889005029006543557879048140846857493609577501712 [] [],jj 21 8986648889050213264889005029006543557879048140846857493701181101328 [] [.t 4 tI],jj 104 8986648889050213264889005029006543557879048140846857493701181101328 [] []])) (fn:=Tryz.f206) (by kernel_rfl) (by kernel_rfl) (by rintro ⟨⟩ ⟨a1,⟨⟩⟩;kernel_rfl)
noncomputable def zJo:Ent:=qJ (by kernel_rfl) zHZ
theorem zMH:OkX 279 [zO] (.p .bool) zB9:=fX [] (A:=(jl [jj 6 22906492240 [] [.t 2 .bool]])) (fn:=Tryz.f279) (by kernel_rfl) (by kernel_rfl) (by rintro ⟨⟩ ⟨a1,⟨⟩⟩;kernel_rfl)
noncomputable def zOL:Ent:=qJ (by kernel_rfl) zMH
theorem zPM:OkX 280 [zO] (.p .bool) zE0:=fX [] (A:=fun _=>none) (fn:=Tryz.f280) (by kernel_rfl) (by kernel_rfl) (by rintro ⟨⟩ ⟨a1,⟨⟩⟩;kernel_rfl)
noncomputable def zRQ:Ent:=qJ (by kernel_rfl) zPM
theorem zH2:OkX 251 [zPf] (.p .bool) zAD:=fX [zRQ,zOL,jS] (A:=(jl [jj 6 100743818301219097892160 [] [.t 38 .bool],jj 14 6923062477945693019739442674401296 [] [.t 2 .bool]])) (fn:=Tryz.f251) (by kernel_rfl) (by kernel_rfl) (by rintro ⟨⟩ ⟨a1,⟨⟩⟩;kernel_rfl)
noncomputable def zJr:Ent:=qJ (by kernel_rfl) zH2
theorem zF5:OkX 207 [(.sl zIN)] (.p tI) yQ:=fX [zJr,zBu] (A:=(jl [jj 37 25185954569440712458512 [] [.t 4 tI],jj 52 25185954569440712458512 [] [],jj 73 7433581732836780243977355534074804751565840 [] [.t 5 tI],jj 20 7433581732843541047178572757549453477414160 [] [],jj 17 7433581732843541047178572757549453835240784 [] [.t 3 tI],jj 88 7433581732843541047178572757549453835240784 [] []])) (fn:=Tryz.f207) (by kernel_rfl) (by kernel_rfl) (by rintro ⟨⟩ ⟨a1,⟨⟩⟩;kernel_rfl)
noncomputable def zG9:Ent:=qJ (by kernel_rfl) zF5
theorem zPN:OkX 252 [zG, .str] (.p tI) zCa:=fX [] (A:=(jl [jj 9 5864062014720 [] [.t 5 tI],jj 24 5864062014720 [] []])) (fn:=Tryz.f252) (by kernel_rfl) (by kernel_rfl) (by rintro ⟨⟩ ⟨a1,a2,⟨⟩⟩;kernel_rfl)
noncomputable def zMf:Ent:=qJ (by kernel_rfl) zPN
theorem zE5:OkX 208 [zG] (.p tI) uT:=fX [zMf,jS] (A:=(jl [jj 42 412646679760292225090585600 [] [.t 5 .bool],jj 50 30447950777727144122641087138733868110036599808 [] [.t 5 .bool],jj 58 37692737381938865697777012862015049227352017065451593534499925742265041920 [] [.t 5 .bool],jj 60 37692737381938865697777013349182261670986323133346537773260926430180541440 [] [.t 5 .bool],jj 70 632378593604264737584744508361900640506471740472781533529553313286966197459353600 [] [.t 134 .bool],jj 17 632379196688062848606595672794114227422658476253951667074157685461882905339889488 [] [.t 3 tI],jj 76 632379196688062848606595672794114227422658476253951667074157685461882905339889488 [] []])) (fn:=Tryz.f208) (by kernel_rfl) (by kernel_rfl) (by rintro ⟨⟩ ⟨a1,⟨⟩⟩;kernel_rfl)
noncomputable def zGd:Ent:=qJ (by kernel_rfl) zE5
theorem zKh:OkX 209 [zG] (.p tI) zBN:=fX [zMf] (A:=(jl [jj 22 100743818301213371269120 [] [.t 38 .bool],jj 9 100743818301219097892688 [] [.t 3 tI],jj 28 100743818301219097892688 [] []])) (fn:=Tryz.f209) (by kernel_rfl) (by kernel_rfl) (by rintro ⟨⟩ ⟨a1,⟨⟩⟩;kernel_rfl)
noncomputable def zMe:Ent:=qJ (by kernel_rfl) zKh
theorem zKi:OkX 174 [zG,tU] (.p tI) zAF:=fX [] (A:=(jl [jj 18 384307168179912704 [] [.t 29 .bool],jj 9 1537228672809129216 [] [.t 5 tI],jj 24 1537228672809129216 [] []])) (fn:=Tryz.f174) (by kernel_rfl) (by kernel_rfl) (by rintro ⟨⟩ ⟨a1,a2,⟨⟩⟩;kernel_rfl)
noncomputable def zFj:Ent:=qJ (by kernel_rfl) zKi
theorem zH3:OkX 172 [zG, .str] (.p tI) zAE:=fX [] (A:=(jl [jj 9 5864062014720 [] [.t 5 tI],jj 24 5864062014720 [] []])) (fn:=Tryz.f172) (by kernel_rfl) (by kernel_rfl) (by rintro ⟨⟩ ⟨a1,a2,⟨⟩⟩;kernel_rfl)
noncomputable def zJs:Ent:=qJ (by kernel_rfl) zH3
theorem zKg:OkX 210 [zG] (.p tI) zBM:=fX [zJs,jS,zFj,zAO] (A:=(jl [jj 40 95982967058334720 [] [.t 5 tI],jj 48 98286558267733705728 [] [.t 5 tI],jj 56 25087571940244990198784 [] [.t 5 tI],jj 58 464598858302721315423474842771536090234880 [] [.t 69 .bool],jj 88 1995436901704527259351376376153304285490059033972736 [] [],jj 102 2246662222260509988834430072107158093433561622966889387929056051200 [] [.t 110 .bool],jj 93 2246662222262551320785349088125518235372070433246631536525402193936 [] [.t 7 tI],jj 20 2246662222262553316222251257251635889469762035211714373333674907408 [] [],jj 17 2246662222262553316222251257251635889469762035211714373425295284048 [] [.t 3 tI],jj 108 2246662222262553316222251257251635889469762035211714373425295284048 [] []])) (fn:=Tryz.f210) (by kernel_rfl) (by kernel_rfl) (by rintro ⟨⟩ ⟨a1,⟨⟩⟩;kernel_rfl)
noncomputable def zMd:Ent:=qJ (by kernel_rfl) zKg
theorem zDg:OkX 253 [zG,(.sl zCx),tI,tI,tI] (.p tI) jX:=fX [zEq,jS] (A:=(jl [jj 30 1690200800304299863862767779840 [] [.t 50 .bool],jj 38 7433581732841850846378268451680791564386304 [] [.t 71 .bool],jj 46 7794667965516416053545271929247418555377804902400 [] [.t 81 .bool],jj 57 523091803487547997888166888180986426855020182207097470976 [] [.t 13 tI],jj 20 523091811282223396986315785267305534675196263582539972608 [] [],jj 17 523091811282223396986315785267305534675196287033065603072 [] [.t 11 tI],jj 72 523091811282223396986315785267305534675196287033065603072 [] []])) (fn:=Tryz.f253) (by kernel_rfl) (by kernel_rfl) (by rintro ⟨⟩ ⟨a1,a2,a3,a4,a5,⟨⟩⟩;kernel_rfl)
noncomputable def uC:Ent:=qJ (by kernel_rfl) zDg
theorem zH1:OkX 211 [zG] (.p tI) zAC:=fX [uC,zEr,zAO,jS] (A:=(jl [jj 14 1501199874392064 [] [.t 25 .bool],jj 54 110768999647131088315831082790420480 [] [.t 58 .bool],jj 74 8173309551284740464483728504488827824841739507723141120 [] [.t 91 .bool],jj 65 8173309551284740577800415145152905989891291396622517264 [] [.t 5 tI],jj 48 8173309551284740577911184144800037078207122479412937744 [] [],jj 45 8173309551284740577911184144801648880917306925194937616 [] [.t 4 tI],jj 80 8173309551284740577911184144801648880917306925194937616 [] []])) (fn:=Tryz.f211) (by kernel_rfl) (by kernel_rfl) (by rintro ⟨⟩ ⟨a1,⟨⟩⟩;kernel_rfl)
noncomputable def zJq:Ent:=qJ (by kernel_rfl) zH1
theorem zIZ:OkX 212 [zG] (.p tI) zBg:=fX [uC,zCN,jS] (A:=(jl [jj 14 24019198012555264 [] [.t 27 .bool],jj 34 108172851219469426679694103674880 [] [.t 53 .bool]])) (fn:=Tryz.f212) (by kernel_rfl) (by kernel_rfl) (by rintro ⟨⟩ ⟨a1,⟨⟩⟩;kernel_rfl)
noncomputable def zKz:Ent:=qJ (by kernel_rfl) zIZ
theorem zH0:OkX 254 [zG] (.p tI) zAB:=fX [zEq,jS] (A:=(jl [jj 30 24595658742039576576 [] [.t 32 .bool],jj 38 7259357160980020553860729299779442442240 [] [.t 66 .bool],jj 49 31178701589133238427365255877395379460782172406800 [] [.t 5 tI],jj 24 31178701596392595588345276431280704419303654425616 [] [],jj 21 31178701596392595588345276431280704419326555325712 [] [.t 4 tI],jj 64 31178701596392595588345276431280704419326555325712 [] []])) (fn:=Tryz.f254) (by kernel_rfl) (by kernel_rfl) (by rintro ⟨⟩ ⟨a1,⟨⟩⟩;kernel_rfl)
noncomputable def zJp:Ent:=qJ (by kernel_rfl) zH0
theorem zE6:OkX 255 [tPV] (.p tI) uU:=fX [zAO] (A:=(jl [jj 37 103161669916429158228951312 [] [.t 4 tI],jj 20 103161669940446890226090256 [] [],jj 17 103161669940448356152115536 [] [.t 3 tI],jj 52 103161669940448356152115536 [] [],jj 85 1948668849746180360361501571666429475588596043792 [] [.t 6 tI],jj 68 1948668849774536791580174899052741648666549293072 [] [],jj 65 1948668849774537224245170389450289247010062078992 [] [.t 5 tI],jj 100 1948668849774537224245170389450289247010062078992 [] [],jj 126 8776015936244118375918817192586638416352703146905166652479897600 [] [.t 106 .bool],jj 145 2412335183457438515607515589458659717936581122655130276641842173130320379920 [] [.t 9 tI],jj 116 2412335192444087404649555544796380006365213496389376768509399724846544781328 [] [],jj 113 2412335192444087404657728355488439204661595267009755516997428957606549340176 [] [.t 7 tI],jj 160 2412335192444087404657728355488439204661595267009755516997428957606549340176 [] []])) (fn:=Tryz.f255) (by kernel_rfl) (by kernel_rfl) (by rintro ⟨⟩ ⟨a1,⟨⟩⟩;kernel_rfl)
noncomputable def zGe:Ent:=qJ (by kernel_rfl) zE6
theorem zGS:OkX 213 [zG] (.p tI) xZ:=fX [uC,zGe,zJp,jS] (A:=(jl [jj 14 1611901092819505564876800 [] [.t 40 .bool],jj 26 1730765617899708116690659876798464 [] [.t 55 .bool]])) (fn:=Tryz.f213) (by kernel_rfl) (by kernel_rfl) (by rintro ⟨⟩ ⟨a1,⟨⟩⟩;kernel_rfl)
noncomputable def zIq:Ent:=qJ (by kernel_rfl) zGS
theorem zF6:OkX 173 [zG] (.p tI) yR:=fX [zIq,zKz,zJq,zMd,zMe,zGd,zG9,zJo,zG8,zIr,jS,zBu] (A:=(jl [jj 29 6760803194920734830822890144016 [] [.t 4 tI],jj 44 6760803194920734830822890144016 [] []])) (fn:=Tryz.f173) (by kernel_rfl) (by kernel_rfl) (by rintro ⟨⟩ ⟨a1,⟨⟩⟩;kernel_rfl)
noncomputable def zHa:Ent:=qJ (by kernel_rfl) zF6
theorem zMI:OkX 144 [zV] (.p tI) u7:=fX [zFj,zHa] (A:=(jl [jj 41 6602346876092618007411426320 [] [.t 5 tI],jj 56 6602346876092618007411426320 [] [],jj 86 1995436894735544384810556644423392325287446063349760 [] [.t 85 .bool],jj 77 1995436902161866760493117671048079757878355510231056 [] [.t 8 tI],jj 64 1995436902169126089961847779416217730674252809617424 [] [],jj 61 1995436902169126117654091089255088894142100436799504 [] [.t 6 tI],jj 20 1995436902169126117654097691601965010778939356992784 [] [],jj 17 1995436902169126117654097691601965082836899876427088 [] [.t 3 tI],jj 92 1995436902169126117654097691601965082836899876427088 [] []])) (fn:=Tryz.f144) (by kernel_rfl) (by kernel_rfl) (by rintro ⟨⟩ ⟨a1,⟨⟩⟩;kernel_rfl)
end Go.Ve

namespace Go.Ve
open Go Go.Proofs
set_option maxRecDepth 1000000
set_option maxHeartbeats 0
theorem zKj:OkX 72 [tI,tI,tI] (.p .bool) qM:=fX [] (A:=(jl [jj 6 357912576 [] [.t 6 .bool]])) (fn:=Tryz.f72) (by kernel_rfl) (by kernel_rfl) (by rintro ⟨⟩ ⟨a1,a2,a3,⟨⟩⟩;kernel_rfl)
noncomputable def yI:Ent:=qJ (by kernel_rfl) zKj
theorem zLt:OkX 73 [zA, .bool, .bool, .bool] (.p .bool) wT:=fX [] (A:=(jl [jj 6 6447604371278022265077760 [] [.t 8 .bool]])) (fn:=Tryz.f73) (by kernel_rfl) (by kernel_rfl) (by rintro ⟨⟩ ⟨a1,a2,a3,a4,⟨⟩⟩;kernel_rfl)
noncomputable def xT:Ent:=qJ (by kernel_rfl) zLt
theorem zI3:OkX 129 [jJ,jJ] (.p .bool) zBi:=fX [] (A:=(jl [jj 6 93824992236800 [] [.t 4 .bool]])) (fn:=Tryz.f129) (by kernel_rfl) (by kernel_rfl) (by rintro ⟨⟩ ⟨a1,a2,⟨⟩⟩;kernel_rfl)
noncomputable def zKB:Ent:=qJ (by kernel_rfl) zI3
theorem zMK:OkX 74 [(.sl jJ), .bool] (.p .bool) w4:=fX [zKB] (A:=(jl [jj 18 412646679761793424960782336 [] [.t 44 .bool],jj 9 412646679761793424966374656 [] [.t 5 tI],jj 24 412646679761793424966374656 [] []])) (fn:=Tryz.f74) (by kernel_rfl) (by kernel_rfl) (by rintro ⟨⟩ ⟨a1,a2,⟨⟩⟩;kernel_rfl)
noncomputable def zAP:Ent:=qJ (by kernel_rfl) zMK
theorem zE7:OkX 75 [zA] (.p .bool) uV:=fX [zAP,xT,yI] (A:=(jl [jj 6 5864062014784 [] [.t 21 .bool],jj 18 393529039039261310992 [] [.t 2 .bool],jj 30 1690194352699934590640005840912 [] [.t 2 .bool]])) (fn:=Tryz.f75) (by kernel_rfl) (by kernel_rfl) (by rintro ⟨⟩ ⟨a1,⟨⟩⟩;kernel_rfl)
noncomputable def zGf:Ent:=qJ (by kernel_rfl) zE7
theorem zDi:OkX 76 [zA] (.p .bool) vK:=fX [zAP,xT,yI] (A:=(jl [jj 6 93824992236864 [] [.t 23 .bool],jj 14 25185954481479782236160 [] [.t 37 .bool],jj 26 110768999648340014135445711965126672 [] [.t 2 .bool],jj 30 29037317874920433472551891183589197348880 [] [.t 2 .bool]])) (fn:=Tryz.f76) (by kernel_rfl) (by kernel_rfl) (by rintro ⟨⟩ ⟨a1,⟨⟩⟩;kernel_rfl)
noncomputable def zD6:Ent:=qJ (by kernel_rfl) zDi
theorem zDS:OkX 77 [zA] (.p .bool) wL:=fX [zAP,xT,yI] (A:=(jl [jj 6 5864062014784 [] [.t 21 .bool],jj 22 412646679760292225090584592 [] [.t 2 .bool],jj 38 7089188934306746453259739058493456400 [] [.t 2 .bool]])) (fn:=Tryz.f77) (by kernel_rfl) (by kernel_rfl) (by rintro ⟨⟩ ⟨a1,⟨⟩⟩;kernel_rfl)
noncomputable def zEM:Ent:=qJ (by kernel_rfl) zDS
theorem zGV:OkX 78 [zA] (.p .bool) x4:=fX [zAP,xT,yI] (A:=(jl [jj 6 93824992236864 [] [.t 23 .bool],jj 24 94575592174780416 [] [.t 26 .bool],jj 26 6760803201217127397857033191440 [] [.t 2 .bool],jj 36 425930601676685078902892277006336 [] [.t 52 .bool],jj 38 523091811282223396986315352575900656772893909497308774416 [] [.t 2 .bool]])) (fn:=Tryz.f78) (by kernel_rfl) (by kernel_rfl) (by rintro ⟨⟩ ⟨a1,⟨⟩⟩;kernel_rfl)
noncomputable def zIs:Ent:=qJ (by kernel_rfl) zGV
theorem zLu:OkX 32 [zA] (.p .bool) wU:=fX [zIs,zEM,zD6,zGf,zAP,xT,yI,zAO] (A:=(jl [jj 6 366503875840 [] [.t 19 .bool],jj 17 98382634693280399440 [] [.t 3 tI],jj 32 98382634693280399440 [] [],jj 42 1902996923607946508077689439978084877069189136 [] [.t 2 .bool]])) (fn:=Tryz.f32) (by kernel_rfl) (by kernel_rfl) (by rintro ⟨⟩ ⟨a1,⟨⟩⟩;kernel_rfl)
noncomputable def zMZ:Ent:=qJ (by kernel_rfl) zLu
theorem zEn:OkX 102 [zF,zF] (.p tI) vJ:=fX [] (A:=(jl [jj 6 93824992236544 [] [.t 23 .bool]])) (fn:=Tryz.f102) (by kernel_rfl) (by kernel_rfl) (by rintro ⟨⟩ ⟨a1,a2,⟨⟩⟩;kernel_rfl)
noncomputable def zMh:Ent:=qJ (by kernel_rfl) zEn
theorem zLv:OkX 45 [(.sl zA),tI] (.p .bool) zCE:=fX [zMh,zMZ] (A:=(jl [jj 18 422550200076076467165562142720 [] [.t 49 .bool],jj 9 422550200076076467165567735040 [] [.t 5 tI],jj 24 422550200076076467165567735040 [] []])) (fn:=Tryz.f45) (by kernel_rfl) (by kernel_rfl) (by rintro ⟨⟩ ⟨a1,a2,⟨⟩⟩;kernel_rfl)
noncomputable def zM0:Ent:=qJ (by kernel_rfl) zLv
theorem zF2:OkX 176 [(.sl zO),zO] (.p tI) yN:=fX [] (A:=(jl [jj 9 91625948416 [] [.t 8 tI],jj 28 91625968896 [] []])) (fn:=Tryz.f176) (by kernel_rfl) (by kernel_rfl) (by rintro ⟨⟩ ⟨a1,a2,⟨⟩⟩;kernel_rfl)
noncomputable def zG6:Ent:=qJ (by kernel_rfl) zF2
theorem zDQ:OkX 152 [(.sl zO),zO] (.p .bool) v2:=fX [zG6] (A:=fun _=>none) (fn:=Tryz.f152) (by kernel_rfl) (by kernel_rfl) (by rintro ⟨⟩ ⟨a1,a2,⟨⟩⟩;kernel_rfl)
noncomputable def zEK:Ent:=qJ (by kernel_rfl) zDQ
theorem zLn:OkX 117 [z6,tI,tI] (.p tI) zAd:=fX [zEK] (A:=(jl [jj 13 24019192286875648 [] [.t 17 tI],jj 32 24019197991129088 [] []])) (fn:=Tryz.f117) (by kernel_rfl) (by kernel_rfl) (by rintro ⟨⟩ ⟨a1,a2,a3,⟨⟩⟩;kernel_rfl)
noncomputable def zC0:Ent:=qJ (by kernel_rfl) zLn
theorem zF1:OkX 135 [(.sl tI),tI] (.p tI) kG:=fX [] (A:=(jl [jj 9 91625948416 [] [.t 8 tI],jj 28 91625968896 [] []])) (fn:=Tryz.f135) (by kernel_rfl) (by kernel_rfl) (by rintro ⟨⟩ ⟨a1,a2,⟨⟩⟩;kernel_rfl)
noncomputable def zCl:Ent:=qJ (by kernel_rfl) zF1
theorem zOp:OkX 145 [z6,tI,tI] (.p tI) zFA:=fX [zCl,zC0] (A:=fun _=>none) (fn:=Tryz.f145) (by kernel_rfl) (by kernel_rfl) (by rintro ⟨⟩ ⟨a1,a2,a3,⟨⟩⟩;kernel_rfl)
noncomputable def zQk:Ent:=qJ (by kernel_rfl) zOp
theorem zDP:OkX 87 [(.sl tI),tI] (.p .bool) vZ:=fX [zCl] (A:=fun _=>none) (fn:=Tryz.f87) (by kernel_rfl) (by kernel_rfl) (by rintro ⟨⟩ ⟨a1,a2,⟨⟩⟩;kernel_rfl)
noncomputable def zEJ:Ent:=qJ (by kernel_rfl) zDP
theorem zRk:OkX 107 [z6,tI,tI] (.p .bool) zHx:=fX [zEJ,zQk,zC0] (A:=(jl [jj 18 1501194149171200 [] [.t 6 .bool]])) (fn:=Tryz.f107) (by kernel_rfl) (by kernel_rfl) (by rintro ⟨⟩ ⟨a1,a2,a3,⟨⟩⟩;kernel_rfl)
noncomputable def zNO:Ent:=qJ (by kernel_rfl) zRk
theorem zMR:OkX 109 [tI] (.p tI) zCr:=fX [] (A:=fun _=>none) (fn:=Tryz.f109) (by kernel_rfl) (by kernel_rfl) (by rintro ⟨⟩ ⟨a1,⟨⟩⟩;kernel_rfl)
noncomputable def zIv:Ent:=qJ (by kernel_rfl) zMR
theorem zOs:OkX 108 [tI] (.p tU) zDw:=fX [zIv] (A:=fun _=>none) (fn:=Tryz.f108) (by kernel_rfl) (by kernel_rfl) (by rintro ⟨⟩ ⟨a1,⟨⟩⟩;kernel_rfl)
noncomputable def zJV:Ent:=qJ (by kernel_rfl) zOs
theorem zI5:OkX 168 [zF,tU] (.p .bool) xV:=fX [zJV] (A:=fun _=>none) (fn:=Tryz.f168) (by kernel_rfl) (by kernel_rfl) (by rintro ⟨⟩ ⟨a1,a2,⟨⟩⟩;kernel_rfl)
noncomputable def zKD:Ent:=qJ (by kernel_rfl) zI5
theorem zMN:OkX 103 [zG] (.p .bool) zDV:=fX [] (A:=(jl [jj 6 2092367245128893587945263141069222138700785148154678169600 [] [.t 95 .bool],jj 17 2246662220170186071093357669306372748400539896510929225270622683216 [] [.t 3 tI],jj 32 2246662220170186071093357669306372748400539896510929225270622683216 [] [],jj 37 2412335190197425182395175538125413489691488791064416382276985293406222680336 [] [.t 4 tI],jj 52 2412335190197425182395175538125413489691488791064416382276985293406222680336 [] [],jj 57 2590225187221970235448528471106963021175544371793061347801571462163172713442087797776 [] [.t 5 tI],jj 72 2590225187221970235448528471106963021175544371793061347801571462163172713442087797776 [] []])) (fn:=Tryz.f103) (by kernel_rfl) (by kernel_rfl) (by rintro ⟨⟩ ⟨a1,⟨⟩⟩;kernel_rfl)
noncomputable def zOO:Ent:=qJ (by kernel_rfl) zMN
theorem zLy:OkX 46 [zV] (.p .bool) zCK:=fX [zOO] (A:=(jl [jj 17 5864061993040 [] [.t 3 tI],jj 32 5864061993040 [] []])) (fn:=Tryz.f46) (by kernel_rfl) (by kernel_rfl) (by rintro ⟨⟩ ⟨a1,⟨⟩⟩;kernel_rfl)
noncomputable def zM3:Ent:=qJ (by kernel_rfl) zLy
def zC2:Nat→Option JA:=fun k=>match k with
 |84=>some ⟨184497489401772529385612327842172717039008268166646221893471402059821287234759868672175917131173661172843563441437060059660158104845032398976807920666283692562120150139178769612799511748636278282415866878160176201872937423527853931074825229289817028865471580173776186278979555862451026349435370470386779578868176354099221238174997807148290368091204552361327921521465467763204555046027307456204118567337113234081310864304329682188410055227959601689731512418582605896572426052789584762208778001498785021309361810928365592763602942101060634062780064931573442859418747069999582698364321162101164826918019197244306192189303006234838493212327877025209681605424513505280,[],[.v 5 [.o 1100 zM, .o 1101 tI], .st]⟩
 |25=>some ⟨184497489401772529385612327842172717039008268166646221893471402059821287234759868672175917131173661172843563441437060059660158104845032398976807920666283692562120150139178769612799511748636278282415866878160176201872937423527853931074825229289817028865471580173776186278979555862451026349435370470386779578868176354099221238174997807148290368091204552361327921521465467763204555046027307456204118567337113234081310864304329682188410055227959601689731512418582605896572426052789584762208778001498785021309361810928365592763602942101060634062780064931573442859418747069999582698364321162101164826918019197244306192189303006234838493212327877025209681605424513505280,[],[.t 6 tI, .v 5 [.o 1100 zM, .o 1101 tI], .st]⟩
 |28=>some ⟨184497489401772529385612327842172717039008268166646221893471402059821287234759868672175917131173661172843563441437060059660158104845032398976807920666283692562120150139178769612799511748636278282415866878160176201872937423527853931074825229289817028865471580173776186278979555862451026349435370470386779578868176354099221238174997807148290368091204552361327921521465467763204555046027307456204118567337113234081310864304329682188410055227959601689731512418582605896572426052789584762208778001498785021309361810928365592763602942101060634062780064931573442859418747069999582698364321162101164826918019197244306192189303006234838493212327877025209675600991514216448,[],[.v 5 [.o 1100 zM, .o 1101 tI], .st]⟩
 |37=>some ⟨184497489401772529385612327842172717039008268166646221893471402059821287234759868672175917131173661172843563441437060059660158104845032398976807920666283692562120150139178769612799511748636278282415866878160176201872937423527853931074825229289817028865471580173776186278979555862451026349435370470386779578868176354099221238174997807148290368091204552361327921521465467763204555046027307456204118567337113234081310864304329682188410055227959601689731512418582605896572426052789584762208778001498785021309361810928365592763602942101060634062780064931573442859418747069999582698364321162101164826918019197244306192189303006234838493212327877025209675600991514216448,[],[.t 7 tI, .v 5 [.o 1100 zM, .o 1101 tI], .st]⟩
 |40=>some ⟨184497489401772529385612327842172717039008268166646221893471402059821287234759868672175917131173661172843563441437060059660158104845032398976807920666283692562120150139178769612799511748636278282415866878160176201872937423527853931074825229289817028865471580173776186278979555862451026349435370470386779578868176354099221238174997807148290368091204552361327921521465467763204555046027307456204118567337113234081310864304329682188410055227959601689731512418582605896572426052789584762208778001498785021309361810928365592763602942101060634062780064931573442859418747069999582698364321162101164826918019197244306192189303006234838493212327877000023727030486242887680,[],[.v 5 [.o 1100 zM, .o 1101 tI], .st]⟩
 |80=>some ⟨184497489401772529385612327842172717039008268166646221893471402059821287234759868672175917131173661172843563441437060059660158104845032398976807920666283692562120150139178769612799511748636278282415866878160176201872937423527853931074825229289817028865471580173776186278979555862451026349435370470386779578868176354099221238174997807148290368091204552361327921521465467763204555046027307456204118567337113234081310864304329682188410055227959601689731512418582605896572426052789584762208778001498785021309361810928365592763602942101060634062780064931573442859418747069821583778745688924935728571583505041672838009412557657231906458756740677065373698151113771976704,[],[.v 5 [.o 1100 zM, .o 1101 tI], .st]⟩
 |70=>some ⟨150770949527755429313232131334431639559735035425831931880481358702119485440,[],[.t 123 .bool, .v 5 [.o 1100 zM, .o 1101 tI], .st]⟩
 |68=>some ⟨33477875922062297407124099488107905476223153719886495090688,[],[.t 10 tI, .v 5 [.o 1100 zM, .o 1101 tI], .st]⟩
 |61=>some ⟨33477875922062297407124099488107905476223153719886495090688,[],[.t 10 tI, .v 5 [.o 1100 zM, .o 1101 tI], .st]⟩
 |62=>some ⟨2092367245128893587945152372069573395711376497566321475584,[],[.t 95 .bool, .v 5 [.o 1100 zM, .o 1101 tI], .st]⟩
 |50=>some ⟨108166248872599386899585878196224,[],[.t 53 .bool, .v 5 [.o 1100 zM, .o 1101 tI], .st]⟩
 |92=>some ⟨737989957607090117542449311368690868156033072666584887573885608239285148939039474688703668524694644691374253765748240238640632419380129595907231682665134770248480600556715078451198046994545113129663467512640704807491749694111415724299300917159268115461886320695104745115918223449804105397741481881547118315472705416396884952699991228593161472364818209445311686085861871052818220184109229824816474269348452936325243457217318728753640220911838406758926049674330423586289704211158339048835112005995140085237447243713462371054411768404242536251120259726293772220522512954229778033961281054049025040681255249323705639452069711332539928507387154905727039987508328794112,[],[.v 5 [.o 1100 zM, .o 1101 tI], .st]⟩
 |89=>some ⟨737989957607090117542449311368690868156033072666584887573885608239285148939039474688703668524694644691374253765748240238640632419380129595907231682665134770248480600556715078451198046994545113129663467512640704807491749694111415724299300917159268115461886320695104745115918223449804105397741481881547118315472705416396884952699991228593161472364818209445311686085861871052818220184109229824816474269348452936325243457217318728753640220911838406758926049674330423586289704211158339048835112005995140085237447243713462371054411768404242536251120259726293772220522515870386078824983771043852409388662279710666054786872263881531095007792867776925237958836497535731712,[],[.t 12 tI, .v 5 [.o 1100 zM, .o 1101 tI], .st]⟩
 |104=>some ⟨737989957607090117542449311368690868156033072666584887573885608239285148939039474688703668524694644691374253765748240238640632419380129595907231682665134770248480600556715078451198046994545113129663467512640704807491749694111415724299300917159268115461886320695104745115918223449804105397741481881547118315472705416396884952699991228593161472364818209445311686085861871052818220184109229824816474269348452936325243457217318728753640220911838406758926049674330423586289704211158339048835112005995140085237447243713462371054411768404242536251120259726293772220522515870386078824983771043852409388662279710666054786872263881531095007792867776925237958836497535731712,[],[.v 5 [.o 1100 zM, .o 1101 tI], .st]⟩
 |83=>some ⟨0,[(16,0,8)],[.st]⟩
 |79=>some ⟨0,[(14848,1024,0)],[.st]⟩
 |_=>none
theorem zKq: ∀k j,zC2 k=some j→zDm j.sl=true:=by
 intro k j h
 unfold zC2 at h
 split at h<;>(cases h<;>rfl)
theorem zKn:j7 (jU zO) Tryz.prog G0 104 (qG (zJJ (zCu [zV]) (.tu [zEU,tI]) zBj)):=
 zRy (fn:=Tryz.f104) (c:=w7 Tryz.f104) (S:=(((((zQ.none (jU zO)).add 144 (jV [zV] (.p tI) u7)).add 113 (jV [tU,tI] (.p zF) vI)).add 102 (jV [zF,zF] (.p tI) vJ)).addH)) (A:=zC2) zKq (zJH (qU (qU (qU qC (by kernel_rfl) (zI8 (by kernel_rfl) zMI)) (by kernel_rfl) (zI8 (by kernel_rfl) zEm)) (by kernel_rfl) (zI8 (by kernel_rfl) zEn)) (by kernel_rfl) (by kernel_rfl)) (by kernel_rfl) (by kernel_rfl) (by rintro st0 ⟨a1,⟨⟩⟩;kernel_rfl)
theorem zLw:j7 U Tryz.prog G0 104 (qG (jV [zV] (.tu [zHA,tI]) zCF)):=
 zJQ (fun _=>rfl) (by kernel_rfl) zKn
noncomputable def zM1:Ent:=qJ (by kernel_rfl) zLw
theorem zGW:OkX 105 [(.sl tI),tI] (.p .bool) x5:=fX [] (A:=(jl [jj 26 103161669940448355883679744 [] [.t 43 .bool],jj 17 103161669940448356241507584 [] [.t 5 tI],jj 32 103161669940448356241507584 [] []])) (fn:=Tryz.f105) (by kernel_rfl) (by kernel_rfl) (by rintro ⟨⟩ ⟨a1,a2,⟨⟩⟩;kernel_rfl)
noncomputable def zIt:Ent:=qJ (by kernel_rfl) zGW
theorem zML:OkX 47 [zV,(.sl tI)] (.tu [z6,tI]) zDK:=fX [zIt,zM1] (A:=(jl [jj 27 0 [(240,3,0)] []])) (fn:=Tryz.f47) (by kernel_rfl) (by kernel_rfl) (by rintro ⟨⟩ ⟨a1,a2,⟨⟩⟩;kernel_rfl)
noncomputable def zOM:Ent:=qJ (by kernel_rfl) zML
theorem zMP:OkX 14 [zV,(.sl tI)] (.tu [z6, .bool]) zDW:=fX [zOM,zM3] (A:=(jl [jj 6 1431633920 [] [.t 15 .bool]])) (fn:=Tryz.f14) (by kernel_rfl) (by kernel_rfl) (by rintro ⟨⟩ ⟨a1,a2,⟨⟩⟩;kernel_rfl)
noncomputable def zOQ:Ent:=qJ (by kernel_rfl) zMP
end Go.Ve

namespace Go.Ve
open Go Go.Proofs
set_option maxRecDepth 1000000
set_option maxHeartbeats 0
theorem zLx:OkX 15 [z6,(.sl (.sl zA))] (.p .bool) zCJ:=fX [zM0] (A:=(jl [jj 26 24595658673320099840 [] [.t 32 .bool],jj 17 24595658764923700480 [] [.t 5 tI],jj 32 24595658764923700480 [] []])) (fn:=Tryz.f15) (by kernel_rfl) (by kernel_rfl) (by rintro ⟨⟩ ⟨a1,a2,⟨⟩⟩;kernel_rfl)
noncomputable def zM2:Ent:=qJ (by kernel_rfl) zLx
theorem zCt:OkX 106 [z6,tI,tI] (.tu [qQ, .bool]) j3:=fX [] (A:=(jl [jj 6 98382635059784253440 [] [.t 33 .bool]])) (fn:=Tryz.f106) (by kernel_rfl) (by kernel_rfl) (by rintro ⟨⟩ ⟨a1,a2,a3,⟨⟩⟩;kernel_rfl)
noncomputable def xU:Ent:=qJ (by kernel_rfl) zCt
theorem zDj:OkX 48 [z6,tI,tI] (.p .bool) jZ:=fX [zNO,xU] (A:=(jl [jj 10 6296488643824761966592 [] [.t 6 .bool]])) (fn:=Tryz.f48) (by kernel_rfl) (by kernel_rfl) (by rintro ⟨⟩ ⟨a1,a2,a3,⟨⟩⟩;kernel_rfl)
noncomputable def zAQ:Ent:=qJ (by kernel_rfl) zDj
theorem zHW:OkX 57 [z6,tI,tI] (.p (.sl zO)) zAt:=fX [zC0,zNO] (A:=(jl [jj 30 402974888897708189286400 [] [.t 39 .bool, .o 7 7 zO],jj 36 103161669916429158229753856 [] [.o 7 7 zO],jj 21 412646679760292225091387392 [] [.t 26 tI, .o 7 7 zO],jj 40 412646679761793424609263616 [] [.o 7 7 zO]])) (fn:=Tryz.f57) (by kernel_rfl) (by kernel_rfl) (by rintro ⟨⟩ ⟨a1,a2,a3,⟨⟩⟩;kernel_rfl)
noncomputable def zJl:Ent:=qJ (by kernel_rfl) zHW
theorem zDT:OkA 178 [.d wE, .pp .str] (.p .bool) xF:=fA [] (A:=fun _=>none) (fn:=Tryz.f178) (by kernel_rfl) (by kernel_rfl) (by rintro ⟨⟩ ⟨a1,a2,⟨⟩⟩;kernel_rfl)
noncomputable def zAX:Ent:=qJ (by kernel_rfl) zDT
theorem zAq:OkA 177 [.d (.sl wE), .clo 178 [(true, .str)]] (.p tI) j8:=fA [zAX] (A:=(jl [jj 9 91625948416 [] [.t 8 tI],jj 28 91625968896 [] []])) (fn:=Tryz.f177) (by kernel_rfl) (by kernel_rfl) (by rintro ⟨⟩ ⟨a1,⟨a2,⟨⟩⟩,⟨⟩⟩;kernel_rfl)
noncomputable def zAN:Ent:=qJ (by kernel_rfl) zAq
theorem zF7:OkX 153 [zG, .str] (.p tI) yS:=fX [zAN,zAX] (A:=fun _=>none) (fn:=Tryz.f153) (by kernel_rfl) (by kernel_rfl) (by rintro ⟨⟩ ⟨a1,a2,⟨⟩⟩;kernel_rfl)
noncomputable def zHb:Ent:=qJ (by kernel_rfl) zF7
theorem zLz:OkX 141 [zF,zF] (.p .bool) zBw:=fX [zKD] (A:=(jl [jj 6 1431655680 [] [.t 4 .bool]])) (fn:=Tryz.f141) (by kernel_rfl) (by kernel_rfl) (by rintro ⟨⟩ ⟨a1,a2,⟨⟩⟩;kernel_rfl)
noncomputable def zM4:Ent:=qJ (by kernel_rfl) zLz
theorem zH5:OkX 179 [zBy,zF] (.p .bool) yB:=fX [zM4] (A:=(jl [jj 6 23456248059136 [] [.t 4 .bool]])) (fn:=Tryz.f179) (by kernel_rfl) (by kernel_rfl) (by rintro ⟨⟩ ⟨a1,a2,⟨⟩⟩;kernel_rfl)
noncomputable def zJu:Ent:=qJ (by kernel_rfl) zH5
theorem zKk:OkX 154 [wE,zF] (.p tI) zBR:=fX [zJu] (A:=(jl [jj 9 366503539968 [] [.t 10 tI],jj 28 366503884032 [] []])) (fn:=Tryz.f154) (by kernel_rfl) (by kernel_rfl) (by rintro ⟨⟩ ⟨a1,a2,⟨⟩⟩;kernel_rfl)
noncomputable def zMi:Ent:=qJ (by kernel_rfl) zKk
theorem zH4:OkX 118 [zG, .str,zF] (.p .bool) yA:=fX [zMi,zHb] (A:=(jl [jj 30 6296488620369945563136 [] [.t 6 .bool]])) (fn:=Tryz.f118) (by kernel_rfl) (by kernel_rfl) (by rintro ⟨⟩ ⟨a1,a2,a3,⟨⟩⟩;kernel_rfl)
noncomputable def zJt:Ent:=qJ (by kernel_rfl) zH4
theorem zED:OkX 58 [z6,(.sl zA),tI,tI,zO] (.p (.sl zA)) uD:=fX [zJt,xU] (A:=(jl [jj 30 116149714575678678275446152163010350678016 [] [.t 68 .bool, .o 15 15 zA],jj 36 31926990434706017882465562962469771384942094750580736 [] [.o 15 15 zA],jj 21 127707961738824071529862252256078160930283623863549952 [] [.t 42 tI, .o 15 15 zA],jj 40 127707961738824071529862252262122790028356769737080832 [] [.o 15 15 zA],jj 7 0 [(98304,8128,0)] []])) (fn:=Tryz.f58) (by kernel_rfl) (by kernel_rfl) (by rintro ⟨⟩ ⟨a1,a2,a3,a4,a5,⟨⟩⟩;kernel_rfl)
noncomputable def zFl:Ent:=qJ (by kernel_rfl) zED
theorem zEE:OkX 20 [z6,(.sl (.sl zA)),tI] (.p (.sl zA)) uE:=fX [zFl,zJl,zAQ] (A:=(jl [jj 6 1466014105600 [] [.t 20 .bool],jj 46 110768997998156270361476888491196416 [] [.t 58 .bool, .o 7 7 zA],jj 52 1858395433210885158632973248939007220400128 [] [.o 7 7 zA],jj 37 7433581732843541040730968386271431573389312 [] [.t 42 tI, .o 7 7 zA],jj 56 7433581732843541047178571220320781029425152 [] [.o 7 7 zA],jj 21 29734326931374164188714290934121023293964288 [] [.t 29 tI, .o 7 7 zA],jj 60 29734326931374164188714291030196349329031168 [] [.o 7 7 zA]])) (fn:=Tryz.f20) (by kernel_rfl) (by kernel_rfl) (by rintro ⟨⟩ ⟨a1,a2,a3,⟨⟩⟩;kernel_rfl)
noncomputable def zFm:Ent:=qJ (by kernel_rfl) zEE
theorem zMM:OkX 26 [(.sl zA),zF] (.p tI) zDL:=fX [] (A:=(jl [jj 9 366503875840 [] [.t 5 tI],jj 24 366503875840 [] []])) (fn:=Tryz.f26) (by kernel_rfl) (by kernel_rfl) (by rintro ⟨⟩ ⟨a1,a2,⟨⟩⟩;kernel_rfl)
noncomputable def zON:Ent:=qJ (by kernel_rfl) zMM
def zHo:Nat→Option JA:=fun k=>match k with
 |12=>some ⟨336,[],[.t 0 (.sl tI)]⟩
 |_=>none
theorem zF3:j7 U Tryz.prog G0 83 (qG (jV [(.sl tI)] (.p (.sl tI)) yO)):=
 zRA (t:=tI) (bytes:=8)
  (zA7 (fn:=Tryz.f83) (c:=w7 Tryz.f83) (S:=zQ.none U) (A:=fun _=>none) qC (by kernel_rfl) (by kernel_rfl) (enc:=fun q=>[.tl tI (q.1::q.2)]) (fun _ _ h=>zJY h) (by rintro ⟨⟩ ⟨y,r⟩;kernel_rfl))
  (fun c=>zA7 (fn:=Tryz.f83) (c:=w7 Tryz.f83) (S:=zQ.none U) (A:=fun _=>none) qC (by kernel_rfl) (by kernel_rfl) (enc:=fun _=>[.val (.slice none 0 c)]) (fun _ _ h=>zCO h) (by rintro ⟨⟩ _;kernel_rfl))
  (fun a c=>zA7 (fn:=Tryz.f83) (c:=w7 Tryz.f83) (S:=zQ.none U) (A:=zHo) qC (by kernel_rfl) (by kernel_rfl) (enc:=fun _=>[.val (.slice (some a) 0 c)]) (fun _ _ h=>zCO h) (by rintro ⟨⟩ _;kernel_rfl))
noncomputable def zG7:Ent:=qJ (by kernel_rfl) zF3
end Go.Ve

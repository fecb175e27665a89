/-
  law17 and law20: the program's tables.
  Functions out of code, over the fast tables.
  Contracts of the functions of NvF1.
  Contracts of the functions of NvF2.
  Contracts of the functions of NvF3.
-/
import Derived.Test.YtcnlcmbchljpgaaGreatProg
import Derived.Test.YtcnlcmbchljpgaaGreatPs9
import Derived.Test.YtcnlcmbchljpgaaGreatPs6
import Derived.Test.YtcnlcmbchljpgaaGreatPs10
import Derived.Test.YtcnlcmbchljpgaaGreatPs13
set_option linter.unusedVariables false
namespace Go.Ve
open Go Go.Proofs
noncomputable abbrev LF:q8:=q8.fast Tryz.prog 330 310
def G0:Nat→Option (List V):=fun _=>none
abbrev U:=jK
abbrev j9 (f:Func):Code:=match f.body with|some c=>c|none=> .skip
theorem mixed:Tryz.prog.follows .mixedOrders=true:=by kernel_rfl
end Go.Ve

namespace Go.Ve
open Go Go.Proofs
instance:Subsingleton U.St:=inferInstanceAs (Subsingleton Unit)
theorem zVe {S:zO U} {A:Nat→Option JA} (hS:qC U Tryz.prog G0 S.toS) {f:FuncId} {fn:Func} {c:Code} (hf:LF.fn f=some fn) (hb:fn.body=some c)
  {ts:List Ty} {R:RTy} {g:ElS ts→Option R.El} (h: ∀s x,exF (Γ:=U) LF G0 S A fn c R s (v6 ts x)=g x):wG U Tryz.prog G0 f (qK (j1 ts R g)):=by
 have hl:LF=q8.of Tryz.prog:=q8.fast_eq Tryz.prog 330 310
 rw [hl] at hf h
 exact zWY mixed hS hf hb h
theorem zTh {S:zO U} {A:Nat→Option JA} (hS:qC U Tryz.prog G0 S.toS) {f:FuncId} {fn:Func} {c:Code} (hf:LF.fn f=some fn) (hb:fn.body=some c)
  {ts:List ATy} {R:RTy} {g:ElA ts→Option R.El} (h: ∀s x,exF (Γ:=U) LF G0 S A fn c R s (zTx ts x)=g x):wG U Tryz.prog G0 f (qK (zV3 ts R g)):=by
 have hl:LF=q8.of Tryz.prog:=q8.fast_eq Tryz.prog 330 310
 rw [hl] at hf h
 exact zW0 mixed hS hf hb h
theorem w9 {S:zO U} {A:Nat→Option JA} (hS:qC U Tryz.prog G0 S.toS) {f:FuncId} {fn:Func} {c:Code} (hf:LF.fn f=some fn) (hb:fn.body=some c)
  {X:Type} {dec:List V→Option X} {enc:X→List V} (hdec: ∀ds x,dec ds=some x→wF ds (enc x)) {R:RTy} {g:X→Option R.El} (h: ∀s x,exF (Γ:=U) LF G0 S A fn c R s (enc x)=g x):wG U Tryz.prog G0 f (qK (wS dec R g)):=by
 have hl:LF=q8.of Tryz.prog:=q8.fast_eq Tryz.prog 330 310
 rw [hl] at hf h
 exact zNA mixed hS hf hb hdec h
theorem vA {S:zO U} {A:Nat→Option JA} (hS:qC U Tryz.prog G0 S.toS) {f:FuncId} {fn:Func} {c:Code} (hf:LF.fn f=some fn) (hb:fn.body=some c)
  {t:Ty} {ts:List ATy} {R:RTy} (hpl:R.pl=true) (hno: ∀ty,R≠ .o ty) {g:List t.El→ElA ts→Option (List t.El×R.El)} (h: ∀s xs x,zZz (Γ:=U) LF G0 S A fn c t R s xs (zTx ts x)=g xs x):zAX U Tryz.prog G0 f t (kP ts) R g:=by
 have hl:LF=q8.of Tryz.prog:=q8.fast_eq Tryz.prog 330 310
 rw [hl] at hf h
 exact zWZ mixed hS hf hb (zFg ts) (zXm ts) hpl hno h
theorem zTf {S:zO U} {A:Nat→Option JA} (hS:qC U Tryz.prog G0 S.toS) {f:FuncId} {fn:Func} {c:Code} (hf:LF.fn f=some fn) (hb:fn.body=some c)
  {t:Ty} {p:Nat} {ts:List ATy} {R:RTy} (hpl:R.pl=true) (hno: ∀ty,R≠ .o ty) {g:t.El→ElA ts→Option (t.El×R.El)} (h: ∀s y x,zZy (Γ:=U) LF G0 S A fn c t R p s y (zTx ts x)=g y x):zSv U Tryz.prog G0 f t p (kP ts) R g:=by
 have hl:LF=q8.of Tryz.prog:=q8.fast_eq Tryz.prog 330 310
 rw [hl] at hf h
 exact zWX mixed hS hf hb (zFg ts) hpl hno h
theorem zTg {tE:Ty} {S:zO (jX tE)} {A:Nat→Option JA} (hst: ∀k j,A k=some j→zEq j.sl=true) (hS:qC (jX tE) Tryz.prog G0 S.toS) {f:FuncId} {fn:Func} {c:Code} (hf:LF.fn f=some fn) (hb:fn.body=some c)
  {ts:List Ty} {R:RTy} {g:HSt tE→ElS ts→Option (HSt tE×R.El)} (h: ∀s x,zZx (Γ:=jX tE) LF G0 S A fn c R s (v6 ts x)=g s x):wG (jX tE) Tryz.prog G0 f (qK (zLq (zD7 ts) R g)):=by
 have hl:LF=q8.of Tryz.prog:=q8.fast_eq Tryz.prog 330 310
 rw [hl] at hf h
 exact zWW hst mixed hS hf hb (k7 ts) h
structure Ent where
 ad:zO U→zO U
 ok: ∀S:zO U,qC U Tryz.prog G0 S.toS→qC U Tryz.prog G0 (ad S).toS
def qB {f:FuncId} {sp:U.St→List V→Option (zCD U.St)} (hi:zGs Tryz.prog f=true) (h:wG U Tryz.prog G0 f (qK sp)):Ent:=⟨fun S=>S.add f sp,fun _ hS=>qQ hS hi h⟩
def zZB {f:FuncId} {t:Ty} {X:Type} {dec:List V→Option X} {R:RTy} {g:List t.El→X→Option (List t.El×R.El)} (hi:zGs Tryz.prog f=true) (h:zAX U Tryz.prog G0 f t dec R g):Ent:=⟨fun S=>S.addB f (wY t dec R g),fun _ hS=>jZ hS hi h⟩
def qAv {f:FuncId} {t:Ty} {p:Nat} {X:Type} {dec:List V→Option X} {R:RTy} {g:t.El→X→Option (t.El×R.El)} (hi:zGs Tryz.prog f=true) (h:zSv U Tryz.prog G0 f t p dec R g):Ent:=⟨fun S=>S.addB f (zPJ t p dec R g),fun _ hS=>zQS hS hi h⟩
def qAw {f:FuncId} {t:Ty} {X:Type} {dec:List V→Option X} {g:List t.El→X→Option (List t.El)} (hi:zGs Tryz.prog f=true) (h:zUz U Tryz.prog G0 f t dec g):Ent:=⟨fun S=>S.addB f (zDE t dec g),fun _ hS=>zQT hS hi h⟩
def zXg:List Ent→zO U
 |[]=>zO.none U
 |e::r=>e.ad (zXg r)
theorem zMx: ∀l,qC U Tryz.prog G0 (zXg l).toS
 |[]=>zZ
 |e::r=>e.ok _ (zMx r)
abbrev OkX (f:FuncId) (ts:List Ty) (R:RTy) (g:ElS ts→Option R.El):Prop:=wG U Tryz.prog G0 f (qK (j1 ts R g))
abbrev OkA (f:FuncId) (ts:List ATy) (R:RTy) (g:ElA ts→Option R.El):Prop:=wG U Tryz.prog G0 f (qK (zV3 ts R g))
theorem fX (l:List Ent) {A:Nat→Option JA} {f:FuncId} {fn:Func} (hf:LF.fn f=some fn) (hb:fn.body=some (j9 fn))
  {ts:List Ty} {R:RTy} {g:ElS ts→Option R.El} (h: ∀s x,exF (Γ:=U) LF G0 (zXg l) A fn (j9 fn) R s (v6 ts x)=g x):OkX f ts R g:=zVe (zMx l) hf hb h
theorem fA (l:List Ent) {A:Nat→Option JA} {f:FuncId} {fn:Func} (hf:LF.fn f=some fn) (hb:fn.body=some (j9 fn))
  {ts:List ATy} {R:RTy} {g:ElA ts→Option R.El} (h: ∀s x,exF (Γ:=U) LF G0 (zXg l) A fn (j9 fn) R s (zTx ts x)=g x):OkA f ts R g:=zTh (zMx l) hf hb h
def jj (k b:Nat) (l:List (Nat×Nat×Nat)) (s:List zA1):Nat×JA:=(k,⟨b,l,s⟩)
def jl:List (Nat×JA)→Nat→Option JA
 |[],_=>none
 |(a,j)::r,k=>match Nat.beq a k with
  |true=>some j
  |false=>jl r k
end Go.Ve

namespace Go.Ve
open Go Go.Proofs
set_option maxRecDepth 1000000
set_option maxHeartbeats 0
theorem zPZ:OkX 128 [tI] (.p tU) zAQ:=fX [] (A:=(jl [jj 16 22906404928 [] [.t 3 tU],jj 13 22906492224 [] [.t 4 tI, .t 3 tU],jj 28 22906492224 [] [.t 3 tU]])) (fn:=Tryz.f128) (by kernel_rfl) (by kernel_rfl) (by rintro ⟨⟩ ⟨a1,⟨⟩⟩;kernel_rfl)
noncomputable def zGA:Ent:=qB (by kernel_rfl) zPZ
theorem zOz:OkX 71 [zF] (.p .bool) w8:=fX [zGA] (A:=(jl [jj 6 366503875920 [] [.t 2 .bool]])) (fn:=Tryz.f71) (by kernel_rfl) (by kernel_rfl) (by rintro ⟨⟩ ⟨a1,⟨⟩⟩;kernel_rfl)
noncomputable def zCN:Ent:=qB (by kernel_rfl) zOz
theorem zKE:OkX 101 [zF,tU] (.p .bool) yU:=fX [zGA] (A:=fun _=>none) (fn:=Tryz.f101) (by kernel_rfl) (by kernel_rfl) (by rintro ⟨⟩ ⟨a1,a2,⟨⟩⟩;kernel_rfl)
noncomputable def zMk:Ent:=qB (by kernel_rfl) zKE
theorem zNe:OkX 44 [zF,zF] (.p .bool) xH:=fX [zMk] (A:=(jl [jj 6 1431655680 [] [.t 4 .bool]])) (fn:=Tryz.f44) (by kernel_rfl) (by kernel_rfl) (by rintro ⟨⟩ ⟨a1,a2,⟨⟩⟩;kernel_rfl)
noncomputable def zON:Ent:=qB (by kernel_rfl) zNe
theorem zIn:OkX 64 [zD, .str] (.p tI) w7:=fX [] (A:=(jl [jj 9 5864062014720 [] [.t 5 tI],jj 24 5864062014720 [] []])) (fn:=Tryz.f64) (by kernel_rfl) (by kernel_rfl) (by rintro ⟨⟩ ⟨a1,a2,⟨⟩⟩;kernel_rfl)
noncomputable def zDP:Ent:=qB (by kernel_rfl) zIn
theorem zKC:OkX 134 [zD, .str] (.p tI) vL:=fX [] (A:=(jl [jj 9 5864062014720 [] [.t 5 tI],jj 24 5864062014720 [] []])) (fn:=Tryz.f134) (by kernel_rfl) (by kernel_rfl) (by rintro ⟨⟩ ⟨a1,a2,⟨⟩⟩;kernel_rfl)
noncomputable def zFx:Ent:=qB (by kernel_rfl) zKC
theorem zNd:OkX 248 [(.int .u8)] (.p .bool) zB8:=fX [] (A:=(jl [jj 6 5726623056 [] [.t 2 .bool]])) (fn:=Tryz.f248) (by kernel_rfl) (by kernel_rfl) (by rintro ⟨⟩ ⟨a1,⟨⟩⟩;kernel_rfl)
noncomputable def zOM:Ent:=qB (by kernel_rfl) zNd
theorem zPY:OkX 202 [.str] (.p .bool) zAP:=fX [zOM] (A:=(jl [jj 6 91625968640 [] [.t 18 .bool],jj 30 1730765619511609185490967430430720 [] [.t 55 .bool],jj 17 1730765619511609209510073817104720 [] [.t 3 tI],jj 36 1730765619511609209510073817104720 [] []])) (fn:=Tryz.f202) (by kernel_rfl) (by kernel_rfl) (by rintro ⟨⟩ ⟨a1,⟨⟩⟩;kernel_rfl)
noncomputable def zCj:Ent:=qB (by kernel_rfl) zPY
theorem zNc:OkX 203 [tI,tI,tI] (.p .bool) zX:=fX [] (A:=(jl [jj 6 357912576 [] [.t 6 .bool]])) (fn:=Tryz.f203) (by kernel_rfl) (by kernel_rfl) (by rintro ⟨⟩ ⟨a1,a2,a3,⟨⟩⟩;kernel_rfl)
noncomputable def jU:Ent:=qB (by kernel_rfl) zNc
theorem zFs:OkX 113 [tU,tI] (.p zF) wO:=fX [zGA] (A:=fun _=>none) (fn:=Tryz.f113) (by kernel_rfl) (by kernel_rfl) (by rintro ⟨⟩ ⟨a1,a2,⟨⟩⟩;kernel_rfl)
noncomputable def zNX:Ent:=qB (by kernel_rfl) zFs
theorem zKD:OkX 249 [zF,zF] (.p .bool) kW:=fX [zON] (A:=(jl [jj 6 22369536 [] [.t 4 .bool]])) (fn:=Tryz.f249) (by kernel_rfl) (by kernel_rfl) (by rintro ⟨⟩ ⟨a1,a2,⟨⟩⟩;kernel_rfl)
noncomputable def zFy:Ent:=qB (by kernel_rfl) zKD
theorem zIm:OkX 204 [(.sl z8)] (.p tI) v8:=fX [zFy,zNX,jU,zCj] (A:=(jl [jj 41 6296488550001201382416 [] [.t 5 tI],jj 56 6296488550001201382416 [] [],jj 58 27043212798572405254770141429760 [] [.t 52 .bool],jj 66 133911503688249189628496841001387004071981355583303067893760 [] [.t 98 .bool],jj 74 38597363079105398340612157981313446322593153860116637802968945187404973604864 [] [.t 127 .bool],jj 94 45567723432979415051570096605279850406945466927309786544954066201002041624518809725788842937548800 [] [.t 162 .bool],jj 85 45567723432979415091055199035204673046383172815272363122919130971985473961973845872487220144771088 [] [.t 6 tI],jj 20 45567723432979415091093796398283778444857696476941925758870220966874020816653665067156523089663760 [] [],jj 17 45567723432979415091093796398283778444857696476941925758870220966874020816653665067156524520970064 [] [.t 3 tI],jj 100 45567723432979415091093796398283778444857696476941925758870220966874020816653665067156524520970064 [] []])) (fn:=Tryz.f204) (by kernel_rfl) (by kernel_rfl) (by rintro ⟨⟩ ⟨a1,⟨⟩⟩;kernel_rfl)
noncomputable def zJ4:Ent:=qB (by kernel_rfl) zIm
theorem zEn:OkX 250 [zCo] (.p .bool) kG:=fX [zCN] (A:=(jl [jj 6 1501199875790160 [] [.t 2 .bool]])) (fn:=Tryz.f250) (by kernel_rfl) (by kernel_rfl) (by rintro ⟨⟩ ⟨a1,⟨⟩⟩;kernel_rfl)
noncomputable def zFd:Ent:=qB (by kernel_rfl) zEn
theorem zHm:OkX 205 [(.sl wR)] (.p tI) uN:=fX [zFd,zCj] (A:=(jl [jj 37 25185954569440712458512 [] [.t 4 tI],jj 52 25185954569440712458512 [] [],jj 73 7433581732836780243977355534074804751565840 [] [.t 5 tI],jj 20 7433581732843541047178572757549453477414160 [] [],jj 17 7433581732843541047178572757549453835240784 [] [.t 3 tI],jj 88 7433581732843541047178572757549453835240784 [] []])) (fn:=Tryz.f205) (by kernel_rfl) (by kernel_rfl) (by rintro ⟨⟩ ⟨a1,⟨⟩⟩;kernel_rfl)
noncomputable def zIF:Ent:=qB (by kernel_rfl) zHm
theorem zJv:OkX 206 [zD] (.p tI) xF:=fX [jU,zDP,zCj] (A:=(jl [jj 41 6447604369776822389310480 [] [.t 5 tI],jj 56 6447604369776822389310480 [] [],jj 90 124714687448262656856724350867958696886044878438400 [] [.t 83 .bool],jj 98 8986648889050213140174198643436161204497942415724039816394959749120 [] [.t 111 .bool],jj 77 8986648889050213264889005029006541827113428629237647983535760396304 [] [.t 6 tI],jj 24 8986648889050213264889005029006543557879048140846857493609577501712 [] [],jj 21 8986648889050213264889005029006543557879048140846857493701181101328 [] [.t 4 tI],jj 104 8986648889050213264889005029006543557879048140846857493701181101328 [] []])) (fn:=Tryz.f206) (by kernel_rfl) (by kernel_rfl) (by rintro ⟨⟩ ⟨a1,⟨⟩⟩;kernel_rfl)
noncomputable def zK3:Ent:=qB (by kernel_rfl) zJv
theorem zOx:OkX 279 [zL] (.p .bool) zC8:=fX [] (A:=(jl [jj 6 22906492240 [] [.t 2 .bool]])) (fn:=Tryz.f279) (by kernel_rfl) (by kernel_rfl) (by rintro ⟨⟩ ⟨a1,⟨⟩⟩;kernel_rfl)
noncomputable def zQl:Ent:=qB (by kernel_rfl) zOx
theorem zRq:OkX 280 [zL] (.p .bool) zGc:=fX [] (A:=fun _=>none) (fn:=Tryz.f280) (by kernel_rfl) (by kernel_rfl) (by rintro ⟨⟩ ⟨a1,⟨⟩⟩;kernel_rfl)
noncomputable def zTy:Ent:=qB (by kernel_rfl) zRq
theorem zJy:OkX 251 [zQV] (.p .bool) zBf:=fX [zTy,zQl,jU] (A:=(jl [jj 6 100743818301219097892160 [] [.t 38 .bool],jj 14 6923062477945693019739442674401296 [] [.t 2 .bool]])) (fn:=Tryz.f251) (by kernel_rfl) (by kernel_rfl) (by rintro ⟨⟩ ⟨a1,⟨⟩⟩;kernel_rfl)
noncomputable def zK6:Ent:=qB (by kernel_rfl) zJy
theorem zHn:OkX 207 [(.sl zKq)] (.p tI) uP:=fX [zK6,zCj] (A:=(jl [jj 37 25185954569440712458512 [] [.t 4 tI],jj 52 25185954569440712458512 [] [],jj 73 7433581732836780243977355534074804751565840 [] [.t 5 tI],jj 20 7433581732843541047178572757549453477414160 [] [],jj 17 7433581732843541047178572757549453835240784 [] [.t 3 tI],jj 88 7433581732843541047178572757549453835240784 [] []])) (fn:=Tryz.f207) (by kernel_rfl) (by kernel_rfl) (by rintro ⟨⟩ ⟨a1,⟨⟩⟩;kernel_rfl)
noncomputable def zIG:Ent:=qB (by kernel_rfl) zHn
theorem zRr:OkX 252 [zD, .str] (.p tI) zC9:=fX [] (A:=(jl [jj 9 5864062014720 [] [.t 5 tI],jj 24 5864062014720 [] []])) (fn:=Tryz.f252) (by kernel_rfl) (by kernel_rfl) (by rintro ⟨⟩ ⟨a1,a2,⟨⟩⟩;kernel_rfl)
noncomputable def zNW:Ent:=qB (by kernel_rfl) zRr
theorem zGh:OkX 208 [zD] (.p tI) kF:=fX [zNW,jU] (A:=(jl [jj 42 412646679760292225090585600 [] [.t 5 .bool],jj 50 30447950777727144122641087138733868110036599808 [] [.t 5 .bool],jj 58 37692737381938865697777012862015049227352017065451593534499925742265041920 [] [.t 5 .bool],jj 60 37692737381938865697777013349182261670986323133346537773260926430180541440 [] [.t 5 .bool],jj 70 632378593604264737584744508361900640506471740472781533529553313286966197459353600 [] [.t 134 .bool],jj 17 632379196688062848606595672794114227422658476253951667074157685461882905339889488 [] [.t 3 tI],jj 76 632379196688062848606595672794114227422658476253951667074157685461882905339889488 [] []])) (fn:=Tryz.f208) (by kernel_rfl) (by kernel_rfl) (by rintro ⟨⟩ ⟨a1,⟨⟩⟩;kernel_rfl)
noncomputable def zHw:Ent:=qB (by kernel_rfl) zGh
theorem zL1:OkX 209 [zD] (.p tI) zBe:=fX [zNW] (A:=(jl [jj 22 100743818301213371269120 [] [.t 38 .bool],jj 9 100743818301219097892688 [] [.t 3 tI],jj 28 100743818301219097892688 [] []])) (fn:=Tryz.f209) (by kernel_rfl) (by kernel_rfl) (by rintro ⟨⟩ ⟨a1,⟨⟩⟩;kernel_rfl)
noncomputable def zNV:Ent:=qB (by kernel_rfl) zL1
theorem zL2:OkX 174 [zD,tU] (.p tI) yG:=fX [] (A:=(jl [jj 18 384307168179912704 [] [.t 29 .bool],jj 9 1537228672809129216 [] [.t 5 tI],jj 24 1537228672809129216 [] []])) (fn:=Tryz.f174) (by kernel_rfl) (by kernel_rfl) (by rintro ⟨⟩ ⟨a1,a2,⟨⟩⟩;kernel_rfl)
noncomputable def zGz:Ent:=qB (by kernel_rfl) zL2
theorem zJz:OkX 172 [zD, .str] (.p tI) uQ:=fX [] (A:=(jl [jj 9 5864062014720 [] [.t 5 tI],jj 24 5864062014720 [] []])) (fn:=Tryz.f172) (by kernel_rfl) (by kernel_rfl) (by rintro ⟨⟩ ⟨a1,a2,⟨⟩⟩;kernel_rfl)
noncomputable def zK7:Ent:=qB (by kernel_rfl) zJz
theorem zL0:OkX 210 [zD] (.p tI) xW:=fX [zK7,jU,zGz,zCN] (A:=(jl [jj 40 95982967058334720 [] [.t 5 tI],jj 48 98286558267733705728 [] [.t 5 tI],jj 56 25087571940244990198784 [] [.t 5 tI],jj 58 464598858302721315423474842771536090234880 [] [.t 69 .bool],jj 88 1995436901704527259351376376153304285490059033972736 [] [],jj 102 2246662222260509988834430072107158093433561622966889387929056051200 [] [.t 110 .bool],jj 93 2246662222262551320785349088125518235372070433246631536525402193936 [] [.t 7 tI],jj 20 2246662222262553316222251257251635889469762035211714373333674907408 [] [],jj 17 2246662222262553316222251257251635889469762035211714373425295284048 [] [.t 3 tI],jj 108 2246662222262553316222251257251635889469762035211714373425295284048 [] []])) (fn:=Tryz.f210) (by kernel_rfl) (by kernel_rfl) (by rintro ⟨⟩ ⟨a1,⟨⟩⟩;kernel_rfl)
noncomputable def zNU:Ent:=qB (by kernel_rfl) zL0
theorem zEm:OkX 253 [zD,(.sl jC),tI,tI,tI] (.p tI) j2:=fX [zFx,jU] (A:=(jl [jj 30 1690200800304299863862767779840 [] [.t 50 .bool],jj 38 7433581732841850846378268451680791564386304 [] [.t 71 .bool],jj 46 7794667965516416053545271929247418555377804902400 [] [.t 81 .bool],jj 57 523091803487547997888166888180986426855020182207097470976 [] [.t 13 tI],jj 20 523091811282223396986315785267305534675196263582539972608 [] [],jj 17 523091811282223396986315785267305534675196287033065603072 [] [.t 11 tI],jj 72 523091811282223396986315785267305534675196287033065603072 [] []])) (fn:=Tryz.f253) (by kernel_rfl) (by kernel_rfl) (by rintro ⟨⟩ ⟨a1,a2,a3,a4,a5,⟨⟩⟩;kernel_rfl)
noncomputable def yJ:Ent:=qB (by kernel_rfl) zEm
theorem zJx:OkX 211 [zD] (.p tI) xG:=fX [yJ,zFy,zCN,jU] (A:=(jl [jj 14 1501199874392064 [] [.t 25 .bool],jj 54 110768999647131088315831082790420480 [] [.t 58 .bool],jj 74 8173309551284740464483728504488827824841739507723141120 [] [.t 91 .bool],jj 65 8173309551284740577800415145152905989891291396622517264 [] [.t 5 tI],jj 48 8173309551284740577911184144800037078207122479412937744 [] [],jj 45 8173309551284740577911184144801648880917306925194937616 [] [.t 4 tI],jj 80 8173309551284740577911184144801648880917306925194937616 [] []])) (fn:=Tryz.f211) (by kernel_rfl) (by kernel_rfl) (by rintro ⟨⟩ ⟨a1,⟨⟩⟩;kernel_rfl)
noncomputable def zK5:Ent:=qB (by kernel_rfl) zJx
theorem zKB:OkX 212 [zD] (.p tI) zAn:=fX [yJ,zDP,jU] (A:=(jl [jj 14 24019198012555264 [] [.t 27 .bool],jj 34 108172851219469426679694103674880 [] [.t 53 .bool]])) (fn:=Tryz.f212) (by kernel_rfl) (by kernel_rfl) (by rintro ⟨⟩ ⟨a1,⟨⟩⟩;kernel_rfl)
noncomputable def zMj:Ent:=qB (by kernel_rfl) zKB
theorem zJw:OkX 254 [zD] (.p tI) uO:=fX [zFx,jU] (A:=(jl [jj 30 24595658742039576576 [] [.t 32 .bool],jj 38 7259357160980020553860729299779442442240 [] [.t 66 .bool],jj 49 31178701589133238427365255877395379460782172406800 [] [.t 5 tI],jj 24 31178701596392595588345276431280704419303654425616 [] [],jj 21 31178701596392595588345276431280704419326555325712 [] [.t 4 tI],jj 64 31178701596392595588345276431280704419326555325712 [] []])) (fn:=Tryz.f254) (by kernel_rfl) (by kernel_rfl) (by rintro ⟨⟩ ⟨a1,⟨⟩⟩;kernel_rfl)
noncomputable def zK4:Ent:=qB (by kernel_rfl) zJw
theorem zGi:OkX 255 [tPV] (.p tI) xB:=fX [zCN] (A:=(jl [jj 37 103161669916429158228951312 [] [.t 4 tI],jj 20 103161669940446890226090256 [] [],jj 17 103161669940448356152115536 [] [.t 3 tI],jj 52 103161669940448356152115536 [] [],jj 85 1948668849746180360361501571666429475588596043792 [] [.t 6 tI],jj 68 1948668849774536791580174899052741648666549293072 [] [],jj 65 1948668849774537224245170389450289247010062078992 [] [.t 5 tI],jj 100 1948668849774537224245170389450289247010062078992 [] [],jj 126 8776015936244118375918817192586638416352703146905166652479897600 [] [.t 106 .bool],jj 145 2412335183457438515607515589458659717936581122655130276641842173130320379920 [] [.t 9 tI],jj 116 2412335192444087404649555544796380006365213496389376768509399724846544781328 [] [],jj 113 2412335192444087404657728355488439204661595267009755516997428957606549340176 [] [.t 7 tI],jj 160 2412335192444087404657728355488439204661595267009755516997428957606549340176 [] []])) (fn:=Tryz.f255) (by kernel_rfl) (by kernel_rfl) (by rintro ⟨⟩ ⟨a1,⟨⟩⟩;kernel_rfl)
noncomputable def zHx:Ent:=qB (by kernel_rfl) zGi
theorem zIl:OkX 213 [zD] (.p tI) w6:=fX [yJ,zHx,zK4,jU] (A:=(jl [jj 14 1611901092819505564876800 [] [.t 40 .bool],jj 26 1730765617899708116690659876798464 [] [.t 55 .bool]])) (fn:=Tryz.f213) (by kernel_rfl) (by kernel_rfl) (by rintro ⟨⟩ ⟨a1,⟨⟩⟩;kernel_rfl)
noncomputable def zJ3:Ent:=qB (by kernel_rfl) zIl
theorem zHo:OkX 173 [zD] (.p tI) vO:=fX [zJ3,zMj,zK5,zNU,zNV,zHw,zIG,zK3,zIF,zJ4,jU,zCj] (A:=(jl [jj 29 6760803194920734830822890144016 [] [.t 4 tI],jj 44 6760803194920734830822890144016 [] []])) (fn:=Tryz.f173) (by kernel_rfl) (by kernel_rfl) (by rintro ⟨⟩ ⟨a1,⟨⟩⟩;kernel_rfl)
noncomputable def zIH:Ent:=qB (by kernel_rfl) zHo
theorem zOy:OkX 144 [zT] (.p tI) kU:=fX [zGz,zIH] (A:=(jl [jj 41 6602346876092618007411426320 [] [.t 5 tI],jj 56 6602346876092618007411426320 [] [],jj 86 1995436894735544384810556644423392325287446063349760 [] [.t 85 .bool],jj 77 1995436902161866760493117671048079757878355510231056 [] [.t 8 tI],jj 64 1995436902169126089961847779416217730674252809617424 [] [],jj 61 1995436902169126117654091089255088894142100436799504 [] [.t 6 tI],jj 20 1995436902169126117654097691601965010778939356992784 [] [],jj 17 1995436902169126117654097691601965082836899876427088 [] [.t 3 tI],jj 92 1995436902169126117654097691601965082836899876427088 [] []])) (fn:=Tryz.f144) (by kernel_rfl) (by kernel_rfl) (by rintro ⟨⟩ ⟨a1,⟨⟩⟩;kernel_rfl)
end Go.Ve

namespace Go.Ve
open Go Go.Proofs
set_option maxRecDepth 1000000
set_option maxHeartbeats 0
theorem zL3:OkX 102 [zF,zF] (.p tI) zBg:=fX [] (A:=(jl [jj 6 93824992236544 [] [.t 23 .bool]])) (fn:=Tryz.f102) (by kernel_rfl) (by kernel_rfl) (by rintro ⟨⟩ ⟨a1,a2,⟨⟩⟩;kernel_rfl)
theorem zHi:OkX 176 [(.sl zL),zL] (.p tI) xT:=fX [] (A:=(jl [jj 9 91625948416 [] [.t 8 tI],jj 28 91625968896 [] []])) (fn:=Tryz.f176) (by kernel_rfl) (by kernel_rfl) (by rintro ⟨⟩ ⟨a1,a2,⟨⟩⟩;kernel_rfl)
noncomputable def zID:Ent:=qB (by kernel_rfl) zHi
theorem zEW:OkX 152 [(.sl zL),zL] (.p .bool) uD:=fX [zID] (A:=fun _=>none) (fn:=Tryz.f152) (by kernel_rfl) (by kernel_rfl) (by rintro ⟨⟩ ⟨a1,a2,⟨⟩⟩;kernel_rfl)
noncomputable def zFR:Ent:=qB (by kernel_rfl) zEW
theorem zM9:OkX 117 [zR,tI,tI] (.p tI) zAN:=fX [zFR] (A:=(jl [jj 13 24019192286875648 [] [.t 17 tI],jj 32 24019197991129088 [] []])) (fn:=Tryz.f117) (by kernel_rfl) (by kernel_rfl) (by rintro ⟨⟩ ⟨a1,a2,a3,⟨⟩⟩;kernel_rfl)
noncomputable def zD6:Ent:=qB (by kernel_rfl) zM9
theorem zHh:OkX 135 [(.sl tI),tI] (.p tI) uM:=fX [] (A:=(jl [jj 9 91625948416 [] [.t 8 tI],jj 28 91625968896 [] []])) (fn:=Tryz.f135) (by kernel_rfl) (by kernel_rfl) (by rintro ⟨⟩ ⟨a1,a2,⟨⟩⟩;kernel_rfl)
noncomputable def zDk:Ent:=qB (by kernel_rfl) zHh
theorem zPX:OkX 145 [zR,tI,tI] (.p tI) zGQ:=fX [zDk,zD6] (A:=fun _=>none) (fn:=Tryz.f145) (by kernel_rfl) (by kernel_rfl) (by rintro ⟨⟩ ⟨a1,a2,a3,⟨⟩⟩;kernel_rfl)
noncomputable def zRZ:Ent:=qB (by kernel_rfl) zPX
theorem zEV:OkX 87 [(.sl tI),tI] (.p .bool) vB:=fX [zDk] (A:=fun _=>none) (fn:=Tryz.f87) (by kernel_rfl) (by kernel_rfl) (by rintro ⟨⟩ ⟨a1,a2,⟨⟩⟩;kernel_rfl)
noncomputable def zBK:Ent:=qB (by kernel_rfl) zEV
theorem zSY:OkX 107 [zR,tI,tI] (.p .bool) zGP:=fX [zBK,zRZ,zD6] (A:=(jl [jj 18 1501194149171200 [] [.t 6 .bool]])) (fn:=Tryz.f107) (by kernel_rfl) (by kernel_rfl) (by rintro ⟨⟩ ⟨a1,a2,a3,⟨⟩⟩;kernel_rfl)
noncomputable def zKZ:Ent:=qB (by kernel_rfl) zSY
theorem zOH:OkX 109 [tI] (.p tI) zBZ:=fX [] (A:=fun _=>none) (fn:=Tryz.f109) (by kernel_rfl) (by kernel_rfl) (by rintro ⟨⟩ ⟨a1,⟨⟩⟩;kernel_rfl)
noncomputable def zJ9:Ent:=qB (by kernel_rfl) zOH
theorem zP0:OkX 108 [tI] (.p tU) zCY:=fX [zJ9] (A:=fun _=>none) (fn:=Tryz.f108) (by kernel_rfl) (by kernel_rfl) (by rintro ⟨⟩ ⟨a1,⟨⟩⟩;kernel_rfl)
noncomputable def zLC:Ent:=qB (by kernel_rfl) zP0
theorem zKH:OkX 168 [zF,tU] (.p .bool) wA:=fX [zLC] (A:=fun _=>none) (fn:=Tryz.f168) (by kernel_rfl) (by kernel_rfl) (by rintro ⟨⟩ ⟨a1,a2,⟨⟩⟩;kernel_rfl)
noncomputable def zFA:Ent:=qB (by kernel_rfl) zKH
theorem zL4:OkX 67 [zR,tI,tI] (.p tI) xX:=fX [] (A:=(jl [jj 21 103161669940448350515040256 [] [.t 8 tI],jj 12 103161669940448350515040256 [] [],jj 9 103161669940448356241592320 [] [.t 7 tI],jj 36 103161669940448356241592320 [] []])) (fn:=Tryz.f67) (by kernel_rfl) (by kernel_rfl) (by rintro ⟨⟩ ⟨a1,a2,a3,⟨⟩⟩;kernel_rfl)
noncomputable def zDm:Ent:=qB (by kernel_rfl) zL4
theorem zOC:OkX 126 [zR,tI,tI] (.p tI) zES:=fX [zDm] (A:=(jl [jj 22 24595657298930565120 [] [.t 32 .bool],jj 13 98382635059761975296 [] [.t 8 tI],jj 28 98382635059761975296 [] []])) (fn:=Tryz.f126) (by kernel_rfl) (by kernel_rfl) (by rintro ⟨⟩ ⟨a1,a2,a3,⟨⟩⟩;kernel_rfl)
noncomputable def zQo:Ent:=qB (by kernel_rfl) zOC
theorem zRs:OkX 66 [zR,tI,tI] (.p .bool) zJg:=fX [zQo,zDm] (A:=(jl [jj 21 6148914668330094592 [] [.t 8 tI],jj 36 6148914668330094592 [] []])) (fn:=Tryz.f66) (by kernel_rfl) (by kernel_rfl) (by rintro ⟨⟩ ⟨a1,a2,a3,⟨⟩⟩;kernel_rfl)
noncomputable def zTz:Ent:=qB (by kernel_rfl) zRs
theorem zOD:OkX 103 [zD] (.p .bool) zE4:=fX [] (A:=(jl [jj 6 2092367245128893587945263141069222138700785148154678169600 [] [.t 95 .bool],jj 17 2246662220170186071093357669306372748400539896510929225270622683216 [] [.t 3 tI],jj 32 2246662220170186071093357669306372748400539896510929225270622683216 [] [],jj 37 2412335190197425182395175538125413489691488791064416382276985293406222680336 [] [.t 4 tI],jj 52 2412335190197425182395175538125413489691488791064416382276985293406222680336 [] [],jj 57 2590225187221970235448528471106963021175544371793061347801571462163172713442087797776 [] [.t 5 tI],jj 72 2590225187221970235448528471106963021175544371793061347801571462163172713442087797776 [] []])) (fn:=Tryz.f103) (by kernel_rfl) (by kernel_rfl) (by rintro ⟨⟩ ⟨a1,⟨⟩⟩;kernel_rfl)
noncomputable def zQp:Ent:=qB (by kernel_rfl) zOD
theorem zNg:OkX 46 [zT] (.p .bool) zDL:=fX [zQp] (A:=(jl [jj 17 5864061993040 [] [.t 3 tI],jj 32 5864061993040 [] []])) (fn:=Tryz.f46) (by kernel_rfl) (by kernel_rfl) (by rintro ⟨⟩ ⟨a1,⟨⟩⟩;kernel_rfl)
noncomputable def zOP:Ent:=qB (by kernel_rfl) zNg
def zD9:Nat→Option JA:=fun k=>match k with
 |84=>some ⟨184497489401772529385612327842172717039008268166646221893471402059821287234759868672175917131173661172843563441437060059660158104845032398976807920666283692562120150139178769612799511748636278282415866878160176201872937423527853931074825229289817028865471580173776186278979555862451026349435370470386779578868176354099221238174997807148290368091204552361327921521465467763204555046027307456204118567337113234081310864304329682188410055227959601689731512418582605896572426052789584762208778001498785021309361810928365592763602942101060634062780064931573442859418747069999582698364321162101164826918019197244306192189303006234838493212327877025209681605424513505280,[],[.v 5 [.o 1100 zQ, .o 1101 tI], .st]⟩
 |25=>some ⟨184497489401772529385612327842172717039008268166646221893471402059821287234759868672175917131173661172843563441437060059660158104845032398976807920666283692562120150139178769612799511748636278282415866878160176201872937423527853931074825229289817028865471580173776186278979555862451026349435370470386779578868176354099221238174997807148290368091204552361327921521465467763204555046027307456204118567337113234081310864304329682188410055227959601689731512418582605896572426052789584762208778001498785021309361810928365592763602942101060634062780064931573442859418747069999582698364321162101164826918019197244306192189303006234838493212327877025209681605424513505280,[],[.t 6 tI, .v 5 [.o 1100 zQ, .o 1101 tI], .st]⟩
 |28=>some ⟨184497489401772529385612327842172717039008268166646221893471402059821287234759868672175917131173661172843563441437060059660158104845032398976807920666283692562120150139178769612799511748636278282415866878160176201872937423527853931074825229289817028865471580173776186278979555862451026349435370470386779578868176354099221238174997807148290368091204552361327921521465467763204555046027307456204118567337113234081310864304329682188410055227959601689731512418582605896572426052789584762208778001498785021309361810928365592763602942101060634062780064931573442859418747069999582698364321162101164826918019197244306192189303006234838493212327877025209675600991514216448,[],[.v 5 [.o 1100 zQ, .o 1101 tI], .st]⟩
 |37=>some ⟨184497489401772529385612327842172717039008268166646221893471402059821287234759868672175917131173661172843563441437060059660158104845032398976807920666283692562120150139178769612799511748636278282415866878160176201872937423527853931074825229289817028865471580173776186278979555862451026349435370470386779578868176354099221238174997807148290368091204552361327921521465467763204555046027307456204118567337113234081310864304329682188410055227959601689731512418582605896572426052789584762208778001498785021309361810928365592763602942101060634062780064931573442859418747069999582698364321162101164826918019197244306192189303006234838493212327877025209675600991514216448,[],[.t 7 tI, .v 5 [.o 1100 zQ, .o 1101 tI], .st]⟩
 |40=>some ⟨184497489401772529385612327842172717039008268166646221893471402059821287234759868672175917131173661172843563441437060059660158104845032398976807920666283692562120150139178769612799511748636278282415866878160176201872937423527853931074825229289817028865471580173776186278979555862451026349435370470386779578868176354099221238174997807148290368091204552361327921521465467763204555046027307456204118567337113234081310864304329682188410055227959601689731512418582605896572426052789584762208778001498785021309361810928365592763602942101060634062780064931573442859418747069999582698364321162101164826918019197244306192189303006234838493212327877000023727030486242887680,[],[.v 5 [.o 1100 zQ, .o 1101 tI], .st]⟩
 |80=>some ⟨184497489401772529385612327842172717039008268166646221893471402059821287234759868672175917131173661172843563441437060059660158104845032398976807920666283692562120150139178769612799511748636278282415866878160176201872937423527853931074825229289817028865471580173776186278979555862451026349435370470386779578868176354099221238174997807148290368091204552361327921521465467763204555046027307456204118567337113234081310864304329682188410055227959601689731512418582605896572426052789584762208778001498785021309361810928365592763602942101060634062780064931573442859418747069821583778745688924935728571583505041672838009412557657231906458756740677065373698151113771976704,[],[.v 5 [.o 1100 zQ, .o 1101 tI], .st]⟩
 |70=>some ⟨150770949527755429313232131334431639559735035425831931880481358702119485440,[],[.t 123 .bool, .v 5 [.o 1100 zQ, .o 1101 tI], .st]⟩
 |68=>some ⟨33477875922062297407124099488107905476223153719886495090688,[],[.t 10 tI, .v 5 [.o 1100 zQ, .o 1101 tI], .st]⟩
 |61=>some ⟨33477875922062297407124099488107905476223153719886495090688,[],[.t 10 tI, .v 5 [.o 1100 zQ, .o 1101 tI], .st]⟩
 |62=>some ⟨2092367245128893587945152372069573395711376497566321475584,[],[.t 95 .bool, .v 5 [.o 1100 zQ, .o 1101 tI], .st]⟩
 |50=>some ⟨108166248872599386899585878196224,[],[.t 53 .bool, .v 5 [.o 1100 zQ, .o 1101 tI], .st]⟩
 |92=>some ⟨737989957607090117542449311368690868156033072666584887573885608239285148939039474688703668524694644691374253765748240238640632419380129595907231682665134770248480600556715078451198046994545113129663467512640704807491749694111415724299300917159268115461886320695104745115918223449804105397741481881547118315472705416396884952699991228593161472364818209445311686085861871052818220184109229824816474269348452936325243457217318728753640220911838406758926049674330423586289704211158339048835112005995140085237447243713462371054411768404242536251120259726293772220522512954229778033961281054049025040681255249323705639452069711332539928507387154905727039987508328794112,[],[.v 5 [.o 1100 zQ, .o 1101 tI], .st]⟩
 |89=>some ⟨737989957607090117542449311368690868156033072666584887573885608239285148939039474688703668524694644691374253765748240238640632419380129595907231682665134770248480600556715078451198046994545113129663467512640704807491749694111415724299300917159268115461886320695104745115918223449804105397741481881547118315472705416396884952699991228593161472364818209445311686085861871052818220184109229824816474269348452936325243457217318728753640220911838406758926049674330423586289704211158339048835112005995140085237447243713462371054411768404242536251120259726293772220522515870386078824983771043852409388662279710666054786872263881531095007792867776925237958836497535731712,[],[.t 12 tI, .v 5 [.o 1100 zQ, .o 1101 tI], .st]⟩
 |104=>some ⟨737989957607090117542449311368690868156033072666584887573885608239285148939039474688703668524694644691374253765748240238640632419380129595907231682665134770248480600556715078451198046994545113129663467512640704807491749694111415724299300917159268115461886320695104745115918223449804105397741481881547118315472705416396884952699991228593161472364818209445311686085861871052818220184109229824816474269348452936325243457217318728753640220911838406758926049674330423586289704211158339048835112005995140085237447243713462371054411768404242536251120259726293772220522515870386078824983771043852409388662279710666054786872263881531095007792867776925237958836497535731712,[],[.v 5 [.o 1100 zQ, .o 1101 tI], .st]⟩
 |83=>some ⟨0,[(16,0,8)],[.st]⟩
 |79=>some ⟨0,[(14848,1024,0)],[.st]⟩
 |_=>none
theorem zMc: ∀k j,zD9 k=some j→zEq j.sl=true:=by
 intro k j h
 unfold zD9 at h
 split at h<;>(cases h<;>rfl)
theorem zL9:wG (jX zL) Tryz.prog G0 104 (qK (zLq (zD7 [zT]) (.tu [zF1,tI]) zB3)):=
 zTg (fn:=Tryz.f104) (c:=j9 Tryz.f104) (S:=(((((zO.none (jX zL)).add 144 (j1 [zT] (.p tI) kU)).add 113 (j1 [tU,tI] (.p zF) wO)).add 102 (j1 [zF,zF] (.p tI) zBg)).addH)) (A:=zD9) zMc (zLo (qQ (qQ (qQ zZ (by kernel_rfl) (zKM (by kernel_rfl) zOy)) (by kernel_rfl) (zKM (by kernel_rfl) zFs)) (by kernel_rfl) (zKM (by kernel_rfl) zL3)) (by kernel_rfl) (by kernel_rfl)) (by kernel_rfl) (by kernel_rfl) (by rintro st0 ⟨a1,⟨⟩⟩;kernel_rfl)
theorem zNf:wG U Tryz.prog G0 104 (qK (j1 [zT] (.tu [zI2,tI]) zDI)):=
 zLw (fun _=>rfl) (by kernel_rfl) zL9
noncomputable def zOO:Ent:=qB (by kernel_rfl) zNf
theorem zIp:OkX 105 [(.sl tI),tI] (.p .bool) zAB:=fX [] (A:=(jl [jj 26 103161669940448355883679744 [] [.t 43 .bool],jj 17 103161669940448356241507584 [] [.t 5 tI],jj 32 103161669940448356241507584 [] []])) (fn:=Tryz.f105) (by kernel_rfl) (by kernel_rfl) (by rintro ⟨⟩ ⟨a1,a2,⟨⟩⟩;kernel_rfl)
noncomputable def zJ6:Ent:=qB (by kernel_rfl) zIp
theorem zOB:OkX 47 [zT,(.sl tI)] (.tu [zR,tI]) zER:=fX [zJ6,zOO] (A:=(jl [jj 27 0 [(240,3,0)] []])) (fn:=Tryz.f47) (by kernel_rfl) (by kernel_rfl) (by rintro ⟨⟩ ⟨a1,a2,⟨⟩⟩;kernel_rfl)
noncomputable def zQn:Ent:=qB (by kernel_rfl) zOB
theorem zOF:OkX 14 [zT,(.sl tI)] (.tu [zR, .bool]) zE5:=fX [zQn,zOP] (A:=(jl [jj 6 1431633920 [] [.t 15 .bool]])) (fn:=Tryz.f14) (by kernel_rfl) (by kernel_rfl) (by rintro ⟨⟩ ⟨a1,a2,⟨⟩⟩;kernel_rfl)
noncomputable def zQr:Ent:=qB (by kernel_rfl) zOF
end Go.Ve

namespace Go.Ve
open Go Go.Proofs
set_option maxRecDepth 1000000
set_option maxHeartbeats 0
theorem zJs:OkX 57 [zR,tI,tI] (.p (.sl zL)) zA4:=fX [zD6,zKZ] (A:=(jl [jj 30 402974888897708189286400 [] [.t 39 .bool, .o 7 7 zL],jj 36 103161669916429158229753856 [] [.o 7 7 zL],jj 21 412646679760292225091387392 [] [.t 26 tI, .o 7 7 zL],jj 40 412646679761793424609263616 [] [.o 7 7 zL]])) (fn:=Tryz.f57) (by kernel_rfl) (by kernel_rfl) (by rintro ⟨⟩ ⟨a1,a2,a3,⟨⟩⟩;kernel_rfl)
noncomputable def zK0:Ent:=qB (by kernel_rfl) zJs
theorem zE2:OkA 178 [.d wR, .pp .str] (.p .bool) zAg:=fA [] (A:=fun _=>none) (fn:=Tryz.f178) (by kernel_rfl) (by kernel_rfl) (by rintro ⟨⟩ ⟨a1,a2,⟨⟩⟩;kernel_rfl)
noncomputable def zBM:Ent:=qB (by kernel_rfl) zE2
theorem zAZ:OkA 177 [.d (.sl wR), .clo 178 [(true, .str)]] (.p tI) wI:=fA [zBM] (A:=(jl [jj 9 91625948416 [] [.t 8 tI],jj 28 91625968896 [] []])) (fn:=Tryz.f177) (by kernel_rfl) (by kernel_rfl) (by rintro ⟨⟩ ⟨a1,⟨a2,⟨⟩⟩,⟨⟩⟩;kernel_rfl)
noncomputable def zBv:Ent:=qB (by kernel_rfl) zAZ
theorem zHs:OkX 153 [zD, .str] (.p tI) xZ:=fX [zBv,zBM] (A:=fun _=>none) (fn:=Tryz.f153) (by kernel_rfl) (by kernel_rfl) (by rintro ⟨⟩ ⟨a1,a2,⟨⟩⟩;kernel_rfl)
noncomputable def zIK:Ent:=qB (by kernel_rfl) zHs
theorem zNh:OkX 141 [zF,zF] (.p .bool) zAV:=fX [zFA] (A:=(jl [jj 6 1431655680 [] [.t 4 .bool]])) (fn:=Tryz.f141) (by kernel_rfl) (by kernel_rfl) (by rintro ⟨⟩ ⟨a1,a2,⟨⟩⟩;kernel_rfl)
noncomputable def zHK:Ent:=qB (by kernel_rfl) zNh
theorem zJD:OkX 179 [zCo,zF] (.p .bool) xJ:=fX [zHK] (A:=(jl [jj 6 23456248059136 [] [.t 4 .bool]])) (fn:=Tryz.f179) (by kernel_rfl) (by kernel_rfl) (by rintro ⟨⟩ ⟨a1,a2,⟨⟩⟩;kernel_rfl)
noncomputable def zLb:Ent:=qB (by kernel_rfl) zJD
theorem zL5:OkX 154 [wR,zF] (.p tI) zCH:=fX [zLb] (A:=(jl [jj 9 366503539968 [] [.t 10 tI],jj 28 366503884032 [] []])) (fn:=Tryz.f154) (by kernel_rfl) (by kernel_rfl) (by rintro ⟨⟩ ⟨a1,a2,⟨⟩⟩;kernel_rfl)
noncomputable def zNY:Ent:=qB (by kernel_rfl) zL5
theorem zJC:OkX 118 [zD, .str,zF] (.p .bool) zBj:=fX [zNY,zIK] (A:=(jl [jj 30 6296488620369945563136 [] [.t 6 .bool]])) (fn:=Tryz.f118) (by kernel_rfl) (by kernel_rfl) (by rintro ⟨⟩ ⟨a1,a2,a3,⟨⟩⟩;kernel_rfl)
noncomputable def zLa:Ent:=qB (by kernel_rfl) zJC
theorem zIo:OkX 28 [zR,tI,tI] (.p (.sl zL)) zAA:=fX [zDm,zTz] (A:=(jl [jj 28 412646678224564752157261824 [] [.o 7 7 zL],jj 25 412646679761418124997705728 [] [.t 9 tI, .o 7 7 zL],jj 40 412646679761418124997705728 [] [.o 7 7 zL]])) (fn:=Tryz.f28) (by kernel_rfl) (by kernel_rfl) (by rintro ⟨⟩ ⟨a1,a2,a3,⟨⟩⟩;kernel_rfl)
noncomputable def zJ5:Ent:=qB (by kernel_rfl) zIo
theorem zRt:OkX 59 [zR,zL] (.p z8) zJh:=fX [] (A:=fun _=>none) (fn:=Tryz.f59) (by kernel_rfl) (by kernel_rfl) (by rintro ⟨⟩ ⟨a1,a2,⟨⟩⟩;kernel_rfl)
noncomputable def zTA:Ent:=qB (by kernel_rfl) zRt
theorem zOA:OkX 69 [zD,tU,tI] (.p tI) zDa:=fX [] (A:=(jl [jj 18 1574122160955116748800 [] [.t 35 .bool],jj 9 6296488643826193616896 [] [.t 7 tI],jj 24 6296488643826193616896 [] []])) (fn:=Tryz.f69) (by kernel_rfl) (by kernel_rfl) (by rintro ⟨⟩ ⟨a1,a2,a3,⟨⟩⟩;kernel_rfl)
noncomputable def zQm:Ent:=qB (by kernel_rfl) zOA
theorem zJA:OkX 30 [zR] (.p (.sl zK)) zBh:=fX [zQm,zTA,zJ5] (A:=(jl [jj 30 98382541234792038400 [] [.t 33 .bool, .o 3 3 zK],jj 58 1995436902169126115923332072090355873326734455603200 [] [.t 85 .bool, .o 3 3 zK],jj 48 8776024305713098891493168973639202691590671230998585571327868992 [] [.o 3 3 zK],jj 45 8776024305713098891493168973639202693240854974772554394801864768 [] [.t 8 tI, .o 3 3 zK],jj 32 8776024305713098891493168973639202693241256375923598314645045312 [] [.o 3 3 zK],jj 29 8776024305713098891493168973639202693241257950045665446201217088 [] [.t 6 tI, .o 3 3 zK],jj 16 8776024305713098891493168973639202693241257950045759248286964800 [] [.o 3 3 zK],jj 13 8776024305713098891493168973639202693241257950045759271193107776 [] [.t 4 tI, .o 3 3 zK],jj 64 8776024305713098891493168973639202693241257950045759271193107776 [] [.o 3 3 zK]])) (fn:=Tryz.f30) (by kernel_rfl) (by kernel_rfl) (by rintro ⟨⟩ ⟨a1,⟨⟩⟩;kernel_rfl)
noncomputable def zK8:Ent:=qB (by kernel_rfl) zJA
theorem zDB:OkX 79 [zR,tI,tI] (.tu [z8, .bool]) qZ:=fX [] (A:=(jl [jj 6 98382635059784253440 [] [.t 33 .bool]])) (fn:=Tryz.f79) (by kernel_rfl) (by kernel_rfl) (by rintro ⟨⟩ ⟨a1,a2,a3,⟨⟩⟩;kernel_rfl)
noncomputable def k6:Ent:=qB (by kernel_rfl) zDB
theorem zDg:OkX 97 [zF,zF] (.p .bool) jI:=fX [zHK] (A:=(jl [jj 6 357913856 [] [.t 4 .bool]])) (fn:=Tryz.f97) (by kernel_rfl) (by kernel_rfl) (by rintro ⟨⟩ ⟨a1,a2,⟨⟩⟩;kernel_rfl)
noncomputable def zAd:Ent:=qB (by kernel_rfl) zDg
theorem zGk:OkX 80 [zD,zF] (.p .bool) kI:=fX [zAd] (A:=(jl [jj 18 23455890145280 [] [.t 22 .bool],jj 9 93824990851328 [] [.t 11 tI],jj 28 93824992243968 [] []])) (fn:=Tryz.f80) (by kernel_rfl) (by kernel_rfl) (by rintro ⟨⟩ ⟨a1,a2,⟨⟩⟩;kernel_rfl)
noncomputable def zHy:Ent:=qB (by kernel_rfl) zGk
def zEA:Nat→Option JA:=fun k=>match k with
 |12=>some ⟨336,[],[.t 0 (.sl zU)]⟩
 |_=>none
theorem zD1:wG U Tryz.prog G0 130 (qK (j1 [(.sl zU)] (.p (.sl zU)) vZ)):=
 zIx (t:=zU) (bytes:=48)
  (w9 (fn:=Tryz.f130) (c:=j9 Tryz.f130) (S:=zO.none U) (A:=fun _=>none) zZ (by kernel_rfl) (by kernel_rfl) (enc:=fun q=>[.tl zU (q.1::q.2)]) (fun _ _ h=>zDQ h) (by rintro ⟨⟩ ⟨y,r⟩;kernel_rfl))
  (fun c=>w9 (fn:=Tryz.f130) (c:=j9 Tryz.f130) (S:=zO.none U) (A:=fun _=>none) zZ (by kernel_rfl) (by kernel_rfl) (enc:=fun _=>[.val (.slice none 0 c)]) (fun _ _ h=>yA h) (by rintro ⟨⟩ _;kernel_rfl))
  (fun a c=>w9 (fn:=Tryz.f130) (c:=j9 Tryz.f130) (S:=zO.none U) (A:=zEA) zZ (by kernel_rfl) (by kernel_rfl) (enc:=fun _=>[.val (.slice (some a) 0 c)]) (fun _ _ h=>yA h) (by rintro ⟨⟩ _;kernel_rfl))
noncomputable def zEw:Ent:=qB (by kernel_rfl) zD1
theorem zD2:OkX 81 [zD,tU] (.tu [zU, .bool]) jS:=fX [zEw] (A:=(jl [jj 9 23456225740288 [] [.t 13 tI, .v 4 [.p zU]],jj 28 23456248088064 [] [.v 4 [.p zU]]])) (fn:=Tryz.f81) (by kernel_rfl) (by kernel_rfl) (by rintro ⟨⟩ ⟨a1,a2,⟨⟩⟩;kernel_rfl)
noncomputable def uZ:Ent:=qB (by kernel_rfl) zD2
def zIR:Nat→Option JA:=fun k=>match k with
 |12=>some ⟨336,[],[.t 0 (.sl tI)]⟩
 |_=>none
theorem zHj:wG U Tryz.prog G0 83 (qK (j1 [(.sl tI)] (.p (.sl tI)) jN)):=
 zIx (t:=tI) (bytes:=8)
  (w9 (fn:=Tryz.f83) (c:=j9 Tryz.f83) (S:=zO.none U) (A:=fun _=>none) zZ (by kernel_rfl) (by kernel_rfl) (enc:=fun q=>[.tl tI (q.1::q.2)]) (fun _ _ h=>zDQ h) (by rintro ⟨⟩ ⟨y,r⟩;kernel_rfl))
  (fun c=>w9 (fn:=Tryz.f83) (c:=j9 Tryz.f83) (S:=zO.none U) (A:=fun _=>none) zZ (by kernel_rfl) (by kernel_rfl) (enc:=fun _=>[.val (.slice none 0 c)]) (fun _ _ h=>yA h) (by rintro ⟨⟩ _;kernel_rfl))
  (fun a c=>w9 (fn:=Tryz.f83) (c:=j9 Tryz.f83) (S:=zO.none U) (A:=zIR) zZ (by kernel_rfl) (by kernel_rfl) (enc:=fun _=>[.val (.slice (some a) 0 c)]) (fun _ _ h=>yA h) (by rintro ⟨⟩ _;kernel_rfl))
noncomputable def yI:Ent:=qB (by kernel_rfl) zHj
def zIS:Nat→Option JA:=fun k=>match k with
 |12=>some ⟨336,[],[.t 0 (.sl jH)]⟩
 |_=>none
theorem zHk:wG U Tryz.prog G0 131 (qK (j1 [(.sl jH)] (.p (.sl jH)) xU)):=
 zIx (t:=jH) (bytes:=16)
  (w9 (fn:=Tryz.f131) (c:=j9 Tryz.f131) (S:=zO.none U) (A:=fun _=>none) zZ (by kernel_rfl) (by kernel_rfl) (enc:=fun q=>[.tl jH (q.1::q.2)]) (fun _ _ h=>zDQ h) (by rintro ⟨⟩ ⟨y,r⟩;kernel_rfl))
  (fun c=>w9 (fn:=Tryz.f131) (c:=j9 Tryz.f131) (S:=zO.none U) (A:=fun _=>none) zZ (by kernel_rfl) (by kernel_rfl) (enc:=fun _=>[.val (.slice none 0 c)]) (fun _ _ h=>yA h) (by rintro ⟨⟩ _;kernel_rfl))
  (fun a c=>w9 (fn:=Tryz.f131) (c:=j9 Tryz.f131) (S:=zO.none U) (A:=zIS) zZ (by kernel_rfl) (by kernel_rfl) (enc:=fun _=>[.val (.slice (some a) 0 c)]) (fun _ _ h=>yA h) (by rintro ⟨⟩ _;kernel_rfl))
noncomputable def zIE:Ent:=qB (by kernel_rfl) zHk
theorem zGn:OkA 201 [.d yL, .pp .str] (.p .bool) zBs:=fA [] (A:=fun _=>none) (fn:=Tryz.f201) (by kernel_rfl) (by kernel_rfl) (by rintro ⟨⟩ ⟨a1,a2,⟨⟩⟩;kernel_rfl)
noncomputable def zCB:Ent:=qB (by kernel_rfl) zGn
theorem zBB:OkA 200 [.d (.sl yL), .clo 201 [(true, .str)]] (.p tI) w5:=fA [zCB] (A:=(jl [jj 9 91625948416 [] [.t 8 tI],jj 28 91625968896 [] []])) (fn:=Tryz.f200) (by kernel_rfl) (by kernel_rfl) (by rintro ⟨⟩ ⟨a1,⟨a2,⟨⟩⟩,⟨⟩⟩;kernel_rfl)
noncomputable def zBX:Ent:=qB (by kernel_rfl) zBB
theorem zJE:OkX 167 [zD, .str] (.p tI) uW:=fX [zBX,zCB] (A:=fun _=>none) (fn:=Tryz.f167) (by kernel_rfl) (by kernel_rfl) (by rintro ⟨⟩ ⟨a1,a2,⟨⟩⟩;kernel_rfl)
noncomputable def zBY:Ent:=qB (by kernel_rfl) zJE
theorem zKF:OkX 166 [zD, .str,zA] (.p tI) zAq:=fX [zLa,zBY] (A:=(jl [jj 30 412646679755788625463214080 [] [.t 44 .bool],jj 21 6602346876188688935400837120 [] [.t 22 tI],jj 40 6602346876188694799104937984 [] []])) (fn:=Tryz.f166) (by kernel_rfl) (by kernel_rfl) (by rintro ⟨⟩ ⟨a1,a2,a3,⟨⟩⟩;kernel_rfl)
noncomputable def zFz:Ent:=qB (by kernel_rfl) zKF
theorem zGj:OkX 132 [zD, .str,zA] (.tu [kC, .bool]) kH:=fX [zBY,zFz] (A:=(jl [jj 23 0 [(24,6,0)] []])) (fn:=Tryz.f132) (by kernel_rfl) (by kernel_rfl) (by rintro ⟨⟩ ⟨a1,a2,a3,⟨⟩⟩;kernel_rfl)
noncomputable def zCA:Ent:=qB (by kernel_rfl) zGj
theorem zL6:OkX 82 [zD, .str,zA] (.tu [zA, .bool]) zBk:=fX [zCA,zIE,yI] (A:=(jl [jj 40 6294951415153384491008 [] [.v 5 [.p zA]],jj 48 25784120996468262866782208 [] [.v 5 [.p zA]],jj 56 105611759601534004702331537408 [] [.v 5 [.p zA]]])) (fn:=Tryz.f82) (by kernel_rfl) (by kernel_rfl) (by rintro ⟨⟩ ⟨a1,a2,a3,⟨⟩⟩;kernel_rfl)
noncomputable def zGB:Ent:=qB (by kernel_rfl) zL6
theorem zJB:OkX 84 [zD, .str,zA] (.p tI) zBi:=fX [zCA] (A:=fun _=>none) (fn:=Tryz.f84) (by kernel_rfl) (by kernel_rfl) (by rintro ⟨⟩ ⟨a1,a2,a3,⟨⟩⟩;kernel_rfl)
noncomputable def zK9:Ent:=qB (by kernel_rfl) zJB
theorem zGm:OkX 33 [zR,zK,zA] (.tu [zA, .bool]) xD:=fX [zK9,yI,zGB,uZ,zHy,k6] (A:=(jl [jj 10 402975273111051399331840 [] [.t 39 .bool],jj 22 1772303967970500325783630215859142656 [] [.t 60 .bool],jj 48 1895563341875102967030536053175110728008337408 [] [.v 5 [.p zA]],jj 97 103306820458156294656094485043318397790635090902388946122367707859777845371548719137571334688294830173338045864258315365141449000983439330570722177320589644328128484780111578894057787027214873304103335256792309343028840886044961322246476108298013154969353085650378313636073913237440168557404030730338649054415667327346451647959874702629371426920550153268168687275985196999172625645221308629576524627973939548823809852279076982073490062444913175105919980287343435086195103354082877569179339345906014093643802654768824784598425433370375894370875326609869190966074923449127369128351652870267768452471452849970927815399626776427044480897028208553957599361475910156051730904598780369929893044647575859313341023466256213064678367516543731361522401958183831988215660675072 [] [.t 118 tI, .v 13 [.p tU, .p tI, .p tI, .p tI, .p tI, .p tI, .p tI, .p tI, .p tI, .o 1269 tI, .p tU, .p tU, .p (.sl jH), .p .bool]],jj 108 103306820458156294656094485043318397790635090902388946122367707859777845371548719137571334688294830173338045864258315365141449000983439330570722177320589644328128484780111578894057787027214873304103335256792309343028840886044961322246476108298013154969353085650378313636073913237440168557404030730338649054415667327346451647959874702629371426920550153268168687275985196999172625645221308629576524627973939548823809852279076982073490062444913175105919980287343435086195103354082877569179339345906014093643802654768824784598425433370375894370875326609869190966074923449127369128351652870267768452471452849970927815399626776427044480897028208553957599361475910156051730904598780369929893044647575886920326410628511362803701816624645541165958290639730052638312555872256 [] [.v 13 [.p tU, .p tI, .p tI, .p tI, .p tI, .p tI, .p tI, .p tI, .p tI, .o 1269 tI, .p tU, .p tU, .p (.sl jH), .p .bool]]])) (fn:=Tryz.f33) (by kernel_rfl) (by kernel_rfl) (by rintro ⟨⟩ ⟨a1,a2,a3,⟨⟩⟩;kernel_rfl)
noncomputable def zHA:Ent:=qB (by kernel_rfl) zGm
theorem zGl:OkX 36 [zR,zK,zA] (.tu [zA, .bool]) xC:=fX [yI,zGB,uZ,zBK,k6] (A:=(jl [jj 10 100743818277762849832960 [] [.t 38 .bool],jj 64 137117010307786654605228984160548265193339852328872370033917952 [] [.v 13 [.p zA]],jj 63 0 [(112,7,0)] []])) (fn:=Tryz.f36) (by kernel_rfl) (by kernel_rfl) (by rintro ⟨⟩ ⟨a1,a2,a3,⟨⟩⟩;kernel_rfl)
noncomputable def zHz:Ent:=qB (by kernel_rfl) zGl
theorem zHp:OkX 127 [zD,tU,tI] (.p .bool) uT:=fX [uZ] (A:=(jl [jj 10 5863704104960 [] [.t 6 .bool]])) (fn:=Tryz.f127) (by kernel_rfl) (by kernel_rfl) (by rintro ⟨⟩ ⟨a1,a2,a3,⟨⟩⟩;kernel_rfl)
noncomputable def zII:Ent:=qB (by kernel_rfl) zHp
theorem zDf:OkX 68 [zR,tI,tI] (.p (.sl zK)) j3:=fX [zII,zK0,k6] (A:=(jl [jj 50 487167212441862002073515056408222597138270388224 [] [.t 79 .bool, .o 10 10 zK],jj 64 8369468980515574351781052564276886942902047773129773678592 [] [.o 10 10 zK],jj 29 33477875922062297407124210257107554118468744069272380112896 [] [.t 39 tI, .o 10 10 zK],jj 68 33477875922062297407124210257107554219114179735431693729792 [] [.o 10 10 zK]])) (fn:=Tryz.f68) (by kernel_rfl) (by kernel_rfl) (by rintro ⟨⟩ ⟨a1,a2,a3,⟨⟩⟩;kernel_rfl)
noncomputable def zAc:Ent:=qB (by kernel_rfl) zDf
theorem zBq:OkX 29 [zR] (.p (.sl zK)) vC:=fX [zAc] (A:=(jl [jj 25 96076700424605760 [] [.t 19 tI, .o 3 3 zK],jj 40 96076792028208448 [] [.o 3 3 zK],jj 13 384307168200891712 [] [.t 11 tI, .o 3 3 zK],jj 44 384307168202284352 [] [.o 3 3 zK]])) (fn:=Tryz.f29) (by kernel_rfl) (by kernel_rfl) (by rintro ⟨⟩ ⟨a1,⟨⟩⟩;kernel_rfl)
noncomputable def zFT:Ent:=qB (by kernel_rfl) zBq
end Go.Ve

/-
  law17 and law20: the program's tables.
  Functions out of code, over the fast tables.
  Contracts of the functions of NvF1.
  Contracts of the functions of NvF2.
  Contracts of the functions of NvF3.
-/
import Derived.Test.YtcnlcmbchljpgaaGreatProg
import Derived.Test.YtcnlcmbchljpgaaGreatPc9
import Derived.Test.YtcnlcmbchljpgaaGreatPc6
import Derived.Test.YtcnlcmbchljpgaaGreatPc10
import Derived.Test.YtcnlcmbchljpgaaGreatPc13
import Derived.Test.YtcnlcmbchljpgaaGreatPc11
set_option linter.unusedVariables false
namespace Go.Ve
open Go Go.Proofs
noncomputable abbrev LF:jC:=jC.fast Tryz.prog 330 310
def G0:Nat→Option (List V):=fun _=>none
abbrev U:=jO
abbrev wI (f:Func):Code:=match f.body with|some c=>c|none=> .skip
theorem mixed:Tryz.prog.follows .mixedOrders=true:=by kernel_rfl
end Go.Ve

namespace Go.Ve
open Go Go.Proofs
instance:Subsingleton U.St:=inferInstanceAs (Subsingleton Unit)
theorem zWQ {S:zN U} {A:Nat→Option JA} (hS:qF U Tryz.prog G0 S.toS) {f:FuncId} {fn:Func} {c:Code} (hf:LF.fn f=some fn) (hb:fn.body=some c)
  {ts:List Ty} {R:RTy} {g:ElS ts→Option R.El} (h: ∀s x,exF (Γ:=U) LF G0 S A fn c R s (kB ts x)=g x):wV U Tryz.prog G0 f (qP (wB ts R g)):=by
 have hl:LF=jC.of Tryz.prog:=jC.fast_eq Tryz.prog 330 310
 rw [hl] at hf h
 exact zYy mixed hS hf hb h
theorem zUY {S:zN U} {A:Nat→Option JA} (hS:qF U Tryz.prog G0 S.toS) {f:FuncId} {fn:Func} {c:Code} (hf:LF.fn f=some fn) (hb:fn.body=some c)
  {ts:List ATy} {R:RTy} {g:ElA ts→Option R.El} (h: ∀s x,exF (Γ:=U) LF G0 S A fn c R s (zVe ts x)=g x):wV U Tryz.prog G0 f (qP (zXH ts R g)):=by
 have hl:LF=jC.of Tryz.prog:=jC.fast_eq Tryz.prog 330 310
 rw [hl] at hf h
 exact zYA mixed hS hf hb h
theorem vF {S:zN U} {A:Nat→Option JA} (hS:qF U Tryz.prog G0 S.toS) {f:FuncId} {fn:Func} {c:Code} (hf:LF.fn f=some fn) (hb:fn.body=some c)
  {X:Type} {dec:List V→Option X} {enc:X→List V} (hdec: ∀ds x,dec ds=some x→wT ds (enc x)) {R:RTy} {g:X→Option R.El} (h: ∀s x,exF (Γ:=U) LF G0 S A fn c R s (enc x)=g x):wV U Tryz.prog G0 f (qP (w8 dec R g)):=by
 have hl:LF=jC.of Tryz.prog:=jC.fast_eq Tryz.prog 330 310
 rw [hl] at hf h
 exact zO3 mixed hS hf hb hdec h
theorem vG {S:zN U} {A:Nat→Option JA} (hS:qF U Tryz.prog G0 S.toS) {f:FuncId} {fn:Func} {c:Code} (hf:LF.fn f=some fn) (hb:fn.body=some c)
  {t:Ty} {ts:List ATy} {R:RTy} (hpl:R.pl=true) (hno: ∀ty,R≠ .o ty) {g:List t.El→ElA ts→Option (List t.El×R.El)} (h: ∀s xs x,qA4 (Γ:=U) LF G0 S A fn c t R s xs (zVe ts x)=g xs x):zBn U Tryz.prog G0 f t (kY ts) R g:=by
 have hl:LF=jC.of Tryz.prog:=jC.fast_eq Tryz.prog 330 310
 rw [hl] at hf h
 exact zYz mixed hS hf hb (zF6 ts) (zYX ts) hpl hno h
theorem zUW {S:zN U} {A:Nat→Option JA} (hS:qF U Tryz.prog G0 S.toS) {f:FuncId} {fn:Func} {c:Code} (hf:LF.fn f=some fn) (hb:fn.body=some c)
  {t:Ty} {p:Nat} {ts:List ATy} {R:RTy} (hpl:R.pl=true) (hno: ∀ty,R≠ .o ty) {g:t.El→ElA ts→Option (t.El×R.El)} (h: ∀s y x,qA3 (Γ:=U) LF G0 S A fn c t R p s y (zVe ts x)=g y x):zUf U Tryz.prog G0 f t p (kY ts) R g:=by
 have hl:LF=jC.of Tryz.prog:=jC.fast_eq Tryz.prog 330 310
 rw [hl] at hf h
 exact zYx mixed hS hf hb (zF6 ts) hpl hno h
theorem zUX {tE:Ty} {S:zN (j7 tE)} {A:Nat→Option JA} (hst: ∀k j,A k=some j→zE9 j.sl=true) (hS:qF (j7 tE) Tryz.prog G0 S.toS) {f:FuncId} {fn:Func} {c:Code} (hf:LF.fn f=some fn) (hb:fn.body=some c)
  {ts:List Ty} {R:RTy} {g:HSt tE→ElS ts→Option (HSt tE×R.El)} (h: ∀s x,qA2 (Γ:=j7 tE) LF G0 S A fn c R s (kB ts x)=g s x):wV (j7 tE) Tryz.prog G0 f (qP (zMF (zEL ts) R g)):=by
 have hl:LF=jC.of Tryz.prog:=jC.fast_eq Tryz.prog 330 310
 rw [hl] at hf h
 exact zYw hst mixed hS hf hb (uI ts) h
structure Ent where
 ad:zN U→zN U
 ok: ∀S:zN U,qF U Tryz.prog G0 S.toS→qF U Tryz.prog G0 (ad S).toS
def z2 {f:FuncId} {sp:U.St→List V→Option (zC8 U.St)} (hi:zHl Tryz.prog f=true) (h:wV U Tryz.prog G0 f (qP sp)):Ent:=⟨fun S=>S.add f sp,fun _ hS=>qV hS hi h⟩
def qA6 {f:FuncId} {t:Ty} {X:Type} {dec:List V→Option X} {R:RTy} {g:List t.El→X→Option (List t.El×R.El)} (hi:zHl Tryz.prog f=true) (h:zBn U Tryz.prog G0 f t dec R g):Ent:=⟨fun S=>S.addB f (vA t dec R g),fun _ hS=>wA hS hi h⟩
def qB0 {f:FuncId} {t:Ty} {p:Nat} {X:Type} {dec:List V→Option X} {R:RTy} {g:t.El→X→Option (t.El×R.El)} (hi:zHl Tryz.prog f=true) (h:zUf U Tryz.prog G0 f t p dec R g):Ent:=⟨fun S=>S.addB f (zRp t p dec R g),fun _ hS=>zSB hS hi h⟩
def qB1 {f:FuncId} {t:Ty} {X:Type} {dec:List V→Option X} {g:List t.El→X→Option (List t.El)} (hi:zHl Tryz.prog f=true) (h:zWf U Tryz.prog G0 f t dec g):Ent:=⟨fun S=>S.addB f (zEg t dec g),fun _ hS=>zSC hS hi h⟩
def zYR:List Ent→zN U
 |[]=>zN.none U
 |e::r=>e.ad (zYR r)
theorem zNS: ∀l,qF U Tryz.prog G0 (zYR l).toS
 |[]=>z7
 |e::r=>e.ok _ (zNS r)
abbrev OkX (f:FuncId) (ts:List Ty) (R:RTy) (g:ElS ts→Option R.El):Prop:=wV U Tryz.prog G0 f (qP (wB ts R g))
abbrev OkA (f:FuncId) (ts:List ATy) (R:RTy) (g:ElA ts→Option R.El):Prop:=wV U Tryz.prog G0 f (qP (zXH ts R g))
theorem fX (l:List Ent) {A:Nat→Option JA} {f:FuncId} {fn:Func} (hf:LF.fn f=some fn) (hb:fn.body=some (wI fn))
  {ts:List Ty} {R:RTy} {g:ElS ts→Option R.El} (h: ∀s x,exF (Γ:=U) LF G0 (zYR l) A fn (wI fn) R s (kB ts x)=g x):OkX f ts R g:=zWQ (zNS l) hf hb h
theorem fA (l:List Ent) {A:Nat→Option JA} {f:FuncId} {fn:Func} (hf:LF.fn f=some fn) (hb:fn.body=some (wI fn))
  {ts:List ATy} {R:RTy} {g:ElA ts→Option R.El} (h: ∀s x,exF (Γ:=U) LF G0 (zYR l) A fn (wI fn) R s (zVe ts x)=g x):OkA f ts R g:=zUY (zNS l) hf hb h
def jj (k b:Nat) (l:List (Nat×Nat×Nat)) (s:List zBr):Nat×JA:=(k,⟨b,l,s⟩)
def jl:List (Nat×JA)→Nat→Option JA
 |[],_=>none
 |(a,j)::r,k=>match Nat.beq a k with
  |true=>some j
  |false=>jl r k
end Go.Ve

namespace Go.Ve
open Go Go.Proofs
set_option maxRecDepth 1000000
set_option maxHeartbeats 0
theorem zRF:OkX 128 [tI] (.p tU) zBh:=fX [] (A:=(jl [jj 16 22906404928 [] [.t 3 tU],jj 13 22906492224 [] [.t 4 tI, .t 3 tU],jj 28 22906492224 [] [.t 3 tU]])) (fn:=Tryz.f128) (by kernel_rfl) (by kernel_rfl) (by rintro ⟨⟩ ⟨a1,⟨⟩⟩;kernel_rfl)
noncomputable def zHA:Ent:=z2 (by kernel_rfl) zRF
theorem zP3:OkX 71 [zG] (.p .bool) wY:=fX [zHA] (A:=(jl [jj 6 366503875920 [] [.t 2 .bool]])) (fn:=Tryz.f71) (by kernel_rfl) (by kernel_rfl) (by rintro ⟨⟩ ⟨a1,⟨⟩⟩;kernel_rfl)
noncomputable def zBW:Ent:=z2 (by kernel_rfl) zP3
theorem zLQ:OkX 101 [zG,tU] (.p .bool) uC:=fX [zHA] (A:=fun _=>none) (fn:=Tryz.f101) (by kernel_rfl) (by kernel_rfl) (by rintro ⟨⟩ ⟨a1,a2,⟨⟩⟩;kernel_rfl)
noncomputable def zGm:Ent:=z2 (by kernel_rfl) zLQ
theorem zOB:OkX 44 [zG,zG] (.p .bool) vQ:=fX [zGm] (A:=(jl [jj 6 1431655680 [] [.t 4 .bool]])) (fn:=Tryz.f44) (by kernel_rfl) (by kernel_rfl) (by rintro ⟨⟩ ⟨a1,a2,⟨⟩⟩;kernel_rfl)
noncomputable def zEK:Ent:=z2 (by kernel_rfl) zOB
theorem zJv:OkX 64 [zD, .str] (.p tI) jS:=fX [] (A:=(jl [jj 9 5864062014720 [] [.t 5 tI],jj 24 5864062014720 [] []])) (fn:=Tryz.f64) (by kernel_rfl) (by kernel_rfl) (by rintro ⟨⟩ ⟨a1,a2,⟨⟩⟩;kernel_rfl)
noncomputable def zBV:Ent:=z2 (by kernel_rfl) zJv
theorem zLO:OkX 134 [zD, .str] (.p tI) jR:=fX [] (A:=(jl [jj 9 5864062014720 [] [.t 5 tI],jj 24 5864062014720 [] []])) (fn:=Tryz.f134) (by kernel_rfl) (by kernel_rfl) (by rintro ⟨⟩ ⟨a1,a2,⟨⟩⟩;kernel_rfl)
noncomputable def zA3:Ent:=z2 (by kernel_rfl) zLO
theorem zOA:OkX 248 [(.int .u8)] (.p .bool) zCB:=fX [] (A:=(jl [jj 6 5726623056 [] [.t 2 .bool]])) (fn:=Tryz.f248) (by kernel_rfl) (by kernel_rfl) (by rintro ⟨⟩ ⟨a1,⟨⟩⟩;kernel_rfl)
noncomputable def zQk:Ent:=z2 (by kernel_rfl) zOA
theorem zRE:OkX 202 [.str] (.p .bool) zBg:=fX [zQk] (A:=(jl [jj 6 91625968640 [] [.t 18 .bool],jj 30 1730765619511609185490967430430720 [] [.t 55 .bool],jj 17 1730765619511609209510073817104720 [] [.t 3 tI],jj 36 1730765619511609209510073817104720 [] []])) (fn:=Tryz.f202) (by kernel_rfl) (by kernel_rfl) (by rintro ⟨⟩ ⟨a1,⟨⟩⟩;kernel_rfl)
noncomputable def zCL:Ent:=z2 (by kernel_rfl) zRE
theorem zOy:OkX 203 [tI,tI,tI] (.p .bool) zV:=fX [] (A:=(jl [jj 6 357912576 [] [.t 6 .bool]])) (fn:=Tryz.f203) (by kernel_rfl) (by kernel_rfl) (by rintro ⟨⟩ ⟨a1,a2,a3,⟨⟩⟩;kernel_rfl)
noncomputable def j2:Ent:=z2 (by kernel_rfl) zOy
theorem zGg:OkX 113 [tU,tI] (.p zG) wO:=fX [zHA] (A:=fun _=>none) (fn:=Tryz.f113) (by kernel_rfl) (by kernel_rfl) (by rintro ⟨⟩ ⟨a1,a2,⟨⟩⟩;kernel_rfl)
noncomputable def zHz:Ent:=z2 (by kernel_rfl) zGg
theorem zLP:OkX 249 [zG,zG] (.p .bool) uB:=fX [zEK] (A:=(jl [jj 6 22369536 [] [.t 4 .bool]])) (fn:=Tryz.f249) (by kernel_rfl) (by kernel_rfl) (by rintro ⟨⟩ ⟨a1,a2,⟨⟩⟩;kernel_rfl)
noncomputable def zGl:Ent:=z2 (by kernel_rfl) zLP
theorem zJu:OkX 204 [(.sl qC)] (.p tI) kE:=fX [zGl,zHz,j2,zCL] (A:=(jl [jj 41 6296488550001201382416 [] [.t 5 tI],jj 56 6296488550001201382416 [] [],jj 58 27043212798572405254770141429760 [] [.t 52 .bool],jj 66 133911503688249189628496841001387004071981355583303067893760 [] [.t 98 .bool],jj 74 38597363079105398340612157981313446322593153860116637802968945187404973604864 [] [.t 127 .bool],jj 94 45567723432979415051570096605279850406945466927309786544954066201002041624518809725788842937548800 [] [.t 162 .bool],jj 85 45567723432979415091055199035204673046383172815272363122919130971985473961973845872487220144771088 [] [.t 6 tI],jj 20 45567723432979415091093796398283778444857696476941925758870220966874020816653665067156523089663760 [] [],jj 17 45567723432979415091093796398283778444857696476941925758870220966874020816653665067156524520970064 [] [.t 3 tI],jj 100 45567723432979415091093796398283778444857696476941925758870220966874020816653665067156524520970064 [] []])) (fn:=Tryz.f204) (by kernel_rfl) (by kernel_rfl) (by rintro ⟨⟩ ⟨a1,⟨⟩⟩;kernel_rfl)
noncomputable def zLc:Ent:=z2 (by kernel_rfl) zJu
theorem zE5:OkX 250 [xK] (.p .bool) kK:=fX [zBW] (A:=(jl [jj 6 1501199875790160 [] [.t 2 .bool]])) (fn:=Tryz.f250) (by kernel_rfl) (by kernel_rfl) (by rintro ⟨⟩ ⟨a1,⟨⟩⟩;kernel_rfl)
noncomputable def zF2:Ent:=z2 (by kernel_rfl) zE5
theorem zIr:OkX 205 [(.sl jV)] (.p tI) u5:=fX [zF2,zCL] (A:=(jl [jj 37 25185954569440712458512 [] [.t 4 tI],jj 52 25185954569440712458512 [] [],jj 73 7433581732836780243977355534074804751565840 [] [.t 5 tI],jj 20 7433581732843541047178572757549453477414160 [] [],jj 17 7433581732843541047178572757549453835240784 [] [.t 3 tI],jj 88 7433581732843541047178572757549453835240784 [] []])) (fn:=Tryz.f205) (by kernel_rfl) (by kernel_rfl) (by rintro ⟨⟩ ⟨a1,⟨⟩⟩;kernel_rfl)
noncomputable def zJP:Ent:=z2 (by kernel_rfl) zIr
theorem zKF:OkX 206 [zD] (.p tI) xZ:=fX [j2,zBV,zCL] (A:=(jl [jj 41 6447604369776822389310480 [] [.t 5 tI],jj 56 6447604369776822389310480 [] [],jj 90 124714687448262656856724350867958696886044878438400 [] [.t 83 .bool],jj 98 8986648889050213140174198643436161204497942415724039816394959749120 [] [.t 111 .bool],jj 77 8986648889050213264889005029006541827113428629237647983535760396304 [] [.t 6 tI],jj 24 8986648889050213264889005029006543557879048140846857493609577501712 [] [],jj 21 8986648889050213264889005029006543557879048140846857493701181101328 [] [.t 4 tI],jj 104 8986648889050213264889005029006543557879048140846857493701181101328 [] []])) (fn:=Tryz.f206) (by kernel_rfl) (by kernel_rfl) (by rintro ⟨⟩ ⟨a1,⟨⟩⟩;kernel_rfl)
noncomputable def zMg:Ent:=z2 (by kernel_rfl) zKF
theorem zP1:OkX 279 [zQ] (.p .bool) zDF:=fX [] (A:=(jl [jj 6 22906492240 [] [.t 2 .bool]])) (fn:=Tryz.f279) (by kernel_rfl) (by kernel_rfl) (by rintro ⟨⟩ ⟨a1,⟨⟩⟩;kernel_rfl)
noncomputable def zR4:Ent:=z2 (by kernel_rfl) zP1
theorem zS4:OkX 280 [zQ] (.p .bool) zG4:=fX [] (A:=fun _=>none) (fn:=Tryz.f280) (by kernel_rfl) (by kernel_rfl) (by rintro ⟨⟩ ⟨a1,⟨⟩⟩;kernel_rfl)
noncomputable def zVf:Ent:=z2 (by kernel_rfl) zS4
theorem zKI:OkX 251 [zSE] (.p .bool) zBE:=fX [zVf,zR4,j2] (A:=(jl [jj 6 100743818301219097892160 [] [.t 38 .bool],jj 14 6923062477945693019739442674401296 [] [.t 2 .bool]])) (fn:=Tryz.f251) (by kernel_rfl) (by kernel_rfl) (by rintro ⟨⟩ ⟨a1,⟨⟩⟩;kernel_rfl)
noncomputable def zMj:Ent:=z2 (by kernel_rfl) zKI
theorem zIs:OkX 207 [(.sl zLA)] (.p tI) u7:=fX [zMj,zCL] (A:=(jl [jj 37 25185954569440712458512 [] [.t 4 tI],jj 52 25185954569440712458512 [] [],jj 73 7433581732836780243977355534074804751565840 [] [.t 5 tI],jj 20 7433581732843541047178572757549453477414160 [] [],jj 17 7433581732843541047178572757549453835240784 [] [.t 3 tI],jj 88 7433581732843541047178572757549453835240784 [] []])) (fn:=Tryz.f207) (by kernel_rfl) (by kernel_rfl) (by rintro ⟨⟩ ⟨a1,⟨⟩⟩;kernel_rfl)
noncomputable def zJQ:Ent:=z2 (by kernel_rfl) zIs
theorem zS5:OkX 252 [zD, .str] (.p tI) zDG:=fX [] (A:=(jl [jj 9 5864062014720 [] [.t 5 tI],jj 24 5864062014720 [] []])) (fn:=Tryz.f252) (by kernel_rfl) (by kernel_rfl) (by rintro ⟨⟩ ⟨a1,a2,⟨⟩⟩;kernel_rfl)
noncomputable def zPn:Ent:=z2 (by kernel_rfl) zS5
theorem zG9:OkX 208 [zD] (.p tI) kJ:=fX [zPn,j2] (A:=(jl [jj 42 412646679760292225090585600 [] [.t 5 .bool],jj 50 30447950777727144122641087138733868110036599808 [] [.t 5 .bool],jj 58 37692737381938865697777012862015049227352017065451593534499925742265041920 [] [.t 5 .bool],jj 60 37692737381938865697777013349182261670986323133346537773260926430180541440 [] [.t 5 .bool],jj 70 632378593604264737584744508361900640506471740472781533529553313286966197459353600 [] [.t 134 .bool],jj 17 632379196688062848606595672794114227422658476253951667074157685461882905339889488 [] [.t 3 tI],jj 76 632379196688062848606595672794114227422658476253951667074157685461882905339889488 [] []])) (fn:=Tryz.f208) (by kernel_rfl) (by kernel_rfl) (by rintro ⟨⟩ ⟨a1,⟨⟩⟩;kernel_rfl)
noncomputable def zIC:Ent:=z2 (by kernel_rfl) zG9
theorem zNe:OkX 209 [zD] (.p tI) zBD:=fX [zPn] (A:=(jl [jj 22 100743818301213371269120 [] [.t 38 .bool],jj 9 100743818301219097892688 [] [.t 3 tI],jj 28 100743818301219097892688 [] []])) (fn:=Tryz.f209) (by kernel_rfl) (by kernel_rfl) (by rintro ⟨⟩ ⟨a1,⟨⟩⟩;kernel_rfl)
noncomputable def zPm:Ent:=z2 (by kernel_rfl) zNe
theorem zNf:OkX 174 [zD,tU] (.p tI) yV:=fX [] (A:=(jl [jj 18 384307168179912704 [] [.t 29 .bool],jj 9 1537228672809129216 [] [.t 5 tI],jj 24 1537228672809129216 [] []])) (fn:=Tryz.f174) (by kernel_rfl) (by kernel_rfl) (by rintro ⟨⟩ ⟨a1,a2,⟨⟩⟩;kernel_rfl)
noncomputable def zHy:Ent:=z2 (by kernel_rfl) zNf
theorem zKJ:OkX 172 [zD, .str] (.p tI) v6:=fX [] (A:=(jl [jj 9 5864062014720 [] [.t 5 tI],jj 24 5864062014720 [] []])) (fn:=Tryz.f172) (by kernel_rfl) (by kernel_rfl) (by rintro ⟨⟩ ⟨a1,a2,⟨⟩⟩;kernel_rfl)
noncomputable def zFg:Ent:=z2 (by kernel_rfl) zKJ
theorem zNd:OkX 210 [zD] (.p tI) zAn:=fX [zFg,j2,zHy,zBW] (A:=(jl [jj 40 95982967058334720 [] [.t 5 tI],jj 48 98286558267733705728 [] [.t 5 tI],jj 56 25087571940244990198784 [] [.t 5 tI],jj 58 464598858302721315423474842771536090234880 [] [.t 69 .bool],jj 88 1995436901704527259351376376153304285490059033972736 [] [],jj 102 2246662222260509988834430072107158093433561622966889387929056051200 [] [.t 110 .bool],jj 93 2246662222262551320785349088125518235372070433246631536525402193936 [] [.t 7 tI],jj 20 2246662222262553316222251257251635889469762035211714373333674907408 [] [],jj 17 2246662222262553316222251257251635889469762035211714373425295284048 [] [.t 3 tI],jj 108 2246662222262553316222251257251635889469762035211714373425295284048 [] []])) (fn:=Tryz.f210) (by kernel_rfl) (by kernel_rfl) (by rintro ⟨⟩ ⟨a1,⟨⟩⟩;kernel_rfl)
noncomputable def zPl:Ent:=z2 (by kernel_rfl) zNd
theorem zE4:OkX 253 [zD,(.sl qN),tI,tI,tI] (.p tI) q7:=fX [zA3,j2] (A:=(jl [jj 30 1690200800304299863862767779840 [] [.t 50 .bool],jj 38 7433581732841850846378268451680791564386304 [] [.t 71 .bool],jj 46 7794667965516416053545271929247418555377804902400 [] [.t 81 .bool],jj 57 523091803487547997888166888180986426855020182207097470976 [] [.t 13 tI],jj 20 523091811282223396986315785267305534675196263582539972608 [] [],jj 17 523091811282223396986315785267305534675196287033065603072 [] [.t 11 tI],jj 72 523091811282223396986315785267305534675196287033065603072 [] []])) (fn:=Tryz.f253) (by kernel_rfl) (by kernel_rfl) (by rintro ⟨⟩ ⟨a1,a2,a3,a4,a5,⟨⟩⟩;kernel_rfl)
noncomputable def yY:Ent:=z2 (by kernel_rfl) zE4
theorem zKH:OkX 211 [zD] (.p tI) x3:=fX [yY,zGl,zBW,j2] (A:=(jl [jj 14 1501199874392064 [] [.t 25 .bool],jj 54 110768999647131088315831082790420480 [] [.t 58 .bool],jj 74 8173309551284740464483728504488827824841739507723141120 [] [.t 91 .bool],jj 65 8173309551284740577800415145152905989891291396622517264 [] [.t 5 tI],jj 48 8173309551284740577911184144800037078207122479412937744 [] [],jj 45 8173309551284740577911184144801648880917306925194937616 [] [.t 4 tI],jj 80 8173309551284740577911184144801648880917306925194937616 [] []])) (fn:=Tryz.f211) (by kernel_rfl) (by kernel_rfl) (by rintro ⟨⟩ ⟨a1,⟨⟩⟩;kernel_rfl)
noncomputable def zMi:Ent:=z2 (by kernel_rfl) zKH
theorem zLN:OkX 212 [zD] (.p tI) zAL:=fX [yY,zBV,j2] (A:=(jl [jj 14 24019198012555264 [] [.t 27 .bool],jj 34 108172851219469426679694103674880 [] [.t 53 .bool]])) (fn:=Tryz.f212) (by kernel_rfl) (by kernel_rfl) (by rintro ⟨⟩ ⟨a1,⟨⟩⟩;kernel_rfl)
noncomputable def zNA:Ent:=z2 (by kernel_rfl) zLN
theorem zKG:OkX 254 [zD] (.p tI) u6:=fX [zA3,j2] (A:=(jl [jj 30 24595658742039576576 [] [.t 32 .bool],jj 38 7259357160980020553860729299779442442240 [] [.t 66 .bool],jj 49 31178701589133238427365255877395379460782172406800 [] [.t 5 tI],jj 24 31178701596392595588345276431280704419303654425616 [] [],jj 21 31178701596392595588345276431280704419326555325712 [] [.t 4 tI],jj 64 31178701596392595588345276431280704419326555325712 [] []])) (fn:=Tryz.f254) (by kernel_rfl) (by kernel_rfl) (by rintro ⟨⟩ ⟨a1,⟨⟩⟩;kernel_rfl)
noncomputable def zMh:Ent:=z2 (by kernel_rfl) zKG
theorem zHa:OkX 255 [tPV] (.p tI) vB:=fX [zBW] (A:=(jl [jj 37 103161669916429158228951312 [] [.t 4 tI],jj 20 103161669940446890226090256 [] [],jj 17 103161669940448356152115536 [] [.t 3 tI],jj 52 103161669940448356152115536 [] [],jj 85 1948668849746180360361501571666429475588596043792 [] [.t 6 tI],jj 68 1948668849774536791580174899052741648666549293072 [] [],jj 65 1948668849774537224245170389450289247010062078992 [] [.t 5 tI],jj 100 1948668849774537224245170389450289247010062078992 [] [],jj 126 8776015936244118375918817192586638416352703146905166652479897600 [] [.t 106 .bool],jj 145 2412335183457438515607515589458659717936581122655130276641842173130320379920 [] [.t 9 tI],jj 116 2412335192444087404649555544796380006365213496389376768509399724846544781328 [] [],jj 113 2412335192444087404657728355488439204661595267009755516997428957606549340176 [] [.t 7 tI],jj 160 2412335192444087404657728355488439204661595267009755516997428957606549340176 [] []])) (fn:=Tryz.f255) (by kernel_rfl) (by kernel_rfl) (by rintro ⟨⟩ ⟨a1,⟨⟩⟩;kernel_rfl)
noncomputable def zID:Ent:=z2 (by kernel_rfl) zHa
theorem zJt:OkX 213 [zD] (.p tI) vE:=fX [yY,zID,zMh,j2] (A:=(jl [jj 14 1611901092819505564876800 [] [.t 40 .bool],jj 26 1730765617899708116690659876798464 [] [.t 55 .bool]])) (fn:=Tryz.f213) (by kernel_rfl) (by kernel_rfl) (by rintro ⟨⟩ ⟨a1,⟨⟩⟩;kernel_rfl)
noncomputable def zLb:Ent:=z2 (by kernel_rfl) zJt
theorem zIu:OkX 173 [zD] (.p tI) vU:=fX [zLb,zNA,zMi,zPl,zPm,zIC,zJQ,zMg,zJP,zLc,j2,zCL] (A:=(jl [jj 29 6760803194920734830822890144016 [] [.t 4 tI],jj 44 6760803194920734830822890144016 [] []])) (fn:=Tryz.f173) (by kernel_rfl) (by kernel_rfl) (by rintro ⟨⟩ ⟨a1,⟨⟩⟩;kernel_rfl)
noncomputable def zJS:Ent:=z2 (by kernel_rfl) zIu
theorem zP2:OkX 144 [zZ] (.p tI) uA:=fX [zHy,zJS] (A:=(jl [jj 41 6602346876092618007411426320 [] [.t 5 tI],jj 56 6602346876092618007411426320 [] [],jj 86 1995436894735544384810556644423392325287446063349760 [] [.t 85 .bool],jj 77 1995436902161866760493117671048079757878355510231056 [] [.t 8 tI],jj 64 1995436902169126089961847779416217730674252809617424 [] [],jj 61 1995436902169126117654091089255088894142100436799504 [] [.t 6 tI],jj 20 1995436902169126117654097691601965010778939356992784 [] [],jj 17 1995436902169126117654097691601965082836899876427088 [] [.t 3 tI],jj 92 1995436902169126117654097691601965082836899876427088 [] []])) (fn:=Tryz.f144) (by kernel_rfl) (by kernel_rfl) (by rintro ⟨⟩ ⟨a1,⟨⟩⟩;kernel_rfl)
end Go.Ve

namespace Go.Ve
open Go Go.Proofs
set_option maxRecDepth 1000000
set_option maxHeartbeats 0
theorem zNi:OkX 72 [tI,tI,tI] (.p .bool) q9:=fX [] (A:=(jl [jj 6 357912576 [] [.t 6 .bool]])) (fn:=Tryz.f72) (by kernel_rfl) (by kernel_rfl) (by rintro ⟨⟩ ⟨a1,a2,a3,⟨⟩⟩;kernel_rfl)
noncomputable def zAd:Ent:=z2 (by kernel_rfl) zNi
theorem zOE:OkX 73 [zA, .bool, .bool, .bool] (.p .bool) yN:=fX [] (A:=(jl [jj 6 6447604371278022265077760 [] [.t 8 .bool]])) (fn:=Tryz.f73) (by kernel_rfl) (by kernel_rfl) (by rintro ⟨⟩ ⟨a1,a2,a3,a4,⟨⟩⟩;kernel_rfl)
noncomputable def zAV:Ent:=z2 (by kernel_rfl) zOE
theorem zLS:OkX 129 [qS,qS] (.p .bool) zCv:=fX [] (A:=(jl [jj 6 93824992236800 [] [.t 4 .bool]])) (fn:=Tryz.f129) (by kernel_rfl) (by kernel_rfl) (by rintro ⟨⟩ ⟨a1,a2,⟨⟩⟩;kernel_rfl)
noncomputable def zNC:Ent:=z2 (by kernel_rfl) zLS
theorem zP4:OkX 74 [(.sl qS), .bool] (.p .bool) uD:=fX [zNC] (A:=(jl [jj 18 412646679761793424960782336 [] [.t 44 .bool],jj 9 412646679761793424966374656 [] [.t 5 tI],jj 24 412646679761793424966374656 [] []])) (fn:=Tryz.f74) (by kernel_rfl) (by kernel_rfl) (by rintro ⟨⟩ ⟨a1,a2,⟨⟩⟩;kernel_rfl)
noncomputable def zBX:Ent:=z2 (by kernel_rfl) zP4
theorem zHb:OkX 75 [zA] (.p .bool) xR:=fX [zBX,zAV,zAd] (A:=(jl [jj 6 5864062014784 [] [.t 21 .bool],jj 18 393529039039261310992 [] [.t 2 .bool],jj 30 1690194352699934590640005840912 [] [.t 2 .bool]])) (fn:=Tryz.f75) (by kernel_rfl) (by kernel_rfl) (by rintro ⟨⟩ ⟨a1,⟨⟩⟩;kernel_rfl)
noncomputable def zIE:Ent:=z2 (by kernel_rfl) zHb
theorem zE6:OkX 76 [zA] (.p .bool) kN:=fX [zBX,zAV,zAd] (A:=(jl [jj 6 93824992236864 [] [.t 23 .bool],jj 14 25185954481479782236160 [] [.t 37 .bool],jj 26 110768999648340014135445711965126672 [] [.t 2 .bool],jj 30 29037317874920433472551891183589197348880 [] [.t 2 .bool]])) (fn:=Tryz.f76) (by kernel_rfl) (by kernel_rfl) (by rintro ⟨⟩ ⟨a1,⟨⟩⟩;kernel_rfl)
noncomputable def zF3:Ent:=z2 (by kernel_rfl) zE6
theorem zFJ:OkX 77 [zA] (.p .bool) uQ:=fX [zBX,zAV,zAd] (A:=(jl [jj 6 5864062014784 [] [.t 21 .bool],jj 22 412646679760292225090584592 [] [.t 2 .bool],jj 38 7089188934306746453259739058493456400 [] [.t 2 .bool]])) (fn:=Tryz.f77) (by kernel_rfl) (by kernel_rfl) (by rintro ⟨⟩ ⟨a1,⟨⟩⟩;kernel_rfl)
noncomputable def zGL:Ent:=z2 (by kernel_rfl) zFJ
theorem zJw:OkX 78 [zA] (.p .bool) zAZ:=fX [zBX,zAV,zAd] (A:=(jl [jj 6 93824992236864 [] [.t 23 .bool],jj 24 94575592174780416 [] [.t 26 .bool],jj 26 6760803201217127397857033191440 [] [.t 2 .bool],jj 36 425930601676685078902892277006336 [] [.t 52 .bool],jj 38 523091811282223396986315352575900656772893909497308774416 [] [.t 2 .bool]])) (fn:=Tryz.f78) (by kernel_rfl) (by kernel_rfl) (by rintro ⟨⟩ ⟨a1,⟨⟩⟩;kernel_rfl)
noncomputable def zLd:Ent:=z2 (by kernel_rfl) zJw
theorem zOF:OkX 32 [zA] (.p .bool) yO:=fX [zLd,zGL,zF3,zIE,zBX,zAV,zAd,zBW] (A:=(jl [jj 6 366503875840 [] [.t 19 .bool],jj 17 98382634693280399440 [] [.t 3 tI],jj 32 98382634693280399440 [] [],jj 42 1902996923607946508077689439978084877069189136 [] [.t 2 .bool]])) (fn:=Tryz.f32) (by kernel_rfl) (by kernel_rfl) (by rintro ⟨⟩ ⟨a1,⟨⟩⟩;kernel_rfl)
noncomputable def zQn:Ent:=z2 (by kernel_rfl) zOF
theorem zGh:OkX 102 [zG,zG] (.p tI) kM:=fX [] (A:=(jl [jj 6 93824992236544 [] [.t 23 .bool]])) (fn:=Tryz.f102) (by kernel_rfl) (by kernel_rfl) (by rintro ⟨⟩ ⟨a1,a2,⟨⟩⟩;kernel_rfl)
noncomputable def zPo:Ent:=z2 (by kernel_rfl) zGh
theorem zOG:OkX 45 [(.sl zA),tI] (.p .bool) x4:=fX [zPo,zQn] (A:=(jl [jj 18 422550200076076467165562142720 [] [.t 49 .bool],jj 9 422550200076076467165567735040 [] [.t 5 tI],jj 24 422550200076076467165567735040 [] []])) (fn:=Tryz.f45) (by kernel_rfl) (by kernel_rfl) (by rintro ⟨⟩ ⟨a1,a2,⟨⟩⟩;kernel_rfl)
noncomputable def zQo:Ent:=z2 (by kernel_rfl) zOG
theorem zIn:OkX 176 [(.sl zQ),zQ] (.p tI) zAk:=fX [] (A:=(jl [jj 9 91625948416 [] [.t 8 tI],jj 28 91625968896 [] []])) (fn:=Tryz.f176) (by kernel_rfl) (by kernel_rfl) (by rintro ⟨⟩ ⟨a1,a2,⟨⟩⟩;kernel_rfl)
noncomputable def zJN:Ent:=z2 (by kernel_rfl) zIn
theorem zFI:OkX 152 [(.sl zQ),zQ] (.p .bool) uP:=fX [zJN] (A:=fun _=>none) (fn:=Tryz.f152) (by kernel_rfl) (by kernel_rfl) (by rintro ⟨⟩ ⟨a1,a2,⟨⟩⟩;kernel_rfl)
noncomputable def zGK:Ent:=z2 (by kernel_rfl) zFI
theorem zOv:OkX 117 [zO,tI,tI] (.p tI) zBe:=fX [zGK] (A:=(jl [jj 13 24019192286875648 [] [.t 17 tI],jj 32 24019197991129088 [] []])) (fn:=Tryz.f117) (by kernel_rfl) (by kernel_rfl) (by rintro ⟨⟩ ⟨a1,a2,a3,⟨⟩⟩;kernel_rfl)
noncomputable def zEJ:Ent:=z2 (by kernel_rfl) zOv
theorem zIm:OkX 135 [(.sl tI),tI] (.p tI) u4:=fX [] (A:=(jl [jj 9 91625948416 [] [.t 8 tI],jj 28 91625968896 [] []])) (fn:=Tryz.f135) (by kernel_rfl) (by kernel_rfl) (by rintro ⟨⟩ ⟨a1,a2,⟨⟩⟩;kernel_rfl)
noncomputable def zDS:Ent:=z2 (by kernel_rfl) zIm
theorem zRD:OkX 145 [zO,tI,tI] (.p tI) zHQ:=fX [zDS,zEJ] (A:=fun _=>none) (fn:=Tryz.f145) (by kernel_rfl) (by kernel_rfl) (by rintro ⟨⟩ ⟨a1,a2,a3,⟨⟩⟩;kernel_rfl)
noncomputable def zTG:Ent:=z2 (by kernel_rfl) zRD
theorem zFH:OkX 87 [(.sl tI),tI] (.p .bool) vH:=fX [zDS] (A:=fun _=>none) (fn:=Tryz.f87) (by kernel_rfl) (by kernel_rfl) (by rintro ⟨⟩ ⟨a1,a2,⟨⟩⟩;kernel_rfl)
noncomputable def zCa:Ent:=z2 (by kernel_rfl) zFH
theorem zUI:OkX 107 [zO,tI,tI] (.p .bool) zHP:=fX [zCa,zTG,zEJ] (A:=(jl [jj 18 1501194149171200 [] [.t 6 .bool]])) (fn:=Tryz.f107) (by kernel_rfl) (by kernel_rfl) (by rintro ⟨⟩ ⟨a1,a2,a3,⟨⟩⟩;kernel_rfl)
noncomputable def zMc:Ent:=z2 (by kernel_rfl) zUI
theorem zQd:OkX 109 [tI] (.p tI) zCp:=fX [] (A:=fun _=>none) (fn:=Tryz.f109) (by kernel_rfl) (by kernel_rfl) (by rintro ⟨⟩ ⟨a1,⟨⟩⟩;kernel_rfl)
noncomputable def zLi:Ent:=z2 (by kernel_rfl) zQd
theorem zRI:OkX 108 [tI] (.p tU) zDr:=fX [zLi] (A:=fun _=>none) (fn:=Tryz.f108) (by kernel_rfl) (by kernel_rfl) (by rintro ⟨⟩ ⟨a1,⟨⟩⟩;kernel_rfl)
noncomputable def zMQ:Ent:=z2 (by kernel_rfl) zRI
theorem zLW:OkX 168 [zG,tU] (.p .bool) wJ:=fX [zMQ] (A:=fun _=>none) (fn:=Tryz.f168) (by kernel_rfl) (by kernel_rfl) (by rintro ⟨⟩ ⟨a1,a2,⟨⟩⟩;kernel_rfl)
noncomputable def zGo:Ent:=z2 (by kernel_rfl) zLW
theorem zNj:OkX 67 [zO,tI,tI] (.p tI) zBH:=fX [] (A:=(jl [jj 21 103161669940448350515040256 [] [.t 8 tI],jj 12 103161669940448350515040256 [] [],jj 9 103161669940448356241592320 [] [.t 7 tI],jj 36 103161669940448356241592320 [] []])) (fn:=Tryz.f67) (by kernel_rfl) (by kernel_rfl) (by rintro ⟨⟩ ⟨a1,a2,a3,⟨⟩⟩;kernel_rfl)
noncomputable def zHD:Ent:=z2 (by kernel_rfl) zNj
theorem zP7:OkX 126 [zO,tI,tI] (.p tI) zFD:=fX [zHD] (A:=(jl [jj 22 24595657298930565120 [] [.t 32 .bool],jj 13 98382635059761975296 [] [.t 8 tI],jj 28 98382635059761975296 [] []])) (fn:=Tryz.f126) (by kernel_rfl) (by kernel_rfl) (by rintro ⟨⟩ ⟨a1,a2,a3,⟨⟩⟩;kernel_rfl)
noncomputable def zR7:Ent:=z2 (by kernel_rfl) zP7
theorem zS6:OkX 66 [zO,tI,tI] (.p .bool) zG5:=fX [zR7,zHD] (A:=(jl [jj 21 6148914668330094592 [] [.t 8 tI],jj 36 6148914668330094592 [] []])) (fn:=Tryz.f66) (by kernel_rfl) (by kernel_rfl) (by rintro ⟨⟩ ⟨a1,a2,a3,⟨⟩⟩;kernel_rfl)
noncomputable def zPq:Ent:=z2 (by kernel_rfl) zS6
theorem zNg:OkX 53 [zO,tI] (.p .bool) zBF:=fX [] (A:=(jl [jj 6 357913856 [] [.t 4 .bool]])) (fn:=Tryz.f53) (by kernel_rfl) (by kernel_rfl) (by rintro ⟨⟩ ⟨a1,a2,⟨⟩⟩;kernel_rfl)
noncomputable def zHB:Ent:=z2 (by kernel_rfl) zNg
theorem zP9:OkX 103 [zD] (.p .bool) zFR:=fX [] (A:=(jl [jj 6 2092367245128893587945263141069222138700785148154678169600 [] [.t 95 .bool],jj 17 2246662220170186071093357669306372748400539896510929225270622683216 [] [.t 3 tI],jj 32 2246662220170186071093357669306372748400539896510929225270622683216 [] [],jj 37 2412335190197425182395175538125413489691488791064416382276985293406222680336 [] [.t 4 tI],jj 52 2412335190197425182395175538125413489691488791064416382276985293406222680336 [] [],jj 57 2590225187221970235448528471106963021175544371793061347801571462163172713442087797776 [] [.t 5 tI],jj 72 2590225187221970235448528471106963021175544371793061347801571462163172713442087797776 [] []])) (fn:=Tryz.f103) (by kernel_rfl) (by kernel_rfl) (by rintro ⟨⟩ ⟨a1,⟨⟩⟩;kernel_rfl)
noncomputable def zR8:Ent:=z2 (by kernel_rfl) zP9
theorem zOJ:OkX 46 [zZ] (.p .bool) zEs:=fX [zR8] (A:=(jl [jj 17 5864061993040 [] [.t 3 tI],jj 32 5864061993040 [] []])) (fn:=Tryz.f46) (by kernel_rfl) (by kernel_rfl) (by rintro ⟨⟩ ⟨a1,⟨⟩⟩;kernel_rfl)
noncomputable def zQr:Ent:=z2 (by kernel_rfl) zOJ
def zEN:Nat→Option JA:=fun k=>match k with
 |84=>some ⟨184497489401772529385612327842172717039008268166646221893471402059821287234759868672175917131173661172843563441437060059660158104845032398976807920666283692562120150139178769612799511748636278282415866878160176201872937423527853931074825229289817028865471580173776186278979555862451026349435370470386779578868176354099221238174997807148290368091204552361327921521465467763204555046027307456204118567337113234081310864304329682188410055227959601689731512418582605896572426052789584762208778001498785021309361810928365592763602942101060634062780064931573442859418747069999582698364321162101164826918019197244306192189303006234838493212327877025209681605424513505280,[],[.v 5 [.o 1100 zP, .o 1101 tI], .st]⟩
 |25=>some ⟨184497489401772529385612327842172717039008268166646221893471402059821287234759868672175917131173661172843563441437060059660158104845032398976807920666283692562120150139178769612799511748636278282415866878160176201872937423527853931074825229289817028865471580173776186278979555862451026349435370470386779578868176354099221238174997807148290368091204552361327921521465467763204555046027307456204118567337113234081310864304329682188410055227959601689731512418582605896572426052789584762208778001498785021309361810928365592763602942101060634062780064931573442859418747069999582698364321162101164826918019197244306192189303006234838493212327877025209681605424513505280,[],[.t 6 tI, .v 5 [.o 1100 zP, .o 1101 tI], .st]⟩
 |28=>some ⟨184497489401772529385612327842172717039008268166646221893471402059821287234759868672175917131173661172843563441437060059660158104845032398976807920666283692562120150139178769612799511748636278282415866878160176201872937423527853931074825229289817028865471580173776186278979555862451026349435370470386779578868176354099221238174997807148290368091204552361327921521465467763204555046027307456204118567337113234081310864304329682188410055227959601689731512418582605896572426052789584762208778001498785021309361810928365592763602942101060634062780064931573442859418747069999582698364321162101164826918019197244306192189303006234838493212327877025209675600991514216448,[],[.v 5 [.o 1100 zP, .o 1101 tI], .st]⟩
 |37=>some ⟨184497489401772529385612327842172717039008268166646221893471402059821287234759868672175917131173661172843563441437060059660158104845032398976807920666283692562120150139178769612799511748636278282415866878160176201872937423527853931074825229289817028865471580173776186278979555862451026349435370470386779578868176354099221238174997807148290368091204552361327921521465467763204555046027307456204118567337113234081310864304329682188410055227959601689731512418582605896572426052789584762208778001498785021309361810928365592763602942101060634062780064931573442859418747069999582698364321162101164826918019197244306192189303006234838493212327877025209675600991514216448,[],[.t 7 tI, .v 5 [.o 1100 zP, .o 1101 tI], .st]⟩
 |40=>some ⟨184497489401772529385612327842172717039008268166646221893471402059821287234759868672175917131173661172843563441437060059660158104845032398976807920666283692562120150139178769612799511748636278282415866878160176201872937423527853931074825229289817028865471580173776186278979555862451026349435370470386779578868176354099221238174997807148290368091204552361327921521465467763204555046027307456204118567337113234081310864304329682188410055227959601689731512418582605896572426052789584762208778001498785021309361810928365592763602942101060634062780064931573442859418747069999582698364321162101164826918019197244306192189303006234838493212327877000023727030486242887680,[],[.v 5 [.o 1100 zP, .o 1101 tI], .st]⟩
 |80=>some ⟨184497489401772529385612327842172717039008268166646221893471402059821287234759868672175917131173661172843563441437060059660158104845032398976807920666283692562120150139178769612799511748636278282415866878160176201872937423527853931074825229289817028865471580173776186278979555862451026349435370470386779578868176354099221238174997807148290368091204552361327921521465467763204555046027307456204118567337113234081310864304329682188410055227959601689731512418582605896572426052789584762208778001498785021309361810928365592763602942101060634062780064931573442859418747069821583778745688924935728571583505041672838009412557657231906458756740677065373698151113771976704,[],[.v 5 [.o 1100 zP, .o 1101 tI], .st]⟩
 |70=>some ⟨150770949527755429313232131334431639559735035425831931880481358702119485440,[],[.t 123 .bool, .v 5 [.o 1100 zP, .o 1101 tI], .st]⟩
 |68=>some ⟨33477875922062297407124099488107905476223153719886495090688,[],[.t 10 tI, .v 5 [.o 1100 zP, .o 1101 tI], .st]⟩
 |61=>some ⟨33477875922062297407124099488107905476223153719886495090688,[],[.t 10 tI, .v 5 [.o 1100 zP, .o 1101 tI], .st]⟩
 |62=>some ⟨2092367245128893587945152372069573395711376497566321475584,[],[.t 95 .bool, .v 5 [.o 1100 zP, .o 1101 tI], .st]⟩
 |50=>some ⟨108166248872599386899585878196224,[],[.t 53 .bool, .v 5 [.o 1100 zP, .o 1101 tI], .st]⟩
 |92=>some ⟨737989957607090117542449311368690868156033072666584887573885608239285148939039474688703668524694644691374253765748240238640632419380129595907231682665134770248480600556715078451198046994545113129663467512640704807491749694111415724299300917159268115461886320695104745115918223449804105397741481881547118315472705416396884952699991228593161472364818209445311686085861871052818220184109229824816474269348452936325243457217318728753640220911838406758926049674330423586289704211158339048835112005995140085237447243713462371054411768404242536251120259726293772220522512954229778033961281054049025040681255249323705639452069711332539928507387154905727039987508328794112,[],[.v 5 [.o 1100 zP, .o 1101 tI], .st]⟩
 |89=>some ⟨737989957607090117542449311368690868156033072666584887573885608239285148939039474688703668524694644691374253765748240238640632419380129595907231682665134770248480600556715078451198046994545113129663467512640704807491749694111415724299300917159268115461886320695104745115918223449804105397741481881547118315472705416396884952699991228593161472364818209445311686085861871052818220184109229824816474269348452936325243457217318728753640220911838406758926049674330423586289704211158339048835112005995140085237447243713462371054411768404242536251120259726293772220522515870386078824983771043852409388662279710666054786872263881531095007792867776925237958836497535731712,[],[.t 12 tI, .v 5 [.o 1100 zP, .o 1101 tI], .st]⟩
 |104=>some ⟨737989957607090117542449311368690868156033072666584887573885608239285148939039474688703668524694644691374253765748240238640632419380129595907231682665134770248480600556715078451198046994545113129663467512640704807491749694111415724299300917159268115461886320695104745115918223449804105397741481881547118315472705416396884952699991228593161472364818209445311686085861871052818220184109229824816474269348452936325243457217318728753640220911838406758926049674330423586289704211158339048835112005995140085237447243713462371054411768404242536251120259726293772220522515870386078824983771043852409388662279710666054786872263881531095007792867776925237958836497535731712,[],[.v 5 [.o 1100 zP, .o 1101 tI], .st]⟩
 |83=>some ⟨0,[(16,0,8)],[.st]⟩
 |79=>some ⟨0,[(14848,1024,0)],[.st]⟩
 |_=>none
theorem zNs: ∀k j,zEN k=some j→zE9 j.sl=true:=by
 intro k j h
 unfold zEN at h
 split at h<;>(cases h<;>rfl)
theorem zNo:wV (j7 zQ) Tryz.prog G0 104 (qP (zMF (zEL [zZ]) (.tu [zGT,tI]) zCw)):=
 zUX (fn:=Tryz.f104) (c:=wI Tryz.f104) (S:=(((((zN.none (j7 zQ)).add 144 (wB [zZ] (.p tI) uA)).add 113 (wB [tU,tI] (.p zG) wO)).add 102 (wB [zG,zG] (.p tI) kM)).addH)) (A:=zEN) zNs (zMD (qV (qV (qV z7 (by kernel_rfl) (zL0 (by kernel_rfl) zP2)) (by kernel_rfl) (zL0 (by kernel_rfl) zGg)) (by kernel_rfl) (zL0 (by kernel_rfl) zGh)) (by kernel_rfl) (by kernel_rfl)) (by kernel_rfl) (by kernel_rfl) (by rintro st0 ⟨a1,⟨⟩⟩;kernel_rfl)
theorem zOH:wV U Tryz.prog G0 104 (qP (wB [zZ] (.tu [zKd,tI]) zEn)):=
 zML (fun _=>rfl) (by kernel_rfl) zNo
noncomputable def zQp:Ent:=z2 (by kernel_rfl) zOH
theorem zJx:OkX 105 [(.sl tI),tI] (.p .bool) zA0:=fX [] (A:=(jl [jj 26 103161669940448355883679744 [] [.t 43 .bool],jj 17 103161669940448356241507584 [] [.t 5 tI],jj 32 103161669940448356241507584 [] []])) (fn:=Tryz.f105) (by kernel_rfl) (by kernel_rfl) (by rintro ⟨⟩ ⟨a1,a2,⟨⟩⟩;kernel_rfl)
noncomputable def zLf:Ent:=z2 (by kernel_rfl) zJx
theorem zP6:OkX 47 [zZ,(.sl tI)] (.tu [zO,tI]) zFC:=fX [zLf,zQp] (A:=(jl [jj 27 0 [(240,3,0)] []])) (fn:=Tryz.f47) (by kernel_rfl) (by kernel_rfl) (by rintro ⟨⟩ ⟨a1,a2,⟨⟩⟩;kernel_rfl)
noncomputable def zR6:Ent:=z2 (by kernel_rfl) zP6
theorem zQb:OkX 14 [zZ,(.sl tI)] (.tu [zO, .bool]) zFS:=fX [zR6,zQr] (A:=(jl [jj 6 1431633920 [] [.t 15 .bool]])) (fn:=Tryz.f14) (by kernel_rfl) (by kernel_rfl) (by rintro ⟨⟩ ⟨a1,a2,⟨⟩⟩;kernel_rfl)
noncomputable def zSa:Ent:=z2 (by kernel_rfl) zQb
end Go.Ve

namespace Go.Ve
open Go Go.Proofs
set_option maxRecDepth 1000000
set_option maxHeartbeats 0
theorem zKC:OkX 57 [zO,tI,tI] (.p (.sl zQ)) zBt:=fX [zEJ,zMc] (A:=(jl [jj 30 402974888897708189286400 [] [.t 39 .bool, .o 7 7 zQ],jj 36 103161669916429158229753856 [] [.o 7 7 zQ],jj 21 412646679760292225091387392 [] [.t 26 tI, .o 7 7 zQ],jj 40 412646679761793424609263616 [] [.o 7 7 zQ]])) (fn:=Tryz.f57) (by kernel_rfl) (by kernel_rfl) (by rintro ⟨⟩ ⟨a1,a2,a3,⟨⟩⟩;kernel_rfl)
noncomputable def zMd:Ent:=z2 (by kernel_rfl) zKC
theorem zFQ:OkA 178 [.d jV, .pp .str] (.p .bool) zAH:=fA [] (A:=fun _=>none) (fn:=Tryz.f178) (by kernel_rfl) (by kernel_rfl) (by rintro ⟨⟩ ⟨a1,a2,⟨⟩⟩;kernel_rfl)
noncomputable def zCc:Ent:=z2 (by kernel_rfl) zFQ
theorem zBp:OkA 177 [.d (.sl jV), .clo 178 [(true, .str)]] (.p tI) wW:=fA [zCc] (A:=(jl [jj 9 91625948416 [] [.t 8 tI],jj 28 91625968896 [] []])) (fn:=Tryz.f177) (by kernel_rfl) (by kernel_rfl) (by rintro ⟨⟩ ⟨a1,⟨a2,⟨⟩⟩,⟨⟩⟩;kernel_rfl)
noncomputable def zBU:Ent:=z2 (by kernel_rfl) zBp
theorem zIy:OkX 153 [zD, .str] (.p tI) zAq:=fX [zBU,zCc] (A:=fun _=>none) (fn:=Tryz.f153) (by kernel_rfl) (by kernel_rfl) (by rintro ⟨⟩ ⟨a1,a2,⟨⟩⟩;kernel_rfl)
noncomputable def zJU:Ent:=z2 (by kernel_rfl) zIy
theorem zOK:OkX 141 [zG,zG] (.p .bool) zBm:=fX [zGo] (A:=(jl [jj 6 1431655680 [] [.t 4 .bool]])) (fn:=Tryz.f141) (by kernel_rfl) (by kernel_rfl) (by rintro ⟨⟩ ⟨a1,a2,⟨⟩⟩;kernel_rfl)
noncomputable def zIU:Ent:=z2 (by kernel_rfl) zOK
theorem zKN:OkX 179 [xK,zG] (.p .bool) x6:=fX [zIU] (A:=(jl [jj 6 23456248059136 [] [.t 4 .bool]])) (fn:=Tryz.f179) (by kernel_rfl) (by kernel_rfl) (by rintro ⟨⟩ ⟨a1,a2,⟨⟩⟩;kernel_rfl)
noncomputable def zMn:Ent:=z2 (by kernel_rfl) zKN
theorem zNk:OkX 154 [jV,zG] (.p tI) zDd:=fX [zMn] (A:=(jl [jj 9 366503539968 [] [.t 10 tI],jj 28 366503884032 [] []])) (fn:=Tryz.f154) (by kernel_rfl) (by kernel_rfl) (by rintro ⟨⟩ ⟨a1,a2,⟨⟩⟩;kernel_rfl)
noncomputable def zPr:Ent:=z2 (by kernel_rfl) zNk
theorem zKM:OkX 118 [zD, .str,zG] (.p .bool) zBJ:=fX [zPr,zJU] (A:=(jl [jj 30 6296488620369945563136 [] [.t 6 .bool]])) (fn:=Tryz.f118) (by kernel_rfl) (by kernel_rfl) (by rintro ⟨⟩ ⟨a1,a2,a3,⟨⟩⟩;kernel_rfl)
noncomputable def zMm:Ent:=z2 (by kernel_rfl) zKM
theorem zP8:OkX 26 [(.sl zA),zG] (.p tI) zCj:=fX [] (A:=(jl [jj 9 366503875840 [] [.t 5 tI],jj 24 366503875840 [] []])) (fn:=Tryz.f26) (by kernel_rfl) (by kernel_rfl) (by rintro ⟨⟩ ⟨a1,a2,⟨⟩⟩;kernel_rfl)
noncomputable def zLe:Ent:=z2 (by kernel_rfl) zP8
theorem zGD:OkX 125 [xK,zG] (.p .bool) v2:=fX [zEK] (A:=(jl [jj 6 23456248059136 [] [.t 4 .bool]])) (fn:=Tryz.f125) (by kernel_rfl) (by kernel_rfl) (by rintro ⟨⟩ ⟨a1,a2,⟨⟩⟩;kernel_rfl)
noncomputable def zHx:Ent:=z2 (by kernel_rfl) zGD
theorem zIt:OkX 65 [jV,zG] (.p tI) zAo:=fX [zHx] (A:=(jl [jj 9 1466015503616 [] [.t 5 tI],jj 24 1466015503616 [] []])) (fn:=Tryz.f65) (by kernel_rfl) (by kernel_rfl) (by rintro ⟨⟩ ⟨a1,a2,⟨⟩⟩;kernel_rfl)
noncomputable def zJR:Ent:=z2 (by kernel_rfl) zIt
theorem zGC:OkX 27 [zD, .str,zG] (.p .bool) yU:=fX [zJR,zBV] (A:=(jl [jj 30 6296488620369945563136 [] [.t 6 .bool]])) (fn:=Tryz.f27) (by kernel_rfl) (by kernel_rfl) (by rintro ⟨⟩ ⟨a1,a2,a3,⟨⟩⟩;kernel_rfl)
noncomputable def zHw:Ent:=z2 (by kernel_rfl) zGC
theorem zD9:OkX 79 [zO,tI,tI] (.tu [qC, .bool]) jA:=fX [] (A:=(jl [jj 6 98382635059784253440 [] [.t 33 .bool]])) (fn:=Tryz.f79) (by kernel_rfl) (by kernel_rfl) (by rintro ⟨⟩ ⟨a1,a2,a3,⟨⟩⟩;kernel_rfl)
noncomputable def uH:Ent:=z2 (by kernel_rfl) zD9
theorem zDM:OkX 97 [zG,zG] (.p .bool) jM:=fX [zIU] (A:=(jl [jj 6 357913856 [] [.t 4 .bool]])) (fn:=Tryz.f97) (by kernel_rfl) (by kernel_rfl) (by rintro ⟨⟩ ⟨a1,a2,⟨⟩⟩;kernel_rfl)
noncomputable def zAB:Ent:=z2 (by kernel_rfl) zDM
theorem zHd:OkX 80 [zD,zG] (.p .bool) kQ:=fX [zAB] (A:=(jl [jj 18 23455890145280 [] [.t 22 .bool],jj 9 93824990851328 [] [.t 11 tI],jj 28 93824992243968 [] []])) (fn:=Tryz.f80) (by kernel_rfl) (by kernel_rfl) (by rintro ⟨⟩ ⟨a1,a2,⟨⟩⟩;kernel_rfl)
noncomputable def zIF:Ent:=z2 (by kernel_rfl) zHd
def zFk:Nat→Option JA:=fun k=>match k with
 |12=>some ⟨336,[],[.t 0 (.sl zY)]⟩
 |_=>none
theorem zEG:wV U Tryz.prog G0 130 (qP (wB [(.sl zY)] (.p (.sl zY)) kA)):=
 zJH (t:=zY) (bytes:=48)
  (vF (fn:=Tryz.f130) (c:=wI Tryz.f130) (S:=zN.none U) (A:=fun _=>none) z7 (by kernel_rfl) (by kernel_rfl) (enc:=fun q=>[.tl zY (q.1::q.2)]) (fun _ _ h=>zEv h) (by rintro ⟨⟩ ⟨y,r⟩;kernel_rfl))
  (fun c=>vF (fn:=Tryz.f130) (c:=wI Tryz.f130) (S:=zN.none U) (A:=fun _=>none) z7 (by kernel_rfl) (by kernel_rfl) (enc:=fun _=>[.val (.slice none 0 c)]) (fun _ _ h=>yP h) (by rintro ⟨⟩ _;kernel_rfl))
  (fun a c=>vF (fn:=Tryz.f130) (c:=wI Tryz.f130) (S:=zN.none U) (A:=zFk) z7 (by kernel_rfl) (by kernel_rfl) (enc:=fun _=>[.val (.slice (some a) 0 c)]) (fun _ _ h=>yP h) (by rintro ⟨⟩ _;kernel_rfl))
noncomputable def zFf:Ent:=z2 (by kernel_rfl) zEG
theorem zEH:OkX 81 [zD,tU] (.tu [zY, .bool]) jY:=fX [zFf] (A:=(jl [jj 9 23456225740288 [] [.t 13 tI, .v 4 [.p zY]],jj 28 23456248088064 [] [.v 4 [.p zY]]])) (fn:=Tryz.f81) (by kernel_rfl) (by kernel_rfl) (by rintro ⟨⟩ ⟨a1,a2,⟨⟩⟩;kernel_rfl)
noncomputable def yH:Ent:=z2 (by kernel_rfl) zEH
def zJ1:Nat→Option JA:=fun k=>match k with
 |12=>some ⟨336,[],[.t 0 (.sl tI)]⟩
 |_=>none
theorem zIo:wV U Tryz.prog G0 83 (qP (wB [(.sl tI)] (.p (.sl tI)) jT)):=
 zJH (t:=tI) (bytes:=8)
  (vF (fn:=Tryz.f83) (c:=wI Tryz.f83) (S:=zN.none U) (A:=fun _=>none) z7 (by kernel_rfl) (by kernel_rfl) (enc:=fun q=>[.tl tI (q.1::q.2)]) (fun _ _ h=>zEv h) (by rintro ⟨⟩ ⟨y,r⟩;kernel_rfl))
  (fun c=>vF (fn:=Tryz.f83) (c:=wI Tryz.f83) (S:=zN.none U) (A:=fun _=>none) z7 (by kernel_rfl) (by kernel_rfl) (enc:=fun _=>[.val (.slice none 0 c)]) (fun _ _ h=>yP h) (by rintro ⟨⟩ _;kernel_rfl))
  (fun a c=>vF (fn:=Tryz.f83) (c:=wI Tryz.f83) (S:=zN.none U) (A:=zJ1) z7 (by kernel_rfl) (by kernel_rfl) (enc:=fun _=>[.val (.slice (some a) 0 c)]) (fun _ _ h=>yP h) (by rintro ⟨⟩ _;kernel_rfl))
noncomputable def yX:Ent:=z2 (by kernel_rfl) zIo
def zJ2:Nat→Option JA:=fun k=>match k with
 |12=>some ⟨336,[],[.t 0 (.sl qS)]⟩
 |_=>none
theorem zIp:wV U Tryz.prog G0 131 (qP (wB [(.sl qS)] (.p (.sl qS)) zAl)):=
 zJH (t:=qS) (bytes:=16)
  (vF (fn:=Tryz.f131) (c:=wI Tryz.f131) (S:=zN.none U) (A:=fun _=>none) z7 (by kernel_rfl) (by kernel_rfl) (enc:=fun q=>[.tl qS (q.1::q.2)]) (fun _ _ h=>zEv h) (by rintro ⟨⟩ ⟨y,r⟩;kernel_rfl))
  (fun c=>vF (fn:=Tryz.f131) (c:=wI Tryz.f131) (S:=zN.none U) (A:=fun _=>none) z7 (by kernel_rfl) (by kernel_rfl) (enc:=fun _=>[.val (.slice none 0 c)]) (fun _ _ h=>yP h) (by rintro ⟨⟩ _;kernel_rfl))
  (fun a c=>vF (fn:=Tryz.f131) (c:=wI Tryz.f131) (S:=zN.none U) (A:=zJ2) z7 (by kernel_rfl) (by kernel_rfl) (enc:=fun _=>[.val (.slice (some a) 0 c)]) (fun _ _ h=>yP h) (by rintro ⟨⟩ _;kernel_rfl))
noncomputable def zJO:Ent:=z2 (by kernel_rfl) zIp
theorem zHg:OkA 201 [.d kC, .pp .str] (.p .bool) zBR:=fA [] (A:=fun _=>none) (fn:=Tryz.f201) (by kernel_rfl) (by kernel_rfl) (by rintro ⟨⟩ ⟨a1,a2,⟨⟩⟩;kernel_rfl)
noncomputable def zC6:Ent:=z2 (by kernel_rfl) zHg
theorem zB3:OkA 200 [.d (.sl kC), .clo 201 [(true, .str)]] (.p tI) vD:=fA [zC6] (A:=(jl [jj 9 91625948416 [] [.t 8 tI],jj 28 91625968896 [] []])) (fn:=Tryz.f200) (by kernel_rfl) (by kernel_rfl) (by rintro ⟨⟩ ⟨a1,⟨a2,⟨⟩⟩,⟨⟩⟩;kernel_rfl)
noncomputable def zCn:Ent:=z2 (by kernel_rfl) zB3
theorem zKO:OkX 167 [zD, .str] (.p tI) yE:=fX [zCn,zC6] (A:=fun _=>none) (fn:=Tryz.f167) (by kernel_rfl) (by kernel_rfl) (by rintro ⟨⟩ ⟨a1,a2,⟨⟩⟩;kernel_rfl)
noncomputable def zCo:Ent:=z2 (by kernel_rfl) zKO
theorem zLU:OkX 166 [zD, .str,zA] (.p tI) zAP:=fX [zMm,zCo] (A:=(jl [jj 30 412646679755788625463214080 [] [.t 44 .bool],jj 21 6602346876188688935400837120 [] [.t 22 tI],jj 40 6602346876188694799104937984 [] []])) (fn:=Tryz.f166) (by kernel_rfl) (by kernel_rfl) (by rintro ⟨⟩ ⟨a1,a2,a3,⟨⟩⟩;kernel_rfl)
noncomputable def zGn:Ent:=z2 (by kernel_rfl) zLU
theorem zHc:OkX 132 [zD, .str,zA] (.tu [vL, .bool]) kP:=fX [zCo,zGn] (A:=(jl [jj 23 0 [(24,6,0)] []])) (fn:=Tryz.f132) (by kernel_rfl) (by kernel_rfl) (by rintro ⟨⟩ ⟨a1,a2,a3,⟨⟩⟩;kernel_rfl)
noncomputable def zC5:Ent:=z2 (by kernel_rfl) zHc
theorem zNl:OkX 82 [zD, .str,zA] (.tu [zA, .bool]) zBK:=fX [zC5,zJO,yX] (A:=(jl [jj 40 6294951415153384491008 [] [.v 5 [.p zA]],jj 48 25784120996468262866782208 [] [.v 5 [.p zA]],jj 56 105611759601534004702331537408 [] [.v 5 [.p zA]]])) (fn:=Tryz.f82) (by kernel_rfl) (by kernel_rfl) (by rintro ⟨⟩ ⟨a1,a2,a3,⟨⟩⟩;kernel_rfl)
noncomputable def zHE:Ent:=z2 (by kernel_rfl) zNl
theorem zKL:OkX 84 [zD, .str,zA] (.p tI) zBI:=fX [zC5] (A:=fun _=>none) (fn:=Tryz.f84) (by kernel_rfl) (by kernel_rfl) (by rintro ⟨⟩ ⟨a1,a2,a3,⟨⟩⟩;kernel_rfl)
noncomputable def zMl:Ent:=z2 (by kernel_rfl) zKL
theorem zHf:OkX 33 [zO,zW,zA] (.tu [zA, .bool]) xT:=fX [zMl,yX,zHE,yH,zIF,uH] (A:=(jl [jj 10 402975273111051399331840 [] [.t 39 .bool],jj 22 1772303967970500325783630215859142656 [] [.t 60 .bool],jj 48 1895563341875102967030536053175110728008337408 [] [.v 5 [.p zA]],jj 97 103306820458156294656094485043318397790635090902388946122367707859777845371548719137571334688294830173338045864258315365141449000983439330570722177320589644328128484780111578894057787027214873304103335256792309343028840886044961322246476108298013154969353085650378313636073913237440168557404030730338649054415667327346451647959874702629371426920550153268168687275985196999172625645221308629576524627973939548823809852279076982073490062444913175105919980287343435086195103354082877569179339345906014093643802654768824784598425433370375894370875326609869190966074923449127369128351652870267768452471452849970927815399626776427044480897028208553957599361475910156051730904598780369929893044647575859313341023466256213064678367516543731361522401958183831988215660675072 [] [.t 118 tI, .v 13 [.p tU, .p tI, .p tI, .p tI, .p tI, .p tI, .p tI, .p tI, .p tI, .o 1269 tI, .p tU, .p tU, .p (.sl qS), .p .bool]],jj 108 103306820458156294656094485043318397790635090902388946122367707859777845371548719137571334688294830173338045864258315365141449000983439330570722177320589644328128484780111578894057787027214873304103335256792309343028840886044961322246476108298013154969353085650378313636073913237440168557404030730338649054415667327346451647959874702629371426920550153268168687275985196999172625645221308629576524627973939548823809852279076982073490062444913175105919980287343435086195103354082877569179339345906014093643802654768824784598425433370375894370875326609869190966074923449127369128351652870267768452471452849970927815399626776427044480897028208553957599361475910156051730904598780369929893044647575886920326410628511362803701816624645541165958290639730052638312555872256 [] [.v 13 [.p tU, .p tI, .p tI, .p tI, .p tI, .p tI, .p tI, .p tI, .p tI, .o 1269 tI, .p tU, .p tU, .p (.sl qS), .p .bool]]])) (fn:=Tryz.f33) (by kernel_rfl) (by kernel_rfl) (by rintro ⟨⟩ ⟨a1,a2,a3,⟨⟩⟩;kernel_rfl)
noncomputable def zIH:Ent:=z2 (by kernel_rfl) zHf
theorem zHe:OkX 36 [zO,zW,zA] (.tu [zA, .bool]) xS:=fX [yX,zHE,yH,zCa,uH] (A:=(jl [jj 10 100743818277762849832960 [] [.t 38 .bool],jj 64 137117010307786654605228984160548265193339852328872370033917952 [] [.v 13 [.p zA]],jj 63 0 [(112,7,0)] []])) (fn:=Tryz.f36) (by kernel_rfl) (by kernel_rfl) (by rintro ⟨⟩ ⟨a1,a2,a3,⟨⟩⟩;kernel_rfl)
noncomputable def zIG:Ent:=z2 (by kernel_rfl) zHe
theorem zIv:OkX 127 [zD,tU,tI] (.p .bool) yB:=fX [yH] (A:=(jl [jj 10 5863704104960 [] [.t 6 .bool]])) (fn:=Tryz.f127) (by kernel_rfl) (by kernel_rfl) (by rintro ⟨⟩ ⟨a1,a2,a3,⟨⟩⟩;kernel_rfl)
noncomputable def zJT:Ent:=z2 (by kernel_rfl) zIv
theorem zDL:OkX 68 [zO,tI,tI] (.p (.sl zW)) wC:=fX [zJT,zMd,uH] (A:=(jl [jj 50 487167212441862002073515056408222597138270388224 [] [.t 79 .bool, .o 10 10 zW],jj 64 8369468980515574351781052564276886942902047773129773678592 [] [.o 10 10 zW],jj 29 33477875922062297407124210257107554118468744069272380112896 [] [.t 39 tI, .o 10 10 zW],jj 68 33477875922062297407124210257107554219114179735431693729792 [] [.o 10 10 zW]])) (fn:=Tryz.f68) (by kernel_rfl) (by kernel_rfl) (by rintro ⟨⟩ ⟨a1,a2,a3,⟨⟩⟩;kernel_rfl)
noncomputable def zAA:Ent:=z2 (by kernel_rfl) zDL
theorem zFM:OkX 29 [zO] (.p (.sl zW)) uT:=fX [zAA] (A:=(jl [jj 25 96076700424605760 [] [.t 19 tI, .o 3 3 zW],jj 40 96076792028208448 [] [.o 3 3 zW],jj 13 384307168200891712 [] [.t 11 tI, .o 3 3 zW],jj 44 384307168202284352 [] [.o 3 3 zW]])) (fn:=Tryz.f29) (by kernel_rfl) (by kernel_rfl) (by rintro ⟨⟩ ⟨a1,⟨⟩⟩;kernel_rfl)
theorem zOz:OkX 133 [zD, .str,zA] (.p tI) zEk:=fX [zHw,zA3] (A:=(jl [jj 34 27043212804475363358357197946880 [] [.t 52 .bool],jj 21 108172851219475575594384983134208 [] [.t 8 tI],jj 40 108172851219475575594384983134208 [] []])) (fn:=Tryz.f133) (by kernel_rfl) (by kernel_rfl) (by rintro ⟨⟩ ⟨a1,a2,a3,⟨⟩⟩;kernel_rfl)
noncomputable def zQj:Ent:=z2 (by kernel_rfl) zOz
end Go.Ve

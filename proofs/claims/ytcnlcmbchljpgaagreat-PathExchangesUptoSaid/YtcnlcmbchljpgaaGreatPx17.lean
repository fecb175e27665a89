/-
  law17 and law20: the program's tables.
  Functions out of code, over the fast tables.
  Contracts of the functions of NvF1.
  Contracts of the functions of NvF2.
  Contracts of the functions of NvF3.
-/
import Derived.Test.YtcnlcmbchljpgaaGreatProg
import Derived.Test.YtcnlcmbchljpgaaGreatPx10
import Derived.Test.YtcnlcmbchljpgaaGreatPx7
import Derived.Test.YtcnlcmbchljpgaaGreatPx11
import Derived.Test.YtcnlcmbchljpgaaGreatPx14
import Derived.Test.YtcnlcmbchljpgaaGreatPx12
set_option linter.unusedVariables false
namespace Go.Ve
open Go Go.Proofs
noncomputable abbrev LF:jC:=jC.fast Tryz.prog 330 310
def G0:Nat→Option (List V):=fun _=>none
abbrev U:=jV
abbrev wN (f:Func):Code:=match f.body with|some c=>c|none=> .skip
theorem mixed:Tryz.prog.follows .mixedOrders=true:=by kernel_rfl
end Go.Ve

namespace Go.Ve
open Go Go.Proofs
instance:Subsingleton U.St:=inferInstanceAs (Subsingleton Unit)
theorem zWX {S:zO U} {A:Nat→Option JA} (hS:qB U Tryz.prog G0 S.toS) {f:FuncId} {fn:Func} {c:Code} (hf:LF.fn f=some fn) (hb:fn.body=some c)
  {ts:List Ty} {R:RTy} {g:ElS ts→Option R.El} (h: ∀s x,exF (Γ:=U) LF G0 S A fn c R s (kJ ts x)=g x):wV U Tryz.prog G0 f (qP (wF ts R g)):=by
 have hl:LF=jC.of Tryz.prog:=jC.fast_eq Tryz.prog 330 310
 rw [hl] at hf h
 exact zYG mixed hS hf hb h
theorem zUX {S:zO U} {A:Nat→Option JA} (hS:qB U Tryz.prog G0 S.toS) {f:FuncId} {fn:Func} {c:Code} (hf:LF.fn f=some fn) (hb:fn.body=some c)
  {ts:List ATy} {R:RTy} {g:ElA ts→Option R.El} (h: ∀s x,exF (Γ:=U) LF G0 S A fn c R s (zVd ts x)=g x):wV U Tryz.prog G0 f (qP (zXK ts R g)):=by
 have hl:LF=jC.of Tryz.prog:=jC.fast_eq Tryz.prog 330 310
 rw [hl] at hf h
 exact zYI mixed hS hf hb h
theorem vJ {S:zO U} {A:Nat→Option JA} (hS:qB U Tryz.prog G0 S.toS) {f:FuncId} {fn:Func} {c:Code} (hf:LF.fn f=some fn) (hb:fn.body=some c)
  {X:Type} {dec:List V→Option X} {enc:X→List V} (hdec: ∀ds x,dec ds=some x→wQ ds (enc x)) {R:RTy} {g:X→Option R.El} (h: ∀s x,exF (Γ:=U) LF G0 S A fn c R s (enc x)=g x):wV U Tryz.prog G0 f (qP (vA dec R g)):=by
 have hl:LF=jC.of Tryz.prog:=jC.fast_eq Tryz.prog 330 310
 rw [hl] at hf h
 exact zOZ mixed hS hf hb hdec h
theorem vK {S:zO U} {A:Nat→Option JA} (hS:qB U Tryz.prog G0 S.toS) {f:FuncId} {fn:Func} {c:Code} (hf:LF.fn f=some fn) (hb:fn.body=some c)
  {t:Ty} {ts:List ATy} {R:RTy} (hpl:R.pl=true) (hno: ∀ty,R≠ .o ty) {g:List t.El→ElA ts→Option (List t.El×R.El)} (h: ∀s xs x,qBi (Γ:=U) LF G0 S A fn c t R s xs (zVd ts x)=g xs x):zBB U Tryz.prog G0 f t (uH ts) R g:=by
 have hl:LF=jC.of Tryz.prog:=jC.fast_eq Tryz.prog 330 310
 rw [hl] at hf h
 exact zYH mixed hS hf hb (zGo ts) (zY4 ts) hpl hno h
theorem zUV {S:zO U} {A:Nat→Option JA} (hS:qB U Tryz.prog G0 S.toS) {f:FuncId} {fn:Func} {c:Code} (hf:LF.fn f=some fn) (hb:fn.body=some c)
  {t:Ty} {p:Nat} {ts:List ATy} {R:RTy} (hpl:R.pl=true) (hno: ∀ty,R≠ .o ty) {g:t.El→ElA ts→Option (t.El×R.El)} (h: ∀s y x,qBh (Γ:=U) LF G0 S A fn c t R p s y (zVd ts x)=g y x):zUa U Tryz.prog G0 f t p (uH ts) R g:=by
 have hl:LF=jC.of Tryz.prog:=jC.fast_eq Tryz.prog 330 310
 rw [hl] at hf h
 exact zYF mixed hS hf hb (zGo ts) hpl hno h
theorem zUW {tE:Ty} {S:zO (wC tE)} {A:Nat→Option JA} (hst: ∀k j,A k=some j→zFm j.sl=true) (hS:qB (wC tE) Tryz.prog G0 S.toS) {f:FuncId} {fn:Func} {c:Code} (hf:LF.fn f=some fn) (hb:fn.body=some c)
  {ts:List Ty} {R:RTy} {g:HSt tE→ElS ts→Option (HSt tE×R.El)} (h: ∀s x,qBg (Γ:=wC tE) LF G0 S A fn c R s (kJ ts x)=g s x):wV (wC tE) Tryz.prog G0 f (qP (zMH (zEY ts) R g)):=by
 have hl:LF=jC.of Tryz.prog:=jC.fast_eq Tryz.prog 330 310
 rw [hl] at hf h
 exact zYE hst mixed hS hf hb (uS ts) h
structure Ent where
 ad:zO U→zO U
 ok: ∀S:zO U,qB U Tryz.prog G0 S.toS→qB U Tryz.prog G0 (ad S).toS
def zZ {f:FuncId} {sp:U.St→List V→Option (zDq U.St)} (hi:zHB Tryz.prog f=true) (h:wV U Tryz.prog G0 f (qP sp)):Ent:=⟨fun S=>S.add f sp,fun _ hS=>qY hS hi h⟩
def qBk {f:FuncId} {t:Ty} {X:Type} {dec:List V→Option X} {R:RTy} {g:List t.El→X→Option (List t.El×R.El)} (hi:zHB Tryz.prog f=true) (h:zBB U Tryz.prog G0 f t dec R g):Ent:=⟨fun S=>S.addB f (vF t dec R g),fun _ hS=>wE hS hi h⟩
def qCe {f:FuncId} {t:Ty} {p:Nat} {X:Type} {dec:List V→Option X} {R:RTy} {g:t.El→X→Option (t.El×R.El)} (hi:zHB Tryz.prog f=true) (h:zUa U Tryz.prog G0 f t p dec R g):Ent:=⟨fun S=>S.addB f (zRg t p dec R g),fun _ hS=>zSq hS hi h⟩
def qCf {f:FuncId} {t:Ty} {X:Type} {dec:List V→Option X} {g:List t.El→X→Option (List t.El)} (hi:zHB Tryz.prog f=true) (h:zWh U Tryz.prog G0 f t dec g):Ent:=⟨fun S=>S.addB f (zEr t dec g),fun _ hS=>zSr hS hi h⟩
def qBP:Ent:=⟨fun S=>S.addE,fun _ hS=>zSt hS (by kernel_rfl)⟩
def zYX:List Ent→zO U
 |[]=>zO.none U
 |e::r=>e.ad (zYX r)
theorem zNU: ∀l,qB U Tryz.prog G0 (zYX l).toS
 |[]=>z6
 |e::r=>e.ok _ (zNU r)
abbrev OkX (f:FuncId) (ts:List Ty) (R:RTy) (g:ElS ts→Option R.El):Prop:=wV U Tryz.prog G0 f (qP (wF ts R g))
abbrev OkA (f:FuncId) (ts:List ATy) (R:RTy) (g:ElA ts→Option R.El):Prop:=wV U Tryz.prog G0 f (qP (zXK ts R g))
theorem fX (l:List Ent) {A:Nat→Option JA} {f:FuncId} {fn:Func} (hf:LF.fn f=some fn) (hb:fn.body=some (wN fn))
  {ts:List Ty} {R:RTy} {g:ElS ts→Option R.El} (h: ∀s x,exF (Γ:=U) LF G0 (zYX l) A fn (wN fn) R s (kJ ts x)=g x):OkX f ts R g:=zWX (zNU l) hf hb h
theorem fA (l:List Ent) {A:Nat→Option JA} {f:FuncId} {fn:Func} (hf:LF.fn f=some fn) (hb:fn.body=some (wN fn))
  {ts:List ATy} {R:RTy} {g:ElA ts→Option R.El} (h: ∀s x,exF (Γ:=U) LF G0 (zYX l) A fn (wN fn) R s (zVd ts x)=g x):OkA f ts R g:=zUX (zNU l) hf hb h
def jj (k b:Nat) (l:List (Nat×Nat×Nat)) (s:List zBF):Nat×JA:=(k,⟨b,l,s⟩)
def jl:List (Nat×JA)→Nat→Option JA
 |[],_=>none
 |(a,j)::r,k=>match Nat.beq a k with
  |true=>some j
  |false=>jl r k
end Go.Ve

namespace Go.Ve
open Go Go.Proofs
set_option maxRecDepth 1000000
set_option maxHeartbeats 0
theorem zRx:OkX 128 [tI] (.p tU) zBs:=fX [] (A:=(jl [jj 16 22906404928 [] [.t 3 tU],jj 13 22906492224 [] [.t 4 tI, .t 3 tU],jj 28 22906492224 [] [.t 3 tU]])) (fn:=Tryz.f128) (by kernel_rfl) (by kernel_rfl) (by rintro ⟨⟩ ⟨a1,⟨⟩⟩;kernel_rfl)
noncomputable def zHL:Ent:=zZ (by kernel_rfl) zRx
theorem zPZ:OkX 71 [zH] (.p .bool) wY:=fX [zHL] (A:=(jl [jj 6 366503875920 [] [.t 2 .bool]])) (fn:=Tryz.f71) (by kernel_rfl) (by kernel_rfl) (by rintro ⟨⟩ ⟨a1,⟨⟩⟩;kernel_rfl)
noncomputable def zCd:Ent:=zZ (by kernel_rfl) zPZ
theorem zLT:OkX 101 [zH,tU] (.p .bool) xV:=fX [zHL] (A:=fun _=>none) (fn:=Tryz.f101) (by kernel_rfl) (by kernel_rfl) (by rintro ⟨⟩ ⟨a1,a2,⟨⟩⟩;kernel_rfl)
noncomputable def zNF:Ent:=zZ (by kernel_rfl) zLT
theorem zOB:OkX 44 [zH,zH] (.p .bool) vB:=fX [zNF] (A:=(jl [jj 6 1431655680 [] [.t 4 .bool]])) (fn:=Tryz.f44) (by kernel_rfl) (by kernel_rfl) (by rintro ⟨⟩ ⟨a1,a2,⟨⟩⟩;kernel_rfl)
noncomputable def zEX:Ent:=zZ (by kernel_rfl) zOB
theorem zJx:OkX 64 [zD, .str] (.p tI) jZ:=fX [] (A:=(jl [jj 9 5864062014720 [] [.t 5 tI],jj 24 5864062014720 [] []])) (fn:=Tryz.f64) (by kernel_rfl) (by kernel_rfl) (by rintro ⟨⟩ ⟨a1,a2,⟨⟩⟩;kernel_rfl)
noncomputable def zCc:Ent:=zZ (by kernel_rfl) zJx
theorem zLR:OkX 134 [zD, .str] (.p tI) jP:=fX [] (A:=(jl [jj 9 5864062014720 [] [.t 5 tI],jj 24 5864062014720 [] []])) (fn:=Tryz.f134) (by kernel_rfl) (by kernel_rfl) (by rintro ⟨⟩ ⟨a1,a2,⟨⟩⟩;kernel_rfl)
noncomputable def xR:Ent:=zZ (by kernel_rfl) zLR
theorem zOA:OkX 248 [(.int .u8)] (.p .bool) zCV:=fX [] (A:=(jl [jj 6 5726623056 [] [.t 2 .bool]])) (fn:=Tryz.f248) (by kernel_rfl) (by kernel_rfl) (by rintro ⟨⟩ ⟨a1,⟨⟩⟩;kernel_rfl)
noncomputable def zQe:Ent:=zZ (by kernel_rfl) zOA
theorem zRw:OkX 202 [.str] (.p .bool) zBr:=fX [zQe] (A:=(jl [jj 6 91625968640 [] [.t 18 .bool],jj 30 1730765619511609185490967430430720 [] [.t 55 .bool],jj 17 1730765619511609209510073817104720 [] [.t 3 tI],jj 36 1730765619511609209510073817104720 [] []])) (fn:=Tryz.f202) (by kernel_rfl) (by kernel_rfl) (by rintro ⟨⟩ ⟨a1,⟨⟩⟩;kernel_rfl)
noncomputable def zC4:Ent:=zZ (by kernel_rfl) zRw
theorem zOy:OkX 203 [tI,tI,tI] (.p .bool) zY:=fX [] (A:=(jl [jj 6 357912576 [] [.t 6 .bool]])) (fn:=Tryz.f203) (by kernel_rfl) (by kernel_rfl) (by rintro ⟨⟩ ⟨a1,a2,a3,⟨⟩⟩;kernel_rfl)
noncomputable def wA:Ent:=zZ (by kernel_rfl) zOy
theorem zGz:OkX 113 [tU,tI] (.p zH) w7:=fX [zHL] (A:=fun _=>none) (fn:=Tryz.f113) (by kernel_rfl) (by kernel_rfl) (by rintro ⟨⟩ ⟨a1,a2,⟨⟩⟩;kernel_rfl)
noncomputable def zPn:Ent:=zZ (by kernel_rfl) zGz
theorem zLS:OkX 249 [zH,zH] (.p .bool) uL:=fX [zEX] (A:=(jl [jj 6 22369536 [] [.t 4 .bool]])) (fn:=Tryz.f249) (by kernel_rfl) (by kernel_rfl) (by rintro ⟨⟩ ⟨a1,a2,⟨⟩⟩;kernel_rfl)
noncomputable def zGE:Ent:=zZ (by kernel_rfl) zLS
theorem zJw:OkX 204 [(.sl z2)] (.p tI) kM:=fX [zGE,zPn,wA,zC4] (A:=(jl [jj 41 6296488550001201382416 [] [.t 5 tI],jj 56 6296488550001201382416 [] [],jj 58 27043212798572405254770141429760 [] [.t 52 .bool],jj 66 133911503688249189628496841001387004071981355583303067893760 [] [.t 98 .bool],jj 74 38597363079105398340612157981313446322593153860116637802968945187404973604864 [] [.t 127 .bool],jj 94 45567723432979415051570096605279850406945466927309786544954066201002041624518809725788842937548800 [] [.t 162 .bool],jj 85 45567723432979415091055199035204673046383172815272363122919130971985473961973845872487220144771088 [] [.t 6 tI],jj 20 45567723432979415091093796398283778444857696476941925758870220966874020816653665067156523089663760 [] [],jj 17 45567723432979415091093796398283778444857696476941925758870220966874020816653665067156524520970064 [] [.t 3 tI],jj 100 45567723432979415091093796398283778444857696476941925758870220966874020816653665067156524520970064 [] []])) (fn:=Tryz.f204) (by kernel_rfl) (by kernel_rfl) (by rintro ⟨⟩ ⟨a1,⟨⟩⟩;kernel_rfl)
noncomputable def zLi:Ent:=zZ (by kernel_rfl) zJw
theorem zFh:OkX 250 [xW] (.p .bool) kU:=fX [zCd] (A:=(jl [jj 6 1501199875790160 [] [.t 2 .bool]])) (fn:=Tryz.f250) (by kernel_rfl) (by kernel_rfl) (by rintro ⟨⟩ ⟨a1,⟨⟩⟩;kernel_rfl)
noncomputable def zGj:Ent:=zZ (by kernel_rfl) zFh
theorem zIx:OkX 205 [(.sl j4)] (.p tI) yG:=fX [zGj,zC4] (A:=(jl [jj 37 25185954569440712458512 [] [.t 4 tI],jj 52 25185954569440712458512 [] [],jj 73 7433581732836780243977355534074804751565840 [] [.t 5 tI],jj 20 7433581732843541047178572757549453477414160 [] [],jj 17 7433581732843541047178572757549453835240784 [] [.t 3 tI],jj 88 7433581732843541047178572757549453835240784 [] []])) (fn:=Tryz.f205) (by kernel_rfl) (by kernel_rfl) (by rintro ⟨⟩ ⟨a1,⟨⟩⟩;kernel_rfl)
noncomputable def zJP:Ent:=zZ (by kernel_rfl) zIx
theorem zKL:OkX 206 [zD] (.p tI) kD:=fX [wA,zCc,zC4] (A:=(jl [jj 41 6447604369776822389310480 [] [.t 5 tI],jj 56 6447604369776822389310480 [] [],jj 90 124714687448262656856724350867958696886044878438400 [] [.t 83 .bool],jj 98 8986648889050213140174198643436161204497942415724039816394959749120 [] [.t 111 .bool],jj 77 8986648889050213264889005029006541827113428629237647983535760396304 [] [.t 6 tI],jj 24 8986648889050213264889005029006543557879048140846857493609577501712 [] [],jj 21 8986648889050213264889005029006543557879048140846857493701181101328 [] [.t 4 tI],jj 104 8986648889050213264889005029006543557879048140846857493701181101328 [] []])) (fn:=Tryz.f206) (by kernel_rfl) (by kernel_rfl) (by rintro ⟨⟩ ⟨a1,⟨⟩⟩;kernel_rfl)
noncomputable def zMi:Ent:=zZ (by kernel_rfl) zKL
theorem zPW:OkX 279 [zM] (.p .bool) zDV:=fX [] (A:=(jl [jj 6 22906492240 [] [.t 2 .bool]])) (fn:=Tryz.f279) (by kernel_rfl) (by kernel_rfl) (by rintro ⟨⟩ ⟨a1,⟨⟩⟩;kernel_rfl)
noncomputable def zRT:Ent:=zZ (by kernel_rfl) zPW
theorem zS2:OkX 280 [zM] (.p .bool) zHm:=fX [] (A:=fun _=>none) (fn:=Tryz.f280) (by kernel_rfl) (by kernel_rfl) (by rintro ⟨⟩ ⟨a1,⟨⟩⟩;kernel_rfl)
noncomputable def zVe:Ent:=zZ (by kernel_rfl) zS2
theorem zKO:OkX 251 [zSu] (.p .bool) zBT:=fX [zVe,zRT,wA] (A:=(jl [jj 6 100743818301219097892160 [] [.t 38 .bool],jj 14 6923062477945693019739442674401296 [] [.t 2 .bool]])) (fn:=Tryz.f251) (by kernel_rfl) (by kernel_rfl) (by rintro ⟨⟩ ⟨a1,⟨⟩⟩;kernel_rfl)
noncomputable def zMl:Ent:=zZ (by kernel_rfl) zKO
theorem zIy:OkX 207 [(.sl zLG)] (.p tI) yI:=fX [zMl,zC4] (A:=(jl [jj 37 25185954569440712458512 [] [.t 4 tI],jj 52 25185954569440712458512 [] [],jj 73 7433581732836780243977355534074804751565840 [] [.t 5 tI],jj 20 7433581732843541047178572757549453477414160 [] [],jj 17 7433581732843541047178572757549453835240784 [] [.t 3 tI],jj 88 7433581732843541047178572757549453835240784 [] []])) (fn:=Tryz.f207) (by kernel_rfl) (by kernel_rfl) (by rintro ⟨⟩ ⟨a1,⟨⟩⟩;kernel_rfl)
noncomputable def zJQ:Ent:=zZ (by kernel_rfl) zIy
theorem zS3:OkX 252 [zD, .str] (.p tI) zDX:=fX [] (A:=(jl [jj 9 5864062014720 [] [.t 5 tI],jj 24 5864062014720 [] []])) (fn:=Tryz.f252) (by kernel_rfl) (by kernel_rfl) (by rintro ⟨⟩ ⟨a1,a2,⟨⟩⟩;kernel_rfl)
noncomputable def zPm:Ent:=zZ (by kernel_rfl) zS3
theorem zHq:OkX 208 [zD] (.p tI) kS:=fX [zPm,wA] (A:=(jl [jj 42 412646679760292225090585600 [] [.t 5 .bool],jj 50 30447950777727144122641087138733868110036599808 [] [.t 5 .bool],jj 58 37692737381938865697777012862015049227352017065451593534499925742265041920 [] [.t 5 .bool],jj 60 37692737381938865697777013349182261670986323133346537773260926430180541440 [] [.t 5 .bool],jj 70 632378593604264737584744508361900640506471740472781533529553313286966197459353600 [] [.t 134 .bool],jj 17 632379196688062848606595672794114227422658476253951667074157685461882905339889488 [] [.t 3 tI],jj 76 632379196688062848606595672794114227422658476253951667074157685461882905339889488 [] []])) (fn:=Tryz.f208) (by kernel_rfl) (by kernel_rfl) (by rintro ⟨⟩ ⟨a1,⟨⟩⟩;kernel_rfl)
noncomputable def zIJ:Ent:=zZ (by kernel_rfl) zHq
theorem zNi:OkX 209 [zD] (.p tI) zBS:=fX [zPm] (A:=(jl [jj 22 100743818301213371269120 [] [.t 38 .bool],jj 9 100743818301219097892688 [] [.t 3 tI],jj 28 100743818301219097892688 [] []])) (fn:=Tryz.f209) (by kernel_rfl) (by kernel_rfl) (by rintro ⟨⟩ ⟨a1,⟨⟩⟩;kernel_rfl)
noncomputable def zPk:Ent:=zZ (by kernel_rfl) zNi
theorem zNk:OkX 174 [zD,tU] (.p tI) xE:=fX [] (A:=(jl [jj 18 384307168179912704 [] [.t 29 .bool],jj 9 1537228672809129216 [] [.t 5 tI],jj 24 1537228672809129216 [] []])) (fn:=Tryz.f174) (by kernel_rfl) (by kernel_rfl) (by rintro ⟨⟩ ⟨a1,a2,⟨⟩⟩;kernel_rfl)
noncomputable def zHK:Ent:=zZ (by kernel_rfl) zNk
theorem zKP:OkX 172 [zD, .str] (.p tI) yJ:=fX [] (A:=(jl [jj 9 5864062014720 [] [.t 5 tI],jj 24 5864062014720 [] []])) (fn:=Tryz.f172) (by kernel_rfl) (by kernel_rfl) (by rintro ⟨⟩ ⟨a1,a2,⟨⟩⟩;kernel_rfl)
noncomputable def zMm:Ent:=zZ (by kernel_rfl) zKP
theorem zNh:OkX 210 [zD] (.p tI) zAu:=fX [zMm,wA,zHK,zCd] (A:=(jl [jj 40 95982967058334720 [] [.t 5 tI],jj 48 98286558267733705728 [] [.t 5 tI],jj 56 25087571940244990198784 [] [.t 5 tI],jj 58 464598858302721315423474842771536090234880 [] [.t 69 .bool],jj 88 1995436901704527259351376376153304285490059033972736 [] [],jj 102 2246662222260509988834430072107158093433561622966889387929056051200 [] [.t 110 .bool],jj 93 2246662222262551320785349088125518235372070433246631536525402193936 [] [.t 7 tI],jj 20 2246662222262553316222251257251635889469762035211714373333674907408 [] [],jj 17 2246662222262553316222251257251635889469762035211714373425295284048 [] [.t 3 tI],jj 108 2246662222262553316222251257251635889469762035211714373425295284048 [] []])) (fn:=Tryz.f210) (by kernel_rfl) (by kernel_rfl) (by rintro ⟨⟩ ⟨a1,⟨⟩⟩;kernel_rfl)
noncomputable def zPj:Ent:=zZ (by kernel_rfl) zNh
theorem zFg:OkX 253 [zD,(.sl jN),tI,tI,tI] (.p tI) wG:=fX [xR,wA] (A:=(jl [jj 30 1690200800304299863862767779840 [] [.t 50 .bool],jj 38 7433581732841850846378268451680791564386304 [] [.t 71 .bool],jj 46 7794667965516416053545271929247418555377804902400 [] [.t 81 .bool],jj 57 523091803487547997888166888180986426855020182207097470976 [] [.t 13 tI],jj 20 523091811282223396986315785267305534675196263582539972608 [] [],jj 17 523091811282223396986315785267305534675196287033065603072 [] [.t 11 tI],jj 72 523091811282223396986315785267305534675196287033065603072 [] []])) (fn:=Tryz.f253) (by kernel_rfl) (by kernel_rfl) (by rintro ⟨⟩ ⟨a1,a2,a3,a4,a5,⟨⟩⟩;kernel_rfl)
noncomputable def xG:Ent:=zZ (by kernel_rfl) zFg
theorem zKN:OkX 211 [zD] (.p tI) zAd:=fX [xG,zGE,zCd,wA] (A:=(jl [jj 14 1501199874392064 [] [.t 25 .bool],jj 54 110768999647131088315831082790420480 [] [.t 58 .bool],jj 74 8173309551284740464483728504488827824841739507723141120 [] [.t 91 .bool],jj 65 8173309551284740577800415145152905989891291396622517264 [] [.t 5 tI],jj 48 8173309551284740577911184144800037078207122479412937744 [] [],jj 45 8173309551284740577911184144801648880917306925194937616 [] [.t 4 tI],jj 80 8173309551284740577911184144801648880917306925194937616 [] []])) (fn:=Tryz.f211) (by kernel_rfl) (by kernel_rfl) (by rintro ⟨⟩ ⟨a1,⟨⟩⟩;kernel_rfl)
noncomputable def zMk:Ent:=zZ (by kernel_rfl) zKN
theorem zLQ:OkX 212 [zD] (.p tI) zAU:=fX [xG,zCc,wA] (A:=(jl [jj 14 24019198012555264 [] [.t 27 .bool],jj 34 108172851219469426679694103674880 [] [.t 53 .bool]])) (fn:=Tryz.f212) (by kernel_rfl) (by kernel_rfl) (by rintro ⟨⟩ ⟨a1,⟨⟩⟩;kernel_rfl)
noncomputable def zNE:Ent:=zZ (by kernel_rfl) zLQ
theorem zKM:OkX 254 [zD] (.p tI) yH:=fX [xR,wA] (A:=(jl [jj 30 24595658742039576576 [] [.t 32 .bool],jj 38 7259357160980020553860729299779442442240 [] [.t 66 .bool],jj 49 31178701589133238427365255877395379460782172406800 [] [.t 5 tI],jj 24 31178701596392595588345276431280704419303654425616 [] [],jj 21 31178701596392595588345276431280704419326555325712 [] [.t 4 tI],jj 64 31178701596392595588345276431280704419326555325712 [] []])) (fn:=Tryz.f254) (by kernel_rfl) (by kernel_rfl) (by rintro ⟨⟩ ⟨a1,⟨⟩⟩;kernel_rfl)
noncomputable def zMj:Ent:=zZ (by kernel_rfl) zKM
theorem zHr:OkX 255 [tPV] (.p tI) x7:=fX [zCd] (A:=(jl [jj 37 103161669916429158228951312 [] [.t 4 tI],jj 20 103161669940446890226090256 [] [],jj 17 103161669940448356152115536 [] [.t 3 tI],jj 52 103161669940448356152115536 [] [],jj 85 1948668849746180360361501571666429475588596043792 [] [.t 6 tI],jj 68 1948668849774536791580174899052741648666549293072 [] [],jj 65 1948668849774537224245170389450289247010062078992 [] [.t 5 tI],jj 100 1948668849774537224245170389450289247010062078992 [] [],jj 126 8776015936244118375918817192586638416352703146905166652479897600 [] [.t 106 .bool],jj 145 2412335183457438515607515589458659717936581122655130276641842173130320379920 [] [.t 9 tI],jj 116 2412335192444087404649555544796380006365213496389376768509399724846544781328 [] [],jj 113 2412335192444087404657728355488439204661595267009755516997428957606549340176 [] [.t 7 tI],jj 160 2412335192444087404657728355488439204661595267009755516997428957606549340176 [] []])) (fn:=Tryz.f255) (by kernel_rfl) (by kernel_rfl) (by rintro ⟨⟩ ⟨a1,⟨⟩⟩;kernel_rfl)
noncomputable def zIK:Ent:=zZ (by kernel_rfl) zHr
theorem zJv:OkX 213 [zD] (.p tI) vI:=fX [xG,zIK,zMj,wA] (A:=(jl [jj 14 1611901092819505564876800 [] [.t 40 .bool],jj 26 1730765617899708116690659876798464 [] [.t 55 .bool]])) (fn:=Tryz.f213) (by kernel_rfl) (by kernel_rfl) (by rintro ⟨⟩ ⟨a1,⟨⟩⟩;kernel_rfl)
noncomputable def zLh:Ent:=zZ (by kernel_rfl) zJv
theorem zIA:OkX 173 [zD] (.p tI) vZ:=fX [zLh,zNE,zMk,zPj,zPk,zIJ,zJQ,zMi,zJP,zLi,wA,zC4] (A:=(jl [jj 29 6760803194920734830822890144016 [] [.t 4 tI],jj 44 6760803194920734830822890144016 [] []])) (fn:=Tryz.f173) (by kernel_rfl) (by kernel_rfl) (by rintro ⟨⟩ ⟨a1,⟨⟩⟩;kernel_rfl)
noncomputable def zJS:Ent:=zZ (by kernel_rfl) zIA
theorem zPX:OkX 144 [zW] (.p tI) uK:=fX [zHK,zJS] (A:=(jl [jj 41 6602346876092618007411426320 [] [.t 5 tI],jj 56 6602346876092618007411426320 [] [],jj 86 1995436894735544384810556644423392325287446063349760 [] [.t 85 .bool],jj 77 1995436902161866760493117671048079757878355510231056 [] [.t 8 tI],jj 64 1995436902169126089961847779416217730674252809617424 [] [],jj 61 1995436902169126117654091089255088894142100436799504 [] [.t 6 tI],jj 20 1995436902169126117654097691601965010778939356992784 [] [],jj 17 1995436902169126117654097691601965082836899876427088 [] [.t 3 tI],jj 92 1995436902169126117654097691601965082836899876427088 [] []])) (fn:=Tryz.f144) (by kernel_rfl) (by kernel_rfl) (by rintro ⟨⟩ ⟨a1,⟨⟩⟩;kernel_rfl)
end Go.Ve

namespace Go.Ve
open Go Go.Proofs
set_option maxRecDepth 1000000
set_option maxHeartbeats 0
theorem zNo:OkX 72 [tI,tI,tI] (.p .bool) jF:=fX [] (A:=(jl [jj 6 357912576 [] [.t 6 .bool]])) (fn:=Tryz.f72) (by kernel_rfl) (by kernel_rfl) (by rintro ⟨⟩ ⟨a1,a2,a3,⟨⟩⟩;kernel_rfl)
noncomputable def zAm:Ent:=zZ (by kernel_rfl) zNo
theorem zOC:OkX 73 [zA, .bool, .bool, .bool] (.p .bool) yW:=fX [] (A:=(jl [jj 6 6447604371278022265077760 [] [.t 8 .bool]])) (fn:=Tryz.f73) (by kernel_rfl) (by kernel_rfl) (by rintro ⟨⟩ ⟨a1,a2,a3,a4,⟨⟩⟩;kernel_rfl)
noncomputable def zA2:Ent:=zZ (by kernel_rfl) zOC
theorem zLU:OkX 129 [qS,qS] (.p .bool) zCO:=fX [] (A:=(jl [jj 6 93824992236800 [] [.t 4 .bool]])) (fn:=Tryz.f129) (by kernel_rfl) (by kernel_rfl) (by rintro ⟨⟩ ⟨a1,a2,⟨⟩⟩;kernel_rfl)
noncomputable def zNG:Ent:=zZ (by kernel_rfl) zLU
theorem zP1:OkX 74 [(.sl qS), .bool] (.p .bool) uM:=fX [zNG] (A:=(jl [jj 18 412646679761793424960782336 [] [.t 44 .bool],jj 9 412646679761793424966374656 [] [.t 5 tI],jj 24 412646679761793424966374656 [] []])) (fn:=Tryz.f74) (by kernel_rfl) (by kernel_rfl) (by rintro ⟨⟩ ⟨a1,a2,⟨⟩⟩;kernel_rfl)
noncomputable def zCe:Ent:=zZ (by kernel_rfl) zP1
theorem zHs:OkX 75 [zA] (.p .bool) x8:=fX [zCe,zA2,zAm] (A:=(jl [jj 6 5864062014784 [] [.t 21 .bool],jj 18 393529039039261310992 [] [.t 2 .bool],jj 30 1690194352699934590640005840912 [] [.t 2 .bool]])) (fn:=Tryz.f75) (by kernel_rfl) (by kernel_rfl) (by rintro ⟨⟩ ⟨a1,⟨⟩⟩;kernel_rfl)
noncomputable def zIL:Ent:=zZ (by kernel_rfl) zHs
theorem zFi:OkX 76 [zA] (.p .bool) kW:=fX [zCe,zA2,zAm] (A:=(jl [jj 6 93824992236864 [] [.t 23 .bool],jj 14 25185954481479782236160 [] [.t 37 .bool],jj 26 110768999648340014135445711965126672 [] [.t 2 .bool],jj 30 29037317874920433472551891183589197348880 [] [.t 2 .bool]])) (fn:=Tryz.f76) (by kernel_rfl) (by kernel_rfl) (by rintro ⟨⟩ ⟨a1,⟨⟩⟩;kernel_rfl)
noncomputable def zGl:Ent:=zZ (by kernel_rfl) zFi
theorem zFY:OkX 77 [zA] (.p .bool) u4:=fX [zCe,zA2,zAm] (A:=(jl [jj 6 5864062014784 [] [.t 21 .bool],jj 22 412646679760292225090584592 [] [.t 2 .bool],jj 38 7089188934306746453259739058493456400 [] [.t 2 .bool]])) (fn:=Tryz.f77) (by kernel_rfl) (by kernel_rfl) (by rintro ⟨⟩ ⟨a1,⟨⟩⟩;kernel_rfl)
noncomputable def zG3:Ent:=zZ (by kernel_rfl) zFY
theorem zJy:OkX 78 [zA] (.p .bool) zA7:=fX [zCe,zA2,zAm] (A:=(jl [jj 6 93824992236864 [] [.t 23 .bool],jj 24 94575592174780416 [] [.t 26 .bool],jj 26 6760803201217127397857033191440 [] [.t 2 .bool],jj 36 425930601676685078902892277006336 [] [.t 52 .bool],jj 38 523091811282223396986315352575900656772893909497308774416 [] [.t 2 .bool]])) (fn:=Tryz.f78) (by kernel_rfl) (by kernel_rfl) (by rintro ⟨⟩ ⟨a1,⟨⟩⟩;kernel_rfl)
noncomputable def zLk:Ent:=zZ (by kernel_rfl) zJy
theorem zOD:OkX 32 [zA] (.p .bool) zEv:=fX [zLk,zG3,zGl,zIL,zCe,zA2,zAm,zCd] (A:=(jl [jj 6 366503875840 [] [.t 19 .bool],jj 17 98382634693280399440 [] [.t 3 tI],jj 32 98382634693280399440 [] [],jj 42 1902996923607946508077689439978084877069189136 [] [.t 2 .bool]])) (fn:=Tryz.f32) (by kernel_rfl) (by kernel_rfl) (by rintro ⟨⟩ ⟨a1,⟨⟩⟩;kernel_rfl)
noncomputable def zQf:Ent:=zZ (by kernel_rfl) zOD
theorem zNl:OkX 102 [zH,zH] (.p tI) zBV:=fX [] (A:=(jl [jj 6 93824992236544 [] [.t 23 .bool]])) (fn:=Tryz.f102) (by kernel_rfl) (by kernel_rfl) (by rintro ⟨⟩ ⟨a1,a2,⟨⟩⟩;kernel_rfl)
theorem zIt:OkX 176 [(.sl zM),zM] (.p tI) zAq:=fX [] (A:=(jl [jj 9 91625948416 [] [.t 8 tI],jj 28 91625968896 [] []])) (fn:=Tryz.f176) (by kernel_rfl) (by kernel_rfl) (by rintro ⟨⟩ ⟨a1,a2,⟨⟩⟩;kernel_rfl)
noncomputable def zJN:Ent:=zZ (by kernel_rfl) zIt
theorem zFX:OkX 152 [(.sl zM),zM] (.p .bool) uZ:=fX [zJN] (A:=fun _=>none) (fn:=Tryz.f152) (by kernel_rfl) (by kernel_rfl) (by rintro ⟨⟩ ⟨a1,a2,⟨⟩⟩;kernel_rfl)
noncomputable def zG2:Ent:=zZ (by kernel_rfl) zFX
theorem zOv:OkX 117 [zS,tI,tI] (.p tI) zBo:=fX [zG2] (A:=(jl [jj 13 24019192286875648 [] [.t 17 tI],jj 32 24019197991129088 [] []])) (fn:=Tryz.f117) (by kernel_rfl) (by kernel_rfl) (by rintro ⟨⟩ ⟨a1,a2,a3,⟨⟩⟩;kernel_rfl)
noncomputable def zEW:Ent:=zZ (by kernel_rfl) zOv
theorem zIs:OkX 135 [(.sl tI),tI] (.p tI) yF:=fX [] (A:=(jl [jj 9 91625948416 [] [.t 8 tI],jj 28 91625968896 [] []])) (fn:=Tryz.f135) (by kernel_rfl) (by kernel_rfl) (by rintro ⟨⟩ ⟨a1,a2,⟨⟩⟩;kernel_rfl)
noncomputable def zD8:Ent:=zZ (by kernel_rfl) zIs
theorem zRv:OkX 145 [zS,tI,tI] (.p tI) zHX:=fX [zD8,zEW] (A:=fun _=>none) (fn:=Tryz.f145) (by kernel_rfl) (by kernel_rfl) (by rintro ⟨⟩ ⟨a1,a2,a3,⟨⟩⟩;kernel_rfl)
noncomputable def zTD:Ent:=zZ (by kernel_rfl) zRv
theorem zFW:OkX 87 [(.sl tI),tI] (.p .bool) vL:=fX [zD8] (A:=fun _=>none) (fn:=Tryz.f87) (by kernel_rfl) (by kernel_rfl) (by rintro ⟨⟩ ⟨a1,a2,⟨⟩⟩;kernel_rfl)
noncomputable def zCt:Ent:=zZ (by kernel_rfl) zFW
theorem zUG:OkX 107 [zS,tI,tI] (.p .bool) zHW:=fX [zCt,zTD,zEW] (A:=(jl [jj 18 1501194149171200 [] [.t 6 .bool]])) (fn:=Tryz.f107) (by kernel_rfl) (by kernel_rfl) (by rintro ⟨⟩ ⟨a1,a2,a3,⟨⟩⟩;kernel_rfl)
noncomputable def zMe:Ent:=zZ (by kernel_rfl) zUG
theorem zP9:OkX 109 [tI] (.p tI) zCI:=fX [] (A:=fun _=>none) (fn:=Tryz.f109) (by kernel_rfl) (by kernel_rfl) (by rintro ⟨⟩ ⟨a1,⟨⟩⟩;kernel_rfl)
noncomputable def zLp:Ent:=zZ (by kernel_rfl) zP9
theorem zRy:OkX 108 [tI] (.p tU) zDM:=fX [zLp] (A:=fun _=>none) (fn:=Tryz.f108) (by kernel_rfl) (by kernel_rfl) (by rintro ⟨⟩ ⟨a1,⟨⟩⟩;kernel_rfl)
noncomputable def zMT:Ent:=zZ (by kernel_rfl) zRy
theorem zLX:OkX 168 [zH,tU] (.p .bool) wO:=fX [zMT] (A:=fun _=>none) (fn:=Tryz.f168) (by kernel_rfl) (by kernel_rfl) (by rintro ⟨⟩ ⟨a1,a2,⟨⟩⟩;kernel_rfl)
noncomputable def zGG:Ent:=zZ (by kernel_rfl) zLX
theorem zNp:OkX 67 [zS,tI,tI] (.p tI) zAw:=fX [] (A:=(jl [jj 21 103161669940448350515040256 [] [.t 8 tI],jj 12 103161669940448350515040256 [] [],jj 9 103161669940448356241592320 [] [.t 7 tI],jj 36 103161669940448356241592320 [] []])) (fn:=Tryz.f67) (by kernel_rfl) (by kernel_rfl) (by rintro ⟨⟩ ⟨a1,a2,a3,⟨⟩⟩;kernel_rfl)
noncomputable def zEa:Ent:=zZ (by kernel_rfl) zNp
theorem zP4:OkX 126 [zS,tI,tI] (.p tI) zFR:=fX [zEa] (A:=(jl [jj 22 24595657298930565120 [] [.t 32 .bool],jj 13 98382635059761975296 [] [.t 8 tI],jj 28 98382635059761975296 [] []])) (fn:=Tryz.f126) (by kernel_rfl) (by kernel_rfl) (by rintro ⟨⟩ ⟨a1,a2,a3,⟨⟩⟩;kernel_rfl)
noncomputable def zRW:Ent:=zZ (by kernel_rfl) zP4
theorem zS4:OkX 66 [zS,tI,tI] (.p .bool) zKw:=fX [zRW,zEa] (A:=(jl [jj 21 6148914668330094592 [] [.t 8 tI],jj 36 6148914668330094592 [] []])) (fn:=Tryz.f66) (by kernel_rfl) (by kernel_rfl) (by rintro ⟨⟩ ⟨a1,a2,a3,⟨⟩⟩;kernel_rfl)
noncomputable def zVf:Ent:=zZ (by kernel_rfl) zS4
theorem zP5:OkX 103 [zD] (.p .bool) zF8:=fX [] (A:=(jl [jj 6 2092367245128893587945263141069222138700785148154678169600 [] [.t 95 .bool],jj 17 2246662220170186071093357669306372748400539896510929225270622683216 [] [.t 3 tI],jj 32 2246662220170186071093357669306372748400539896510929225270622683216 [] [],jj 37 2412335190197425182395175538125413489691488791064416382276985293406222680336 [] [.t 4 tI],jj 52 2412335190197425182395175538125413489691488791064416382276985293406222680336 [] [],jj 57 2590225187221970235448528471106963021175544371793061347801571462163172713442087797776 [] [.t 5 tI],jj 72 2590225187221970235448528471106963021175544371793061347801571462163172713442087797776 [] []])) (fn:=Tryz.f103) (by kernel_rfl) (by kernel_rfl) (by rintro ⟨⟩ ⟨a1,⟨⟩⟩;kernel_rfl)
noncomputable def zRX:Ent:=zZ (by kernel_rfl) zP5
theorem zOF:OkX 46 [zW] (.p .bool) zEA:=fX [zRX] (A:=(jl [jj 17 5864061993040 [] [.t 3 tI],jj 32 5864061993040 [] []])) (fn:=Tryz.f46) (by kernel_rfl) (by kernel_rfl) (by rintro ⟨⟩ ⟨a1,⟨⟩⟩;kernel_rfl)
noncomputable def zQh:Ent:=zZ (by kernel_rfl) zOF
def zEZ:Nat→Option JA:=fun k=>match k with
 |84=>some ⟨184497489401772529385612327842172717039008268166646221893471402059821287234759868672175917131173661172843563441437060059660158104845032398976807920666283692562120150139178769612799511748636278282415866878160176201872937423527853931074825229289817028865471580173776186278979555862451026349435370470386779578868176354099221238174997807148290368091204552361327921521465467763204555046027307456204118567337113234081310864304329682188410055227959601689731512418582605896572426052789584762208778001498785021309361810928365592763602942101060634062780064931573442859418747069999582698364321162101164826918019197244306192189303006234838493212327877025209681605424513505280,[],[.v 5 [.o 1100 zR, .o 1101 tI], .st]⟩
 |25=>some ⟨184497489401772529385612327842172717039008268166646221893471402059821287234759868672175917131173661172843563441437060059660158104845032398976807920666283692562120150139178769612799511748636278282415866878160176201872937423527853931074825229289817028865471580173776186278979555862451026349435370470386779578868176354099221238174997807148290368091204552361327921521465467763204555046027307456204118567337113234081310864304329682188410055227959601689731512418582605896572426052789584762208778001498785021309361810928365592763602942101060634062780064931573442859418747069999582698364321162101164826918019197244306192189303006234838493212327877025209681605424513505280,[],[.t 6 tI, .v 5 [.o 1100 zR, .o 1101 tI], .st]⟩
 |28=>some ⟨184497489401772529385612327842172717039008268166646221893471402059821287234759868672175917131173661172843563441437060059660158104845032398976807920666283692562120150139178769612799511748636278282415866878160176201872937423527853931074825229289817028865471580173776186278979555862451026349435370470386779578868176354099221238174997807148290368091204552361327921521465467763204555046027307456204118567337113234081310864304329682188410055227959601689731512418582605896572426052789584762208778001498785021309361810928365592763602942101060634062780064931573442859418747069999582698364321162101164826918019197244306192189303006234838493212327877025209675600991514216448,[],[.v 5 [.o 1100 zR, .o 1101 tI], .st]⟩
 |37=>some ⟨184497489401772529385612327842172717039008268166646221893471402059821287234759868672175917131173661172843563441437060059660158104845032398976807920666283692562120150139178769612799511748636278282415866878160176201872937423527853931074825229289817028865471580173776186278979555862451026349435370470386779578868176354099221238174997807148290368091204552361327921521465467763204555046027307456204118567337113234081310864304329682188410055227959601689731512418582605896572426052789584762208778001498785021309361810928365592763602942101060634062780064931573442859418747069999582698364321162101164826918019197244306192189303006234838493212327877025209675600991514216448,[],[.t 7 tI, .v 5 [.o 1100 zR, .o 1101 tI], .st]⟩
 |40=>some ⟨184497489401772529385612327842172717039008268166646221893471402059821287234759868672175917131173661172843563441437060059660158104845032398976807920666283692562120150139178769612799511748636278282415866878160176201872937423527853931074825229289817028865471580173776186278979555862451026349435370470386779578868176354099221238174997807148290368091204552361327921521465467763204555046027307456204118567337113234081310864304329682188410055227959601689731512418582605896572426052789584762208778001498785021309361810928365592763602942101060634062780064931573442859418747069999582698364321162101164826918019197244306192189303006234838493212327877000023727030486242887680,[],[.v 5 [.o 1100 zR, .o 1101 tI], .st]⟩
 |80=>some ⟨184497489401772529385612327842172717039008268166646221893471402059821287234759868672175917131173661172843563441437060059660158104845032398976807920666283692562120150139178769612799511748636278282415866878160176201872937423527853931074825229289817028865471580173776186278979555862451026349435370470386779578868176354099221238174997807148290368091204552361327921521465467763204555046027307456204118567337113234081310864304329682188410055227959601689731512418582605896572426052789584762208778001498785021309361810928365592763602942101060634062780064931573442859418747069821583778745688924935728571583505041672838009412557657231906458756740677065373698151113771976704,[],[.v 5 [.o 1100 zR, .o 1101 tI], .st]⟩
 |70=>some ⟨150770949527755429313232131334431639559735035425831931880481358702119485440,[],[.t 123 .bool, .v 5 [.o 1100 zR, .o 1101 tI], .st]⟩
 |68=>some ⟨33477875922062297407124099488107905476223153719886495090688,[],[.t 10 tI, .v 5 [.o 1100 zR, .o 1101 tI], .st]⟩
 |61=>some ⟨33477875922062297407124099488107905476223153719886495090688,[],[.t 10 tI, .v 5 [.o 1100 zR, .o 1101 tI], .st]⟩
 |62=>some ⟨2092367245128893587945152372069573395711376497566321475584,[],[.t 95 .bool, .v 5 [.o 1100 zR, .o 1101 tI], .st]⟩
 |50=>some ⟨108166248872599386899585878196224,[],[.t 53 .bool, .v 5 [.o 1100 zR, .o 1101 tI], .st]⟩
 |92=>some ⟨737989957607090117542449311368690868156033072666584887573885608239285148939039474688703668524694644691374253765748240238640632419380129595907231682665134770248480600556715078451198046994545113129663467512640704807491749694111415724299300917159268115461886320695104745115918223449804105397741481881547118315472705416396884952699991228593161472364818209445311686085861871052818220184109229824816474269348452936325243457217318728753640220911838406758926049674330423586289704211158339048835112005995140085237447243713462371054411768404242536251120259726293772220522512954229778033961281054049025040681255249323705639452069711332539928507387154905727039987508328794112,[],[.v 5 [.o 1100 zR, .o 1101 tI], .st]⟩
 |89=>some ⟨737989957607090117542449311368690868156033072666584887573885608239285148939039474688703668524694644691374253765748240238640632419380129595907231682665134770248480600556715078451198046994545113129663467512640704807491749694111415724299300917159268115461886320695104745115918223449804105397741481881547118315472705416396884952699991228593161472364818209445311686085861871052818220184109229824816474269348452936325243457217318728753640220911838406758926049674330423586289704211158339048835112005995140085237447243713462371054411768404242536251120259726293772220522515870386078824983771043852409388662279710666054786872263881531095007792867776925237958836497535731712,[],[.t 12 tI, .v 5 [.o 1100 zR, .o 1101 tI], .st]⟩
 |104=>some ⟨737989957607090117542449311368690868156033072666584887573885608239285148939039474688703668524694644691374253765748240238640632419380129595907231682665134770248480600556715078451198046994545113129663467512640704807491749694111415724299300917159268115461886320695104745115918223449804105397741481881547118315472705416396884952699991228593161472364818209445311686085861871052818220184109229824816474269348452936325243457217318728753640220911838406758926049674330423586289704211158339048835112005995140085237447243713462371054411768404242536251120259726293772220522515870386078824983771043852409388662279710666054786872263881531095007792867776925237958836497535731712,[],[.v 5 [.o 1100 zR, .o 1101 tI], .st]⟩
 |83=>some ⟨0,[(16,0,8)],[.st]⟩
 |79=>some ⟨0,[(14848,1024,0)],[.st]⟩
 |_=>none
theorem zNx: ∀k j,zEZ k=some j→zFm j.sl=true:=by
 intro k j h
 unfold zEZ at h
 split at h<;>(cases h<;>rfl)
theorem zNu:wV (wC zM) Tryz.prog G0 104 (qP (zMH (zEY [zW]) (.tu [zHa,tI]) zCP)):=
 zUW (fn:=Tryz.f104) (c:=wN Tryz.f104) (S:=(((((zO.none (wC zM)).add 144 (wF [zW] (.p tI) uK)).add 113 (wF [tU,tI] (.p zH) w7)).add 102 (wF [zH,zH] (.p tI) zBV)).addH)) (A:=zEZ) zNx (zMF (qY (qY (qY z6 (by kernel_rfl) (zL1 (by kernel_rfl) zPX)) (by kernel_rfl) (zL1 (by kernel_rfl) zGz)) (by kernel_rfl) (zL1 (by kernel_rfl) zNl)) (by kernel_rfl) (by kernel_rfl)) (by kernel_rfl) (by kernel_rfl) (by rintro st0 ⟨a1,⟨⟩⟩;kernel_rfl)
theorem zOE:wV U Tryz.prog G0 104 (qP (wF [zW] (.tu [zKh,tI]) zEw)):=
 zMN (fun _=>rfl) (by kernel_rfl) zNu
noncomputable def zQg:Ent:=zZ (by kernel_rfl) zOE
theorem zJA:OkX 105 [(.sl tI),tI] (.p .bool) zA9:=fX [] (A:=(jl [jj 26 103161669940448355883679744 [] [.t 43 .bool],jj 17 103161669940448356241507584 [] [.t 5 tI],jj 32 103161669940448356241507584 [] []])) (fn:=Tryz.f105) (by kernel_rfl) (by kernel_rfl) (by rintro ⟨⟩ ⟨a1,a2,⟨⟩⟩;kernel_rfl)
noncomputable def zLm:Ent:=zZ (by kernel_rfl) zJA
theorem zP3:OkX 47 [zW,(.sl tI)] (.tu [zS,tI]) zFQ:=fX [zLm,zQg] (A:=(jl [jj 27 0 [(240,3,0)] []])) (fn:=Tryz.f47) (by kernel_rfl) (by kernel_rfl) (by rintro ⟨⟩ ⟨a1,a2,⟨⟩⟩;kernel_rfl)
noncomputable def zRV:Ent:=zZ (by kernel_rfl) zP3
theorem zP7:OkX 14 [zW,(.sl tI)] (.tu [zS, .bool]) zF9:=fX [zRV,zQh] (A:=(jl [jj 6 1431633920 [] [.t 15 .bool]])) (fn:=Tryz.f14) (by kernel_rfl) (by kernel_rfl) (by rintro ⟨⟩ ⟨a1,a2,⟨⟩⟩;kernel_rfl)
noncomputable def zRZ:Ent:=zZ (by kernel_rfl) zP7
end Go.Ve

namespace Go.Ve
open Go Go.Proofs
set_option maxRecDepth 1000000
set_option maxHeartbeats 0
theorem zKI:OkX 57 [zS,tI,tI] (.p (.sl zM)) zBH:=fX [zEW,zMe] (A:=(jl [jj 30 402974888897708189286400 [] [.t 39 .bool, .o 7 7 zM],jj 36 103161669916429158229753856 [] [.o 7 7 zM],jj 21 412646679760292225091387392 [] [.t 26 tI, .o 7 7 zM],jj 40 412646679761793424609263616 [] [.o 7 7 zM]])) (fn:=Tryz.f57) (by kernel_rfl) (by kernel_rfl) (by rintro ⟨⟩ ⟨a1,a2,a3,⟨⟩⟩;kernel_rfl)
noncomputable def zMf:Ent:=zZ (by kernel_rfl) zKI
theorem zF5:OkA 178 [.d j4, .pp .str] (.p .bool) zAP:=fA [] (A:=fun _=>none) (fn:=Tryz.f178) (by kernel_rfl) (by kernel_rfl) (by rintro ⟨⟩ ⟨a1,a2,⟨⟩⟩;kernel_rfl)
noncomputable def zCv:Ent:=zZ (by kernel_rfl) zF5
theorem zBD:OkA 177 [.d (.sl j4), .clo 178 [(true, .str)]] (.p tI) wW:=fA [zCv] (A:=(jl [jj 9 91625948416 [] [.t 8 tI],jj 28 91625968896 [] []])) (fn:=Tryz.f177) (by kernel_rfl) (by kernel_rfl) (by rintro ⟨⟩ ⟨a1,⟨a2,⟨⟩⟩,⟨⟩⟩;kernel_rfl)
noncomputable def zCb:Ent:=zZ (by kernel_rfl) zBD
theorem zIE:OkX 153 [zD, .str] (.p tI) zAy:=fX [zCb,zCv] (A:=fun _=>none) (fn:=Tryz.f153) (by kernel_rfl) (by kernel_rfl) (by rintro ⟨⟩ ⟨a1,a2,⟨⟩⟩;kernel_rfl)
noncomputable def zJV:Ent:=zZ (by kernel_rfl) zIE
theorem zOG:OkX 141 [zH,zH] (.p .bool) zBz:=fX [zGG] (A:=(jl [jj 6 1431655680 [] [.t 4 .bool]])) (fn:=Tryz.f141) (by kernel_rfl) (by kernel_rfl) (by rintro ⟨⟩ ⟨a1,a2,⟨⟩⟩;kernel_rfl)
noncomputable def zIW:Ent:=zZ (by kernel_rfl) zOG
theorem zKT:OkX 179 [xW,zH] (.p .bool) zAg:=fX [zIW] (A:=(jl [jj 6 23456248059136 [] [.t 4 .bool]])) (fn:=Tryz.f179) (by kernel_rfl) (by kernel_rfl) (by rintro ⟨⟩ ⟨a1,a2,⟨⟩⟩;kernel_rfl)
noncomputable def zMq:Ent:=zZ (by kernel_rfl) zKT
theorem zNq:OkX 154 [j4,zH] (.p tI) zDw:=fX [zMq] (A:=(jl [jj 9 366503539968 [] [.t 10 tI],jj 28 366503884032 [] []])) (fn:=Tryz.f154) (by kernel_rfl) (by kernel_rfl) (by rintro ⟨⟩ ⟨a1,a2,⟨⟩⟩;kernel_rfl)
noncomputable def zPq:Ent:=zZ (by kernel_rfl) zNq
theorem zKS:OkX 118 [zD, .str,zH] (.p .bool) zBY:=fX [zPq,zJV] (A:=(jl [jj 30 6296488620369945563136 [] [.t 6 .bool]])) (fn:=Tryz.f118) (by kernel_rfl) (by kernel_rfl) (by rintro ⟨⟩ ⟨a1,a2,a3,⟨⟩⟩;kernel_rfl)
noncomputable def zMp:Ent:=zZ (by kernel_rfl) zKS
theorem zJz:OkX 28 [zS,tI,tI] (.p (.sl zM)) zA8:=fX [zEa,zVf] (A:=(jl [jj 28 412646678224564752157261824 [] [.o 7 7 zM],jj 25 412646679761418124997705728 [] [.t 9 tI, .o 7 7 zM],jj 40 412646679761418124997705728 [] [.o 7 7 zM]])) (fn:=Tryz.f28) (by kernel_rfl) (by kernel_rfl) (by rintro ⟨⟩ ⟨a1,a2,a3,⟨⟩⟩;kernel_rfl)
noncomputable def zLl:Ent:=zZ (by kernel_rfl) zJz
theorem zS5:OkX 59 [zS,zM] (.p z2) zKx:=fX [] (A:=fun _=>none) (fn:=Tryz.f59) (by kernel_rfl) (by kernel_rfl) (by rintro ⟨⟩ ⟨a1,a2,⟨⟩⟩;kernel_rfl)
noncomputable def zVg:Ent:=zZ (by kernel_rfl) zS5
theorem zGV:OkX 125 [xW,zH] (.p .bool) kE:=fX [zEX] (A:=(jl [jj 6 23456248059136 [] [.t 4 .bool]])) (fn:=Tryz.f125) (by kernel_rfl) (by kernel_rfl) (by rintro ⟨⟩ ⟨a1,a2,⟨⟩⟩;kernel_rfl)
noncomputable def zHJ:Ent:=zZ (by kernel_rfl) zGV
theorem zIz:OkX 65 [j4,zH] (.p tI) zAv:=fX [zHJ] (A:=(jl [jj 9 1466015503616 [] [.t 5 tI],jj 24 1466015503616 [] []])) (fn:=Tryz.f65) (by kernel_rfl) (by kernel_rfl) (by rintro ⟨⟩ ⟨a1,a2,⟨⟩⟩;kernel_rfl)
noncomputable def zJR:Ent:=zZ (by kernel_rfl) zIz
theorem zGU:OkX 27 [zD, .str,zH] (.p .bool) xD:=fX [zJR,zCc] (A:=(jl [jj 30 6296488620369945563136 [] [.t 6 .bool]])) (fn:=Tryz.f27) (by kernel_rfl) (by kernel_rfl) (by rintro ⟨⟩ ⟨a1,a2,a3,⟨⟩⟩;kernel_rfl)
noncomputable def zHI:Ent:=zZ (by kernel_rfl) zGU
theorem zP0:OkX 69 [zD,tU,tI] (.p tI) zBe:=fX [] (A:=(jl [jj 18 1574122160955116748800 [] [.t 35 .bool],jj 9 6296488643826193616896 [] [.t 7 tI],jj 24 6296488643826193616896 [] []])) (fn:=Tryz.f69) (by kernel_rfl) (by kernel_rfl) (by rintro ⟨⟩ ⟨a1,a2,a3,⟨⟩⟩;kernel_rfl)
noncomputable def zGk:Ent:=zZ (by kernel_rfl) zP0
theorem zKQ:OkX 30 [zS] (.p (.sl zK)) zBW:=fX [zGk,zVg,zLl] (A:=(jl [jj 30 98382541234792038400 [] [.t 33 .bool, .o 3 3 zK],jj 58 1995436902169126115923332072090355873326734455603200 [] [.t 85 .bool, .o 3 3 zK],jj 48 8776024305713098891493168973639202691590671230998585571327868992 [] [.o 3 3 zK],jj 45 8776024305713098891493168973639202693240854974772554394801864768 [] [.t 8 tI, .o 3 3 zK],jj 32 8776024305713098891493168973639202693241256375923598314645045312 [] [.o 3 3 zK],jj 29 8776024305713098891493168973639202693241257950045665446201217088 [] [.t 6 tI, .o 3 3 zK],jj 16 8776024305713098891493168973639202693241257950045759248286964800 [] [.o 3 3 zK],jj 13 8776024305713098891493168973639202693241257950045759271193107776 [] [.t 4 tI, .o 3 3 zK],jj 64 8776024305713098891493168973639202693241257950045759271193107776 [] [.o 3 3 zK]])) (fn:=Tryz.f30) (by kernel_rfl) (by kernel_rfl) (by rintro ⟨⟩ ⟨a1,⟨⟩⟩;kernel_rfl)
noncomputable def zMn:Ent:=zZ (by kernel_rfl) zKQ
theorem zEm:OkX 79 [zS,tI,tI] (.tu [z2, .bool]) jG:=fX [] (A:=(jl [jj 6 98382635059784253440 [] [.t 33 .bool]])) (fn:=Tryz.f79) (by kernel_rfl) (by kernel_rfl) (by rintro ⟨⟩ ⟨a1,a2,a3,⟨⟩⟩;kernel_rfl)
noncomputable def uQ:Ent:=zZ (by kernel_rfl) zEm
theorem zD2:OkX 97 [zH,zH] (.p .bool) jT:=fX [zIW] (A:=(jl [jj 6 357913856 [] [.t 4 .bool]])) (fn:=Tryz.f97) (by kernel_rfl) (by kernel_rfl) (by rintro ⟨⟩ ⟨a1,a2,⟨⟩⟩;kernel_rfl)
noncomputable def zAJ:Ent:=zZ (by kernel_rfl) zD2
theorem zHu:OkX 80 [zD,zH] (.p .bool) kY:=fX [zAJ] (A:=(jl [jj 18 23455890145280 [] [.t 22 .bool],jj 9 93824990851328 [] [.t 11 tI],jj 28 93824992243968 [] []])) (fn:=Tryz.f80) (by kernel_rfl) (by kernel_rfl) (by rintro ⟨⟩ ⟨a1,a2,⟨⟩⟩;kernel_rfl)
noncomputable def zIM:Ent:=zZ (by kernel_rfl) zHu
def zFA:Nat→Option JA:=fun k=>match k with
 |12=>some ⟨336,[],[.t 0 (.sl zU)]⟩
 |_=>none
theorem zET:wV U Tryz.prog G0 130 (qP (wF [(.sl zU)] (.p (.sl zU)) kH)):=
 zJI (t:=zU) (bytes:=48)
  (vJ (fn:=Tryz.f130) (c:=wN Tryz.f130) (S:=zO.none U) (A:=fun _=>none) z6 (by kernel_rfl) (by kernel_rfl) (enc:=fun q=>[.tl zU (q.1::q.2)]) (fun _ _ h=>zEF h) (by rintro ⟨⟩ ⟨y,r⟩;kernel_rfl))
  (fun c=>vJ (fn:=Tryz.f130) (c:=wN Tryz.f130) (S:=zO.none U) (A:=fun _=>none) z6 (by kernel_rfl) (by kernel_rfl) (enc:=fun _=>[.val (.slice none 0 c)]) (fun _ _ h=>yX h) (by rintro ⟨⟩ _;kernel_rfl))
  (fun a c=>vJ (fn:=Tryz.f130) (c:=wN Tryz.f130) (S:=zO.none U) (A:=zFA) z6 (by kernel_rfl) (by kernel_rfl) (enc:=fun _=>[.val (.slice (some a) 0 c)]) (fun _ _ h=>yX h) (by rintro ⟨⟩ _;kernel_rfl))
noncomputable def zFt:Ent:=zZ (by kernel_rfl) zET
theorem zEU:OkX 81 [zD,tU] (.tu [zU, .bool]) j8:=fX [zFt] (A:=(jl [jj 9 23456225740288 [] [.t 13 tI, .v 4 [.p zU]],jj 28 23456248088064 [] [.v 4 [.p zU]]])) (fn:=Tryz.f81) (by kernel_rfl) (by kernel_rfl) (by rintro ⟨⟩ ⟨a1,a2,⟨⟩⟩;kernel_rfl)
noncomputable def yQ:Ent:=zZ (by kernel_rfl) zEU
def zJ5:Nat→Option JA:=fun k=>match k with
 |12=>some ⟨336,[],[.t 0 (.sl tI)]⟩
 |_=>none
theorem zIu:wV U Tryz.prog G0 83 (qP (wF [(.sl tI)] (.p (.sl tI)) j2)):=
 zJI (t:=tI) (bytes:=8)
  (vJ (fn:=Tryz.f83) (c:=wN Tryz.f83) (S:=zO.none U) (A:=fun _=>none) z6 (by kernel_rfl) (by kernel_rfl) (enc:=fun q=>[.tl tI (q.1::q.2)]) (fun _ _ h=>zEF h) (by rintro ⟨⟩ ⟨y,r⟩;kernel_rfl))
  (fun c=>vJ (fn:=Tryz.f83) (c:=wN Tryz.f83) (S:=zO.none U) (A:=fun _=>none) z6 (by kernel_rfl) (by kernel_rfl) (enc:=fun _=>[.val (.slice none 0 c)]) (fun _ _ h=>yX h) (by rintro ⟨⟩ _;kernel_rfl))
  (fun a c=>vJ (fn:=Tryz.f83) (c:=wN Tryz.f83) (S:=zO.none U) (A:=zJ5) z6 (by kernel_rfl) (by kernel_rfl) (enc:=fun _=>[.val (.slice (some a) 0 c)]) (fun _ _ h=>yX h) (by rintro ⟨⟩ _;kernel_rfl))
noncomputable def xF:Ent:=zZ (by kernel_rfl) zIu
def zJ6:Nat→Option JA:=fun k=>match k with
 |12=>some ⟨336,[],[.t 0 (.sl qS)]⟩
 |_=>none
theorem zIv:wV U Tryz.prog G0 131 (qP (wF [(.sl qS)] (.p (.sl qS)) zAr)):=
 zJI (t:=qS) (bytes:=16)
  (vJ (fn:=Tryz.f131) (c:=wN Tryz.f131) (S:=zO.none U) (A:=fun _=>none) z6 (by kernel_rfl) (by kernel_rfl) (enc:=fun q=>[.tl qS (q.1::q.2)]) (fun _ _ h=>zEF h) (by rintro ⟨⟩ ⟨y,r⟩;kernel_rfl))
  (fun c=>vJ (fn:=Tryz.f131) (c:=wN Tryz.f131) (S:=zO.none U) (A:=fun _=>none) z6 (by kernel_rfl) (by kernel_rfl) (enc:=fun _=>[.val (.slice none 0 c)]) (fun _ _ h=>yX h) (by rintro ⟨⟩ _;kernel_rfl))
  (fun a c=>vJ (fn:=Tryz.f131) (c:=wN Tryz.f131) (S:=zO.none U) (A:=zJ6) z6 (by kernel_rfl) (by kernel_rfl) (enc:=fun _=>[.val (.slice (some a) 0 c)]) (fun _ _ h=>yX h) (by rintro ⟨⟩ _;kernel_rfl))
noncomputable def zJO:Ent:=zZ (by kernel_rfl) zIv
theorem zHx:OkA 201 [.d vW, .pp .str] (.p .bool) zB6:=fA [] (A:=fun _=>none) (fn:=Tryz.f201) (by kernel_rfl) (by kernel_rfl) (by rintro ⟨⟩ ⟨a1,a2,⟨⟩⟩;kernel_rfl)
noncomputable def zDo:Ent:=zZ (by kernel_rfl) zHx
theorem zCl:OkA 200 [.d (.sl vW), .clo 201 [(true, .str)]] (.p tI) vH:=fA [zDo] (A:=(jl [jj 9 91625948416 [] [.t 8 tI],jj 28 91625968896 [] []])) (fn:=Tryz.f200) (by kernel_rfl) (by kernel_rfl) (by rintro ⟨⟩ ⟨a1,⟨a2,⟨⟩⟩,⟨⟩⟩;kernel_rfl)
noncomputable def zCG:Ent:=zZ (by kernel_rfl) zCl
theorem zKU:OkX 167 [zD, .str] (.p tI) yO:=fX [zCG,zDo] (A:=fun _=>none) (fn:=Tryz.f167) (by kernel_rfl) (by kernel_rfl) (by rintro ⟨⟩ ⟨a1,a2,⟨⟩⟩;kernel_rfl)
noncomputable def zCH:Ent:=zZ (by kernel_rfl) zKU
theorem zLV:OkX 166 [zD, .str,zA] (.p tI) zAW:=fX [zMp,zCH] (A:=(jl [jj 30 412646679755788625463214080 [] [.t 44 .bool],jj 21 6602346876188688935400837120 [] [.t 22 tI],jj 40 6602346876188694799104937984 [] []])) (fn:=Tryz.f166) (by kernel_rfl) (by kernel_rfl) (by rintro ⟨⟩ ⟨a1,a2,a3,⟨⟩⟩;kernel_rfl)
noncomputable def zGF:Ent:=zZ (by kernel_rfl) zLV
theorem zHt:OkX 132 [zD, .str,zA] (.tu [vE, .bool]) kX:=fX [zCH,zGF] (A:=(jl [jj 23 0 [(24,6,0)] []])) (fn:=Tryz.f132) (by kernel_rfl) (by kernel_rfl) (by rintro ⟨⟩ ⟨a1,a2,a3,⟨⟩⟩;kernel_rfl)
noncomputable def zDl:Ent:=zZ (by kernel_rfl) zHt
theorem zNr:OkX 82 [zD, .str,zA] (.tu [zA, .bool]) zBZ:=fX [zDl,zJO,xF] (A:=(jl [jj 40 6294951415153384491008 [] [.v 5 [.p zA]],jj 48 25784120996468262866782208 [] [.v 5 [.p zA]],jj 56 105611759601534004702331537408 [] [.v 5 [.p zA]]])) (fn:=Tryz.f82) (by kernel_rfl) (by kernel_rfl) (by rintro ⟨⟩ ⟨a1,a2,a3,⟨⟩⟩;kernel_rfl)
noncomputable def zHM:Ent:=zZ (by kernel_rfl) zNr
theorem zKR:OkX 84 [zD, .str,zA] (.p tI) zBX:=fX [zDl] (A:=fun _=>none) (fn:=Tryz.f84) (by kernel_rfl) (by kernel_rfl) (by rintro ⟨⟩ ⟨a1,a2,a3,⟨⟩⟩;kernel_rfl)
noncomputable def zMo:Ent:=zZ (by kernel_rfl) zKR
theorem zHw:OkX 33 [zS,zK,zA] (.tu [zA, .bool]) uB:=fX [zMo,xF,zHM,yQ,zIM,uQ] (A:=(jl [jj 10 402975273111051399331840 [] [.t 39 .bool],jj 22 1772303967970500325783630215859142656 [] [.t 60 .bool],jj 48 1895563341875102967030536053175110728008337408 [] [.v 5 [.p zA]],jj 97 103306820458156294656094485043318397790635090902388946122367707859777845371548719137571334688294830173338045864258315365141449000983439330570722177320589644328128484780111578894057787027214873304103335256792309343028840886044961322246476108298013154969353085650378313636073913237440168557404030730338649054415667327346451647959874702629371426920550153268168687275985196999172625645221308629576524627973939548823809852279076982073490062444913175105919980287343435086195103354082877569179339345906014093643802654768824784598425433370375894370875326609869190966074923449127369128351652870267768452471452849970927815399626776427044480897028208553957599361475910156051730904598780369929893044647575859313341023466256213064678367516543731361522401958183831988215660675072 [] [.t 118 tI, .v 13 [.p tU, .p tI, .p tI, .p tI, .p tI, .p tI, .p tI, .p tI, .p tI, .o 1269 tI, .p tU, .p tU, .p (.sl qS), .p .bool]],jj 108 103306820458156294656094485043318397790635090902388946122367707859777845371548719137571334688294830173338045864258315365141449000983439330570722177320589644328128484780111578894057787027214873304103335256792309343028840886044961322246476108298013154969353085650378313636073913237440168557404030730338649054415667327346451647959874702629371426920550153268168687275985196999172625645221308629576524627973939548823809852279076982073490062444913175105919980287343435086195103354082877569179339345906014093643802654768824784598425433370375894370875326609869190966074923449127369128351652870267768452471452849970927815399626776427044480897028208553957599361475910156051730904598780369929893044647575886920326410628511362803701816624645541165958290639730052638312555872256 [] [.v 13 [.p tU, .p tI, .p tI, .p tI, .p tI, .p tI, .p tI, .p tI, .p tI, .o 1269 tI, .p tU, .p tU, .p (.sl qS), .p .bool]]])) (fn:=Tryz.f33) (by kernel_rfl) (by kernel_rfl) (by rintro ⟨⟩ ⟨a1,a2,a3,⟨⟩⟩;kernel_rfl)
noncomputable def zDn:Ent:=zZ (by kernel_rfl) zHw
theorem zHv:OkX 36 [zS,zK,zA] (.tu [zA, .bool]) uA:=fX [xF,zHM,yQ,zCt,uQ] (A:=(jl [jj 10 100743818277762849832960 [] [.t 38 .bool],jj 64 137117010307786654605228984160548265193339852328872370033917952 [] [.v 13 [.p zA]],jj 63 0 [(112,7,0)] []])) (fn:=Tryz.f36) (by kernel_rfl) (by kernel_rfl) (by rintro ⟨⟩ ⟨a1,a2,a3,⟨⟩⟩;kernel_rfl)
noncomputable def zDm:Ent:=zZ (by kernel_rfl) zHv
theorem zIB:OkX 127 [zD,tU,tI] (.p .bool) yM:=fX [yQ] (A:=(jl [jj 10 5863704104960 [] [.t 6 .bool]])) (fn:=Tryz.f127) (by kernel_rfl) (by kernel_rfl) (by rintro ⟨⟩ ⟨a1,a2,a3,⟨⟩⟩;kernel_rfl)
noncomputable def zJT:Ent:=zZ (by kernel_rfl) zIB
theorem zD1:OkX 68 [zS,tI,tI] (.p (.sl zK)) wI:=fX [zJT,zMf,uQ] (A:=(jl [jj 50 487167212441862002073515056408222597138270388224 [] [.t 79 .bool, .o 10 10 zK],jj 64 8369468980515574351781052564276886942902047773129773678592 [] [.o 10 10 zK],jj 29 33477875922062297407124210257107554118468744069272380112896 [] [.t 39 tI, .o 10 10 zK],jj 68 33477875922062297407124210257107554219114179735431693729792 [] [.o 10 10 zK]])) (fn:=Tryz.f68) (by kernel_rfl) (by kernel_rfl) (by rintro ⟨⟩ ⟨a1,a2,a3,⟨⟩⟩;kernel_rfl)
noncomputable def zAI:Ent:=zZ (by kernel_rfl) zD1
theorem zF1:OkX 29 [zS] (.p (.sl zK)) u7:=fX [zAI] (A:=(jl [jj 25 96076700424605760 [] [.t 19 tI, .o 3 3 zK],jj 40 96076792028208448 [] [.o 3 3 zK],jj 13 384307168200891712 [] [.t 11 tI, .o 3 3 zK],jj 44 384307168202284352 [] [.o 3 3 zK]])) (fn:=Tryz.f29) (by kernel_rfl) (by kernel_rfl) (by rintro ⟨⟩ ⟨a1,⟨⟩⟩;kernel_rfl)
theorem zOz:OkX 133 [zD, .str,zA] (.p tI) zCU:=fX [zHI,xR] (A:=(jl [jj 34 27043212804475363358357197946880 [] [.t 52 .bool],jj 21 108172851219475575594384983134208 [] [.t 8 tI],jj 40 108172851219475575594384983134208 [] []])) (fn:=Tryz.f133) (by kernel_rfl) (by kernel_rfl) (by rintro ⟨⟩ ⟨a1,a2,a3,⟨⟩⟩;kernel_rfl)
noncomputable def zIV:Ent:=zZ (by kernel_rfl) zOz
theorem zPY:OkX 85 [zD, .str,zA] (.tu [zA, .bool]) zDW:=fX [xR,zIV] (A:=(jl [jj 44 1611507562279266429175808 [] [.v 5 [.p zA]],jj 52 6600734975095875293895723008 [] [.v 5 [.p zA]],jj 60 27036610457992705203796873054208 [] [.v 5 [.p zA]]])) (fn:=Tryz.f85) (by kernel_rfl) (by kernel_rfl) (by rintro ⟨⟩ ⟨a1,a2,a3,⟨⟩⟩;kernel_rfl)
noncomputable def zLj:Ent:=zZ (by kernel_rfl) zPY
theorem zNj:OkX 86 [zD, .str,zA] (.p tI) zBU:=fX [xR,zIV] (A:=fun _=>none) (fn:=Tryz.f86) (by kernel_rfl) (by kernel_rfl) (by rintro ⟨⟩ ⟨a1,a2,a3,⟨⟩⟩;kernel_rfl)
noncomputable def zPl:Ent:=zZ (by kernel_rfl) zNj
end Go.Ve

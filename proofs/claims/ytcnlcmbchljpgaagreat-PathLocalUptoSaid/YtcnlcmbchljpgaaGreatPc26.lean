/-
  law17: the fixed sanity check, run in the kernel.
  law20: the fixed sanity check, run in the kernel.
  The law's contract: law20_PathLocal.
-/
import Derived.Test.YtcnlcmbchljpgaaGreatPc13
import Derived.Test.YtcnlcmbchljpgaaGreatPc25
import Derived.Test.YtcnlcmbchljpgaaGreatPc21
set_option linter.unusedVariables false
namespace Go.Ve
open Go Go.Proofs
set_option maxRecDepth 1000000
theorem qAp:zNO Tryz.prog=true:=by kernel_rfl
noncomputable abbrev qAG (n:Nat):jG (j7 zQ):=zRv (Γ:=j7 zQ) LF G0 (zN.addH (zN.none (j7 zQ))).toS 300 n
theorem zUm (n:Nat):qF (j7 zQ) Tryz.prog G0 (qAG n):=
 zFr mixed qAp (zMD z7 (by kernel_rfl) (by kernel_rfl)) 330 310 300 n
noncomputable def zMC:ElS [zZ]→Option (RTy.El (.tu [zKd,tI])):=zNZ (.tu [zGT,tI]) (zZA (qAG 14 123) [zZ] (.tu [zGT,tI]))
theorem zOw:wV U Tryz.prog G0 123 (qP (wB [zZ] (.tu [zKd,tI]) zMC)):=
 zML (tE:=zQ) (G:=G0) (ts:=[zZ]) (R:= .tu [zGT,tI]) (g:=zZA (qAG 14 123) [zZ] (.tu [zGT,tI])) (fun _=>rfl) (by kernel_rfl) (zWP ((zUm 14).ok 123) _ _)
end Go.Ve

namespace Go.Ve
open Go Go.Proofs
set_option maxRecDepth 1000000
noncomputable def zYj:ElS [zO,zS,tI]→Option (List (Ty.El zA)):=atP [zO,zS,tI] (k7,zSx,1,()) l20 noF
noncomputable def zWD:ElS [zO,(.sl zS),tI]→Option (List (Ty.El zA)):=atP [zO,(.sl zS),tI] (k7,s20,0,()) t20 noF
noncomputable def zZx:ElS [zO]→Option (List (Ty.El zW)):=atP [zO] (k7,()) e20 noF
noncomputable abbrev qAD:zN U:=((((zN.none U).add 123 (w8 (zFh [zZ]) (.tu [zKd,tI]) zMC)).add 39 (w8 (zFh [zO,zS,tI]) (.p (.sl zA)) zYj)).add 41 (w8 (zFh [zO,(.sl zS),tI]) (.p (.sl zA)) zWD)).add 29 (w8 (zFh [zO]) (.p (.sl zW)) zZx)
noncomputable abbrev qBp (n:Nat):jG U:=zRv (Γ:=U) LF G0 qAD.toS 300 n
theorem zUk (n:Nat):qF U Tryz.prog G0 (qBp n):=
 zFr mixed qAp (qV (qV (qV (qV z7 (by kernel_rfl) (zQY zOw)) (by kernel_rfl) (zRS zFP (zPC zZQ zSg))) (by kernel_rfl) (zRS zIw (zPC zZt zSg))) (by kernel_rfl) (zRS zFM (zPC zUw zSg))) 330 310 300 n
theorem qAF:qBp 16 31 () []=some ((), .p (.val (.bool true))):=by kernel_rfl
theorem zQa:wV U Tryz.prog G0 31 (qP (wB [] (.p .bool) zOR)):=by
 refine zTp ((zUk 16).ok 31) ?_
 intro s ds r h
 cases ds with
 |nil=>
  have h:some ((),RV.p (.val (.bool true)))=some r:=h
  rw [←h];exact qAF
 |cons d ds=>cases h
end Go.Ve

namespace Go.Ve
open Go Go.Proofs
set_option maxRecDepth 1000000
set_option maxHeartbeats 0
theorem zOD:OkX 40 [zO,zS,tI] (.o zA) zEm:=fX [zEK,zHC,zLe,zTI,zHB] (A:=(jl [jj 10 6148914685509894144 [] [.t 31 .bool],jj 32 1858395433210462711594567112920197891637248 [] [.o 7 7 zA, .v 9 [.p zA]],jj 29 1858395433210885255347038818109341195321344 [] [.t 10 tI, .o 7 7 zA, .v 9 [.p zA]],jj 48 1858395433210885255347038818109341195321344 [] [.o 7 7 zA, .v 9 [.p zA]],jj 56 2142584059011865242252838547878366496293544301458752503562240 [] [.o 7 7 zA, .v 9 [.p zA]],jj 53 2142584059011987032197554023243998208234960802323027043303424 [] [.t 11 tI, .o 7 7 zA, .v 9 [.p zA]],jj 76 2142584059011987032197554023243998208234960802323027043303424 [] [.o 7 7 zA, .v 9 [.p zA]],jj 118 11124932478754581917674899370587598947970887525384044178855111552823959199019470727310999552000 [] [.t 15 .bool, .o 7 7 zA],jj 109 11124932478754740002824730616523400978258170636550240855701676318604014068486037530715535458304 [] [.t 16 tI, .t 15 .bool, .o 7 7 zA],jj 120 11124932478754740002824730616523400978258170636550240855701676318604014068486037530715535458304 [] [.t 15 .bool, .o 7 7 zA],jj 92 182270893731917660364375185004186092186636009380001869454508045258334784308075007561424037162270720 [] [.o 7 7 zA, .v 9 [.p zA]],jj 89 182270893731917660364375185593126127130541735694502814030451877323938204218473813411132403123503104 [] [.t 13 tI, .o 7 7 zA, .v 9 [.p zA]],jj 132 182270893731917660364375185593126127130541735694502814030451877323938204218473813411132403123765248 [] [.o 7 7 zA],jj 119 0 [(23,0,8)] []])) (fn:=Tryz.f40) (by kernel_rfl) (by kernel_rfl) (by rintro ⟨⟩ ⟨a1,a2,a3,⟨⟩⟩;kernel_rfl)
noncomputable def zQm:Ent:=z2 (by kernel_rfl) zOD
noncomputable def zR9:Ent:=z2 (by kernel_rfl) zQa
theorem zJz:OkX 9 [zZ,(.sl tI),(.sl zS)] (.p .bool) zA2:=fX [zR9,zND,zQm,zDU,zQq,zSa] (A:=(jl [jj 10 93823560581120 [] [.t 23 .bool],jj 21 1650586719047079874873528320 [] [.t 9 tI],jj 36 1650586719047079874873528320 [] []])) (fn:=Tryz.f9) (by kernel_rfl) (by kernel_rfl) (by rintro ⟨⟩ ⟨a1,a2,a3,⟨⟩⟩;kernel_rfl)
end Go.Ve

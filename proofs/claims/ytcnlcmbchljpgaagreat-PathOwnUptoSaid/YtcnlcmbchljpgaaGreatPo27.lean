/-
  law17: the fixed sanity check, run in the kernel.
  law20: the fixed sanity check, run in the kernel.
  The law's contract: law20_PathOwn.
-/
import Derived.Test.YtcnlcmbchljpgaaGreatPo13
import Derived.Test.YtcnlcmbchljpgaaGreatPo26
import Derived.Test.YtcnlcmbchljpgaaGreatPo22
set_option linter.unusedVariables false
namespace Go.Ve
open Go Go.Proofs
set_option maxRecDepth 1000000
theorem zZ0:zM7 Tryz.prog=true:=by kernel_rfl
noncomputable abbrev qAj (n:Nat):jH (wA zO):=zQE (Γ:=wA zO) LF G0 (zM.addH (zM.none (wA zO))).toS 300 n
theorem zTG (n:Nat):qH (wA zO) Tryz.prog G0 (qAj n):=
 zFc mixed zZ0 (zL2 z8 (by kernel_rfl) (by kernel_rfl)) 330 310 300 n
noncomputable def zL1:ElS [zQ]→Option (RTy.El (.tu [zJK,tI])):=zNj (.tu [zGA,tI]) (zY6 (qAj 14 123) [zQ] (.tu [zGA,tI]))
theorem zNN:wY U Tryz.prog G0 123 (qO (wE [zQ] (.tu [zJK,tI]) zL1)):=
 zMb (tE:=zO) (G:=G0) (ts:=[zQ]) (R:= .tu [zGA,tI]) (g:=zY6 (qAj 14 123) [zQ] (.tu [zGA,tI])) (fun _=>rfl) (by kernel_rfl) (zWg ((zTG 14).ok 123) _ _)
end Go.Ve

namespace Go.Ve
open Go Go.Proofs
set_option maxRecDepth 1000000
noncomputable def zXO:ElS [zR,zT,tI]→Option (List (Ty.El zB)):=atP [zR,zT,tI] (uI,zRI,1,()) l20 noF
noncomputable def zVZ:ElS [zR,(.sl zT),tI]→Option (List (Ty.El zB)):=atP [zR,(.sl zT),tI] (uI,s20,0,()) t20 noF
noncomputable def zY2:ElS [zR]→Option (List (Ty.El zW)):=atP [zR] (uI,()) e20 noF
noncomputable abbrev qAg:zM U:=((((zM.none U).add 123 (vD (zE1 [zQ]) (.tu [zJK,tI]) zL1)).add 39 (vD (zE1 [zR,zT,tI]) (.p (.sl zB)) zXO)).add 41 (vD (zE1 [zR,(.sl zT),tI]) (.p (.sl zB)) zVZ)).add 29 (vD (zE1 [zR]) (.p (.sl zW)) zY2)
noncomputable abbrev qA2 (n:Nat):jH U:=zQE (Γ:=U) LF G0 qAg.toS 300 n
theorem zTE (n:Nat):qH U Tryz.prog G0 (qA2 n):=
 zFc mixed zZ0 (qW (qW (qW (qW z8 (by kernel_rfl) (zP7 zNN)) (by kernel_rfl) (zQ2 zFz (zOU zZo zRq))) (by kernel_rfl) (zQ2 zC5 (zOU zYZ zRq))) (by kernel_rfl) (zQ2 zFw (zOU zTR zRq))) 330 310 300 n
theorem qAi:qA2 16 31 () []=some ((), .p (.val (.bool true))):=by kernel_rfl
theorem zPn:wY U Tryz.prog G0 31 (qO (wE [] (.p .bool) zN5)):=by
 refine zSI ((zTE 16).ok 31) ?_
 intro s ds r h
 cases ds with
 |nil=>
  have h:some ((),RV.p (.val (.bool true)))=some r:=h
  rw [←h];exact qAi
 |cons d ds=>cases h
end Go.Ve

namespace Go.Ve
open Go Go.Proofs
set_option maxRecDepth 1000000
set_option maxHeartbeats 0
noncomputable def zRh:Ent:=qD (by kernel_rfl) zPn
theorem zLj:OkX 13 [zQ,(.sl tI),(.sl zT)] (.p .bool) zCB:=fX [zRh,zRf,zIq,zJp,zDP,zPA,zRi] (A:=(jl [jj 10 24018831508766720 [] [.t 27 .bool],jj 58 1902996921835642513697826795394250768136536064 [] [.t 75 .bool, .o 10 40 zB],jj 45 1902996923607946481668327121177880984080617472 [] [.t 12 tI, .o 10 40 zB],jj 24 1902996923607946508077714527550025122148519936 [] [],jj 21 1902996923607946508077714625908640983920414720 [] [.t 9 tI],jj 64 1902996923607946508077714625908640983920414720 [] []])) (fn:=Tryz.f13) (by kernel_rfl) (by kernel_rfl) (by rintro ⟨⟩ ⟨a1,a2,a3,⟨⟩⟩;kernel_rfl)
end Go.Ve

/-
  law17: the fixed sanity check, run in the kernel.
  law20: the fixed sanity check, run in the kernel.
  The law's contract: law20_PathLoops.
-/
import Derived.Test.YtcnlcmbchljpgaaGreatPl13
import Derived.Test.YtcnlcmbchljpgaaGreatPl25
import Derived.Test.YtcnlcmbchljpgaaGreatPl21
set_option linter.unusedVariables false
namespace Go.Ve
open Go Go.Proofs
set_option maxRecDepth 1000000
theorem zZr:zMX Tryz.prog=true:=by kernel_rfl
noncomputable abbrev zZK (n:Nat):jD (j1 zL):=zQr (Γ:=j1 zL) LF G0 (zP.addH (zP.none (j1 zL))).toS 300 n
theorem zTi (n:Nat):qE (j1 zL) Tryz.prog G0 (zZK n):=
 zE4 mixed zZr (zLQ zZ (by kernel_rfl) (by kernel_rfl)) 330 310 300 n
noncomputable def zLP:ElS [zV]→Option (RTy.El (.tu [zJs,tI])):=zNc (.tu [zGp,tI]) (zYB (zZK 14 123) [zV] (.tu [zGp,tI]))
theorem zNF:wL U Tryz.prog G0 123 (qN (j4 [zV] (.tu [zJs,tI]) zLP)):=
 zLY (tE:=zL) (G:=G0) (ts:=[zV]) (R:= .tu [zGp,tI]) (g:=zYB (zZK 14 123) [zV] (.tu [zGp,tI])) (fun _=>rfl) (by kernel_rfl) (zVS ((zTi 14).ok 123) _ _)
end Go.Ve

namespace Go.Ve
open Go Go.Proofs
set_option maxRecDepth 1000000
noncomputable def zXi:ElS [zR,qL,tI]→Option (List (Ty.El zA)):=atP [zR,qL,tI] (kY,zRt,1,()) l20 noF
noncomputable def zVC:ElS [zR,(.sl qL),tI]→Option (List (Ty.El zA)):=atP [zR,(.sl qL),tI] (kY,s20,0,()) t20 noF
noncomputable def zYy:ElS [zR]→Option (List (Ty.El zK)):=atP [zR] (kY,()) e20 noF
noncomputable abbrev zZG:zP U:=((((zP.none U).add 123 (wY (zET [zV]) (.tu [zJs,tI]) zLP)).add 39 (wY (zET [zR,qL,tI]) (.p (.sl zA)) zXi)).add 41 (wY (zET [zR,(.sl qL),tI]) (.p (.sl zA)) zVC)).add 29 (wY (zET [zR]) (.p (.sl zK)) zYy)
noncomputable abbrev qAs (n:Nat):jD U:=zQr (Γ:=U) LF G0 zZG.toS 300 n
theorem zTg (n:Nat):qE U Tryz.prog G0 (qAs n):=
 zE4 mixed zZr (qU (qU (qU (qU zZ (by kernel_rfl) (zPW zNF)) (by kernel_rfl) (zQO zFo (zOG zYS zRc))) (by kernel_rfl) (zQO zHP (zOG zYu zRc))) (by kernel_rfl) (zQO zFl (zOG zTs zRc))) 330 310 300 n
theorem zZJ:qAs 16 31 () []=some ((), .p (.val (.bool true))):=by kernel_rfl
theorem zPc:wL U Tryz.prog G0 31 (qN (j4 [] (.p .bool) zNU)):=by
 refine zSp ((zTg 16).ok 31) ?_
 intro s ds r h
 cases ds with
 |nil=>
  have h:some ((),RV.p (.val (.bool true)))=some r:=h
  rw [←h];exact zZJ
 |cons d ds=>cases h
end Go.Ve

namespace Go.Ve
open Go Go.Proofs
set_option maxRecDepth 1000000
set_option maxHeartbeats 0
noncomputable def zQ5:Ent:=z6 (by kernel_rfl) zPc
theorem zIP:OkX 11 [zV,(.sl tI),zA] (.p .bool) zAQ:=fX [zQ5,zSG,zCS,zCT,zLA,zPn,zQ6] (A:=(jl [jj 10 98382629195722260480 [] [.t 33 .bool],jj 53 127707961738822256690572007257387293970321958491918336 [] [.t 15 tI],jj 68 127707961738822256690572007257387293970321958491918336 [] [],jj 82 647556297408576356973153433295158215884043765696682393363069962511970167470791065600 [] [.t 139 .bool],jj 28 647556297408576356973153968941172968880802279684046507083931022308596817047710601216 [] [],jj 25 647556297408576356973153968941172968880802279684046507083937468338845934113428344832 [] [.t 10 tI],jj 88 647556297408576356973153968941172968880802279684046507083937468338845934113428344832 [] [],jj 43 0 [(6144,512,0)] [],jj 35 0 [(6144,512,0)] []])) (fn:=Tryz.f11) (by kernel_rfl) (by kernel_rfl) (by rintro ⟨⟩ ⟨a1,a2,a3,⟨⟩⟩;kernel_rfl)
end Go.Ve

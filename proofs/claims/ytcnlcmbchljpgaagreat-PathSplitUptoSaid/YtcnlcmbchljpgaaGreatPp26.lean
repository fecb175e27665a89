/-
  law17: the fixed sanity check, run in the kernel.
  law20: the fixed sanity check, run in the kernel.
  The law's contract: law20_PathSplit.
-/
import Derived.Test.YtcnlcmbchljpgaaGreatPp13
import Derived.Test.YtcnlcmbchljpgaaGreatPp25
import Derived.Test.YtcnlcmbchljpgaaGreatPp21
set_option linter.unusedVariables false
namespace Go.Ve
open Go Go.Proofs
set_option maxRecDepth 1000000
theorem zZm:zMW Tryz.prog=true:=by kernel_rfl
noncomputable abbrev zZF (n:Nat):jE (j1 zL):=zQp (Γ:=j1 zL) LF G0 (zP.addH (zP.none (j1 zL))).toS 300 n
theorem zTd (n:Nat):qD (j1 zL) Tryz.prog G0 (zZF n):=
 zE1 mixed zZm (zLP zZ (by kernel_rfl) (by kernel_rfl)) 330 310 300 n
noncomputable def zLO:ElS [zV]→Option (RTy.El (.tu [zJs,tI])):=zNb (.tu [zGm,tI]) (zYw (zZF 14 123) [zV] (.tu [zGm,tI]))
theorem zNF:wL U Tryz.prog G0 123 (qN (j4 [zV] (.tu [zJs,tI]) zLO)):=
 zLX (tE:=zL) (G:=G0) (ts:=[zV]) (R:= .tu [zGm,tI]) (g:=zYw (zZF 14 123) [zV] (.tu [zGm,tI])) (fun _=>rfl) (by kernel_rfl) (zVN ((zTd 14).ok 123) _ _)
end Go.Ve

namespace Go.Ve
open Go Go.Proofs
set_option maxRecDepth 1000000
noncomputable def zXe:ElS [zR,qL,tI]→Option (List (Ty.El zA)):=atP [zR,qL,tI] (kX,zRq,1,()) l20 noF
noncomputable def zVx:ElS [zR,(.sl qL),tI]→Option (List (Ty.El zA)):=atP [zR,(.sl qL),tI] (kX,s20,0,()) t20 noF
noncomputable def zYt:ElS [zR]→Option (List (Ty.El zK)):=atP [zR] (kX,()) e20 noF
noncomputable abbrev zZB:zP U:=((((zP.none U).add 123 (wY (zEP [zV]) (.tu [zJs,tI]) zLO)).add 39 (wY (zEP [zR,qL,tI]) (.p (.sl zA)) zXe)).add 41 (wY (zEP [zR,(.sl qL),tI]) (.p (.sl zA)) zVx)).add 29 (wY (zEP [zR]) (.p (.sl zK)) zYt)
noncomputable abbrev qAn (n:Nat):jE U:=zQp (Γ:=U) LF G0 zZB.toS 300 n
theorem zTb (n:Nat):qD U Tryz.prog G0 (qAn n):=
 zE1 mixed zZm (qT (qT (qT (qT zZ (by kernel_rfl) (zPU zNF)) (by kernel_rfl) (zQL zFm (zOG zYN zQ9))) (by kernel_rfl) (zQL zHM (zOG zYp zQ9))) (by kernel_rfl) (zQL zFj (zOG zTn zQ9))) 330 310 300 n
theorem zZE:qAn 16 31 () []=some ((), .p (.val (.bool true))):=by kernel_rfl
theorem zPc:wL U Tryz.prog G0 31 (qN (j4 [] (.p .bool) zNU)):=by
 refine zSl ((zTb 16).ok 31) ?_
 intro s ds r h
 cases ds with
 |nil=>
  have h:some ((),RV.p (.val (.bool true)))=some r:=h
  rw [←h];exact zZE
 |cons d ds=>cases h
end Go.Ve

namespace Go.Ve
open Go Go.Proofs
set_option maxRecDepth 1000000
set_option maxHeartbeats 0
noncomputable def zQ2:Ent:=z8 (by kernel_rfl) zPc
theorem zIP:OkX 12 [zV,(.sl tI),zA] (.p .bool) zAQ:=fX [zQ2,zH7,zCS,zLz,zPm,zQ3] (A:=(jl [jj 10 24595657298930565120 [] [.t 32 .bool],jj 38 113427453950112020850152333814985129984 [] [.t 63 .bool],jj 62 2246662222262553314273582407477098665198182258256670347217390796800 [] [.t 110 .bool],jj 53 2246662222262553316221775508020733902842742606555231208380108378112 [] [.t 14 tI],jj 28 2246662222262553316222251257251635889469760423310621553920099487744 [] [],jj 25 2246662222262553316222251257251635889469762034818183833186529710080 [] [.t 10 tI],jj 68 2246662222262553316222251257251635889469762034818183833186529710080 [] [],jj 35 0 [(6144,512,0)] []])) (fn:=Tryz.f12) (by kernel_rfl) (by kernel_rfl) (by rintro ⟨⟩ ⟨a1,a2,a3,⟨⟩⟩;kernel_rfl)
end Go.Ve

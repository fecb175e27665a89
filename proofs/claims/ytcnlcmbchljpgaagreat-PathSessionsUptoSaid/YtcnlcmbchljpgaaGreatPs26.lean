/-
  law17: the fixed sanity check, run in the kernel.
  law20: the fixed sanity check, run in the kernel.
  The law's contract: law20_PathSessions.
-/
import Derived.Test.YtcnlcmbchljpgaaGreatPs13
import Derived.Test.YtcnlcmbchljpgaaGreatPs25
import Derived.Test.YtcnlcmbchljpgaaGreatPs21
set_option linter.unusedVariables false
namespace Go.Ve
open Go Go.Proofs
set_option maxRecDepth 1000000
theorem zYS:zMs Tryz.prog=true:=by kernel_rfl
noncomputable abbrev zZc (n:Nat):jB (jX zL):=zPO (Γ:=jX zL) LF G0 (zO.addH (zO.none (jX zL))).toS 300 n
theorem zSC (n:Nat):qC (jX zL) Tryz.prog G0 (zZc n):=
 zEH mixed zYS (zLo zZ (by kernel_rfl) (by kernel_rfl)) 330 310 300 n
noncomputable def zLn:ElS [zT]→Option (RTy.El (.tu [zI2,tI])):=zMG (.tu [zF1,tI]) (zX2 (zZc 14 123) [zT] (.tu [zF1,tI]))
theorem zNa:wG U Tryz.prog G0 123 (qK (j1 [zT] (.tu [zI2,tI]) zLn)):=
 zLw (tE:=zL) (G:=G0) (ts:=[zT]) (R:= .tu [zF1,tI]) (g:=zX2 (zZc 14 123) [zT] (.tu [zF1,tI])) (fun _=>rfl) (by kernel_rfl) (zVd ((zSC 14).ok 123) _ _)
end Go.Ve

namespace Go.Ve
open Go Go.Proofs
set_option maxRecDepth 1000000
noncomputable def zWJ:ElS [zR,qI,tI]→Option (List (Ty.El zA)):=atP [zR,qI,tI] (kR,zQO,1,()) l20 noF
noncomputable def zUW:ElS [zR,(.sl qI),tI]→Option (List (Ty.El zA)):=atP [zR,(.sl qI),tI] (kR,s20,0,()) t20 noF
noncomputable def zXZ:ElS [zR]→Option (List (Ty.El zK)):=atP [zR] (kR,()) e20 noF
noncomputable abbrev zY8:zO U:=((((zO.none U).add 123 (wS (zEx [zT]) (.tu [zI2,tI]) zLn)).add 39 (wS (zEx [zR,qI,tI]) (.p (.sl zA)) zWJ)).add 41 (wS (zEx [zR,(.sl qI),tI]) (.p (.sl zA)) zUW)).add 29 (wS (zEx [zR]) (.p (.sl zK)) zXZ)
noncomputable abbrev zZV (n:Nat):jB U:=zPO (Γ:=U) LF G0 zY8.toS 300 n
theorem zSA (n:Nat):qC U Tryz.prog G0 (zZV n):=
 zEH mixed zYS (qQ (qQ (qQ (qQ zZ (by kernel_rfl) (zPk zNa)) (by kernel_rfl) (zP9 zE1 (zOa zYi zQx))) (by kernel_rfl) (zP9 zHq (zOa zXV zQx))) (by kernel_rfl) (zP9 zBq (zOa zSM zQx))) 330 310 300 n
theorem zZb:zZV 16 31 () []=some ((), .p (.val (.bool true))):=by kernel_rfl
theorem zOE:wG U Tryz.prog G0 31 (qK (j1 [] (.p .bool) zNo)):=by
 refine zRK ((zSA 16).ok 31) ?_
 intro s ds r h
 cases ds with
 |nil=>
  have h:some ((),RV.p (.val (.bool true)))=some r:=h
  rw [←h];exact zZb
 |cons d ds=>cases h
end Go.Ve

namespace Go.Ve
open Go Go.Proofs
set_option maxRecDepth 1000000
set_option maxHeartbeats 0
noncomputable def zQq:Ent:=qB (by kernel_rfl) zOE
theorem zFN:OkX 7 [zT,(.sl tI)] (.p .bool) yH:=fX [zQq,zK8,zFT,zQr] (A:=(jl [jj 58 475749230901986627017816755390345539895689216 [] [.t 10 .bool],jj 49 475749230901986627019428262952624806329057280 [] [.t 11 tI, .t 10 .bool],jj 60 475749230901986627019428262952624806329057280 [] [.t 10 .bool],jj 62 31926989958956786980478936046202784842225352917909504 [] [.t 87 .bool],jj 36 31926990434706017882465563065631047794850159246966784 [] [],jj 33 31926990434706017882465563065631441229313606333759744 [] [.t 9 tI],jj 68 31926990434706017882465563065631441229313606333759744 [] [],jj 59 0 [(34,0,8)] []])) (fn:=Tryz.f7) (by kernel_rfl) (by kernel_rfl) (by rintro ⟨⟩ ⟨a1,a2,⟨⟩⟩;kernel_rfl)
end Go.Ve

/-
  law17: the fixed sanity check, run in the kernel.
  The law's contract: law17_DistBetter.
-/
import Derived.Test.YtcnlcmbchljpgaaGreatQb13
import Derived.Test.YtcnlcmbchljpgaaGreatQb25
import Derived.Test.YtcnlcmbchljpgaaGreatQb21
import Derived.Test.YtcnlcmbchljpgaaGreatQb17
set_option linter.unusedVariables false
namespace Go.Ve
open Go Go.Proofs
set_option maxRecDepth 1000000
theorem zWu:zKJ Tryz.prog=true:=by kernel_rfl
noncomputable abbrev zWH (n:Nat):jD (jU zO):=zOc (Γ:=jU zO) LF G0 (zQ.addH (zQ.none (jU zO))).toS 300 n
theorem zQ0 (n:Nat):z7 (jU zO) Tryz.prog G0 (zWH n):=
 zDD mixed zWu (zJH qC (by kernel_rfl) (by kernel_rfl)) 330 310 300 n
noncomputable def zJG:ElS [zV]→Option (RTy.El (.tu [zHA,tI])):=zKX (.tu [zEU,tI]) (zVI (zWH 14 123) [zV] (.tu [zEU,tI]))
theorem zLo:j7 U Tryz.prog G0 123 (qG (jV [zV] (.tu [zHA,tI]) zJG)):=
 zJQ (tE:=zO) (G:=G0) (ts:=[zV]) (R:= .tu [zEU,tI]) (g:=zVI (zWH 14 123) [zV] (.tu [zEU,tI])) (fun _=>rfl) (by kernel_rfl) (zTl ((zQ0 14).ok 123) _ _)
noncomputable def zWN:ElS [z6,tI]→Option (List (Ty.El zA)):=atP [z6,tI] (zAs,1,()) o17 noF
noncomputable def zTY:ElS [z6,(.sl (.sl zA)),(.sl zA),tI]→Option (List (Ty.El zA)):=atP [z6,(.sl (.sl zA)),(.sl zA),tI] (zAs,[[],o17],[],0,()) t17 noF
noncomputable abbrev zWF:zQ U:=(((zQ.none U).add 123 (wF (zEs [zV]) (.tu [zHA,tI]) zJG)).add 18 (wF (zEs [z6,tI]) (.p (.sl zA)) zWN)).add 22 (wF (zEs [z6,(.sl (.sl zA)),(.sl zA),tI]) (.p (.sl zA)) zTY)
noncomputable abbrev zXn (n:Nat):jD U:=zOc (Γ:=U) LF G0 zWF.toS 300 n
theorem zQZ (n:Nat):z7 U Tryz.prog G0 (zXn n):=
 zDD mixed zWu (qU (qU (qU qC (by kernel_rfl) (zND zLo)) (by kernel_rfl) (zSE zCH (zQF zXs zSN))) (by kernel_rfl) (zSE zBG (zQF zVC zSN))) 330 310 300 n
theorem zWG:zXn 16 24 () []=some ((), .p (.val (.bool true))):=by kernel_rfl
theorem zMO:j7 U Tryz.prog G0 24 (qG (jV [] (.p .bool) zLJ)):=by
 refine zP3 ((zQZ 16).ok 24) ?_
 intro s ds r h
 cases ds with
 |nil=>
  have h:some ((),RV.p (.val (.bool true)))=some r:=h
  rw [←h];exact zWG
 |cons d ds=>cases h
end Go.Ve

namespace Go.Ve
open Go Go.Proofs
set_option maxRecDepth 1000000
set_option maxHeartbeats 0
noncomputable def zOP:Ent:=qJ (by kernel_rfl) zMO
theorem zF8:OkX 6 [zV,(.sl tI),(.sl (.sl zA)),tI,tI] (.p .bool) yT:=fX [zOP,zON,zHc,zM2,zOQ] (A:=(jl [jj 10 30447950777727144129243434014922187609529647104 [] [.t 77 .bool],jj 62 11391930858244853733249749306567016573302194569603342225801400475846526012028560925421449546563584 [] [.t 161 .bool],jj 49 11391930858244853772773448510621923018419647591469647858744716632557206245623763559587149933182976 [] [.t 17 tI],jj 36 11391930858244853772773449099561957962325373905970592434688548698160626156022569409295521196015616 [] [],jj 33 11391930858244853772773449099570942417208347690960758566425311831917831893848928755349404869722112 [] [.t 14 tI],jj 68 11391930858244853772773449099570942417208347690960758566425311831917831893848928755349404869722112 [] [],jj 19 0 [(0,0,9),(80,999,1)] []])) (fn:=Tryz.f6) (by kernel_rfl) (by kernel_rfl) (by rintro ⟨⟩ ⟨a1,a2,a3,a4,a5,⟨⟩⟩;kernel_rfl)
end Go.Ve

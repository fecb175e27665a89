/-
  law17: the fixed sanity check, run in the kernel.
  law20: the fixed sanity check, run in the kernel.
  The law's contract: law20_PathExchanges.
-/
import Derived.Test.YtcnlcmbchljpgaaGreatPx14
import Derived.Test.YtcnlcmbchljpgaaGreatPx26
import Derived.Test.YtcnlcmbchljpgaaGreatPx22
import Derived.Test.YtcnlcmbchljpgaaGreatPx18
set_option linter.unusedVariables false
namespace Go.Ve
open Go Go.Proofs
set_option maxRecDepth 1000000
theorem qAD:zNO Tryz.prog=true:=by kernel_rfl
noncomputable abbrev qAW (n:Nat):jL (wC zM):=zRl (Γ:=wC zM) LF G0 (zO.addH (zO.none (wC zM))).toS 300 n
theorem zUj (n:Nat):qB (wC zM) Tryz.prog G0 (qAW n):=
 zFI mixed qAD (zMF z6 (by kernel_rfl) (by kernel_rfl)) 330 310 300 n
noncomputable def zME:ElS [zW]→Option (RTy.El (.tu [zKh,tI])):=zN3 (.tu [zHa,tI]) (zZK (qAW 14 123) [zW] (.tu [zHa,tI]))
theorem zOw:wV U Tryz.prog G0 123 (qP (wF [zW] (.tu [zKh,tI]) zME)):=
 zMN (tE:=zM) (G:=G0) (ts:=[zW]) (R:= .tu [zHa,tI]) (g:=zZK (qAW 14 123) [zW] (.tu [zHa,tI])) (fun _=>rfl) (by kernel_rfl) (zWW ((zUj 14).ok 123) _ _)
end Go.Ve

namespace Go.Ve
open Go Go.Proofs
set_option maxRecDepth 1000000
noncomputable def zYq:ElS [zS,qO,tI]→Option (List (Ty.El zA)):=atP [zS,qO,tI] (uJ,zSm,1,()) l20 noF
noncomputable def zWG:ElS [zS,(.sl qO),tI]→Option (List (Ty.El zA)):=atP [zS,(.sl qO),tI] (uJ,s20,0,()) t20 noF
noncomputable def zZG:ElS [zS]→Option (List (Ty.El zK)):=atP [zS] (uJ,()) e20 noF
noncomputable abbrev qAS:zO U:=((((zO.none U).add 123 (vA (zFu [zW]) (.tu [zKh,tI]) zME)).add 39 (vA (zFu [zS,qO,tI]) (.p (.sl zA)) zYq)).add 41 (vA (zFu [zS,(.sl qO),tI]) (.p (.sl zA)) zWG)).add 29 (vA (zFu [zS]) (.p (.sl zK)) zZG)
noncomputable abbrev qBD (n:Nat):jL U:=zRl (Γ:=U) LF G0 qAS.toS 300 n
theorem zUh (n:Nat):qB U Tryz.prog G0 (qBD n):=
 zFI mixed qAD (qY (qY (qY (qY z6 (by kernel_rfl) (zQQ zOw)) (by kernel_rfl) (zRI zF4 (zPB zZ2 zR6))) (by kernel_rfl) (zRI zIC (zPB zZD zR6))) (by kernel_rfl) (zRI zF1 (zPB zUu zR6))) 330 310 300 n
theorem qAV:qBD 16 31 () []=some ((), .p (.val (.bool true))):=by kernel_rfl
theorem zP6:wV U Tryz.prog G0 31 (qP (wF [] (.p .bool) zOM)):=by
 refine zTn ((zUh 16).ok 31) ?_
 intro s ds r h
 cases ds with
 |nil=>
  have h:some ((),RV.p (.val (.bool true)))=some r:=h
  rw [←h];exact qAV
 |cons d ds=>cases h
end Go.Ve

namespace Go.Ve
open Go Go.Proofs
set_option maxRecDepth 1000000
set_option maxHeartbeats 0
theorem zNn:OkX 34 [zS,zK,zA] (.tu [zA, .bool]) zDt:=fX [qBP,zPl,zLj,zGk,zEX] (A:=(jl [jj 10 25184417346631965343744 [] [.t 37 .bool],jj 34 1858395433183842048989774295488767123783680 [] [.t 70 .bool],jj 21 7433581732843541047077828939248234751090688 [] [.t 10 tI, .v 6 [.p zA]],jj 40 7433581732843541047077828939248234751090688 [] [.v 6 [.p zA]],jj 52 32565530243400138240114874326944070151898206346401548288 [] [.v 5 [.p zA]],jj 85 632379196099113827013800896266348393841685637644790368115618032754680844685148160 [] [.t 16 tI, .v 15 [.p zA]],jj 96 632379196099113827013800896266348393841685637644790368115618032754680844685148160 [] [.v 15 [.p zA]],jj 95 0 [(2,0,7),(130,0,2)] [],jj 67 0 [(14,0,8)] [],jj 7 0 [(196608,16256,0)] []])) (fn:=Tryz.f34) (by kernel_rfl) (by kernel_rfl) (by rintro ⟨⟩ ⟨a1,a2,a3,⟨⟩⟩;kernel_rfl)
noncomputable def zPp:Ent:=zZ (by kernel_rfl) zNn
theorem zNm:OkX 37 [zS,zK,zA] (.tu [zA, .bool]) zDs:=fX [qBP,zLj,zGk] (A:=(jl [jj 13 412646679665716632916877312 [] [.t 10 tI, .v 6 [.p zA]],jj 28 412646679665716632916877312 [] [.v 6 [.p zA]],jj 56 2142453286059166478206702877508566643645935192638631316553728 [] [.v 14 [.p zA]],jj 55 0 [(112,7,0)] [],jj 47 0 [(23,0,8)] [],jj 35 0 [(786432,65536,0)] [],jj 7 0 [(196608,16256,0)] []])) (fn:=Tryz.f37) (by kernel_rfl) (by kernel_rfl) (by rintro ⟨⟩ ⟨a1,a2,a3,⟨⟩⟩;kernel_rfl)
noncomputable def zPo:Ent:=zZ (by kernel_rfl) zNm
noncomputable def zRY:Ent:=zZ (by kernel_rfl) zP6
theorem zF6:OkX 8 [zW,(.sl tI),zA] (.p .bool) u9:=fX [zRY,zPo,zDm,zRU,zPp,zDn,zMn,zQf,zRZ] (A:=(jl [jj 10 393530516782889041920 [] [.t 34 .bool],jj 42 7433553375979630968973284142998834521309184 [] [.t 71 .bool],jj 62 34281214171238971989045944724331818694089995068294487485710336 [] [.t 102 .bool],jj 28 34281344944191792544895191303278135494683246382254174697947136 [] [],jj 25 34281344944191792544895191303278135520467367378722437565779968 [] [.t 10 tI],jj 68 34281344944191792544895191303278135520467367378722437565779968 [] [],jj 59 0 [(6144,512,0)] [],jj 55 0 [(6144,512,0)] [],jj 39 0 [(6144,512,0)] [],jj 35 0 [(6144,512,0)] []])) (fn:=Tryz.f8) (by kernel_rfl) (by kernel_rfl) (by rintro ⟨⟩ ⟨a1,a2,a3,⟨⟩⟩;kernel_rfl)
end Go.Ve

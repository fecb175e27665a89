/- law16 -/
import Derived.Test.YtgiopebfjmfmhaaGreatLp11
import Derived.Test.YtgiopebfjmfmhaaGreatLp28
import Derived.Test.YtgiopebfjmfmhaaGreatLp32
import Derived.Test.YtgiopebfjmfmhaaGreatLp23
set_option linter.unusedVariables false
set_option maxRecDepth 1000000
set_option maxHeartbeats 0
namespace Go.Ve
noncomputable section
open Go Go.Proofs
theorem qGc:zQN Tryz.prog=true:=by kernel_rfl
abbrev qGt(n:Nat):vF (v8 zS):=zOD (Γ:=v8 zS) LF G0 (zU.addH (zU.none (v8 zS))).toS 300 n
theorem zYz(n:Nat):qK (v8 zS) Tryz.prog G0 (qGt n):=
 zBc mixed qGc (zPz jE (by kernel_rfl) (by kernel_rfl)) 388 349 300 n
def zPv:ElS [zI]->Option (RTy.El (.tu [zLk,tI])):=zRb (.tu [zLT,tI]) (qC2 (qGt 14 87) [zI] (.tu [zLT,tI]))
theorem zRL:jJ U Tryz.prog G0 87 (z7 (qQ [zI] (.tu [zLk,tI]) zPv)):=
 zPM (tE:=zS) (G:=G0) (ts:=[zI]) (R:=.tu [zLT,tI]) (g:=qC2 (qGt 14 87) [zI] (.tu [zLT,tI])) (fun _=>rfl) (by kernel_rfl) (zUc ((zYz 14).ok 87) _ _)
theorem zYZ:zPv (zZa,())=some (zYx,0,()):=by kernel_rfl
def qEv:ElS [zI]->Option (RTy.El (.tu [zLk,tI])):=atP [zI] (zZa,()) (zYx,0,()) noF
def qGF:ElS [zF,tI]->Option (List (Ty.El zC)):=atP [zF,tI] (xR,0,()) l16 noF
def qDc:ElS [zF,tI,tI]->Option (RTy.El (.tu [tI,(.sl zQ),.bool])):=atP [zF,tI,tI] (xR,0,2,()) (20,[(0,167772162,())],true,()) noF
def qCl:ElS [zF,tI]->Option Bool:=atP [zF,tI] (xR,1,()) false noF
abbrev qE2:zU U:=((((zU.none U).add 87 (vR (zH3 [zI]) (.tu [zLk,tI]) qEv)).add 21 (vR (zH3 [zF,tI]) (.p (.sl zC)) qGF)).add 23 (vR (zH3 [zF,tI,tI]) (.tu [tI,(.sl zQ),.bool]) qDc)).add 17 (vR (zH3 [zF,tI]) (.p .bool) qCl)
abbrev qF9(n:Nat):vF U:=zOD (Γ:=U) LF G0 qE2.toS 300 n
theorem zWk(n:Nat):qK U Tryz.prog G0 (qF9 n):=
 zBc mixed qGc (vQ (vQ (vQ (vQ jE (by kernel_rfl) (zQT zRL (zOg zYZ zQZ))) (by kernel_rfl) (zQT zJk (zOg zS7 zQZ))) (by kernel_rfl) (zQT zGb (zOg zYY zQZ))) (by kernel_rfl) (zQT zJO (zOg zW2 zQZ))) 388 349 300 n
theorem qGr:qF9 16 19 () []=some ((),.p (.val (.bool true))):=by kernel_rfl
theorem zTh:OkX 19 [] (.p .bool) zRX:=by
 refine zXt ((zWk 16).ok 19) ?_;intro s a r h
 cases a with
 |nil=>
  have h:some ((),RV.p (.val (.bool true)))=some r:=h;rw[<-h];exact qGr
 |cons d a=>cases h
end
end Go.Ve
namespace Go.Ve
open Go Go.Proofs
theorem zIv:OkX 10 [zI,(.sl tI)] (.p .bool) x8:=fX [j9 zTh,zKd,zSz,zMz,zN3,zMy,zVI] [jj 50 0x55555500000000000000000000000000 [] [.t 63 .bool],jj 37 0x55555555555554000000000001540100 [] [.t 9 tI],jj 56 0x55555555555554000000000001540100 [] [],jj 94 0x5555555555000000000000000000000000000000000000000000 [] [.t 103 .bool],jj 106 0x15555555554000000000000000000000000000000000000000000000000040000000 [] [.t 15 .bool],jj 93 0x15555555555555555555555555000000000000000000000000000000003440000000 [] [.t 17 tI,.t 15 .bool],jj 108 0x15555555555555555555555555000000000000000000000000000000003440000000 [] [.t 15 .bool],jj 114 0x555555555540000000000000000000000000000000000000000000000000000000000000000000 [] [.t 155 .bool],jj 122 0x55555555550000000000000000000000000000000000000000000000000000000000000000000000040000000 [] [.t 15 .bool],jj 113 0x55555555555555555555540000000000000000000000000000000000000000000000000000000004040000000 [] [.t 19 tI,.t 15 .bool],jj 84 0x55555555555555555555555555555555555555555555555000000000000000000000000000000007440000000 [] [.t 15 .bool],jj 81 0x55555555555555555555555555555555555555555555555555400000000000000000000000000007540000000 [] [.t 16 tI,.t 15 .bool],jj 124 0x55555555555555555555555555555555555555555555555555400000000000000000000000000007540000000 [] [.t 15 .bool],jj 68 0x555555555555555555555555555555555555555555555555555400000000000000000000000000007540000000 [] [],jj 65 0x555555555555555555555555555555555555555555555555555555400000000000000000000000007550000100 [] [.t 14 tI],jj 28 0x555555555555555555555555555555555555555555555555555555555555555555555554000000007555540100 [] [],jj 25 0x555555555555555555555555555555555555555555555555555555555555555555555555555000007555550100 [] [.t 8 tI],jj 132 0x555555555555555555555555555555555555555555555555555555555555555555555555555000007555550100 [] [],jj 59 0 [(192,0,6)] [],jj 123 0 [(20,0,8)] [],jj 107 0 [(20,0,8)] []]
end Go.Ve

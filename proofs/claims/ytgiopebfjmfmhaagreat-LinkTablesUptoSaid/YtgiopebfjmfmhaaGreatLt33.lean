/- law16 -/
import Derived.Test.YtgiopebfjmfmhaaGreatLt11
import Derived.Test.YtgiopebfjmfmhaaGreatLt28
import Derived.Test.YtgiopebfjmfmhaaGreatLt32
import Derived.Test.YtgiopebfjmfmhaaGreatLt23
set_option linter.unusedVariables false
set_option maxRecDepth 1000000
set_option maxHeartbeats 0
namespace Go.Ve
noncomputable section
open Go Go.Proofs
theorem qGQ:zRl Tryz.prog=true:=by kernel_rfl
abbrev qG7(n:Nat):vG (kB zR):=zO7 (Γ:=kB zR) LF G0 (zU.addH (zU.none (kB zR))).toS 300 n
theorem zZc(n:Nat):qK (kB zR) Tryz.prog G0 (qG7 n):=
 zBl mixed qGQ (zP8 jE (by kernel_rfl) (by kernel_rfl)) 388 349 300 n
def zP4:ElS [zJ]->Option (RTy.El (.tu [zLJ,tI])):=zRE (.tu [zMh,tI]) (qDG (qG7 14 87) [zJ] (.tu [zMh,tI]))
theorem zSe:jK U Tryz.prog G0 87 (z6 (qQ [zJ] (.tu [zLJ,tI]) zP4)):=
 zQk (tE:=zR) (G:=G0) (ts:=[zJ]) (R:=.tu [zMh,tI]) (g:=qDG (qG7 14 87) [zJ] (.tu [zMh,tI])) (fun _=>rfl) (by kernel_rfl) (zUR ((zZc 14).ok 87) _ _)
theorem zZB:zP4 (zZO,())=some (zY9,0,()):=by kernel_rfl
def qE8:ElS [zJ]->Option (RTy.El (.tu [zLJ,tI])):=atP [zJ] (zZO,()) (zY9,0,()) noF
def qHj:ElS [zI,tI]->Option (List (Ty.El zC)):=atP [zI,tI] (x4,0,()) l16 noF
def qDO:ElS [zI,tI,tI]->Option (RTy.El (.tu [tI,(.sl zP),.bool])):=atP [zI,tI,tI] (x4,0,2,()) (20,[(0,167772162,())],true,()) noF
def qCZ:ElS [zI,tI]->Option Bool:=atP [zI,tI] (x4,1,()) false noF
abbrev qFG:zU U:=((((zU.none U).add 87 (vR (zIh [zJ]) (.tu [zLJ,tI]) qE8)).add 21 (vR (zIh [zI,tI]) (.p (.sl zC)) qHj)).add 23 (vR (zIh [zI,tI,tI]) (.tu [tI,(.sl zP),.bool]) qDO)).add 17 (vR (zIh [zI,tI]) (.p .bool) qCZ)
abbrev qGN(n:Nat):vG U:=zO7 (Γ:=U) LF G0 qFG.toS 300 n
theorem zWW(n:Nat):qK U Tryz.prog G0 (qGN n):=
 zBl mixed qGQ (vQ (vQ (vQ (vQ jE (by kernel_rfl) (zRq zSe (zOJ zZB zRu))) (by kernel_rfl) (zRq zJF (zOJ zTH zRu))) (by kernel_rfl) (zRq zMF (zOJ zZA zRu))) (by kernel_rfl) (zRq zKb (zOJ zXE zRu))) 388 349 300 n
theorem qG5:qGN 16 19 () []=some ((),.p (.val (.bool true))):=by kernel_rfl
theorem zTS:OkX 19 [] (.p .bool) zSt:=by
 refine zX4 ((zWW 16).ok 19) ?_;intro s a r h
 cases a with
 |nil=>
  have h:some ((),RV.p (.val (.bool true)))=some r:=h;rw[<-h];exact qG5
 |cons d a=>cases h
end
end Go.Ve
namespace Go.Ve
open Go Go.Proofs
theorem zLt:OkX 9 [zJ,(.sl tI),(.sl (.sl zC))] (.p .bool) zBN:=fX [jJ zTS,zKC,zS7,zS8,zT4,zT3,zMZ,zPN,zWm] [jj 10 0x5555000000000000 [] [.t 31 .bool],jj 82 0x555555555555540000000000000000000000000000000000000000000000 [] [.t 119 .bool],jj 65 0x55555555555555555555555555540000000000000000000000007d001000 [] [.t 12 tI],jj 88 0x55555555555555555555555555540000000000000000000000007d001000 [] [],jj 106 0x1555555550000000000000000000000000000000000000000000000000000000000000000000000 [] [.t 156 .bool],jj 93 0x1555555555555555555000000000000000000000000000000000000000000000000000d00001000 [] [.t 16 tI],jj 48 0x1555555555555555555555555555555555555555555555555555500000000000000000d7d001000 [] [],jj 45 0x1555555555555555555555555555555555555555555555555555555500000000000000d7d401000 [] [.t 11 tI],jj 24 0x1555555555555555555555555555555555555555555555555555555555540000000000d7d501000 [] [],jj 21 0x1555555555555555555555555555555555555555555555555555555555555550000000d7d541000 [] [.t 9 tI],jj 112 0x1555555555555555555555555555555555555555555555555555555555555550000000d7d541000 [] []]
end Go.Ve

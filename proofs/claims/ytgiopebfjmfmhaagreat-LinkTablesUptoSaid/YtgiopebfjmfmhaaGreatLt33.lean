/- law16 -/
import Derived.Test.YtgiopebfjmfmhaaGreatLt11
import Derived.Test.YtgiopebfjmfmhaaGreatLt28
import Derived.Test.YtgiopebfjmfmhaaGreatLt32
import Derived.Test.YtgiopebfjmfmhaaGreatLt23
set_option linter.unusedVariables false
set_option maxRecDepth 1000000
set_option maxHeartbeats 0
namespace Go.Ve
noncomputable section
open Go Go.Proofs
theorem qGS:zRm Tryz.prog=true:=by kernel_rfl
abbrev qG9(n:Nat):vG (kB zR):=zO9 (Γ:=kB zR) LF G0 (zU.addH (zU.none (kB zR))).toS 300 n
theorem zZe(n:Nat):qK (kB zR) Tryz.prog G0 (qG9 n):=
 zBl mixed qGS (zP9 jE (by kernel_rfl) (by kernel_rfl)) 388 349 300 n
def zP5:ElS [zJ]->Option (RTy.El (.tu [zLK,tI])):=zRF (.tu [zMi,tI]) (qDI (qG9 14 87) [zJ] (.tu [zMi,tI]))
theorem zSf:jK U Tryz.prog G0 87 (z6 (qQ [zJ] (.tu [zLK,tI]) zP5)):=
 zQl (tE:=zR) (G:=G0) (ts:=[zJ]) (R:=.tu [zMi,tI]) (g:=qDI (qG9 14 87) [zJ] (.tu [zMi,tI])) (fun _=>rfl) (by kernel_rfl) (zUT ((zZe 14).ok 87) _ _)
theorem zZD:zP5 (zZP,())=some (zZb,0,()):=by kernel_rfl
def qFa:ElS [zJ]->Option (RTy.El (.tu [zLK,tI])):=atP [zJ] (zZP,()) (zZb,0,()) noF
def qHl:ElS [zH,tI]->Option (List (Ty.El zC)):=atP [zH,tI] (x4,0,()) l16 noF
def qDQ:ElS [zH,tI,tI]->Option (RTy.El (.tu [tI,(.sl zP),.bool])):=atP [zH,tI,tI] (x4,0,2,()) (20,[(0,167772162,())],true,()) noF
def qC1:ElS [zH,tI]->Option Bool:=atP [zH,tI] (x4,1,()) false noF
abbrev qFH:zU U:=((((zU.none U).add 87 (vT (zIj [zJ]) (.tu [zLK,tI]) qFa)).add 21 (vT (zIj [zH,tI]) (.p (.sl zC)) qHl)).add 23 (vT (zIj [zH,tI,tI]) (.tu [tI,(.sl zP),.bool]) qDQ)).add 17 (vT (zIj [zH,tI]) (.p .bool) qC1)
abbrev qGP(n:Nat):vG U:=zO9 (Γ:=U) LF G0 qFH.toS 300 n
theorem zWY(n:Nat):qK U Tryz.prog G0 (qGP n):=
 zBl mixed qGS (vR (vR (vR (vR jE (by kernel_rfl) (zRr zSf (zOL zZD zRv))) (by kernel_rfl) (zRr zJE (zOL zTJ zRv))) (by kernel_rfl) (zRr zMG (zOL zZC zRv))) (by kernel_rfl) (zRr zKb (zOL zXG zRv))) 388 349 300 n
theorem qG7:qGP 16 19 () []=some ((),.p (.val (.bool true))):=by kernel_rfl
theorem zTU:OkX 19 [] (.p .bool) zSv:=by
 refine zX6 ((zWY 16).ok 19) ?_;intro s a r h
 cases a with
 |nil=>
  have h:some ((),RV.p (.val (.bool true)))=some r:=h;rw[<-h];exact qG7
 |cons d a=>cases h
end
end Go.Ve
namespace Go.Ve
open Go Go.Proofs
theorem zLu:OkX 9 [zJ,(.sl tI),(.sl (.sl zC))] (.p .bool) zBN:=fX [jJ zTU,zKC,zS9,zTa,zT6,zT5,zM0,zPP,zWo] [jj 10 0x5555000000000000 [] [.t 31 .bool],jj 82 0x555555555555540000000000000000000000000000000000000000000000 [] [.t 119 .bool],jj 65 0x55555555555555555555555555540000000000000000000000007d001000 [] [.t 12 tI],jj 88 0x55555555555555555555555555540000000000000000000000007d001000 [] [],jj 106 0x1555555550000000000000000000000000000000000000000000000000000000000000000000000 [] [.t 156 .bool],jj 93 0x1555555555555555555000000000000000000000000000000000000000000000000000d00001000 [] [.t 16 tI],jj 48 0x1555555555555555555555555555555555555555555555555555500000000000000000d7d001000 [] [],jj 45 0x1555555555555555555555555555555555555555555555555555555500000000000000d7d401000 [] [.t 11 tI],jj 24 0x1555555555555555555555555555555555555555555555555555555555540000000000d7d501000 [] [],jj 21 0x1555555555555555555555555555555555555555555555555555555555555550000000d7d541000 [] [.t 9 tI],jj 112 0x1555555555555555555555555555555555555555555555555555555555555550000000d7d541000 [] []]
end Go.Ve

/-
  Contracts: merging of routes, tables of distance-vector routing.
  Contracts: path-vector routing, the routes that a router originates, tables.
-/
import Derived.Test.YtcnlcmbchljpgaaGreatPs23
import Derived.Test.YtcnlcmbchljpgaaGreatPs24
import Derived.Test.YtcnlcmbchljpgaaGreatPs18
set_option linter.unusedVariables false
namespace Go.Ve
open Go Go.Proofs
set_option maxRecDepth 1000000
set_option maxHeartbeats 0
noncomputable def zFQ:Ent:=zZB (by kernel_rfl) zEU
noncomputable def zGx:Ent:=qAw (by kernel_rfl) zFK
theorem zJt:OkX 121 [(.sl zA)] (.p zA) zBd:=fX [yI,zGx,zHv,zFQ,zNT] (A:=(jl [jj 28 93819265617024 [] [.v 3 [.p zA]],jj 13 375299611036800 [] [.t 15 tI, .v 3 [.p zA]],jj 32 375299963358336 [] [.v 3 [.p zA]],jj 56 100743722224427047522304 [] [.o 6 6 jH],jj 41 402975267200076888608768 [] [.t 27 tI, .o 6 6 jH],jj 60 402975272829576422821888 [] [.o 6 6 jH]])) (fn:=Tryz.f121) (by kernel_rfl) (by kernel_rfl) (by rintro ⟨⟩ ⟨a1,⟨⟩⟩;kernel_rfl)
noncomputable def zK1:Ent:=qB (by kernel_rfl) zJt
theorem zNb:OkX 60 [(.sl zA)] (.p (.sl zA)) zDH:=fX [zK1,zK2,zBu,zCi,zGy] (A:=(jl [jj 30 98382635054057652224 [] [.t 33 .bool, .o 4 4 zA],jj 29 1574122160950821785856 [] [.t 6 tI, .o 4 4 zA],jj 36 1574122160950821785856 [] [.o 4 4 zA, .t 6 tI],jj 21 412646679761793424964982016 [] [.t 5 tI, .o 4 4 zA],jj 44 412646679761793424964982016 [] [.o 4 4 zA],jj 11 0 [(0,0,9),(8,0,2)] []])) (fn:=Tryz.f60) (by kernel_rfl) (by kernel_rfl) (by rintro ⟨⟩ ⟨a1,⟨⟩⟩;kernel_rfl)
noncomputable def zOL:Ent:=qB (by kernel_rfl) zNb
end Go.Ve

namespace Go.Ve
open Go Go.Proofs
set_option maxRecDepth 1000000
set_option maxHeartbeats 0
theorem zIk:OkX 136 [(.sl zA),zF,tU] (.p tI) zAy:=fX [zFA] (A:=(jl [jj 22 24019192286019584 [] [.t 27 .bool],jj 26 6447604347258824252456960 [] [.t 41 .bool],jj 32 25790417485112088971788288 [] [.t 7 tI],jj 13 103161669940448356236869632 [] [.t 12 tI, .t 7 tI],jj 36 103161669940448356242112512 [] [.t 7 tI]])) (fn:=Tryz.f136) (by kernel_rfl) (by kernel_rfl) (by rintro ⟨⟩ ⟨a1,a2,a3,⟨⟩⟩;kernel_rfl)
noncomputable def zJ2:Ent:=qB (by kernel_rfl) zIk
theorem zFM:OkA 170 [.d z8, .pp .str] (.p .bool) zAI:=fA [] (A:=fun _=>none) (fn:=Tryz.f170) (by kernel_rfl) (by kernel_rfl) (by rintro ⟨⟩ ⟨a1,a2,⟨⟩⟩;kernel_rfl)
noncomputable def zCk:Ent:=qB (by kernel_rfl) zFM
theorem zAG:OkA 169 [.d (.sl z8), .clo 170 [(true, .str)]] (.p tI) wE:=fA [zCk] (A:=(jl [jj 9 91625948416 [] [.t 8 tI],jj 28 91625968896 [] []])) (fn:=Tryz.f169) (by kernel_rfl) (by kernel_rfl) (by rintro ⟨⟩ ⟨a1,⟨a2,⟨⟩⟩,⟨⟩⟩;kernel_rfl)
noncomputable def zA0:Ent:=qB (by kernel_rfl) zAG
theorem zIq:OkX 137 [zD, .str] (.p tI) zAC:=fX [zA0,zCk] (A:=fun _=>none) (fn:=Tryz.f137) (by kernel_rfl) (by kernel_rfl) (by rintro ⟨⟩ ⟨a1,a2,⟨⟩⟩;kernel_rfl)
noncomputable def zJ7:Ent:=qB (by kernel_rfl) zIq
theorem zKA:OkX 89 [zR,(.sl zA),tI] (.p (.sl zA)) zB2:=fX [zKZ,zJ7,zJ2] (A:=(jl [jj 6 93824902758400 [] [.t 23 .bool],jj 46 28356755737226985813038956233973825536 [] [.t 62 .bool, .o 8 8 zA],jj 76 7981747608676504470616390663246190390899243445452800 [] [.o 8 8 zA, .v 11 [.p zA]],jj 80 2043327387821185144477796036200411851294445257207382016 [] [.o 8 8 zA],jj 25 8173309551284740577911184144801648954704283220132823040 [] [.t 33 tI, .o 8 8 zA],jj 84 8173309551284740577911184144801648978915634816876609536 [] [.o 8 8 zA]])) (fn:=Tryz.f89) (by kernel_rfl) (by kernel_rfl) (by rintro ⟨⟩ ⟨a1,a2,a3,⟨⟩⟩;kernel_rfl)
noncomputable def zFw:Ent:=qB (by kernel_rfl) zKA
theorem zE0:OkA 90 [.d zA, .pp zF] (.p .bool) zCx:=fA [] (A:=fun _=>none) (fn:=Tryz.f90) (by kernel_rfl) (by kernel_rfl) (by rintro ⟨⟩ ⟨a1,a2,⟨⟩⟩;kernel_rfl)
noncomputable def yW:Ent:=qB (by kernel_rfl) zE0
theorem zEY:OkX 91 [zR,tI,zF] (.p .bool) uF:=fX [zNZ,zKZ] (A:=(jl [jj 18 393530534375075086336 [] [.t 34 .bool],jj 9 1574122160950821998592 [] [.t 17 tI],jj 28 1574122160956548534272 [] []])) (fn:=Tryz.f91) (by kernel_rfl) (by kernel_rfl) (by rintro ⟨⟩ ⟨a1,a2,a3,⟨⟩⟩;kernel_rfl)
noncomputable def zBL:Ent:=qB (by kernel_rfl) zEY
theorem zCc:OkA 138 [.d (.sl zA), .clo 90 [(true,zF)]] (.p tI) vV:=fA [yW] (A:=(jl [jj 9 91625948416 [] [.t 8 tI],jj 28 91625968896 [] []])) (fn:=Tryz.f138) (by kernel_rfl) (by kernel_rfl) (by rintro ⟨⟩ ⟨a1,⟨a2,⟨⟩⟩,⟨⟩⟩;kernel_rfl)
noncomputable def yR:Ent:=qB (by kernel_rfl) zCc
theorem zEZ:OkA 96 [.d zA, .pp jP] (.p .bool) vD:=fA [zAd] (A:=fun _=>none) (fn:=Tryz.f96) (by kernel_rfl) (by kernel_rfl) (by rintro ⟨⟩ ⟨a1,a2,⟨⟩⟩;kernel_rfl)
noncomputable def yV:Ent:=qB (by kernel_rfl) zEZ
theorem zCb:OkA 138 [.d (.sl zA), .clo 96 [(true,jP)]] (.p tI) vU:=fA [yV] (A:=(jl [jj 9 91625948416 [] [.t 8 tI],jj 28 91625968896 [] []])) (fn:=Tryz.f138) (by kernel_rfl) (by kernel_rfl) (by rintro ⟨⟩ ⟨a1,⟨a2,⟨⟩⟩,⟨⟩⟩;kernel_rfl)
noncomputable def yQ:Ent:=qB (by kernel_rfl) zCb
theorem zBp:OkA 92 [.d (.sl zA), .clo 90 [(true,zF)]] (.p .bool) jR:=fA [yQ,yR] (A:=fun _=>none) (fn:=Tryz.f92) (by kernel_rfl) (by kernel_rfl) (by rintro ⟨⟩ ⟨a1,⟨a2,⟨⟩⟩,⟨⟩⟩;kernel_rfl)
noncomputable def k9:Ent:=qB (by kernel_rfl) zBp
theorem zBo:OkA 92 [.d (.sl zA), .clo 96 [(true,jP)]] (.p .bool) jQ:=fA [yQ,yR] (A:=fun _=>none) (fn:=Tryz.f92) (by kernel_rfl) (by kernel_rfl) (by rintro ⟨⟩ ⟨a1,⟨a2,⟨⟩⟩,⟨⟩⟩;kernel_rfl)
noncomputable def k8:Ent:=qB (by kernel_rfl) zBo
theorem zOu:OkX 94 [(.sl zA),zF] (.p tI) zBS:=fX [] (A:=(jl [jj 9 366503802112 [] [.t 9 tI],jj 28 366503884032 [] []])) (fn:=Tryz.f94) (by kernel_rfl) (by kernel_rfl) (by rintro ⟨⟩ ⟨a1,a2,⟨⟩⟩;kernel_rfl)
noncomputable def zFc:Ent:=qB (by kernel_rfl) zOu
theorem zEo:OkX 93 [qI,zF] (.p .bool) kJ:=fX [zFc] (A:=(jl [jj 18 1501199517876480 [] [.t 4 .bool]])) (fn:=Tryz.f93) (by kernel_rfl) (by kernel_rfl) (by rintro ⟨⟩ ⟨a1,a2,⟨⟩⟩;kernel_rfl)
noncomputable def zBw:Ent:=qB (by kernel_rfl) zEo
theorem zOv:OkX 139 [zD,jC,zA] (.tu [tI,tI, .bool]) zEQ:=fX [zFz,zBY] (A:=(jl [jj 22 1730765619511603060595474206556160 [] [.t 55 .bool],jj 40 464145148480160064164042964536931840688128 [] [.t 9 tI],jj 48 475284632043683905703979995685818204597256192 [] [.t 10 tI]])) (fn:=Tryz.f139) (by kernel_rfl) (by kernel_rfl) (by rintro ⟨⟩ ⟨a1,a2,a3,⟨⟩⟩;kernel_rfl)
noncomputable def zQj:Ent:=qB (by kernel_rfl) zOv
theorem zOw:zSv U Tryz.prog G0 140 zA 2 (kP [.d zD, .d jC]) (.p .bool) zIf:=
 zTf (fn:=Tryz.f140) (c:=j9 Tryz.f140) (S:=zXg []) (A:=(fun _=>none)) (zMx _) (by kernel_rfl) (by kernel_rfl) (by kernel_rfl) (by intro ty h;cases h) (by rintro ⟨⟩ a0 ⟨a1,a2,⟨⟩⟩;kernel_rfl)
noncomputable def zQk:Ent:=qAv (by kernel_rfl) zOw
theorem zHl:OkX 95 [zD,(.sl jC),(.sl zA),tI] (.p (.sl zA)) xV:=fX [zQk,zQj] (A:=(jl [jj 50 422550099332258165946469842944 [] [.t 49 .bool, .o 9 9 zA],jj 48 100743817925920018399232 [] [.t 12 tI, .o 9 9 zA],jj 29 100743812296420483923968 [] [.t 27 tI, .o 9 9 zA, .t 12 tI],jj 72 121791803110908576516973736059690228411355365376 [] [.o 9 9 zA],jj 13 487167212443634306067894944238761005315571056640 [] [.t 21 tI, .o 9 9 zA],jj 76 487167212443634306067894944238761006689960591360 [] [.o 9 9 zA],jj 67 0 [(5,0,8)] []])) (fn:=Tryz.f95) (by kernel_rfl) (by kernel_rfl) (by rintro ⟨⟩ ⟨a1,a2,a3,a4,⟨⟩⟩;kernel_rfl)
noncomputable def zDl:Ent:=qB (by kernel_rfl) zHl
theorem zHr:OkX 39 [zR,qI,tI] (.o zA) vQ:=fX [yV,zDl,zFc,zBw,k8,k9,zBL,yW,zFw] (A:=(jl [jj 6 25790417485106224998383616 [] [.t 42 .bool],jj 46 1948668842515180063291559223069719067663521546240 [] [.t 80 .bool, .o 9 9 zA],jj 60 31926990434705904455009922752810286867187922045763584 [] [.o 9 9 zA],jj 33 127707961738824064440646274742974443147923939609804800 [] [.t 62 tI, .o 9 9 zA],jj 64 127707961738824071502170002350340017949398947349135360 [] [.o 9 9 zA],jj 92 143786382224280320426941857067118381140797464718874523612245009891328 [] [.o 9 9 zA],jj 69 575145528899180955714691182894107142967679874418281679829001526575104 [] [.t 93 tI, .o 9 9 zA],jj 96 575145528899213521244934583032347257842006818488433578035347928121344 [] [.o 9 9 zA],jj 132 10609562376124557223382468251539799335430062375125978053846481832176962154906960271769600 [] [.o 9 9 zA],jj 105 42438249506929862767513513110054188026902695565422581893364379173536457883748661954084864 [] [.t 128 tI, .o 9 9 zA],jj 136 42438249506968309359643090753065920580518861472326987942960392642065184034688789360410624 [] [.o 9 9 zA]])) (fn:=Tryz.f39) (by kernel_rfl) (by kernel_rfl) (by rintro ⟨⟩ ⟨a1,a2,a3,⟨⟩⟩;kernel_rfl)
noncomputable def zIJ:Ent:=qB (by kernel_rfl) zHr
theorem zEX:OkX 100 [zR,zK,(.sl zA)] (.p (.sl zA)) uE:=fX [zHz,zHA] (A:=(jl [jj 40 1611901092819482785366016 [] [.o 7 7 zA],jj 13 6447604371278020959027200 [] [.t 16 tI, .o 7 7 zA],jj 44 6447604371278022301204480 [] [.o 7 7 zA]])) (fn:=Tryz.f100) (by kernel_rfl) (by kernel_rfl) (by rintro ⟨⟩ ⟨a1,a2,a3,⟨⟩⟩;kernel_rfl)
noncomputable def zFS:Ent:=qB (by kernel_rfl) zEX
theorem zHq:OkX 41 [zR,(.sl qI),tI] (.p (.sl zA)) xY:=fX [zOL,zFS,zAc,zIJ] (A:=(jl [jj 6 25185954575304773074944 [] [.t 37 .bool],jj 48 1948668849746180360361811056676250820657323982848 [] [.o 7 44 zA],jj 33 7794675399096376593092248704999459040486661046272 [] [.t 61 tI, .o 7 44 zA],jj 52 7794675399098148464395223714927695072359007469568 [] [.o 7 44 zA],jj 21 31178701596392595561302373111421631865798953877504 [] [.t 53 tI, .o 7 44 zA],jj 56 31178701596392595588345173269610763970970322550784 [] [.o 7 44 zA]])) (fn:=Tryz.f41) (by kernel_rfl) (by kernel_rfl) (by rintro ⟨⟩ ⟨a1,a2,a3,⟨⟩⟩;kernel_rfl)
theorem zE1:OkX 39 [zR,qI,tI] (.p (.sl zA)) vQ:=fX [yV,zDl,zFc,zBw,k8,k9,zBL,yW,zFw] (A:=(jl [jj 6 25790417485106224998383616 [] [.t 42 .bool],jj 46 1948668842515180063291559223069719067663521546240 [] [.t 80 .bool, .o 9 9 zA],jj 60 31926990434705904455009922752810286867187922045763584 [] [.o 9 9 zA],jj 33 127707961738824064440646274742974443147923939609804800 [] [.t 62 tI, .o 9 9 zA],jj 64 127707961738824071502170002350340017949398947349135360 [] [.o 9 9 zA],jj 92 143786382224280320426941857067118381140797464718874523612245009891328 [] [.o 9 9 zA],jj 69 575145528899180955714691182894107142967679874418281679829001526575104 [] [.t 93 tI, .o 9 9 zA],jj 96 575145528899213521244934583032347257842006818488433578035347928121344 [] [.o 9 9 zA],jj 132 10609562376124557223382468251539799335430062375125978053846481832176962154906960271769600 [] [.o 9 9 zA],jj 105 42438249506929862767513513110054188026902695565422581893364379173536457883748661954084864 [] [.t 128 tI, .o 9 9 zA],jj 136 42438249506968309359643090753065920580518861472326987942960392642065184034688789360410624 [] [.o 9 9 zA]])) (fn:=Tryz.f39) (by kernel_rfl) (by kernel_rfl) (by rintro ⟨⟩ ⟨a1,a2,a3,⟨⟩⟩;kernel_rfl)
end Go.Ve

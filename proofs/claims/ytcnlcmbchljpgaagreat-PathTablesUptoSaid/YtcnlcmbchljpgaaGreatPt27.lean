/-
  Contracts: merging of routes, tables of distance-vector routing.
  Contracts: path-vector routing, the routes that a router originates, tables.
-/
import Derived.Test.YtcnlcmbchljpgaaGreatPt25
import Derived.Test.YtcnlcmbchljpgaaGreatPt26
import Derived.Test.YtcnlcmbchljpgaaGreatPt18
set_option linter.unusedVariables false
namespace Go.Ve
open Go Go.Proofs
set_option maxRecDepth 1000000
set_option maxHeartbeats 0
noncomputable def zHz:Ent:=qCM (by kernel_rfl) zGr
noncomputable def zIk:Ent:=qDJ (by kernel_rfl) zHq
theorem zLG:OkX 121 [(.sl zB)] (.p zB) zBY:=fX [xM,zIk,zJv,zHz,zQH] (A:=(jl [jj 28 93819265617024 [] [.v 3 [.p zB]],jj 13 375299611036800 [] [.t 15 tI, .v 3 [.p zB]],jj 32 375299963358336 [] [.v 3 [.p zB]],jj 56 100743722224427047522304 [] [.o 6 6 qB],jj 41 402975267200076888608768 [] [.t 27 tI, .o 6 6 qB],jj 60 402975272829576422821888 [] [.o 6 6 qB]])) (fn:=Tryz.f121) (by kernel_rfl) (by kernel_rfl) (by rintro ⟨⟩ ⟨a1,⟨⟩⟩;kernel_rfl)
noncomputable def zNq:Ent:=z6 (by kernel_rfl) zLG
theorem zPQ:OkX 60 [(.sl zB)] (.p (.sl zB)) zEX:=fX [zNq,zNr,zCj,zDl,zIl] (A:=(jl [jj 30 98382635054057652224 [] [.t 33 .bool, .o 4 4 zB],jj 29 1574122160950821785856 [] [.t 6 tI, .o 4 4 zB],jj 36 1574122160950821785856 [] [.o 4 4 zB, .t 6 tI],jj 21 412646679761793424964982016 [] [.t 5 tI, .o 4 4 zB],jj 44 412646679761793424964982016 [] [.o 4 4 zB],jj 11 0 [(0,0,9),(8,0,2)] []])) (fn:=Tryz.f60) (by kernel_rfl) (by kernel_rfl) (by rintro ⟨⟩ ⟨a1,⟨⟩⟩;kernel_rfl)
noncomputable def zRJ:Ent:=z6 (by kernel_rfl) zPQ
end Go.Ve

namespace Go.Ve
open Go Go.Proofs
set_option maxRecDepth 1000000
set_option maxHeartbeats 0
theorem zPV:OkX 88 [zN,(.sl zS)] (.p .bool) zEY:=fX [zRO] (A:=(jl [jj 26 27043212804868893898504709079040 [] [.t 52 .bool],jj 17 27043212804868893898596312679680 [] [.t 5 tI],jj 32 27043212804868893898596312679680 [] []])) (fn:=Tryz.f88) (by kernel_rfl) (by kernel_rfl) (by rintro ⟨⟩ ⟨a1,a2,⟨⟩⟩;kernel_rfl)
noncomputable def zRL:Ent:=z6 (by kernel_rfl) zPV
theorem zP2:OkX 38 [zN,(.sl zS)] (.p .bool) zE5:=fX [zRL] (A:=(jl [jj 26 27043212804868893898504709079040 [] [.t 52 .bool],jj 17 27043212804868893898596312679680 [] [.t 5 tI],jj 32 27043212804868893898596312679680 [] []])) (fn:=Tryz.f38) (by kernel_rfl) (by kernel_rfl) (by rintro ⟨⟩ ⟨a1,a2,⟨⟩⟩;kernel_rfl)
noncomputable def zRR:Ent:=z6 (by kernel_rfl) zP2
theorem zKl:OkX 136 [(.sl zB),zG,tU] (.p tI) zBh:=fX [zHe] (A:=(jl [jj 22 24019192286019584 [] [.t 27 .bool],jj 26 6447604347258824252456960 [] [.t 41 .bool],jj 32 25790417485112088971788288 [] [.t 7 tI],jj 13 103161669940448356236869632 [] [.t 12 tI, .t 7 tI],jj 36 103161669940448356242112512 [] [.t 7 tI]])) (fn:=Tryz.f136) (by kernel_rfl) (by kernel_rfl) (by rintro ⟨⟩ ⟨a1,a2,a3,⟨⟩⟩;kernel_rfl)
noncomputable def zMh:Ent:=z6 (by kernel_rfl) zKl
theorem zHv:OkA 170 [.d qA, .pp .str] (.p .bool) zBs:=fA [] (A:=fun _=>none) (fn:=Tryz.f170) (by kernel_rfl) (by kernel_rfl) (by rintro ⟨⟩ ⟨a1,a2,⟨⟩⟩;kernel_rfl)
noncomputable def zDn:Ent:=z6 (by kernel_rfl) zHv
theorem zBq:OkA 169 [.d (.sl qA), .clo 170 [(true, .str)]] (.p tI) w4:=fA [zDn] (A:=(jl [jj 9 91625948416 [] [.t 8 tI],jj 28 91625968896 [] []])) (fn:=Tryz.f169) (by kernel_rfl) (by kernel_rfl) (by rintro ⟨⟩ ⟨a1,⟨a2,⟨⟩⟩,⟨⟩⟩;kernel_rfl)
noncomputable def zBL:Ent:=z6 (by kernel_rfl) zBq
theorem zKs:OkX 137 [zF, .str] (.p tI) zBl:=fX [zBL,zDn] (A:=fun _=>none) (fn:=Tryz.f137) (by kernel_rfl) (by kernel_rfl) (by rintro ⟨⟩ ⟨a1,a2,⟨⟩⟩;kernel_rfl)
noncomputable def zMp:Ent:=z6 (by kernel_rfl) zKs
theorem zMX:OkX 89 [zN,(.sl zB),tI] (.p (.sl zB)) zC0:=fX [zNo,zMp,zMh] (A:=(jl [jj 6 93824902758400 [] [.t 23 .bool],jj 46 28356755737226985813038956233973825536 [] [.t 62 .bool, .o 8 8 zB],jj 76 7981747608676504470616390663246190390899243445452800 [] [.o 8 8 zB, .v 11 [.p zB]],jj 80 2043327387821185144477796036200411851294445257207382016 [] [.o 8 8 zB],jj 25 8173309551284740577911184144801648954704283220132823040 [] [.t 33 tI, .o 8 8 zB],jj 84 8173309551284740577911184144801648978915634816876609536 [] [.o 8 8 zB]])) (fn:=Tryz.f89) (by kernel_rfl) (by kernel_rfl) (by rintro ⟨⟩ ⟨a1,a2,a3,⟨⟩⟩;kernel_rfl)
noncomputable def zG9:Ent:=z6 (by kernel_rfl) zMX
theorem zGz:OkA 90 [.d zB, .pp zG] (.p .bool) zDD:=fA [] (A:=fun _=>none) (fn:=Tryz.f90) (by kernel_rfl) (by kernel_rfl) (by rintro ⟨⟩ ⟨a1,a2,⟨⟩⟩;kernel_rfl)
noncomputable def x8:Ent:=z6 (by kernel_rfl) zGz
theorem zGw:OkX 91 [zN,tI,zG] (.p .bool) u9:=fX [zQS,zNo] (A:=(jl [jj 18 393530534375075086336 [] [.t 34 .bool],jj 9 1574122160950821998592 [] [.t 17 tI],jj 28 1574122160956548534272 [] []])) (fn:=Tryz.f91) (by kernel_rfl) (by kernel_rfl) (by rintro ⟨⟩ ⟨a1,a2,a3,⟨⟩⟩;kernel_rfl)
noncomputable def zCE:Ent:=z6 (by kernel_rfl) zGw
theorem zDg:OkA 138 [.d (.sl zB), .clo 90 [(true,zG)]] (.p tI) kF:=fA [x8] (A:=(jl [jj 9 91625948416 [] [.t 8 tI],jj 28 91625968896 [] []])) (fn:=Tryz.f138) (by kernel_rfl) (by kernel_rfl) (by rintro ⟨⟩ ⟨a1,⟨a2,⟨⟩⟩,⟨⟩⟩;kernel_rfl)
noncomputable def xX:Ent:=z6 (by kernel_rfl) zDg
theorem zGy:OkA 96 [.d zB, .pp q8] (.p .bool) vQ:=fA [zAU] (A:=fun _=>none) (fn:=Tryz.f96) (by kernel_rfl) (by kernel_rfl) (by rintro ⟨⟩ ⟨a1,a2,⟨⟩⟩;kernel_rfl)
noncomputable def x7:Ent:=z6 (by kernel_rfl) zGy
theorem zDf:OkA 138 [.d (.sl zB), .clo 96 [(true,q8)]] (.p tI) kE:=fA [x7] (A:=(jl [jj 9 91625948416 [] [.t 8 tI],jj 28 91625968896 [] []])) (fn:=Tryz.f138) (by kernel_rfl) (by kernel_rfl) (by rintro ⟨⟩ ⟨a1,⟨a2,⟨⟩⟩,⟨⟩⟩;kernel_rfl)
noncomputable def xW:Ent:=z6 (by kernel_rfl) zDf
theorem zCf:OkA 92 [.d (.sl zB), .clo 90 [(true,zG)]] (.p .bool) j4:=fA [xW,xX] (A:=fun _=>none) (fn:=Tryz.f92) (by kernel_rfl) (by kernel_rfl) (by rintro ⟨⟩ ⟨a1,⟨a2,⟨⟩⟩,⟨⟩⟩;kernel_rfl)
noncomputable def uW:Ent:=z6 (by kernel_rfl) zCf
theorem zCe:OkA 92 [.d (.sl zB), .clo 96 [(true,q8)]] (.p .bool) j3:=fA [xW,xX] (A:=fun _=>none) (fn:=Tryz.f92) (by kernel_rfl) (by kernel_rfl) (by rintro ⟨⟩ ⟨a1,⟨a2,⟨⟩⟩,⟨⟩⟩;kernel_rfl)
noncomputable def uV:Ent:=z6 (by kernel_rfl) zCe
theorem zRn:OkX 94 [(.sl zB),zG] (.p tI) zCN:=fX [] (A:=(jl [jj 9 366503802112 [] [.t 9 tI],jj 28 366503884032 [] []])) (fn:=Tryz.f94) (by kernel_rfl) (by kernel_rfl) (by rintro ⟨⟩ ⟨a1,a2,⟨⟩⟩;kernel_rfl)
noncomputable def zGM:Ent:=z6 (by kernel_rfl) zRn
theorem zFO:OkX 93 [zS,zG] (.p .bool) uD:=fX [zGM] (A:=(jl [jj 18 1501199517876480 [] [.t 4 .bool]])) (fn:=Tryz.f93) (by kernel_rfl) (by kernel_rfl) (by rintro ⟨⟩ ⟨a1,a2,⟨⟩⟩;kernel_rfl)
noncomputable def zCo:Ent:=z6 (by kernel_rfl) zFO
theorem zRo:OkX 139 [zF,qO,zB] (.tu [tI,tI, .bool]) zGl:=fX [zHd,zCV] (A:=(jl [jj 22 1730765619511603060595474206556160 [] [.t 55 .bool],jj 40 464145148480160064164042964536931840688128 [] [.t 9 tI],jj 48 475284632043683905703979995685818204597256192 [] [.t 10 tI]])) (fn:=Tryz.f139) (by kernel_rfl) (by kernel_rfl) (by rintro ⟨⟩ ⟨a1,a2,a3,⟨⟩⟩;kernel_rfl)
noncomputable def zTz:Ent:=z6 (by kernel_rfl) zRo
theorem zRp:zVV U Tryz.prog G0 140 zB 2 (uH [.d zF, .d qO]) (.p .bool) zKi:=
 zWB (fn:=Tryz.f140) (c:=wQ Tryz.f140) (S:=qAB []) (A:=(fun _=>none)) (zPb _) (by kernel_rfl) (by kernel_rfl) (by kernel_rfl) (by intro ty h;cases h) (by rintro ⟨⟩ a0 ⟨a1,a2,⟨⟩⟩;kernel_rfl)
noncomputable def zTA:Ent:=qDI (by kernel_rfl) zRp
theorem zJj:OkX 95 [zF,(.sl qO),(.sl zB),tI] (.p (.sl zB)) zAC:=fX [zTA,zTz] (A:=(jl [jj 50 422550099332258165946469842944 [] [.t 49 .bool, .o 9 9 zB],jj 48 100743817925920018399232 [] [.t 12 tI, .o 9 9 zB],jj 29 100743812296420483923968 [] [.t 27 tI, .o 9 9 zB, .t 12 tI],jj 72 121791803110908576516973736059690228411355365376 [] [.o 9 9 zB],jj 13 487167212443634306067894944238761005315571056640 [] [.t 21 tI, .o 9 9 zB],jj 76 487167212443634306067894944238761006689960591360 [] [.o 9 9 zB],jj 67 0 [(5,0,8)] []])) (fn:=Tryz.f95) (by kernel_rfl) (by kernel_rfl) (by rintro ⟨⟩ ⟨a1,a2,a3,a4,⟨⟩⟩;kernel_rfl)
noncomputable def zEz:Ent:=z6 (by kernel_rfl) zJj
theorem zJq:OkX 39 [zN,zS,tI] (.o zB) kB:=fX [x7,zEz,zGM,zCo,uV,uW,zCE,x8,zG9] (A:=(jl [jj 6 25790417485106224998383616 [] [.t 42 .bool],jj 46 1948668842515180063291559223069719067663521546240 [] [.t 80 .bool, .o 9 9 zB],jj 60 31926990434705904455009922752810286867187922045763584 [] [.o 9 9 zB],jj 33 127707961738824064440646274742974443147923939609804800 [] [.t 62 tI, .o 9 9 zB],jj 64 127707961738824071502170002350340017949398947349135360 [] [.o 9 9 zB],jj 92 143786382224280320426941857067118381140797464718874523612245009891328 [] [.o 9 9 zB],jj 69 575145528899180955714691182894107142967679874418281679829001526575104 [] [.t 93 tI, .o 9 9 zB],jj 96 575145528899213521244934583032347257842006818488433578035347928121344 [] [.o 9 9 zB],jj 132 10609562376124557223382468251539799335430062375125978053846481832176962154906960271769600 [] [.o 9 9 zB],jj 105 42438249506929862767513513110054188026902695565422581893364379173536457883748661954084864 [] [.t 128 tI, .o 9 9 zB],jj 136 42438249506968309359643090753065920580518861472326987942960392642065184034688789360410624 [] [.o 9 9 zB]])) (fn:=Tryz.f39) (by kernel_rfl) (by kernel_rfl) (by rintro ⟨⟩ ⟨a1,a2,a3,⟨⟩⟩;kernel_rfl)
noncomputable def zKR:Ent:=z6 (by kernel_rfl) zJq
theorem zTa:OkX 142 [zN,tI,zG] (.p .bool) zIK:=fX [zOT,zKO] (A:=(jl [jj 18 6148914324732641280 [] [.t 31 .bool],jj 9 6148914691236515840 [] [.t 7 tI],jj 24 6148914691236515840 [] []])) (fn:=Tryz.f142) (by kernel_rfl) (by kernel_rfl) (by rintro ⟨⟩ ⟨a1,a2,a3,⟨⟩⟩;kernel_rfl)
noncomputable def zVm:Ent:=z6 (by kernel_rfl) zTa
theorem zLO:OkX 171 [(.sl zB),zG,tU] (.p tI) zB4:=fX [zHb] (A:=(jl [jj 22 422550200076076467165209821184 [] [.t 49 .bool],jj 16 1690200800304305868661913042944 [] [.t 7 tI],jj 13 1690200800304305868662270935040 [] [.t 8 tI, .t 7 tI],jj 28 1690200800304305868662270935040 [] [.t 7 tI]])) (fn:=Tryz.f171) (by kernel_rfl) (by kernel_rfl) (by rintro ⟨⟩ ⟨a1,a2,a3,⟨⟩⟩;kernel_rfl)
noncomputable def zNx:Ent:=z6 (by kernel_rfl) zLO
theorem zOx:OkX 143 [zN,(.sl zB),tI] (.p (.sl zB)) zDP:=fX [zKO,zFZ,zNx,zEA] (A:=(jl [jj 50 453708091795631773008623299743581208576 [] [.t 64 .bool, .o 7 7 zB],jj 52 453709822554648937741644115109579079680 [] [.o 7 7 zB],jj 68 1948668849320827401710328492337211216298961272832 [] [.o 7 7 zB, .v 11 [.p zB]],jj 28 498859225542281529413524422900489733480552265170944 [] [.o 7 7 zB],jj 25 498859225542281529413524422900491270615400082325504 [] [.t 9 tI, .o 7 7 zB],jj 72 498859225542281529413524422900491270615400082325504 [] [.o 7 7 zB]])) (fn:=Tryz.f143) (by kernel_rfl) (by kernel_rfl) (by rintro ⟨⟩ ⟨a1,a2,a3,⟨⟩⟩;kernel_rfl)
noncomputable def zQO:Ent:=z6 (by kernel_rfl) zOx
theorem zTb:OkX 98 [zN,zS,tI,zG] (.p .bool) zIL:=fX [zQO,zMn,zVm] (A:=(jl [jj 6 23456242466816 [] [.t 22 .bool],jj 21 1611901068800307554746368 [] [.t 10 tI],jj 36 1611901068800307554746368 [] [],jj 42 1730765206864929447716740476764160 [] [.t 8 .bool]])) (fn:=Tryz.f98) (by kernel_rfl) (by kernel_rfl) (by rintro ⟨⟩ ⟨a1,a2,a3,a4,⟨⟩⟩;kernel_rfl)
noncomputable def zVn:Ent:=z6 (by kernel_rfl) zTb
theorem zHu:OkX 99 [zF,(.sl qO),(.sl zB),tI] (.p (.sl zB)) xL:=fX [kW,zFr] (A:=(jl [jj 42 27043212704125075597377237155840 [] [.t 52 .bool, .o 9 9 zB],jj 76 7973952933277406321719304447300040155242768222912512 [] [.t 14 tI, .o 9 9 zB],jj 84 8173309551284740577904261082323602542461901380383932416 [] [.t 14 tI, .t 15 tI, .o 9 9 zB],jj 114 143751278127580559842658107788210140115291805221749536862134484336640 [] [.t 113 .bool, .o 9 9 zB],jj 128 9649340769776349585153039495328361580648288465029159450742236296988682616832 [] [.o 9 9 zB, .v 18 [.p zB]],jj 32 2470231237062745502369514346852008700869759672866998699508034928295504498655232 [] [.o 9 9 zB],jj 29 2470231237062745502369514346852008700869759672866998699508428362758951601963008 [] [.t 12 tI, .o 9 9 zB],jj 16 2470231237062745502369514346852008700869759672866998699508428458460443696168960 [] [.o 9 9 zB],jj 13 2470231237062745502369514346852008700869759672866998699508428458835652040196096 [] [.t 10 tI, .o 9 9 zB],jj 132 2470231237062745502369514346852008700869759672866998699508428458835652040196096 [] [.o 9 9 zB],jj 127 0 [(496,7,0)] [],jj 119 0 [(112,7,0)] []])) (fn:=Tryz.f99) (by kernel_rfl) (by kernel_rfl) (by rintro ⟨⟩ ⟨a1,a2,a3,a4,⟨⟩⟩;kernel_rfl)
noncomputable def zIs:Ent:=z6 (by kernel_rfl) zHu
theorem zRx:OkX 35 [zB,zB] (.p .bool) zGm:=fX [] (A:=(jl [jj 6 535646014752996758513987364113720867507400997927597611761664 [] [.t 99 .bool],jj 17 36809313849014027518232367840296815048958860317401327296272531581830400 [] [.t 5 tI],jj 32 36809313849014027518232367840296815048958860317401327296272531581830400 [] [],jj 37 2529516786715442080576833017643471545091823102602734087111722013553331492167356672 [] [.t 6 tI],jj 52 2529516786715442080576833017643471545091823102602734087111722013553331492167356672 [] []])) (fn:=Tryz.f35) (by kernel_rfl) (by kernel_rfl) (by rintro ⟨⟩ ⟨a1,a2,⟨⟩⟩;kernel_rfl)
noncomputable def zTD:Ent:=z6 (by kernel_rfl) zRx
theorem zM4:OkX 17 [(.sl zB),(.sl zB)] (.p .bool) zC2:=fX [zTD] (A:=(jl [jj 17 6004799501763840 [] [.t 5 tI],jj 32 6004799501763840 [] []])) (fn:=Tryz.f17) (by kernel_rfl) (by kernel_rfl) (by rintro ⟨⟩ ⟨a1,a2,⟨⟩⟩;kernel_rfl)
noncomputable def zOU:Ent:=z6 (by kernel_rfl) zM4
theorem zGv:OkX 100 [zN,zK,(.sl zB)] (.p (.sl zB)) u7:=fX [zJA,zJB] (A:=(jl [jj 40 1611901092819482785366016 [] [.o 7 7 zB],jj 13 6447604371278020959027200 [] [.t 16 tI, .o 7 7 zB],jj 44 6447604371278022301204480 [] [.o 7 7 zB]])) (fn:=Tryz.f100) (by kernel_rfl) (by kernel_rfl) (by rintro ⟨⟩ ⟨a1,a2,a3,⟨⟩⟩;kernel_rfl)
noncomputable def zHC:Ent:=z6 (by kernel_rfl) zGv
theorem zDE:OkX 41 [zN,(.sl zS),tI] (.p (.sl zB)) yR:=fX [zRJ,zHC,zAT,zKR] (A:=(jl [jj 6 25185954575304773074944 [] [.t 37 .bool],jj 48 1948668849746180360361811056676250820657323982848 [] [.o 7 44 zB],jj 33 7794675399096376593092248704999459040486661046272 [] [.t 61 tI, .o 7 44 zB],jj 52 7794675399098148464395223714927695072359007469568 [] [.o 7 44 zB],jj 21 31178701596392595561302373111421631865798953877504 [] [.t 53 tI, .o 7 44 zB],jj 56 31178701596392595588345173269610763970970322550784 [] [.o 7 44 zB]])) (fn:=Tryz.f41) (by kernel_rfl) (by kernel_rfl) (by rintro ⟨⟩ ⟨a1,a2,a3,⟨⟩⟩;kernel_rfl)
noncomputable def zKQ:Ent:=z6 (by kernel_rfl) zDE
theorem zGA:OkX 39 [zN,zS,tI] (.p (.sl zB)) kB:=fX [x7,zEz,zGM,zCo,uV,uW,zCE,x8,zG9] (A:=(jl [jj 6 25790417485106224998383616 [] [.t 42 .bool],jj 46 1948668842515180063291559223069719067663521546240 [] [.t 80 .bool, .o 9 9 zB],jj 60 31926990434705904455009922752810286867187922045763584 [] [.o 9 9 zB],jj 33 127707961738824064440646274742974443147923939609804800 [] [.t 62 tI, .o 9 9 zB],jj 64 127707961738824071502170002350340017949398947349135360 [] [.o 9 9 zB],jj 92 143786382224280320426941857067118381140797464718874523612245009891328 [] [.o 9 9 zB],jj 69 575145528899180955714691182894107142967679874418281679829001526575104 [] [.t 93 tI, .o 9 9 zB],jj 96 575145528899213521244934583032347257842006818488433578035347928121344 [] [.o 9 9 zB],jj 132 10609562376124557223382468251539799335430062375125978053846481832176962154906960271769600 [] [.o 9 9 zB],jj 105 42438249506929862767513513110054188026902695565422581893364379173536457883748661954084864 [] [.t 128 tI, .o 9 9 zB],jj 136 42438249506968309359643090753065920580518861472326987942960392642065184034688789360410624 [] [.o 9 9 zB]])) (fn:=Tryz.f39) (by kernel_rfl) (by kernel_rfl) (by rintro ⟨⟩ ⟨a1,a2,a3,⟨⟩⟩;kernel_rfl)
end Go.Ve

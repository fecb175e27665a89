/-
  Contracts: merging of routes, tables of distance-vector routing.
  Contracts: path-vector routing, the routes that a router originates, tables.
-/
import Derived.Test.YtcnlcmbchljpgaaGreatPc23
import Derived.Test.YtcnlcmbchljpgaaGreatPc24
import Derived.Test.YtcnlcmbchljpgaaGreatPc17
set_option linter.unusedVariables false
namespace Go.Ve
open Go Go.Proofs
set_option maxRecDepth 1000000
set_option maxHeartbeats 0
noncomputable def zGJ:Ent:=qA6 (by kernel_rfl) zFG
noncomputable def zHu:Ent:=qB1 (by kernel_rfl) zGA
theorem zKD:OkX 121 [(.sl zA)] (.p zA) zBB:=fX [yX,zHu,zIB,zGJ,zPk] (A:=(jl [jj 28 93819265617024 [] [.v 3 [.p zA]],jj 13 375299611036800 [] [.t 15 tI, .v 3 [.p zA]],jj 32 375299963358336 [] [.v 3 [.p zA]],jj 56 100743722224427047522304 [] [.o 6 6 qS],jj 41 402975267200076888608768 [] [.t 27 tI, .o 6 6 qS],jj 60 402975272829576422821888 [] [.o 6 6 qS]])) (fn:=Tryz.f121) (by kernel_rfl) (by kernel_rfl) (by rintro ⟨⟩ ⟨a1,⟨⟩⟩;kernel_rfl)
noncomputable def zMe:Ent:=z2 (by kernel_rfl) zKD
theorem zOx:OkX 60 [(.sl zA)] (.p (.sl zA)) zEj:=fX [zMe,zMf,zBT,zCK,zHv] (A:=(jl [jj 30 98382635054057652224 [] [.t 33 .bool, .o 4 4 zA],jj 29 1574122160950821785856 [] [.t 6 tI, .o 4 4 zA],jj 36 1574122160950821785856 [] [.o 4 4 zA, .t 6 tI],jj 21 412646679761793424964982016 [] [.t 5 tI, .o 4 4 zA],jj 44 412646679761793424964982016 [] [.o 4 4 zA],jj 11 0 [(0,0,9),(8,0,2)] []])) (fn:=Tryz.f60) (by kernel_rfl) (by kernel_rfl) (by rintro ⟨⟩ ⟨a1,⟨⟩⟩;kernel_rfl)
noncomputable def zQi:Ent:=z2 (by kernel_rfl) zOx
end Go.Ve

namespace Go.Ve
open Go Go.Proofs
set_option maxRecDepth 1000000
set_option maxHeartbeats 0
theorem zOC:OkX 88 [zO,(.sl zS)] (.p .bool) zEl:=fX [zQo] (A:=(jl [jj 26 27043212804868893898504709079040 [] [.t 52 .bool],jj 17 27043212804868893898596312679680 [] [.t 5 tI],jj 32 27043212804868893898596312679680 [] []])) (fn:=Tryz.f88) (by kernel_rfl) (by kernel_rfl) (by rintro ⟨⟩ ⟨a1,a2,⟨⟩⟩;kernel_rfl)
noncomputable def zQl:Ent:=z2 (by kernel_rfl) zOC
theorem zOI:OkX 38 [zO,(.sl zS)] (.p .bool) zEr:=fX [zQl] (A:=(jl [jj 26 27043212804868893898504709079040 [] [.t 52 .bool],jj 17 27043212804868893898596312679680 [] [.t 5 tI],jj 32 27043212804868893898596312679680 [] []])) (fn:=Tryz.f38) (by kernel_rfl) (by kernel_rfl) (by rintro ⟨⟩ ⟨a1,a2,⟨⟩⟩;kernel_rfl)
noncomputable def zQq:Ent:=z2 (by kernel_rfl) zOI
theorem zJs:OkX 136 [(.sl zA),zG,tU] (.p tI) zAX:=fX [zGo] (A:=(jl [jj 22 24019192286019584 [] [.t 27 .bool],jj 26 6447604347258824252456960 [] [.t 41 .bool],jj 32 25790417485112088971788288 [] [.t 7 tI],jj 13 103161669940448356236869632 [] [.t 12 tI, .t 7 tI],jj 36 103161669940448356242112512 [] [.t 7 tI]])) (fn:=Tryz.f136) (by kernel_rfl) (by kernel_rfl) (by rintro ⟨⟩ ⟨a1,a2,a3,⟨⟩⟩;kernel_rfl)
noncomputable def zLa:Ent:=z2 (by kernel_rfl) zJs
theorem zGF:OkA 170 [.d qC, .pp .str] (.p .bool) zA9:=fA [] (A:=fun _=>none) (fn:=Tryz.f170) (by kernel_rfl) (by kernel_rfl) (by rintro ⟨⟩ ⟨a1,a2,⟨⟩⟩;kernel_rfl)
noncomputable def zCM:Ent:=z2 (by kernel_rfl) zGF
theorem zA7:OkA 169 [.d (.sl qC), .clo 170 [(true, .str)]] (.p tI) wS:=fA [zCM] (A:=(jl [jj 9 91625948416 [] [.t 8 tI],jj 28 91625968896 [] []])) (fn:=Tryz.f169) (by kernel_rfl) (by kernel_rfl) (by rintro ⟨⟩ ⟨a1,⟨a2,⟨⟩⟩,⟨⟩⟩;kernel_rfl)
noncomputable def zBq:Ent:=z2 (by kernel_rfl) zA7
theorem zJy:OkX 137 [zD, .str] (.p tI) zA1:=fX [zBq,zCM] (A:=fun _=>none) (fn:=Tryz.f137) (by kernel_rfl) (by kernel_rfl) (by rintro ⟨⟩ ⟨a1,a2,⟨⟩⟩;kernel_rfl)
noncomputable def zLg:Ent:=z2 (by kernel_rfl) zJy
theorem zLM:OkX 89 [zO,(.sl zA),tI] (.p (.sl zA)) zCt:=fX [zMc,zLg,zLa] (A:=(jl [jj 6 93824902758400 [] [.t 23 .bool],jj 46 28356755737226985813038956233973825536 [] [.t 62 .bool, .o 8 8 zA],jj 76 7981747608676504470616390663246190390899243445452800 [] [.o 8 8 zA, .v 11 [.p zA]],jj 80 2043327387821185144477796036200411851294445257207382016 [] [.o 8 8 zA],jj 25 8173309551284740577911184144801648954704283220132823040 [] [.t 33 tI, .o 8 8 zA],jj 84 8173309551284740577911184144801648978915634816876609536 [] [.o 8 8 zA]])) (fn:=Tryz.f89) (by kernel_rfl) (by kernel_rfl) (by rintro ⟨⟩ ⟨a1,a2,a3,⟨⟩⟩;kernel_rfl)
noncomputable def zGk:Ent:=z2 (by kernel_rfl) zLM
theorem zFO:OkA 90 [.d zA, .pp zG] (.p .bool) zC1:=fA [] (A:=fun _=>none) (fn:=Tryz.f90) (by kernel_rfl) (by kernel_rfl) (by rintro ⟨⟩ ⟨a1,a2,⟨⟩⟩;kernel_rfl)
noncomputable def xN:Ent:=z2 (by kernel_rfl) zFO
theorem zFL:OkX 91 [zO,tI,zG] (.p .bool) uS:=fX [zPs,zMc] (A:=(jl [jj 18 393530534375075086336 [] [.t 34 .bool],jj 9 1574122160950821998592 [] [.t 17 tI],jj 28 1574122160956548534272 [] []])) (fn:=Tryz.f91) (by kernel_rfl) (by kernel_rfl) (by rintro ⟨⟩ ⟨a1,a2,a3,⟨⟩⟩;kernel_rfl)
noncomputable def zCb:Ent:=z2 (by kernel_rfl) zFL
theorem zCF:OkA 138 [.d (.sl zA), .clo 90 [(true,zG)]] (.p tI) vZ:=fA [xN] (A:=(jl [jj 9 91625948416 [] [.t 8 tI],jj 28 91625968896 [] []])) (fn:=Tryz.f138) (by kernel_rfl) (by kernel_rfl) (by rintro ⟨⟩ ⟨a1,⟨a2,⟨⟩⟩,⟨⟩⟩;kernel_rfl)
noncomputable def xG:Ent:=z2 (by kernel_rfl) zCF
theorem zFN:OkA 96 [.d zA, .pp jI] (.p .bool) vI:=fA [zAB] (A:=fun _=>none) (fn:=Tryz.f96) (by kernel_rfl) (by kernel_rfl) (by rintro ⟨⟩ ⟨a1,a2,⟨⟩⟩;kernel_rfl)
noncomputable def xM:Ent:=z2 (by kernel_rfl) zFN
theorem zCE:OkA 138 [.d (.sl zA), .clo 96 [(true,jI)]] (.p tI) vY:=fA [xM] (A:=(jl [jj 9 91625948416 [] [.t 8 tI],jj 28 91625968896 [] []])) (fn:=Tryz.f138) (by kernel_rfl) (by kernel_rfl) (by rintro ⟨⟩ ⟨a1,⟨a2,⟨⟩⟩,⟨⟩⟩;kernel_rfl)
noncomputable def xF:Ent:=z2 (by kernel_rfl) zCE
theorem zBP:OkA 92 [.d (.sl zA), .clo 90 [(true,zG)]] (.p .bool) jX:=fA [xF,xG] (A:=fun _=>none) (fn:=Tryz.f92) (by kernel_rfl) (by kernel_rfl) (by rintro ⟨⟩ ⟨a1,⟨a2,⟨⟩⟩,⟨⟩⟩;kernel_rfl)
noncomputable def uK:Ent:=z2 (by kernel_rfl) zBP
theorem zBO:OkA 92 [.d (.sl zA), .clo 96 [(true,jI)]] (.p .bool) jW:=fA [xF,xG] (A:=fun _=>none) (fn:=Tryz.f92) (by kernel_rfl) (by kernel_rfl) (by rintro ⟨⟩ ⟨a1,⟨a2,⟨⟩⟩,⟨⟩⟩;kernel_rfl)
noncomputable def uJ:Ent:=z2 (by kernel_rfl) zBO
theorem zPY:OkX 94 [(.sl zA),zG] (.p tI) zCi:=fX [] (A:=(jl [jj 9 366503802112 [] [.t 9 tI],jj 28 366503884032 [] []])) (fn:=Tryz.f94) (by kernel_rfl) (by kernel_rfl) (by rintro ⟨⟩ ⟨a1,a2,⟨⟩⟩;kernel_rfl)
noncomputable def zF1:Ent:=z2 (by kernel_rfl) zPY
theorem zE7:OkX 93 [zS,zG] (.p .bool) kR:=fX [zF1] (A:=(jl [jj 18 1501199517876480 [] [.t 4 .bool]])) (fn:=Tryz.f93) (by kernel_rfl) (by kernel_rfl) (by rintro ⟨⟩ ⟨a1,a2,⟨⟩⟩;kernel_rfl)
noncomputable def zBY:Ent:=z2 (by kernel_rfl) zE7
theorem zPZ:OkX 139 [zD,qN,zA] (.tu [tI,tI, .bool]) zFA:=fX [zGn,zCo] (A:=(jl [jj 22 1730765619511603060595474206556160 [] [.t 55 .bool],jj 40 464145148480160064164042964536931840688128 [] [.t 9 tI],jj 48 475284632043683905703979995685818204597256192 [] [.t 10 tI]])) (fn:=Tryz.f139) (by kernel_rfl) (by kernel_rfl) (by rintro ⟨⟩ ⟨a1,a2,a3,⟨⟩⟩;kernel_rfl)
noncomputable def zR2:Ent:=z2 (by kernel_rfl) zPZ
theorem zP0:zUf U Tryz.prog G0 140 zA 2 (kY [.d zD, .d qN]) (.p .bool) zJo:=
 zUW (fn:=Tryz.f140) (c:=wI Tryz.f140) (S:=zYR []) (A:=(fun _=>none)) (zNS _) (by kernel_rfl) (by kernel_rfl) (by kernel_rfl) (by intro ty h;cases h) (by rintro ⟨⟩ a0 ⟨a1,a2,⟨⟩⟩;kernel_rfl)
noncomputable def zR3:Ent:=qB0 (by kernel_rfl) zP0
theorem zIq:OkX 95 [zD,(.sl qN),(.sl zA),tI] (.p (.sl zA)) zAm:=fX [zR3,zR2] (A:=(jl [jj 50 422550099332258165946469842944 [] [.t 49 .bool, .o 9 9 zA],jj 48 100743817925920018399232 [] [.t 12 tI, .o 9 9 zA],jj 29 100743812296420483923968 [] [.t 27 tI, .o 9 9 zA, .t 12 tI],jj 72 121791803110908576516973736059690228411355365376 [] [.o 9 9 zA],jj 13 487167212443634306067894944238761005315571056640 [] [.t 21 tI, .o 9 9 zA],jj 76 487167212443634306067894944238761006689960591360 [] [.o 9 9 zA],jj 67 0 [(5,0,8)] []])) (fn:=Tryz.f95) (by kernel_rfl) (by kernel_rfl) (by rintro ⟨⟩ ⟨a1,a2,a3,a4,⟨⟩⟩;kernel_rfl)
noncomputable def zDT:Ent:=z2 (by kernel_rfl) zIq
theorem zIx:OkX 39 [zO,zS,tI] (.o zA) wZ:=fX [xM,zDT,zF1,zBY,uJ,uK,zCb,xN,zGk] (A:=(jl [jj 6 25790417485106224998383616 [] [.t 42 .bool],jj 46 1948668842515180063291559223069719067663521546240 [] [.t 80 .bool, .o 9 9 zA],jj 60 31926990434705904455009922752810286867187922045763584 [] [.o 9 9 zA],jj 33 127707961738824064440646274742974443147923939609804800 [] [.t 62 tI, .o 9 9 zA],jj 64 127707961738824071502170002350340017949398947349135360 [] [.o 9 9 zA],jj 92 143786382224280320426941857067118381140797464718874523612245009891328 [] [.o 9 9 zA],jj 69 575145528899180955714691182894107142967679874418281679829001526575104 [] [.t 93 tI, .o 9 9 zA],jj 96 575145528899213521244934583032347257842006818488433578035347928121344 [] [.o 9 9 zA],jj 132 10609562376124557223382468251539799335430062375125978053846481832176962154906960271769600 [] [.o 9 9 zA],jj 105 42438249506929862767513513110054188026902695565422581893364379173536457883748661954084864 [] [.t 128 tI, .o 9 9 zA],jj 136 42438249506968309359643090753065920580518861472326987942960392642065184034688789360410624 [] [.o 9 9 zA]])) (fn:=Tryz.f39) (by kernel_rfl) (by kernel_rfl) (by rintro ⟨⟩ ⟨a1,a2,a3,⟨⟩⟩;kernel_rfl)
noncomputable def zDU:Ent:=z2 (by kernel_rfl) zIx
theorem zRG:OkX 142 [zO,tI,zG] (.p .bool) zHT:=fX [zNB,zPq] (A:=(jl [jj 18 6148914324732641280 [] [.t 31 .bool],jj 9 6148914691236515840 [] [.t 7 tI],jj 24 6148914691236515840 [] []])) (fn:=Tryz.f142) (by kernel_rfl) (by kernel_rfl) (by rintro ⟨⟩ ⟨a1,a2,a3,⟨⟩⟩;kernel_rfl)
noncomputable def zTH:Ent:=z2 (by kernel_rfl) zRG
theorem zKK:OkX 171 [(.sl zA),zG,tU] (.p tI) zBG:=fX [zGm] (A:=(jl [jj 22 422550200076076467165209821184 [] [.t 49 .bool],jj 16 1690200800304305868661913042944 [] [.t 7 tI],jj 13 1690200800304305868662270935040 [] [.t 8 tI, .t 7 tI],jj 28 1690200800304305868662270935040 [] [.t 7 tI]])) (fn:=Tryz.f171) (by kernel_rfl) (by kernel_rfl) (by rintro ⟨⟩ ⟨a1,a2,a3,⟨⟩⟩;kernel_rfl)
noncomputable def zMk:Ent:=z2 (by kernel_rfl) zKK
theorem zNh:OkX 143 [zO,(.sl zA),tI] (.p (.sl zA)) zDa:=fX [zPq,zFg,zMk,zHB] (A:=(jl [jj 50 453708091795631773008623299743581208576 [] [.t 64 .bool, .o 7 7 zA],jj 52 453709822554648937741644115109579079680 [] [.o 7 7 zA],jj 68 1948668849320827401710328492337211216298961272832 [] [.o 7 7 zA, .v 11 [.p zA]],jj 28 498859225542281529413524422900489733480552265170944 [] [.o 7 7 zA],jj 25 498859225542281529413524422900491270615400082325504 [] [.t 9 tI, .o 7 7 zA],jj 72 498859225542281529413524422900491270615400082325504 [] [.o 7 7 zA]])) (fn:=Tryz.f143) (by kernel_rfl) (by kernel_rfl) (by rintro ⟨⟩ ⟨a1,a2,a3,⟨⟩⟩;kernel_rfl)
noncomputable def zPp:Ent:=z2 (by kernel_rfl) zNh
theorem zRH:OkX 98 [zO,zS,tI,zG] (.p .bool) zHU:=fX [zPp,zLe,zTH] (A:=(jl [jj 6 23456242466816 [] [.t 22 .bool],jj 21 1611901068800307554746368 [] [.t 10 tI],jj 36 1611901068800307554746368 [] [],jj 42 1730765206864929447716740476764160 [] [.t 8 .bool]])) (fn:=Tryz.f98) (by kernel_rfl) (by kernel_rfl) (by rintro ⟨⟩ ⟨a1,a2,a3,a4,⟨⟩⟩;kernel_rfl)
noncomputable def zTI:Ent:=z2 (by kernel_rfl) zRH
theorem zGE:OkX 99 [zD,(.sl qN),(.sl zA),tI] (.p (.sl zA)) yW:=fX [zA3,zQj] (A:=(jl [jj 42 27043212704125075597377237155840 [] [.t 52 .bool, .o 9 9 zA],jj 76 7973952933277406321719304447300040155242768222912512 [] [.t 14 tI, .o 9 9 zA],jj 84 8173309551284740577904261082323602542461901380383932416 [] [.t 14 tI, .t 15 tI, .o 9 9 zA],jj 114 143751278127580559842658107788210140115291805221749536862134484336640 [] [.t 113 .bool, .o 9 9 zA],jj 128 9649340769776349585153039495328361580648288465029159450742236296988682616832 [] [.o 9 9 zA, .v 18 [.p zA]],jj 32 2470231237062745502369514346852008700869759672866998699508034928295504498655232 [] [.o 9 9 zA],jj 29 2470231237062745502369514346852008700869759672866998699508428362758951601963008 [] [.t 12 tI, .o 9 9 zA],jj 16 2470231237062745502369514346852008700869759672866998699508428458460443696168960 [] [.o 9 9 zA],jj 13 2470231237062745502369514346852008700869759672866998699508428458835652040196096 [] [.t 10 tI, .o 9 9 zA],jj 132 2470231237062745502369514346852008700869759672866998699508428458835652040196096 [] [.o 9 9 zA],jj 127 0 [(496,7,0)] [],jj 119 0 [(112,7,0)] []])) (fn:=Tryz.f99) (by kernel_rfl) (by kernel_rfl) (by rintro ⟨⟩ ⟨a1,a2,a3,a4,⟨⟩⟩;kernel_rfl)
noncomputable def zHC:Ent:=z2 (by kernel_rfl) zGE
theorem zP5:OkX 35 [zA,zA] (.p .bool) zFB:=fX [] (A:=(jl [jj 6 535646014752996758513987364113720867507400997927597611761664 [] [.t 99 .bool],jj 17 36809313849014027518232367840296815048958860317401327296272531581830400 [] [.t 5 tI],jj 32 36809313849014027518232367840296815048958860317401327296272531581830400 [] [],jj 37 2529516786715442080576833017643471545091823102602734087111722013553331492167356672 [] [.t 6 tI],jj 52 2529516786715442080576833017643471545091823102602734087111722013553331492167356672 [] []])) (fn:=Tryz.f35) (by kernel_rfl) (by kernel_rfl) (by rintro ⟨⟩ ⟨a1,a2,⟨⟩⟩;kernel_rfl)
noncomputable def zR5:Ent:=z2 (by kernel_rfl) zP5
theorem zLT:OkX 17 [(.sl zA),(.sl zA)] (.p .bool) zAM:=fX [zR5] (A:=(jl [jj 17 6004799501763840 [] [.t 5 tI],jj 32 6004799501763840 [] []])) (fn:=Tryz.f17) (by kernel_rfl) (by kernel_rfl) (by rintro ⟨⟩ ⟨a1,a2,⟨⟩⟩;kernel_rfl)
noncomputable def zND:Ent:=z2 (by kernel_rfl) zLT
theorem zFK:OkX 100 [zO,zW,(.sl zA)] (.p (.sl zA)) uR:=fX [zIG,zIH] (A:=(jl [jj 40 1611901092819482785366016 [] [.o 7 7 zA],jj 13 6447604371278020959027200 [] [.t 16 tI, .o 7 7 zA],jj 44 6447604371278022301204480 [] [.o 7 7 zA]])) (fn:=Tryz.f100) (by kernel_rfl) (by kernel_rfl) (by rintro ⟨⟩ ⟨a1,a2,a3,⟨⟩⟩;kernel_rfl)
noncomputable def zGM:Ent:=z2 (by kernel_rfl) zFK
theorem zIw:OkX 41 [zO,(.sl zS),tI] (.p (.sl zA)) zAp:=fX [zQi,zGM,zAA,zDU] (A:=(jl [jj 6 25185954575304773074944 [] [.t 37 .bool],jj 48 1948668849746180360361811056676250820657323982848 [] [.o 7 44 zA],jj 33 7794675399096376593092248704999459040486661046272 [] [.t 61 tI, .o 7 44 zA],jj 52 7794675399098148464395223714927695072359007469568 [] [.o 7 44 zA],jj 21 31178701596392595561302373111421631865798953877504 [] [.t 53 tI, .o 7 44 zA],jj 56 31178701596392595588345173269610763970970322550784 [] [.o 7 44 zA]])) (fn:=Tryz.f41) (by kernel_rfl) (by kernel_rfl) (by rintro ⟨⟩ ⟨a1,a2,a3,⟨⟩⟩;kernel_rfl)
theorem zFP:OkX 39 [zO,zS,tI] (.p (.sl zA)) wZ:=fX [xM,zDT,zF1,zBY,uJ,uK,zCb,xN,zGk] (A:=(jl [jj 6 25790417485106224998383616 [] [.t 42 .bool],jj 46 1948668842515180063291559223069719067663521546240 [] [.t 80 .bool, .o 9 9 zA],jj 60 31926990434705904455009922752810286867187922045763584 [] [.o 9 9 zA],jj 33 127707961738824064440646274742974443147923939609804800 [] [.t 62 tI, .o 9 9 zA],jj 64 127707961738824071502170002350340017949398947349135360 [] [.o 9 9 zA],jj 92 143786382224280320426941857067118381140797464718874523612245009891328 [] [.o 9 9 zA],jj 69 575145528899180955714691182894107142967679874418281679829001526575104 [] [.t 93 tI, .o 9 9 zA],jj 96 575145528899213521244934583032347257842006818488433578035347928121344 [] [.o 9 9 zA],jj 132 10609562376124557223382468251539799335430062375125978053846481832176962154906960271769600 [] [.o 9 9 zA],jj 105 42438249506929862767513513110054188026902695565422581893364379173536457883748661954084864 [] [.t 128 tI, .o 9 9 zA],jj 136 42438249506968309359643090753065920580518861472326987942960392642065184034688789360410624 [] [.o 9 9 zA]])) (fn:=Tryz.f39) (by kernel_rfl) (by kernel_rfl) (by rintro ⟨⟩ ⟨a1,a2,a3,⟨⟩⟩;kernel_rfl)
end Go.Ve

/-
  Contracts: merging of routes, tables of distance-vector routing.
  Contracts: path-vector routing, the routes that a router originates, tables.
-/
import Derived.Test.YtcnlcmbchljpgaaGreatPx24
import Derived.Test.YtcnlcmbchljpgaaGreatPx25
import Derived.Test.YtcnlcmbchljpgaaGreatPx18
set_option linter.unusedVariables false
namespace Go.Ve
open Go Go.Proofs
set_option maxRecDepth 1000000
set_option maxHeartbeats 0
noncomputable def zG1:Ent:=qBk (by kernel_rfl) zFV
noncomputable def zHG:Ent:=qCf (by kernel_rfl) zGS
theorem zKJ:OkX 121 [(.sl zA)] (.p zA) zBR:=fX [xF,zHG,zII,zG1,zPi] (A:=(jl [jj 28 93819265617024 [] [.v 3 [.p zA]],jj 13 375299611036800 [] [.t 15 tI, .v 3 [.p zA]],jj 32 375299963358336 [] [.v 3 [.p zA]],jj 56 100743722224427047522304 [] [.o 6 6 qS],jj 41 402975267200076888608768 [] [.t 27 tI, .o 6 6 qS],jj 60 402975272829576422821888 [] [.o 6 6 qS]])) (fn:=Tryz.f121) (by kernel_rfl) (by kernel_rfl) (by rintro ⟨⟩ ⟨a1,⟨⟩⟩;kernel_rfl)
noncomputable def zMg:Ent:=zZ (by kernel_rfl) zKJ
theorem zOx:OkX 60 [(.sl zA)] (.p (.sl zA)) zEu:=fX [zMg,zMh,zCa,zC3,zHH] (A:=(jl [jj 30 98382635054057652224 [] [.t 33 .bool, .o 4 4 zA],jj 29 1574122160950821785856 [] [.t 6 tI, .o 4 4 zA],jj 36 1574122160950821785856 [] [.o 4 4 zA, .t 6 tI],jj 21 412646679761793424964982016 [] [.t 5 tI, .o 4 4 zA],jj 44 412646679761793424964982016 [] [.o 4 4 zA],jj 11 0 [(0,0,9),(8,0,2)] []])) (fn:=Tryz.f60) (by kernel_rfl) (by kernel_rfl) (by rintro ⟨⟩ ⟨a1,⟨⟩⟩;kernel_rfl)
noncomputable def zQd:Ent:=zZ (by kernel_rfl) zOx
end Go.Ve

namespace Go.Ve
open Go Go.Proofs
set_option maxRecDepth 1000000
set_option maxHeartbeats 0
theorem zJu:OkX 136 [(.sl zA),zH,tU] (.p tI) zA4:=fX [zGG] (A:=(jl [jj 22 24019192286019584 [] [.t 27 .bool],jj 26 6447604347258824252456960 [] [.t 41 .bool],jj 32 25790417485112088971788288 [] [.t 7 tI],jj 13 103161669940448356236869632 [] [.t 12 tI, .t 7 tI],jj 36 103161669940448356242112512 [] [.t 7 tI]])) (fn:=Tryz.f136) (by kernel_rfl) (by kernel_rfl) (by rintro ⟨⟩ ⟨a1,a2,a3,⟨⟩⟩;kernel_rfl)
noncomputable def zLg:Ent:=zZ (by kernel_rfl) zJu
theorem zGW:OkA 170 [.d z2, .pp .str] (.p .bool) zBj:=fA [] (A:=fun _=>none) (fn:=Tryz.f170) (by kernel_rfl) (by kernel_rfl) (by rintro ⟨⟩ ⟨a1,a2,⟨⟩⟩;kernel_rfl)
noncomputable def zC5:Ent:=zZ (by kernel_rfl) zGW
theorem zBh:OkA 169 [.d (.sl z2), .clo 170 [(true, .str)]] (.p tI) wT:=fA [zC5] (A:=(jl [jj 9 91625948416 [] [.t 8 tI],jj 28 91625968896 [] []])) (fn:=Tryz.f169) (by kernel_rfl) (by kernel_rfl) (by rintro ⟨⟩ ⟨a1,⟨a2,⟨⟩⟩,⟨⟩⟩;kernel_rfl)
noncomputable def zBE:Ent:=zZ (by kernel_rfl) zBh
theorem zJB:OkX 137 [zD, .str] (.p tI) zBa:=fX [zBE,zC5] (A:=fun _=>none) (fn:=Tryz.f137) (by kernel_rfl) (by kernel_rfl) (by rintro ⟨⟩ ⟨a1,a2,⟨⟩⟩;kernel_rfl)
noncomputable def zLn:Ent:=zZ (by kernel_rfl) zJB
theorem zLP:OkX 89 [zS,(.sl zA),tI] (.p (.sl zA)) zCN:=fX [zMe,zLn,zLg] (A:=(jl [jj 6 93824902758400 [] [.t 23 .bool],jj 46 28356755737226985813038956233973825536 [] [.t 62 .bool, .o 8 8 zA],jj 76 7981747608676504470616390663246190390899243445452800 [] [.o 8 8 zA, .v 11 [.p zA]],jj 80 2043327387821185144477796036200411851294445257207382016 [] [.o 8 8 zA],jj 25 8173309551284740577911184144801648954704283220132823040 [] [.t 33 tI, .o 8 8 zA],jj 84 8173309551284740577911184144801648978915634816876609536 [] [.o 8 8 zA]])) (fn:=Tryz.f89) (by kernel_rfl) (by kernel_rfl) (by rintro ⟨⟩ ⟨a1,a2,a3,⟨⟩⟩;kernel_rfl)
noncomputable def zGD:Ent:=zZ (by kernel_rfl) zLP
theorem zF3:OkA 90 [.d zA, .pp zH] (.p .bool) zDh:=fA [] (A:=fun _=>none) (fn:=Tryz.f90) (by kernel_rfl) (by kernel_rfl) (by rintro ⟨⟩ ⟨a1,a2,⟨⟩⟩;kernel_rfl)
noncomputable def xY:Ent:=zZ (by kernel_rfl) zF3
theorem zF0:OkX 91 [zS,tI,zH] (.p .bool) u6:=fX [zPr,zMe] (A:=(jl [jj 18 393530534375075086336 [] [.t 34 .bool],jj 9 1574122160950821998592 [] [.t 17 tI],jj 28 1574122160956548534272 [] []])) (fn:=Tryz.f91) (by kernel_rfl) (by kernel_rfl) (by rintro ⟨⟩ ⟨a1,a2,a3,⟨⟩⟩;kernel_rfl)
noncomputable def zCu:Ent:=zZ (by kernel_rfl) zF0
theorem zCZ:OkA 138 [.d (.sl zA), .clo 90 [(true,zH)]] (.p tI) kC:=fA [xY] (A:=(jl [jj 9 91625948416 [] [.t 8 tI],jj 28 91625968896 [] []])) (fn:=Tryz.f138) (by kernel_rfl) (by kernel_rfl) (by rintro ⟨⟩ ⟨a1,⟨a2,⟨⟩⟩,⟨⟩⟩;kernel_rfl)
noncomputable def xQ:Ent:=zZ (by kernel_rfl) zCZ
theorem zF2:OkA 96 [.d zA, .pp jQ] (.p .bool) vM:=fA [zAJ] (A:=fun _=>none) (fn:=Tryz.f96) (by kernel_rfl) (by kernel_rfl) (by rintro ⟨⟩ ⟨a1,a2,⟨⟩⟩;kernel_rfl)
noncomputable def xX:Ent:=zZ (by kernel_rfl) zF2
theorem zCY:OkA 138 [.d (.sl zA), .clo 96 [(true,jQ)]] (.p tI) kB:=fA [xX] (A:=(jl [jj 9 91625948416 [] [.t 8 tI],jj 28 91625968896 [] []])) (fn:=Tryz.f138) (by kernel_rfl) (by kernel_rfl) (by rintro ⟨⟩ ⟨a1,⟨a2,⟨⟩⟩,⟨⟩⟩;kernel_rfl)
noncomputable def xP:Ent:=zZ (by kernel_rfl) zCY
theorem zB4:OkA 92 [.d (.sl zA), .clo 90 [(true,zH)]] (.p .bool) j7:=fA [xP,xQ] (A:=fun _=>none) (fn:=Tryz.f92) (by kernel_rfl) (by kernel_rfl) (by rintro ⟨⟩ ⟨a1,⟨a2,⟨⟩⟩,⟨⟩⟩;kernel_rfl)
noncomputable def uV:Ent:=zZ (by kernel_rfl) zB4
theorem zB3:OkA 92 [.d (.sl zA), .clo 96 [(true,jQ)]] (.p .bool) j6:=fA [xP,xQ] (A:=fun _=>none) (fn:=Tryz.f92) (by kernel_rfl) (by kernel_rfl) (by rintro ⟨⟩ ⟨a1,⟨a2,⟨⟩⟩,⟨⟩⟩;kernel_rfl)
noncomputable def uU:Ent:=zZ (by kernel_rfl) zB3
theorem zPT:OkX 94 [(.sl zA),zH] (.p tI) zCB:=fX [] (A:=(jl [jj 9 366503802112 [] [.t 9 tI],jj 28 366503884032 [] []])) (fn:=Tryz.f94) (by kernel_rfl) (by kernel_rfl) (by rintro ⟨⟩ ⟨a1,a2,⟨⟩⟩;kernel_rfl)
noncomputable def zGi:Ent:=zZ (by kernel_rfl) zPT
theorem zFj:OkX 93 [qO,zH] (.p .bool) kZ:=fX [zGi] (A:=(jl [jj 18 1501199517876480 [] [.t 4 .bool]])) (fn:=Tryz.f93) (by kernel_rfl) (by kernel_rfl) (by rintro ⟨⟩ ⟨a1,a2,⟨⟩⟩;kernel_rfl)
noncomputable def zCf:Ent:=zZ (by kernel_rfl) zFj
theorem zPU:OkX 139 [zD,jN,zA] (.tu [tI,tI, .bool]) zFP:=fX [zGF,zCH] (A:=(jl [jj 22 1730765619511603060595474206556160 [] [.t 55 .bool],jj 40 464145148480160064164042964536931840688128 [] [.t 9 tI],jj 48 475284632043683905703979995685818204597256192 [] [.t 10 tI]])) (fn:=Tryz.f139) (by kernel_rfl) (by kernel_rfl) (by rintro ⟨⟩ ⟨a1,a2,a3,⟨⟩⟩;kernel_rfl)
noncomputable def zRR:Ent:=zZ (by kernel_rfl) zPU
theorem zPV:zUa U Tryz.prog G0 140 zA 2 (uH [.d zD, .d jN]) (.p .bool) zJq:=
 zUV (fn:=Tryz.f140) (c:=wN Tryz.f140) (S:=zYX []) (A:=(fun _=>none)) (zNU _) (by kernel_rfl) (by kernel_rfl) (by kernel_rfl) (by intro ty h;cases h) (by rintro ⟨⟩ a0 ⟨a1,a2,⟨⟩⟩;kernel_rfl)
noncomputable def zRS:Ent:=qCe (by kernel_rfl) zPV
theorem zIw:OkX 95 [zD,(.sl jN),(.sl zA),tI] (.p (.sl zA)) zAt:=fX [zRS,zRR] (A:=(jl [jj 50 422550099332258165946469842944 [] [.t 49 .bool, .o 9 9 zA],jj 48 100743817925920018399232 [] [.t 12 tI, .o 9 9 zA],jj 29 100743812296420483923968 [] [.t 27 tI, .o 9 9 zA, .t 12 tI],jj 72 121791803110908576516973736059690228411355365376 [] [.o 9 9 zA],jj 13 487167212443634306067894944238761005315571056640 [] [.t 21 tI, .o 9 9 zA],jj 76 487167212443634306067894944238761006689960591360 [] [.o 9 9 zA],jj 67 0 [(5,0,8)] []])) (fn:=Tryz.f95) (by kernel_rfl) (by kernel_rfl) (by rintro ⟨⟩ ⟨a1,a2,a3,a4,⟨⟩⟩;kernel_rfl)
noncomputable def zD9:Ent:=zZ (by kernel_rfl) zIw
theorem zID:OkX 39 [zS,qO,tI] (.o zA) v6:=fX [xX,zD9,zGi,zCf,uU,uV,zCu,xY,zGD] (A:=(jl [jj 6 25790417485106224998383616 [] [.t 42 .bool],jj 46 1948668842515180063291559223069719067663521546240 [] [.t 80 .bool, .o 9 9 zA],jj 60 31926990434705904455009922752810286867187922045763584 [] [.o 9 9 zA],jj 33 127707961738824064440646274742974443147923939609804800 [] [.t 62 tI, .o 9 9 zA],jj 64 127707961738824071502170002350340017949398947349135360 [] [.o 9 9 zA],jj 92 143786382224280320426941857067118381140797464718874523612245009891328 [] [.o 9 9 zA],jj 69 575145528899180955714691182894107142967679874418281679829001526575104 [] [.t 93 tI, .o 9 9 zA],jj 96 575145528899213521244934583032347257842006818488433578035347928121344 [] [.o 9 9 zA],jj 132 10609562376124557223382468251539799335430062375125978053846481832176962154906960271769600 [] [.o 9 9 zA],jj 105 42438249506929862767513513110054188026902695565422581893364379173536457883748661954084864 [] [.t 128 tI, .o 9 9 zA],jj 136 42438249506968309359643090753065920580518861472326987942960392642065184034688789360410624 [] [.o 9 9 zA]])) (fn:=Tryz.f39) (by kernel_rfl) (by kernel_rfl) (by rintro ⟨⟩ ⟨a1,a2,a3,⟨⟩⟩;kernel_rfl)
noncomputable def zJU:Ent:=zZ (by kernel_rfl) zID
theorem zP2:OkX 35 [zA,zA] (.p .bool) zBf:=fX [] (A:=(jl [jj 6 535646014752996758513987364113720867507400997927597611761664 [] [.t 99 .bool],jj 17 36809313849014027518232367840296815048958860317401327296272531581830400 [] [.t 5 tI],jj 32 36809313849014027518232367840296815048958860317401327296272531581830400 [] [],jj 37 2529516786715442080576833017643471545091823102602734087111722013553331492167356672 [] [.t 6 tI],jj 52 2529516786715442080576833017643471545091823102602734087111722013553331492167356672 [] []])) (fn:=Tryz.f35) (by kernel_rfl) (by kernel_rfl) (by rintro ⟨⟩ ⟨a1,a2,⟨⟩⟩;kernel_rfl)
noncomputable def zRU:Ent:=zZ (by kernel_rfl) zP2
theorem zFZ:OkX 100 [zS,zK,(.sl zA)] (.p (.sl zA)) u5:=fX [zDm,zDn] (A:=(jl [jj 40 1611901092819482785366016 [] [.o 7 7 zA],jj 13 6447604371278020959027200 [] [.t 16 tI, .o 7 7 zA],jj 44 6447604371278022301204480 [] [.o 7 7 zA]])) (fn:=Tryz.f100) (by kernel_rfl) (by kernel_rfl) (by rintro ⟨⟩ ⟨a1,a2,a3,⟨⟩⟩;kernel_rfl)
noncomputable def zG4:Ent:=zZ (by kernel_rfl) zFZ
theorem zIC:OkX 41 [zS,(.sl qO),tI] (.p (.sl zA)) zAx:=fX [zQd,zG4,zAI,zJU] (A:=(jl [jj 6 25185954575304773074944 [] [.t 37 .bool],jj 48 1948668849746180360361811056676250820657323982848 [] [.o 7 44 zA],jj 33 7794675399096376593092248704999459040486661046272 [] [.t 61 tI, .o 7 44 zA],jj 52 7794675399098148464395223714927695072359007469568 [] [.o 7 44 zA],jj 21 31178701596392595561302373111421631865798953877504 [] [.t 53 tI, .o 7 44 zA],jj 56 31178701596392595588345173269610763970970322550784 [] [.o 7 44 zA]])) (fn:=Tryz.f41) (by kernel_rfl) (by kernel_rfl) (by rintro ⟨⟩ ⟨a1,a2,a3,⟨⟩⟩;kernel_rfl)
theorem zF4:OkX 39 [zS,qO,tI] (.p (.sl zA)) v6:=fX [xX,zD9,zGi,zCf,uU,uV,zCu,xY,zGD] (A:=(jl [jj 6 25790417485106224998383616 [] [.t 42 .bool],jj 46 1948668842515180063291559223069719067663521546240 [] [.t 80 .bool, .o 9 9 zA],jj 60 31926990434705904455009922752810286867187922045763584 [] [.o 9 9 zA],jj 33 127707961738824064440646274742974443147923939609804800 [] [.t 62 tI, .o 9 9 zA],jj 64 127707961738824071502170002350340017949398947349135360 [] [.o 9 9 zA],jj 92 143786382224280320426941857067118381140797464718874523612245009891328 [] [.o 9 9 zA],jj 69 575145528899180955714691182894107142967679874418281679829001526575104 [] [.t 93 tI, .o 9 9 zA],jj 96 575145528899213521244934583032347257842006818488433578035347928121344 [] [.o 9 9 zA],jj 132 10609562376124557223382468251539799335430062375125978053846481832176962154906960271769600 [] [.o 9 9 zA],jj 105 42438249506929862767513513110054188026902695565422581893364379173536457883748661954084864 [] [.t 128 tI, .o 9 9 zA],jj 136 42438249506968309359643090753065920580518861472326987942960392642065184034688789360410624 [] [.o 9 9 zA]])) (fn:=Tryz.f39) (by kernel_rfl) (by kernel_rfl) (by rintro ⟨⟩ ⟨a1,a2,a3,⟨⟩⟩;kernel_rfl)
end Go.Ve

/-
  Contracts: merging of routes, tables of distance-vector routing.
  Contracts: path-vector routing, the routes that a router originates, tables.
-/
import Derived.Test.YtcnlcmbchljpgaaGreatPl23
import Derived.Test.YtcnlcmbchljpgaaGreatPl24
import Derived.Test.YtcnlcmbchljpgaaGreatPl18
set_option linter.unusedVariables false
namespace Go.Ve
open Go Go.Proofs
set_option maxRecDepth 1000000
set_option maxHeartbeats 0
noncomputable def zGf:Ent:=zZ9 (by kernel_rfl) zFf
noncomputable def zGW:Ent:=qA3 (by kernel_rfl) zF7
theorem zJU:OkX 121 [(.sl zA)] (.p zA) zBt:=fX [yQ,zGW,zHU,zGf,zOp] (A:=(jl [jj 28 93819265617024 [] [.v 3 [.p zA]],jj 13 375299611036800 [] [.t 15 tI, .v 3 [.p zA]],jj 32 375299963358336 [] [.v 3 [.p zA]],jj 56 100743722224427047522304 [] [.o 6 6 qQ],jj 41 402975267200076888608768 [] [.t 27 tI, .o 6 6 qQ],jj 60 402975272829576422821888 [] [.o 6 6 qQ]])) (fn:=Tryz.f121) (by kernel_rfl) (by kernel_rfl) (by rintro ⟨⟩ ⟨a1,⟨⟩⟩;kernel_rfl)
noncomputable def zLt:Ent:=z6 (by kernel_rfl) zJU
theorem zNG:OkX 60 [(.sl zA)] (.p (.sl zA)) zDZ:=fX [zLt,zLu,zBJ,zCz,zGX] (A:=(jl [jj 30 98382635054057652224 [] [.t 33 .bool, .o 4 4 zA],jj 29 1574122160950821785856 [] [.t 6 tI, .o 4 4 zA],jj 36 1574122160950821785856 [] [.o 4 4 zA, .t 6 tI],jj 21 412646679761793424964982016 [] [.t 5 tI, .o 4 4 zA],jj 44 412646679761793424964982016 [] [.o 4 4 zA],jj 11 0 [(0,0,9),(8,0,2)] []])) (fn:=Tryz.f60) (by kernel_rfl) (by kernel_rfl) (by rintro ⟨⟩ ⟨a1,⟨⟩⟩;kernel_rfl)
noncomputable def zPk:Ent:=z6 (by kernel_rfl) zNG
end Go.Ve

namespace Go.Ve
open Go Go.Proofs
set_option maxRecDepth 1000000
set_option maxHeartbeats 0
theorem zIH:OkX 136 [(.sl zA),zH,tU] (.p tI) zAK:=fX [zFX] (A:=(jl [jj 22 24019192286019584 [] [.t 27 .bool],jj 26 6447604347258824252456960 [] [.t 41 .bool],jj 32 25790417485112088971788288 [] [.t 7 tI],jj 13 103161669940448356236869632 [] [.t 12 tI, .t 7 tI],jj 36 103161669940448356242112512 [] [.t 7 tI]])) (fn:=Tryz.f136) (by kernel_rfl) (by kernel_rfl) (by rintro ⟨⟩ ⟨a1,a2,a3,⟨⟩⟩;kernel_rfl)
noncomputable def zKr:Ent:=z6 (by kernel_rfl) zIH
theorem zF9:OkA 170 [.d z7, .pp .str] (.p .bool) zAW:=fA [] (A:=fun _=>none) (fn:=Tryz.f170) (by kernel_rfl) (by kernel_rfl) (by rintro ⟨⟩ ⟨a1,a2,⟨⟩⟩;kernel_rfl)
noncomputable def zCB:Ent:=z6 (by kernel_rfl) zF9
theorem zAU:OkA 169 [.d (.sl z7), .clo 170 [(true, .str)]] (.p tI) wJ:=fA [zCB] (A:=(jl [jj 9 91625948416 [] [.t 8 tI],jj 28 91625968896 [] []])) (fn:=Tryz.f169) (by kernel_rfl) (by kernel_rfl) (by rintro ⟨⟩ ⟨a1,⟨a2,⟨⟩⟩,⟨⟩⟩;kernel_rfl)
noncomputable def zBf:Ent:=z6 (by kernel_rfl) zAU
theorem zIO:OkX 137 [zD, .str] (.p tI) zAP:=fX [zBf,zCB] (A:=fun _=>none) (fn:=Tryz.f137) (by kernel_rfl) (by kernel_rfl) (by rintro ⟨⟩ ⟨a1,a2,⟨⟩⟩;kernel_rfl)
noncomputable def zKx:Ent:=z6 (by kernel_rfl) zIO
theorem zK2:OkX 89 [zR,(.sl zA),tI] (.p (.sl zA)) zCj:=fX [zLr,zKx,zKr] (A:=(jl [jj 6 93824902758400 [] [.t 23 .bool],jj 46 28356755737226985813038956233973825536 [] [.t 62 .bool, .o 8 8 zA],jj 76 7981747608676504470616390663246190390899243445452800 [] [.o 8 8 zA, .v 11 [.p zA]],jj 80 2043327387821185144477796036200411851294445257207382016 [] [.o 8 8 zA],jj 25 8173309551284740577911184144801648954704283220132823040 [] [.t 33 tI, .o 8 8 zA],jj 84 8173309551284740577911184144801648978915634816876609536 [] [.o 8 8 zA]])) (fn:=Tryz.f89) (by kernel_rfl) (by kernel_rfl) (by rintro ⟨⟩ ⟨a1,a2,a3,⟨⟩⟩;kernel_rfl)
noncomputable def zFT:Ent:=z6 (by kernel_rfl) zK2
theorem zFn:OkA 90 [.d zA, .pp zH] (.p .bool) zCN:=fA [] (A:=fun _=>none) (fn:=Tryz.f90) (by kernel_rfl) (by kernel_rfl) (by rintro ⟨⟩ ⟨a1,a2,⟨⟩⟩;kernel_rfl)
noncomputable def xF:Ent:=z6 (by kernel_rfl) zFn
theorem zFk:OkX 91 [zR,tI,zH] (.p .bool) uM:=fX [zOv,zLr] (A:=(jl [jj 18 393530534375075086336 [] [.t 34 .bool],jj 9 1574122160950821998592 [] [.t 17 tI],jj 28 1574122160956548534272 [] []])) (fn:=Tryz.f91) (by kernel_rfl) (by kernel_rfl) (by rintro ⟨⟩ ⟨a1,a2,a3,⟨⟩⟩;kernel_rfl)
noncomputable def zB2:Ent:=z6 (by kernel_rfl) zFk
theorem zCu:OkA 138 [.d (.sl zA), .clo 90 [(true,zH)]] (.p tI) vY:=fA [xF] (A:=(jl [jj 9 91625948416 [] [.t 8 tI],jj 28 91625968896 [] []])) (fn:=Tryz.f138) (by kernel_rfl) (by kernel_rfl) (by rintro ⟨⟩ ⟨a1,⟨a2,⟨⟩⟩,⟨⟩⟩;kernel_rfl)
noncomputable def yZ:Ent:=z6 (by kernel_rfl) zCu
theorem zFm:OkA 96 [.d zA, .pp jQ] (.p .bool) vF:=fA [zAo] (A:=fun _=>none) (fn:=Tryz.f96) (by kernel_rfl) (by kernel_rfl) (by rintro ⟨⟩ ⟨a1,a2,⟨⟩⟩;kernel_rfl)
noncomputable def xE:Ent:=z6 (by kernel_rfl) zFm
theorem zCt:OkA 138 [.d (.sl zA), .clo 96 [(true,jQ)]] (.p tI) vX:=fA [xE] (A:=(jl [jj 9 91625948416 [] [.t 8 tI],jj 28 91625968896 [] []])) (fn:=Tryz.f138) (by kernel_rfl) (by kernel_rfl) (by rintro ⟨⟩ ⟨a1,⟨a2,⟨⟩⟩,⟨⟩⟩;kernel_rfl)
noncomputable def yY:Ent:=z6 (by kernel_rfl) zCt
theorem zBF:OkA 92 [.d (.sl zA), .clo 90 [(true,zH)]] (.p .bool) jT:=fA [yY,yZ] (A:=fun _=>none) (fn:=Tryz.f92) (by kernel_rfl) (by kernel_rfl) (by rintro ⟨⟩ ⟨a1,⟨a2,⟨⟩⟩,⟨⟩⟩;kernel_rfl)
noncomputable def uF:Ent:=z6 (by kernel_rfl) zBF
theorem zBE:OkA 92 [.d (.sl zA), .clo 96 [(true,jQ)]] (.p .bool) jS:=fA [yY,yZ] (A:=fun _=>none) (fn:=Tryz.f92) (by kernel_rfl) (by kernel_rfl) (by rintro ⟨⟩ ⟨a1,⟨a2,⟨⟩⟩,⟨⟩⟩;kernel_rfl)
noncomputable def uE:Ent:=z6 (by kernel_rfl) zBE
theorem zO1:OkX 94 [(.sl zA),zH] (.p tI) zB9:=fX [] (A:=(jl [jj 9 366503802112 [] [.t 9 tI],jj 28 366503884032 [] []])) (fn:=Tryz.f94) (by kernel_rfl) (by kernel_rfl) (by rintro ⟨⟩ ⟨a1,a2,⟨⟩⟩;kernel_rfl)
noncomputable def zFz:Ent:=z6 (by kernel_rfl) zO1
theorem zEJ:OkX 93 [qL,zH] (.p .bool) kN:=fX [zFz] (A:=(jl [jj 18 1501199517876480 [] [.t 4 .bool]])) (fn:=Tryz.f93) (by kernel_rfl) (by kernel_rfl) (by rintro ⟨⟩ ⟨a1,a2,⟨⟩⟩;kernel_rfl)
noncomputable def zBN:Ent:=z6 (by kernel_rfl) zEJ
theorem zO2:OkX 139 [zD,jE,zA] (.tu [tI,tI, .bool]) zFb:=fX [zFW,zCe] (A:=(jl [jj 22 1730765619511603060595474206556160 [] [.t 55 .bool],jj 40 464145148480160064164042964536931840688128 [] [.t 9 tI],jj 48 475284632043683905703979995685818204597256192 [] [.t 10 tI]])) (fn:=Tryz.f139) (by kernel_rfl) (by kernel_rfl) (by rintro ⟨⟩ ⟨a1,a2,a3,⟨⟩⟩;kernel_rfl)
noncomputable def zQY:Ent:=z6 (by kernel_rfl) zO2
theorem zO3:zTb U Tryz.prog G0 140 zA 2 (kW [.d zD, .d jE]) (.p .bool) zIC:=
 zTV (fn:=Tryz.f140) (c:=wC Tryz.f140) (S:=zXP []) (A:=(fun _=>none)) (zM3 _) (by kernel_rfl) (by kernel_rfl) (by kernel_rfl) (by intro ty h;cases h) (by rintro ⟨⟩ a0 ⟨a1,a2,⟨⟩⟩;kernel_rfl)
noncomputable def zQZ:Ent:=qA2 (by kernel_rfl) zO3
theorem zHK:OkX 95 [zD,(.sl jE),(.sl zA),tI] (.p (.sl zA)) x9:=fX [zQZ,zQY] (A:=(jl [jj 50 422550099332258165946469842944 [] [.t 49 .bool, .o 9 9 zA],jj 48 100743817925920018399232 [] [.t 12 tI, .o 9 9 zA],jj 29 100743812296420483923968 [] [.t 27 tI, .o 9 9 zA, .t 12 tI],jj 72 121791803110908576516973736059690228411355365376 [] [.o 9 9 zA],jj 13 487167212443634306067894944238761005315571056640 [] [.t 21 tI, .o 9 9 zA],jj 76 487167212443634306067894944238761006689960591360 [] [.o 9 9 zA],jj 67 0 [(5,0,8)] []])) (fn:=Tryz.f95) (by kernel_rfl) (by kernel_rfl) (by rintro ⟨⟩ ⟨a1,a2,a3,a4,⟨⟩⟩;kernel_rfl)
noncomputable def zDD:Ent:=z6 (by kernel_rfl) zHK
theorem zHQ:OkX 39 [zR,qL,tI] (.o zA) vU:=fX [xE,zDD,zFz,zBN,uE,uF,zB2,xF,zFT] (A:=(jl [jj 6 25790417485106224998383616 [] [.t 42 .bool],jj 46 1948668842515180063291559223069719067663521546240 [] [.t 80 .bool, .o 9 9 zA],jj 60 31926990434705904455009922752810286867187922045763584 [] [.o 9 9 zA],jj 33 127707961738824064440646274742974443147923939609804800 [] [.t 62 tI, .o 9 9 zA],jj 64 127707961738824071502170002350340017949398947349135360 [] [.o 9 9 zA],jj 92 143786382224280320426941857067118381140797464718874523612245009891328 [] [.o 9 9 zA],jj 69 575145528899180955714691182894107142967679874418281679829001526575104 [] [.t 93 tI, .o 9 9 zA],jj 96 575145528899213521244934583032347257842006818488433578035347928121344 [] [.o 9 9 zA],jj 132 10609562376124557223382468251539799335430062375125978053846481832176962154906960271769600 [] [.o 9 9 zA],jj 105 42438249506929862767513513110054188026902695565422581893364379173536457883748661954084864 [] [.t 128 tI, .o 9 9 zA],jj 136 42438249506968309359643090753065920580518861472326987942960392642065184034688789360410624 [] [.o 9 9 zA]])) (fn:=Tryz.f39) (by kernel_rfl) (by kernel_rfl) (by rintro ⟨⟩ ⟨a1,a2,a3,⟨⟩⟩;kernel_rfl)
noncomputable def zI8:Ent:=z6 (by kernel_rfl) zHQ
theorem zFj:OkX 100 [zR,zK,(.sl zA)] (.p (.sl zA)) uL:=fX [zCS,zCT] (A:=(jl [jj 40 1611901092819482785366016 [] [.o 7 7 zA],jj 13 6447604371278020959027200 [] [.t 16 tI, .o 7 7 zA],jj 44 6447604371278022301204480 [] [.o 7 7 zA]])) (fn:=Tryz.f100) (by kernel_rfl) (by kernel_rfl) (by rintro ⟨⟩ ⟨a1,a2,a3,⟨⟩⟩;kernel_rfl)
noncomputable def zGi:Ent:=z6 (by kernel_rfl) zFj
theorem zHP:OkX 41 [zR,(.sl qL),tI] (.p (.sl zA)) zAc:=fX [zPk,zGi,zAn,zI8] (A:=(jl [jj 6 25185954575304773074944 [] [.t 37 .bool],jj 48 1948668849746180360361811056676250820657323982848 [] [.o 7 44 zA],jj 33 7794675399096376593092248704999459040486661046272 [] [.t 61 tI, .o 7 44 zA],jj 52 7794675399098148464395223714927695072359007469568 [] [.o 7 44 zA],jj 21 31178701596392595561302373111421631865798953877504 [] [.t 53 tI, .o 7 44 zA],jj 56 31178701596392595588345173269610763970970322550784 [] [.o 7 44 zA]])) (fn:=Tryz.f41) (by kernel_rfl) (by kernel_rfl) (by rintro ⟨⟩ ⟨a1,a2,a3,⟨⟩⟩;kernel_rfl)
theorem zFo:OkX 39 [zR,qL,tI] (.p (.sl zA)) vU:=fX [xE,zDD,zFz,zBN,uE,uF,zB2,xF,zFT] (A:=(jl [jj 6 25790417485106224998383616 [] [.t 42 .bool],jj 46 1948668842515180063291559223069719067663521546240 [] [.t 80 .bool, .o 9 9 zA],jj 60 31926990434705904455009922752810286867187922045763584 [] [.o 9 9 zA],jj 33 127707961738824064440646274742974443147923939609804800 [] [.t 62 tI, .o 9 9 zA],jj 64 127707961738824071502170002350340017949398947349135360 [] [.o 9 9 zA],jj 92 143786382224280320426941857067118381140797464718874523612245009891328 [] [.o 9 9 zA],jj 69 575145528899180955714691182894107142967679874418281679829001526575104 [] [.t 93 tI, .o 9 9 zA],jj 96 575145528899213521244934583032347257842006818488433578035347928121344 [] [.o 9 9 zA],jj 132 10609562376124557223382468251539799335430062375125978053846481832176962154906960271769600 [] [.o 9 9 zA],jj 105 42438249506929862767513513110054188026902695565422581893364379173536457883748661954084864 [] [.t 128 tI, .o 9 9 zA],jj 136 42438249506968309359643090753065920580518861472326987942960392642065184034688789360410624 [] [.o 9 9 zA]])) (fn:=Tryz.f39) (by kernel_rfl) (by kernel_rfl) (by rintro ⟨⟩ ⟨a1,a2,a3,⟨⟩⟩;kernel_rfl)
end Go.Ve

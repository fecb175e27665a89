/-
  Contracts: merging of routes, tables of distance-vector routing.
  Contracts: path-vector routing, the routes that a router originates, tables.
-/
import Derived.Test.YtcnlcmbchljpgaaGreatPo24
import Derived.Test.YtcnlcmbchljpgaaGreatPo25
import Derived.Test.YtcnlcmbchljpgaaGreatPo17
set_option linter.unusedVariables false
namespace Go.Ve
open Go Go.Proofs
set_option maxRecDepth 1000000
set_option maxHeartbeats 0
noncomputable def zGq:Ent:=qAJ (by kernel_rfl) zFq
noncomputable def zHa:Ent:=qBH (by kernel_rfl) zGl
theorem zJ7:OkX 121 [(.sl zB)] (.p zB) zBH:=fX [xF,zHa,zIb,zGq,zOA] (A:=(jl [jj 28 93819265617024 [] [.v 3 [.p zB]],jj 13 375299611036800 [] [.t 15 tI, .v 3 [.p zB]],jj 32 375299963358336 [] [.v 3 [.p zB]],jj 56 100743722224427047522304 [] [.o 6 6 qP],jj 41 402975267200076888608768 [] [.t 27 tI, .o 6 6 qP],jj 60 402975272829576422821888 [] [.o 6 6 qP]])) (fn:=Tryz.f121) (by kernel_rfl) (by kernel_rfl) (by rintro ⟨⟩ ⟨a1,⟨⟩⟩;kernel_rfl)
noncomputable def zLF:Ent:=qD (by kernel_rfl) zJ7
theorem zNO:OkX 60 [(.sl zB)] (.p (.sl zB)) zD8:=fX [zLF,zLG,zBW,zCQ,zHb] (A:=(jl [jj 30 98382635054057652224 [] [.t 33 .bool, .o 4 4 zB],jj 29 1574122160950821785856 [] [.t 6 tI, .o 4 4 zB],jj 36 1574122160950821785856 [] [.o 4 4 zB, .t 6 tI],jj 21 412646679761793424964982016 [] [.t 5 tI, .o 4 4 zB],jj 44 412646679761793424964982016 [] [.o 4 4 zB],jj 11 0 [(0,0,9),(8,0,2)] []])) (fn:=Tryz.f60) (by kernel_rfl) (by kernel_rfl) (by rintro ⟨⟩ ⟨a1,⟨⟩⟩;kernel_rfl)
noncomputable def zPu:Ent:=qD (by kernel_rfl) zNO
end Go.Ve

namespace Go.Ve
open Go Go.Proofs
set_option maxRecDepth 1000000
set_option maxHeartbeats 0
theorem zNS:OkX 88 [zR,(.sl zT)] (.p .bool) zD9:=fX [zIq] (A:=(jl [jj 26 27043212804868893898504709079040 [] [.t 52 .bool],jj 17 27043212804868893898596312679680 [] [.t 5 tI],jj 32 27043212804868893898596312679680 [] []])) (fn:=Tryz.f88) (by kernel_rfl) (by kernel_rfl) (by rintro ⟨⟩ ⟨a1,a2,⟨⟩⟩;kernel_rfl)
noncomputable def zPx:Ent:=qD (by kernel_rfl) zNS
theorem zNX:OkX 38 [zR,(.sl zT)] (.p .bool) zEd:=fX [zPx] (A:=(jl [jj 26 27043212804868893898504709079040 [] [.t 52 .bool],jj 17 27043212804868893898596312679680 [] [.t 5 tI],jj 32 27043212804868893898596312679680 [] []])) (fn:=Tryz.f38) (by kernel_rfl) (by kernel_rfl) (by rintro ⟨⟩ ⟨a1,a2,⟨⟩⟩;kernel_rfl)
noncomputable def zPA:Ent:=qD (by kernel_rfl) zNX
theorem zIZ:OkX 136 [(.sl zB),zH,tU] (.p tI) zA6:=fX [zF9] (A:=(jl [jj 22 24019192286019584 [] [.t 27 .bool],jj 26 6447604347258824252456960 [] [.t 41 .bool],jj 32 25790417485112088971788288 [] [.t 7 tI],jj 13 103161669940448356236869632 [] [.t 12 tI, .t 7 tI],jj 36 103161669940448356242112512 [] [.t 7 tI]])) (fn:=Tryz.f136) (by kernel_rfl) (by kernel_rfl) (by rintro ⟨⟩ ⟨a1,a2,a3,⟨⟩⟩;kernel_rfl)
noncomputable def zKD:Ent:=qD (by kernel_rfl) zIZ
theorem zGn:OkA 170 [.d qG, .pp .str] (.p .bool) zBg:=fA [] (A:=fun _=>none) (fn:=Tryz.f170) (by kernel_rfl) (by kernel_rfl) (by rintro ⟨⟩ ⟨a1,a2,⟨⟩⟩;kernel_rfl)
noncomputable def zCS:Ent:=qD (by kernel_rfl) zGn
theorem zBe:OkA 169 [.d (.sl qG), .clo 170 [(true, .str)]] (.p tI) wV:=fA [zCS] (A:=(jl [jj 9 91625948416 [] [.t 8 tI],jj 28 91625968896 [] []])) (fn:=Tryz.f169) (by kernel_rfl) (by kernel_rfl) (by rintro ⟨⟩ ⟨a1,⟨a2,⟨⟩⟩,⟨⟩⟩;kernel_rfl)
noncomputable def zBw:Ent:=qD (by kernel_rfl) zBe
theorem zI5:OkX 137 [zF, .str] (.p tI) zA9:=fX [zBw,zCS] (A:=fun _=>none) (fn:=Tryz.f137) (by kernel_rfl) (by kernel_rfl) (by rintro ⟨⟩ ⟨a1,a2,⟨⟩⟩;kernel_rfl)
noncomputable def zKI:Ent:=qD (by kernel_rfl) zI5
theorem zLc:OkX 89 [zR,(.sl zB),tI] (.p (.sl zB)) zCy:=fX [zLD,zKI,zKD] (A:=(jl [jj 6 93824902758400 [] [.t 23 .bool],jj 46 28356755737226985813038956233973825536 [] [.t 62 .bool, .o 8 8 zB],jj 76 7981747608676504470616390663246190390899243445452800 [] [.o 8 8 zB, .v 11 [.p zB]],jj 80 2043327387821185144477796036200411851294445257207382016 [] [.o 8 8 zB],jj 25 8173309551284740577911184144801648954704283220132823040 [] [.t 33 tI, .o 8 8 zB],jj 84 8173309551284740577911184144801648978915634816876609536 [] [.o 8 8 zB]])) (fn:=Tryz.f89) (by kernel_rfl) (by kernel_rfl) (by rintro ⟨⟩ ⟨a1,a2,a3,⟨⟩⟩;kernel_rfl)
noncomputable def zF5:Ent:=qD (by kernel_rfl) zLc
theorem zFy:OkA 90 [.d zB, .pp zH] (.p .bool) zC4:=fA [] (A:=fun _=>none) (fn:=Tryz.f90) (by kernel_rfl) (by kernel_rfl) (by rintro ⟨⟩ ⟨a1,a2,⟨⟩⟩;kernel_rfl)
noncomputable def xW:Ent:=qD (by kernel_rfl) zFy
theorem zFv:OkX 91 [zR,tI,zH] (.p .bool) uY:=fX [zOH,zLD] (A:=(jl [jj 18 393530534375075086336 [] [.t 34 .bool],jj 9 1574122160950821998592 [] [.t 17 tI],jj 28 1574122160956548534272 [] []])) (fn:=Tryz.f91) (by kernel_rfl) (by kernel_rfl) (by rintro ⟨⟩ ⟨a1,a2,a3,⟨⟩⟩;kernel_rfl)
noncomputable def zCe:Ent:=qD (by kernel_rfl) zFv
theorem zCK:OkA 138 [.d (.sl zB), .clo 90 [(true,zH)]] (.p tI) kH:=fA [xW] (A:=(jl [jj 9 91625948416 [] [.t 8 tI],jj 28 91625968896 [] []])) (fn:=Tryz.f138) (by kernel_rfl) (by kernel_rfl) (by rintro ⟨⟩ ⟨a1,⟨a2,⟨⟩⟩,⟨⟩⟩;kernel_rfl)
noncomputable def xO:Ent:=qD (by kernel_rfl) zCK
theorem zFx:OkA 96 [.d zB, .pp jQ] (.p .bool) vT:=fA [zAL] (A:=fun _=>none) (fn:=Tryz.f96) (by kernel_rfl) (by kernel_rfl) (by rintro ⟨⟩ ⟨a1,a2,⟨⟩⟩;kernel_rfl)
noncomputable def xV:Ent:=qD (by kernel_rfl) zFx
theorem zCJ:OkA 138 [.d (.sl zB), .clo 96 [(true,jQ)]] (.p tI) kG:=fA [xV] (A:=(jl [jj 9 91625948416 [] [.t 8 tI],jj 28 91625968896 [] []])) (fn:=Tryz.f138) (by kernel_rfl) (by kernel_rfl) (by rintro ⟨⟩ ⟨a1,⟨a2,⟨⟩⟩,⟨⟩⟩;kernel_rfl)
noncomputable def xN:Ent:=qD (by kernel_rfl) zCJ
theorem zBR:OkA 92 [.d (.sl zB), .clo 90 [(true,zH)]] (.p .bool) jY:=fA [xN,xO] (A:=fun _=>none) (fn:=Tryz.f92) (by kernel_rfl) (by kernel_rfl) (by rintro ⟨⟩ ⟨a1,⟨a2,⟨⟩⟩,⟨⟩⟩;kernel_rfl)
noncomputable def uR:Ent:=qD (by kernel_rfl) zBR
theorem zBQ:OkA 92 [.d (.sl zB), .clo 96 [(true,jQ)]] (.p .bool) jX:=fA [xN,xO] (A:=fun _=>none) (fn:=Tryz.f92) (by kernel_rfl) (by kernel_rfl) (by rintro ⟨⟩ ⟨a1,⟨a2,⟨⟩⟩,⟨⟩⟩;kernel_rfl)
noncomputable def uQ:Ent:=qD (by kernel_rfl) zBQ
theorem zPd:OkX 94 [(.sl zB),zH] (.p tI) zCl:=fX [] (A:=(jl [jj 9 366503802112 [] [.t 9 tI],jj 28 366503884032 [] []])) (fn:=Tryz.f94) (by kernel_rfl) (by kernel_rfl) (by rintro ⟨⟩ ⟨a1,a2,⟨⟩⟩;kernel_rfl)
noncomputable def zFL:Ent:=qD (by kernel_rfl) zPd
theorem zES:OkX 93 [zT,zH] (.p .bool) uA:=fX [zFL] (A:=(jl [jj 18 1501199517876480 [] [.t 4 .bool]])) (fn:=Tryz.f93) (by kernel_rfl) (by kernel_rfl) (by rintro ⟨⟩ ⟨a1,a2,⟨⟩⟩;kernel_rfl)
noncomputable def zB0:Ent:=qD (by kernel_rfl) zES
theorem zPe:OkX 139 [zF,qT,zB] (.tu [tI,tI, .bool]) zFl:=fX [zF8,zCt] (A:=(jl [jj 22 1730765619511603060595474206556160 [] [.t 55 .bool],jj 40 464145148480160064164042964536931840688128 [] [.t 9 tI],jj 48 475284632043683905703979995685818204597256192 [] [.t 10 tI]])) (fn:=Tryz.f139) (by kernel_rfl) (by kernel_rfl) (by rintro ⟨⟩ ⟨a1,a2,a3,⟨⟩⟩;kernel_rfl)
noncomputable def zRb:Ent:=qD (by kernel_rfl) zPe
theorem zPf:zTx U Tryz.prog G0 140 zB 2 (uF [.d zF, .d qT]) (.p .bool) zIW:=
 zUj (fn:=Tryz.f140) (c:=wM Tryz.f140) (S:=zYn []) (A:=(fun _=>none)) (zNc _) (by kernel_rfl) (by kernel_rfl) (by kernel_rfl) (by intro ty h;cases h) (by rintro ⟨⟩ a0 ⟨a1,a2,⟨⟩⟩;kernel_rfl)
noncomputable def zRc:Ent:=qBG (by kernel_rfl) zPf
theorem zH2:OkX 95 [zF,(.sl qT),(.sl zB),tI] (.p (.sl zB)) zAy:=fX [zRc,zRb] (A:=(jl [jj 50 422550099332258165946469842944 [] [.t 49 .bool, .o 9 9 zB],jj 48 100743817925920018399232 [] [.t 12 tI, .o 9 9 zB],jj 29 100743812296420483923968 [] [.t 27 tI, .o 9 9 zB, .t 12 tI],jj 72 121791803110908576516973736059690228411355365376 [] [.o 9 9 zB],jj 13 487167212443634306067894944238761005315571056640 [] [.t 21 tI, .o 9 9 zB],jj 76 487167212443634306067894944238761006689960591360 [] [.o 9 9 zB],jj 67 0 [(5,0,8)] []])) (fn:=Tryz.f95) (by kernel_rfl) (by kernel_rfl) (by rintro ⟨⟩ ⟨a1,a2,a3,a4,⟨⟩⟩;kernel_rfl)
noncomputable def zDO:Ent:=qD (by kernel_rfl) zH2
theorem zH7:OkX 39 [zR,zT,tI] (.o zB) w5:=fX [xV,zDO,zFL,zB0,uQ,uR,zCe,xW,zF5] (A:=(jl [jj 6 25790417485106224998383616 [] [.t 42 .bool],jj 46 1948668842515180063291559223069719067663521546240 [] [.t 80 .bool, .o 9 9 zB],jj 60 31926990434705904455009922752810286867187922045763584 [] [.o 9 9 zB],jj 33 127707961738824064440646274742974443147923939609804800 [] [.t 62 tI, .o 9 9 zB],jj 64 127707961738824071502170002350340017949398947349135360 [] [.o 9 9 zB],jj 92 143786382224280320426941857067118381140797464718874523612245009891328 [] [.o 9 9 zB],jj 69 575145528899180955714691182894107142967679874418281679829001526575104 [] [.t 93 tI, .o 9 9 zB],jj 96 575145528899213521244934583032347257842006818488433578035347928121344 [] [.o 9 9 zB],jj 132 10609562376124557223382468251539799335430062375125978053846481832176962154906960271769600 [] [.o 9 9 zB],jj 105 42438249506929862767513513110054188026902695565422581893364379173536457883748661954084864 [] [.t 128 tI, .o 9 9 zB],jj 136 42438249506968309359643090753065920580518861472326987942960392642065184034688789360410624 [] [.o 9 9 zB]])) (fn:=Tryz.f39) (by kernel_rfl) (by kernel_rfl) (by rintro ⟨⟩ ⟨a1,a2,a3,⟨⟩⟩;kernel_rfl)
noncomputable def zDP:Ent:=qD (by kernel_rfl) zH7
theorem zFu:OkX 100 [zR,zW,(.sl zB)] (.p (.sl zB)) uX:=fX [zIg,zIh] (A:=(jl [jj 40 1611901092819482785366016 [] [.o 7 7 zB],jj 13 6447604371278020959027200 [] [.t 16 tI, .o 7 7 zB],jj 44 6447604371278022301204480 [] [.o 7 7 zB]])) (fn:=Tryz.f100) (by kernel_rfl) (by kernel_rfl) (by rintro ⟨⟩ ⟨a1,a2,a3,⟨⟩⟩;kernel_rfl)
noncomputable def zGt:Ent:=qD (by kernel_rfl) zFu
theorem zC5:OkX 41 [zR,(.sl zT),tI] (.p (.sl zB)) yK:=fX [zPu,zGt,zAK,zDP] (A:=(jl [jj 6 25185954575304773074944 [] [.t 37 .bool],jj 48 1948668849746180360361811056676250820657323982848 [] [.o 7 44 zB],jj 33 7794675399096376593092248704999459040486661046272 [] [.t 61 tI, .o 7 44 zB],jj 52 7794675399098148464395223714927695072359007469568 [] [.o 7 44 zB],jj 21 31178701596392595561302373111421631865798953877504 [] [.t 53 tI, .o 7 44 zB],jj 56 31178701596392595588345173269610763970970322550784 [] [.o 7 44 zB]])) (fn:=Tryz.f41) (by kernel_rfl) (by kernel_rfl) (by rintro ⟨⟩ ⟨a1,a2,a3,⟨⟩⟩;kernel_rfl)
noncomputable def zJp:Ent:=qD (by kernel_rfl) zC5
theorem zFz:OkX 39 [zR,zT,tI] (.p (.sl zB)) w5:=fX [xV,zDO,zFL,zB0,uQ,uR,zCe,xW,zF5] (A:=(jl [jj 6 25790417485106224998383616 [] [.t 42 .bool],jj 46 1948668842515180063291559223069719067663521546240 [] [.t 80 .bool, .o 9 9 zB],jj 60 31926990434705904455009922752810286867187922045763584 [] [.o 9 9 zB],jj 33 127707961738824064440646274742974443147923939609804800 [] [.t 62 tI, .o 9 9 zB],jj 64 127707961738824071502170002350340017949398947349135360 [] [.o 9 9 zB],jj 92 143786382224280320426941857067118381140797464718874523612245009891328 [] [.o 9 9 zB],jj 69 575145528899180955714691182894107142967679874418281679829001526575104 [] [.t 93 tI, .o 9 9 zB],jj 96 575145528899213521244934583032347257842006818488433578035347928121344 [] [.o 9 9 zB],jj 132 10609562376124557223382468251539799335430062375125978053846481832176962154906960271769600 [] [.o 9 9 zB],jj 105 42438249506929862767513513110054188026902695565422581893364379173536457883748661954084864 [] [.t 128 tI, .o 9 9 zB],jj 136 42438249506968309359643090753065920580518861472326987942960392642065184034688789360410624 [] [.o 9 9 zB]])) (fn:=Tryz.f39) (by kernel_rfl) (by kernel_rfl) (by rintro ⟨⟩ ⟨a1,a2,a3,⟨⟩⟩;kernel_rfl)
end Go.Ve

/-
  Contracts: sorting of routes, comparisons, merging as the document has it.
-/
import Derived.Test.YtcnlcmbchljpgaaGreatPt17
import Derived.Test.YtcnlcmbchljpgaaGreatPt18
set_option linter.unusedVariables false
namespace Go.Ve
open Go Go.Proofs
set_option maxRecDepth 1000000
set_option maxHeartbeats 0
def zIA:Nat→Option JA:=fun k=>match k with
 |12=>some ⟨336,[],[.t 0 (.sl zB)]⟩
 |_=>none
theorem zHr:w6 U Tryz.prog G0 119 (qQ (wI [(.sl zB)] (.o zB) xH)):=
 zU5 (t:=zB) (bytes:=136)
  (vM (fn:=Tryz.f119) (c:=wQ Tryz.f119) (S:=zQ.none U) (A:=fun _=>none) qC (by kernel_rfl) (by kernel_rfl) (enc:=fun q=>[.tl zB (q.1::q.2)]) (fun _ _ h=>zFb h) (by rintro ⟨⟩ ⟨y,r⟩;kernel_rfl))
  (fun c=>vM (fn:=Tryz.f119) (c:=wQ Tryz.f119) (S:=zQ.none U) (A:=fun _=>none) qC (by kernel_rfl) (by kernel_rfl) (enc:=fun _=>[.val (.slice none 0 c)]) (fun _ _ h=>xD h) (by rintro ⟨⟩ _;kernel_rfl))
  (fun a c=>vM (fn:=Tryz.f119) (c:=wQ Tryz.f119) (S:=zQ.none U) (A:=zIA) qC (by kernel_rfl) (by kernel_rfl) (enc:=fun _=>[.val (.slice (some a) 0 c)]) (fun _ _ h=>xD h) (by rintro ⟨⟩ _;kernel_rfl))
noncomputable def zIl:Ent:=z6 (by kernel_rfl) zHr
theorem zJt:OkX 148 [tU] (.p .bool) zAN:=fX [] (A:=fun _=>none) (fn:=Tryz.f148) (by kernel_rfl) (by kernel_rfl) (by rintro ⟨⟩ ⟨a1,⟨⟩⟩;kernel_rfl)
noncomputable def zKT:Ent:=z6 (by kernel_rfl) zJt
theorem zHw:OkX 111 [tU,tU] (.p tI) w9:=fX [zKT] (A:=fun _=>none) (fn:=Tryz.f111) (by kernel_rfl) (by kernel_rfl) (by rintro ⟨⟩ ⟨a1,a2,⟨⟩⟩;kernel_rfl)
noncomputable def zAw:Ent:=z6 (by kernel_rfl) zHw
theorem zM7:OkX 149 [tI] (.p .bool) zC6:=fX [] (A:=fun _=>none) (fn:=Tryz.f149) (by kernel_rfl) (by kernel_rfl) (by rintro ⟨⟩ ⟨a1,⟨⟩⟩;kernel_rfl)
noncomputable def zOW:Ent:=z6 (by kernel_rfl) zM7
theorem zKt:OkX 112 [tI,tI] (.p tI) qF:=fX [zOW] (A:=fun _=>none) (fn:=Tryz.f112) (by kernel_rfl) (by kernel_rfl) (by rintro ⟨⟩ ⟨a1,a2,⟨⟩⟩;kernel_rfl)
noncomputable def zCp:Ent:=z6 (by kernel_rfl) zKt
theorem zOF:OkX 52 [zG,zG] (.p tI) zCs:=fX [zCp,zAw] (A:=fun _=>none) (fn:=Tryz.f52) (by kernel_rfl) (by kernel_rfl) (by rintro ⟨⟩ ⟨a1,a2,⟨⟩⟩;kernel_rfl)
noncomputable def zEC:Ent:=z6 (by kernel_rfl) zOF
theorem jZ:OkX 51 [zB,zB] (.p tI) zP:=fX [zEC] (A:=fun _=>none) (fn:=Tryz.f51) (by kernel_rfl) (by kernel_rfl) (by rintro ⟨⟩ ⟨a1,a2,⟨⟩⟩;kernel_rfl)
def v7:Nat→Option JA:=fun k=>match k with
 |18=>some ⟨393530540216230608896,[],[.t 34 .bool, .o 0 1000000 zB]⟩
 |17=>some ⟨27043212804868893898573428817921,[],[.t 9 tI, .o 0 1000000 zB]⟩
 |8=>some ⟨27043212804868893898590608687105,[],[.o 0 1000000 zB]⟩
 |5=>some ⟨27043212804868893898596329783297,[],[.t 8 tI, .o 0 1000000 zB]⟩
 |27=>some ⟨0,[(229376,28,0)],[]⟩
 |_=>none
theorem zAZ:zBH U Tryz.prog G0 146 zB (uH [.d tI, .d tI, .clo 51 []]) (.tu []) qE:=
 vN (fn:=Tryz.f146) (c:=wQ Tryz.f146) (S:=((zQ.none U).add 51 (wI [zB,zB] (.p tI) zP))) (A:=v7) (q7 qC (by kernel_rfl) jZ) (by kernel_rfl) (by kernel_rfl) (by kernel_rfl) (by intro ty h;cases h) (by rintro ⟨⟩ a0 ⟨a1,a2,⟨⟩,⟨⟩⟩;kernel_rfl)
def uX:Nat→Option JA:=fun k=>match k with
 |5=>some ⟨25185954575304774123520,[],[.t 10 tI, .o 0 1000000 zB]⟩
 |15=>some ⟨0,[(14680064,240,0)],[]⟩
 |_=>none
theorem zCb:zBH U Tryz.prog G0 214 zB (uH [.d tI, .d tI, .d tI, .clo 51 []]) (.tu []) qI:=
 vN (fn:=Tryz.f214) (c:=wQ Tryz.f214) (S:=((zQ.none U).add 51 (wI [zB,zB] (.p tI) zP))) (A:=uX) (q7 qC (by kernel_rfl) jZ) (by kernel_rfl) (by kernel_rfl) (by kernel_rfl) (by intro ty h;cases h) (by rintro ⟨⟩ a0 ⟨a1,a2,a3,⟨⟩,⟨⟩⟩;kernel_rfl)
def x3:Nat→Option JA:=fun k=>match k with
 |9=>some ⟨422550200076076467142666485760,[],[.t 10 tI, .t 11 tI, .o 0 1000000 zB]⟩
 |32=>some ⟨422550200076076467142666485761,[],[.o 0 1000000 zB, .t 10 tI]⟩
 |_=>none
theorem zDe:zBH U Tryz.prog G0 175 zB (uH [.d tI, .d tI, .d tI, .clo 51 []]) (.tu []) jU:=
 vN (fn:=Tryz.f175) (c:=wQ Tryz.f175) (S:=(((zQ.none U).addB 214 (vI zB (uH [.d tI, .d tI, .d tI, .clo 51 []]) (.tu []) qI)).add 51 (wI [zB,zB] (.p tI) zP))) (A:=x3) (q7 (wH qC (by kernel_rfl) zCb) (by kernel_rfl) jZ) (by kernel_rfl) (by kernel_rfl) (by kernel_rfl) (by intro ty h;cases h) (by rintro ⟨⟩ a0 ⟨a1,a2,a3,⟨⟩,⟨⟩⟩;kernel_rfl)
def xB:Nat→Option JA:=fun k=>match k with
 |13=>some ⟨108172851219474038365712553082880,[],[.t 10 tI, .t 11 tI, .o 0 1000000 zB]⟩
 |32=>some ⟨108172851219474038365712553082881,[],[.t 10 tI, .o 0 1000000 zB]⟩
 |37=>some ⟨7611987694431353340905980601428263186080989184,[],[.t 13 tI, .o 0 1000000 zB]⟩
 |48=>some ⟨95701492081623040,[],[.o 0 1000000 zB]⟩
 |61=>some ⟨8776024305713067712791572581043614347964826669341339950268809216,[],[.t 14 tI, .t 15 tI, .o 0 1000000 zB]⟩
 |80=>some ⟨8776024305713067712791572581043614347964826669341339950268809217,[],[.t 14 tI, .o 0 1000000 zB]⟩
 |85=>some ⟨154389452316386489800871794282684571128465422743414453687476595640149915729920,[],[.t 17 tI, .o 0 1000000 zB]⟩
 |96=>some ⟨1941056862080105438239268918451313385480535408640,[],[.o 0 1000000 zB]⟩
 |128=>some ⟨10609521904473526996625843805009119098832509500200937719156538760962199709100267794333696,[],[.t 20 tI, .t 21 tI, .o 0 1000000 zB]⟩
 |133=>some ⟨764499538663357000783942270560188457895047628941246953623496807634286739017790823158231204167849349218304,[],[.t 20 tI, .t 21 tI, .o 0 1000000 zB]⟩
 |152=>some ⟨764499538663357000783942270560188457895047628941246953623496807634286739017790823158231204167849349218305,[],[.t 20 tI, .o 0 1000000 zB]⟩
 |158=>some ⟨3206494545043399178952856477303941710188861580056390473475048204570069134601788840466531538732204519858288721920,[],[.t 185 .bool, .o 0 1000000 zB]⟩
 |164=>some ⟨13134002016536855929638154452350358835248725019828429120392767161680012016911382180583746179467909413919528016936961,[],[.o 0 1000000 zB]⟩
 |166=>some ⟨860736825360237398392235630987637243571966904363317682461330469415747792098356565806344646337960982173420788448252395520,[],[.t 199 .bool, .o 0 1000000 zB]⟩
 |172=>some ⟨3525631820413990462278721905415098845703620374116253412696311352147399751845086587235272251873726100892181250531248580853761,[],[.o 0 1000000 zB]⟩
 |174=>some ⟨231052282211567690305673438463614133840824004789675571764370446924310312152915541592820132832889286359930080426986164194503557120,[],[.t 213 .bool, .o 0 1000000 zB]⟩
 |95=>some ⟨0,[(229376,28,0)],[]⟩
 |47=>some ⟨0,[(229376,28,0)],[]⟩
 |_=>none
theorem zCg: ∀n,zBH U Tryz.prog G0 147 zB (uH [.d tI, .d tI, .d tI, .clo 51 []]) (.tu []) (qD n):=by
 intro n
 induction n with
 |zero=>exact fun _ _ _ _ _ _ _ h=>by cases h
 |succ n ih=>exact vN (fn:=Tryz.f147) (c:=wQ Tryz.f147) (S:=((((zQ.none U).addB 175 (vI zB (uH [.d tI, .d tI, .d tI, .clo 51 []]) (.tu []) jU)).add 51 (wI [zB,zB] (.p tI) zP)).addB 147 (vI zB (uH [.d tI, .d tI, .d tI, .clo 51 []]) (.tu []) (qD n)))) (A:=xB) (wH (q7 (wH qC (by kernel_rfl) zDe) (by kernel_rfl) jZ) (by kernel_rfl) ih) (by kernel_rfl) (by kernel_rfl) (by kernel_rfl) (by intro ty h;cases h) (by rintro ⟨⟩ a0 ⟨a1,a2,a3,⟨⟩,⟨⟩⟩;kernel_rfl)
theorem zCt:zBH U Tryz.prog G0 147 zB (uH [.d tI, .d tI, .d tI, .clo 51 []]) (.tu []) qK:=zCg _
def xZ:Nat→Option JA:=fun k=>match k with
 |9=>some ⟨23456246743040,[],[.t 8 tI, .o 0 1000000 zB, .t 7 tI]⟩
 |24=>some ⟨23456246743041,[],[.o 0 1000000 zB, .t 7 tI]⟩
 |37=>some ⟨105637549994423458026445946880,[],[.t 8 tI, .o 0 1000000 zB, .t 7 tI]⟩
 |52=>some ⟨105637549994423458026445946881,[],[.t 7 tI, .o 0 1000000 zB]⟩
 |64=>some ⟨1772303888742337811519292622315454464,[],[.o 0 1000000 zB]⟩
 |29=>some ⟨28356863910078205288590531421301723137,[],[.t 6 tI, .o 0 1000000 zB]⟩
 |_=>none
theorem zDd:zBH U Tryz.prog G0 110 zB (uH [.d tI, .clo 51 []]) (.tu []) qR:=
 vN (fn:=Tryz.f110) (c:=wQ Tryz.f110) (S:=((((zQ.none U).addB 146 (vI zB (uH [.d tI, .d tI, .clo 51 []]) (.tu []) qE)).addB 147 (vI zB (uH [.d tI, .d tI, .d tI, .clo 51 []]) (.tu []) qK)).add 51 (wI [zB,zB] (.p tI) zP))) (A:=xZ) (q7 (wH (wH qC (by kernel_rfl) zAZ) (by kernel_rfl) zCt) (by kernel_rfl) jZ) (by kernel_rfl) (by kernel_rfl) (by kernel_rfl) (by intro ty h;cases h) (by rintro ⟨⟩ a0 ⟨a1,⟨⟩,⟨⟩⟩;kernel_rfl)
def xE:Nat→Option JA:=fun _=>none
theorem zCR:zBH U Tryz.prog G0 50 zB (uH [.clo 51 []]) (.tu []) qW:=
 vN (fn:=Tryz.f50) (c:=wQ Tryz.f50) (S:=(((zQ.none U).addB 110 (vI zB (uH [.d tI, .clo 51 []]) (.tu []) qR)).add 51 (wI [zB,zB] (.p tI) zP))) (A:=xE) (q7 (wH qC (by kernel_rfl) zDd) (by kernel_rfl) jZ) (by kernel_rfl) (by kernel_rfl) (by kernel_rfl) (by intro ty h;cases h) (by rintro ⟨⟩ a0 ⟨⟨⟩,⟨⟩⟩;kernel_rfl)
noncomputable def zDl:Ent:=qCM (by kernel_rfl) zCR
theorem zLH:OkX 120 [zB,zB] (.p tI) zPD:=fX [zEC] (A:=fun _=>none) (fn:=Tryz.f120) (by kernel_rfl) (by kernel_rfl) (by rintro ⟨⟩ ⟨a1,a2,⟨⟩⟩;kernel_rfl)
noncomputable def zNr:Ent:=z6 (by kernel_rfl) zLH
theorem zRE:OkX 163 [(.sl tI)] (.p tI) zBv:=fX [] (A:=(jl [jj 13 5726602256 [] [.t 8 tI],jj 32 5726622736 [] []])) (fn:=Tryz.f163) (by kernel_rfl) (by kernel_rfl) (by rintro ⟨⟩ ⟨a1,⟨⟩⟩;kernel_rfl)
noncomputable def zMq:Ent:=z6 (by kernel_rfl) zRE
theorem zOo:OkX 180 [zB] (.p tI) zDM:=fX [] (A:=fun _=>none) (fn:=Tryz.f180) (by kernel_rfl) (by kernel_rfl) (by rintro ⟨⟩ ⟨a1,⟨⟩⟩;kernel_rfl)
noncomputable def zQG:Ent:=z6 (by kernel_rfl) zOo
theorem zOp:OkX 155 [zB,zB] (.p tI) xI:=fX [zAw,zQG,zMq,zCp] (A:=(jl [jj 16 344064 [] [.t 7 .bool]])) (fn:=Tryz.f155) (by kernel_rfl) (by kernel_rfl) (by rintro ⟨⟩ ⟨a1,a2,⟨⟩⟩;kernel_rfl)
noncomputable def zQH:Ent:=z6 (by kernel_rfl) zOp
theorem zDh:OkX 157 [qB,qB] (.p tI) zAb:=fX [zMq,zAw,zCp] (A:=fun _=>none) (fn:=Tryz.f157) (by kernel_rfl) (by kernel_rfl) (by rintro ⟨⟩ ⟨a1,a2,⟨⟩⟩;kernel_rfl)
noncomputable def zJv:Ent:=z6 (by kernel_rfl) zDh
theorem zOE:OkX 49 [tU,tI] (.p zG) zDY:=fX [zMr,zN4] (A:=fun _=>none) (fn:=Tryz.f49) (by kernel_rfl) (by kernel_rfl) (by rintro ⟨⟩ ⟨a1,a2,⟨⟩⟩;kernel_rfl)
noncomputable def zQS:Ent:=z6 (by kernel_rfl) zOE
theorem zM2:OkX 55 [zN,tI,tI] (.p zG) zC1:=fX [zIp] (A:=fun _=>none) (fn:=Tryz.f55) (by kernel_rfl) (by kernel_rfl) (by rintro ⟨⟩ ⟨a1,a2,a3,⟨⟩⟩;kernel_rfl)
noncomputable def zOT:Ent:=z6 (by kernel_rfl) zM2
theorem zLP:OkX 114 [(.sl zB)] (.p (.sl zG)) zB5:=fX [zIr] (A:=(jl [jj 26 96076792044978176 [] [.t 28 .bool, .o 3 3 zG],jj 25 1537228672803537984 [] [.t 5 tI, .o 3 3 zG],jj 32 1537228672803537984 [] [.t 5 tI, .o 3 3 zG],jj 34 6602346874651466126652866560 [] [.t 46 .bool, .o 3 3 zG],jj 16 28356863910078205288614550619308426304 [] [.o 3 3 zG],jj 13 28356863910078205288614550619314017600 [] [.t 4 tI, .o 3 3 zG],jj 40 28356863910078205288614550619314017600 [] [.o 3 3 zG],jj 39 0 [(100368,30688,0),(3,0,0),(51,3,1)] []])) (fn:=Tryz.f114) (by kernel_rfl) (by kernel_rfl) (by rintro ⟨⟩ ⟨a1,⟨⟩⟩;kernel_rfl)
noncomputable def zNy:Ent:=z6 (by kernel_rfl) zLP
theorem zRv:OkX 150 [zB] (.p (.pair tI (.pair tI (.pair tI (.pair tI (.pair tI zO)))))) zEo:=fX [] (A:=fun _=>none) (fn:=Tryz.f150) (by kernel_rfl) (by kernel_rfl) (by rintro ⟨⟩ ⟨a1,⟨⟩⟩;kernel_rfl)
noncomputable def zTC:Ent:=z6 (by kernel_rfl) zRv
theorem zOA:OkX 115 [zB,zB] (.p tI) zB7:=fX [zTC] (A:=(jl [jj 36 384307168196706304 [] []])) (fn:=Tryz.f115) (by kernel_rfl) (by kernel_rfl) (by rintro ⟨⟩ ⟨a1,a2,⟨⟩⟩;kernel_rfl)
noncomputable def zQQ:Ent:=z6 (by kernel_rfl) zOA
theorem zOz:OkX 151 [(.sl qB),qB] (.p (.sl qB)) zB6:=fX [zHc] (A:=(jl [jj 10 22906490880 [] [.t 17 .bool],jj 9 366503875584 [] [.t 5 tI],jj 16 366503875584 [] [.t 5 tI],jj 18 6148914324732641280 [] [.t 31 .bool],jj 27 0 [(6288,1888,0)] []])) (fn:=Tryz.f151) (by kernel_rfl) (by kernel_rfl) (by rintro ⟨⟩ ⟨a1,a2,⟨⟩⟩;kernel_rfl)
noncomputable def zQP:Ent:=z6 (by kernel_rfl) zOz
theorem zM5:OkX 116 [(.sl qB),(.sl qB)] (.p (.sl qB)) zC4:=fX [zQP] (A:=(jl [jj 9 22906491905 [] [.t 5 tI, .t 0 (.sl qB)],jj 20 22906491905 [] [.t 0 (.sl qB)]])) (fn:=Tryz.f116) (by kernel_rfl) (by kernel_rfl) (by rintro ⟨⟩ ⟨a1,a2,⟨⟩⟩;kernel_rfl)
noncomputable def zOV:Ent:=z6 (by kernel_rfl) zM5
theorem zP0:OkX 56 [(.sl zB)] (.o zB) zE0:=fX [zOV,zQQ,zNy] (A:=(jl [jj 42 422550200076076373340575498240 [] [.t 49 .bool, .o 4 4 zB],jj 36 1690200800304305774837278707968 [] [.t 6 tI, .o 4 4 zB],jj 33 1690200800304305868639364468992 [] [.t 7 tI, .t 6 tI, .o 4 4 zB],jj 48 1690200800304305868639364468992 [] [.t 6 tI, .o 4 4 zB],jj 74 127707961738816812172701272241971879976603049126789120 [] [.t 88 .bool, .o 4 4 zB, .v 8 [.p tU, .p tI, .p tI, .p tI, .p tI, .p tI, .p tI, .p tI, .p tI, .o 58 tI, .p tU, .p tU, .p (.sl qB), .p .bool]],jj 68 33477875922062297399864853096127533665327237411930462355712 [] [.o 4 4 zB, .v 8 [.p tU, .p tI, .p tI, .p tI, .p tI, .p tI, .p tI, .p tI, .p tI, .o 58 tI, .p tU, .p tU, .p (.sl qB), .p .bool]],jj 65 33477875922062297407122437953113174331382023961061144002816 [] [.t 9 tI, .o 4 4 zB, .v 8 [.p tU, .p tI, .p tI, .p tI, .p tI, .p tI, .p tI, .p tI, .p tI, .o 58 tI, .p tU, .p tU, .p (.sl qB), .p .bool]],jj 80 33477875922062297407122437953113174331382023961061144002816 [] [.o 4 4 zB, .v 8 [.p tU, .p tI, .p tI, .p tI, .p tI, .p tI, .p tI, .p tI, .p tI, .o 58 tI, .p tU, .p tU, .p (.sl qB), .p .bool]],jj 20 8570336236047948136223797825819533880118415966841538882261248 [] [.o 4 4 zB],jj 17 8570336236047948136223797825819533880118415966841561783162112 [] [.t 5 tI, .o 4 4 zB],jj 84 8570336236047948136223797825819533880118415966841561783162112 [] [.o 4 4 zB]])) (fn:=Tryz.f56) (by kernel_rfl) (by kernel_rfl) (by rintro ⟨⟩ ⟨a1,⟨⟩⟩;kernel_rfl)
noncomputable def zRP:Ent:=z6 (by kernel_rfl) zP0
theorem jE:OkX 120 [zB,zB] (.p tI) zP:=fX [zEC] (A:=fun _=>none) (fn:=Tryz.f120) (by kernel_rfl) (by kernel_rfl) (by rintro ⟨⟩ ⟨a1,a2,⟨⟩⟩;kernel_rfl)
theorem zAf:zBH U Tryz.prog G0 146 zB (uH [.d tI, .d tI, .clo 120 []]) (.tu []) qE:=
 vN (fn:=Tryz.f146) (c:=wQ Tryz.f146) (S:=((zQ.none U).add 120 (wI [zB,zB] (.p tI) zP))) (A:=v7) (q7 qC (by kernel_rfl) jE) (by kernel_rfl) (by kernel_rfl) (by kernel_rfl) (by intro ty h;cases h) (by rintro ⟨⟩ a0 ⟨a1,a2,⟨⟩,⟨⟩⟩;kernel_rfl)
theorem zBa:zBH U Tryz.prog G0 214 zB (uH [.d tI, .d tI, .d tI, .clo 120 []]) (.tu []) qI:=
 vN (fn:=Tryz.f214) (c:=wQ Tryz.f214) (S:=((zQ.none U).add 120 (wI [zB,zB] (.p tI) zP))) (A:=uX) (q7 qC (by kernel_rfl) jE) (by kernel_rfl) (by kernel_rfl) (by kernel_rfl) (by intro ty h;cases h) (by rintro ⟨⟩ a0 ⟨a1,a2,a3,⟨⟩,⟨⟩⟩;kernel_rfl)
theorem zCd:zBH U Tryz.prog G0 175 zB (uH [.d tI, .d tI, .d tI, .clo 120 []]) (.tu []) jU:=
 vN (fn:=Tryz.f175) (c:=wQ Tryz.f175) (S:=(((zQ.none U).addB 214 (vI zB (uH [.d tI, .d tI, .d tI, .clo 120 []]) (.tu []) qI)).add 120 (wI [zB,zB] (.p tI) zP))) (A:=x3) (q7 (wH qC (by kernel_rfl) zBa) (by kernel_rfl) jE) (by kernel_rfl) (by kernel_rfl) (by kernel_rfl) (by intro ty h;cases h) (by rintro ⟨⟩ a0 ⟨a1,a2,a3,⟨⟩,⟨⟩⟩;kernel_rfl)
theorem zBb: ∀n,zBH U Tryz.prog G0 147 zB (uH [.d tI, .d tI, .d tI, .clo 120 []]) (.tu []) (qD n):=by
 intro n
 induction n with
 |zero=>exact fun _ _ _ _ _ _ _ h=>by cases h
 |succ n ih=>exact vN (fn:=Tryz.f147) (c:=wQ Tryz.f147) (S:=((((zQ.none U).addB 175 (vI zB (uH [.d tI, .d tI, .d tI, .clo 120 []]) (.tu []) jU)).add 120 (wI [zB,zB] (.p tI) zP)).addB 147 (vI zB (uH [.d tI, .d tI, .d tI, .clo 120 []]) (.tu []) (qD n)))) (A:=xB) (wH (q7 (wH qC (by kernel_rfl) zCd) (by kernel_rfl) jE) (by kernel_rfl) ih) (by kernel_rfl) (by kernel_rfl) (by kernel_rfl) (by intro ty h;cases h) (by rintro ⟨⟩ a0 ⟨a1,a2,a3,⟨⟩,⟨⟩⟩;kernel_rfl)
theorem zBp:zBH U Tryz.prog G0 147 zB (uH [.d tI, .d tI, .d tI, .clo 120 []]) (.tu []) qK:=zBb _
theorem zCc:zBH U Tryz.prog G0 110 zB (uH [.d tI, .clo 120 []]) (.tu []) qR:=
 vN (fn:=Tryz.f110) (c:=wQ Tryz.f110) (S:=((((zQ.none U).addB 146 (vI zB (uH [.d tI, .d tI, .clo 120 []]) (.tu []) qE)).addB 147 (vI zB (uH [.d tI, .d tI, .d tI, .clo 120 []]) (.tu []) qK)).add 120 (wI [zB,zB] (.p tI) zP))) (A:=xZ) (q7 (wH (wH qC (by kernel_rfl) zAf) (by kernel_rfl) zBp) (by kernel_rfl) jE) (by kernel_rfl) (by kernel_rfl) (by kernel_rfl) (by intro ty h;cases h) (by rintro ⟨⟩ a0 ⟨a1,⟨⟩,⟨⟩⟩;kernel_rfl)
theorem zBr:zBH U Tryz.prog G0 50 zB (uH [.clo 120 []]) (.tu []) qW:=
 vN (fn:=Tryz.f50) (c:=wQ Tryz.f50) (S:=(((zQ.none U).addB 110 (vI zB (uH [.d tI, .clo 120 []]) (.tu []) qR)).add 120 (wI [zB,zB] (.p tI) zP))) (A:=xE) (q7 (wH qC (by kernel_rfl) zCc) (by kernel_rfl) jE) (by kernel_rfl) (by kernel_rfl) (by kernel_rfl) (by intro ty h;cases h) (by rintro ⟨⟩ a0 ⟨⟨⟩,⟨⟩⟩;kernel_rfl)
noncomputable def zCj:Ent:=qCM (by kernel_rfl) zBr
end Go.Ve

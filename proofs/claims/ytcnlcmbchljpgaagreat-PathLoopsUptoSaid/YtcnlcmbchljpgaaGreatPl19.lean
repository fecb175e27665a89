/-
  Contracts: sorting of routes, comparisons, merging as the document has it.
-/
import Derived.Test.YtcnlcmbchljpgaaGreatPl16
import Derived.Test.YtcnlcmbchljpgaaGreatPl18
set_option linter.unusedVariables false
namespace Go.Ve
open Go Go.Proofs
set_option maxRecDepth 1000000
set_option maxHeartbeats 0
def zG7:Nat→Option JA:=fun k=>match k with
 |12=>some ⟨336,[],[.t 0 (.sl zA)]⟩
 |_=>none
theorem zF8:wL U Tryz.prog G0 119 (qN (j4 [(.sl zA)] (.o zA) yN)):=
 zSq (t:=zA) (bytes:=136)
  (vC (fn:=Tryz.f119) (c:=wC Tryz.f119) (S:=zP.none U) (A:=fun _=>none) zZ (by kernel_rfl) (by kernel_rfl) (enc:=fun q=>[.tl zA (q.1::q.2)]) (fun _ _ h=>zD9 h) (by rintro ⟨⟩ ⟨y,r⟩;kernel_rfl))
  (fun c=>vC (fn:=Tryz.f119) (c:=wC Tryz.f119) (S:=zP.none U) (A:=fun _=>none) zZ (by kernel_rfl) (by kernel_rfl) (enc:=fun _=>[.val (.slice none 0 c)]) (fun _ _ h=>yK h) (by rintro ⟨⟩ _;kernel_rfl))
  (fun a c=>vC (fn:=Tryz.f119) (c:=wC Tryz.f119) (S:=zP.none U) (A:=zG7) zZ (by kernel_rfl) (by kernel_rfl) (enc:=fun _=>[.val (.slice (some a) 0 c)]) (fun _ _ h=>yK h) (by rintro ⟨⟩ _;kernel_rfl))
noncomputable def zGX:Ent:=z6 (by kernel_rfl) zF8
theorem zHS:OkX 148 [tU] (.p .bool) zAh:=fX [] (A:=fun _=>none) (fn:=Tryz.f148) (by kernel_rfl) (by kernel_rfl) (by rintro ⟨⟩ ⟨a1,⟨⟩⟩;kernel_rfl)
noncomputable def zJa:Ent:=z6 (by kernel_rfl) zHS
theorem zGa:OkX 111 [tU,tU] (.p tI) wQ:=fX [zJa] (A:=fun _=>none) (fn:=Tryz.f111) (by kernel_rfl) (by kernel_rfl) (by rintro ⟨⟩ ⟨a1,a2,⟨⟩⟩;kernel_rfl)
noncomputable def x3:Ent:=z6 (by kernel_rfl) zGa
theorem zK9:OkX 149 [tI] (.p .bool) zCm:=fX [] (A:=fun _=>none) (fn:=Tryz.f149) (by kernel_rfl) (by kernel_rfl) (by rintro ⟨⟩ ⟨a1,⟨⟩⟩;kernel_rfl)
noncomputable def zMQ:Ent:=z6 (by kernel_rfl) zK9
theorem zIQ:OkX 112 [tI,tI] (.p tI) qA:=fX [zMQ] (A:=fun _=>none) (fn:=Tryz.f112) (by kernel_rfl) (by kernel_rfl) (by rintro ⟨⟩ ⟨a1,a2,⟨⟩⟩;kernel_rfl)
noncomputable def zBO:Ent:=z6 (by kernel_rfl) zIQ
theorem zMC:OkX 52 [zH,zH] (.p tI) zBQ:=fX [zBO,x3] (A:=fun _=>none) (fn:=Tryz.f52) (by kernel_rfl) (by kernel_rfl) (by rintro ⟨⟩ ⟨a1,a2,⟨⟩⟩;kernel_rfl)
noncomputable def zDF:Ent:=z6 (by kernel_rfl) zMC
theorem jP:OkX 51 [zA,zA] (.p tI) zM:=fX [zDF] (A:=fun _=>none) (fn:=Tryz.f51) (by kernel_rfl) (by kernel_rfl) (by rintro ⟨⟩ ⟨a1,a2,⟨⟩⟩;kernel_rfl)
def vQ:Nat→Option JA:=fun k=>match k with
 |18=>some ⟨393530540216230608896,[],[.t 34 .bool, .o 0 1000000 zA]⟩
 |17=>some ⟨27043212804868893898573428817921,[],[.t 9 tI, .o 0 1000000 zA]⟩
 |8=>some ⟨27043212804868893898590608687105,[],[.o 0 1000000 zA]⟩
 |5=>some ⟨27043212804868893898596329783297,[],[.t 8 tI, .o 0 1000000 zA]⟩
 |27=>some ⟨0,[(229376,28,0)],[]⟩
 |_=>none
theorem zAs:zBc U Tryz.prog G0 146 zA (kW [.d tI, .d tI, .clo 51 []]) (.tu []) z8:=
 vD (fn:=Tryz.f146) (c:=wC Tryz.f146) (S:=((zP.none U).add 51 (j4 [zA,zA] (.p tI) zM))) (A:=vQ) (qU zZ (by kernel_rfl) jP) (by kernel_rfl) (by kernel_rfl) (by kernel_rfl) (by intro ty h;cases h) (by rintro ⟨⟩ a0 ⟨a1,a2,⟨⟩,⟨⟩⟩;kernel_rfl)
def uG:Nat→Option JA:=fun k=>match k with
 |5=>some ⟨25185954575304774123520,[],[.t 10 tI, .o 0 1000000 zA]⟩
 |15=>some ⟨0,[(14680064,240,0)],[]⟩
 |_=>none
theorem zBB:zBc U Tryz.prog G0 214 zA (kW [.d tI, .d tI, .d tI, .clo 51 []]) (.tu []) qF:=
 vD (fn:=Tryz.f214) (c:=wC Tryz.f214) (S:=((zP.none U).add 51 (j4 [zA,zA] (.p tI) zM))) (A:=uG) (qU zZ (by kernel_rfl) jP) (by kernel_rfl) (by kernel_rfl) (by kernel_rfl) (by intro ty h;cases h) (by rintro ⟨⟩ a0 ⟨a1,a2,a3,⟨⟩,⟨⟩⟩;kernel_rfl)
def xB:Nat→Option JA:=fun k=>match k with
 |9=>some ⟨422550200076076467142666485760,[],[.t 10 tI, .t 11 tI, .o 0 1000000 zA]⟩
 |32=>some ⟨422550200076076467142666485761,[],[.o 0 1000000 zA, .t 10 tI]⟩
 |_=>none
theorem zCs:zBc U Tryz.prog G0 175 zA (kW [.d tI, .d tI, .d tI, .clo 51 []]) (.tu []) jM:=
 vD (fn:=Tryz.f175) (c:=wC Tryz.f175) (S:=(((zP.none U).addB 214 (w6 zA (kW [.d tI, .d tI, .d tI, .clo 51 []]) (.tu []) qF)).add 51 (j4 [zA,zA] (.p tI) zM))) (A:=xB) (qU (j3 zZ (by kernel_rfl) zBB) (by kernel_rfl) jP) (by kernel_rfl) (by kernel_rfl) (by kernel_rfl) (by intro ty h;cases h) (by rintro ⟨⟩ a0 ⟨a1,a2,a3,⟨⟩,⟨⟩⟩;kernel_rfl)
def yF:Nat→Option JA:=fun k=>match k with
 |13=>some ⟨108172851219474038365712553082880,[],[.t 10 tI, .t 11 tI, .o 0 1000000 zA]⟩
 |32=>some ⟨108172851219474038365712553082881,[],[.t 10 tI, .o 0 1000000 zA]⟩
 |37=>some ⟨7611987694431353340905980601428263186080989184,[],[.t 13 tI, .o 0 1000000 zA]⟩
 |48=>some ⟨95701492081623040,[],[.o 0 1000000 zA]⟩
 |61=>some ⟨8776024305713067712791572581043614347964826669341339950268809216,[],[.t 14 tI, .t 15 tI, .o 0 1000000 zA]⟩
 |80=>some ⟨8776024305713067712791572581043614347964826669341339950268809217,[],[.t 14 tI, .o 0 1000000 zA]⟩
 |85=>some ⟨154389452316386489800871794282684571128465422743414453687476595640149915729920,[],[.t 17 tI, .o 0 1000000 zA]⟩
 |96=>some ⟨1941056862080105438239268918451313385480535408640,[],[.o 0 1000000 zA]⟩
 |128=>some ⟨10609521904473526996625843805009119098832509500200937719156538760962199709100267794333696,[],[.t 20 tI, .t 21 tI, .o 0 1000000 zA]⟩
 |133=>some ⟨764499538663357000783942270560188457895047628941246953623496807634286739017790823158231204167849349218304,[],[.t 20 tI, .t 21 tI, .o 0 1000000 zA]⟩
 |152=>some ⟨764499538663357000783942270560188457895047628941246953623496807634286739017790823158231204167849349218305,[],[.t 20 tI, .o 0 1000000 zA]⟩
 |158=>some ⟨3206494545043399178952856477303941710188861580056390473475048204570069134601788840466531538732204519858288721920,[],[.t 185 .bool, .o 0 1000000 zA]⟩
 |164=>some ⟨13134002016536855929638154452350358835248725019828429120392767161680012016911382180583746179467909413919528016936961,[],[.o 0 1000000 zA]⟩
 |166=>some ⟨860736825360237398392235630987637243571966904363317682461330469415747792098356565806344646337960982173420788448252395520,[],[.t 199 .bool, .o 0 1000000 zA]⟩
 |172=>some ⟨3525631820413990462278721905415098845703620374116253412696311352147399751845086587235272251873726100892181250531248580853761,[],[.o 0 1000000 zA]⟩
 |174=>some ⟨231052282211567690305673438463614133840824004789675571764370446924310312152915541592820132832889286359930080426986164194503557120,[],[.t 213 .bool, .o 0 1000000 zA]⟩
 |95=>some ⟨0,[(229376,28,0)],[]⟩
 |47=>some ⟨0,[(229376,28,0)],[]⟩
 |_=>none
theorem zBG: ∀n,zBc U Tryz.prog G0 147 zA (kW [.d tI, .d tI, .d tI, .clo 51 []]) (.tu []) (z2 n):=by
 intro n
 induction n with
 |zero=>exact fun _ _ _ _ _ _ _ h=>by cases h
 |succ n ih=>exact vD (fn:=Tryz.f147) (c:=wC Tryz.f147) (S:=((((zP.none U).addB 175 (w6 zA (kW [.d tI, .d tI, .d tI, .clo 51 []]) (.tu []) jM)).add 51 (j4 [zA,zA] (.p tI) zM)).addB 147 (w6 zA (kW [.d tI, .d tI, .d tI, .clo 51 []]) (.tu []) (z2 n)))) (A:=yF) (j3 (qU (j3 zZ (by kernel_rfl) zCs) (by kernel_rfl) jP) (by kernel_rfl) ih) (by kernel_rfl) (by kernel_rfl) (by kernel_rfl) (by intro ty h;cases h) (by rintro ⟨⟩ a0 ⟨a1,a2,a3,⟨⟩,⟨⟩⟩;kernel_rfl)
theorem zBR:zBc U Tryz.prog G0 147 zA (kW [.d tI, .d tI, .d tI, .clo 51 []]) (.tu []) qH:=zBG _
def xA:Nat→Option JA:=fun k=>match k with
 |9=>some ⟨23456246743040,[],[.t 8 tI, .o 0 1000000 zA, .t 7 tI]⟩
 |24=>some ⟨23456246743041,[],[.o 0 1000000 zA, .t 7 tI]⟩
 |37=>some ⟨105637549994423458026445946880,[],[.t 8 tI, .o 0 1000000 zA, .t 7 tI]⟩
 |52=>some ⟨105637549994423458026445946881,[],[.t 7 tI, .o 0 1000000 zA]⟩
 |64=>some ⟨1772303888742337811519292622315454464,[],[.o 0 1000000 zA]⟩
 |29=>some ⟨28356863910078205288590531421301723137,[],[.t 6 tI, .o 0 1000000 zA]⟩
 |_=>none
theorem zCr:zBc U Tryz.prog G0 110 zA (kW [.d tI, .clo 51 []]) (.tu []) qO:=
 vD (fn:=Tryz.f110) (c:=wC Tryz.f110) (S:=((((zP.none U).addB 146 (w6 zA (kW [.d tI, .d tI, .clo 51 []]) (.tu []) z8)).addB 147 (w6 zA (kW [.d tI, .d tI, .d tI, .clo 51 []]) (.tu []) qH)).add 51 (j4 [zA,zA] (.p tI) zM))) (A:=xA) (qU (j3 (j3 zZ (by kernel_rfl) zAs) (by kernel_rfl) zBR) (by kernel_rfl) jP) (by kernel_rfl) (by kernel_rfl) (by kernel_rfl) (by intro ty h;cases h) (by rintro ⟨⟩ a0 ⟨a1,⟨⟩,⟨⟩⟩;kernel_rfl)
def yL:Nat→Option JA:=fun _=>none
theorem zCc:zBc U Tryz.prog G0 50 zA (kW [.clo 51 []]) (.tu []) qR:=
 vD (fn:=Tryz.f50) (c:=wC Tryz.f50) (S:=(((zP.none U).addB 110 (w6 zA (kW [.d tI, .clo 51 []]) (.tu []) qO)).add 51 (j4 [zA,zA] (.p tI) zM))) (A:=yL) (qU (j3 zZ (by kernel_rfl) zCr) (by kernel_rfl) jP) (by kernel_rfl) (by kernel_rfl) (by kernel_rfl) (by intro ty h;cases h) (by rintro ⟨⟩ a0 ⟨⟨⟩,⟨⟩⟩;kernel_rfl)
noncomputable def zCz:Ent:=zZ9 (by kernel_rfl) zCc
theorem zJV:OkX 120 [zA,zA] (.p tI) zNv:=fX [zDF] (A:=fun _=>none) (fn:=Tryz.f120) (by kernel_rfl) (by kernel_rfl) (by rintro ⟨⟩ ⟨a1,a2,⟨⟩⟩;kernel_rfl)
noncomputable def zLu:Ent:=z6 (by kernel_rfl) zJV
theorem zPe:OkX 163 [(.sl tI)] (.p tI) zAZ:=fX [] (A:=(jl [jj 13 5726602256 [] [.t 8 tI],jj 32 5726622736 [] []])) (fn:=Tryz.f163) (by kernel_rfl) (by kernel_rfl) (by rintro ⟨⟩ ⟨a1,⟨⟩⟩;kernel_rfl)
noncomputable def zKy:Ent:=z6 (by kernel_rfl) zPe
theorem zMr:OkX 180 [zA] (.p tI) zCX:=fX [] (A:=fun _=>none) (fn:=Tryz.f180) (by kernel_rfl) (by kernel_rfl) (by rintro ⟨⟩ ⟨a1,⟨⟩⟩;kernel_rfl)
noncomputable def zOo:Ent:=z6 (by kernel_rfl) zMr
theorem zMs:OkX 155 [zA,zA] (.p tI) yO:=fX [x3,zOo,zKy,zBO] (A:=(jl [jj 16 344064 [] [.t 7 .bool]])) (fn:=Tryz.f155) (by kernel_rfl) (by kernel_rfl) (by rintro ⟨⟩ ⟨a1,a2,⟨⟩⟩;kernel_rfl)
noncomputable def zOp:Ent:=z6 (by kernel_rfl) zMs
theorem zCv:OkX 157 [qQ,qQ] (.p tI) xJ:=fX [zKy,x3,zBO] (A:=fun _=>none) (fn:=Tryz.f157) (by kernel_rfl) (by kernel_rfl) (by rintro ⟨⟩ ⟨a1,a2,⟨⟩⟩;kernel_rfl)
noncomputable def zHU:Ent:=z6 (by kernel_rfl) zCv
theorem zMB:OkX 49 [tU,tI] (.p zH) zC6:=fX [zKz,zL4] (A:=fun _=>none) (fn:=Tryz.f49) (by kernel_rfl) (by kernel_rfl) (by rintro ⟨⟩ ⟨a1,a2,⟨⟩⟩;kernel_rfl)
noncomputable def zOv:Ent:=z6 (by kernel_rfl) zMB
theorem qZ:OkX 120 [zA,zA] (.p tI) zM:=fX [zDF] (A:=fun _=>none) (fn:=Tryz.f120) (by kernel_rfl) (by kernel_rfl) (by rintro ⟨⟩ ⟨a1,a2,⟨⟩⟩;kernel_rfl)
theorem xM:zBc U Tryz.prog G0 146 zA (kW [.d tI, .d tI, .clo 120 []]) (.tu []) z8:=
 vD (fn:=Tryz.f146) (c:=wC Tryz.f146) (S:=((zP.none U).add 120 (j4 [zA,zA] (.p tI) zM))) (A:=vQ) (qU zZ (by kernel_rfl) qZ) (by kernel_rfl) (by kernel_rfl) (by kernel_rfl) (by intro ty h;cases h) (by rintro ⟨⟩ a0 ⟨a1,a2,⟨⟩,⟨⟩⟩;kernel_rfl)
theorem zAC:zBc U Tryz.prog G0 214 zA (kW [.d tI, .d tI, .d tI, .clo 120 []]) (.tu []) qF:=
 vD (fn:=Tryz.f214) (c:=wC Tryz.f214) (S:=((zP.none U).add 120 (j4 [zA,zA] (.p tI) zM))) (A:=uG) (qU zZ (by kernel_rfl) qZ) (by kernel_rfl) (by kernel_rfl) (by kernel_rfl) (by intro ty h;cases h) (by rintro ⟨⟩ a0 ⟨a1,a2,a3,⟨⟩,⟨⟩⟩;kernel_rfl)
theorem zBD:zBc U Tryz.prog G0 175 zA (kW [.d tI, .d tI, .d tI, .clo 120 []]) (.tu []) jM:=
 vD (fn:=Tryz.f175) (c:=wC Tryz.f175) (S:=(((zP.none U).addB 214 (w6 zA (kW [.d tI, .d tI, .d tI, .clo 120 []]) (.tu []) qF)).add 120 (j4 [zA,zA] (.p tI) zM))) (A:=xB) (qU (j3 zZ (by kernel_rfl) zAC) (by kernel_rfl) qZ) (by kernel_rfl) (by kernel_rfl) (by kernel_rfl) (by intro ty h;cases h) (by rintro ⟨⟩ a0 ⟨a1,a2,a3,⟨⟩,⟨⟩⟩;kernel_rfl)
theorem zAD: ∀n,zBc U Tryz.prog G0 147 zA (kW [.d tI, .d tI, .d tI, .clo 120 []]) (.tu []) (z2 n):=by
 intro n
 induction n with
 |zero=>exact fun _ _ _ _ _ _ _ h=>by cases h
 |succ n ih=>exact vD (fn:=Tryz.f147) (c:=wC Tryz.f147) (S:=((((zP.none U).addB 175 (w6 zA (kW [.d tI, .d tI, .d tI, .clo 120 []]) (.tu []) jM)).add 120 (j4 [zA,zA] (.p tI) zM)).addB 147 (w6 zA (kW [.d tI, .d tI, .d tI, .clo 120 []]) (.tu []) (z2 n)))) (A:=yF) (j3 (qU (j3 zZ (by kernel_rfl) zBD) (by kernel_rfl) qZ) (by kernel_rfl) ih) (by kernel_rfl) (by kernel_rfl) (by kernel_rfl) (by intro ty h;cases h) (by rintro ⟨⟩ a0 ⟨a1,a2,a3,⟨⟩,⟨⟩⟩;kernel_rfl)
theorem zAT:zBc U Tryz.prog G0 147 zA (kW [.d tI, .d tI, .d tI, .clo 120 []]) (.tu []) qH:=zAD _
theorem zBC:zBc U Tryz.prog G0 110 zA (kW [.d tI, .clo 120 []]) (.tu []) qO:=
 vD (fn:=Tryz.f110) (c:=wC Tryz.f110) (S:=((((zP.none U).addB 146 (w6 zA (kW [.d tI, .d tI, .clo 120 []]) (.tu []) z8)).addB 147 (w6 zA (kW [.d tI, .d tI, .d tI, .clo 120 []]) (.tu []) qH)).add 120 (j4 [zA,zA] (.p tI) zM))) (A:=xA) (qU (j3 (j3 zZ (by kernel_rfl) xM) (by kernel_rfl) zAT) (by kernel_rfl) qZ) (by kernel_rfl) (by kernel_rfl) (by kernel_rfl) (by intro ty h;cases h) (by rintro ⟨⟩ a0 ⟨a1,⟨⟩,⟨⟩⟩;kernel_rfl)
theorem zAV:zBc U Tryz.prog G0 50 zA (kW [.clo 120 []]) (.tu []) qR:=
 vD (fn:=Tryz.f50) (c:=wC Tryz.f50) (S:=(((zP.none U).addB 110 (w6 zA (kW [.d tI, .clo 120 []]) (.tu []) qO)).add 120 (j4 [zA,zA] (.p tI) zM))) (A:=yL) (qU (j3 zZ (by kernel_rfl) zBC) (by kernel_rfl) qZ) (by kernel_rfl) (by kernel_rfl) (by kernel_rfl) (by intro ty h;cases h) (by rintro ⟨⟩ a0 ⟨⟨⟩,⟨⟩⟩;kernel_rfl)
noncomputable def zBJ:Ent:=zZ9 (by kernel_rfl) zAV
end Go.Ve

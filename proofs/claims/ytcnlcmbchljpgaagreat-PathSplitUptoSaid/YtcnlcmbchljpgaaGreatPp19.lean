/-
  Contracts: sorting of routes, comparisons, merging as the document has it.
-/
import Derived.Test.YtcnlcmbchljpgaaGreatPp16
import Derived.Test.YtcnlcmbchljpgaaGreatPp18
set_option linter.unusedVariables false
namespace Go.Ve
open Go Go.Proofs
set_option maxRecDepth 1000000
set_option maxHeartbeats 0
def zG4:Nat→Option JA:=fun k=>match k with
 |12=>some ⟨336,[],[.t 0 (.sl zA)]⟩
 |_=>none
theorem zF6:wL U Tryz.prog G0 119 (qN (j4 [(.sl zA)] (.o zA) yN)):=
 zSm (t:=zA) (bytes:=136)
  (vC (fn:=Tryz.f119) (c:=wC Tryz.f119) (S:=zP.none U) (A:=fun _=>none) zZ (by kernel_rfl) (by kernel_rfl) (enc:=fun q=>[.tl zA (q.1::q.2)]) (fun _ _ h=>zD8 h) (by rintro ⟨⟩ ⟨y,r⟩;kernel_rfl))
  (fun c=>vC (fn:=Tryz.f119) (c:=wC Tryz.f119) (S:=zP.none U) (A:=fun _=>none) zZ (by kernel_rfl) (by kernel_rfl) (enc:=fun _=>[.val (.slice none 0 c)]) (fun _ _ h=>yK h) (by rintro ⟨⟩ _;kernel_rfl))
  (fun a c=>vC (fn:=Tryz.f119) (c:=wC Tryz.f119) (S:=zP.none U) (A:=zG4) zZ (by kernel_rfl) (by kernel_rfl) (enc:=fun _=>[.val (.slice (some a) 0 c)]) (fun _ _ h=>yK h) (by rintro ⟨⟩ _;kernel_rfl))
noncomputable def zGV:Ent:=z8 (by kernel_rfl) zF6
theorem zHP:OkX 148 [tU] (.p .bool) zAh:=fX [] (A:=fun _=>none) (fn:=Tryz.f148) (by kernel_rfl) (by kernel_rfl) (by rintro ⟨⟩ ⟨a1,⟨⟩⟩;kernel_rfl)
noncomputable def zJa:Ent:=z8 (by kernel_rfl) zHP
theorem zF8:OkX 111 [tU,tU] (.p tI) wP:=fX [zJa] (A:=fun _=>none) (fn:=Tryz.f111) (by kernel_rfl) (by kernel_rfl) (by rintro ⟨⟩ ⟨a1,a2,⟨⟩⟩;kernel_rfl)
noncomputable def x3:Ent:=z8 (by kernel_rfl) zF8
theorem zK8:OkX 149 [tI] (.p .bool) zCm:=fX [] (A:=fun _=>none) (fn:=Tryz.f149) (by kernel_rfl) (by kernel_rfl) (by rintro ⟨⟩ ⟨a1,⟨⟩⟩;kernel_rfl)
noncomputable def zMP:Ent:=z8 (by kernel_rfl) zK8
theorem zIQ:OkX 112 [tI,tI] (.p tI) qA:=fX [zMP] (A:=fun _=>none) (fn:=Tryz.f112) (by kernel_rfl) (by kernel_rfl) (by rintro ⟨⟩ ⟨a1,a2,⟨⟩⟩;kernel_rfl)
noncomputable def zBN:Ent:=z8 (by kernel_rfl) zIQ
theorem zMB:OkX 52 [zH,zH] (.p tI) zBP:=fX [zBN,x3] (A:=fun _=>none) (fn:=Tryz.f52) (by kernel_rfl) (by kernel_rfl) (by rintro ⟨⟩ ⟨a1,a2,⟨⟩⟩;kernel_rfl)
noncomputable def zDE:Ent:=z8 (by kernel_rfl) zMB
theorem jQ:OkX 51 [zA,zA] (.p tI) zM:=fX [zDE] (A:=fun _=>none) (fn:=Tryz.f51) (by kernel_rfl) (by kernel_rfl) (by rintro ⟨⟩ ⟨a1,a2,⟨⟩⟩;kernel_rfl)
def vQ:Nat→Option JA:=fun k=>match k with
 |18=>some ⟨393530540216230608896,[],[.t 34 .bool, .o 0 1000000 zA]⟩
 |17=>some ⟨27043212804868893898573428817921,[],[.t 9 tI, .o 0 1000000 zA]⟩
 |8=>some ⟨27043212804868893898590608687105,[],[.o 0 1000000 zA]⟩
 |5=>some ⟨27043212804868893898596329783297,[],[.t 8 tI, .o 0 1000000 zA]⟩
 |27=>some ⟨0,[(229376,28,0)],[]⟩
 |_=>none
theorem zAs:zBc U Tryz.prog G0 146 zA (kU [.d tI, .d tI, .clo 51 []]) (.tu []) z7:=
 vD (fn:=Tryz.f146) (c:=wC Tryz.f146) (S:=((zP.none U).add 51 (j4 [zA,zA] (.p tI) zM))) (A:=vQ) (qT zZ (by kernel_rfl) jQ) (by kernel_rfl) (by kernel_rfl) (by kernel_rfl) (by intro ty h;cases h) (by rintro ⟨⟩ a0 ⟨a1,a2,⟨⟩,⟨⟩⟩;kernel_rfl)
def uF:Nat→Option JA:=fun k=>match k with
 |5=>some ⟨25185954575304774123520,[],[.t 10 tI, .o 0 1000000 zA]⟩
 |15=>some ⟨0,[(14680064,240,0)],[]⟩
 |_=>none
theorem zBA:zBc U Tryz.prog G0 214 zA (kU [.d tI, .d tI, .d tI, .clo 51 []]) (.tu []) qF:=
 vD (fn:=Tryz.f214) (c:=wC Tryz.f214) (S:=((zP.none U).add 51 (j4 [zA,zA] (.p tI) zM))) (A:=uF) (qT zZ (by kernel_rfl) jQ) (by kernel_rfl) (by kernel_rfl) (by kernel_rfl) (by intro ty h;cases h) (by rintro ⟨⟩ a0 ⟨a1,a2,a3,⟨⟩,⟨⟩⟩;kernel_rfl)
def xB:Nat→Option JA:=fun k=>match k with
 |9=>some ⟨422550200076076467142666485760,[],[.t 10 tI, .t 11 tI, .o 0 1000000 zA]⟩
 |32=>some ⟨422550200076076467142666485761,[],[.o 0 1000000 zA, .t 10 tI]⟩
 |_=>none
theorem zCs:zBc U Tryz.prog G0 175 zA (kU [.d tI, .d tI, .d tI, .clo 51 []]) (.tu []) jN:=
 vD (fn:=Tryz.f175) (c:=wC Tryz.f175) (S:=(((zP.none U).addB 214 (w6 zA (kU [.d tI, .d tI, .d tI, .clo 51 []]) (.tu []) qF)).add 51 (j4 [zA,zA] (.p tI) zM))) (A:=xB) (qT (j3 zZ (by kernel_rfl) zBA) (by kernel_rfl) jQ) (by kernel_rfl) (by kernel_rfl) (by kernel_rfl) (by intro ty h;cases h) (by rintro ⟨⟩ a0 ⟨a1,a2,a3,⟨⟩,⟨⟩⟩;kernel_rfl)
def yE:Nat→Option JA:=fun k=>match k with
 |13=>some ⟨108172851219474038365712553082880,[],[.t 10 tI, .t 11 tI, .o 0 1000000 zA]⟩
 |32=>some ⟨108172851219474038365712553082881,[],[.t 10 tI, .o 0 1000000 zA]⟩
 |37=>some ⟨7611987694431353340905980601428263186080989184,[],[.t 13 tI, .o 0 1000000 zA]⟩
 |48=>some ⟨95701492081623040,[],[.o 0 1000000 zA]⟩
 |61=>some ⟨8776024305713067712791572581043614347964826669341339950268809216,[],[.t 14 tI, .t 15 tI, .o 0 1000000 zA]⟩
 |80=>some ⟨8776024305713067712791572581043614347964826669341339950268809217,[],[.t 14 tI, .o 0 1000000 zA]⟩
 |85=>some ⟨154389452316386489800871794282684571128465422743414453687476595640149915729920,[],[.t 17 tI, .o 0 1000000 zA]⟩
 |96=>some ⟨1941056862080105438239268918451313385480535408640,[],[.o 0 1000000 zA]⟩
 |128=>some ⟨10609521904473526996625843805009119098832509500200937719156538760962199709100267794333696,[],[.t 20 tI, .t 21 tI, .o 0 1000000 zA]⟩
 |133=>some ⟨764499538663357000783942270560188457895047628941246953623496807634286739017790823158231204167849349218304,[],[.t 20 tI, .t 21 tI, .o 0 1000000 zA]⟩
 |152=>some ⟨764499538663357000783942270560188457895047628941246953623496807634286739017790823158231204167849349218305,[],[.t 20 tI, .o 0 1000000 zA]⟩
 |158=>some ⟨3206494545043399178952856477303941710188861580056390473475048204570069134601788840466531538732204519858288721920,[],[.t 185 .bool, .o 0 1000000 zA]⟩
 |164=>some ⟨13134002016536855929638154452350358835248725019828429120392767161680012016911382180583746179467909413919528016936961,[],[.o 0 1000000 zA]⟩
 |166=>some ⟨860736825360237398392235630987637243571966904363317682461330469415747792098356565806344646337960982173420788448252395520,[],[.t 199 .bool, .o 0 1000000 zA]⟩
 |172=>some ⟨3525631820413990462278721905415098845703620374116253412696311352147399751845086587235272251873726100892181250531248580853761,[],[.o 0 1000000 zA]⟩
 |174=>some ⟨231052282211567690305673438463614133840824004789675571764370446924310312152915541592820132832889286359930080426986164194503557120,[],[.t 213 .bool, .o 0 1000000 zA]⟩
 |95=>some ⟨0,[(229376,28,0)],[]⟩
 |47=>some ⟨0,[(229376,28,0)],[]⟩
 |_=>none
theorem zBF: ∀n,zBc U Tryz.prog G0 147 zA (kU [.d tI, .d tI, .d tI, .clo 51 []]) (.tu []) (z2 n):=by
 intro n
 induction n with
 |zero=>exact fun _ _ _ _ _ _ _ h=>by cases h
 |succ n ih=>exact vD (fn:=Tryz.f147) (c:=wC Tryz.f147) (S:=((((zP.none U).addB 175 (w6 zA (kU [.d tI, .d tI, .d tI, .clo 51 []]) (.tu []) jN)).add 51 (j4 [zA,zA] (.p tI) zM)).addB 147 (w6 zA (kU [.d tI, .d tI, .d tI, .clo 51 []]) (.tu []) (z2 n)))) (A:=yE) (j3 (qT (j3 zZ (by kernel_rfl) zCs) (by kernel_rfl) jQ) (by kernel_rfl) ih) (by kernel_rfl) (by kernel_rfl) (by kernel_rfl) (by intro ty h;cases h) (by rintro ⟨⟩ a0 ⟨a1,a2,a3,⟨⟩,⟨⟩⟩;kernel_rfl)
theorem zBQ:zBc U Tryz.prog G0 147 zA (kU [.d tI, .d tI, .d tI, .clo 51 []]) (.tu []) qH:=zBF _
def xA:Nat→Option JA:=fun k=>match k with
 |9=>some ⟨23456246743040,[],[.t 8 tI, .o 0 1000000 zA, .t 7 tI]⟩
 |24=>some ⟨23456246743041,[],[.o 0 1000000 zA, .t 7 tI]⟩
 |37=>some ⟨105637549994423458026445946880,[],[.t 8 tI, .o 0 1000000 zA, .t 7 tI]⟩
 |52=>some ⟨105637549994423458026445946881,[],[.t 7 tI, .o 0 1000000 zA]⟩
 |64=>some ⟨1772303888742337811519292622315454464,[],[.o 0 1000000 zA]⟩
 |29=>some ⟨28356863910078205288590531421301723137,[],[.t 6 tI, .o 0 1000000 zA]⟩
 |_=>none
theorem zCr:zBc U Tryz.prog G0 110 zA (kU [.d tI, .clo 51 []]) (.tu []) qO:=
 vD (fn:=Tryz.f110) (c:=wC Tryz.f110) (S:=((((zP.none U).addB 146 (w6 zA (kU [.d tI, .d tI, .clo 51 []]) (.tu []) z7)).addB 147 (w6 zA (kU [.d tI, .d tI, .d tI, .clo 51 []]) (.tu []) qH)).add 51 (j4 [zA,zA] (.p tI) zM))) (A:=xA) (qT (j3 (j3 zZ (by kernel_rfl) zAs) (by kernel_rfl) zBQ) (by kernel_rfl) jQ) (by kernel_rfl) (by kernel_rfl) (by kernel_rfl) (by intro ty h;cases h) (by rintro ⟨⟩ a0 ⟨a1,⟨⟩,⟨⟩⟩;kernel_rfl)
def yL:Nat→Option JA:=fun _=>none
theorem zCc:zBc U Tryz.prog G0 50 zA (kU [.clo 51 []]) (.tu []) qR:=
 vD (fn:=Tryz.f50) (c:=wC Tryz.f50) (S:=(((zP.none U).addB 110 (w6 zA (kU [.d tI, .clo 51 []]) (.tu []) qO)).add 51 (j4 [zA,zA] (.p tI) zM))) (A:=yL) (qT (j3 zZ (by kernel_rfl) zCr) (by kernel_rfl) jQ) (by kernel_rfl) (by kernel_rfl) (by kernel_rfl) (by intro ty h;cases h) (by rintro ⟨⟩ a0 ⟨⟨⟩,⟨⟩⟩;kernel_rfl)
noncomputable def zCz:Ent:=zZ4 (by kernel_rfl) zCc
theorem zJU:OkX 120 [zA,zA] (.p tI) zNu:=fX [zDE] (A:=fun _=>none) (fn:=Tryz.f120) (by kernel_rfl) (by kernel_rfl) (by rintro ⟨⟩ ⟨a1,a2,⟨⟩⟩;kernel_rfl)
noncomputable def zLt:Ent:=z8 (by kernel_rfl) zJU
theorem zPe:OkX 163 [(.sl tI)] (.p tI) zAZ:=fX [] (A:=(jl [jj 13 5726602256 [] [.t 8 tI],jj 32 5726622736 [] []])) (fn:=Tryz.f163) (by kernel_rfl) (by kernel_rfl) (by rintro ⟨⟩ ⟨a1,⟨⟩⟩;kernel_rfl)
noncomputable def zKx:Ent:=z8 (by kernel_rfl) zPe
theorem zMq:OkX 180 [zA] (.p tI) zCW:=fX [] (A:=fun _=>none) (fn:=Tryz.f180) (by kernel_rfl) (by kernel_rfl) (by rintro ⟨⟩ ⟨a1,⟨⟩⟩;kernel_rfl)
noncomputable def zOo:Ent:=z8 (by kernel_rfl) zMq
theorem zMr:OkX 155 [zA,zA] (.p tI) yO:=fX [x3,zOo,zKx,zBN] (A:=(jl [jj 16 344064 [] [.t 7 .bool]])) (fn:=Tryz.f155) (by kernel_rfl) (by kernel_rfl) (by rintro ⟨⟩ ⟨a1,a2,⟨⟩⟩;kernel_rfl)
noncomputable def zOp:Ent:=z8 (by kernel_rfl) zMr
theorem zCv:OkX 157 [qQ,qQ] (.p tI) xJ:=fX [zKx,x3,zBN] (A:=fun _=>none) (fn:=Tryz.f157) (by kernel_rfl) (by kernel_rfl) (by rintro ⟨⟩ ⟨a1,a2,⟨⟩⟩;kernel_rfl)
noncomputable def zHR:Ent:=z8 (by kernel_rfl) zCv
theorem zMA:OkX 49 [tU,tI] (.p zH) zC5:=fX [zKy,zL3] (A:=fun _=>none) (fn:=Tryz.f49) (by kernel_rfl) (by kernel_rfl) (by rintro ⟨⟩ ⟨a1,a2,⟨⟩⟩;kernel_rfl)
noncomputable def zOv:Ent:=z8 (by kernel_rfl) zMA
theorem qZ:OkX 120 [zA,zA] (.p tI) zM:=fX [zDE] (A:=fun _=>none) (fn:=Tryz.f120) (by kernel_rfl) (by kernel_rfl) (by rintro ⟨⟩ ⟨a1,a2,⟨⟩⟩;kernel_rfl)
theorem xN:zBc U Tryz.prog G0 146 zA (kU [.d tI, .d tI, .clo 120 []]) (.tu []) z7:=
 vD (fn:=Tryz.f146) (c:=wC Tryz.f146) (S:=((zP.none U).add 120 (j4 [zA,zA] (.p tI) zM))) (A:=vQ) (qT zZ (by kernel_rfl) qZ) (by kernel_rfl) (by kernel_rfl) (by kernel_rfl) (by intro ty h;cases h) (by rintro ⟨⟩ a0 ⟨a1,a2,⟨⟩,⟨⟩⟩;kernel_rfl)
theorem zAC:zBc U Tryz.prog G0 214 zA (kU [.d tI, .d tI, .d tI, .clo 120 []]) (.tu []) qF:=
 vD (fn:=Tryz.f214) (c:=wC Tryz.f214) (S:=((zP.none U).add 120 (j4 [zA,zA] (.p tI) zM))) (A:=uF) (qT zZ (by kernel_rfl) qZ) (by kernel_rfl) (by kernel_rfl) (by kernel_rfl) (by intro ty h;cases h) (by rintro ⟨⟩ a0 ⟨a1,a2,a3,⟨⟩,⟨⟩⟩;kernel_rfl)
theorem zBC:zBc U Tryz.prog G0 175 zA (kU [.d tI, .d tI, .d tI, .clo 120 []]) (.tu []) jN:=
 vD (fn:=Tryz.f175) (c:=wC Tryz.f175) (S:=(((zP.none U).addB 214 (w6 zA (kU [.d tI, .d tI, .d tI, .clo 120 []]) (.tu []) qF)).add 120 (j4 [zA,zA] (.p tI) zM))) (A:=xB) (qT (j3 zZ (by kernel_rfl) zAC) (by kernel_rfl) qZ) (by kernel_rfl) (by kernel_rfl) (by kernel_rfl) (by intro ty h;cases h) (by rintro ⟨⟩ a0 ⟨a1,a2,a3,⟨⟩,⟨⟩⟩;kernel_rfl)
theorem zAD: ∀n,zBc U Tryz.prog G0 147 zA (kU [.d tI, .d tI, .d tI, .clo 120 []]) (.tu []) (z2 n):=by
 intro n
 induction n with
 |zero=>exact fun _ _ _ _ _ _ _ h=>by cases h
 |succ n ih=>exact vD (fn:=Tryz.f147) (c:=wC Tryz.f147) (S:=((((zP.none U).addB 175 (w6 zA (kU [.d tI, .d tI, .d tI, .clo 120 []]) (.tu []) jN)).add 120 (j4 [zA,zA] (.p tI) zM)).addB 147 (w6 zA (kU [.d tI, .d tI, .d tI, .clo 120 []]) (.tu []) (z2 n)))) (A:=yE) (j3 (qT (j3 zZ (by kernel_rfl) zBC) (by kernel_rfl) qZ) (by kernel_rfl) ih) (by kernel_rfl) (by kernel_rfl) (by kernel_rfl) (by intro ty h;cases h) (by rintro ⟨⟩ a0 ⟨a1,a2,a3,⟨⟩,⟨⟩⟩;kernel_rfl)
theorem zAT:zBc U Tryz.prog G0 147 zA (kU [.d tI, .d tI, .d tI, .clo 120 []]) (.tu []) qH:=zAD _
theorem zBB:zBc U Tryz.prog G0 110 zA (kU [.d tI, .clo 120 []]) (.tu []) qO:=
 vD (fn:=Tryz.f110) (c:=wC Tryz.f110) (S:=((((zP.none U).addB 146 (w6 zA (kU [.d tI, .d tI, .clo 120 []]) (.tu []) z7)).addB 147 (w6 zA (kU [.d tI, .d tI, .d tI, .clo 120 []]) (.tu []) qH)).add 120 (j4 [zA,zA] (.p tI) zM))) (A:=xA) (qT (j3 (j3 zZ (by kernel_rfl) xN) (by kernel_rfl) zAT) (by kernel_rfl) qZ) (by kernel_rfl) (by kernel_rfl) (by kernel_rfl) (by intro ty h;cases h) (by rintro ⟨⟩ a0 ⟨a1,⟨⟩,⟨⟩⟩;kernel_rfl)
theorem zAV:zBc U Tryz.prog G0 50 zA (kU [.clo 120 []]) (.tu []) qR:=
 vD (fn:=Tryz.f50) (c:=wC Tryz.f50) (S:=(((zP.none U).addB 110 (w6 zA (kU [.d tI, .clo 120 []]) (.tu []) qO)).add 120 (j4 [zA,zA] (.p tI) zM))) (A:=yL) (qT (j3 zZ (by kernel_rfl) zBB) (by kernel_rfl) qZ) (by kernel_rfl) (by kernel_rfl) (by kernel_rfl) (by intro ty h;cases h) (by rintro ⟨⟩ a0 ⟨⟨⟩,⟨⟩⟩;kernel_rfl)
noncomputable def zBI:Ent:=zZ4 (by kernel_rfl) zAV
end Go.Ve

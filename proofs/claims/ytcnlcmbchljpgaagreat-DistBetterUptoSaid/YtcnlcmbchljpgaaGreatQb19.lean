/-
  Contracts: sorting of routes, comparisons, merging as the document has it.
-/
import Derived.Test.YtcnlcmbchljpgaaGreatQb16
import Derived.Test.YtcnlcmbchljpgaaGreatQb17
set_option linter.unusedVariables false
namespace Go.Ve
open Go Go.Proofs
set_option maxRecDepth 1000000
set_option maxHeartbeats 0
def zFu:Nat→Option JA:=fun k=>match k with
 |12=>some ⟨336,[],[.t 0 (.sl zA)]⟩
 |_=>none
theorem zEC:j7 U Tryz.prog G0 119 (qG (jV [(.sl zA)] (.o zA) uA)):=
 zP5 (t:=zA) (bytes:=136)
  (zA7 (fn:=Tryz.f119) (c:=w7 Tryz.f119) (S:=zQ.none U) (A:=fun _=>none) qC (by kernel_rfl) (by kernel_rfl) (enc:=fun q=>[.tl zA (q.1::q.2)]) (fun _ _ h=>zJY h) (by rintro ⟨⟩ ⟨y,r⟩;kernel_rfl))
  (fun c=>zA7 (fn:=Tryz.f119) (c:=w7 Tryz.f119) (S:=zQ.none U) (A:=fun _=>none) qC (by kernel_rfl) (by kernel_rfl) (enc:=fun _=>[.val (.slice none 0 c)]) (fun _ _ h=>zCO h) (by rintro ⟨⟩ _;kernel_rfl))
  (fun a c=>zA7 (fn:=Tryz.f119) (c:=w7 Tryz.f119) (S:=zQ.none U) (A:=zFu) qC (by kernel_rfl) (by kernel_rfl) (enc:=fun _=>[.val (.slice (some a) 0 c)]) (fun _ _ h=>zCO h) (by rintro ⟨⟩ _;kernel_rfl))
noncomputable def zFi:Ent:=qJ (by kernel_rfl) zEC
theorem zF9:OkX 148 [tU] (.p .bool) yX:=fX [] (A:=fun _=>none) (fn:=Tryz.f148) (by kernel_rfl) (by kernel_rfl) (by rintro ⟨⟩ ⟨a1,⟨⟩⟩;kernel_rfl)
noncomputable def zHd:Ent:=qJ (by kernel_rfl) zF9
theorem zEF:OkX 111 [tU,tU] (.p tI) wA:=fX [zHd] (A:=fun _=>none) (fn:=Tryz.f111) (by kernel_rfl) (by kernel_rfl) (by rintro ⟨⟩ ⟨a1,a2,⟨⟩⟩;kernel_rfl)
noncomputable def yJ:Ent:=qJ (by kernel_rfl) zEF
theorem zI4:OkX 149 [tI] (.p .bool) zBk:=fX [] (A:=fun _=>none) (fn:=Tryz.f149) (by kernel_rfl) (by kernel_rfl) (by rintro ⟨⟩ ⟨a1,⟨⟩⟩;kernel_rfl)
noncomputable def zKC:Ent:=qJ (by kernel_rfl) zI4
theorem zGX:OkX 112 [tI,tI] (.p tI) zY:=fX [zKC] (A:=fun _=>none) (fn:=Tryz.f112) (by kernel_rfl) (by kernel_rfl) (by rintro ⟨⟩ ⟨a1,a2,⟨⟩⟩;kernel_rfl)
noncomputable def zAR:Ent:=qJ (by kernel_rfl) zGX
theorem zKm:OkX 52 [zF,zF] (.p tI) zAU:=fX [zAR,yJ] (A:=fun _=>none) (fn:=Tryz.f52) (by kernel_rfl) (by kernel_rfl) (by rintro ⟨⟩ ⟨a1,a2,⟨⟩⟩;kernel_rfl)
noncomputable def zCm:Ent:=qJ (by kernel_rfl) zKm
theorem qW:OkX 51 [zA,zA] (.p tI) zJ:=fX [zCm] (A:=fun _=>none) (fn:=Tryz.f51) (by kernel_rfl) (by kernel_rfl) (by rintro ⟨⟩ ⟨a1,a2,⟨⟩⟩;kernel_rfl)
noncomputable def zEH:Ent:=qJ (by kernel_rfl) qW
def wW:Nat→Option JA:=fun k=>match k with
 |18=>some ⟨393530540216230608896,[],[.t 34 .bool, .o 0 1000000 zA]⟩
 |17=>some ⟨27043212804868893898573428817921,[],[.t 9 tI, .o 0 1000000 zA]⟩
 |8=>some ⟨27043212804868893898590608687105,[],[.o 0 1000000 zA]⟩
 |5=>some ⟨27043212804868893898596329783297,[],[.t 8 tI, .o 0 1000000 zA]⟩
 |27=>some ⟨0,[(229376,28,0)],[]⟩
 |_=>none
theorem xE:zAp U Tryz.prog G0 146 zA (vX [.d tI, .d tI, .clo 51 []]) (.tu []) zX:=
 wK (fn:=Tryz.f146) (c:=w7 Tryz.f146) (S:=((zQ.none U).add 51 (jV [zA,zA] (.p tI) zJ))) (A:=wW) (qU qC (by kernel_rfl) qW) (by kernel_rfl) (by kernel_rfl) (by kernel_rfl) (by intro ty h;cases h) (by rintro ⟨⟩ a0 ⟨a1,a2,⟨⟩,⟨⟩⟩;kernel_rfl)
def vW:Nat→Option JA:=fun k=>match k with
 |5=>some ⟨25185954575304774123520,[],[.t 10 tI, .o 0 1000000 zA]⟩
 |15=>some ⟨0,[(14680064,240,0)],[]⟩
 |_=>none
theorem zAG:zAp U Tryz.prog G0 214 zA (vX [.d tI, .d tI, .d tI, .clo 51 []]) (.tu []) z8:=
 wK (fn:=Tryz.f214) (c:=w7 Tryz.f214) (S:=((zQ.none U).add 51 (jV [zA,zA] (.p tI) zJ))) (A:=vW) (qU qC (by kernel_rfl) qW) (by kernel_rfl) (by kernel_rfl) (by kernel_rfl) (by intro ty h;cases h) (by rintro ⟨⟩ a0 ⟨a1,a2,a3,⟨⟩,⟨⟩⟩;kernel_rfl)
def uK:Nat→Option JA:=fun k=>match k with
 |9=>some ⟨422550200076076467142666485760,[],[.t 10 tI, .t 11 tI, .o 0 1000000 zA]⟩
 |32=>some ⟨422550200076076467142666485761,[],[.o 0 1000000 zA, .t 10 tI]⟩
 |_=>none
theorem zBq:zAp U Tryz.prog G0 175 zA (vX [.d tI, .d tI, .d tI, .clo 51 []]) (.tu []) jL:=
 wK (fn:=Tryz.f175) (c:=w7 Tryz.f175) (S:=(((zQ.none U).addB 214 (wH zA (vX [.d tI, .d tI, .d tI, .clo 51 []]) (.tu []) z8)).add 51 (jV [zA,zA] (.p tI) zJ))) (A:=uK) (qU (jW qC (by kernel_rfl) zAG) (by kernel_rfl) qW) (by kernel_rfl) (by kernel_rfl) (by kernel_rfl) (by intro ty h;cases h) (by rintro ⟨⟩ a0 ⟨a1,a2,a3,⟨⟩,⟨⟩⟩;kernel_rfl)
def kR:Nat→Option JA:=fun k=>match k with
 |13=>some ⟨108172851219474038365712553082880,[],[.t 10 tI, .t 11 tI, .o 0 1000000 zA]⟩
 |32=>some ⟨108172851219474038365712553082881,[],[.t 10 tI, .o 0 1000000 zA]⟩
 |37=>some ⟨7611987694431353340905980601428263186080989184,[],[.t 13 tI, .o 0 1000000 zA]⟩
 |48=>some ⟨95701492081623040,[],[.o 0 1000000 zA]⟩
 |61=>some ⟨8776024305713067712791572581043614347964826669341339950268809216,[],[.t 14 tI, .t 15 tI, .o 0 1000000 zA]⟩
 |80=>some ⟨8776024305713067712791572581043614347964826669341339950268809217,[],[.t 14 tI, .o 0 1000000 zA]⟩
 |85=>some ⟨154389452316386489800871794282684571128465422743414453687476595640149915729920,[],[.t 17 tI, .o 0 1000000 zA]⟩
 |96=>some ⟨1941056862080105438239268918451313385480535408640,[],[.o 0 1000000 zA]⟩
 |128=>some ⟨10609521904473526996625843805009119098832509500200937719156538760962199709100267794333696,[],[.t 20 tI, .t 21 tI, .o 0 1000000 zA]⟩
 |133=>some ⟨764499538663357000783942270560188457895047628941246953623496807634286739017790823158231204167849349218304,[],[.t 20 tI, .t 21 tI, .o 0 1000000 zA]⟩
 |152=>some ⟨764499538663357000783942270560188457895047628941246953623496807634286739017790823158231204167849349218305,[],[.t 20 tI, .o 0 1000000 zA]⟩
 |158=>some ⟨3206494545043399178952856477303941710188861580056390473475048204570069134601788840466531538732204519858288721920,[],[.t 185 .bool, .o 0 1000000 zA]⟩
 |164=>some ⟨13134002016536855929638154452350358835248725019828429120392767161680012016911382180583746179467909413919528016936961,[],[.o 0 1000000 zA]⟩
 |166=>some ⟨860736825360237398392235630987637243571966904363317682461330469415747792098356565806344646337960982173420788448252395520,[],[.t 199 .bool, .o 0 1000000 zA]⟩
 |172=>some ⟨3525631820413990462278721905415098845703620374116253412696311352147399751845086587235272251873726100892181250531248580853761,[],[.o 0 1000000 zA]⟩
 |174=>some ⟨231052282211567690305673438463614133840824004789675571764370446924310312152915541592820132832889286359930080426986164194503557120,[],[.t 213 .bool, .o 0 1000000 zA]⟩
 |95=>some ⟨0,[(229376,28,0)],[]⟩
 |47=>some ⟨0,[(229376,28,0)],[]⟩
 |_=>none
theorem zAJ: ∀n,zAp U Tryz.prog G0 147 zA (vX [.d tI, .d tI, .d tI, .clo 51 []]) (.tu []) (zW n):=by
 intro n
 induction n with
 |zero=>exact fun _ _ _ _ _ _ _ h=>by cases h
 |succ n ih=>exact wK (fn:=Tryz.f147) (c:=w7 Tryz.f147) (S:=((((zQ.none U).addB 175 (wH zA (vX [.d tI, .d tI, .d tI, .clo 51 []]) (.tu []) jL)).add 51 (jV [zA,zA] (.p tI) zJ)).addB 147 (wH zA (vX [.d tI, .d tI, .d tI, .clo 51 []]) (.tu []) (zW n)))) (A:=kR) (jW (qU (jW qC (by kernel_rfl) zBq) (by kernel_rfl) qW) (by kernel_rfl) ih) (by kernel_rfl) (by kernel_rfl) (by kernel_rfl) (by intro ty h;cases h) (by rintro ⟨⟩ a0 ⟨a1,a2,a3,⟨⟩,⟨⟩⟩;kernel_rfl)
theorem zAV:zAp U Tryz.prog G0 147 zA (vX [.d tI, .d tI, .d tI, .clo 51 []]) (.tu []) qB:=zAJ _
def uJ:Nat→Option JA:=fun k=>match k with
 |9=>some ⟨23456246743040,[],[.t 8 tI, .o 0 1000000 zA, .t 7 tI]⟩
 |24=>some ⟨23456246743041,[],[.o 0 1000000 zA, .t 7 tI]⟩
 |37=>some ⟨105637549994423458026445946880,[],[.t 8 tI, .o 0 1000000 zA, .t 7 tI]⟩
 |52=>some ⟨105637549994423458026445946881,[],[.t 7 tI, .o 0 1000000 zA]⟩
 |64=>some ⟨1772303888742337811519292622315454464,[],[.o 0 1000000 zA]⟩
 |29=>some ⟨28356863910078205288590531421301723137,[],[.t 6 tI, .o 0 1000000 zA]⟩
 |_=>none
theorem zBp:zAp U Tryz.prog G0 110 zA (vX [.d tI, .clo 51 []]) (.tu []) qI:=
 wK (fn:=Tryz.f110) (c:=w7 Tryz.f110) (S:=((((zQ.none U).addB 146 (wH zA (vX [.d tI, .d tI, .clo 51 []]) (.tu []) zX)).addB 147 (wH zA (vX [.d tI, .d tI, .d tI, .clo 51 []]) (.tu []) qB)).add 51 (jV [zA,zA] (.p tI) zJ))) (A:=uJ) (qU (jW (jW qC (by kernel_rfl) xE) (by kernel_rfl) zAV) (by kernel_rfl) qW) (by kernel_rfl) (by kernel_rfl) (by kernel_rfl) (by intro ty h;cases h) (by rintro ⟨⟩ a0 ⟨a1,⟨⟩,⟨⟩⟩;kernel_rfl)
def kX:Nat→Option JA:=fun _=>none
theorem zA6:zAp U Tryz.prog G0 50 zA (vX [.clo 51 []]) (.tu []) qE:=
 wK (fn:=Tryz.f50) (c:=w7 Tryz.f50) (S:=(((zQ.none U).addB 110 (wH zA (vX [.d tI, .clo 51 []]) (.tu []) qI)).add 51 (jV [zA,zA] (.p tI) zJ))) (A:=kX) (qU (jW qC (by kernel_rfl) zBp) (by kernel_rfl) qW) (by kernel_rfl) (by kernel_rfl) (by kernel_rfl) (by intro ty h;cases h) (by rintro ⟨⟩ a0 ⟨⟨⟩,⟨⟩⟩;kernel_rfl)
noncomputable def kW:Ent:=zW5 (by kernel_rfl) zA6
theorem zHY:OkX 120 [zA,zA] (.p tI) zLe:=fX [zCm] (A:=fun _=>none) (fn:=Tryz.f120) (by kernel_rfl) (by kernel_rfl) (by rintro ⟨⟩ ⟨a1,a2,⟨⟩⟩;kernel_rfl)
noncomputable def zJn:Ent:=qJ (by kernel_rfl) zHY
theorem zMQ:OkX 163 [(.sl tI)] (.p tI) zAb:=fX [] (A:=(jl [jj 13 5726602256 [] [.t 8 tI],jj 32 5726622736 [] []])) (fn:=Tryz.f163) (by kernel_rfl) (by kernel_rfl) (by rintro ⟨⟩ ⟨a1,⟨⟩⟩;kernel_rfl)
noncomputable def zIu:Ent:=qJ (by kernel_rfl) zMQ
theorem zKe:OkX 180 [zA] (.p tI) zDJ:=fX [] (A:=fun _=>none) (fn:=Tryz.f180) (by kernel_rfl) (by kernel_rfl) (by rintro ⟨⟩ ⟨a1,⟨⟩⟩;kernel_rfl)
noncomputable def zMb:Ent:=qJ (by kernel_rfl) zKe
theorem zKf:OkX 155 [zA,zA] (.p tI) uB:=fX [yJ,zMb,zIu,zAR] (A:=(jl [jj 16 344064 [] [.t 7 .bool]])) (fn:=Tryz.f155) (by kernel_rfl) (by kernel_rfl) (by rintro ⟨⟩ ⟨a1,a2,⟨⟩⟩;kernel_rfl)
noncomputable def zMc:Ent:=qJ (by kernel_rfl) zKf
theorem zBr:OkX 157 [jJ,jJ] (.p tI) uS:=fX [zIu,yJ,zAR] (A:=fun _=>none) (fn:=Tryz.f157) (by kernel_rfl) (by kernel_rfl) (by rintro ⟨⟩ ⟨a1,a2,⟨⟩⟩;kernel_rfl)
noncomputable def zGc:Ent:=qJ (by kernel_rfl) zBr
theorem zKl:OkX 49 [tU,tI] (.p zF) zBW:=fX [zIv,zJV] (A:=fun _=>none) (fn:=Tryz.f49) (by kernel_rfl) (by kernel_rfl) (by rintro ⟨⟩ ⟨a1,a2,⟨⟩⟩;kernel_rfl)
noncomputable def zMj:Ent:=qJ (by kernel_rfl) zKl
theorem qS:OkX 120 [zA,zA] (.p tI) zJ:=fX [zCm] (A:=fun _=>none) (fn:=Tryz.f120) (by kernel_rfl) (by kernel_rfl) (by rintro ⟨⟩ ⟨a1,a2,⟨⟩⟩;kernel_rfl)
theorem uZ:zAp U Tryz.prog G0 146 zA (vX [.d tI, .d tI, .clo 120 []]) (.tu []) zX:=
 wK (fn:=Tryz.f146) (c:=w7 Tryz.f146) (S:=((zQ.none U).add 120 (jV [zA,zA] (.p tI) zJ))) (A:=wW) (qU qC (by kernel_rfl) qS) (by kernel_rfl) (by kernel_rfl) (by kernel_rfl) (by intro ty h;cases h) (by rintro ⟨⟩ a0 ⟨a1,a2,⟨⟩,⟨⟩⟩;kernel_rfl)
theorem xO:zAp U Tryz.prog G0 214 zA (vX [.d tI, .d tI, .d tI, .clo 120 []]) (.tu []) z8:=
 wK (fn:=Tryz.f214) (c:=w7 Tryz.f214) (S:=((zQ.none U).add 120 (jV [zA,zA] (.p tI) zJ))) (A:=vW) (qU qC (by kernel_rfl) qS) (by kernel_rfl) (by kernel_rfl) (by kernel_rfl) (by intro ty h;cases h) (by rintro ⟨⟩ a0 ⟨a1,a2,a3,⟨⟩,⟨⟩⟩;kernel_rfl)
theorem zAI:zAp U Tryz.prog G0 175 zA (vX [.d tI, .d tI, .d tI, .clo 120 []]) (.tu []) jL:=
 wK (fn:=Tryz.f175) (c:=w7 Tryz.f175) (S:=(((zQ.none U).addB 214 (wH zA (vX [.d tI, .d tI, .d tI, .clo 120 []]) (.tu []) z8)).add 120 (jV [zA,zA] (.p tI) zJ))) (A:=uK) (qU (jW qC (by kernel_rfl) xO) (by kernel_rfl) qS) (by kernel_rfl) (by kernel_rfl) (by kernel_rfl) (by intro ty h;cases h) (by rintro ⟨⟩ a0 ⟨a1,a2,a3,⟨⟩,⟨⟩⟩;kernel_rfl)
theorem xP: ∀n,zAp U Tryz.prog G0 147 zA (vX [.d tI, .d tI, .d tI, .clo 120 []]) (.tu []) (zW n):=by
 intro n
 induction n with
 |zero=>exact fun _ _ _ _ _ _ _ h=>by cases h
 |succ n ih=>exact wK (fn:=Tryz.f147) (c:=w7 Tryz.f147) (S:=((((zQ.none U).addB 175 (wH zA (vX [.d tI, .d tI, .d tI, .clo 120 []]) (.tu []) jL)).add 120 (jV [zA,zA] (.p tI) zJ)).addB 147 (wH zA (vX [.d tI, .d tI, .d tI, .clo 120 []]) (.tu []) (zW n)))) (A:=kR) (jW (qU (jW qC (by kernel_rfl) zAI) (by kernel_rfl) qS) (by kernel_rfl) ih) (by kernel_rfl) (by kernel_rfl) (by kernel_rfl) (by intro ty h;cases h) (by rintro ⟨⟩ a0 ⟨a1,a2,a3,⟨⟩,⟨⟩⟩;kernel_rfl)
theorem x7:zAp U Tryz.prog G0 147 zA (vX [.d tI, .d tI, .d tI, .clo 120 []]) (.tu []) qB:=xP _
theorem zAH:zAp U Tryz.prog G0 110 zA (vX [.d tI, .clo 120 []]) (.tu []) qI:=
 wK (fn:=Tryz.f110) (c:=w7 Tryz.f110) (S:=((((zQ.none U).addB 146 (wH zA (vX [.d tI, .d tI, .clo 120 []]) (.tu []) zX)).addB 147 (wH zA (vX [.d tI, .d tI, .d tI, .clo 120 []]) (.tu []) qB)).add 120 (jV [zA,zA] (.p tI) zJ))) (A:=uJ) (qU (jW (jW qC (by kernel_rfl) uZ) (by kernel_rfl) x7) (by kernel_rfl) qS) (by kernel_rfl) (by kernel_rfl) (by kernel_rfl) (by intro ty h;cases h) (by rintro ⟨⟩ a0 ⟨a1,⟨⟩,⟨⟩⟩;kernel_rfl)
theorem x8:zAp U Tryz.prog G0 50 zA (vX [.clo 120 []]) (.tu []) qE:=
 wK (fn:=Tryz.f50) (c:=w7 Tryz.f50) (S:=(((zQ.none U).addB 110 (wH zA (vX [.d tI, .clo 120 []]) (.tu []) qI)).add 120 (jV [zA,zA] (.p tI) zJ))) (A:=kX) (qU (jW qC (by kernel_rfl) zAH) (by kernel_rfl) qS) (by kernel_rfl) (by kernel_rfl) (by kernel_rfl) (by intro ty h;cases h) (by rintro ⟨⟩ a0 ⟨⟨⟩,⟨⟩⟩;kernel_rfl)
noncomputable def vO:Ent:=zW5 (by kernel_rfl) x8
end Go.Ve

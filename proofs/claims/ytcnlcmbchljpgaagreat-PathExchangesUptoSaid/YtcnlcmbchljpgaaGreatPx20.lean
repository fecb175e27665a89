/-
  Contracts: sorting of routes, comparisons, merging as the document has it.
-/
import Derived.Test.YtcnlcmbchljpgaaGreatPx17
import Derived.Test.YtcnlcmbchljpgaaGreatPx18
set_option linter.unusedVariables false
namespace Go.Ve
open Go Go.Proofs
set_option maxRecDepth 1000000
set_option maxHeartbeats 0
def zHR:Nat→Option JA:=fun k=>match k with
 |12=>some ⟨336,[],[.t 0 (.sl zA)]⟩
 |_=>none
theorem zGT:wV U Tryz.prog G0 119 (qP (wF [(.sl zA)] (.o zA) xB)):=
 zTo (t:=zA) (bytes:=136)
  (vJ (fn:=Tryz.f119) (c:=wN Tryz.f119) (S:=zO.none U) (A:=fun _=>none) z6 (by kernel_rfl) (by kernel_rfl) (enc:=fun q=>[.tl zA (q.1::q.2)]) (fun _ _ h=>zEF h) (by rintro ⟨⟩ ⟨y,r⟩;kernel_rfl))
  (fun c=>vJ (fn:=Tryz.f119) (c:=wN Tryz.f119) (S:=zO.none U) (A:=fun _=>none) z6 (by kernel_rfl) (by kernel_rfl) (enc:=fun _=>[.val (.slice none 0 c)]) (fun _ _ h=>yX h) (by rintro ⟨⟩ _;kernel_rfl))
  (fun a c=>vJ (fn:=Tryz.f119) (c:=wN Tryz.f119) (S:=zO.none U) (A:=zHR) z6 (by kernel_rfl) (by kernel_rfl) (enc:=fun _=>[.val (.slice (some a) 0 c)]) (fun _ _ h=>yX h) (by rintro ⟨⟩ _;kernel_rfl))
noncomputable def zHH:Ent:=zZ (by kernel_rfl) zGT
theorem zIF:OkX 148 [tU] (.p .bool) zAC:=fX [] (A:=fun _=>none) (fn:=Tryz.f148) (by kernel_rfl) (by kernel_rfl) (by rintro ⟨⟩ ⟨a1,⟨⟩⟩;kernel_rfl)
noncomputable def zJW:Ent:=zZ (by kernel_rfl) zIF
theorem zGX:OkX 111 [tU,tU] (.p tI) wZ:=fX [zJW] (A:=fun _=>none) (fn:=Tryz.f111) (by kernel_rfl) (by kernel_rfl) (by rintro ⟨⟩ ⟨a1,a2,⟨⟩⟩;kernel_rfl)
noncomputable def zAn:Ent:=zZ (by kernel_rfl) zGX
theorem zLW:OkX 149 [tI] (.p .bool) zCQ:=fX [] (A:=fun _=>none) (fn:=Tryz.f149) (by kernel_rfl) (by kernel_rfl) (by rintro ⟨⟩ ⟨a1,⟨⟩⟩;kernel_rfl)
noncomputable def zNH:Ent:=zZ (by kernel_rfl) zLW
theorem zJC:OkX 112 [tI,tI] (.p tI) qA:=fX [zNH] (A:=fun _=>none) (fn:=Tryz.f112) (by kernel_rfl) (by kernel_rfl) (by rintro ⟨⟩ ⟨a1,a2,⟨⟩⟩;kernel_rfl)
noncomputable def zCg:Ent:=zZ (by kernel_rfl) zJC
theorem zNt:OkX 52 [zH,zH] (.p tI) zCj:=fX [zCg,zAn] (A:=fun _=>none) (fn:=Tryz.f52) (by kernel_rfl) (by kernel_rfl) (by rintro ⟨⟩ ⟨a1,a2,⟨⟩⟩;kernel_rfl)
noncomputable def zEb:Ent:=zZ (by kernel_rfl) zNt
theorem j3:OkX 51 [zA,zA] (.p tI) zN:=fX [zEb] (A:=fun _=>none) (fn:=Tryz.f51) (by kernel_rfl) (by kernel_rfl) (by rintro ⟨⟩ ⟨a1,a2,⟨⟩⟩;kernel_rfl)
def vY:Nat→Option JA:=fun k=>match k with
 |18=>some ⟨393530540216230608896,[],[.t 34 .bool, .o 0 1000000 zA]⟩
 |17=>some ⟨27043212804868893898573428817921,[],[.t 9 tI, .o 0 1000000 zA]⟩
 |8=>some ⟨27043212804868893898590608687105,[],[.o 0 1000000 zA]⟩
 |5=>some ⟨27043212804868893898596329783297,[],[.t 8 tI, .o 0 1000000 zA]⟩
 |27=>some ⟨0,[(229376,28,0)],[]⟩
 |_=>none
theorem zAO:zBB U Tryz.prog G0 146 zA (uH [.d tI, .d tI, .clo 51 []]) (.tu []) z8:=
 vK (fn:=Tryz.f146) (c:=wN Tryz.f146) (S:=((zO.none U).add 51 (wF [zA,zA] (.p tI) zN))) (A:=vY) (qY z6 (by kernel_rfl) j3) (by kernel_rfl) (by kernel_rfl) (by kernel_rfl) (by intro ty h;cases h) (by rintro ⟨⟩ a0 ⟨a1,a2,⟨⟩,⟨⟩⟩;kernel_rfl)
def uW:Nat→Option JA:=fun k=>match k with
 |5=>some ⟨25185954575304774123520,[],[.t 10 tI, .o 0 1000000 zA]⟩
 |15=>some ⟨0,[(14680064,240,0)],[]⟩
 |_=>none
theorem zB0:zBB U Tryz.prog G0 214 zA (uH [.d tI, .d tI, .d tI, .clo 51 []]) (.tu []) qG:=
 vK (fn:=Tryz.f214) (c:=wN Tryz.f214) (S:=((zO.none U).add 51 (wF [zA,zA] (.p tI) zN))) (A:=uW) (qY z6 (by kernel_rfl) j3) (by kernel_rfl) (by kernel_rfl) (by kernel_rfl) (by intro ty h;cases h) (by rintro ⟨⟩ a0 ⟨a1,a2,a3,⟨⟩,⟨⟩⟩;kernel_rfl)
def xT:Nat→Option JA:=fun k=>match k with
 |9=>some ⟨422550200076076467142666485760,[],[.t 10 tI, .t 11 tI, .o 0 1000000 zA]⟩
 |32=>some ⟨422550200076076467142666485761,[],[.o 0 1000000 zA, .t 10 tI]⟩
 |_=>none
theorem zCX:zBB U Tryz.prog G0 175 zA (uH [.d tI, .d tI, .d tI, .clo 51 []]) (.tu []) jW:=
 vK (fn:=Tryz.f175) (c:=wN Tryz.f175) (S:=(((zO.none U).addB 214 (vF zA (uH [.d tI, .d tI, .d tI, .clo 51 []]) (.tu []) qG)).add 51 (wF [zA,zA] (.p tI) zN))) (A:=xT) (qY (wE z6 (by kernel_rfl) zB0) (by kernel_rfl) j3) (by kernel_rfl) (by kernel_rfl) (by kernel_rfl) (by intro ty h;cases h) (by rintro ⟨⟩ a0 ⟨a1,a2,a3,⟨⟩,⟨⟩⟩;kernel_rfl)
def yU:Nat→Option JA:=fun k=>match k with
 |13=>some ⟨108172851219474038365712553082880,[],[.t 10 tI, .t 11 tI, .o 0 1000000 zA]⟩
 |32=>some ⟨108172851219474038365712553082881,[],[.t 10 tI, .o 0 1000000 zA]⟩
 |37=>some ⟨7611987694431353340905980601428263186080989184,[],[.t 13 tI, .o 0 1000000 zA]⟩
 |48=>some ⟨95701492081623040,[],[.o 0 1000000 zA]⟩
 |61=>some ⟨8776024305713067712791572581043614347964826669341339950268809216,[],[.t 14 tI, .t 15 tI, .o 0 1000000 zA]⟩
 |80=>some ⟨8776024305713067712791572581043614347964826669341339950268809217,[],[.t 14 tI, .o 0 1000000 zA]⟩
 |85=>some ⟨154389452316386489800871794282684571128465422743414453687476595640149915729920,[],[.t 17 tI, .o 0 1000000 zA]⟩
 |96=>some ⟨1941056862080105438239268918451313385480535408640,[],[.o 0 1000000 zA]⟩
 |128=>some ⟨10609521904473526996625843805009119098832509500200937719156538760962199709100267794333696,[],[.t 20 tI, .t 21 tI, .o 0 1000000 zA]⟩
 |133=>some ⟨764499538663357000783942270560188457895047628941246953623496807634286739017790823158231204167849349218304,[],[.t 20 tI, .t 21 tI, .o 0 1000000 zA]⟩
 |152=>some ⟨764499538663357000783942270560188457895047628941246953623496807634286739017790823158231204167849349218305,[],[.t 20 tI, .o 0 1000000 zA]⟩
 |158=>some ⟨3206494545043399178952856477303941710188861580056390473475048204570069134601788840466531538732204519858288721920,[],[.t 185 .bool, .o 0 1000000 zA]⟩
 |164=>some ⟨13134002016536855929638154452350358835248725019828429120392767161680012016911382180583746179467909413919528016936961,[],[.o 0 1000000 zA]⟩
 |166=>some ⟨860736825360237398392235630987637243571966904363317682461330469415747792098356565806344646337960982173420788448252395520,[],[.t 199 .bool, .o 0 1000000 zA]⟩
 |172=>some ⟨3525631820413990462278721905415098845703620374116253412696311352147399751845086587235272251873726100892181250531248580853761,[],[.o 0 1000000 zA]⟩
 |174=>some ⟨231052282211567690305673438463614133840824004789675571764370446924310312152915541592820132832889286359930080426986164194503557120,[],[.t 213 .bool, .o 0 1000000 zA]⟩
 |95=>some ⟨0,[(229376,28,0)],[]⟩
 |47=>some ⟨0,[(229376,28,0)],[]⟩
 |_=>none
theorem zB5: ∀n,zBB U Tryz.prog G0 147 zA (uH [.d tI, .d tI, .d tI, .clo 51 []]) (.tu []) (z7 n):=by
 intro n
 induction n with
 |zero=>exact fun _ _ _ _ _ _ _ h=>by cases h
 |succ n ih=>exact vK (fn:=Tryz.f147) (c:=wN Tryz.f147) (S:=((((zO.none U).addB 175 (vF zA (uH [.d tI, .d tI, .d tI, .clo 51 []]) (.tu []) jW)).add 51 (wF [zA,zA] (.p tI) zN)).addB 147 (vF zA (uH [.d tI, .d tI, .d tI, .clo 51 []]) (.tu []) (z7 n)))) (A:=yU) (wE (qY (wE z6 (by kernel_rfl) zCX) (by kernel_rfl) j3) (by kernel_rfl) ih) (by kernel_rfl) (by kernel_rfl) (by kernel_rfl) (by intro ty h;cases h) (by rintro ⟨⟩ a0 ⟨a1,a2,a3,⟨⟩,⟨⟩⟩;kernel_rfl)
theorem zCk:zBB U Tryz.prog G0 147 zA (uH [.d tI, .d tI, .d tI, .clo 51 []]) (.tu []) qJ:=zB5 _
def xS:Nat→Option JA:=fun k=>match k with
 |9=>some ⟨23456246743040,[],[.t 8 tI, .o 0 1000000 zA, .t 7 tI]⟩
 |24=>some ⟨23456246743041,[],[.o 0 1000000 zA, .t 7 tI]⟩
 |37=>some ⟨105637549994423458026445946880,[],[.t 8 tI, .o 0 1000000 zA, .t 7 tI]⟩
 |52=>some ⟨105637549994423458026445946881,[],[.t 7 tI, .o 0 1000000 zA]⟩
 |64=>some ⟨1772303888742337811519292622315454464,[],[.o 0 1000000 zA]⟩
 |29=>some ⟨28356863910078205288590531421301723137,[],[.t 6 tI, .o 0 1000000 zA]⟩
 |_=>none
theorem zCW:zBB U Tryz.prog G0 110 zA (uH [.d tI, .clo 51 []]) (.tu []) qQ:=
 vK (fn:=Tryz.f110) (c:=wN Tryz.f110) (S:=((((zO.none U).addB 146 (vF zA (uH [.d tI, .d tI, .clo 51 []]) (.tu []) z8)).addB 147 (vF zA (uH [.d tI, .d tI, .d tI, .clo 51 []]) (.tu []) qJ)).add 51 (wF [zA,zA] (.p tI) zN))) (A:=xS) (qY (wE (wE z6 (by kernel_rfl) zAO) (by kernel_rfl) zCk) (by kernel_rfl) j3) (by kernel_rfl) (by kernel_rfl) (by kernel_rfl) (by intro ty h;cases h) (by rintro ⟨⟩ a0 ⟨a1,⟨⟩,⟨⟩⟩;kernel_rfl)
def yY:Nat→Option JA:=fun _=>none
theorem zCE:zBB U Tryz.prog G0 50 zA (uH [.clo 51 []]) (.tu []) qV:=
 vK (fn:=Tryz.f50) (c:=wN Tryz.f50) (S:=(((zO.none U).addB 110 (vF zA (uH [.d tI, .clo 51 []]) (.tu []) qQ)).add 51 (wF [zA,zA] (.p tI) zN))) (A:=yY) (qY (wE z6 (by kernel_rfl) zCW) (by kernel_rfl) j3) (by kernel_rfl) (by kernel_rfl) (by kernel_rfl) (by intro ty h;cases h) (by rintro ⟨⟩ a0 ⟨⟨⟩,⟨⟩⟩;kernel_rfl)
noncomputable def zC3:Ent:=qBk (by kernel_rfl) zCE
theorem zKK:OkX 120 [zA,zA] (.p tI) zOm:=fX [zEb] (A:=fun _=>none) (fn:=Tryz.f120) (by kernel_rfl) (by kernel_rfl) (by rintro ⟨⟩ ⟨a1,a2,⟨⟩⟩;kernel_rfl)
noncomputable def zMh:Ent:=zZ (by kernel_rfl) zKK
theorem zP8:OkX 163 [(.sl tI)] (.p tI) zBm:=fX [] (A:=(jl [jj 13 5726602256 [] [.t 8 tI],jj 32 5726622736 [] []])) (fn:=Tryz.f163) (by kernel_rfl) (by kernel_rfl) (by rintro ⟨⟩ ⟨a1,⟨⟩⟩;kernel_rfl)
noncomputable def zLo:Ent:=zZ (by kernel_rfl) zP8
theorem zNf:OkX 180 [zA] (.p tI) zDr:=fX [] (A:=fun _=>none) (fn:=Tryz.f180) (by kernel_rfl) (by kernel_rfl) (by rintro ⟨⟩ ⟨a1,⟨⟩⟩;kernel_rfl)
noncomputable def zPh:Ent:=zZ (by kernel_rfl) zNf
theorem zNg:OkX 155 [zA,zA] (.p tI) xC:=fX [zAn,zPh,zLo,zCg] (A:=(jl [jj 16 344064 [] [.t 7 .bool]])) (fn:=Tryz.f155) (by kernel_rfl) (by kernel_rfl) (by rintro ⟨⟩ ⟨a1,a2,⟨⟩⟩;kernel_rfl)
noncomputable def zPi:Ent:=zZ (by kernel_rfl) zNg
theorem zC0:OkX 157 [qS,qS] (.p tI) x6:=fX [zLo,zAn,zCg] (A:=fun _=>none) (fn:=Tryz.f157) (by kernel_rfl) (by kernel_rfl) (by rintro ⟨⟩ ⟨a1,a2,⟨⟩⟩;kernel_rfl)
noncomputable def zII:Ent:=zZ (by kernel_rfl) zC0
theorem zNs:OkX 49 [tU,tI] (.p zH) zDC:=fX [zLp,zMT] (A:=fun _=>none) (fn:=Tryz.f49) (by kernel_rfl) (by kernel_rfl) (by rintro ⟨⟩ ⟨a1,a2,⟨⟩⟩;kernel_rfl)
noncomputable def zPr:Ent:=zZ (by kernel_rfl) zNs
theorem jD:OkX 120 [zA,zA] (.p tI) zN:=fX [zEb] (A:=fun _=>none) (fn:=Tryz.f120) (by kernel_rfl) (by kernel_rfl) (by rintro ⟨⟩ ⟨a1,a2,⟨⟩⟩;kernel_rfl)
theorem x9:zBB U Tryz.prog G0 146 zA (uH [.d tI, .d tI, .clo 120 []]) (.tu []) z8:=
 vK (fn:=Tryz.f146) (c:=wN Tryz.f146) (S:=((zO.none U).add 120 (wF [zA,zA] (.p tI) zN))) (A:=vY) (qY z6 (by kernel_rfl) jD) (by kernel_rfl) (by kernel_rfl) (by kernel_rfl) (by intro ty h;cases h) (by rintro ⟨⟩ a0 ⟨a1,a2,⟨⟩,⟨⟩⟩;kernel_rfl)
theorem zAX:zBB U Tryz.prog G0 214 zA (uH [.d tI, .d tI, .d tI, .clo 120 []]) (.tu []) qG:=
 vK (fn:=Tryz.f214) (c:=wN Tryz.f214) (S:=((zO.none U).add 120 (wF [zA,zA] (.p tI) zN))) (A:=uW) (qY z6 (by kernel_rfl) jD) (by kernel_rfl) (by kernel_rfl) (by kernel_rfl) (by intro ty h;cases h) (by rintro ⟨⟩ a0 ⟨a1,a2,a3,⟨⟩,⟨⟩⟩;kernel_rfl)
theorem zB2:zBB U Tryz.prog G0 175 zA (uH [.d tI, .d tI, .d tI, .clo 120 []]) (.tu []) jW:=
 vK (fn:=Tryz.f175) (c:=wN Tryz.f175) (S:=(((zO.none U).addB 214 (vF zA (uH [.d tI, .d tI, .d tI, .clo 120 []]) (.tu []) qG)).add 120 (wF [zA,zA] (.p tI) zN))) (A:=xT) (qY (wE z6 (by kernel_rfl) zAX) (by kernel_rfl) jD) (by kernel_rfl) (by kernel_rfl) (by kernel_rfl) (by intro ty h;cases h) (by rintro ⟨⟩ a0 ⟨a1,a2,a3,⟨⟩,⟨⟩⟩;kernel_rfl)
theorem zAY: ∀n,zBB U Tryz.prog G0 147 zA (uH [.d tI, .d tI, .d tI, .clo 120 []]) (.tu []) (z7 n):=by
 intro n
 induction n with
 |zero=>exact fun _ _ _ _ _ _ _ h=>by cases h
 |succ n ih=>exact vK (fn:=Tryz.f147) (c:=wN Tryz.f147) (S:=((((zO.none U).addB 175 (vF zA (uH [.d tI, .d tI, .d tI, .clo 120 []]) (.tu []) jW)).add 120 (wF [zA,zA] (.p tI) zN)).addB 147 (vF zA (uH [.d tI, .d tI, .d tI, .clo 120 []]) (.tu []) (z7 n)))) (A:=yU) (wE (qY (wE z6 (by kernel_rfl) zB2) (by kernel_rfl) jD) (by kernel_rfl) ih) (by kernel_rfl) (by kernel_rfl) (by kernel_rfl) (by intro ty h;cases h) (by rintro ⟨⟩ a0 ⟨a1,a2,a3,⟨⟩,⟨⟩⟩;kernel_rfl)
theorem zBg:zBB U Tryz.prog G0 147 zA (uH [.d tI, .d tI, .d tI, .clo 120 []]) (.tu []) qJ:=zAY _
theorem zB1:zBB U Tryz.prog G0 110 zA (uH [.d tI, .clo 120 []]) (.tu []) qQ:=
 vK (fn:=Tryz.f110) (c:=wN Tryz.f110) (S:=((((zO.none U).addB 146 (vF zA (uH [.d tI, .d tI, .clo 120 []]) (.tu []) z8)).addB 147 (vF zA (uH [.d tI, .d tI, .d tI, .clo 120 []]) (.tu []) qJ)).add 120 (wF [zA,zA] (.p tI) zN))) (A:=xS) (qY (wE (wE z6 (by kernel_rfl) x9) (by kernel_rfl) zBg) (by kernel_rfl) jD) (by kernel_rfl) (by kernel_rfl) (by kernel_rfl) (by intro ty h;cases h) (by rintro ⟨⟩ a0 ⟨a1,⟨⟩,⟨⟩⟩;kernel_rfl)
theorem zBi:zBB U Tryz.prog G0 50 zA (uH [.clo 120 []]) (.tu []) qV:=
 vK (fn:=Tryz.f50) (c:=wN Tryz.f50) (S:=(((zO.none U).addB 110 (vF zA (uH [.d tI, .clo 120 []]) (.tu []) qQ)).add 120 (wF [zA,zA] (.p tI) zN))) (A:=yY) (qY (wE z6 (by kernel_rfl) zB1) (by kernel_rfl) jD) (by kernel_rfl) (by kernel_rfl) (by kernel_rfl) (by intro ty h;cases h) (by rintro ⟨⟩ a0 ⟨⟨⟩,⟨⟩⟩;kernel_rfl)
noncomputable def zCa:Ent:=qBk (by kernel_rfl) zBi
end Go.Ve

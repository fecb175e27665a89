/-
  Contracts: sorting of routes, comparisons, merging as the document has it.
-/
import Derived.Test.YtcnlcmbchljpgaaGreatPs16
import Derived.Test.YtcnlcmbchljpgaaGreatPs18
set_option linter.unusedVariables false
namespace Go.Ve
open Go Go.Proofs
set_option maxRecDepth 1000000
set_option maxHeartbeats 0
def zGI:Nat→Option JA:=fun k=>match k with
 |12=>some ⟨336,[],[.t 0 (.sl zA)]⟩
 |_=>none
theorem zFL:wG U Tryz.prog G0 119 (qK (j1 [(.sl zA)] (.o zA) yE)):=
 zRL (t:=zA) (bytes:=136)
  (w9 (fn:=Tryz.f119) (c:=j9 Tryz.f119) (S:=zO.none U) (A:=fun _=>none) zZ (by kernel_rfl) (by kernel_rfl) (enc:=fun q=>[.tl zA (q.1::q.2)]) (fun _ _ h=>zDQ h) (by rintro ⟨⟩ ⟨y,r⟩;kernel_rfl))
  (fun c=>w9 (fn:=Tryz.f119) (c:=j9 Tryz.f119) (S:=zO.none U) (A:=fun _=>none) zZ (by kernel_rfl) (by kernel_rfl) (enc:=fun _=>[.val (.slice none 0 c)]) (fun _ _ h=>yA h) (by rintro ⟨⟩ _;kernel_rfl))
  (fun a c=>w9 (fn:=Tryz.f119) (c:=j9 Tryz.f119) (S:=zO.none U) (A:=zGI) zZ (by kernel_rfl) (by kernel_rfl) (enc:=fun _=>[.val (.slice (some a) 0 c)]) (fun _ _ h=>yA h) (by rintro ⟨⟩ _;kernel_rfl))
noncomputable def zGy:Ent:=qB (by kernel_rfl) zFL
theorem zHt:OkX 148 [tU] (.p .bool) x6:=fX [] (A:=fun _=>none) (fn:=Tryz.f148) (by kernel_rfl) (by kernel_rfl) (by rintro ⟨⟩ ⟨a1,⟨⟩⟩;kernel_rfl)
noncomputable def zIL:Ent:=qB (by kernel_rfl) zHt
theorem zFO:OkX 111 [tU,tU] (.p tI) wK:=fX [zIL] (A:=fun _=>none) (fn:=Tryz.f111) (by kernel_rfl) (by kernel_rfl) (by rintro ⟨⟩ ⟨a1,a2,⟨⟩⟩;kernel_rfl)
noncomputable def xP:Ent:=qB (by kernel_rfl) zFO
theorem zKG:OkX 149 [tI] (.p .bool) zB4:=fX [] (A:=fun _=>none) (fn:=Tryz.f149) (by kernel_rfl) (by kernel_rfl) (by rintro ⟨⟩ ⟨a1,⟨⟩⟩;kernel_rfl)
noncomputable def zMl:Ent:=qB (by kernel_rfl) zKG
theorem zIr:OkX 112 [tI,tI] (.p tI) z7:=fX [zMl] (A:=fun _=>none) (fn:=Tryz.f112) (by kernel_rfl) (by kernel_rfl) (by rintro ⟨⟩ ⟨a1,a2,⟨⟩⟩;kernel_rfl)
noncomputable def zBx:Ent:=qB (by kernel_rfl) zIr
theorem zL8:OkX 52 [zF,zF] (.p tI) zBz:=fX [zBx,xP] (A:=fun _=>none) (fn:=Tryz.f52) (by kernel_rfl) (by kernel_rfl) (by rintro ⟨⟩ ⟨a1,a2,⟨⟩⟩;kernel_rfl)
noncomputable def zDn:Ent:=qB (by kernel_rfl) zL8
theorem jO:OkX 51 [zA,zA] (.p tI) zM:=fX [zDn] (A:=fun _=>none) (fn:=Tryz.f51) (by kernel_rfl) (by kernel_rfl) (by rintro ⟨⟩ ⟨a1,a2,⟨⟩⟩;kernel_rfl)
def vN:Nat→Option JA:=fun k=>match k with
 |18=>some ⟨393530540216230608896,[],[.t 34 .bool, .o 0 1000000 zA]⟩
 |17=>some ⟨27043212804868893898573428817921,[],[.t 9 tI, .o 0 1000000 zA]⟩
 |8=>some ⟨27043212804868893898590608687105,[],[.o 0 1000000 zA]⟩
 |5=>some ⟨27043212804868893898596329783297,[],[.t 8 tI, .o 0 1000000 zA]⟩
 |27=>some ⟨0,[(229376,28,0)],[]⟩
 |_=>none
theorem zAf:zAX U Tryz.prog G0 146 zA (kP [.d tI, .d tI, .clo 51 []]) (.tu []) z6:=
 vA (fn:=Tryz.f146) (c:=j9 Tryz.f146) (S:=((zO.none U).add 51 (j1 [zA,zA] (.p tI) zM))) (A:=vN) (qQ zZ (by kernel_rfl) jO) (by kernel_rfl) (by kernel_rfl) (by kernel_rfl) (by intro ty h;cases h) (by rintro ⟨⟩ a0 ⟨a1,a2,⟨⟩,⟨⟩⟩;kernel_rfl)
def uA:Nat→Option JA:=fun k=>match k with
 |5=>some ⟨25185954575304774123520,[],[.t 10 tI, .o 0 1000000 zA]⟩
 |15=>some ⟨0,[(14680064,240,0)],[]⟩
 |_=>none
theorem zBl:zAX U Tryz.prog G0 214 zA (kP [.d tI, .d tI, .d tI, .clo 51 []]) (.tu []) qD:=
 vA (fn:=Tryz.f214) (c:=j9 Tryz.f214) (S:=((zO.none U).add 51 (j1 [zA,zA] (.p tI) zM))) (A:=uA) (qQ zZ (by kernel_rfl) jO) (by kernel_rfl) (by kernel_rfl) (by kernel_rfl) (by intro ty h;cases h) (by rintro ⟨⟩ a0 ⟨a1,a2,a3,⟨⟩,⟨⟩⟩;kernel_rfl)
def yT:Nat→Option JA:=fun k=>match k with
 |9=>some ⟨422550200076076467142666485760,[],[.t 10 tI, .t 11 tI, .o 0 1000000 zA]⟩
 |32=>some ⟨422550200076076467142666485761,[],[.o 0 1000000 zA, .t 10 tI]⟩
 |_=>none
theorem zCa:zAX U Tryz.prog G0 175 zA (kP [.d tI, .d tI, .d tI, .clo 51 []]) (.tu []) jL:=
 vA (fn:=Tryz.f175) (c:=j9 Tryz.f175) (S:=(((zO.none U).addB 214 (wY zA (kP [.d tI, .d tI, .d tI, .clo 51 []]) (.tu []) qD)).add 51 (j1 [zA,zA] (.p tI) zM))) (A:=yT) (qQ (jZ zZ (by kernel_rfl) zBl) (by kernel_rfl) jO) (by kernel_rfl) (by kernel_rfl) (by kernel_rfl) (by intro ty h;cases h) (by rintro ⟨⟩ a0 ⟨a1,a2,a3,⟨⟩,⟨⟩⟩;kernel_rfl)
def u6:Nat→Option JA:=fun k=>match k with
 |13=>some ⟨108172851219474038365712553082880,[],[.t 10 tI, .t 11 tI, .o 0 1000000 zA]⟩
 |32=>some ⟨108172851219474038365712553082881,[],[.t 10 tI, .o 0 1000000 zA]⟩
 |37=>some ⟨7611987694431353340905980601428263186080989184,[],[.t 13 tI, .o 0 1000000 zA]⟩
 |48=>some ⟨95701492081623040,[],[.o 0 1000000 zA]⟩
 |61=>some ⟨8776024305713067712791572581043614347964826669341339950268809216,[],[.t 14 tI, .t 15 tI, .o 0 1000000 zA]⟩
 |80=>some ⟨8776024305713067712791572581043614347964826669341339950268809217,[],[.t 14 tI, .o 0 1000000 zA]⟩
 |85=>some ⟨154389452316386489800871794282684571128465422743414453687476595640149915729920,[],[.t 17 tI, .o 0 1000000 zA]⟩
 |96=>some ⟨1941056862080105438239268918451313385480535408640,[],[.o 0 1000000 zA]⟩
 |128=>some ⟨10609521904473526996625843805009119098832509500200937719156538760962199709100267794333696,[],[.t 20 tI, .t 21 tI, .o 0 1000000 zA]⟩
 |133=>some ⟨764499538663357000783942270560188457895047628941246953623496807634286739017790823158231204167849349218304,[],[.t 20 tI, .t 21 tI, .o 0 1000000 zA]⟩
 |152=>some ⟨764499538663357000783942270560188457895047628941246953623496807634286739017790823158231204167849349218305,[],[.t 20 tI, .o 0 1000000 zA]⟩
 |158=>some ⟨3206494545043399178952856477303941710188861580056390473475048204570069134601788840466531538732204519858288721920,[],[.t 185 .bool, .o 0 1000000 zA]⟩
 |164=>some ⟨13134002016536855929638154452350358835248725019828429120392767161680012016911382180583746179467909413919528016936961,[],[.o 0 1000000 zA]⟩
 |166=>some ⟨860736825360237398392235630987637243571966904363317682461330469415747792098356565806344646337960982173420788448252395520,[],[.t 199 .bool, .o 0 1000000 zA]⟩
 |172=>some ⟨3525631820413990462278721905415098845703620374116253412696311352147399751845086587235272251873726100892181250531248580853761,[],[.o 0 1000000 zA]⟩
 |174=>some ⟨231052282211567690305673438463614133840824004789675571764370446924310312152915541592820132832889286359930080426986164194503557120,[],[.t 213 .bool, .o 0 1000000 zA]⟩
 |95=>some ⟨0,[(229376,28,0)],[]⟩
 |47=>some ⟨0,[(229376,28,0)],[]⟩
 |_=>none
theorem zBr: ∀n,zAX U Tryz.prog G0 147 zA (kP [.d tI, .d tI, .d tI, .clo 51 []]) (.tu []) (z2 n):=by
 intro n
 induction n with
 |zero=>exact fun _ _ _ _ _ _ _ h=>by cases h
 |succ n ih=>exact vA (fn:=Tryz.f147) (c:=j9 Tryz.f147) (S:=((((zO.none U).addB 175 (wY zA (kP [.d tI, .d tI, .d tI, .clo 51 []]) (.tu []) jL)).add 51 (j1 [zA,zA] (.p tI) zM)).addB 147 (wY zA (kP [.d tI, .d tI, .d tI, .clo 51 []]) (.tu []) (z2 n)))) (A:=u6) (jZ (qQ (jZ zZ (by kernel_rfl) zCa) (by kernel_rfl) jO) (by kernel_rfl) ih) (by kernel_rfl) (by kernel_rfl) (by kernel_rfl) (by intro ty h;cases h) (by rintro ⟨⟩ a0 ⟨a1,a2,a3,⟨⟩,⟨⟩⟩;kernel_rfl)
theorem zBA:zAX U Tryz.prog G0 147 zA (kP [.d tI, .d tI, .d tI, .clo 51 []]) (.tu []) qF:=zBr _
def yS:Nat→Option JA:=fun k=>match k with
 |9=>some ⟨23456246743040,[],[.t 8 tI, .o 0 1000000 zA, .t 7 tI]⟩
 |24=>some ⟨23456246743041,[],[.o 0 1000000 zA, .t 7 tI]⟩
 |37=>some ⟨105637549994423458026445946880,[],[.t 8 tI, .o 0 1000000 zA, .t 7 tI]⟩
 |52=>some ⟨105637549994423458026445946881,[],[.t 7 tI, .o 0 1000000 zA]⟩
 |64=>some ⟨1772303888742337811519292622315454464,[],[.o 0 1000000 zA]⟩
 |29=>some ⟨28356863910078205288590531421301723137,[],[.t 6 tI, .o 0 1000000 zA]⟩
 |_=>none
theorem zB9:zAX U Tryz.prog G0 110 zA (kP [.d tI, .clo 51 []]) (.tu []) qL:=
 vA (fn:=Tryz.f110) (c:=j9 Tryz.f110) (S:=((((zO.none U).addB 146 (wY zA (kP [.d tI, .d tI, .clo 51 []]) (.tu []) z6)).addB 147 (wY zA (kP [.d tI, .d tI, .d tI, .clo 51 []]) (.tu []) qF)).add 51 (j1 [zA,zA] (.p tI) zM))) (A:=yS) (qQ (jZ (jZ zZ (by kernel_rfl) zAf) (by kernel_rfl) zBA) (by kernel_rfl) jO) (by kernel_rfl) (by kernel_rfl) (by kernel_rfl) (by intro ty h;cases h) (by rintro ⟨⟩ a0 ⟨a1,⟨⟩,⟨⟩⟩;kernel_rfl)
def yB:Nat→Option JA:=fun _=>none
theorem zBV:zAX U Tryz.prog G0 50 zA (kP [.clo 51 []]) (.tu []) qO:=
 vA (fn:=Tryz.f50) (c:=j9 Tryz.f50) (S:=(((zO.none U).addB 110 (wY zA (kP [.d tI, .clo 51 []]) (.tu []) qL)).add 51 (j1 [zA,zA] (.p tI) zM))) (A:=yB) (qQ (jZ zZ (by kernel_rfl) zB9) (by kernel_rfl) jO) (by kernel_rfl) (by kernel_rfl) (by kernel_rfl) (by intro ty h;cases h) (by rintro ⟨⟩ a0 ⟨⟨⟩,⟨⟩⟩;kernel_rfl)
noncomputable def zCi:Ent:=zZB (by kernel_rfl) zBV
theorem zJu:OkX 120 [zA,zA] (.p tI) zM0:=fX [zDn] (A:=fun _=>none) (fn:=Tryz.f120) (by kernel_rfl) (by kernel_rfl) (by rintro ⟨⟩ ⟨a1,a2,⟨⟩⟩;kernel_rfl)
noncomputable def zK2:Ent:=qB (by kernel_rfl) zJu
theorem zOG:OkX 163 [(.sl tI)] (.p tI) zAL:=fX [] (A:=(jl [jj 13 5726602256 [] [.t 8 tI],jj 32 5726622736 [] []])) (fn:=Tryz.f163) (by kernel_rfl) (by kernel_rfl) (by rintro ⟨⟩ ⟨a1,⟨⟩⟩;kernel_rfl)
noncomputable def zJ8:Ent:=qB (by kernel_rfl) zOG
theorem zLY:OkX 180 [zA] (.p tI) zCE:=fX [] (A:=fun _=>none) (fn:=Tryz.f180) (by kernel_rfl) (by kernel_rfl) (by rintro ⟨⟩ ⟨a1,⟨⟩⟩;kernel_rfl)
noncomputable def zNS:Ent:=qB (by kernel_rfl) zLY
theorem zLZ:OkX 155 [zA,zA] (.p tI) yF:=fX [xP,zNS,zJ8,zBx] (A:=(jl [jj 16 344064 [] [.t 7 .bool]])) (fn:=Tryz.f155) (by kernel_rfl) (by kernel_rfl) (by rintro ⟨⟩ ⟨a1,a2,⟨⟩⟩;kernel_rfl)
noncomputable def zNT:Ent:=qB (by kernel_rfl) zLZ
theorem zCd:OkX 157 [jH,jH] (.p tI) xA:=fX [zJ8,xP,zBx] (A:=fun _=>none) (fn:=Tryz.f157) (by kernel_rfl) (by kernel_rfl) (by rintro ⟨⟩ ⟨a1,a2,⟨⟩⟩;kernel_rfl)
noncomputable def zHv:Ent:=qB (by kernel_rfl) zCd
theorem zL7:OkX 49 [tU,tI] (.p zF) zCP:=fX [zJ9,zLC] (A:=fun _=>none) (fn:=Tryz.f49) (by kernel_rfl) (by kernel_rfl) (by rintro ⟨⟩ ⟨a1,a2,⟨⟩⟩;kernel_rfl)
noncomputable def zNZ:Ent:=qB (by kernel_rfl) zL7
theorem qY:OkX 120 [zA,zA] (.p tI) zM:=fX [zDn] (A:=fun _=>none) (fn:=Tryz.f120) (by kernel_rfl) (by kernel_rfl) (by rintro ⟨⟩ ⟨a1,a2,⟨⟩⟩;kernel_rfl)
theorem xE:zAX U Tryz.prog G0 146 zA (kP [.d tI, .d tI, .clo 120 []]) (.tu []) z6:=
 vA (fn:=Tryz.f146) (c:=j9 Tryz.f146) (S:=((zO.none U).add 120 (j1 [zA,zA] (.p tI) zM))) (A:=vN) (qQ zZ (by kernel_rfl) qY) (by kernel_rfl) (by kernel_rfl) (by kernel_rfl) (by intro ty h;cases h) (by rintro ⟨⟩ a0 ⟨a1,a2,⟨⟩,⟨⟩⟩;kernel_rfl)
theorem zAr:zAX U Tryz.prog G0 214 zA (kP [.d tI, .d tI, .d tI, .clo 120 []]) (.tu []) qD:=
 vA (fn:=Tryz.f214) (c:=j9 Tryz.f214) (S:=((zO.none U).add 120 (j1 [zA,zA] (.p tI) zM))) (A:=uA) (qQ zZ (by kernel_rfl) qY) (by kernel_rfl) (by kernel_rfl) (by kernel_rfl) (by intro ty h;cases h) (by rintro ⟨⟩ a0 ⟨a1,a2,a3,⟨⟩,⟨⟩⟩;kernel_rfl)
theorem zBn:zAX U Tryz.prog G0 175 zA (kP [.d tI, .d tI, .d tI, .clo 120 []]) (.tu []) jL:=
 vA (fn:=Tryz.f175) (c:=j9 Tryz.f175) (S:=(((zO.none U).addB 214 (wY zA (kP [.d tI, .d tI, .d tI, .clo 120 []]) (.tu []) qD)).add 120 (j1 [zA,zA] (.p tI) zM))) (A:=yT) (qQ (jZ zZ (by kernel_rfl) zAr) (by kernel_rfl) qY) (by kernel_rfl) (by kernel_rfl) (by kernel_rfl) (by intro ty h;cases h) (by rintro ⟨⟩ a0 ⟨a1,a2,a3,⟨⟩,⟨⟩⟩;kernel_rfl)
theorem zAs: ∀n,zAX U Tryz.prog G0 147 zA (kP [.d tI, .d tI, .d tI, .clo 120 []]) (.tu []) (z2 n):=by
 intro n
 induction n with
 |zero=>exact fun _ _ _ _ _ _ _ h=>by cases h
 |succ n ih=>exact vA (fn:=Tryz.f147) (c:=j9 Tryz.f147) (S:=((((zO.none U).addB 175 (wY zA (kP [.d tI, .d tI, .d tI, .clo 120 []]) (.tu []) jL)).add 120 (j1 [zA,zA] (.p tI) zM)).addB 147 (wY zA (kP [.d tI, .d tI, .d tI, .clo 120 []]) (.tu []) (z2 n)))) (A:=u6) (jZ (qQ (jZ zZ (by kernel_rfl) zBn) (by kernel_rfl) qY) (by kernel_rfl) ih) (by kernel_rfl) (by kernel_rfl) (by kernel_rfl) (by intro ty h;cases h) (by rintro ⟨⟩ a0 ⟨a1,a2,a3,⟨⟩,⟨⟩⟩;kernel_rfl)
theorem zAF:zAX U Tryz.prog G0 147 zA (kP [.d tI, .d tI, .d tI, .clo 120 []]) (.tu []) qF:=zAs _
theorem zBm:zAX U Tryz.prog G0 110 zA (kP [.d tI, .clo 120 []]) (.tu []) qL:=
 vA (fn:=Tryz.f110) (c:=j9 Tryz.f110) (S:=((((zO.none U).addB 146 (wY zA (kP [.d tI, .d tI, .clo 120 []]) (.tu []) z6)).addB 147 (wY zA (kP [.d tI, .d tI, .d tI, .clo 120 []]) (.tu []) qF)).add 120 (j1 [zA,zA] (.p tI) zM))) (A:=yS) (qQ (jZ (jZ zZ (by kernel_rfl) xE) (by kernel_rfl) zAF) (by kernel_rfl) qY) (by kernel_rfl) (by kernel_rfl) (by kernel_rfl) (by intro ty h;cases h) (by rintro ⟨⟩ a0 ⟨a1,⟨⟩,⟨⟩⟩;kernel_rfl)
theorem zAH:zAX U Tryz.prog G0 50 zA (kP [.clo 120 []]) (.tu []) qO:=
 vA (fn:=Tryz.f50) (c:=j9 Tryz.f50) (S:=(((zO.none U).addB 110 (wY zA (kP [.d tI, .clo 120 []]) (.tu []) qL)).add 120 (j1 [zA,zA] (.p tI) zM))) (A:=yB) (qQ (jZ zZ (by kernel_rfl) zBm) (by kernel_rfl) qY) (by kernel_rfl) (by kernel_rfl) (by kernel_rfl) (by intro ty h;cases h) (by rintro ⟨⟩ a0 ⟨⟨⟩,⟨⟩⟩;kernel_rfl)
noncomputable def zBu:Ent:=zZB (by kernel_rfl) zAH
end Go.Ve

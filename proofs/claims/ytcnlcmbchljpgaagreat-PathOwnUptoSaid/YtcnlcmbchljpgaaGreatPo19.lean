/-
  Contracts: sorting of routes, comparisons, merging as the document has it.
-/
import Derived.Test.YtcnlcmbchljpgaaGreatPo16
import Derived.Test.YtcnlcmbchljpgaaGreatPo17
set_option linter.unusedVariables false
namespace Go.Ve
open Go Go.Proofs
set_option maxRecDepth 1000000
set_option maxHeartbeats 0
def zHl:Nat→Option JA:=fun k=>match k with
 |12=>some ⟨336,[],[.t 0 (.sl zB)]⟩
 |_=>none
theorem zGm:wY U Tryz.prog G0 119 (qO (wE [(.sl zB)] (.o zB) xB)):=
 zSJ (t:=zB) (bytes:=136)
  (vO (fn:=Tryz.f119) (c:=wM Tryz.f119) (S:=zM.none U) (A:=fun _=>none) z8 (by kernel_rfl) (by kernel_rfl) (enc:=fun q=>[.tl zB (q.1::q.2)]) (fun _ _ h=>zEi h) (by rintro ⟨⟩ ⟨y,r⟩;kernel_rfl))
  (fun c=>vO (fn:=Tryz.f119) (c:=wM Tryz.f119) (S:=zM.none U) (A:=fun _=>none) z8 (by kernel_rfl) (by kernel_rfl) (enc:=fun _=>[.val (.slice none 0 c)]) (fun _ _ h=>yY h) (by rintro ⟨⟩ _;kernel_rfl))
  (fun a c=>vO (fn:=Tryz.f119) (c:=wM Tryz.f119) (S:=zM.none U) (A:=zHl) z8 (by kernel_rfl) (by kernel_rfl) (enc:=fun _=>[.val (.slice (some a) 0 c)]) (fun _ _ h=>yY h) (by rintro ⟨⟩ _;kernel_rfl))
noncomputable def zHb:Ent:=qD (by kernel_rfl) zGm
theorem zH9:OkX 148 [tU] (.p .bool) zAE:=fX [] (A:=fun _=>none) (fn:=Tryz.f148) (by kernel_rfl) (by kernel_rfl) (by rintro ⟨⟩ ⟨a1,⟨⟩⟩;kernel_rfl)
noncomputable def zJr:Ent:=qD (by kernel_rfl) zH9
theorem zGo:OkX 111 [tU,tU] (.p tI) w6:=fX [zJr] (A:=fun _=>none) (fn:=Tryz.f111) (by kernel_rfl) (by kernel_rfl) (by rintro ⟨⟩ ⟨a1,a2,⟨⟩⟩;kernel_rfl)
noncomputable def zAq:Ent:=qD (by kernel_rfl) zGo
theorem zLk:OkX 149 [tI] (.p .bool) zCC:=fX [] (A:=fun _=>none) (fn:=Tryz.f149) (by kernel_rfl) (by kernel_rfl) (by rintro ⟨⟩ ⟨a1,⟨⟩⟩;kernel_rfl)
noncomputable def zMX:Ent:=qD (by kernel_rfl) zLk
theorem zI6:OkX 112 [tI,tI] (.p tI) qC:=fX [zMX] (A:=fun _=>none) (fn:=Tryz.f112) (by kernel_rfl) (by kernel_rfl) (by rintro ⟨⟩ ⟨a1,a2,⟨⟩⟩;kernel_rfl)
noncomputable def zB1:Ent:=qD (by kernel_rfl) zI6
theorem zMJ:OkX 52 [zH,zH] (.p tI) zB3:=fX [zB1,zAq] (A:=fun _=>none) (fn:=Tryz.f52) (by kernel_rfl) (by kernel_rfl) (by rintro ⟨⟩ ⟨a1,a2,⟨⟩⟩;kernel_rfl)
noncomputable def zDQ:Ent:=qD (by kernel_rfl) zMJ
theorem jU:OkX 51 [zB,zB] (.p tI) zK:=fX [zDQ] (A:=fun _=>none) (fn:=Tryz.f51) (by kernel_rfl) (by kernel_rfl) (by rintro ⟨⟩ ⟨a1,a2,⟨⟩⟩;kernel_rfl)
def kB:Nat→Option JA:=fun k=>match k with
 |18=>some ⟨393530540216230608896,[],[.t 34 .bool, .o 0 1000000 zB]⟩
 |17=>some ⟨27043212804868893898573428817921,[],[.t 9 tI, .o 0 1000000 zB]⟩
 |8=>some ⟨27043212804868893898590608687105,[],[.o 0 1000000 zB]⟩
 |5=>some ⟨27043212804868893898596329783297,[],[.t 8 tI, .o 0 1000000 zB]⟩
 |27=>some ⟨0,[(229376,28,0)],[]⟩
 |_=>none
theorem zAP:zBt U Tryz.prog G0 146 zB (uF [.d tI, .d tI, .clo 51 []]) (.tu []) qB:=
 vP (fn:=Tryz.f146) (c:=wM Tryz.f146) (S:=((zM.none U).add 51 (wE [zB,zB] (.p tI) zK))) (A:=kB) (qW z8 (by kernel_rfl) jU) (by kernel_rfl) (by kernel_rfl) (by kernel_rfl) (by intro ty h;cases h) (by rintro ⟨⟩ a0 ⟨a1,a2,⟨⟩,⟨⟩⟩;kernel_rfl)
def uS:Nat→Option JA:=fun k=>match k with
 |5=>some ⟨25185954575304774123520,[],[.t 10 tI, .o 0 1000000 zB]⟩
 |15=>some ⟨0,[(14680064,240,0)],[]⟩
 |_=>none
theorem zBN:zBt U Tryz.prog G0 214 zB (uF [.d tI, .d tI, .d tI, .clo 51 []]) (.tu []) qI:=
 vP (fn:=Tryz.f214) (c:=wM Tryz.f214) (S:=((zM.none U).add 51 (wE [zB,zB] (.p tI) zK))) (A:=uS) (qW z8 (by kernel_rfl) jU) (by kernel_rfl) (by kernel_rfl) (by kernel_rfl) (by intro ty h;cases h) (by rintro ⟨⟩ a0 ⟨a1,a2,a3,⟨⟩,⟨⟩⟩;kernel_rfl)
def xQ:Nat→Option JA:=fun k=>match k with
 |9=>some ⟨422550200076076467142666485760,[],[.t 10 tI, .t 11 tI, .o 0 1000000 zB]⟩
 |32=>some ⟨422550200076076467142666485761,[],[.o 0 1000000 zB, .t 10 tI]⟩
 |_=>none
theorem zCI:zBt U Tryz.prog G0 175 zB (uF [.d tI, .d tI, .d tI, .clo 51 []]) (.tu []) jR:=
 vP (fn:=Tryz.f175) (c:=wM Tryz.f175) (S:=(((zM.none U).addB 214 (vG zB (uF [.d tI, .d tI, .d tI, .clo 51 []]) (.tu []) qI)).add 51 (wE [zB,zB] (.p tI) zK))) (A:=xQ) (qW (wD z8 (by kernel_rfl) zBN) (by kernel_rfl) jU) (by kernel_rfl) (by kernel_rfl) (by kernel_rfl) (by intro ty h;cases h) (by rintro ⟨⟩ a0 ⟨a1,a2,a3,⟨⟩,⟨⟩⟩;kernel_rfl)
def yU:Nat→Option JA:=fun k=>match k with
 |13=>some ⟨108172851219474038365712553082880,[],[.t 10 tI, .t 11 tI, .o 0 1000000 zB]⟩
 |32=>some ⟨108172851219474038365712553082881,[],[.t 10 tI, .o 0 1000000 zB]⟩
 |37=>some ⟨7611987694431353340905980601428263186080989184,[],[.t 13 tI, .o 0 1000000 zB]⟩
 |48=>some ⟨95701492081623040,[],[.o 0 1000000 zB]⟩
 |61=>some ⟨8776024305713067712791572581043614347964826669341339950268809216,[],[.t 14 tI, .t 15 tI, .o 0 1000000 zB]⟩
 |80=>some ⟨8776024305713067712791572581043614347964826669341339950268809217,[],[.t 14 tI, .o 0 1000000 zB]⟩
 |85=>some ⟨154389452316386489800871794282684571128465422743414453687476595640149915729920,[],[.t 17 tI, .o 0 1000000 zB]⟩
 |96=>some ⟨1941056862080105438239268918451313385480535408640,[],[.o 0 1000000 zB]⟩
 |128=>some ⟨10609521904473526996625843805009119098832509500200937719156538760962199709100267794333696,[],[.t 20 tI, .t 21 tI, .o 0 1000000 zB]⟩
 |133=>some ⟨764499538663357000783942270560188457895047628941246953623496807634286739017790823158231204167849349218304,[],[.t 20 tI, .t 21 tI, .o 0 1000000 zB]⟩
 |152=>some ⟨764499538663357000783942270560188457895047628941246953623496807634286739017790823158231204167849349218305,[],[.t 20 tI, .o 0 1000000 zB]⟩
 |158=>some ⟨3206494545043399178952856477303941710188861580056390473475048204570069134601788840466531538732204519858288721920,[],[.t 185 .bool, .o 0 1000000 zB]⟩
 |164=>some ⟨13134002016536855929638154452350358835248725019828429120392767161680012016911382180583746179467909413919528016936961,[],[.o 0 1000000 zB]⟩
 |166=>some ⟨860736825360237398392235630987637243571966904363317682461330469415747792098356565806344646337960982173420788448252395520,[],[.t 199 .bool, .o 0 1000000 zB]⟩
 |172=>some ⟨3525631820413990462278721905415098845703620374116253412696311352147399751845086587235272251873726100892181250531248580853761,[],[.o 0 1000000 zB]⟩
 |174=>some ⟨231052282211567690305673438463614133840824004789675571764370446924310312152915541592820132832889286359930080426986164194503557120,[],[.t 213 .bool, .o 0 1000000 zB]⟩
 |95=>some ⟨0,[(229376,28,0)],[]⟩
 |47=>some ⟨0,[(229376,28,0)],[]⟩
 |_=>none
theorem zBS: ∀n,zBt U Tryz.prog G0 147 zB (uF [.d tI, .d tI, .d tI, .clo 51 []]) (.tu []) (qA n):=by
 intro n
 induction n with
 |zero=>exact fun _ _ _ _ _ _ _ h=>by cases h
 |succ n ih=>exact vP (fn:=Tryz.f147) (c:=wM Tryz.f147) (S:=((((zM.none U).addB 175 (vG zB (uF [.d tI, .d tI, .d tI, .clo 51 []]) (.tu []) jR)).add 51 (wE [zB,zB] (.p tI) zK)).addB 147 (vG zB (uF [.d tI, .d tI, .d tI, .clo 51 []]) (.tu []) (qA n)))) (A:=yU) (wD (qW (wD z8 (by kernel_rfl) zCI) (by kernel_rfl) jU) (by kernel_rfl) ih) (by kernel_rfl) (by kernel_rfl) (by kernel_rfl) (by intro ty h;cases h) (by rintro ⟨⟩ a0 ⟨a1,a2,a3,⟨⟩,⟨⟩⟩;kernel_rfl)
theorem zB4:zBt U Tryz.prog G0 147 zB (uF [.d tI, .d tI, .d tI, .clo 51 []]) (.tu []) qK:=zBS _
def xP:Nat→Option JA:=fun k=>match k with
 |9=>some ⟨23456246743040,[],[.t 8 tI, .o 0 1000000 zB, .t 7 tI]⟩
 |24=>some ⟨23456246743041,[],[.o 0 1000000 zB, .t 7 tI]⟩
 |37=>some ⟨105637549994423458026445946880,[],[.t 8 tI, .o 0 1000000 zB, .t 7 tI]⟩
 |52=>some ⟨105637549994423458026445946881,[],[.t 7 tI, .o 0 1000000 zB]⟩
 |64=>some ⟨1772303888742337811519292622315454464,[],[.o 0 1000000 zB]⟩
 |29=>some ⟨28356863910078205288590531421301723137,[],[.t 6 tI, .o 0 1000000 zB]⟩
 |_=>none
theorem zCH:zBt U Tryz.prog G0 110 zB (uF [.d tI, .clo 51 []]) (.tu []) qQ:=
 vP (fn:=Tryz.f110) (c:=wM Tryz.f110) (S:=((((zM.none U).addB 146 (vG zB (uF [.d tI, .d tI, .clo 51 []]) (.tu []) qB)).addB 147 (vG zB (uF [.d tI, .d tI, .d tI, .clo 51 []]) (.tu []) qK)).add 51 (wE [zB,zB] (.p tI) zK))) (A:=xP) (qW (wD (wD z8 (by kernel_rfl) zAP) (by kernel_rfl) zB4) (by kernel_rfl) jU) (by kernel_rfl) (by kernel_rfl) (by kernel_rfl) (by intro ty h;cases h) (by rintro ⟨⟩ a0 ⟨a1,⟨⟩,⟨⟩⟩;kernel_rfl)
def yZ:Nat→Option JA:=fun _=>none
theorem zCo:zBt U Tryz.prog G0 50 zB (uF [.clo 51 []]) (.tu []) qU:=
 vP (fn:=Tryz.f50) (c:=wM Tryz.f50) (S:=(((zM.none U).addB 110 (vG zB (uF [.d tI, .clo 51 []]) (.tu []) qQ)).add 51 (wE [zB,zB] (.p tI) zK))) (A:=yZ) (qW (wD z8 (by kernel_rfl) zCH) (by kernel_rfl) jU) (by kernel_rfl) (by kernel_rfl) (by kernel_rfl) (by intro ty h;cases h) (by rintro ⟨⟩ a0 ⟨⟨⟩,⟨⟩⟩;kernel_rfl)
noncomputable def zCQ:Ent:=qAJ (by kernel_rfl) zCo
theorem zJ8:OkX 120 [zB,zB] (.p tI) zNC:=fX [zDQ] (A:=fun _=>none) (fn:=Tryz.f120) (by kernel_rfl) (by kernel_rfl) (by rintro ⟨⟩ ⟨a1,a2,⟨⟩⟩;kernel_rfl)
noncomputable def zLG:Ent:=qD (by kernel_rfl) zJ8
theorem zPp:OkX 163 [(.sl tI)] (.p tI) zBi:=fX [] (A:=(jl [jj 13 5726602256 [] [.t 8 tI],jj 32 5726622736 [] []])) (fn:=Tryz.f163) (by kernel_rfl) (by kernel_rfl) (by rintro ⟨⟩ ⟨a1,⟨⟩⟩;kernel_rfl)
noncomputable def zKJ:Ent:=qD (by kernel_rfl) zPp
theorem zMA:OkX 180 [zB] (.p tI) zDc:=fX [] (A:=fun _=>none) (fn:=Tryz.f180) (by kernel_rfl) (by kernel_rfl) (by rintro ⟨⟩ ⟨a1,⟨⟩⟩;kernel_rfl)
noncomputable def zOz:Ent:=qD (by kernel_rfl) zMA
theorem zMB:OkX 155 [zB,zB] (.p tI) xC:=fX [zAq,zOz,zKJ,zB1] (A:=(jl [jj 16 344064 [] [.t 7 .bool]])) (fn:=Tryz.f155) (by kernel_rfl) (by kernel_rfl) (by rintro ⟨⟩ ⟨a1,a2,⟨⟩⟩;kernel_rfl)
noncomputable def zOA:Ent:=qD (by kernel_rfl) zMB
theorem zCL:OkX 157 [qP,qP] (.p tI) x5:=fX [zKJ,zAq,zB1] (A:=fun _=>none) (fn:=Tryz.f157) (by kernel_rfl) (by kernel_rfl) (by rintro ⟨⟩ ⟨a1,a2,⟨⟩⟩;kernel_rfl)
noncomputable def zIb:Ent:=qD (by kernel_rfl) zCL
theorem zMI:OkX 49 [tU,tI] (.p zH) zDk:=fX [zKK,zMg] (A:=fun _=>none) (fn:=Tryz.f49) (by kernel_rfl) (by kernel_rfl) (by rintro ⟨⟩ ⟨a1,a2,⟨⟩⟩;kernel_rfl)
noncomputable def zOH:Ent:=qD (by kernel_rfl) zMI
theorem jB:OkX 120 [zB,zB] (.p tI) zK:=fX [zDQ] (A:=fun _=>none) (fn:=Tryz.f120) (by kernel_rfl) (by kernel_rfl) (by rintro ⟨⟩ ⟨a1,a2,⟨⟩⟩;kernel_rfl)
theorem x9:zBt U Tryz.prog G0 146 zB (uF [.d tI, .d tI, .clo 120 []]) (.tu []) qB:=
 vP (fn:=Tryz.f146) (c:=wM Tryz.f146) (S:=((zM.none U).add 120 (wE [zB,zB] (.p tI) zK))) (A:=kB) (qW z8 (by kernel_rfl) jB) (by kernel_rfl) (by kernel_rfl) (by kernel_rfl) (by intro ty h;cases h) (by rintro ⟨⟩ a0 ⟨a1,a2,⟨⟩,⟨⟩⟩;kernel_rfl)
theorem zAZ:zBt U Tryz.prog G0 214 zB (uF [.d tI, .d tI, .d tI, .clo 120 []]) (.tu []) qI:=
 vP (fn:=Tryz.f214) (c:=wM Tryz.f214) (S:=((zM.none U).add 120 (wE [zB,zB] (.p tI) zK))) (A:=uS) (qW z8 (by kernel_rfl) jB) (by kernel_rfl) (by kernel_rfl) (by kernel_rfl) (by intro ty h;cases h) (by rintro ⟨⟩ a0 ⟨a1,a2,a3,⟨⟩,⟨⟩⟩;kernel_rfl)
theorem zBP:zBt U Tryz.prog G0 175 zB (uF [.d tI, .d tI, .d tI, .clo 120 []]) (.tu []) jR:=
 vP (fn:=Tryz.f175) (c:=wM Tryz.f175) (S:=(((zM.none U).addB 214 (vG zB (uF [.d tI, .d tI, .d tI, .clo 120 []]) (.tu []) qI)).add 120 (wE [zB,zB] (.p tI) zK))) (A:=xQ) (qW (wD z8 (by kernel_rfl) zAZ) (by kernel_rfl) jB) (by kernel_rfl) (by kernel_rfl) (by kernel_rfl) (by intro ty h;cases h) (by rintro ⟨⟩ a0 ⟨a1,a2,a3,⟨⟩,⟨⟩⟩;kernel_rfl)
theorem zA0: ∀n,zBt U Tryz.prog G0 147 zB (uF [.d tI, .d tI, .d tI, .clo 120 []]) (.tu []) (qA n):=by
 intro n
 induction n with
 |zero=>exact fun _ _ _ _ _ _ _ h=>by cases h
 |succ n ih=>exact vP (fn:=Tryz.f147) (c:=wM Tryz.f147) (S:=((((zM.none U).addB 175 (vG zB (uF [.d tI, .d tI, .d tI, .clo 120 []]) (.tu []) jR)).add 120 (wE [zB,zB] (.p tI) zK)).addB 147 (vG zB (uF [.d tI, .d tI, .d tI, .clo 120 []]) (.tu []) (qA n)))) (A:=yU) (wD (qW (wD z8 (by kernel_rfl) zBP) (by kernel_rfl) jB) (by kernel_rfl) ih) (by kernel_rfl) (by kernel_rfl) (by kernel_rfl) (by intro ty h;cases h) (by rintro ⟨⟩ a0 ⟨a1,a2,a3,⟨⟩,⟨⟩⟩;kernel_rfl)
theorem zBd:zBt U Tryz.prog G0 147 zB (uF [.d tI, .d tI, .d tI, .clo 120 []]) (.tu []) qK:=zA0 _
theorem zBO:zBt U Tryz.prog G0 110 zB (uF [.d tI, .clo 120 []]) (.tu []) qQ:=
 vP (fn:=Tryz.f110) (c:=wM Tryz.f110) (S:=((((zM.none U).addB 146 (vG zB (uF [.d tI, .d tI, .clo 120 []]) (.tu []) qB)).addB 147 (vG zB (uF [.d tI, .d tI, .d tI, .clo 120 []]) (.tu []) qK)).add 120 (wE [zB,zB] (.p tI) zK))) (A:=xP) (qW (wD (wD z8 (by kernel_rfl) x9) (by kernel_rfl) zBd) (by kernel_rfl) jB) (by kernel_rfl) (by kernel_rfl) (by kernel_rfl) (by intro ty h;cases h) (by rintro ⟨⟩ a0 ⟨a1,⟨⟩,⟨⟩⟩;kernel_rfl)
theorem zBf:zBt U Tryz.prog G0 50 zB (uF [.clo 120 []]) (.tu []) qU:=
 vP (fn:=Tryz.f50) (c:=wM Tryz.f50) (S:=(((zM.none U).addB 110 (vG zB (uF [.d tI, .clo 120 []]) (.tu []) qQ)).add 120 (wE [zB,zB] (.p tI) zK))) (A:=yZ) (qW (wD z8 (by kernel_rfl) zBO) (by kernel_rfl) jB) (by kernel_rfl) (by kernel_rfl) (by kernel_rfl) (by intro ty h;cases h) (by rintro ⟨⟩ a0 ⟨⟨⟩,⟨⟩⟩;kernel_rfl)
noncomputable def zBW:Ent:=qAJ (by kernel_rfl) zBf
end Go.Ve

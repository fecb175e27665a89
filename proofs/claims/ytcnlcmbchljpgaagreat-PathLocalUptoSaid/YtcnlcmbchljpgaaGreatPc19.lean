/-
  Contracts: sorting of routes, comparisons, merging as the document has it.
-/
import Derived.Test.YtcnlcmbchljpgaaGreatPc16
import Derived.Test.YtcnlcmbchljpgaaGreatPc17
set_option linter.unusedVariables false
namespace Go.Ve
open Go Go.Proofs
set_option maxRecDepth 1000000
set_option maxHeartbeats 0
def zHK:Nat→Option JA:=fun k=>match k with
 |12=>some ⟨336,[],[.t 0 (.sl zA)]⟩
 |_=>none
theorem zGB:wV U Tryz.prog G0 119 (qP (wB [(.sl zA)] (.o zA) yS)):=
 zTq (t:=zA) (bytes:=136)
  (vF (fn:=Tryz.f119) (c:=wI Tryz.f119) (S:=zN.none U) (A:=fun _=>none) z7 (by kernel_rfl) (by kernel_rfl) (enc:=fun q=>[.tl zA (q.1::q.2)]) (fun _ _ h=>zEv h) (by rintro ⟨⟩ ⟨y,r⟩;kernel_rfl))
  (fun c=>vF (fn:=Tryz.f119) (c:=wI Tryz.f119) (S:=zN.none U) (A:=fun _=>none) z7 (by kernel_rfl) (by kernel_rfl) (enc:=fun _=>[.val (.slice none 0 c)]) (fun _ _ h=>yP h) (by rintro ⟨⟩ _;kernel_rfl))
  (fun a c=>vF (fn:=Tryz.f119) (c:=wI Tryz.f119) (S:=zN.none U) (A:=zHK) z7 (by kernel_rfl) (by kernel_rfl) (enc:=fun _=>[.val (.slice (some a) 0 c)]) (fun _ _ h=>yP h) (by rintro ⟨⟩ _;kernel_rfl))
noncomputable def zHv:Ent:=z2 (by kernel_rfl) zGB
theorem zIz:OkX 148 [tU] (.p .bool) zAu:=fX [] (A:=fun _=>none) (fn:=Tryz.f148) (by kernel_rfl) (by kernel_rfl) (by rintro ⟨⟩ ⟨a1,⟨⟩⟩;kernel_rfl)
noncomputable def zJV:Ent:=z2 (by kernel_rfl) zIz
theorem zGG:OkX 111 [tU,tU] (.p tI) w4:=fX [zJV] (A:=fun _=>none) (fn:=Tryz.f111) (by kernel_rfl) (by kernel_rfl) (by rintro ⟨⟩ ⟨a1,a2,⟨⟩⟩;kernel_rfl)
noncomputable def zAe:Ent:=z2 (by kernel_rfl) zGG
theorem zLV:OkX 149 [tI] (.p .bool) zCx:=fX [] (A:=fun _=>none) (fn:=Tryz.f149) (by kernel_rfl) (by kernel_rfl) (by rintro ⟨⟩ ⟨a1,⟨⟩⟩;kernel_rfl)
noncomputable def zNE:Ent:=z2 (by kernel_rfl) zLV
theorem zJA:OkX 112 [tI,tI] (.p tI) qB:=fX [zNE] (A:=fun _=>none) (fn:=Tryz.f112) (by kernel_rfl) (by kernel_rfl) (by rintro ⟨⟩ ⟨a1,a2,⟨⟩⟩;kernel_rfl)
noncomputable def zBZ:Ent:=z2 (by kernel_rfl) zJA
theorem zNn:OkX 52 [zG,zG] (.p tI) zB1:=fX [zBZ,zAe] (A:=fun _=>none) (fn:=Tryz.f52) (by kernel_rfl) (by kernel_rfl) (by rintro ⟨⟩ ⟨a1,a2,⟨⟩⟩;kernel_rfl)
noncomputable def zDV:Ent:=z2 (by kernel_rfl) zNn
theorem jU:OkX 51 [zA,zA] (.p tI) zL:=fX [zDV] (A:=fun _=>none) (fn:=Tryz.f51) (by kernel_rfl) (by kernel_rfl) (by rintro ⟨⟩ ⟨a1,a2,⟨⟩⟩;kernel_rfl)
def vT:Nat→Option JA:=fun k=>match k with
 |18=>some ⟨393530540216230608896,[],[.t 34 .bool, .o 0 1000000 zA]⟩
 |17=>some ⟨27043212804868893898573428817921,[],[.t 9 tI, .o 0 1000000 zA]⟩
 |8=>some ⟨27043212804868893898590608687105,[],[.o 0 1000000 zA]⟩
 |5=>some ⟨27043212804868893898596329783297,[],[.t 8 tI, .o 0 1000000 zA]⟩
 |27=>some ⟨0,[(229376,28,0)],[]⟩
 |_=>none
theorem zAG:zBn U Tryz.prog G0 146 zA (kY [.d tI, .d tI, .clo 51 []]) (.tu []) qA:=
 vG (fn:=Tryz.f146) (c:=wI Tryz.f146) (S:=((zN.none U).add 51 (wB [zA,zA] (.p tI) zL))) (A:=vT) (qV z7 (by kernel_rfl) jU) (by kernel_rfl) (by kernel_rfl) (by kernel_rfl) (by intro ty h;cases h) (by rintro ⟨⟩ a0 ⟨a1,a2,⟨⟩,⟨⟩⟩;kernel_rfl)
def uL:Nat→Option JA:=fun k=>match k with
 |5=>some ⟨25185954575304774123520,[],[.t 10 tI, .o 0 1000000 zA]⟩
 |15=>some ⟨0,[(14680064,240,0)],[]⟩
 |_=>none
theorem zBL:zBn U Tryz.prog G0 214 zA (kY [.d tI, .d tI, .d tI, .clo 51 []]) (.tu []) qG:=
 vG (fn:=Tryz.f214) (c:=wI Tryz.f214) (S:=((zN.none U).add 51 (wB [zA,zA] (.p tI) zL))) (A:=uL) (qV z7 (by kernel_rfl) jU) (by kernel_rfl) (by kernel_rfl) (by kernel_rfl) (by intro ty h;cases h) (by rintro ⟨⟩ a0 ⟨a1,a2,a3,⟨⟩,⟨⟩⟩;kernel_rfl)
def xI:Nat→Option JA:=fun k=>match k with
 |9=>some ⟨422550200076076467142666485760,[],[.t 10 tI, .t 11 tI, .o 0 1000000 zA]⟩
 |32=>some ⟨422550200076076467142666485761,[],[.o 0 1000000 zA, .t 10 tI]⟩
 |_=>none
theorem zCD:zBn U Tryz.prog G0 175 zA (kY [.d tI, .d tI, .d tI, .clo 51 []]) (.tu []) jP:=
 vG (fn:=Tryz.f175) (c:=wI Tryz.f175) (S:=(((zN.none U).addB 214 (vA zA (kY [.d tI, .d tI, .d tI, .clo 51 []]) (.tu []) qG)).add 51 (wB [zA,zA] (.p tI) zL))) (A:=xI) (qV (wA z7 (by kernel_rfl) zBL) (by kernel_rfl) jU) (by kernel_rfl) (by kernel_rfl) (by kernel_rfl) (by intro ty h;cases h) (by rintro ⟨⟩ a0 ⟨a1,a2,a3,⟨⟩,⟨⟩⟩;kernel_rfl)
def yL:Nat→Option JA:=fun k=>match k with
 |13=>some ⟨108172851219474038365712553082880,[],[.t 10 tI, .t 11 tI, .o 0 1000000 zA]⟩
 |32=>some ⟨108172851219474038365712553082881,[],[.t 10 tI, .o 0 1000000 zA]⟩
 |37=>some ⟨7611987694431353340905980601428263186080989184,[],[.t 13 tI, .o 0 1000000 zA]⟩
 |48=>some ⟨95701492081623040,[],[.o 0 1000000 zA]⟩
 |61=>some ⟨8776024305713067712791572581043614347964826669341339950268809216,[],[.t 14 tI, .t 15 tI, .o 0 1000000 zA]⟩
 |80=>some ⟨8776024305713067712791572581043614347964826669341339950268809217,[],[.t 14 tI, .o 0 1000000 zA]⟩
 |85=>some ⟨154389452316386489800871794282684571128465422743414453687476595640149915729920,[],[.t 17 tI, .o 0 1000000 zA]⟩
 |96=>some ⟨1941056862080105438239268918451313385480535408640,[],[.o 0 1000000 zA]⟩
 |128=>some ⟨10609521904473526996625843805009119098832509500200937719156538760962199709100267794333696,[],[.t 20 tI, .t 21 tI, .o 0 1000000 zA]⟩
 |133=>some ⟨764499538663357000783942270560188457895047628941246953623496807634286739017790823158231204167849349218304,[],[.t 20 tI, .t 21 tI, .o 0 1000000 zA]⟩
 |152=>some ⟨764499538663357000783942270560188457895047628941246953623496807634286739017790823158231204167849349218305,[],[.t 20 tI, .o 0 1000000 zA]⟩
 |158=>some ⟨3206494545043399178952856477303941710188861580056390473475048204570069134601788840466531538732204519858288721920,[],[.t 185 .bool, .o 0 1000000 zA]⟩
 |164=>some ⟨13134002016536855929638154452350358835248725019828429120392767161680012016911382180583746179467909413919528016936961,[],[.o 0 1000000 zA]⟩
 |166=>some ⟨860736825360237398392235630987637243571966904363317682461330469415747792098356565806344646337960982173420788448252395520,[],[.t 199 .bool, .o 0 1000000 zA]⟩
 |172=>some ⟨3525631820413990462278721905415098845703620374116253412696311352147399751845086587235272251873726100892181250531248580853761,[],[.o 0 1000000 zA]⟩
 |174=>some ⟨231052282211567690305673438463614133840824004789675571764370446924310312152915541592820132832889286359930080426986164194503557120,[],[.t 213 .bool, .o 0 1000000 zA]⟩
 |95=>some ⟨0,[(229376,28,0)],[]⟩
 |47=>some ⟨0,[(229376,28,0)],[]⟩
 |_=>none
theorem zBQ: ∀n,zBn U Tryz.prog G0 147 zA (kY [.d tI, .d tI, .d tI, .clo 51 []]) (.tu []) (z8 n):=by
 intro n
 induction n with
 |zero=>exact fun _ _ _ _ _ _ _ h=>by cases h
 |succ n ih=>exact vG (fn:=Tryz.f147) (c:=wI Tryz.f147) (S:=((((zN.none U).addB 175 (vA zA (kY [.d tI, .d tI, .d tI, .clo 51 []]) (.tu []) jP)).add 51 (wB [zA,zA] (.p tI) zL)).addB 147 (vA zA (kY [.d tI, .d tI, .d tI, .clo 51 []]) (.tu []) (z8 n)))) (A:=yL) (wA (qV (wA z7 (by kernel_rfl) zCD) (by kernel_rfl) jU) (by kernel_rfl) ih) (by kernel_rfl) (by kernel_rfl) (by kernel_rfl) (by intro ty h;cases h) (by rintro ⟨⟩ a0 ⟨a1,a2,a3,⟨⟩,⟨⟩⟩;kernel_rfl)
theorem zB2:zBn U Tryz.prog G0 147 zA (kY [.d tI, .d tI, .d tI, .clo 51 []]) (.tu []) qJ:=zBQ _
def xH:Nat→Option JA:=fun k=>match k with
 |9=>some ⟨23456246743040,[],[.t 8 tI, .o 0 1000000 zA, .t 7 tI]⟩
 |24=>some ⟨23456246743041,[],[.o 0 1000000 zA, .t 7 tI]⟩
 |37=>some ⟨105637549994423458026445946880,[],[.t 8 tI, .o 0 1000000 zA, .t 7 tI]⟩
 |52=>some ⟨105637549994423458026445946881,[],[.t 7 tI, .o 0 1000000 zA]⟩
 |64=>some ⟨1772303888742337811519292622315454464,[],[.o 0 1000000 zA]⟩
 |29=>some ⟨28356863910078205288590531421301723137,[],[.t 6 tI, .o 0 1000000 zA]⟩
 |_=>none
theorem zCC:zBn U Tryz.prog G0 110 zA (kY [.d tI, .clo 51 []]) (.tu []) qQ:=
 vG (fn:=Tryz.f110) (c:=wI Tryz.f110) (S:=((((zN.none U).addB 146 (vA zA (kY [.d tI, .d tI, .clo 51 []]) (.tu []) qA)).addB 147 (vA zA (kY [.d tI, .d tI, .d tI, .clo 51 []]) (.tu []) qJ)).add 51 (wB [zA,zA] (.p tI) zL))) (A:=xH) (qV (wA (wA z7 (by kernel_rfl) zAG) (by kernel_rfl) zB2) (by kernel_rfl) jU) (by kernel_rfl) (by kernel_rfl) (by kernel_rfl) (by intro ty h;cases h) (by rintro ⟨⟩ a0 ⟨a1,⟨⟩,⟨⟩⟩;kernel_rfl)
def yQ:Nat→Option JA:=fun _=>none
theorem zCm:zBn U Tryz.prog G0 50 zA (kY [.clo 51 []]) (.tu []) qT:=
 vG (fn:=Tryz.f50) (c:=wI Tryz.f50) (S:=(((zN.none U).addB 110 (vA zA (kY [.d tI, .clo 51 []]) (.tu []) qQ)).add 51 (wB [zA,zA] (.p tI) zL))) (A:=yQ) (qV (wA z7 (by kernel_rfl) zCC) (by kernel_rfl) jU) (by kernel_rfl) (by kernel_rfl) (by kernel_rfl) (by intro ty h;cases h) (by rintro ⟨⟩ a0 ⟨⟨⟩,⟨⟩⟩;kernel_rfl)
noncomputable def zCK:Ent:=qA6 (by kernel_rfl) zCm
theorem zKE:OkX 120 [zA,zA] (.p tI) zOk:=fX [zDV] (A:=fun _=>none) (fn:=Tryz.f120) (by kernel_rfl) (by kernel_rfl) (by rintro ⟨⟩ ⟨a1,a2,⟨⟩⟩;kernel_rfl)
noncomputable def zMf:Ent:=z2 (by kernel_rfl) zKE
theorem zQc:OkX 163 [(.sl tI)] (.p tI) zBc:=fX [] (A:=(jl [jj 13 5726602256 [] [.t 8 tI],jj 32 5726622736 [] []])) (fn:=Tryz.f163) (by kernel_rfl) (by kernel_rfl) (by rintro ⟨⟩ ⟨a1,⟨⟩⟩;kernel_rfl)
noncomputable def zLh:Ent:=z2 (by kernel_rfl) zQc
theorem zNb:OkX 180 [zA] (.p tI) zC9:=fX [] (A:=fun _=>none) (fn:=Tryz.f180) (by kernel_rfl) (by kernel_rfl) (by rintro ⟨⟩ ⟨a1,⟨⟩⟩;kernel_rfl)
noncomputable def zPj:Ent:=z2 (by kernel_rfl) zNb
theorem zNc:OkX 155 [zA,zA] (.p tI) yT:=fX [zAe,zPj,zLh,zBZ] (A:=(jl [jj 16 344064 [] [.t 7 .bool]])) (fn:=Tryz.f155) (by kernel_rfl) (by kernel_rfl) (by rintro ⟨⟩ ⟨a1,a2,⟨⟩⟩;kernel_rfl)
noncomputable def zPk:Ent:=z2 (by kernel_rfl) zNc
theorem zCG:OkX 157 [qS,qS] (.p tI) xQ:=fX [zLh,zAe,zBZ] (A:=fun _=>none) (fn:=Tryz.f157) (by kernel_rfl) (by kernel_rfl) (by rintro ⟨⟩ ⟨a1,a2,⟨⟩⟩;kernel_rfl)
noncomputable def zIB:Ent:=z2 (by kernel_rfl) zCG
theorem zNm:OkX 49 [tU,tI] (.p zG) zDi:=fX [zLi,zMQ] (A:=fun _=>none) (fn:=Tryz.f49) (by kernel_rfl) (by kernel_rfl) (by rintro ⟨⟩ ⟨a1,a2,⟨⟩⟩;kernel_rfl)
noncomputable def zPs:Ent:=z2 (by kernel_rfl) zNm
theorem zLR:OkX 55 [zO,tI,tI] (.p zG) zCu:=fX [zHz] (A:=fun _=>none) (fn:=Tryz.f55) (by kernel_rfl) (by kernel_rfl) (by rintro ⟨⟩ ⟨a1,a2,a3,⟨⟩⟩;kernel_rfl)
noncomputable def zNB:Ent:=z2 (by kernel_rfl) zLR
theorem q8:OkX 120 [zA,zA] (.p tI) zL:=fX [zDV] (A:=fun _=>none) (fn:=Tryz.f120) (by kernel_rfl) (by kernel_rfl) (by rintro ⟨⟩ ⟨a1,a2,⟨⟩⟩;kernel_rfl)
theorem xU:zBn U Tryz.prog G0 146 zA (kY [.d tI, .d tI, .clo 120 []]) (.tu []) qA:=
 vG (fn:=Tryz.f146) (c:=wI Tryz.f146) (S:=((zN.none U).add 120 (wB [zA,zA] (.p tI) zL))) (A:=vT) (qV z7 (by kernel_rfl) q8) (by kernel_rfl) (by kernel_rfl) (by kernel_rfl) (by intro ty h;cases h) (by rintro ⟨⟩ a0 ⟨a1,a2,⟨⟩,⟨⟩⟩;kernel_rfl)
theorem zAQ:zBn U Tryz.prog G0 214 zA (kY [.d tI, .d tI, .d tI, .clo 120 []]) (.tu []) qG:=
 vG (fn:=Tryz.f214) (c:=wI Tryz.f214) (S:=((zN.none U).add 120 (wB [zA,zA] (.p tI) zL))) (A:=uL) (qV z7 (by kernel_rfl) q8) (by kernel_rfl) (by kernel_rfl) (by kernel_rfl) (by intro ty h;cases h) (by rintro ⟨⟩ a0 ⟨a1,a2,a3,⟨⟩,⟨⟩⟩;kernel_rfl)
theorem zBN:zBn U Tryz.prog G0 175 zA (kY [.d tI, .d tI, .d tI, .clo 120 []]) (.tu []) jP:=
 vG (fn:=Tryz.f175) (c:=wI Tryz.f175) (S:=(((zN.none U).addB 214 (vA zA (kY [.d tI, .d tI, .d tI, .clo 120 []]) (.tu []) qG)).add 120 (wB [zA,zA] (.p tI) zL))) (A:=xI) (qV (wA z7 (by kernel_rfl) zAQ) (by kernel_rfl) q8) (by kernel_rfl) (by kernel_rfl) (by kernel_rfl) (by intro ty h;cases h) (by rintro ⟨⟩ a0 ⟨a1,a2,a3,⟨⟩,⟨⟩⟩;kernel_rfl)
theorem zAR: ∀n,zBn U Tryz.prog G0 147 zA (kY [.d tI, .d tI, .d tI, .clo 120 []]) (.tu []) (z8 n):=by
 intro n
 induction n with
 |zero=>exact fun _ _ _ _ _ _ _ h=>by cases h
 |succ n ih=>exact vG (fn:=Tryz.f147) (c:=wI Tryz.f147) (S:=((((zN.none U).addB 175 (vA zA (kY [.d tI, .d tI, .d tI, .clo 120 []]) (.tu []) jP)).add 120 (wB [zA,zA] (.p tI) zL)).addB 147 (vA zA (kY [.d tI, .d tI, .d tI, .clo 120 []]) (.tu []) (z8 n)))) (A:=yL) (wA (qV (wA z7 (by kernel_rfl) zBN) (by kernel_rfl) q8) (by kernel_rfl) ih) (by kernel_rfl) (by kernel_rfl) (by kernel_rfl) (by intro ty h;cases h) (by rintro ⟨⟩ a0 ⟨a1,a2,a3,⟨⟩,⟨⟩⟩;kernel_rfl)
theorem zA6:zBn U Tryz.prog G0 147 zA (kY [.d tI, .d tI, .d tI, .clo 120 []]) (.tu []) qJ:=zAR _
theorem zBM:zBn U Tryz.prog G0 110 zA (kY [.d tI, .clo 120 []]) (.tu []) qQ:=
 vG (fn:=Tryz.f110) (c:=wI Tryz.f110) (S:=((((zN.none U).addB 146 (vA zA (kY [.d tI, .d tI, .clo 120 []]) (.tu []) qA)).addB 147 (vA zA (kY [.d tI, .d tI, .d tI, .clo 120 []]) (.tu []) qJ)).add 120 (wB [zA,zA] (.p tI) zL))) (A:=xH) (qV (wA (wA z7 (by kernel_rfl) xU) (by kernel_rfl) zA6) (by kernel_rfl) q8) (by kernel_rfl) (by kernel_rfl) (by kernel_rfl) (by intro ty h;cases h) (by rintro ⟨⟩ a0 ⟨a1,⟨⟩,⟨⟩⟩;kernel_rfl)
theorem zA8:zBn U Tryz.prog G0 50 zA (kY [.clo 120 []]) (.tu []) qT:=
 vG (fn:=Tryz.f50) (c:=wI Tryz.f50) (S:=(((zN.none U).addB 110 (vA zA (kY [.d tI, .clo 120 []]) (.tu []) qQ)).add 120 (wB [zA,zA] (.p tI) zL))) (A:=yQ) (qV (wA z7 (by kernel_rfl) zBM) (by kernel_rfl) q8) (by kernel_rfl) (by kernel_rfl) (by kernel_rfl) (by intro ty h;cases h) (by rintro ⟨⟩ a0 ⟨⟨⟩,⟨⟩⟩;kernel_rfl)
noncomputable def zBT:Ent:=qA6 (by kernel_rfl) zA8
end Go.Ve

/-
  Contracts: sorting of routes, comparisons, merging as the document has it.
-/
import Derived.Test.YtcnlcmbchljpgaaGreatQt18
import Derived.Test.YtcnlcmbchljpgaaGreatQt19
set_option linter.unusedVariables false
namespace Go.Ve
open Go Go.Proofs
set_option maxRecDepth 1000000
set_option maxHeartbeats 0
def zGx : Nat → Option JA := fun k => match k with
 | 12 => some ⟨336, [], [.t 0 (.sl zA)]⟩
 | _ => none
theorem zFr : wC U Tryz.prog G0 119 (qI (jQ [(.sl zA)] (.o zA) uX)) :=
 zRL (t := zA) (bytes := 136)
  (zBD (fn := Tryz.f119) (c := vJ Tryz.f119) (S := zR.none U) (A := fun _ => none) qF (by kernel_rfl) (by kernel_rfl) (enc := fun q => [.tl zA (q.1 :: q.2)]) (fun _ _ h => zLt h) (by rintro ⟨⟩ ⟨y, r⟩; kernel_rfl))
  (fun c => zBD (fn := Tryz.f119) (c := vJ Tryz.f119) (S := zR.none U) (A := fun _ => none) qF (by kernel_rfl) (by kernel_rfl) (enc := fun _ => [.val (.slice none 0 c)]) (fun _ _ h => zDu h) (by rintro ⟨⟩ _; kernel_rfl))
  (fun a c => zBD (fn := Tryz.f119) (c := vJ Tryz.f119) (S := zR.none U) (A := zGx) qF (by kernel_rfl) (by kernel_rfl) (enc := fun _ => [.val (.slice (some a) 0 c)]) (fun _ _ h => zDu h) (by rintro ⟨⟩ _; kernel_rfl))
noncomputable def zGh : Ent := z7 (by kernel_rfl) zFr
theorem zHd : OkX 148 [tU] (.p .bool) xV := fX [] (A := fun _ => none) (fn := Tryz.f148) (by kernel_rfl) (by kernel_rfl) (by rintro ⟨⟩ ⟨a1, ⟨⟩⟩; kernel_rfl)
noncomputable def zIs : Ent := z7 (by kernel_rfl) zHd
theorem zFw : OkX 111 [tU, tU] (.p tI) wH := fX [zIs] (A := fun _ => none) (fn := Tryz.f111) (by kernel_rfl) (by kernel_rfl) (by rintro ⟨⟩ ⟨a1, a2, ⟨⟩⟩; kernel_rfl)
noncomputable def xF : Ent := z7 (by kernel_rfl) zFw
theorem zKx : OkX 149 [tI] (.p .bool) zBL := fX [] (A := fun _ => none) (fn := Tryz.f149) (by kernel_rfl) (by kernel_rfl) (by rintro ⟨⟩ ⟨a1, ⟨⟩⟩; kernel_rfl)
noncomputable def zMa : Ent := z7 (by kernel_rfl) zKx
theorem zH9 : OkX 112 [tI, tI] (.p tI) zZ := fX [zMa] (A := fun _ => none) (fn := Tryz.f112) (by kernel_rfl) (by kernel_rfl) (by rintro ⟨⟩ ⟨a1, a2, ⟨⟩⟩; kernel_rfl)
noncomputable def zBj : Ent := z7 (by kernel_rfl) zH9
theorem zLT : OkX 52 [zF, zF] (.p tI) zBm := fX [zBj, xF] (A := fun _ => none) (fn := Tryz.f52) (by kernel_rfl) (by kernel_rfl) (by rintro ⟨⟩ ⟨a1, a2, ⟨⟩⟩; kernel_rfl)
noncomputable def zCX : Ent := z7 (by kernel_rfl) zLT
theorem qU : OkX 51 [zA, zA] (.p tI) zL := fX [zCX] (A := fun _ => none) (fn := Tryz.f51) (by kernel_rfl) (by kernel_rfl) (by rintro ⟨⟩ ⟨a1, a2, ⟨⟩⟩; kernel_rfl)
noncomputable def zFy : Ent := z7 (by kernel_rfl) qU
def w9 : Nat → Option JA := fun k => match k with
 | 18 => some ⟨393530540216230608896, [], [.t 34 .bool, .o 0 1000000 zA]⟩
 | 17 => some ⟨27043212804868893898573428817921, [], [.t 9 tI, .o 0 1000000 zA]⟩
 | 8 => some ⟨27043212804868893898590608687105, [], [.o 0 1000000 zA]⟩
 | 5 => some ⟨27043212804868893898596329783297, [], [.t 8 tI, .o 0 1000000 zA]⟩
 | 27 => some ⟨0, [(229376, 28, 0)], []⟩
 | _ => none
theorem x4 : zAN U Tryz.prog G0 146 zA (kK [.d tI, .d tI, .clo 51 []]) (.tu []) zY :=
 wR (fn := Tryz.f146) (c := vJ Tryz.f146) (S := ((zR.none U).add 51 (jQ [zA, zA] (.p tI) zL))) (A := w9) (qT qF (by kernel_rfl) qU) (by kernel_rfl) (by kernel_rfl) (by kernel_rfl) (by intro ty h; cases h) (by rintro ⟨⟩ a0 ⟨a1, a2, ⟨⟩, ⟨⟩⟩; kernel_rfl)
def kJ : Nat → Option JA := fun k => match k with
 | 5 => some ⟨25185954575304774123520, [], [.t 10 tI, .o 0 1000000 zA]⟩
 | 15 => some ⟨0, [(14680064, 240, 0)], []⟩
 | _ => none
theorem zA8 : zAN U Tryz.prog G0 214 zA (kK [.d tI, .d tI, .d tI, .clo 51 []]) (.tu []) qB :=
 wR (fn := Tryz.f214) (c := vJ Tryz.f214) (S := ((zR.none U).add 51 (jQ [zA, zA] (.p tI) zL))) (A := kJ) (qT qF (by kernel_rfl) qU) (by kernel_rfl) (by kernel_rfl) (by kernel_rfl) (by intro ty h; cases h) (by rintro ⟨⟩ a0 ⟨a1, a2, a3, ⟨⟩, ⟨⟩⟩; kernel_rfl)
def yC : Nat → Option JA := fun k => match k with
 | 9 => some ⟨422550200076076467142666485760, [], [.t 10 tI, .t 11 tI, .o 0 1000000 zA]⟩
 | 32 => some ⟨422550200076076467142666485761, [], [.o 0 1000000 zA, .t 10 tI]⟩
 | _ => none
theorem zBT : zAN U Tryz.prog G0 175 zA (kK [.d tI, .d tI, .d tI, .clo 51 []]) (.tu []) jF :=
 wR (fn := Tryz.f175) (c := vJ Tryz.f175) (S := (((zR.none U).addB 214 (wP zA (kK [.d tI, .d tI, .d tI, .clo 51 []]) (.tu []) qB)).add 51 (jQ [zA, zA] (.p tI) zL))) (A := yC) (qT (jS qF (by kernel_rfl) zA8) (by kernel_rfl) qU) (by kernel_rfl) (by kernel_rfl) (by kernel_rfl) (by intro ty h; cases h) (by rintro ⟨⟩ a0 ⟨a1, a2, a3, ⟨⟩, ⟨⟩⟩; kernel_rfl)
def uP : Nat → Option JA := fun k => match k with
 | 13 => some ⟨108172851219474038365712553082880, [], [.t 10 tI, .t 11 tI, .o 0 1000000 zA]⟩
 | 32 => some ⟨108172851219474038365712553082881, [], [.t 10 tI, .o 0 1000000 zA]⟩
 | 37 => some ⟨7611987694431353340905980601428263186080989184, [], [.t 13 tI, .o 0 1000000 zA]⟩
 | 48 => some ⟨95701492081623040, [], [.o 0 1000000 zA]⟩
 | 61 => some ⟨8776024305713067712791572581043614347964826669341339950268809216, [], [.t 14 tI, .t 15 tI, .o 0 1000000 zA]⟩
 | 80 => some ⟨8776024305713067712791572581043614347964826669341339950268809217, [], [.t 14 tI, .o 0 1000000 zA]⟩
 | 85 => some ⟨154389452316386489800871794282684571128465422743414453687476595640149915729920, [], [.t 17 tI, .o 0 1000000 zA]⟩
 | 96 => some ⟨1941056862080105438239268918451313385480535408640, [], [.o 0 1000000 zA]⟩
 | 128 => some ⟨10609521904473526996625843805009119098832509500200937719156538760962199709100267794333696, [], [.t 20 tI, .t 21 tI, .o 0 1000000 zA]⟩
 | 133 => some ⟨764499538663357000783942270560188457895047628941246953623496807634286739017790823158231204167849349218304, [], [.t 20 tI, .t 21 tI, .o 0 1000000 zA]⟩
 | 152 => some ⟨764499538663357000783942270560188457895047628941246953623496807634286739017790823158231204167849349218305, [], [.t 20 tI, .o 0 1000000 zA]⟩
 | 158 => some ⟨3206494545043399178952856477303941710188861580056390473475048204570069134601788840466531538732204519858288721920, [], [.t 185 .bool, .o 0 1000000 zA]⟩
 | 164 => some ⟨13134002016536855929638154452350358835248725019828429120392767161680012016911382180583746179467909413919528016936961, [], [.o 0 1000000 zA]⟩
 | 166 => some ⟨860736825360237398392235630987637243571966904363317682461330469415747792098356565806344646337960982173420788448252395520, [], [.t 199 .bool, .o 0 1000000 zA]⟩
 | 172 => some ⟨3525631820413990462278721905415098845703620374116253412696311352147399751845086587235272251873726100892181250531248580853761, [], [.o 0 1000000 zA]⟩
 | 174 => some ⟨231052282211567690305673438463614133840824004789675571764370446924310312152915541592820132832889286359930080426986164194503557120, [], [.t 213 .bool, .o 0 1000000 zA]⟩
 | 95 => some ⟨0, [(229376, 28, 0)], []⟩
 | 47 => some ⟨0, [(229376, 28, 0)], []⟩
 | _ => none
theorem zBb : ∀ n, zAN U Tryz.prog G0 147 zA (kK [.d tI, .d tI, .d tI, .clo 51 []]) (.tu []) (zX n) := by
 intro n
 induction n with
 | zero => exact fun _ _ _ _ _ _ _ h => by cases h
 | succ n ih => exact wR (fn := Tryz.f147) (c := vJ Tryz.f147) (S := ((((zR.none U).addB 175 (wP zA (kK [.d tI, .d tI, .d tI, .clo 51 []]) (.tu []) jF)).add 51 (jQ [zA, zA] (.p tI) zL)).addB 147 (wP zA (kK [.d tI, .d tI, .d tI, .clo 51 []]) (.tu []) (zX n)))) (A := uP) (jS (qT (jS qF (by kernel_rfl) zBT) (by kernel_rfl) qU) (by kernel_rfl) ih) (by kernel_rfl) (by kernel_rfl) (by kernel_rfl) (by intro ty h; cases h) (by rintro ⟨⟩ a0 ⟨a1, a2, a3, ⟨⟩, ⟨⟩⟩; kernel_rfl)
theorem zBo : zAN U Tryz.prog G0 147 zA (kK [.d tI, .d tI, .d tI, .clo 51 []]) (.tu []) qE := zBb _
def yB : Nat → Option JA := fun k => match k with
 | 9 => some ⟨23456246743040, [], [.t 8 tI, .o 0 1000000 zA, .t 7 tI]⟩
 | 24 => some ⟨23456246743041, [], [.o 0 1000000 zA, .t 7 tI]⟩
 | 37 => some ⟨105637549994423458026445946880, [], [.t 8 tI, .o 0 1000000 zA, .t 7 tI]⟩
 | 52 => some ⟨105637549994423458026445946881, [], [.t 7 tI, .o 0 1000000 zA]⟩
 | 64 => some ⟨1772303888742337811519292622315454464, [], [.o 0 1000000 zA]⟩
 | 29 => some ⟨28356863910078205288590531421301723137, [], [.t 6 tI, .o 0 1000000 zA]⟩
 | _ => none
theorem zBS : zAN U Tryz.prog G0 110 zA (kK [.d tI, .clo 51 []]) (.tu []) qL :=
 wR (fn := Tryz.f110) (c := vJ Tryz.f110) (S := ((((zR.none U).addB 146 (wP zA (kK [.d tI, .d tI, .clo 51 []]) (.tu []) zY)).addB 147 (wP zA (kK [.d tI, .d tI, .d tI, .clo 51 []]) (.tu []) qE)).add 51 (jQ [zA, zA] (.p tI) zL))) (A := yB) (qT (jS (jS qF (by kernel_rfl) x4) (by kernel_rfl) zBo) (by kernel_rfl) qU) (by kernel_rfl) (by kernel_rfl) (by kernel_rfl) (by intro ty h; cases h) (by rintro ⟨⟩ a0 ⟨a1, ⟨⟩, ⟨⟩⟩; kernel_rfl)
def uV : Nat → Option JA := fun _ => none
theorem zBC : zAN U Tryz.prog G0 50 zA (kK [.clo 51 []]) (.tu []) z8 :=
 wR (fn := Tryz.f50) (c := vJ Tryz.f50) (S := (((zR.none U).addB 110 (wP zA (kK [.d tI, .clo 51 []]) (.tu []) qL)).add 51 (jQ [zA, zA] (.p tI) zL))) (A := uV) (qT (jS qF (by kernel_rfl) zBS) (by kernel_rfl) qU) (by kernel_rfl) (by kernel_rfl) (by kernel_rfl) (by intro ty h; cases h) (by rintro ⟨⟩ a0 ⟨⟨⟩, ⟨⟩⟩; kernel_rfl)
noncomputable def uU : Ent := zYH (by kernel_rfl) zBC
theorem zJf : OkX 120 [zA, zA] (.p tI) zMM := fX [zCX] (A := fun _ => none) (fn := Tryz.f120) (by kernel_rfl) (by kernel_rfl) (by rintro ⟨⟩ ⟨a1, a2, ⟨⟩⟩; kernel_rfl)
noncomputable def zKR : Ent := z7 (by kernel_rfl) zJf
theorem zOz : OkX 163 [(.sl tI)] (.p tI) zAy := fX [] (A := (jl [jj 13 5726602256 [] [.t 8 tI], jj 32 5726622736 [] []])) (fn := Tryz.f163) (by kernel_rfl) (by kernel_rfl) (by rintro ⟨⟩ ⟨a1, ⟨⟩⟩; kernel_rfl)
noncomputable def zJQ : Ent := z7 (by kernel_rfl) zOz
theorem zLH : OkX 180 [zA] (.p tI) zEr := fX [] (A := fun _ => none) (fn := Tryz.f180) (by kernel_rfl) (by kernel_rfl) (by rintro ⟨⟩ ⟨a1, ⟨⟩⟩; kernel_rfl)
noncomputable def zNL : Ent := z7 (by kernel_rfl) zLH
theorem zLI : OkX 155 [zA, zA] (.p tI) uY := fX [xF, zNL, zJQ, zBj] (A := (jl [jj 16 344064 [] [.t 7 .bool]])) (fn := Tryz.f155) (by kernel_rfl) (by kernel_rfl) (by rintro ⟨⟩ ⟨a1, a2, ⟨⟩⟩; kernel_rfl)
noncomputable def zNM : Ent := z7 (by kernel_rfl) zLI
theorem zBU : OkX 157 [z1, z1] (.p tI) yJ := fX [zJQ, xF, zBj] (A := fun _ => none) (fn := Tryz.f157) (by kernel_rfl) (by kernel_rfl) (by rintro ⟨⟩ ⟨a1, a2, ⟨⟩⟩; kernel_rfl)
noncomputable def zHf : Ent := z7 (by kernel_rfl) zBU
theorem zLS : OkX 49 [tU, tI] (.p zF) zBl := fX [zJR, zLq] (A := fun _ => none) (fn := Tryz.f49) (by kernel_rfl) (by kernel_rfl) (by rintro ⟨⟩ ⟨a1, a2, ⟨⟩⟩; kernel_rfl)
noncomputable def zNU : Ent := z7 (by kernel_rfl) zLS
theorem zKs : OkX 55 [zS, tI, tI] (.p zF) zBI := fX [zGl] (A := fun _ => none) (fn := Tryz.f55) (by kernel_rfl) (by kernel_rfl) (by rintro ⟨⟩ ⟨a1, a2, a3, ⟨⟩⟩; kernel_rfl)
noncomputable def zL7 : Ent := z7 (by kernel_rfl) zKs
theorem zJm : OkX 114 [(.sl zA)] (.p (.sl zF)) zA5 := fX [zGn] (A := (jl [jj 26 96076792044978176 [] [.t 28 .bool, .o 3 3 zF], jj 25 1537228672803537984 [] [.t 5 tI, .o 3 3 zF], jj 32 1537228672803537984 [] [.t 5 tI, .o 3 3 zF], jj 34 6602346874651466126652866560 [] [.t 46 .bool, .o 3 3 zF], jj 16 28356863910078205288614550619308426304 [] [.o 3 3 zF], jj 13 28356863910078205288614550619314017600 [] [.t 4 tI, .o 3 3 zF], jj 40 28356863910078205288614550619314017600 [] [.o 3 3 zF], jj 39 0 [(100368, 30688, 0), (3, 0, 0), (51, 3, 1)] []])) (fn := Tryz.f114) (by kernel_rfl) (by kernel_rfl) (by rintro ⟨⟩ ⟨a1, ⟨⟩⟩; kernel_rfl)
noncomputable def zKY : Ent := z7 (by kernel_rfl) zJm
theorem zOr : OkX 150 [zA] (.p (.pair tI (.pair tI (.pair tI (.pair tI (.pair tI zK)))))) zCI := fX [] (A := fun _ => none) (fn := Tryz.f150) (by kernel_rfl) (by kernel_rfl) (by rintro ⟨⟩ ⟨a1, ⟨⟩⟩; kernel_rfl)
noncomputable def zQo : Ent := z7 (by kernel_rfl) zOr
theorem zLP : OkX 115 [zA, zA] (.p tI) zA7 := fX [zQo] (A := (jl [jj 36 384307168196706304 [] []])) (fn := Tryz.f115) (by kernel_rfl) (by kernel_rfl) (by rintro ⟨⟩ ⟨a1, a2, ⟨⟩⟩; kernel_rfl)
noncomputable def zNS : Ent := z7 (by kernel_rfl) zLP
theorem zLO : OkX 151 [(.sl z1), z1] (.p (.sl z1)) zA6 := fX [zFe] (A := (jl [jj 10 22906490880 [] [.t 17 .bool], jj 9 366503875584 [] [.t 5 tI], jj 16 366503875584 [] [.t 5 tI], jj 18 6148914324732641280 [] [.t 31 .bool], jj 27 0 [(6288, 1888, 0)] []])) (fn := Tryz.f151) (by kernel_rfl) (by kernel_rfl) (by rintro ⟨⟩ ⟨a1, a2, ⟨⟩⟩; kernel_rfl)
noncomputable def zNQ : Ent := z7 (by kernel_rfl) zLO
theorem zKw : OkX 116 [(.sl z1), (.sl z1)] (.p (.sl z1)) zBK := fX [zNQ] (A := (jl [jj 9 22906491905 [] [.t 5 tI, .t 0 (.sl z1)], jj 20 22906491905 [] [.t 0 (.sl z1)]])) (fn := Tryz.f116) (by kernel_rfl) (by kernel_rfl) (by rintro ⟨⟩ ⟨a1, a2, ⟨⟩⟩; kernel_rfl)
noncomputable def zL9 : Ent := z7 (by kernel_rfl) zKw
theorem zM7 : OkX 56 [(.sl zA)] (.o zA) zBR := fX [zL9, zNS, zKY] (A := (jl [jj 42 422550200076076373340575498240 [] [.t 49 .bool, .o 4 4 zA], jj 36 1690200800304305774837278707968 [] [.t 6 tI, .o 4 4 zA], jj 33 1690200800304305868639364468992 [] [.t 7 tI, .t 6 tI, .o 4 4 zA], jj 48 1690200800304305868639364468992 [] [.t 6 tI, .o 4 4 zA], jj 74 127707961738816812172701272241971879976603049126789120 [] [.t 88 .bool, .o 4 4 zA, .v 8 [.p tU, .p tI, .p tI, .p tI, .p tI, .p tI, .p tI, .p tI, .p tI, .o 58 tI, .p tU, .p tU, .p (.sl z1), .p .bool]], jj 68 33477875922062297399864853096127533665327237411930462355712 [] [.o 4 4 zA, .v 8 [.p tU, .p tI, .p tI, .p tI, .p tI, .p tI, .p tI, .p tI, .p tI, .o 58 tI, .p tU, .p tU, .p (.sl z1), .p .bool]], jj 65 33477875922062297407122437953113174331382023961061144002816 [] [.t 9 tI, .o 4 4 zA, .v 8 [.p tU, .p tI, .p tI, .p tI, .p tI, .p tI, .p tI, .p tI, .p tI, .o 58 tI, .p tU, .p tU, .p (.sl z1), .p .bool]], jj 80 33477875922062297407122437953113174331382023961061144002816 [] [.o 4 4 zA, .v 8 [.p tU, .p tI, .p tI, .p tI, .p tI, .p tI, .p tI, .p tI, .p tI, .o 58 tI, .p tU, .p tU, .p (.sl z1), .p .bool]], jj 20 8570336236047948136223797825819533880118415966841538882261248 [] [.o 4 4 zA], jj 17 8570336236047948136223797825819533880118415966841561783162112 [] [.t 5 tI, .o 4 4 zA], jj 84 8570336236047948136223797825819533880118415966841561783162112 [] [.o 4 4 zA]])) (fn := Tryz.f56) (by kernel_rfl) (by kernel_rfl) (by rintro ⟨⟩ ⟨a1, ⟨⟩⟩; kernel_rfl)
noncomputable def zHx : Ent := z7 (by kernel_rfl) zM7
theorem qS : OkX 120 [zA, zA] (.p tI) zL := fX [zCX] (A := fun _ => none) (fn := Tryz.f120) (by kernel_rfl) (by kernel_rfl) (by rintro ⟨⟩ ⟨a1, a2, ⟨⟩⟩; kernel_rfl)
theorem yO : zAN U Tryz.prog G0 146 zA (kK [.d tI, .d tI, .clo 120 []]) (.tu []) zY :=
 wR (fn := Tryz.f146) (c := vJ Tryz.f146) (S := ((zR.none U).add 120 (jQ [zA, zA] (.p tI) zL))) (A := w9) (qT qF (by kernel_rfl) qS) (by kernel_rfl) (by kernel_rfl) (by kernel_rfl) (by intro ty h; cases h) (by rintro ⟨⟩ a0 ⟨a1, a2, ⟨⟩, ⟨⟩⟩; kernel_rfl)
theorem zAh : zAN U Tryz.prog G0 214 zA (kK [.d tI, .d tI, .d tI, .clo 120 []]) (.tu []) qB :=
 wR (fn := Tryz.f214) (c := vJ Tryz.f214) (S := ((zR.none U).add 120 (jQ [zA, zA] (.p tI) zL))) (A := kJ) (qT qF (by kernel_rfl) qS) (by kernel_rfl) (by kernel_rfl) (by kernel_rfl) (by intro ty h; cases h) (by rintro ⟨⟩ a0 ⟨a1, a2, a3, ⟨⟩, ⟨⟩⟩; kernel_rfl)
theorem zBa : zAN U Tryz.prog G0 175 zA (kK [.d tI, .d tI, .d tI, .clo 120 []]) (.tu []) jF :=
 wR (fn := Tryz.f175) (c := vJ Tryz.f175) (S := (((zR.none U).addB 214 (wP zA (kK [.d tI, .d tI, .d tI, .clo 120 []]) (.tu []) qB)).add 120 (jQ [zA, zA] (.p tI) zL))) (A := yC) (qT (jS qF (by kernel_rfl) zAh) (by kernel_rfl) qS) (by kernel_rfl) (by kernel_rfl) (by kernel_rfl) (by intro ty h; cases h) (by rintro ⟨⟩ a0 ⟨a1, a2, a3, ⟨⟩, ⟨⟩⟩; kernel_rfl)
theorem zAi : ∀ n, zAN U Tryz.prog G0 147 zA (kK [.d tI, .d tI, .d tI, .clo 120 []]) (.tu []) (zX n) := by
 intro n
 induction n with
 | zero => exact fun _ _ _ _ _ _ _ h => by cases h
 | succ n ih => exact wR (fn := Tryz.f147) (c := vJ Tryz.f147) (S := ((((zR.none U).addB 175 (wP zA (kK [.d tI, .d tI, .d tI, .clo 120 []]) (.tu []) jF)).add 120 (jQ [zA, zA] (.p tI) zL)).addB 147 (wP zA (kK [.d tI, .d tI, .d tI, .clo 120 []]) (.tu []) (zX n)))) (A := uP) (jS (qT (jS qF (by kernel_rfl) zBa) (by kernel_rfl) qS) (by kernel_rfl) ih) (by kernel_rfl) (by kernel_rfl) (by kernel_rfl) (by intro ty h; cases h) (by rintro ⟨⟩ a0 ⟨a1, a2, a3, ⟨⟩, ⟨⟩⟩; kernel_rfl)
theorem zAv : zAN U Tryz.prog G0 147 zA (kK [.d tI, .d tI, .d tI, .clo 120 []]) (.tu []) qE := zAi _
theorem zA9 : zAN U Tryz.prog G0 110 zA (kK [.d tI, .clo 120 []]) (.tu []) qL :=
 wR (fn := Tryz.f110) (c := vJ Tryz.f110) (S := ((((zR.none U).addB 146 (wP zA (kK [.d tI, .d tI, .clo 120 []]) (.tu []) zY)).addB 147 (wP zA (kK [.d tI, .d tI, .d tI, .clo 120 []]) (.tu []) qE)).add 120 (jQ [zA, zA] (.p tI) zL))) (A := yB) (qT (jS (jS qF (by kernel_rfl) yO) (by kernel_rfl) zAv) (by kernel_rfl) qS) (by kernel_rfl) (by kernel_rfl) (by kernel_rfl) (by intro ty h; cases h) (by rintro ⟨⟩ a0 ⟨a1, ⟨⟩, ⟨⟩⟩; kernel_rfl)
theorem zAw : zAN U Tryz.prog G0 50 zA (kK [.clo 120 []]) (.tu []) z8 :=
 wR (fn := Tryz.f50) (c := vJ Tryz.f50) (S := (((zR.none U).addB 110 (wP zA (kK [.d tI, .clo 120 []]) (.tu []) qL)).add 120 (jQ [zA, zA] (.p tI) zL))) (A := uV) (qT (jS qF (by kernel_rfl) zA9) (by kernel_rfl) qS) (by kernel_rfl) (by kernel_rfl) (by kernel_rfl) (by intro ty h; cases h) (by rintro ⟨⟩ a0 ⟨⟨⟩, ⟨⟩⟩; kernel_rfl)
noncomputable def v8 : Ent := zYH (by kernel_rfl) zAw
end Go.Ve

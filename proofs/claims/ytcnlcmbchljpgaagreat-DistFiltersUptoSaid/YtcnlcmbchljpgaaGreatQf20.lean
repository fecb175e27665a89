/-
  Contracts: sorting of routes, comparisons, merging as the document has it.
-/
import Derived.Test.YtcnlcmbchljpgaaGreatQf16
import Derived.Test.YtcnlcmbchljpgaaGreatQf19
set_option linter.unusedVariables false
namespace Go.Ve
open Go Go.Proofs
set_option maxRecDepth 1000000
set_option maxHeartbeats 0
def zFP : Nat → Option JA := fun k => match k with
 | 12 => some ⟨336, [], [.t 0 (.sl zA)]⟩
 | _ => none
theorem zES : j8 U Tryz.prog G0 119 (qH (jP [(.sl zA)] (.o zA) uI)) :=
 zQo (t := zA) (bytes := 136)
  (zBf (fn := Tryz.f119) (c := vD Tryz.f119) (S := zS.none U) (A := fun _ => none) qC (by kernel_rfl) (by kernel_rfl) (enc := fun q => [.tl zA (q.1 :: q.2)]) (fun _ _ h => zKm h) (by rintro ⟨⟩ ⟨y, r⟩; kernel_rfl))
  (fun c => zBf (fn := Tryz.f119) (c := vD Tryz.f119) (S := zS.none U) (A := fun _ => none) qC (by kernel_rfl) (by kernel_rfl) (enc := fun _ => [.val (.slice none 0 c)]) (fun _ _ h => zC5 h) (by rintro ⟨⟩ _; kernel_rfl))
  (fun a c => zBf (fn := Tryz.f119) (c := vD Tryz.f119) (S := zS.none U) (A := zFP) qC (by kernel_rfl) (by kernel_rfl) (enc := fun _ => [.val (.slice (some a) 0 c)]) (fun _ _ h => zC5 h) (by rintro ⟨⟩ _; kernel_rfl))
noncomputable def zFE : Ent := qG (by kernel_rfl) zES
theorem zGp : OkX 148 [tU] (.p .bool) xJ := fX [] (A := fun _ => none) (fn := Tryz.f148) (by kernel_rfl) (by kernel_rfl) (by rintro ⟨⟩ ⟨a1, ⟨⟩⟩; kernel_rfl)
noncomputable def zHx : Ent := qG (by kernel_rfl) zGp
theorem zEX : OkX 111 [tU, tU] (.p tI) wC := fX [zHx] (A := fun _ => none) (fn := Tryz.f111) (by kernel_rfl) (by kernel_rfl) (by rintro ⟨⟩ ⟨a1, a2, ⟨⟩⟩; kernel_rfl)
noncomputable def yT : Ent := qG (by kernel_rfl) zEX
theorem zJt : OkX 149 [tI] (.p .bool) zBn := fX [] (A := fun _ => none) (fn := Tryz.f149) (by kernel_rfl) (by kernel_rfl) (by rintro ⟨⟩ ⟨a1, ⟨⟩⟩; kernel_rfl)
noncomputable def zK1 : Ent := qG (by kernel_rfl) zJt
theorem zHe : OkX 112 [tI, tI] (.p tI) zZ := fX [zK1] (A := fun _ => none) (fn := Tryz.f112) (by kernel_rfl) (by kernel_rfl) (by rintro ⟨⟩ ⟨a1, a2, ⟨⟩⟩; kernel_rfl)
noncomputable def zAV : Ent := qG (by kernel_rfl) zHe
theorem zKL : OkX 52 [zG, zG] (.p tI) zAX := fX [zAV, yT] (A := fun _ => none) (fn := Tryz.f52) (by kernel_rfl) (by kernel_rfl) (by rintro ⟨⟩ ⟨a1, a2, ⟨⟩⟩; kernel_rfl)
noncomputable def zCw : Ent := qG (by kernel_rfl) zKL
theorem qT : OkX 51 [zA, zA] (.p tI) zK := fX [zCw] (A := fun _ => none) (fn := Tryz.f51) (by kernel_rfl) (by kernel_rfl) (by rintro ⟨⟩ ⟨a1, a2, ⟨⟩⟩; kernel_rfl)
noncomputable def zEZ : Ent := qG (by kernel_rfl) qT
def w4 : Nat → Option JA := fun k => match k with
 | 18 => some ⟨393530540216230608896, [], [.t 34 .bool, .o 0 1000000 zA]⟩
 | 17 => some ⟨27043212804868893898573428817921, [], [.t 9 tI, .o 0 1000000 zA]⟩
 | 8 => some ⟨27043212804868893898590608687105, [], [.o 0 1000000 zA]⟩
 | 5 => some ⟨27043212804868893898596329783297, [], [.t 8 tI, .o 0 1000000 zA]⟩
 | 27 => some ⟨0, [(229376, 28, 0)], []⟩
 | _ => none
theorem xP : zAv U Tryz.prog G0 146 zA (kB [.d tI, .d tI, .clo 51 []]) (.tu []) zY :=
 wN (fn := Tryz.f146) (c := vD Tryz.f146) (S := ((zS.none U).add 51 (jP [zA, zA] (.p tI) zK))) (A := w4) (qS qC (by kernel_rfl) qT) (by kernel_rfl) (by kernel_rfl) (by kernel_rfl) (by intro ty h; cases h) (by rintro ⟨⟩ a0 ⟨a1, a2, ⟨⟩, ⟨⟩⟩; kernel_rfl)
def kA : Nat → Option JA := fun k => match k with
 | 5 => some ⟨25185954575304774123520, [], [.t 10 tI, .o 0 1000000 zA]⟩
 | 15 => some ⟨0, [(14680064, 240, 0)], []⟩
 | _ => none
theorem zAL : zAv U Tryz.prog G0 214 zA (kB [.d tI, .d tI, .d tI, .clo 51 []]) (.tu []) z6 :=
 wN (fn := Tryz.f214) (c := vD Tryz.f214) (S := ((zS.none U).add 51 (jP [zA, zA] (.p tI) zK))) (A := kA) (qS qC (by kernel_rfl) qT) (by kernel_rfl) (by kernel_rfl) (by kernel_rfl) (by intro ty h; cases h) (by rintro ⟨⟩ a0 ⟨a1, a2, a3, ⟨⟩, ⟨⟩⟩; kernel_rfl)
def uU : Nat → Option JA := fun k => match k with
 | 9 => some ⟨422550200076076467142666485760, [], [.t 10 tI, .t 11 tI, .o 0 1000000 zA]⟩
 | 32 => some ⟨422550200076076467142666485761, [], [.o 0 1000000 zA, .t 10 tI]⟩
 | _ => none
theorem zBt : zAv U Tryz.prog G0 175 zA (kB [.d tI, .d tI, .d tI, .clo 51 []]) (.tu []) jF :=
 wN (fn := Tryz.f175) (c := vD Tryz.f175) (S := (((zS.none U).addB 214 (wM zA (kB [.d tI, .d tI, .d tI, .clo 51 []]) (.tu []) z6)).add 51 (jP [zA, zA] (.p tI) zK))) (A := uU) (qS (jR qC (by kernel_rfl) zAL) (by kernel_rfl) qT) (by kernel_rfl) (by kernel_rfl) (by kernel_rfl) (by intro ty h; cases h) (by rintro ⟨⟩ a0 ⟨a1, a2, a3, ⟨⟩, ⟨⟩⟩; kernel_rfl)
def uC : Nat → Option JA := fun k => match k with
 | 13 => some ⟨108172851219474038365712553082880, [], [.t 10 tI, .t 11 tI, .o 0 1000000 zA]⟩
 | 32 => some ⟨108172851219474038365712553082881, [], [.t 10 tI, .o 0 1000000 zA]⟩
 | 37 => some ⟨7611987694431353340905980601428263186080989184, [], [.t 13 tI, .o 0 1000000 zA]⟩
 | 48 => some ⟨95701492081623040, [], [.o 0 1000000 zA]⟩
 | 61 => some ⟨8776024305713067712791572581043614347964826669341339950268809216, [], [.t 14 tI, .t 15 tI, .o 0 1000000 zA]⟩
 | 80 => some ⟨8776024305713067712791572581043614347964826669341339950268809217, [], [.t 14 tI, .o 0 1000000 zA]⟩
 | 85 => some ⟨154389452316386489800871794282684571128465422743414453687476595640149915729920, [], [.t 17 tI, .o 0 1000000 zA]⟩
 | 96 => some ⟨1941056862080105438239268918451313385480535408640, [], [.o 0 1000000 zA]⟩
 | 128 => some ⟨10609521904473526996625843805009119098832509500200937719156538760962199709100267794333696, [], [.t 20 tI, .t 21 tI, .o 0 1000000 zA]⟩
 | 133 => some ⟨764499538663357000783942270560188457895047628941246953623496807634286739017790823158231204167849349218304, [], [.t 20 tI, .t 21 tI, .o 0 1000000 zA]⟩
 | 152 => some ⟨764499538663357000783942270560188457895047628941246953623496807634286739017790823158231204167849349218305, [], [.t 20 tI, .o 0 1000000 zA]⟩
 | 158 => some ⟨3206494545043399178952856477303941710188861580056390473475048204570069134601788840466531538732204519858288721920, [], [.t 185 .bool, .o 0 1000000 zA]⟩
 | 164 => some ⟨13134002016536855929638154452350358835248725019828429120392767161680012016911382180583746179467909413919528016936961, [], [.o 0 1000000 zA]⟩
 | 166 => some ⟨860736825360237398392235630987637243571966904363317682461330469415747792098356565806344646337960982173420788448252395520, [], [.t 199 .bool, .o 0 1000000 zA]⟩
 | 172 => some ⟨3525631820413990462278721905415098845703620374116253412696311352147399751845086587235272251873726100892181250531248580853761, [], [.o 0 1000000 zA]⟩
 | 174 => some ⟨231052282211567690305673438463614133840824004789675571764370446924310312152915541592820132832889286359930080426986164194503557120, [], [.t 213 .bool, .o 0 1000000 zA]⟩
 | 95 => some ⟨0, [(229376, 28, 0)], []⟩
 | 47 => some ⟨0, [(229376, 28, 0)], []⟩
 | _ => none
theorem zAO : ∀ n, zAv U Tryz.prog G0 147 zA (kB [.d tI, .d tI, .d tI, .clo 51 []]) (.tu []) (zX n) := by
 intro n
 induction n with
 | zero => exact fun _ _ _ _ _ _ _ h => by cases h
 | succ n ih => exact wN (fn := Tryz.f147) (c := vD Tryz.f147) (S := ((((zS.none U).addB 175 (wM zA (kB [.d tI, .d tI, .d tI, .clo 51 []]) (.tu []) jF)).add 51 (jP [zA, zA] (.p tI) zK)).addB 147 (wM zA (kB [.d tI, .d tI, .d tI, .clo 51 []]) (.tu []) (zX n)))) (A := uC) (jR (qS (jR qC (by kernel_rfl) zBt) (by kernel_rfl) qT) (by kernel_rfl) ih) (by kernel_rfl) (by kernel_rfl) (by kernel_rfl) (by intro ty h; cases h) (by rintro ⟨⟩ a0 ⟨a1, a2, a3, ⟨⟩, ⟨⟩⟩; kernel_rfl)
theorem zAY : zAv U Tryz.prog G0 147 zA (kB [.d tI, .d tI, .d tI, .clo 51 []]) (.tu []) qB := zAO _
def uT : Nat → Option JA := fun k => match k with
 | 9 => some ⟨23456246743040, [], [.t 8 tI, .o 0 1000000 zA, .t 7 tI]⟩
 | 24 => some ⟨23456246743041, [], [.o 0 1000000 zA, .t 7 tI]⟩
 | 37 => some ⟨105637549994423458026445946880, [], [.t 8 tI, .o 0 1000000 zA, .t 7 tI]⟩
 | 52 => some ⟨105637549994423458026445946881, [], [.t 7 tI, .o 0 1000000 zA]⟩
 | 64 => some ⟨1772303888742337811519292622315454464, [], [.o 0 1000000 zA]⟩
 | 29 => some ⟨28356863910078205288590531421301723137, [], [.t 6 tI, .o 0 1000000 zA]⟩
 | _ => none
theorem zBs : zAv U Tryz.prog G0 110 zA (kB [.d tI, .clo 51 []]) (.tu []) qJ :=
 wN (fn := Tryz.f110) (c := vD Tryz.f110) (S := ((((zS.none U).addB 146 (wM zA (kB [.d tI, .d tI, .clo 51 []]) (.tu []) zY)).addB 147 (wM zA (kB [.d tI, .d tI, .d tI, .clo 51 []]) (.tu []) qB)).add 51 (jP [zA, zA] (.p tI) zK))) (A := uT) (qS (jR (jR qC (by kernel_rfl) xP) (by kernel_rfl) zAY) (by kernel_rfl) qT) (by kernel_rfl) (by kernel_rfl) (by kernel_rfl) (by intro ty h; cases h) (by rintro ⟨⟩ a0 ⟨a1, ⟨⟩, ⟨⟩⟩; kernel_rfl)
def uG : Nat → Option JA := fun _ => none
theorem zBe : zAv U Tryz.prog G0 50 zA (kB [.clo 51 []]) (.tu []) qF :=
 wN (fn := Tryz.f50) (c := vD Tryz.f50) (S := (((zS.none U).addB 110 (wM zA (kB [.d tI, .clo 51 []]) (.tu []) qJ)).add 51 (jP [zA, zA] (.p tI) zK))) (A := uG) (qS (jR qC (by kernel_rfl) zBs) (by kernel_rfl) qT) (by kernel_rfl) (by kernel_rfl) (by kernel_rfl) (by intro ty h; cases h) (by rintro ⟨⟩ a0 ⟨⟨⟩, ⟨⟩⟩; kernel_rfl)
noncomputable def uF : Ent := zXu (by kernel_rfl) zBe
theorem zIi : OkX 120 [zA, zA] (.p tI) zLC := fX [zCw] (A := fun _ => none) (fn := Tryz.f120) (by kernel_rfl) (by kernel_rfl) (by rintro ⟨⟩ ⟨a1, a2, ⟨⟩⟩; kernel_rfl)
noncomputable def zJN : Ent := qG (by kernel_rfl) zIi
theorem zNe : OkX 163 [(.sl tI)] (.p tI) zAk := fX [] (A := (jl [jj 13 5726602256 [] [.t 8 tI], jj 32 5726622736 [] []])) (fn := Tryz.f163) (by kernel_rfl) (by kernel_rfl) (by rintro ⟨⟩ ⟨a1, ⟨⟩⟩; kernel_rfl)
noncomputable def zIQ : Ent := qG (by kernel_rfl) zNe
theorem zKC : OkX 180 [zA] (.p tI) zD0 := fX [] (A := fun _ => none) (fn := Tryz.f180) (by kernel_rfl) (by kernel_rfl) (by rintro ⟨⟩ ⟨a1, ⟨⟩⟩; kernel_rfl)
noncomputable def zMw : Ent := qG (by kernel_rfl) zKC
theorem zKD : OkX 155 [zA, zA] (.p tI) uJ := fX [yT, zMw, zIQ, zAV] (A := (jl [jj 16 344064 [] [.t 7 .bool]])) (fn := Tryz.f155) (by kernel_rfl) (by kernel_rfl) (by rintro ⟨⟩ ⟨a1, a2, ⟨⟩⟩; kernel_rfl)
noncomputable def zMx : Ent := qG (by kernel_rfl) zKD
theorem zBu : OkX 157 [qY, qY] (.p tI) u7 := fX [zIQ, yT, zAV] (A := fun _ => none) (fn := Tryz.f157) (by kernel_rfl) (by kernel_rfl) (by rintro ⟨⟩ ⟨a1, a2, ⟨⟩⟩; kernel_rfl)
noncomputable def zGr : Ent := qG (by kernel_rfl) zBu
theorem zKK : OkX 49 [tU, tI] (.p zG) zBZ := fX [zIR, zKj] (A := fun _ => none) (fn := Tryz.f49) (by kernel_rfl) (by kernel_rfl) (by rintro ⟨⟩ ⟨a1, a2, ⟨⟩⟩; kernel_rfl)
noncomputable def zME : Ent := qG (by kernel_rfl) zKK
theorem qR : OkX 120 [zA, zA] (.p tI) zK := fX [zCw] (A := fun _ => none) (fn := Tryz.f120) (by kernel_rfl) (by kernel_rfl) (by rintro ⟨⟩ ⟨a1, a2, ⟨⟩⟩; kernel_rfl)
theorem yD : zAv U Tryz.prog G0 146 zA (kB [.d tI, .d tI, .clo 120 []]) (.tu []) zY :=
 wN (fn := Tryz.f146) (c := vD Tryz.f146) (S := ((zS.none U).add 120 (jP [zA, zA] (.p tI) zK))) (A := w4) (qS qC (by kernel_rfl) qR) (by kernel_rfl) (by kernel_rfl) (by kernel_rfl) (by intro ty h; cases h) (by rintro ⟨⟩ a0 ⟨a1, a2, ⟨⟩, ⟨⟩⟩; kernel_rfl)
theorem xZ : zAv U Tryz.prog G0 214 zA (kB [.d tI, .d tI, .d tI, .clo 120 []]) (.tu []) z6 :=
 wN (fn := Tryz.f214) (c := vD Tryz.f214) (S := ((zS.none U).add 120 (jP [zA, zA] (.p tI) zK))) (A := kA) (qS qC (by kernel_rfl) qR) (by kernel_rfl) (by kernel_rfl) (by kernel_rfl) (by intro ty h; cases h) (by rintro ⟨⟩ a0 ⟨a1, a2, a3, ⟨⟩, ⟨⟩⟩; kernel_rfl)
theorem zAN : zAv U Tryz.prog G0 175 zA (kB [.d tI, .d tI, .d tI, .clo 120 []]) (.tu []) jF :=
 wN (fn := Tryz.f175) (c := vD Tryz.f175) (S := (((zS.none U).addB 214 (wM zA (kB [.d tI, .d tI, .d tI, .clo 120 []]) (.tu []) z6)).add 120 (jP [zA, zA] (.p tI) zK))) (A := uU) (qS (jR qC (by kernel_rfl) xZ) (by kernel_rfl) qR) (by kernel_rfl) (by kernel_rfl) (by kernel_rfl) (by intro ty h; cases h) (by rintro ⟨⟩ a0 ⟨a1, a2, a3, ⟨⟩, ⟨⟩⟩; kernel_rfl)
theorem x3 : ∀ n, zAv U Tryz.prog G0 147 zA (kB [.d tI, .d tI, .d tI, .clo 120 []]) (.tu []) (zX n) := by
 intro n
 induction n with
 | zero => exact fun _ _ _ _ _ _ _ h => by cases h
 | succ n ih => exact wN (fn := Tryz.f147) (c := vD Tryz.f147) (S := ((((zS.none U).addB 175 (wM zA (kB [.d tI, .d tI, .d tI, .clo 120 []]) (.tu []) jF)).add 120 (jP [zA, zA] (.p tI) zK)).addB 147 (wM zA (kB [.d tI, .d tI, .d tI, .clo 120 []]) (.tu []) (zX n)))) (A := uC) (jR (qS (jR qC (by kernel_rfl) zAN) (by kernel_rfl) qR) (by kernel_rfl) ih) (by kernel_rfl) (by kernel_rfl) (by kernel_rfl) (by intro ty h; cases h) (by rintro ⟨⟩ a0 ⟨a1, a2, a3, ⟨⟩, ⟨⟩⟩; kernel_rfl)
theorem zAg : zAv U Tryz.prog G0 147 zA (kB [.d tI, .d tI, .d tI, .clo 120 []]) (.tu []) qB := x3 _
theorem zAM : zAv U Tryz.prog G0 110 zA (kB [.d tI, .clo 120 []]) (.tu []) qJ :=
 wN (fn := Tryz.f110) (c := vD Tryz.f110) (S := ((((zS.none U).addB 146 (wM zA (kB [.d tI, .d tI, .clo 120 []]) (.tu []) zY)).addB 147 (wM zA (kB [.d tI, .d tI, .d tI, .clo 120 []]) (.tu []) qB)).add 120 (jP [zA, zA] (.p tI) zK))) (A := uT) (qS (jR (jR qC (by kernel_rfl) yD) (by kernel_rfl) zAg) (by kernel_rfl) qR) (by kernel_rfl) (by kernel_rfl) (by kernel_rfl) (by intro ty h; cases h) (by rintro ⟨⟩ a0 ⟨a1, ⟨⟩, ⟨⟩⟩; kernel_rfl)
theorem zAh : zAv U Tryz.prog G0 50 zA (kB [.clo 120 []]) (.tu []) qF :=
 wN (fn := Tryz.f50) (c := vD Tryz.f50) (S := (((zS.none U).addB 110 (wM zA (kB [.d tI, .clo 120 []]) (.tu []) qJ)).add 120 (jP [zA, zA] (.p tI) zK))) (A := uG) (qS (jR qC (by kernel_rfl) zAM) (by kernel_rfl) qR) (by kernel_rfl) (by kernel_rfl) (by kernel_rfl) (by intro ty h; cases h) (by rintro ⟨⟩ a0 ⟨⟨⟩, ⟨⟩⟩; kernel_rfl)
noncomputable def vW : Ent := zXu (by kernel_rfl) zAh
end Go.Ve

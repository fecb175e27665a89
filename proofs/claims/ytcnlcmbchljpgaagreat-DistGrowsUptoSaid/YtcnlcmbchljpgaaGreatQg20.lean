/-
  Contracts: sorting of routes, comparisons, merging as the document has it.
-/
import Derived.Test.YtcnlcmbchljpgaaGreatQg16
import Derived.Test.YtcnlcmbchljpgaaGreatQg19
set_option linter.unusedVariables false
namespace Go.Ve
open Go Go.Proofs
set_option maxRecDepth 1000000
set_option maxHeartbeats 0
def zFw : Nat → Option JA := fun k => match k with
 | 12 => some ⟨336, [], [.t 0 (.sl zA)]⟩
 | _ => none
theorem zEG : j6 U Tryz.prog G0 119 (qG (jM [(.sl zA)] (.o zA) uA)) :=
 zP5 (t := zA) (bytes := 136)
  (zA6 (fn := Tryz.f119) (c := vA Tryz.f119) (S := zQ.none U) (A := fun _ => none) qA (by kernel_rfl) (by kernel_rfl) (enc := fun q => [.tl zA (q.1 :: q.2)]) (fun _ _ h => zJU h) (by rintro ⟨⟩ ⟨y, r⟩; kernel_rfl))
  (fun c => zA6 (fn := Tryz.f119) (c := vA Tryz.f119) (S := zQ.none U) (A := fun _ => none) qA (by kernel_rfl) (by kernel_rfl) (enc := fun _ => [.val (.slice none 0 c)]) (fun _ _ h => zCT h) (by rintro ⟨⟩ _; kernel_rfl))
  (fun a c => zA6 (fn := Tryz.f119) (c := vA Tryz.f119) (S := zQ.none U) (A := zFw) qA (by kernel_rfl) (by kernel_rfl) (enc := fun _ => [.val (.slice (some a) 0 c)]) (fun _ _ h => zCT h) (by rintro ⟨⟩ _; kernel_rfl))
noncomputable def zFn : Ent := qF (by kernel_rfl) zEG
theorem zF7 : OkX 148 [tU] (.p .bool) xA := fX [] (A := fun _ => none) (fn := Tryz.f148) (by kernel_rfl) (by kernel_rfl) (by rintro ⟨⟩ ⟨a1, ⟨⟩⟩; kernel_rfl)
noncomputable def zHb : Ent := qF (by kernel_rfl) zF7
theorem zEJ : OkX 111 [tU, tU] (.p tI) wA := fX [zHb] (A := fun _ => none) (fn := Tryz.f111) (by kernel_rfl) (by kernel_rfl) (by rintro ⟨⟩ ⟨a1, a2, ⟨⟩⟩; kernel_rfl)
noncomputable def yL : Ent := qF (by kernel_rfl) zEJ
theorem zI2 : OkX 149 [tI] (.p .bool) zBe := fX [] (A := fun _ => none) (fn := Tryz.f149) (by kernel_rfl) (by kernel_rfl) (by rintro ⟨⟩ ⟨a1, ⟨⟩⟩; kernel_rfl)
noncomputable def zKA : Ent := qF (by kernel_rfl) zI2
theorem zGU : OkX 112 [tI, tI] (.p tI) zZ := fX [zKA] (A := fun _ => none) (fn := Tryz.f112) (by kernel_rfl) (by kernel_rfl) (by rintro ⟨⟩ ⟨a1, a2, ⟨⟩⟩; kernel_rfl)
noncomputable def zAN : Ent := qF (by kernel_rfl) zGU
theorem zKl : OkX 52 [zG, zG] (.p tI) zAP := fX [zAN, yL] (A := fun _ => none) (fn := Tryz.f52) (by kernel_rfl) (by kernel_rfl) (by rintro ⟨⟩ ⟨a1, a2, ⟨⟩⟩; kernel_rfl)
noncomputable def zCh : Ent := qF (by kernel_rfl) zKl
theorem qR : OkX 51 [zA, zA] (.p tI) zK := fX [zCh] (A := fun _ => none) (fn := Tryz.f51) (by kernel_rfl) (by kernel_rfl) (by rintro ⟨⟩ ⟨a1, a2, ⟨⟩⟩; kernel_rfl)
noncomputable def zEL : Ent := qF (by kernel_rfl) qR
def wY : Nat → Option JA := fun k => match k with
 | 18 => some ⟨393530540216230608896, [], [.t 34 .bool, .o 0 1000000 zA]⟩
 | 17 => some ⟨27043212804868893898573428817921, [], [.t 9 tI, .o 0 1000000 zA]⟩
 | 8 => some ⟨27043212804868893898590608687105, [], [.o 0 1000000 zA]⟩
 | 5 => some ⟨27043212804868893898596329783297, [], [.t 8 tI, .o 0 1000000 zA]⟩
 | 27 => some ⟨0, [(229376, 28, 0)], []⟩
 | _ => none
theorem xF : zAn U Tryz.prog G0 146 zA (uG [.d tI, .d tI, .clo 51 []]) (.tu []) zY :=
 wM (fn := Tryz.f146) (c := vA Tryz.f146) (S := ((zQ.none U).add 51 (jM [zA, zA] (.p tI) zK))) (A := wY) (qQ qA (by kernel_rfl) qR) (by kernel_rfl) (by kernel_rfl) (by kernel_rfl) (by intro ty h; cases h) (by rintro ⟨⟩ a0 ⟨a1, a2, ⟨⟩, ⟨⟩⟩; kernel_rfl)
def vZ : Nat → Option JA := fun k => match k with
 | 5 => some ⟨25185954575304774123520, [], [.t 10 tI, .o 0 1000000 zA]⟩
 | 15 => some ⟨0, [(14680064, 240, 0)], []⟩
 | _ => none
theorem zAE : zAn U Tryz.prog G0 214 zA (uG [.d tI, .d tI, .d tI, .clo 51 []]) (.tu []) z6 :=
 wM (fn := Tryz.f214) (c := vA Tryz.f214) (S := ((zQ.none U).add 51 (jM [zA, zA] (.p tI) zK))) (A := vZ) (qQ qA (by kernel_rfl) qR) (by kernel_rfl) (by kernel_rfl) (by kernel_rfl) (by intro ty h; cases h) (by rintro ⟨⟩ a0 ⟨a1, a2, a3, ⟨⟩, ⟨⟩⟩; kernel_rfl)
def uN : Nat → Option JA := fun k => match k with
 | 9 => some ⟨422550200076076467142666485760, [], [.t 10 tI, .t 11 tI, .o 0 1000000 zA]⟩
 | 32 => some ⟨422550200076076467142666485761, [], [.o 0 1000000 zA, .t 10 tI]⟩
 | _ => none
theorem zBk : zAn U Tryz.prog G0 175 zA (uG [.d tI, .d tI, .d tI, .clo 51 []]) (.tu []) jE :=
 wM (fn := Tryz.f175) (c := vA Tryz.f175) (S := (((zQ.none U).addB 214 (wK zA (uG [.d tI, .d tI, .d tI, .clo 51 []]) (.tu []) z6)).add 51 (jM [zA, zA] (.p tI) zK))) (A := uN) (qQ (jP qA (by kernel_rfl) zAE) (by kernel_rfl) qR) (by kernel_rfl) (by kernel_rfl) (by kernel_rfl) (by intro ty h; cases h) (by rintro ⟨⟩ a0 ⟨a1, a2, a3, ⟨⟩, ⟨⟩⟩; kernel_rfl)
def kY : Nat → Option JA := fun k => match k with
 | 13 => some ⟨108172851219474038365712553082880, [], [.t 10 tI, .t 11 tI, .o 0 1000000 zA]⟩
 | 32 => some ⟨108172851219474038365712553082881, [], [.t 10 tI, .o 0 1000000 zA]⟩
 | 37 => some ⟨7611987694431353340905980601428263186080989184, [], [.t 13 tI, .o 0 1000000 zA]⟩
 | 48 => some ⟨95701492081623040, [], [.o 0 1000000 zA]⟩
 | 61 => some ⟨8776024305713067712791572581043614347964826669341339950268809216, [], [.t 14 tI, .t 15 tI, .o 0 1000000 zA]⟩
 | 80 => some ⟨8776024305713067712791572581043614347964826669341339950268809217, [], [.t 14 tI, .o 0 1000000 zA]⟩
 | 85 => some ⟨154389452316386489800871794282684571128465422743414453687476595640149915729920, [], [.t 17 tI, .o 0 1000000 zA]⟩
 | 96 => some ⟨1941056862080105438239268918451313385480535408640, [], [.o 0 1000000 zA]⟩
 | 128 => some ⟨10609521904473526996625843805009119098832509500200937719156538760962199709100267794333696, [], [.t 20 tI, .t 21 tI, .o 0 1000000 zA]⟩
 | 133 => some ⟨764499538663357000783942270560188457895047628941246953623496807634286739017790823158231204167849349218304, [], [.t 20 tI, .t 21 tI, .o 0 1000000 zA]⟩
 | 152 => some ⟨764499538663357000783942270560188457895047628941246953623496807634286739017790823158231204167849349218305, [], [.t 20 tI, .o 0 1000000 zA]⟩
 | 158 => some ⟨3206494545043399178952856477303941710188861580056390473475048204570069134601788840466531538732204519858288721920, [], [.t 185 .bool, .o 0 1000000 zA]⟩
 | 164 => some ⟨13134002016536855929638154452350358835248725019828429120392767161680012016911382180583746179467909413919528016936961, [], [.o 0 1000000 zA]⟩
 | 166 => some ⟨860736825360237398392235630987637243571966904363317682461330469415747792098356565806344646337960982173420788448252395520, [], [.t 199 .bool, .o 0 1000000 zA]⟩
 | 172 => some ⟨3525631820413990462278721905415098845703620374116253412696311352147399751845086587235272251873726100892181250531248580853761, [], [.o 0 1000000 zA]⟩
 | 174 => some ⟨231052282211567690305673438463614133840824004789675571764370446924310312152915541592820132832889286359930080426986164194503557120, [], [.t 213 .bool, .o 0 1000000 zA]⟩
 | 95 => some ⟨0, [(229376, 28, 0)], []⟩
 | 47 => some ⟨0, [(229376, 28, 0)], []⟩
 | _ => none
theorem zAH : ∀ n, zAn U Tryz.prog G0 147 zA (uG [.d tI, .d tI, .d tI, .clo 51 []]) (.tu []) (zX n) := by
 intro n
 induction n with
 | zero => exact fun _ _ _ _ _ _ _ h => by cases h
 | succ n ih => exact wM (fn := Tryz.f147) (c := vA Tryz.f147) (S := ((((zQ.none U).addB 175 (wK zA (uG [.d tI, .d tI, .d tI, .clo 51 []]) (.tu []) jE)).add 51 (jM [zA, zA] (.p tI) zK)).addB 147 (wK zA (uG [.d tI, .d tI, .d tI, .clo 51 []]) (.tu []) (zX n)))) (A := kY) (jP (qQ (jP qA (by kernel_rfl) zBk) (by kernel_rfl) qR) (by kernel_rfl) ih) (by kernel_rfl) (by kernel_rfl) (by kernel_rfl) (by intro ty h; cases h) (by rintro ⟨⟩ a0 ⟨a1, a2, a3, ⟨⟩, ⟨⟩⟩; kernel_rfl)
theorem zAQ : zAn U Tryz.prog G0 147 zA (uG [.d tI, .d tI, .d tI, .clo 51 []]) (.tu []) z8 := zAH _
def uM : Nat → Option JA := fun k => match k with
 | 9 => some ⟨23456246743040, [], [.t 8 tI, .o 0 1000000 zA, .t 7 tI]⟩
 | 24 => some ⟨23456246743041, [], [.o 0 1000000 zA, .t 7 tI]⟩
 | 37 => some ⟨105637549994423458026445946880, [], [.t 8 tI, .o 0 1000000 zA, .t 7 tI]⟩
 | 52 => some ⟨105637549994423458026445946881, [], [.t 7 tI, .o 0 1000000 zA]⟩
 | 64 => some ⟨1772303888742337811519292622315454464, [], [.o 0 1000000 zA]⟩
 | 29 => some ⟨28356863910078205288590531421301723137, [], [.t 6 tI, .o 0 1000000 zA]⟩
 | _ => none
theorem zBj : zAn U Tryz.prog G0 110 zA (uG [.d tI, .clo 51 []]) (.tu []) qI :=
 wM (fn := Tryz.f110) (c := vA Tryz.f110) (S := ((((zQ.none U).addB 146 (wK zA (uG [.d tI, .d tI, .clo 51 []]) (.tu []) zY)).addB 147 (wK zA (uG [.d tI, .d tI, .d tI, .clo 51 []]) (.tu []) z8)).add 51 (jM [zA, zA] (.p tI) zK))) (A := uM) (qQ (jP (jP qA (by kernel_rfl) xF) (by kernel_rfl) zAQ) (by kernel_rfl) qR) (by kernel_rfl) (by kernel_rfl) (by kernel_rfl) (by intro ty h; cases h) (by rintro ⟨⟩ a0 ⟨a1, ⟨⟩, ⟨⟩⟩; kernel_rfl)
def k7 : Nat → Option JA := fun _ => none
theorem zA5 : zAn U Tryz.prog G0 50 zA (uG [.clo 51 []]) (.tu []) qE :=
 wM (fn := Tryz.f50) (c := vA Tryz.f50) (S := (((zQ.none U).addB 110 (wK zA (uG [.d tI, .clo 51 []]) (.tu []) qI)).add 51 (jM [zA, zA] (.p tI) zK))) (A := k7) (qQ (jP qA (by kernel_rfl) zBj) (by kernel_rfl) qR) (by kernel_rfl) (by kernel_rfl) (by kernel_rfl) (by intro ty h; cases h) (by rintro ⟨⟩ a0 ⟨⟨⟩, ⟨⟩⟩; kernel_rfl)
noncomputable def k6 : Ent := zW1 (by kernel_rfl) zA5
theorem zHU : OkX 120 [zA, zA] (.p tI) zLb := fX [zCh] (A := fun _ => none) (fn := Tryz.f120) (by kernel_rfl) (by kernel_rfl) (by rintro ⟨⟩ ⟨a1, a2, ⟨⟩⟩; kernel_rfl)
noncomputable def zJm : Ent := qF (by kernel_rfl) zHU
theorem zMS : OkX 163 [(.sl tI)] (.p tI) zAb := fX [] (A := (jl [jj 13 5726602256 [] [.t 8 tI], jj 32 5726622736 [] []])) (fn := Tryz.f163) (by kernel_rfl) (by kernel_rfl) (by rintro ⟨⟩ ⟨a1, ⟨⟩⟩; kernel_rfl)
noncomputable def zIs : Ent := qF (by kernel_rfl) zMS
theorem zKc : OkX 180 [zA] (.p tI) zDN := fX [] (A := fun _ => none) (fn := Tryz.f180) (by kernel_rfl) (by kernel_rfl) (by rintro ⟨⟩ ⟨a1, ⟨⟩⟩; kernel_rfl)
noncomputable def zL5 : Ent := qF (by kernel_rfl) zKc
theorem zKd : OkX 155 [zA, zA] (.p tI) uB := fX [yL, zL5, zIs, zAN] (A := (jl [jj 16 344064 [] [.t 7 .bool]])) (fn := Tryz.f155) (by kernel_rfl) (by kernel_rfl) (by rintro ⟨⟩ ⟨a1, a2, ⟨⟩⟩; kernel_rfl)
noncomputable def zL6 : Ent := qF (by kernel_rfl) zKd
theorem zBl : OkX 157 [qT, qT] (.p tI) uT := fX [zIs, yL, zAN] (A := fun _ => none) (fn := Tryz.f157) (by kernel_rfl) (by kernel_rfl) (by rintro ⟨⟩ ⟨a1, a2, ⟨⟩⟩; kernel_rfl)
noncomputable def zF9 : Ent := qF (by kernel_rfl) zBl
theorem zKk : OkX 49 [tU, tI] (.p zG) zBP := fX [zIt, zJR] (A := fun _ => none) (fn := Tryz.f49) (by kernel_rfl) (by kernel_rfl) (by rintro ⟨⟩ ⟨a1, a2, ⟨⟩⟩; kernel_rfl)
noncomputable def zMd : Ent := qF (by kernel_rfl) zKk
theorem qO : OkX 120 [zA, zA] (.p tI) zK := fX [zCh] (A := fun _ => none) (fn := Tryz.f120) (by kernel_rfl) (by kernel_rfl) (by rintro ⟨⟩ ⟨a1, a2, ⟨⟩⟩; kernel_rfl)
theorem uX : zAn U Tryz.prog G0 146 zA (uG [.d tI, .d tI, .clo 120 []]) (.tu []) zY :=
 wM (fn := Tryz.f146) (c := vA Tryz.f146) (S := ((zQ.none U).add 120 (jM [zA, zA] (.p tI) zK))) (A := wY) (qQ qA (by kernel_rfl) qO) (by kernel_rfl) (by kernel_rfl) (by kernel_rfl) (by intro ty h; cases h) (by rintro ⟨⟩ a0 ⟨a1, a2, ⟨⟩, ⟨⟩⟩; kernel_rfl)
theorem xO : zAn U Tryz.prog G0 214 zA (uG [.d tI, .d tI, .d tI, .clo 120 []]) (.tu []) z6 :=
 wM (fn := Tryz.f214) (c := vA Tryz.f214) (S := ((zQ.none U).add 120 (jM [zA, zA] (.p tI) zK))) (A := vZ) (qQ qA (by kernel_rfl) qO) (by kernel_rfl) (by kernel_rfl) (by kernel_rfl) (by intro ty h; cases h) (by rintro ⟨⟩ a0 ⟨a1, a2, a3, ⟨⟩, ⟨⟩⟩; kernel_rfl)
theorem zAG : zAn U Tryz.prog G0 175 zA (uG [.d tI, .d tI, .d tI, .clo 120 []]) (.tu []) jE :=
 wM (fn := Tryz.f175) (c := vA Tryz.f175) (S := (((zQ.none U).addB 214 (wK zA (uG [.d tI, .d tI, .d tI, .clo 120 []]) (.tu []) z6)).add 120 (jM [zA, zA] (.p tI) zK))) (A := uN) (qQ (jP qA (by kernel_rfl) xO) (by kernel_rfl) qO) (by kernel_rfl) (by kernel_rfl) (by kernel_rfl) (by intro ty h; cases h) (by rintro ⟨⟩ a0 ⟨a1, a2, a3, ⟨⟩, ⟨⟩⟩; kernel_rfl)
theorem xP : ∀ n, zAn U Tryz.prog G0 147 zA (uG [.d tI, .d tI, .d tI, .clo 120 []]) (.tu []) (zX n) := by
 intro n
 induction n with
 | zero => exact fun _ _ _ _ _ _ _ h => by cases h
 | succ n ih => exact wM (fn := Tryz.f147) (c := vA Tryz.f147) (S := ((((zQ.none U).addB 175 (wK zA (uG [.d tI, .d tI, .d tI, .clo 120 []]) (.tu []) jE)).add 120 (jM [zA, zA] (.p tI) zK)).addB 147 (wK zA (uG [.d tI, .d tI, .d tI, .clo 120 []]) (.tu []) (zX n)))) (A := kY) (jP (qQ (jP qA (by kernel_rfl) zAG) (by kernel_rfl) qO) (by kernel_rfl) ih) (by kernel_rfl) (by kernel_rfl) (by kernel_rfl) (by intro ty h; cases h) (by rintro ⟨⟩ a0 ⟨a1, a2, a3, ⟨⟩, ⟨⟩⟩; kernel_rfl)
theorem x6 : zAn U Tryz.prog G0 147 zA (uG [.d tI, .d tI, .d tI, .clo 120 []]) (.tu []) z8 := xP _
theorem zAF : zAn U Tryz.prog G0 110 zA (uG [.d tI, .clo 120 []]) (.tu []) qI :=
 wM (fn := Tryz.f110) (c := vA Tryz.f110) (S := ((((zQ.none U).addB 146 (wK zA (uG [.d tI, .d tI, .clo 120 []]) (.tu []) zY)).addB 147 (wK zA (uG [.d tI, .d tI, .d tI, .clo 120 []]) (.tu []) z8)).add 120 (jM [zA, zA] (.p tI) zK))) (A := uM) (qQ (jP (jP qA (by kernel_rfl) uX) (by kernel_rfl) x6) (by kernel_rfl) qO) (by kernel_rfl) (by kernel_rfl) (by kernel_rfl) (by intro ty h; cases h) (by rintro ⟨⟩ a0 ⟨a1, ⟨⟩, ⟨⟩⟩; kernel_rfl)
theorem x7 : zAn U Tryz.prog G0 50 zA (uG [.clo 120 []]) (.tu []) qE :=
 wM (fn := Tryz.f50) (c := vA Tryz.f50) (S := (((zQ.none U).addB 110 (wK zA (uG [.d tI, .clo 120 []]) (.tu []) qI)).add 120 (jM [zA, zA] (.p tI) zK))) (A := k7) (qQ (jP qA (by kernel_rfl) zAF) (by kernel_rfl) qO) (by kernel_rfl) (by kernel_rfl) (by kernel_rfl) (by intro ty h; cases h) (by rintro ⟨⟩ a0 ⟨⟨⟩, ⟨⟩⟩; kernel_rfl)
noncomputable def vQ : Ent := zW1 (by kernel_rfl) x7
end Go.Ve

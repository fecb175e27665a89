/-
  Contracts: merging of routes, tables of distance-vector routing.
-/
import Derived.Test.YtcnlcmbchljpgaaGreatQt25
import Derived.Test.YtcnlcmbchljpgaaGreatQt26
set_option linter.unusedVariables false
namespace Go.Ve
open Go Go.Proofs
set_option maxRecDepth 1000000
set_option maxHeartbeats 0
noncomputable def zFz : Ent := zYH (by kernel_rfl) zEx
noncomputable def zGg : Ent := zZt (by kernel_rfl) zFq
theorem zJe : OkX 121 [(.sl zA)] (.p zA) zA0 := fX [zIl, zGg, zHf, zFz, zNM] (A := (jl [jj 28 93819265617024 [] [.v 3 [.p zA]], jj 13 375299611036800 [] [.t 15 tI, .v 3 [.p zA]], jj 32 375299963358336 [] [.v 3 [.p zA]], jj 56 100743722224427047522304 [] [.o 6 6 z1], jj 41 402975267200076888608768 [] [.t 27 tI, .o 6 6 z1], jj 60 402975272829576422821888 [] [.o 6 6 z1]])) (fn := Tryz.f121) (by kernel_rfl) (by kernel_rfl) (by rintro ⟨⟩ ⟨a1, ⟨⟩⟩; kernel_rfl)
noncomputable def zKQ : Ent := z7 (by kernel_rfl) zJe
theorem zMZ : OkX 60 [(.sl zA)] (.p (.sl zA)) zDi := fX [zKQ, zKR, v8, uU, zGh] (A := (jl [jj 30 98382635054057652224 [] [.t 33 .bool, .o 4 4 zA], jj 29 1574122160950821785856 [] [.t 6 tI, .o 4 4 zA], jj 36 1574122160950821785856 [] [.o 4 4 zA, .t 6 tI], jj 21 412646679761793424964982016 [] [.t 5 tI, .o 4 4 zA], jj 44 412646679761793424964982016 [] [.o 4 4 zA], jj 11 0 [(0, 0, 9), (8, 0, 2)] []])) (fn := Tryz.f60) (by kernel_rfl) (by kernel_rfl) (by rintro ⟨⟩ ⟨a1, ⟨⟩⟩; kernel_rfl)
noncomputable def zOE : Ent := z7 (by kernel_rfl) zMZ
theorem zDn : OkX 18 [zS, tI] (.p (.sl zA)) uM := fX [zFy, v8, uU, zNU, zBi] (A := (jl [jj 6 22906470400 [] [.t 17 .bool], jj 36 1730765619511609185490967430484992 [] [.o 5 5 zA], jj 21 6923062478046436836539461896557568 [] [.t 26 tI, .o 5 5 zA], jj 40 6923062478046436838040638865855488 [] [.o 5 5 zA]])) (fn := Tryz.f18) (by kernel_rfl) (by kernel_rfl) (by rintro ⟨⟩ ⟨a1, a2, ⟨⟩⟩; kernel_rfl)
noncomputable def zD8 : Ent := z7 (by kernel_rfl) zDn
noncomputable def zFC : Ent := z7 (by kernel_rfl) zEA
theorem zCa : OkX 22 [zS, (.sl (.sl zA)), (.sl zA), tI] (.p (.sl zA)) uL := fX [zOE, zFC, zBY, zD8] (A := (jl [jj 6 384307168202194944 [] [.t 29 .bool]])) (fn := Tryz.f22) (by kernel_rfl) (by kernel_rfl) (by rintro ⟨⟩ ⟨a1, a2, a3, a4, ⟨⟩⟩; kernel_rfl)
noncomputable def zIr : Ent := z7 (by kernel_rfl) zCa
theorem zJp : OkX 16 [(.sl zA)] (.p .bool) zBc := fX [zHw] (A := (jl [jj 6 5592320 [] [.t 11 .bool], jj 17 93824986644560 [] [.t 3 tI], jj 32 93824986644560 [] []])) (fn := Tryz.f16) (by kernel_rfl) (by kernel_rfl) (by rintro ⟨⟩ ⟨a1, ⟨⟩⟩; kernel_rfl)
noncomputable def zK1 : Ent := z7 (by kernel_rfl) zJp
theorem zP3 : OkX 19 [zS, tI] (.o zA) zDT := fX [zHx, zL7, zHv, zCV] (A := (jl [jj 14 5864062009344 [] [.t 21 .bool, .o 5 5 zA], jj 16 6602346876188600974469760000 [] [.o 5 5 zA], jj 13 6602346876188694799461995520 [] [.t 6 tI, .o 5 5 zA], jj 28 6602346876188694799461995520 [] [.o 5 5 zA]])) (fn := Tryz.f19) (by kernel_rfl) (by kernel_rfl) (by rintro ⟨⟩ ⟨a1, a2, ⟨⟩⟩; kernel_rfl)
noncomputable def zLp : Ent := z7 (by kernel_rfl) zP3
theorem zJl : OkX 23 [zS, (.sl (.sl zA)), (.sl zA), tI] (.p (.sl zA)) zA4 := fX [zHx, zFd, zLp, zCV] (A := (jl [jj 6 93824992149504 [] [.t 23 .bool], jj 15 0 [(3856, 224, 0)] []])) (fn := Tryz.f23) (by kernel_rfl) (by kernel_rfl) (by rintro ⟨⟩ ⟨a1, a2, a3, a4, ⟨⟩⟩; kernel_rfl)
noncomputable def zKX : Ent := z7 (by kernel_rfl) zJl
end Go.Ve

/-
  Contracts: merging of routes, tables of distance-vector routing.
-/
import Derived.Test.YtcnlcmbchljpgaaGreatQb23
import Derived.Test.YtcnlcmbchljpgaaGreatQb24
set_option linter.unusedVariables false
namespace Go.Ve
open Go Go.Proofs
set_option maxRecDepth 1000000
set_option maxHeartbeats 0
noncomputable def zEI:Ent:=zW5 (by kernel_rfl) zDO
noncomputable def zFh:Ent:=zXS (by kernel_rfl) zEB
theorem zHX:OkX 121 [(.sl zA)] (.p zA) zAz:=fX [zG7,zFh,zGc,zEI,zMc] (A:=(jl [jj 28 93819265617024 [] [.v 3 [.p zA]],jj 13 375299611036800 [] [.t 15 tI, .v 3 [.p zA]],jj 32 375299963358336 [] [.v 3 [.p zA]],jj 56 100743722224427047522304 [] [.o 6 6 jJ],jj 41 402975267200076888608768 [] [.t 27 tI, .o 6 6 jJ],jj 60 402975272829576422821888 [] [.o 6 6 jJ]])) (fn:=Tryz.f121) (by kernel_rfl) (by kernel_rfl) (by rintro ⟨⟩ ⟨a1,⟨⟩⟩;kernel_rfl)
noncomputable def zJm:Ent:=qJ (by kernel_rfl) zHX
theorem zLp:OkX 60 [(.sl zA)] (.p (.sl zA)) zCD:=fX [zJm,zJn,vO,kW,zFi] (A:=(jl [jj 30 98382635054057652224 [] [.t 33 .bool, .o 4 4 zA],jj 29 1574122160950821785856 [] [.t 6 tI, .o 4 4 zA],jj 36 1574122160950821785856 [] [.o 4 4 zA, .t 6 tI],jj 21 412646679761793424964982016 [] [.t 5 tI, .o 4 4 zA],jj 44 412646679761793424964982016 [] [.o 4 4 zA],jj 11 0 [(0,0,9),(8,0,2)] []])) (fn:=Tryz.f60) (by kernel_rfl) (by kernel_rfl) (by rintro ⟨⟩ ⟨a1,⟨⟩⟩;kernel_rfl)
noncomputable def zMW:Ent:=qJ (by kernel_rfl) zLp
theorem zCH:OkX 18 [z6,tI] (.p (.sl zA)) yK:=fX [zEH,vO,kW,zMj,zAQ] (A:=(jl [jj 6 22906470400 [] [.t 17 .bool],jj 36 1730765619511609185490967430484992 [] [.o 5 5 zA],jj 21 6923062478046436836539461896557568 [] [.t 26 tI, .o 5 5 zA],jj 40 6923062478046436838040638865855488 [] [.o 5 5 zA]])) (fn:=Tryz.f18) (by kernel_rfl) (by kernel_rfl) (by rintro ⟨⟩ ⟨a1,a2,⟨⟩⟩;kernel_rfl)
noncomputable def zJv:Ent:=qJ (by kernel_rfl) zCH
noncomputable def zEL:Ent:=qJ (by kernel_rfl) zDR
theorem zBG:OkX 22 [z6,(.sl (.sl zA)),(.sl zA),tI] (.p (.sl zA)) w3:=fX [zMW,zEL,zFm,zJv] (A:=(jl [jj 6 384307168202194944 [] [.t 29 .bool]])) (fn:=Tryz.f22) (by kernel_rfl) (by kernel_rfl) (by rintro ⟨⟩ ⟨a1,a2,a3,a4,⟨⟩⟩;kernel_rfl)
noncomputable def zHc:Ent:=qJ (by kernel_rfl) zBG
end Go.Ve

/-
  law17: the fixed sanity check, run in the kernel.
  law20: the fixed sanity check, run in the kernel.
  The law's contract: law20_PathTables.
-/
import Derived.Test.YtcnlcmbchljpgaaGreatPt14
import Derived.Test.YtcnlcmbchljpgaaGreatPt27
import Derived.Test.YtcnlcmbchljpgaaGreatPt23
import Derived.Test.YtcnlcmbchljpgaaGreatPt18
set_option linter.unusedVariables false
namespace Go.Ve
open Go Go.Proofs
set_option maxRecDepth 1000000
theorem qB8:zO7 Tryz.prog=true:=by kernel_rfl
noncomputable abbrev qCp (n:Nat):jM (wF zO):=zSW (Γ:=wF zO) LF G0 (zQ.addH (zQ.none (wF zO))).toS 300 n
theorem zV2 (n:Nat):qG (wF zO) Tryz.prog G0 (qCp n):=
 zGb mixed qB8 (zNQ qC (by kernel_rfl) (by kernel_rfl)) 330 310 300 n
noncomputable def zNP:ElS [zX]→Option (RTy.El (.tu [zLc,tI])):=zPi (.tu [zHK,tI]) (qBh (qCp 14 123) [zX] (.tu [zHK,tI]))
theorem zPP:w6 U Tryz.prog G0 123 (qQ (wI [zX] (.tu [zLc,tI]) zNP)):=
 zNY (tE:=zO) (G:=G0) (ts:=[zX]) (R:= .tu [zHK,tI]) (g:=qBh (qCp 14 123) [zX] (.tu [zHK,tI])) (fun _=>rfl) (by kernel_rfl) (zYu ((zV2 14).ok 123) _ _)
end Go.Ve

namespace Go.Ve
open Go Go.Proofs
set_option maxRecDepth 1000000
noncomputable def zZ4:ElS [zN,zS,tI]→Option (List (Ty.El zB)):=atP [zN,zS,tI] (uK,zT6,1,()) l20 noF
noncomputable def zYh:ElS [zN,(.sl zS),tI]→Option (List (Ty.El zB)):=atP [zN,(.sl zS),tI] (uK,s20,0,()) t20 noF
noncomputable def qBd:ElS [zN]→Option (List (Ty.El zK)):=atP [zN] (uK,()) e20 noF
noncomputable abbrev qCm:zQ U:=((((zQ.none U).add 123 (vG (zF0 [zX]) (.tu [zLc,tI]) zNP)).add 39 (vG (zF0 [zN,zS,tI]) (.p (.sl zB)) zZ4)).add 41 (vG (zF0 [zN,(.sl zS),tI]) (.p (.sl zB)) zYh)).add 29 (vG (zF0 [zN]) (.p (.sl zK)) qBd)
noncomputable abbrev qC5 (n:Nat):jM U:=zSW (Γ:=U) LF G0 qCm.toS 300 n
theorem zV0 (n:Nat):qG U Tryz.prog G0 (qC5 n):=
 zGb mixed qB8 (q7 (q7 (q7 (q7 qC (by kernel_rfl) (zSr zPP)) (by kernel_rfl) (zTq zGA (zQ5 qBx zTQ))) (by kernel_rfl) (zTq zDE (zQ5 qBb zTQ))) (by kernel_rfl) (zTq zGx (zQ5 zWc zTQ))) 330 310 300 n
theorem qCo:qC5 16 31 () []=some ((), .p (.val (.bool true))):=by kernel_rfl
theorem zRC:w6 U Tryz.prog G0 31 (qQ (wI [] (.p .bool) zQd)):=by
 refine zU4 ((zV0 16).ok 31) ?_
 intro s ds r h
 cases ds with
 |nil=>
  have h:some ((),RV.p (.val (.bool true)))=some r:=h
  rw [←h];exact qCo
 |cons d ds=>cases h
end Go.Ve

namespace Go.Ve
open Go Go.Proofs
set_option maxRecDepth 1000000
set_option maxHeartbeats 0
theorem zPW:OkX 40 [zN,zS,tI] (.o zB) zEZ:=fX [zC5,zIs,zMn,zVn,zEA] (A:=(jl [jj 10 6148914685509894144 [] [.t 31 .bool],jj 32 1858395433210462711594567112920197891637248 [] [.o 7 7 zB, .v 9 [.p zB]],jj 29 1858395433210885255347038818109341195321344 [] [.t 10 tI, .o 7 7 zB, .v 9 [.p zB]],jj 48 1858395433210885255347038818109341195321344 [] [.o 7 7 zB, .v 9 [.p zB]],jj 56 2142584059011865242252838547878366496293544301458752503562240 [] [.o 7 7 zB, .v 9 [.p zB]],jj 53 2142584059011987032197554023243998208234960802323027043303424 [] [.t 11 tI, .o 7 7 zB, .v 9 [.p zB]],jj 76 2142584059011987032197554023243998208234960802323027043303424 [] [.o 7 7 zB, .v 9 [.p zB]],jj 118 11124932478754581917674899370587598947970887525384044178855111552823959199019470727310999552000 [] [.t 15 .bool, .o 7 7 zB],jj 109 11124932478754740002824730616523400978258170636550240855701676318604014068486037530715535458304 [] [.t 16 tI, .t 15 .bool, .o 7 7 zB],jj 120 11124932478754740002824730616523400978258170636550240855701676318604014068486037530715535458304 [] [.t 15 .bool, .o 7 7 zB],jj 92 182270893731917660364375185004186092186636009380001869454508045258334784308075007561424037162270720 [] [.o 7 7 zB, .v 9 [.p zB]],jj 89 182270893731917660364375185593126127130541735694502814030451877323938204218473813411132403123503104 [] [.t 13 tI, .o 7 7 zB, .v 9 [.p zB]],jj 132 182270893731917660364375185593126127130541735694502814030451877323938204218473813411132403123765248 [] [.o 7 7 zB],jj 119 0 [(23,0,8)] []])) (fn:=Tryz.f40) (by kernel_rfl) (by kernel_rfl) (by rintro ⟨⟩ ⟨a1,a2,a3,⟨⟩⟩;kernel_rfl)
noncomputable def zRM:Ent:=z6 (by kernel_rfl) zPW
theorem zOw:OkX 34 [zN,zK,zB] (.tu [zB, .bool]) zDO:=fX [qDh,zQK,zMk,zGO,zC5] (A:=(jl [jj 10 25184417346631965343744 [] [.t 37 .bool],jj 34 1858395433183842048989774295488767123783680 [] [.t 70 .bool],jj 21 7433581732843541047077828939248234751090688 [] [.t 10 tI, .v 6 [.p zB]],jj 40 7433581732843541047077828939248234751090688 [] [.v 6 [.p zB]],jj 52 32565530243400138240114874326944070151898206346401548288 [] [.v 5 [.p zB]],jj 85 632379196099113827013800896266348393841685637644790368115618032754680844685148160 [] [.t 16 tI, .v 15 [.p zB]],jj 96 632379196099113827013800896266348393841685637644790368115618032754680844685148160 [] [.v 15 [.p zB]],jj 95 0 [(2,0,7),(130,0,2)] [],jj 67 0 [(14,0,8)] [],jj 7 0 [(196608,16256,0)] []])) (fn:=Tryz.f34) (by kernel_rfl) (by kernel_rfl) (by rintro ⟨⟩ ⟨a1,a2,a3,⟨⟩⟩;kernel_rfl)
noncomputable def zQN:Ent:=z6 (by kernel_rfl) zOw
theorem zOv:OkX 37 [zN,zK,zB] (.tu [zB, .bool]) zDN:=fX [qDh,zMk,zGO] (A:=(jl [jj 13 412646679665716632916877312 [] [.t 10 tI, .v 6 [.p zB]],jj 28 412646679665716632916877312 [] [.v 6 [.p zB]],jj 56 2142453286059166478206702877508566643645935192638631316553728 [] [.v 14 [.p zB]],jj 55 0 [(112,7,0)] [],jj 47 0 [(23,0,8)] [],jj 35 0 [(786432,65536,0)] [],jj 7 0 [(196608,16256,0)] []])) (fn:=Tryz.f37) (by kernel_rfl) (by kernel_rfl) (by rintro ⟨⟩ ⟨a1,a2,a3,⟨⟩⟩;kernel_rfl)
noncomputable def zQM:Ent:=z6 (by kernel_rfl) zOv
theorem zJo:OkX 42 [zN,(.sl zS),tI] (.p (.sl zB)) zAG:=fX [zRP,zQM,zQN,zNw,zRM,zEA] (A:=(jl [jj 6 384307167844368384 [] [.t 29 .bool],jj 44 137125379776767170179578950373822297076760906504708222659608576 [] [.o 7 36 zB],jj 41 137125379776767170179580765213105781278698160612473209674022912 [] [.t 10 tI, .o 7 36 zB],jj 28 137125379776767170179580765213112541669252698074154433791410176 [] [.o 7 36 zB],jj 25 137125379776767170179580765213112542081798634017646639660154880 [] [.t 9 tI, .o 7 36 zB],jj 68 137125379776767170179580765213112542081798634017646639660154880 [] [.o 7 36 zB],jj 59 0 [(6144,512,0)] [],jj 51 0 [(12582912,1048576,0)] []])) (fn:=Tryz.f42) (by kernel_rfl) (by kernel_rfl) (by rintro ⟨⟩ ⟨a1,a2,a3,⟨⟩⟩;kernel_rfl)
noncomputable def zKN:Ent:=z6 (by kernel_rfl) zJo
noncomputable def zTH:Ent:=z6 (by kernel_rfl) zRC
theorem zJs:OkX 10 [zX,(.sl tI),(.sl zS)] (.p .bool) zAJ:=fX [zTH,zOU,zKN,zKQ,zRR,zTI] (A:=(jl [jj 10 93823560581120 [] [.t 23 .bool],jj 21 402975273111051399598080 [] [.t 9 tI],jj 36 402975273111051399598080 [] []])) (fn:=Tryz.f10) (by kernel_rfl) (by kernel_rfl) (by rintro ⟨⟩ ⟨a1,a2,a3,⟨⟩⟩;kernel_rfl)
end Go.Ve

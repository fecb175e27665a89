/-
  law17: the fixed sanity check, run in the kernel.
  The law's contract: DistFilters (law17).
-/
import Derived.Test.YtcnlcmbchljpgaaGreatQf13
import Derived.Test.YtcnlcmbchljpgaaGreatQf26
import Derived.Test.YtcnlcmbchljpgaaGreatQf23
set_option linter.unusedVariables false
namespace Go.Ve
open Go Go.Proofs
set_option maxRecDepth 1000000
theorem zWP : zLa Tryz.prog = true := by kernel_rfl
noncomputable abbrev zW7 (n : Nat) : q7 (jN zJ) := zOv (Γ := jN zJ) LF G0 (zS.addH (zS.none (jN zJ))).toS 300 n
theorem zRc (n : Nat) : qD (jN zJ) Tryz.prog G0 (zW7 n) :=
 zDU mixed zWP (zJ5 qC (by kernel_rfl) (by kernel_rfl)) 330 310 300 n
noncomputable def zJ4 : ElS [zQ] → Option (RTy.El (.tu [zHQ, tI])) := zLl (.tu [zFc, tI]) (zV4 (zW7 14 123) [zQ] (.tu [zFc, tI]))
theorem zLL : j8 U Tryz.prog G0 123 (qH (jP [zQ] (.tu [zHQ, tI]) zJ4)) :=
 zKd (tE := zJ) (G := G0) (ts := [zQ]) (R := .tu [zFc, tI]) (g := zV4 (zW7 14 123) [zQ] (.tu [zFc, tI])) (fun _ => rfl) (by kernel_rfl) (zTy ((zRc 14).ok 123) _ _)
noncomputable def zXf : ElS [zW, tI] → Option (List (Ty.El zA)) := atP [zW, tI] (zAA, 1, ()) o17 noF
noncomputable def zUg : ElS [zW, (.sl (.sl zA)), (.sl zA), tI] → Option (List (Ty.El zA)) := atP [zW, (.sl (.sl zA)), (.sl zA), tI] (zAA, [[], o17], [], 0, ()) t17 noF
noncomputable abbrev zW5 : zS U := (((zS.none U).add 123 (wI (zEH [zQ]) (.tu [zHQ, tI]) zJ4)).add 18 (wI (zEH [zW, tI]) (.p (.sl zA)) zXf)).add 22 (wI (zEH [zW, (.sl (.sl zA)), (.sl zA), tI]) (.p (.sl zA)) zUg)
noncomputable abbrev zXN (n : Nat) : q7 U := zOv (Γ := U) LF G0 zW5.toS 300 n
theorem zRb (n : Nat) : qD U Tryz.prog G0 (zXN n) :=
 zDU mixed zWP (qS (qS (qS qC (by kernel_rfl) (zNY zLL)) (by kernel_rfl) (zSN zCZ (zQU zXS zSX))) (by kernel_rfl) (zSN zGo (zQU zVY zSX))) 330 310 300 n
theorem zW6 : zXN 16 24 () [] = some ((), .p (.val (.bool true))) := by kernel_rfl
theorem zNc : j8 U Tryz.prog G0 24 (qH (jP [] (.p .bool) zL2)) := by
 refine zQm ((zRb 16).ok 24) ?_
 intro s ds r h
 cases ds with
 | nil =>
  have h : some ((), RV.p (.val (.bool true))) = some r := h
  rw [← h]; exact zW6
 | cons d ds => cases h
end Go.Ve

namespace Go.Ve
open Go Go.Proofs
set_option maxRecDepth 1000000
set_option maxHeartbeats 0
noncomputable def zO5 : Ent := qG (by kernel_rfl) zNc
theorem zFt : OkX 5 [zQ, (.sl tI), (.sl (.sl zA))] (.p .bool) yB := fX [zO5, zIO, zFF, zBz, zNo, zO6] (A := (jl [jj 10 393524535439633940480 [] [.t 34 .bool], jj 41 7259357160557470353809248491378837557248 [] [.t 12 tI], jj 56 7259357160557470353809248491378837557248 [] [], jj 78 2142584059011956586105171729310754226595589069147480948473856 [] [.t 100 .bool], jj 90 632379196688053861957706622580849338417629469710393788026016838604389204136820736 [] [.t 134 .bool], jj 126 14102527334191970110974192508948873922001991779070590305532052514797513248637163235680501019396259676956638115363047514046464 [] [.t 19 .bool], jj 117 14102527334191970110974193237854449930012557396371747535891711622970431502844920980108449688728741099600225810699959192780800 [] [.t 20 tI, .t 19 .bool], jj 128 14102527334191970110974193237854449930012557396371747535891711622970431502844920980108449688728741099600225810699959192780800 [] [.t 19 .bool], jj 100 14440987990212577393637573875745227622022338184742076202215655197192623933132394528465159693237474043229029613345575669111717888 [] [], jj 97 14440987990212577393637573875745227622064776433616665465658184967094556972026852559243874888871775302183088204962095628996841472 [] [.t 17 tI], jj 80 14440987990212577393637573875745227622064776434249044662346247815666871299876774994121638173822448833736772226556612300068884480 [] [], jj 77 14440987990212577393637573875745227622064776434249044662346247815701152644820966756218582587398582840013811875501415638797127680 [] [.t 15 tI], jj 64 14440987990212577393637573875745227622064776434249044662346247815701152644820966786547596057400230312502388726303187287198928896 [] [], jj 61 14440987990212577393637573875745227622064776434249044662346247815701152644820966786666526105768565989236692005099020004242755584 [] [.t 13 tI], jj 24 14440987990212577393637573875745227622064776434249044662346247815701152644820966786666533365125726969255633989331159043089108992 [] [], jj 21 14440987990212577393637573875745227622064776434249044662346247815701152644820966786666533365125726969257245496893438309518544896 [] [.t 9 tI], jj 136 14440987990212577393637573875745227622064776434249044662346247815701152644820966786666533365125726969257245496893438309518544896 [] [], jj 127 0 [(42, 0, 8)] []])) (fn := Tryz.f5) (by kernel_rfl) (by kernel_rfl) (by rintro ⟨⟩ ⟨a1, a2, a3, ⟨⟩⟩; kernel_rfl)
end Go.Ve

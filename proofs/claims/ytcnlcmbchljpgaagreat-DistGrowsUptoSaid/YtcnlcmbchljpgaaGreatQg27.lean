/-
  law17: the fixed sanity check, run in the kernel.
  The law's contract: DistGrows (law17).
-/
import Derived.Test.YtcnlcmbchljpgaaGreatQg13
import Derived.Test.YtcnlcmbchljpgaaGreatQg26
import Derived.Test.YtcnlcmbchljpgaaGreatQg23
import Derived.Test.YtcnlcmbchljpgaaGreatQg14
set_option linter.unusedVariables false
namespace Go.Ve
open Go Go.Proofs
set_option maxRecDepth 1000000
theorem zWq : zKL Tryz.prog = true := by kernel_rfl
noncomputable abbrev zWG (n : Nat) : q7 (jL zJ) := zOc (Γ := jL zJ) LF G0 (zQ.addH (zQ.none (jL zJ))).toS 300 n
theorem zQU (n : Nat) : qC (jL zJ) Tryz.prog G0 (zWG n) :=
 zDI mixed zWq (zJD qA (by kernel_rfl) (by kernel_rfl)) 330 310 300 n
noncomputable def zJC : ElS [zS] → Option (RTy.El (.tu [zHu, tI])) := zKV (.tu [zEY, tI]) (zVH (zWG 14 123) [zS] (.tu [zEY, tI]))
theorem zLl : j6 U Tryz.prog G0 123 (qG (jM [zS] (.tu [zHu, tI]) zJC)) :=
 zJM (tE := zJ) (G := G0) (ts := [zS]) (R := .tu [zEY, tI]) (g := zVH (zWG 14 123) [zS] (.tu [zEY, tI])) (fun _ => rfl) (by kernel_rfl) (zTf ((zQU 14).ok 123) _ _)
noncomputable def zWN : ElS [zV, tI] → Option (List (Ty.El zA)) := atP [zV, tI] (zAr, 1, ()) o17 noF
noncomputable def zTW : ElS [zV, (.sl (.sl zA)), (.sl zA), tI] → Option (List (Ty.El zA)) := atP [zV, (.sl (.sl zA)), (.sl zA), tI] (zAr, [[], o17], [], 0, ()) t17 noF
noncomputable abbrev zWE : zQ U := (((zQ.none U).add 123 (wH (zEw [zS]) (.tu [zHu, tI]) zJC)).add 18 (wH (zEw [zV, tI]) (.p (.sl zA)) zWN)).add 22 (wH (zEw [zV, (.sl (.sl zA)), (.sl zA), tI]) (.p (.sl zA)) zTW)
noncomputable abbrev zXj (n : Nat) : q7 U := zOc (Γ := U) LF G0 zWE.toS 300 n
theorem zQT (n : Nat) : qC U Tryz.prog G0 (zXj n) :=
 zDI mixed zWq (qQ (qQ (qQ qA (by kernel_rfl) (zNE zLl)) (by kernel_rfl) (zSv zCL (zQC zXn zSF))) (by kernel_rfl) (zSv zF7 (zQC zVB zSF))) 330 310 300 n
theorem zWF : zXj 16 24 () [] = some ((), .p (.val (.bool true))) := by kernel_rfl
theorem zMR : j6 U Tryz.prog G0 24 (qG (jM [] (.p .bool) zLD)) := by
 refine zP4 ((zQT 16).ok 24) ?_
 intro s ds r h
 cases ds with
 | nil =>
  have h : some ((), RV.p (.val (.bool true))) = some r := h
  rw [← h]; exact zWF
 | cons d ds => cases h
end Go.Ve

namespace Go.Ve
open Go Go.Proofs
set_option maxRecDepth 1000000
set_option maxHeartbeats 0
noncomputable def zON : Ent := qF (by kernel_rfl) zMR
theorem zGU : OkX 4 [zS, (.sl tI), (.sl (.sl zA))] (.p .bool) x4 := fX [zON, zOL, zM4, zBp, zM6, zOO] (A := (jl [jj 10 384301304140267520 [] [.t 29 .bool], jj 50 113427455217762621078381735311688335360 [] [.t 63 .bool], jj 74 2355796086371179105600231487368595068317196186784055549622561894328958976 [] [.t 120 .bool], jj 37 2355796086371179106111063334323891354436645195833755635555603393596624896 [] [.t 11 tI], jj 24 2355796086371179106111063334323891354436645195834157036706647313440837632 [] [], jj 21 2355796086371179106111063334323891354436645195834158610444501101787222016 [] [.t 9 tI], jj 80 2355796086371179106111063334323891354436645195834158610444501101787222016 [] [], jj 59 0 [(393216, 32768, 0)] []])) (fn := Tryz.f4) (by kernel_rfl) (by kernel_rfl) (by rintro ⟨⟩ ⟨a1, a2, a3, ⟨⟩⟩; kernel_rfl)
end Go.Ve

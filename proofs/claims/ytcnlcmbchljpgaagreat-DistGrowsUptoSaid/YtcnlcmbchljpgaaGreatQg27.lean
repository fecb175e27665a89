/-
  law17: the fixed sanity check, run in the kernel.
  The law's contract: DistGrows (law17).
-/
import Derived.Test.YtcnlcmbchljpgaaGreatQg13
import Derived.Test.YtcnlcmbchljpgaaGreatQg26
import Derived.Test.YtcnlcmbchljpgaaGreatQg23
import Derived.Test.YtcnlcmbchljpgaaGreatQg14
set_option linter.unusedVariables false
namespace Go.Ve
open Go Go.Proofs
set_option maxRecDepth 1000000
theorem zWp : zKK Tryz.prog = true := by kernel_rfl
noncomputable abbrev zWF (n : Nat) : q7 (jL zJ) := zOb (Γ := jL zJ) LF G0 (zQ.addH (zQ.none (jL zJ))).toS 300 n
theorem zQT (n : Nat) : qC (jL zJ) Tryz.prog G0 (zWF n) :=
 zDH mixed zWp (zJC qA (by kernel_rfl) (by kernel_rfl)) 330 310 300 n
noncomputable def zJB : ElS [zS] → Option (RTy.El (.tu [zHt, tI])) := zKU (.tu [zEX, tI]) (zVG (zWF 14 123) [zS] (.tu [zEX, tI]))
theorem zLk : j6 U Tryz.prog G0 123 (qG (jM [zS] (.tu [zHt, tI]) zJB)) :=
 zJL (tE := zJ) (G := G0) (ts := [zS]) (R := .tu [zEX, tI]) (g := zVG (zWF 14 123) [zS] (.tu [zEX, tI])) (fun _ => rfl) (by kernel_rfl) (zTe ((zQT 14).ok 123) _ _)
noncomputable def zWM : ElS [zV, tI] → Option (List (Ty.El zA)) := atP [zV, tI] (zAr, 1, ()) o17 noF
noncomputable def zTV : ElS [zV, (.sl (.sl zA)), (.sl zA), tI] → Option (List (Ty.El zA)) := atP [zV, (.sl (.sl zA)), (.sl zA), tI] (zAr, [[], o17], [], 0, ()) t17 noF
noncomputable abbrev zWD : zQ U := (((zQ.none U).add 123 (wH (zEv [zS]) (.tu [zHt, tI]) zJB)).add 18 (wH (zEv [zV, tI]) (.p (.sl zA)) zWM)).add 22 (wH (zEv [zV, (.sl (.sl zA)), (.sl zA), tI]) (.p (.sl zA)) zTV)
noncomputable abbrev zXi (n : Nat) : q7 U := zOb (Γ := U) LF G0 zWD.toS 300 n
theorem zQS (n : Nat) : qC U Tryz.prog G0 (zXi n) :=
 zDH mixed zWp (qQ (qQ (qQ qA (by kernel_rfl) (zND zLk)) (by kernel_rfl) (zSu zCL (zQB zXm zSE))) (by kernel_rfl) (zSu zF6 (zQB zVA zSE))) 330 310 300 n
theorem zWE : zXi 16 24 () [] = some ((), .p (.val (.bool true))) := by kernel_rfl
theorem zMQ : j6 U Tryz.prog G0 24 (qG (jM [] (.p .bool) zLC)) := by
 refine zP3 ((zQS 16).ok 24) ?_
 intro s ds r h
 cases ds with
 | nil =>
  have h : some ((), RV.p (.val (.bool true))) = some r := h
  rw [← h]; exact zWE
 | cons d ds => cases h
end Go.Ve

namespace Go.Ve
open Go Go.Proofs
set_option maxRecDepth 1000000
set_option maxHeartbeats 0
noncomputable def zOM : Ent := qF (by kernel_rfl) zMQ
theorem zGT : OkX 4 [zS, (.sl tI), (.sl (.sl zA))] (.p .bool) x4 := fX [zOM, zOK, zM3, zBp, zM5, zON] (A := (jl [jj 10 384301304140267520 [] [.t 29 .bool], jj 50 113427455217762621078381735311688335360 [] [.t 63 .bool], jj 74 2355796086371179105600231487368595068317196186784055549622561894328958976 [] [.t 120 .bool], jj 37 2355796086371179106111063334323891354436645195833755635555603393596624896 [] [.t 11 tI], jj 24 2355796086371179106111063334323891354436645195834157036706647313440837632 [] [], jj 21 2355796086371179106111063334323891354436645195834158610444501101787222016 [] [.t 9 tI], jj 80 2355796086371179106111063334323891354436645195834158610444501101787222016 [] [], jj 59 0 [(393216, 32768, 0)] []])) (fn := Tryz.f4) (by kernel_rfl) (by kernel_rfl) (by rintro ⟨⟩ ⟨a1, a2, a3, ⟨⟩⟩; kernel_rfl)
end Go.Ve

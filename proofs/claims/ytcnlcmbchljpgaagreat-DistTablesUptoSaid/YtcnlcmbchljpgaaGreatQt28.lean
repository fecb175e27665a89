/-
  law17: the fixed sanity check, run in the kernel.
  The law's contract: DistTables (law17).
-/
import Derived.Test.YtcnlcmbchljpgaaGreatQt15
import Derived.Test.YtcnlcmbchljpgaaGreatQt27
import Derived.Test.YtcnlcmbchljpgaaGreatQt23
set_option linter.unusedVariables false
namespace Go.Ve
open Go Go.Proofs
set_option maxRecDepth 1000000
theorem zX6 : zMj Tryz.prog = true := by kernel_rfl
noncomputable abbrev zYn (n : Nat) : q7 (jO zK) := zPQ (Γ := jO zK) LF G0 (zR.addH (zR.none (jO zK))).toS 300 n
theorem zSB (n : Nat) : qG (jO zK) Tryz.prog G0 (zYn n) :=
 zEl mixed zX6 (zLb qF (by kernel_rfl) (by kernel_rfl)) 330 310 300 n
noncomputable def zLa : ElS [zT] → Option (RTy.El (.tu [zIK, tI])) := zMt (.tu [zFK, tI]) (zXn (zYn 14 123) [zT] (.tu [zFK, tI]))
theorem zMY : wC U Tryz.prog G0 123 (qI (jQ [zT] (.tu [zIK, tI]) zLa)) :=
 zLj (tE := zK) (G := G0) (ts := [zT]) (R := .tu [zFK, tI]) (g := zXn (zYn 14 123) [zT] (.tu [zFK, tI])) (fun _ => rfl) (by kernel_rfl) (zUX ((zSB 14).ok 123) _ _)
noncomputable def zYt : ElS [zS, tI] → Option (List (Ty.El zA)) := atP [zS, tI] (zAR, 1, ()) o17 noF
noncomputable def zVE : ElS [zS, (.sl (.sl zA)), (.sl zA), tI] → Option (List (Ty.El zA)) := atP [zS, (.sl (.sl zA)), (.sl zA), tI] (zAR, [[], o17], [], 0, ()) t17 noF
noncomputable abbrev zYl : zR U := (((zR.none U).add 123 (wM (zFf [zT]) (.tu [zIK, tI]) zLa)).add 18 (wM (zFf [zS, tI]) (.p (.sl zA)) zYt)).add 22 (wM (zFf [zS, (.sl (.sl zA)), (.sl zA), tI]) (.p (.sl zA)) zVE)
noncomputable abbrev zYY (n : Nat) : q7 U := zPQ (Γ := U) LF G0 zYl.toS 300 n
theorem zSA (n : Nat) : qG U Tryz.prog G0 (zYY n) :=
 zEl mixed zX6 (qT (qT (qT qF (by kernel_rfl) (zPh zMY)) (by kernel_rfl) (zUd zDn (zSj zY3 zUn))) (by kernel_rfl) (zUd zCa (zSj zXi zUn))) 330 310 300 n
theorem zYm : zYY 16 24 () [] = some ((), .p (.val (.bool true))) := by kernel_rfl
theorem zOx : wC U Tryz.prog G0 24 (qI (jQ [] (.p .bool) zNi)) := by
 refine zRJ ((zSA 16).ok 24) ?_
 intro s ds r h
 cases ds with
 | nil =>
  have h : some ((), RV.p (.val (.bool true))) = some r := h
  rw [← h]; exact zYm
 | cons d ds => cases h
end Go.Ve

namespace Go.Ve
open Go Go.Proofs
set_option maxRecDepth 1000000
set_option maxHeartbeats 0
theorem zOt : OkX 35 [zA, zA] (.p .bool) zEs := fX [] (A := (jl [jj 6 535646014752996758513987364113720867507400997927597611761664 [] [.t 99 .bool], jj 17 36809313849014027518232367840296815048958860317401327296272531581830400 [] [.t 5 tI], jj 32 36809313849014027518232367840296815048958860317401327296272531581830400 [] [], jj 37 2529516786715442080576833017643471545091823102602734087111722013553331492167356672 [] [.t 6 tI], jj 52 2529516786715442080576833017643471545091823102602734087111722013553331492167356672 [] []])) (fn := Tryz.f35) (by kernel_rfl) (by kernel_rfl) (by rintro ⟨⟩ ⟨a1, a2, ⟨⟩⟩; kernel_rfl)
noncomputable def zQp : Ent := z7 (by kernel_rfl) zOt
theorem zKv : OkX 17 [(.sl zA), (.sl zA)] (.p .bool) kG := fX [zQp] (A := (jl [jj 17 6004799501763840 [] [.t 5 tI], jj 32 6004799501763840 [] []])) (fn := Tryz.f17) (by kernel_rfl) (by kernel_rfl) (by rintro ⟨⟩ ⟨a1, a2, ⟨⟩⟩; kernel_rfl)
noncomputable def zL8 : Ent := z7 (by kernel_rfl) zKv
noncomputable def zQt : Ent := z7 (by kernel_rfl) zOx
theorem zHc : OkX 3 [zT, (.sl tI), (.sl (.sl zA)), (.sl zA)] (.p .bool) xR := fX [zQt, zKX, zIr, zFd, zBY, zL8, zLp, zD8, zK1, zOI, zQu] (A := (jl [jj 10 1537228649902637056 [] [.t 30 .bool], jj 30 1858395433210885261788346700743537265213440 [] [.t 70 .bool], jj 21 1858395433210885261794641652158690653962240 [] [.t 11 tI], jj 36 1858395433210885261794641652158690653962240 [] []])) (fn := Tryz.f3) (by kernel_rfl) (by kernel_rfl) (by rintro ⟨⟩ ⟨a1, a2, a3, a4, ⟨⟩⟩; kernel_rfl)
end Go.Ve

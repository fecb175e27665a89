/-
  slices.Compact at hops lies in the program.
  slices.SortFunc at hops lies in the program; its contract.
-/
import Derived.Test.YtcnlcmbchljpgaaGreatQb22
import Derived.Test.YtcnlcmbchljpgaaGreatQb17
import Derived.Test.YtcnlcmbchljpgaaGreatQb16
import Derived.Test.YtcnlcmbchljpgaaGreatQb19
set_option linter.unusedVariables false
namespace Go.Ve
open Go Go.Proofs Go.Shelf Go.Lib
set_option maxRecDepth 100000
def zXo:Ren:=⟨fun f=>if f=43 then 158 else f,fun t=>if t=22 then 46 else if t=23 then 54 else t,fun g=>g⟩
theorem zPW:zSe Tryz.prog zXo where
 mixed:=mixed
 f43:=⟨Tryz.f158.name,by kernel_rfl,by kernel_rfl⟩
 t0:=by kernel_rfl
 a0:=zZ (by kernel_rfl)
 z0:=zN (by kernel_rfl)
 v0:=fun w=>by kernel_rfl
 t3:=by kernel_rfl
 a3:=zZ (by kernel_rfl)
 z3:=zN (by kernel_rfl)
 v3:=fun w=>by kernel_rfl
 t4:=by kernel_rfl
 a4:=zZ (by kernel_rfl)
 z4:=zN (by kernel_rfl)
 v4:=fun w=>by kernel_rfl
 t22:=by kernel_rfl
 a22:=zZ (by kernel_rfl)
 z22:=zN (by kernel_rfl)
 v22:=fun w=>by kernel_rfl
noncomputable instance:DecidableEq (Ty.El jJ):=fun x y=>Classical.propDecidable (x=y)
theorem zV4 (x y:Ty.El jJ):(x.1==y.1&&(x.2.1==y.2.1&&true))=decide (x=y):=by
 rw [Bool.eq_iff_iff]
 obtain ⟨a,b,⟨⟩⟩:=x
 obtain ⟨c,d,⟨⟩⟩:=y
 simp
theorem zV3 (x y:Ty.El jJ):eqV (jG.of Tryz.prog) 10000 54 (.agg (jJ.cells x)) (.agg (jJ.cells y))=some (decide (x=y)):=by
 rw [←zV4]
 kernel_rfl
theorem zVG (a:Option Addr):zOc (Γ:=U) LF G0 (zKI U) 300 14 158 () [.val (.slice a 0 0)]=some ((), .p (.val (.slice a 0 0))):=by kernel_rfl
theorem zQs (xs:List (Ty.El jJ)):(compact xs:List (Ty.El jJ))=wM zMT xs:=zMn zLR _ xs rfl
theorem zEB:zSR U Tryz.prog G0 158 jJ (vX []) kZ:=by
 have h:=zMV (P:=Tryz.prog) (ρ:=zXo) (f:=158) (a:=tI) (b:= .pair tU .unit) rfl zPW rfl (zZ (by kernel_rfl)) (zN (by kernel_rfl)) ((0:Int),(0:Int),()) (fun w=>by kernel_rfl) (by kernel_rfl) zV3
  (zVU rfl (fun a=>⟨_,(zDD mixed (by kernel_rfl) zGH 330 310 300 14).ok 158,zVG a⟩))
 intro s xs r x ys h1 h2
 refine h s xs r x ys h1 ?_
 show (if xs.length<1099511627776 then some (compact xs) else none)=some ys
 rw [zQs xs]
 exact h2
end Go.Ve

namespace Go.Ve
open Go Go.Proofs Go.Shelf Go.Sort
set_option maxRecDepth 100000
def zJL:Ren:=⟨fun f=>match f with
 |6=>156
 |14=>181
 |15=>182
 |20=>215
 |21=>216
 |22=>217
 |23=>218
 |24=>219
 |25=>220
 |26=>221
 |27=>222
 |28=>223
 |29=>224
 |46=>256
 |47=>257
 |48=>258
 |49=>259
 |50=>260
 |57=>281
 |n=>n,fun t=>match t with
 |0=>0
 |3=>3
 |4=>4
 |5=>5
 |9=>9
 |22=>46
 |24=>54
 |25=>207
 |39=>214
 |45=>263
 |46=>264
 |50=>229
 |53=>43
 |55=>271
 |66=>284
 |70=>288
 |76=>298
 |77=>299
 |n=>n,fun n=>n⟩
theorem zPV:SlLaysF0.n6 Tryz.prog zJL where
 mixed:=mixed
 f6:=⟨Tryz.f156.name,by kernel_rfl,by kernel_rfl⟩
 f14:=⟨Tryz.f181.name,by kernel_rfl,by kernel_rfl⟩
 f15:=by kernel_rfl
 f20:=⟨Tryz.f215.name,by kernel_rfl,by kernel_rfl⟩
 f21:=⟨Tryz.f216.name,by kernel_rfl,by kernel_rfl⟩
 f22:=⟨Tryz.f217.name,by kernel_rfl,by kernel_rfl⟩
 f23:=⟨Tryz.f218.name,by kernel_rfl,by kernel_rfl⟩
 f24:=⟨Tryz.f219.name,by kernel_rfl,by kernel_rfl⟩
 f25:=⟨Tryz.f220.name,by kernel_rfl,by kernel_rfl⟩
 f26:=⟨Tryz.f221.name,by kernel_rfl,by kernel_rfl⟩
 f27:=⟨Tryz.f222.name,by kernel_rfl,by kernel_rfl⟩
 f28:=by kernel_rfl
 f29:=by kernel_rfl
 f46:=⟨Tryz.f256.name,by kernel_rfl,by kernel_rfl⟩
 f47:=by kernel_rfl
 f48:=by kernel_rfl
 f49:=⟨Tryz.f259.name,by kernel_rfl,by kernel_rfl⟩
 f50:=⟨Tryz.f260.name,by kernel_rfl,by kernel_rfl⟩
 f57:=⟨Tryz.f281.name,by kernel_rfl,by kernel_rfl⟩
 t0:=by kernel_rfl
 a0:=zZ (by kernel_rfl)
 z0:=zN (by kernel_rfl)
 v0:=fun w=>by kernel_rfl
 t3:=by kernel_rfl
 a3:=zZ (by kernel_rfl)
 z3:=zN (by kernel_rfl)
 v3:=fun w=>by kernel_rfl
 t4:=by kernel_rfl
 a4:=zZ (by kernel_rfl)
 z4:=zN (by kernel_rfl)
 v4:=fun w=>by kernel_rfl
 t5:=by kernel_rfl
 a5:=zZ (by kernel_rfl)
 z5:=zN (by kernel_rfl)
 v5:=fun w=>by kernel_rfl
 t9:=by kernel_rfl
 a9:=zZ (by kernel_rfl)
 z9:=zN (by kernel_rfl)
 v9:=fun w=>by kernel_rfl
 t22:=by kernel_rfl
 a22:=zZ (by kernel_rfl)
 z22:=zN (by kernel_rfl)
 v22:=fun w=>by kernel_rfl
 t25:=by kernel_rfl
 a25:=zZ (by kernel_rfl)
 z25:=zN (by kernel_rfl)
 v25:=fun w=>by kernel_rfl
 t39:=by kernel_rfl
 a39:=zZ (by kernel_rfl)
 z39:=zN (by kernel_rfl)
 v39:=fun w=>by kernel_rfl
 t45:=by kernel_rfl
 a45:=zZ (by kernel_rfl)
 z45:=zN (by kernel_rfl)
 v45:=fun w=>by kernel_rfl
 t46:=by kernel_rfl
 a46:=zZ (by kernel_rfl)
 z46:=zN (by kernel_rfl)
 v46:=fun w=>by kernel_rfl
 t50:=by kernel_rfl
 a50:=zZ (by kernel_rfl)
 z50:=zN (by kernel_rfl)
 v50:=fun w=>by kernel_rfl
 t53:=by kernel_rfl
 a53:=zZ (by kernel_rfl)
 z53:=zN (by kernel_rfl)
 v53:=fun w=>by kernel_rfl
 t55:=by kernel_rfl
 a55:=zZ (by kernel_rfl)
 z55:=zN (by kernel_rfl)
 v55:=fun w=>by kernel_rfl
 t66:=by kernel_rfl
 a66:=zZ (by kernel_rfl)
 z66:=zN (by kernel_rfl)
 v66:=fun w=>by kernel_rfl
 t70:=by kernel_rfl
 a70:=zZ (by kernel_rfl)
 z70:=zN (by kernel_rfl)
 v70:=fun w=>by kernel_rfl
 t76:=by kernel_rfl
 a76:=zZ (by kernel_rfl)
 z76:=zN (by kernel_rfl)
 v76:=fun w=>by kernel_rfl
 t77:=by kernel_rfl
 a77:=zZ (by kernel_rfl)
 z77:=zN (by kernel_rfl)
 v77:=fun w=>by kernel_rfl
theorem zVH (a:Option Addr):zOc (Γ:=U) LF G0 (zKI U) 300 14 156 () [.val (.slice a 0 0), .clo 157 []]=some ((), .p (.tup [])):=by kernel_rfl
theorem zDO:zAp U Tryz.prog G0 156 jJ (vX [.clo 157 []]) (.tu []) vY:=
 zLU (P:=Tryz.prog) (ρ:=zJL) (f:=156) (g:=157) (a:=tI) (b:= .pair tU .unit) rfl zPV rfl (zZ (by kernel_rfl)) (zN (by kernel_rfl)) (c:=uS) zSB
  (enters_of Tryz.func157 (by kernel_rfl) rfl) zBr zDI
  (zWi rfl (fun a=>⟨_,(zDD mixed (by kernel_rfl) zGH 330 310 300 14).ok 156,zVH a⟩))
end Go.Ve

/-
  slices.Compact at hops lies in the program.
  slices.SortFunc at hops lies in the program; its contract.
-/
import Derived.Test.YtcnlcmbchljpgaaGreatPo23
import Derived.Test.YtcnlcmbchljpgaaGreatPo17
import Derived.Test.YtcnlcmbchljpgaaGreatPo16
import Derived.Test.YtcnlcmbchljpgaaGreatPo19
set_option linter.unusedVariables false
namespace Go.Ve
open Go Go.Proofs Go.Shelf Go.Lib
set_option maxRecDepth 100000
def qA3:Ren:=⟨fun f=>if f=43 then 158 else f,fun t=>if t=22 then 46 else if t=23 then 54 else t,fun g=>g⟩
theorem zSz:zU2 Tryz.prog qA3 where
 mixed:=mixed
 f43:=⟨Tryz.f158.name,by kernel_rfl,by kernel_rfl⟩
 t0:=by kernel_rfl
 a0:=qM (by kernel_rfl)
 z0:=zV (by kernel_rfl)
 v0:=fun w=>by kernel_rfl
 t3:=by kernel_rfl
 a3:=qM (by kernel_rfl)
 z3:=zV (by kernel_rfl)
 v3:=fun w=>by kernel_rfl
 t4:=by kernel_rfl
 a4:=qM (by kernel_rfl)
 z4:=zV (by kernel_rfl)
 v4:=fun w=>by kernel_rfl
 t22:=by kernel_rfl
 a22:=qM (by kernel_rfl)
 z22:=zV (by kernel_rfl)
 v22:=fun w=>by kernel_rfl
noncomputable instance:DecidableEq (Ty.El qP):=fun x y=>Classical.propDecidable (x=y)
theorem zZw (x y:Ty.El qP):(x.1==y.1&&(x.2.1==y.2.1&&true))=decide (x=y):=by
 rw [Bool.eq_iff_iff]
 obtain ⟨a,b,⟨⟩⟩:=x
 obtain ⟨c,d,⟨⟩⟩:=y
 simp
theorem zZv (x y:Ty.El qP):eqV (jE.of Tryz.prog) 10000 54 (.agg (qP.cells x)) (.agg (qP.cells y))=some (decide (x=y)):=by
 rw [←zZw]
 kernel_rfl
theorem zY4 (a:Option Addr):zQE (Γ:=U) LF G0 (zM6 U) 300 14 158 () [.val (.slice a 0 0)]=some ((), .p (.val (.slice a 0 0))):=by kernel_rfl
theorem zS8 (xs:List (Ty.El qP)):(compact xs:List (Ty.El qP))=vU zPr xs:=zOL zOe _ xs rfl
theorem zGl:zVD U Tryz.prog G0 158 qP (uF []) xA:=by
 have h:=zPt (P:=Tryz.prog) (ρ:=qA3) (f:=158) (a:=tI) (b:= .pair tU .unit) rfl zSz rfl (qM (by kernel_rfl)) (zV (by kernel_rfl)) ((0:Int),(0:Int),()) (fun w=>by kernel_rfl) (by kernel_rfl) zZv
  (zZk rfl (fun a=>⟨_,(zFc mixed (by kernel_rfl) zII 330 310 300 14).ok 158,zY4 a⟩))
 intro s xs r x ys h1 h2
 refine h s xs r x ys h1 ?_
 show (if xs.length<1099511627776 then some (compact xs) else none)=some ys
 rw [zS8 xs]
 exact h2
end Go.Ve

namespace Go.Ve
open Go Go.Proofs Go.Shelf Go.Sort
set_option maxRecDepth 100000
def zL6:Ren:=⟨fun f=>match f with
 |6=>156
 |14=>181
 |15=>182
 |20=>215
 |21=>216
 |22=>217
 |23=>218
 |24=>219
 |25=>220
 |26=>221
 |27=>222
 |28=>223
 |29=>224
 |46=>256
 |47=>257
 |48=>258
 |49=>259
 |50=>260
 |57=>281
 |n=>n,fun t=>match t with
 |0=>0
 |3=>3
 |4=>4
 |5=>5
 |9=>9
 |22=>46
 |24=>54
 |25=>207
 |39=>214
 |45=>263
 |46=>264
 |50=>229
 |53=>43
 |55=>271
 |66=>284
 |70=>288
 |76=>298
 |77=>299
 |n=>n,fun n=>n⟩
theorem zSy:SlLaysF0.n6 Tryz.prog zL6 where
 mixed:=mixed
 f6:=⟨Tryz.f156.name,by kernel_rfl,by kernel_rfl⟩
 f14:=⟨Tryz.f181.name,by kernel_rfl,by kernel_rfl⟩
 f15:=by kernel_rfl
 f20:=⟨Tryz.f215.name,by kernel_rfl,by kernel_rfl⟩
 f21:=⟨Tryz.f216.name,by kernel_rfl,by kernel_rfl⟩
 f22:=⟨Tryz.f217.name,by kernel_rfl,by kernel_rfl⟩
 f23:=⟨Tryz.f218.name,by kernel_rfl,by kernel_rfl⟩
 f24:=⟨Tryz.f219.name,by kernel_rfl,by kernel_rfl⟩
 f25:=⟨Tryz.f220.name,by kernel_rfl,by kernel_rfl⟩
 f26:=⟨Tryz.f221.name,by kernel_rfl,by kernel_rfl⟩
 f27:=⟨Tryz.f222.name,by kernel_rfl,by kernel_rfl⟩
 f28:=by kernel_rfl
 f29:=by kernel_rfl
 f46:=⟨Tryz.f256.name,by kernel_rfl,by kernel_rfl⟩
 f47:=by kernel_rfl
 f48:=by kernel_rfl
 f49:=⟨Tryz.f259.name,by kernel_rfl,by kernel_rfl⟩
 f50:=⟨Tryz.f260.name,by kernel_rfl,by kernel_rfl⟩
 f57:=⟨Tryz.f281.name,by kernel_rfl,by kernel_rfl⟩
 t0:=by kernel_rfl
 a0:=qM (by kernel_rfl)
 z0:=zV (by kernel_rfl)
 v0:=fun w=>by kernel_rfl
 t3:=by kernel_rfl
 a3:=qM (by kernel_rfl)
 z3:=zV (by kernel_rfl)
 v3:=fun w=>by kernel_rfl
 t4:=by kernel_rfl
 a4:=qM (by kernel_rfl)
 z4:=zV (by kernel_rfl)
 v4:=fun w=>by kernel_rfl
 t5:=by kernel_rfl
 a5:=qM (by kernel_rfl)
 z5:=zV (by kernel_rfl)
 v5:=fun w=>by kernel_rfl
 t9:=by kernel_rfl
 a9:=qM (by kernel_rfl)
 z9:=zV (by kernel_rfl)
 v9:=fun w=>by kernel_rfl
 t22:=by kernel_rfl
 a22:=qM (by kernel_rfl)
 z22:=zV (by kernel_rfl)
 v22:=fun w=>by kernel_rfl
 t25:=by kernel_rfl
 a25:=qM (by kernel_rfl)
 z25:=zV (by kernel_rfl)
 v25:=fun w=>by kernel_rfl
 t39:=by kernel_rfl
 a39:=qM (by kernel_rfl)
 z39:=zV (by kernel_rfl)
 v39:=fun w=>by kernel_rfl
 t45:=by kernel_rfl
 a45:=qM (by kernel_rfl)
 z45:=zV (by kernel_rfl)
 v45:=fun w=>by kernel_rfl
 t46:=by kernel_rfl
 a46:=qM (by kernel_rfl)
 z46:=zV (by kernel_rfl)
 v46:=fun w=>by kernel_rfl
 t50:=by kernel_rfl
 a50:=qM (by kernel_rfl)
 z50:=zV (by kernel_rfl)
 v50:=fun w=>by kernel_rfl
 t53:=by kernel_rfl
 a53:=qM (by kernel_rfl)
 z53:=zV (by kernel_rfl)
 v53:=fun w=>by kernel_rfl
 t55:=by kernel_rfl
 a55:=qM (by kernel_rfl)
 z55:=zV (by kernel_rfl)
 v55:=fun w=>by kernel_rfl
 t66:=by kernel_rfl
 a66:=qM (by kernel_rfl)
 z66:=zV (by kernel_rfl)
 v66:=fun w=>by kernel_rfl
 t70:=by kernel_rfl
 a70:=qM (by kernel_rfl)
 z70:=zV (by kernel_rfl)
 v70:=fun w=>by kernel_rfl
 t76:=by kernel_rfl
 a76:=qM (by kernel_rfl)
 z76:=zV (by kernel_rfl)
 v76:=fun w=>by kernel_rfl
 t77:=by kernel_rfl
 a77:=qM (by kernel_rfl)
 z77:=zV (by kernel_rfl)
 v77:=fun w=>by kernel_rfl
theorem zY5 (a:Option Addr):zQE (Γ:=U) LF G0 (zM6 U) 300 14 156 () [.val (.slice a 0 0), .clo 157 []]=some ((), .p (.tup [])):=by kernel_rfl
theorem zFq:zBt U Tryz.prog G0 156 qP (uF [.clo 157 []]) (.tu []) uU:=
 zOi (P:=Tryz.prog) (ρ:=zL6) (f:=156) (g:=157) (a:=tI) (b:= .pair tU .unit) rfl zSy rfl (qM (by kernel_rfl)) (zV (by kernel_rfl)) (c:=x5) zVr
  (enters_of Tryz.func157 (by kernel_rfl) rfl) zCL zFi
  (zZL rfl (fun a=>⟨_,(zFc mixed (by kernel_rfl) zII 330 310 300 14).ok 156,zY5 a⟩))
end Go.Ve

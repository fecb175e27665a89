/- law16 -/
import Derived.Test.YtgiopebfjmfmhaaGreatLt22
import Derived.Test.YtgiopebfjmfmhaaGreatLt17
import Derived.Test.YtgiopebfjmfmhaaGreatLt14
import Derived.Test.YtgiopebfjmfmhaaGreatLt20
set_option linter.unusedVariables false
open Go.Proofs.Tryz renaming prog->Aa
set_option maxRecDepth 1000000
set_option maxHeartbeats 0
namespace Go.Ve
open Go Go.Proofs Go.Shelf Go.Lib
def qHQ:Ren:=⟨fun f=>if f=43 then 178 else f,fun t=>if t=22 then 49 else if t=23 then 40 else t,fun g=>g⟩
theorem zXZ:qAU Aa qHQ where
 mixed:=mixed
 f43:=⟨Tryz.f178.name,by kernel_rfl,by kernel_rfl⟩
 t0:=by kernel_rfl
 a0:=zY (by kernel_rfl)
 z0:=zL (by kernel_rfl)
 v0:=fun w=>by kernel_rfl
 t3:=by kernel_rfl
 a3:=zY (by kernel_rfl)
 z3:=zL (by kernel_rfl)
 v3:=fun w=>by kernel_rfl
 t4:=by kernel_rfl
 a4:=zY (by kernel_rfl)
 z4:=zL (by kernel_rfl)
 v4:=fun w=>by kernel_rfl
 t22:=by kernel_rfl
 a22:=zY (by kernel_rfl)
 z22:=zL (by kernel_rfl)
 v22:=fun w=>by kernel_rfl
noncomputable instance:DecidableEq (Ty.El zP):=fun x y=>Classical.propDecidable (x=y)
theorem qGm(x y:Ty.El zP):(x.1==y.1&&(x.2.1==y.2.1&&true))=decide (x=y):=by
 grind
theorem qGl(x y:Ty.El zP):eqV (j9.of Aa) 10000 40 (.agg (zP.cells x)) (.agg (zP.cells y))=some (decide (x=y)):=by rw[<-qGm];kernel_rfl
theorem qFQ(a:Option Addr):zO9 (Γ:=U) LF G0 (zG7 U) 300 14 178 () [.val (.slice a 0 0)]=some ((),.p (.val (.slice a 0 0))):=by kernel_rfl
theorem zYx(xs:List (Ty.El zP)):(compact xs:List (Ty.El zP))=kR zTY xs:=zM4 zKr _ xs rfl
theorem zD0:zGI U Aa G0 178 zP (uM []) jB:=by
 have h:=zTZ (P:=Aa) (ρ:=qHQ) (f:=178) (a:=tI) (b:=.pair tU .unit) rfl zXZ rfl (zY (by kernel_rfl)) (zL (by kernel_rfl)) ((0:Int),(0:Int),()) (fun w=>by kernel_rfl) (by kernel_rfl) qGl
  (qBn rfl (fun a=>⟨_,(zBl mixed (by kernel_rfl) zCp 388 349 300 14).ok 178,qFQ a⟩))
 intro s c r x d e g;refine h s c r x d e ?_;show(if c.length<1099511627776 then some (compact c)else none)=some d;rw[zYx c];exact g
end Go.Ve
namespace Go.Ve
open Go Go.Proofs Go.Shelf Go.Sort
def zG2:Ren:=⟨fun f=>match f with
 |6=>176
 |14=>230
 |15=>85
 |20=>273
 |21=>274
 |22=>275
 |23=>276
 |24=>277
 |25=>278
 |26=>279
 |27=>280
 |28=>142
 |29=>143
 |46=>315
 |47=>185
 |48=>186
 |49=>316
 |50=>317
 |57=>331
 |n=>n,fun t=>match t with
 |0=>0
 |3=>3
 |4=>4
 |5=>5
 |9=>9
 |22=>49
 |24=>40
 |25=>249
 |39=>165
 |45=>219
 |46=>220
 |50=>83
 |53=>38
 |55=>227
 |66=>256
 |70=>260
 |76=>323
 |77=>324
 |n=>n,fun n=>n⟩
theorem zKn:SlLaysF0.n6 Aa zG2 where
 mixed:=mixed
 f6:=⟨Tryz.f176.name,by kernel_rfl,by kernel_rfl⟩
 f14:=⟨Tryz.f230.name,by kernel_rfl,by kernel_rfl⟩
 f15:=by kernel_rfl
 f20:=⟨Tryz.f273.name,by kernel_rfl,by kernel_rfl⟩
 f21:=⟨Tryz.f274.name,by kernel_rfl,by kernel_rfl⟩
 f22:=⟨Tryz.f275.name,by kernel_rfl,by kernel_rfl⟩
 f23:=⟨Tryz.f276.name,by kernel_rfl,by kernel_rfl⟩
 f24:=⟨Tryz.f277.name,by kernel_rfl,by kernel_rfl⟩
 f25:=⟨Tryz.f278.name,by kernel_rfl,by kernel_rfl⟩
 f26:=⟨Tryz.f279.name,by kernel_rfl,by kernel_rfl⟩
 f27:=⟨Tryz.f280.name,by kernel_rfl,by kernel_rfl⟩
 f28:=by kernel_rfl
 f29:=by kernel_rfl
 f46:=⟨Tryz.f315.name,by kernel_rfl,by kernel_rfl⟩
 f47:=by kernel_rfl
 f48:=by kernel_rfl
 f49:=⟨Tryz.f316.name,by kernel_rfl,by kernel_rfl⟩
 f50:=⟨Tryz.f317.name,by kernel_rfl,by kernel_rfl⟩
 f57:=⟨Tryz.f331.name,by kernel_rfl,by kernel_rfl⟩
 t0:=by kernel_rfl
 a0:=zY (by kernel_rfl)
 z0:=zL (by kernel_rfl)
 v0:=fun w=>by kernel_rfl
 t3:=by kernel_rfl
 a3:=zY (by kernel_rfl)
 z3:=zL (by kernel_rfl)
 v3:=fun w=>by kernel_rfl
 t4:=by kernel_rfl
 a4:=zY (by kernel_rfl)
 z4:=zL (by kernel_rfl)
 v4:=fun w=>by kernel_rfl
 t5:=by kernel_rfl
 a5:=zY (by kernel_rfl)
 z5:=zL (by kernel_rfl)
 v5:=fun w=>by kernel_rfl
 t9:=by kernel_rfl
 a9:=zY (by kernel_rfl)
 z9:=zL (by kernel_rfl)
 v9:=fun w=>by kernel_rfl
 t22:=by kernel_rfl
 a22:=zY (by kernel_rfl)
 z22:=zL (by kernel_rfl)
 v22:=fun w=>by kernel_rfl
 t25:=by kernel_rfl
 a25:=zY (by kernel_rfl)
 z25:=zL (by kernel_rfl)
 v25:=fun w=>by kernel_rfl
 t39:=by kernel_rfl
 a39:=zY (by kernel_rfl)
 z39:=zL (by kernel_rfl)
 v39:=fun w=>by kernel_rfl
 t45:=by kernel_rfl
 a45:=zY (by kernel_rfl)
 z45:=zL (by kernel_rfl)
 v45:=fun w=>by kernel_rfl
 t46:=by kernel_rfl
 a46:=zY (by kernel_rfl)
 z46:=zL (by kernel_rfl)
 v46:=fun w=>by kernel_rfl
 t50:=by kernel_rfl
 a50:=zY (by kernel_rfl)
 z50:=zL (by kernel_rfl)
 v50:=fun w=>by kernel_rfl
 t53:=by kernel_rfl
 a53:=zY (by kernel_rfl)
 z53:=zL (by kernel_rfl)
 v53:=fun w=>by kernel_rfl
 t55:=by kernel_rfl
 a55:=zY (by kernel_rfl)
 z55:=zL (by kernel_rfl)
 v55:=fun w=>by kernel_rfl
 t66:=by kernel_rfl
 a66:=zY (by kernel_rfl)
 z66:=zL (by kernel_rfl)
 v66:=fun w=>by kernel_rfl
 t70:=by kernel_rfl
 a70:=zY (by kernel_rfl)
 z70:=zL (by kernel_rfl)
 v70:=fun w=>by kernel_rfl
 t76:=by kernel_rfl
 a76:=zY (by kernel_rfl)
 z76:=zL (by kernel_rfl)
 v76:=fun w=>by kernel_rfl
 t77:=by kernel_rfl
 a77:=zY (by kernel_rfl)
 z77:=zL (by kernel_rfl)
 v77:=fun w=>by kernel_rfl
theorem zXt(a:Option Addr):zO9 (Γ:=U) LF G0 (zG7 U) 300 14 176 () [.val (.slice a 0 0),.clo 177 []]=some ((),.p (.tup [])):=by kernel_rfl
theorem zIH:zCU U Aa G0 176 zP (uM [.clo 177 []]) (.tu []) jG:=
 zGt (P:=Aa) (ρ:=zG2) (f:=176) (g:=177) (a:=tI) (b:=.pair tU .unit) rfl zKn rfl (zY (by kernel_rfl)) (zL (by kernel_rfl)) (c:=kA) zRo
  (enters_of Tryz.func177 (by kernel_rfl) rfl) zEH zAL
  (zWz rfl (fun a=>⟨_,(zBl mixed (by kernel_rfl) zCp 388 349 300 14).ok 176,zXt a⟩))
end Go.Ve
namespace Go.Ve
noncomputable section
open Go Go.Proofs
def zJJ:Ent:=qEY zIH
def zEV:Ent:=qH0 zD0
theorem zNX:OkX 118 [(.sl zC)] (.p zC) zDd:=fX [zMV,zEV,zLB,zJJ,zS4] [jj 28 93819265617024 [] [.v 3 [.p zC]],jj 13 375299611036800 [] [.t 15 tI,.v 3 [.p zC]],jj 32 375299963358336 [] [.v 3 [.p zC]],jj 56 0x15555400000000031000 [] [.o 6 6 zP],jj 41 0x55555540000000031000 [] [.t 27 tI,.o 6 6 zP],jj 60 0x55555554000000031000 [] [.o 6 6 zP]]
def zPI:Ent:=jJ zNX
theorem zKd:OkX 66 [(.sl zC)] (.o zC) zCH:=fX [zPI,zJI,zET,zDw,zKA] [jj 30 0x55555555400000000 [] [.t 33 .bool,.o 4 4 zC],jj 29 0x555555555400001100 [] [.t 6 tI,.o 4 4 zC],jj 36 0x555555555400001100 [] [.o 4 4 zC,.t 6 tI],jj 21 0x15555555555555555401500 [] [.t 5 tI,.o 4 4 zC],jj 44 0x15555555555555555401500 [] [.o 4 4 zC],jj 11 0 [(0,0,9),(8,0,2)] []]
end
end Go.Ve

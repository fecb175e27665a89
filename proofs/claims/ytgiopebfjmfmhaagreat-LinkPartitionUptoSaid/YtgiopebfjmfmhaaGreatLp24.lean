/- law16 -/
import Derived.Test.YtgiopebfjmfmhaaGreatLp22
import Derived.Test.YtgiopebfjmfmhaaGreatLp17
import Derived.Test.YtgiopebfjmfmhaaGreatLp14
import Derived.Test.YtgiopebfjmfmhaaGreatLp20
set_option linter.unusedVariables false
open Go.Proofs.Tryz renaming prog->Aa
set_option maxRecDepth 1000000
set_option maxHeartbeats 0
namespace Go.Ve
open Go Go.Proofs Go.Shelf Go.Lib
def qHb:Ren:=⟨fun f=>if f=43 then 178 else f,fun t=>if t=22 then 49 else if t=23 then 40 else t,fun g=>g⟩
theorem zXm:qAf Aa qHb where
 mixed:=mixed
 f43:=⟨Tryz.f178.name,by kernel_rfl,by kernel_rfl⟩
 t0:=by kernel_rfl
 a0:=zZ (by kernel_rfl)
 z0:=zK (by kernel_rfl)
 v0:=fun w=>by kernel_rfl
 t3:=by kernel_rfl
 a3:=zZ (by kernel_rfl)
 z3:=zK (by kernel_rfl)
 v3:=fun w=>by kernel_rfl
 t4:=by kernel_rfl
 a4:=zZ (by kernel_rfl)
 z4:=zK (by kernel_rfl)
 v4:=fun w=>by kernel_rfl
 t22:=by kernel_rfl
 a22:=zZ (by kernel_rfl)
 z22:=zK (by kernel_rfl)
 v22:=fun w=>by kernel_rfl
noncomputable instance:DecidableEq (Ty.El zQ):=fun x y=>Classical.propDecidable (x=y)
theorem qFG(x y:Ty.El zQ):(x.1==y.1&&(x.2.1==y.2.1&&true))=decide (x=y):=by
 grind
theorem qFF(x y:Ty.El zQ):eqV (j6.of Aa) 10000 40 (.agg (zQ.cells x)) (.agg (zQ.cells y))=some (decide (x=y)):=by rw[<-qFG];kernel_rfl
theorem qFb(a:Option Addr):zOD (Γ:=U) LF G0 (zGU U) 300 14 178 () [.val (.slice a 0 0)]=some ((),.p (.val (.slice a 0 0))):=by kernel_rfl
theorem zXV(xs:List (Ty.El zQ)):(compact xs:List (Ty.El zQ))=kP zTm xs:=zMD zJ2 _ xs rfl
theorem zDN:zGy U Aa G0 178 zQ (uI []) jB:=by
 have h:=zTn (P:=Aa) (ρ:=qHb) (f:=178) (a:=tI) (b:=.pair tU .unit) rfl zXm rfl (zZ (by kernel_rfl)) (zK (by kernel_rfl)) ((0:Int),(0:Int),()) (fun w=>by kernel_rfl) (by kernel_rfl) qFF
  (qAF rfl (fun a=>⟨_,(zBc mixed (by kernel_rfl) zCg 388 349 300 14).ok 178,qFb a⟩))
 intro s c r x d e g;refine h s c r x d e ?_;show(if c.length<1099511627776 then some (compact c)else none)=some d;rw[zXV c];exact g
end Go.Ve
namespace Go.Ve
open Go Go.Proofs Go.Shelf Go.Sort
def zGR:Ren:=⟨fun f=>match f with
 |6=>176
 |14=>230
 |15=>85
 |20=>273
 |21=>274
 |22=>275
 |23=>276
 |24=>277
 |25=>278
 |26=>279
 |27=>280
 |28=>142
 |29=>143
 |46=>315
 |47=>185
 |48=>186
 |49=>316
 |50=>317
 |57=>331
 |n=>n,fun t=>match t with
 |0=>0
 |3=>3
 |4=>4
 |5=>5
 |9=>9
 |22=>49
 |24=>40
 |25=>249
 |39=>165
 |45=>219
 |46=>220
 |50=>83
 |53=>38
 |55=>227
 |66=>256
 |70=>260
 |76=>323
 |77=>324
 |n=>n,fun n=>n⟩
theorem zJY:SlLaysF0.n6 Aa zGR where
 mixed:=mixed
 f6:=⟨Tryz.f176.name,by kernel_rfl,by kernel_rfl⟩
 f14:=⟨Tryz.f230.name,by kernel_rfl,by kernel_rfl⟩
 f15:=by kernel_rfl
 f20:=⟨Tryz.f273.name,by kernel_rfl,by kernel_rfl⟩
 f21:=⟨Tryz.f274.name,by kernel_rfl,by kernel_rfl⟩
 f22:=⟨Tryz.f275.name,by kernel_rfl,by kernel_rfl⟩
 f23:=⟨Tryz.f276.name,by kernel_rfl,by kernel_rfl⟩
 f24:=⟨Tryz.f277.name,by kernel_rfl,by kernel_rfl⟩
 f25:=⟨Tryz.f278.name,by kernel_rfl,by kernel_rfl⟩
 f26:=⟨Tryz.f279.name,by kernel_rfl,by kernel_rfl⟩
 f27:=⟨Tryz.f280.name,by kernel_rfl,by kernel_rfl⟩
 f28:=by kernel_rfl
 f29:=by kernel_rfl
 f46:=⟨Tryz.f315.name,by kernel_rfl,by kernel_rfl⟩
 f47:=by kernel_rfl
 f48:=by kernel_rfl
 f49:=⟨Tryz.f316.name,by kernel_rfl,by kernel_rfl⟩
 f50:=⟨Tryz.f317.name,by kernel_rfl,by kernel_rfl⟩
 f57:=⟨Tryz.f331.name,by kernel_rfl,by kernel_rfl⟩
 t0:=by kernel_rfl
 a0:=zZ (by kernel_rfl)
 z0:=zK (by kernel_rfl)
 v0:=fun w=>by kernel_rfl
 t3:=by kernel_rfl
 a3:=zZ (by kernel_rfl)
 z3:=zK (by kernel_rfl)
 v3:=fun w=>by kernel_rfl
 t4:=by kernel_rfl
 a4:=zZ (by kernel_rfl)
 z4:=zK (by kernel_rfl)
 v4:=fun w=>by kernel_rfl
 t5:=by kernel_rfl
 a5:=zZ (by kernel_rfl)
 z5:=zK (by kernel_rfl)
 v5:=fun w=>by kernel_rfl
 t9:=by kernel_rfl
 a9:=zZ (by kernel_rfl)
 z9:=zK (by kernel_rfl)
 v9:=fun w=>by kernel_rfl
 t22:=by kernel_rfl
 a22:=zZ (by kernel_rfl)
 z22:=zK (by kernel_rfl)
 v22:=fun w=>by kernel_rfl
 t25:=by kernel_rfl
 a25:=zZ (by kernel_rfl)
 z25:=zK (by kernel_rfl)
 v25:=fun w=>by kernel_rfl
 t39:=by kernel_rfl
 a39:=zZ (by kernel_rfl)
 z39:=zK (by kernel_rfl)
 v39:=fun w=>by kernel_rfl
 t45:=by kernel_rfl
 a45:=zZ (by kernel_rfl)
 z45:=zK (by kernel_rfl)
 v45:=fun w=>by kernel_rfl
 t46:=by kernel_rfl
 a46:=zZ (by kernel_rfl)
 z46:=zK (by kernel_rfl)
 v46:=fun w=>by kernel_rfl
 t50:=by kernel_rfl
 a50:=zZ (by kernel_rfl)
 z50:=zK (by kernel_rfl)
 v50:=fun w=>by kernel_rfl
 t53:=by kernel_rfl
 a53:=zZ (by kernel_rfl)
 z53:=zK (by kernel_rfl)
 v53:=fun w=>by kernel_rfl
 t55:=by kernel_rfl
 a55:=zZ (by kernel_rfl)
 z55:=zK (by kernel_rfl)
 v55:=fun w=>by kernel_rfl
 t66:=by kernel_rfl
 a66:=zZ (by kernel_rfl)
 z66:=zK (by kernel_rfl)
 v66:=fun w=>by kernel_rfl
 t70:=by kernel_rfl
 a70:=zZ (by kernel_rfl)
 z70:=zK (by kernel_rfl)
 v70:=fun w=>by kernel_rfl
 t76:=by kernel_rfl
 a76:=zZ (by kernel_rfl)
 z76:=zK (by kernel_rfl)
 v76:=fun w=>by kernel_rfl
 t77:=by kernel_rfl
 a77:=zZ (by kernel_rfl)
 z77:=zK (by kernel_rfl)
 v77:=fun w=>by kernel_rfl
theorem zWP(a:Option Addr):zOD (Γ:=U) LF G0 (zGU U) 300 14 176 () [.val (.slice a 0 0),.clo 177 []]=some ((),.p (.tup [])):=by kernel_rfl
theorem zIs:zCK U Aa G0 176 zQ (uI [.clo 177 []]) (.tu []) jG:=
 zGg (P:=Aa) (ρ:=zGR) (f:=176) (g:=177) (a:=tI) (b:=.pair tU .unit) rfl zJY rfl (zZ (by kernel_rfl)) (zK (by kernel_rfl)) (c:=v7) zQQ
  (enters_of Tryz.func177 (by kernel_rfl) rfl) zEt zAA
  (zVS rfl (fun a=>⟨_,(zBc mixed (by kernel_rfl) zCg 388 349 300 14).ok 176,zWP a⟩))
end Go.Ve
namespace Go.Ve
noncomputable section
open Go Go.Proofs
def zJp:Ent:=qEj zIs
def zEI:Ent:=qHl zDN
theorem zNt:OkX 118 [(.sl zC)] (.p zC) zC3:=fX [zMt,zEI,zLc,zJp,zSv] [jj 28 93819265617024 [] [.v 3 [.p zC]],jj 13 375299611036800 [] [.t 15 tI,.v 3 [.p zC]],jj 32 375299963358336 [] [.v 3 [.p zC]],jj 56 0x15555400000000031000 [] [.o 6 6 zQ],jj 41 0x55555540000000031000 [] [.t 27 tI,.o 6 6 zQ],jj 60 0x55555554000000031000 [] [.o 6 6 zQ]]
def zPa:Ent:=j9 zNt
theorem zJQ:OkX 66 [(.sl zC)] (.o zC) zCx:=fX [zPa,zJo,zEG,zDn,zKb] [jj 30 0x55555555400000000 [] [.t 33 .bool,.o 4 4 zC],jj 29 0x555555555400001100 [] [.t 6 tI,.o 4 4 zC],jj 36 0x555555555400001100 [] [.o 4 4 zC,.t 6 tI],jj 21 0x15555555555555555401500 [] [.t 5 tI,.o 4 4 zC],jj 44 0x15555555555555555401500 [] [.o 4 4 zC],jj 11 0 [(0,0,9),(8,0,2)] []]
end
end Go.Ve

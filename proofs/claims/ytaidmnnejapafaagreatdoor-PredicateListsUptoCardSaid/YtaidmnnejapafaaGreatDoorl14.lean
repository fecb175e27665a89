/-
  law31: the program's tables (private seat Tryz; in place of NvP).
  Functions out of code, over the fast tables.
-/
import Derived.Test.YtaidmnnejapafaaGreatDoorProg
import Derived.Test.YtaidmnnejapafaaGreatDoorl10
import Derived.Test.YtaidmnnejapafaaGreatDoorl7
set_option linter.unusedVariables false
namespace Go.Ve
open Go Go.Proofs
noncomputable abbrev LF:qK:=qK.fast Tryz.prog 204 127
def G0:Nat→Option (List V):=fun g=>match g with
 |0=>some [.val (.int .i64 0), .val (.int .i64 32), .val (.int .i64 32), .val (.int .i64 32), .val (.int .i64 64), .val (.int .i64 8), .val (.int .i64 72), .val (.int .i64 16), .val (.int .i64 88), .val (.int .i64 16)]
 |_=>none
abbrev U:=zAl
abbrev zDi (f:Func):Code:=match f.body with|some c=>c|none=> .skip
theorem mixed:Tryz.prog.follows .mixedOrders=true:=by kernel_rfl
end Go.Ve

namespace Go.Ve
open Go Go.Proofs
instance:Subsingleton U.St:=inferInstanceAs (Subsingleton Unit)
theorem zPM {S:zL U} {A:Nat→Option JA} (hS:zZ U Tryz.prog G0 S.toS) {f:FuncId} {fn:Func} {c:Code} (hf:LF.fn f=some fn) (hb:fn.body=some c)
  {ts:List Ty} {R:RTy} {g:ElS ts→Option R.El} (h: ∀s x,exF (Γ:=U) LF G0 S A fn c R s (encS ts x)=g x):kP U Tryz.prog G0 f (z8 (zAQ ts R g)):=by
 have hl:LF=qK.of Tryz.prog:=qK.fast_eq Tryz.prog 204 127
 rw [hl] at hf h
 exact zRz mixed hS hf hb h
theorem zNY {S:zL U} {A:Nat→Option JA} (hS:zZ U Tryz.prog G0 S.toS) {f:FuncId} {fn:Func} {c:Code} (hf:LF.fn f=some fn) (hb:fn.body=some c)
  {ts:List ATy} {R:RTy} {g:ElA ts→Option R.El} (h: ∀s x,exF (Γ:=U) LF G0 S A fn c R s (zOf ts x)=g x):kP U Tryz.prog G0 f (z8 (zQI ts R g)):=by
 have hl:LF=qK.of Tryz.prog:=qK.fast_eq Tryz.prog 204 127
 rw [hl] at hf h
 exact zRB mixed hS hf hb h
theorem zNX {S:zL U} {A:Nat→Option JA} (hS:zZ U Tryz.prog G0 S.toS) {f:FuncId} {fn:Func} {c:Code} (hf:LF.fn f=some fn) (hb:fn.body=some c)
  {t:Ty} {ts:List ATy} {R:RTy} (hpl:R.pl=true) (hno: ∀ty,R≠ .o ty) {g:List t.El→ElA ts→Option (List t.El×R.El)} (h: ∀s xs x,zT3 (Γ:=U) LF G0 S A fn c t R s xs (zOf ts x)=g xs x):zNj U Tryz.prog G0 f t (zIl ts) R g:=by
 have hl:LF=qK.of Tryz.prog:=qK.fast_eq Tryz.prog 204 127
 rw [hl] at hf h
 exact zRA mixed hS hf hb (zDf ts) (zRS ts) hpl hno h
structure Ent where
 ad:zL U→zL U
 ok: ∀S:zL U,zZ U Tryz.prog G0 S.toS→zZ U Tryz.prog G0 (ad S).toS
def jJ {f:FuncId} {sp:U.St→List V→Option (zCG U.St)} (hi:isFn Tryz.prog f=true) (h:kP U Tryz.prog G0 f (z8 sp)):Ent:=⟨fun S=>S.add f sp,fun _ hS=>xZ hS hi h⟩
def zUF {f:FuncId} {t:Ty} {X:Type} {dec:List V→Option X} {R:RTy} {g:List t.El→X→Option (List t.El×R.El)} (hi:isFn Tryz.prog f=true) (h:zNj U Tryz.prog G0 f t dec R g):Ent:=⟨fun S=>S.addB f (zBK t dec R g),fun _ hS=>zL0 hS hi h⟩
def wA:List Ent→zL U
 |[]=>zL.none U
 |e::r=>e.ad (wA r)
theorem zLs: ∀l,zZ U Tryz.prog G0 (wA l).toS
 |[]=>zDN
 |e::r=>e.ok _ (zLs r)
abbrev OkX (f:FuncId) (ts:List Ty) (R:RTy) (g:ElS ts→Option R.El):Prop:=kP U Tryz.prog G0 f (z8 (zAQ ts R g))
abbrev OkA (f:FuncId) (ts:List ATy) (R:RTy) (g:ElA ts→Option R.El):Prop:=kP U Tryz.prog G0 f (z8 (zQI ts R g))
theorem fX (l:List Ent) {A:Nat→Option JA} {f:FuncId} {fn:Func} (hf:LF.fn f=some fn) (hb:fn.body=some (zDi fn))
  {ts:List Ty} {R:RTy} {g:ElS ts→Option R.El} (h: ∀s x,exF (Γ:=U) LF G0 (wA l) A fn (zDi fn) R s (encS ts x)=g x):OkX f ts R g:=zPM (zLs l) hf hb h
theorem fA (l:List Ent) {A:Nat→Option JA} {f:FuncId} {fn:Func} (hf:LF.fn f=some fn) (hb:fn.body=some (zDi fn))
  {ts:List ATy} {R:RTy} {g:ElA ts→Option R.El} (h: ∀s x,exF (Γ:=U) LF G0 (wA l) A fn (zDi fn) R s (zOf ts x)=g x):OkA f ts R g:=zNY (zLs l) hf hb h
def jj (k b:Nat) (l:List (Nat×Nat×Nat)) (s:List yZ):Nat×JA:=(k,⟨b,l,s⟩)
def jl:List (Nat×JA)→Nat→Option JA
 |[],_=>none
 |(a,j)::r,k=>match Nat.beq a k with
  |true=>some j
  |false=>jl r k
end Go.Ve

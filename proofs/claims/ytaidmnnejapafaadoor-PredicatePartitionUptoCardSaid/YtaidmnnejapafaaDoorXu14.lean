/-
  law31: the program's tables (private seat Tryd; in place of NvP).
  Functions out of code, over the fast tables.
-/
import Derived.Test.YtaidmnnejapafaaDoorProg
import Derived.Test.YtaidmnnejapafaaDoorXu10
import Derived.Test.YtaidmnnejapafaaDoorXu7
set_option linter.unusedVariables false
namespace Go.Ve
open Go Go.Proofs
noncomputable abbrev LF:qQ:=qQ.fast Tryd.prog 214 142
def G0:Nat→Option (List V):=fun g=>match g with
 |0=>some [.val (.int .i64 0), .val (.int .i64 32), .val (.int .i64 32), .val (.int .i64 32), .val (.int .i64 64), .val (.int .i64 8), .val (.int .i64 72), .val (.int .i64 16), .val (.int .i64 88), .val (.int .i64 16)]
 |_=>none
abbrev U:=uY
abbrev zD2 (f:Func):Code:=match f.body with|some c=>c|none=> .skip
theorem mixed:Tryd.prog.follows .mixedOrders=true:=by kernel_rfl
end Go.Ve

namespace Go.Ve
open Go Go.Proofs
instance:Subsingleton U.St:=inferInstanceAs (Subsingleton Unit)
theorem zQG {S:zM U} {A:Nat→Option JA} (hS:z8 U Tryd.prog G0 S.toS) {f:FuncId} {fn:Func} {c:Code} (hf:LF.fn f=some fn) (hb:fn.body=some c)
  {ts:List Ty} {R:RTy} {g:ElS ts→Option R.El} (h: ∀s x,exF (Γ:=U) LF G0 S A fn c R s (encS ts x)=g x):uE U Tryd.prog G0 f (qJ (zAf ts R g)):=by
 have hl:LF=qQ.of Tryd.prog:=qQ.fast_eq Tryd.prog 214 142
 rw [hl] at hf h
 exact zSj mixed hS hf hb h
theorem zO0 {S:zM U} {A:Nat→Option JA} (hS:z8 U Tryd.prog G0 S.toS) {f:FuncId} {fn:Func} {c:Code} (hf:LF.fn f=some fn) (hb:fn.body=some c)
  {ts:List ATy} {R:RTy} {g:ElA ts→Option R.El} (h: ∀s x,exF (Γ:=U) LF G0 S A fn c R s (zPi ts x)=g x):uE U Tryd.prog G0 f (qJ (zRz ts R g)):=by
 have hl:LF=qQ.of Tryd.prog:=qQ.fast_eq Tryd.prog 214 142
 rw [hl] at hf h
 exact zSl mixed hS hf hb h
theorem zOZ {S:zM U} {A:Nat→Option JA} (hS:z8 U Tryd.prog G0 S.toS) {f:FuncId} {fn:Func} {c:Code} (hf:LF.fn f=some fn) (hb:fn.body=some c)
  {t:Ty} {ts:List ATy} {R:RTy} (hpl:R.pl=true) (hno: ∀ty,R≠ .o ty) {g:List t.El→ElA ts→Option (List t.El×R.El)} (h: ∀s xs x,zUx (Γ:=U) LF G0 S A fn c t R s xs (zPi ts x)=g xs x):zOm U Tryd.prog G0 f t (zJp ts) R g:=by
 have hl:LF=qQ.of Tryd.prog:=qQ.fast_eq Tryd.prog 214 142
 rw [hl] at hf h
 exact zSk mixed hS hf hb (zDZ ts) (zSB ts) hpl hno h
structure Ent where
 ad:zM U→zM U
 ok: ∀S:zM U,z8 U Tryd.prog G0 S.toS→z8 U Tryd.prog G0 (ad S).toS
def jI {f:FuncId} {sp:U.St→List V→Option (zDo U.St)} (hi:isFn Tryd.prog f=true) (h:uE U Tryd.prog G0 f (qJ sp)):Ent:=⟨fun S=>S.add f sp,fun _ hS=>zAC hS hi h⟩
def zU0 {f:FuncId} {t:Ty} {X:Type} {dec:List V→Option X} {R:RTy} {g:List t.El→X→Option (List t.El×R.El)} (hi:isFn Tryd.prog f=true) (h:zOm U Tryd.prog G0 f t dec R g):Ent:=⟨fun S=>S.addB f (zCn t dec R g),fun _ hS=>zM9 hS hi h⟩
def wT:List Ent→zM U
 |[]=>zM.none U
 |e::r=>e.ad (wT r)
theorem zMz: ∀l,z8 U Tryd.prog G0 (wT l).toS
 |[]=>zEA
 |e::r=>e.ok _ (zMz r)
abbrev OkX (f:FuncId) (ts:List Ty) (R:RTy) (g:ElS ts→Option R.El):Prop:=uE U Tryd.prog G0 f (qJ (zAf ts R g))
abbrev OkA (f:FuncId) (ts:List ATy) (R:RTy) (g:ElA ts→Option R.El):Prop:=uE U Tryd.prog G0 f (qJ (zRz ts R g))
theorem fX (l:List Ent) {A:Nat→Option JA} {f:FuncId} {fn:Func} (hf:LF.fn f=some fn) (hb:fn.body=some (zD2 fn))
  {ts:List Ty} {R:RTy} {g:ElS ts→Option R.El} (h: ∀s x,exF (Γ:=U) LF G0 (wT l) A fn (zD2 fn) R s (encS ts x)=g x):OkX f ts R g:=zQG (zMz l) hf hb h
theorem fA (l:List Ent) {A:Nat→Option JA} {f:FuncId} {fn:Func} (hf:LF.fn f=some fn) (hb:fn.body=some (zD2 fn))
  {ts:List ATy} {R:RTy} {g:ElA ts→Option R.El} (h: ∀s x,exF (Γ:=U) LF G0 (wT l) A fn (zD2 fn) R s (zPi ts x)=g x):OkA f ts R g:=zO0 (zMz l) hf hb h
def jj (k b:Nat) (l:List (Nat×Nat×Nat)) (s:List xZ):Nat×JA:=(k,⟨b,l,s⟩)
def jl:List (Nat×JA)→Nat→Option JA
 |[],_=>none
 |(a,j)::r,k=>match Nat.beq a k with
  |true=>some j
  |false=>jl r k
end Go.Ve

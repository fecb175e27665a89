/-
  law31: the program's tables (private seat Tryd; in place of NvP).
  Functions out of code, over the fast tables.
-/
import Derived.Test.YtaidmnnejapafaaDoorProg
import Derived.Test.YtaidmnnejapafaaDoorXf10
import Derived.Test.YtaidmnnejapafaaDoorXf7
set_option linter.unusedVariables false
namespace Go.Ve
open Go Go.Proofs
noncomputable abbrev LF:qN:=qN.fast Tryd.prog 214 142
def G0:Nat→Option (List V):=fun g=>match g with
 |0=>some [.val (.int .i64 0), .val (.int .i64 32), .val (.int .i64 32), .val (.int .i64 32), .val (.int .i64 64), .val (.int .i64 8), .val (.int .i64 72), .val (.int .i64 16), .val (.int .i64 88), .val (.int .i64 16)]
 |_=>none
abbrev U:=zAg
abbrev zDZ (f:Func):Code:=match f.body with|some c=>c|none=> .skip
theorem mixed:Tryd.prog.follows .mixedOrders=true:=by kernel_rfl
end Go.Ve

namespace Go.Ve
open Go Go.Proofs
instance:Subsingleton U.St:=inferInstanceAs (Subsingleton Unit)
theorem zOI {S:zL U} {A:Nat→Option JA} (hS:z8 U Tryd.prog G0 S.toS) {f:FuncId} {fn:Func} {c:Code} (hf:LF.fn f=some fn) (hb:fn.body=some c)
  {ts:List Ty} {R:RTy} {g:ElS ts→Option R.El} (h: ∀s x,exF (Γ:=U) LF G0 S A fn c R s (encS ts x)=g x):kX U Tryd.prog G0 f (qF (zB1 ts R g)):=by
 have hl:LF=qN.of Tryd.prog:=qN.fast_eq Tryd.prog 214 142
 rw [hl] at hf h
 exact zQq mixed hS hf hb h
theorem zMW {S:zL U} {A:Nat→Option JA} (hS:z8 U Tryd.prog G0 S.toS) {f:FuncId} {fn:Func} {c:Code} (hf:LF.fn f=some fn) (hb:fn.body=some c)
  {ts:List ATy} {R:RTy} {g:ElA ts→Option R.El} (h: ∀s x,exF (Γ:=U) LF G0 S A fn c R s (zOW ts x)=g x):kX U Tryd.prog G0 f (qF (zPz ts R g)):=by
 have hl:LF=qN.of Tryd.prog:=qN.fast_eq Tryd.prog 214 142
 rw [hl] at hf h
 exact zQr mixed hS hf hb h
structure Ent where
 ad:zL U→zL U
 ok: ∀S:zL U,z8 U Tryd.prog G0 S.toS→z8 U Tryd.prog G0 (ad S).toS
def jT {f:FuncId} {sp:U.St→List V→Option (zD1 U.St)} (hi:isFn Tryd.prog f=true) (h:kX U Tryd.prog G0 f (qF sp)):Ent:=⟨fun S=>S.add f sp,fun _ hS=>zES hS hi h⟩
def j4:List Ent→zL U
 |[]=>zL.none U
 |e::r=>e.ad (j4 r)
theorem zKF: ∀l,z8 U Tryd.prog G0 (j4 l).toS
 |[]=>zHc
 |e::r=>e.ok _ (zKF r)
abbrev OkX (f:FuncId) (ts:List Ty) (R:RTy) (g:ElS ts→Option R.El):Prop:=kX U Tryd.prog G0 f (qF (zB1 ts R g))
abbrev OkA (f:FuncId) (ts:List ATy) (R:RTy) (g:ElA ts→Option R.El):Prop:=kX U Tryd.prog G0 f (qF (zPz ts R g))
theorem fX (l:List Ent) {A:Nat→Option JA} {f:FuncId} {fn:Func} (hf:LF.fn f=some fn) (hb:fn.body=some (zDZ fn))
  {ts:List Ty} {R:RTy} {g:ElS ts→Option R.El} (h: ∀s x,exF (Γ:=U) LF G0 (j4 l) A fn (zDZ fn) R s (encS ts x)=g x):OkX f ts R g:=zOI (zKF l) hf hb h
theorem fA (l:List Ent) {A:Nat→Option JA} {f:FuncId} {fn:Func} (hf:LF.fn f=some fn) (hb:fn.body=some (zDZ fn))
  {ts:List ATy} {R:RTy} {g:ElA ts→Option R.El} (h: ∀s x,exF (Γ:=U) LF G0 (j4 l) A fn (zDZ fn) R s (zOW ts x)=g x):OkA f ts R g:=zMW (zKF l) hf hb h
def jj (k b:Nat) (l:List (Nat×Nat×Nat)) (s:List yR):Nat×JA:=(k,⟨b,l,s⟩)
def jl:List (Nat×JA)→Nat→Option JA
 |[],_=>none
 |(a,j)::r,k=>match Nat.beq a k with
  |true=>some j
  |false=>jl r k
end Go.Ve

/-
  law21, law23: the program's tables.
  Functions out of code, over the fast tables.
-/
import Derived.Test.YthhmapljcdohnaaGreatProg
import Derived.Test.YthhmapljcdohnaaGreatCs2
import Derived.Test.YthhmapljcdohnaaGreatCs8
import Derived.Test.YthhmapljcdohnaaGreatCs12
import Derived.Test.YthhmapljcdohnaaGreatCs13
set_option linter.unusedVariables false
set_option linter.unusedSimpArgs false
namespace Go.Ve
open Go Go.Proofs

noncomputable abbrev LF : Look := Look.fast Tryz.prog 404 364
def G0 : Nat → Option (List V) := fun _ => none
abbrev U := unitSig
abbrev bodyOf (f : Func) : Code := match f.body with | some c => c | none => .skip
theorem mixed : Tryz.prog.follows .mixedOrders = true := by kernel_rfl
end Go.Ve

namespace Go.Ve
open Go Go.Proofs

instance : Subsingleton U.St := inferInstanceAs (Subsingleton Unit)

theorem fnOk_fast {S : SpecsX U} {A : Nat → Option JA} (hS : Table U Tryz.prog G0 S.toS) {f : FuncId} {fn : Func} {c : Code} (hf : LF.fn f = some fn) (hb : fn.body = some c)
    {ts : List Ty} {R : RTy} {g : ElS ts → Option R.El} (h : ∀ s x, exF (Γ := U) LF G0 S A fn c R s (encS ts x) = g x) : FnOk U Tryz.prog G0 f (callS (specX ts R g)) := by
  have hl : LF = Look.of Tryz.prog := Look.fast_eq Tryz.prog 404 364
  rw [hl] at hf h
  exact fnOk_exF mixed hS hf hb h

theorem fnOk_fastA {S : SpecsX U} {A : Nat → Option JA} (hS : Table U Tryz.prog G0 S.toS) {f : FuncId} {fn : Func} {c : Code} (hf : LF.fn f = some fn) (hb : fn.body = some c)
    {ts : List ATy} {R : RTy} {g : ElA ts → Option R.El} (h : ∀ s x, exF (Γ := U) LF G0 S A fn c R s (encA ts x) = g x) : FnOk U Tryz.prog G0 f (callS (specA ts R g)) := by
  have hl : LF = Look.of Tryz.prog := Look.fast_eq Tryz.prog 404 364
  rw [hl] at hf h
  exact fnOk_exA mixed hS hf hb h

theorem fnOk_fastG {S : SpecsX U} {A : Nat → Option JA} (hS : Table U Tryz.prog G0 S.toS) {f : FuncId} {fn : Func} {c : Code} (hf : LF.fn f = some fn) (hb : fn.body = some c)
    {X : Type} {dec : List V → Option X} {enc : X → List V} (hdec : ∀ ds x, dec ds = some x → WkVs ds (enc x)) {R : RTy} {g : X → Option R.El} (h : ∀ s x, exF (Γ := U) LF G0 S A fn c R s (enc x) = g x) : FnOk U Tryz.prog G0 f (callS (specG dec R g)) := by
  have hl : LF = Look.of Tryz.prog := Look.fast_eq Tryz.prog 404 364
  rw [hl] at hf h
  exact fnOk_exG mixed hS hf hb hdec h

theorem fnOk_fastH {tE : Ty} {S : SpecsX (heapSig tE)} {A : Nat → Option JA} (hst : ∀ k j, A k = some j → hasSt j.sl = true) (hS : Table (heapSig tE) Tryz.prog G0 S.toS) {f : FuncId} {fn : Func} {c : Code} (hf : LF.fn f = some fn) (hb : fn.body = some c)
    {ts : List Ty} {R : RTy} {g : HSt tE → ElS ts → Option (HSt tE × R.El)} (h : ∀ s x, exFS (Γ := heapSig tE) LF G0 S A fn c R s (encS ts x) = g s x) : FnOk (heapSig tE) Tryz.prog G0 f (callS (specS (decS ts) R g)) := by
  have hl : LF = Look.of Tryz.prog := Look.fast_eq Tryz.prog 404 364
  rw [hl] at hf h
  exact fnOk_exS hst mixed hS hf hb (decS_sound ts) h

/-- A contract, ready for a table. -/
structure Ent where
  ad : SpecsX U → SpecsX U
  ok : ∀ S : SpecsX U, Table U Tryz.prog G0 S.toS → Table U Tryz.prog G0 (ad S).toS

def entA {f : FuncId} {sp : U.St → List V → Option (CallX U.St)} (hi : isFn Tryz.prog f = true) (h : FnOk U Tryz.prog G0 f (callS sp)) : Ent := ⟨fun S => S.add f sp, fun _ hS => tableX_add hS hi h⟩

def ents : List Ent → SpecsX U
  | [] => SpecsX.none U
  | e :: r => e.ad (ents r)

theorem ents_ok : ∀ l, Table U Tryz.prog G0 (ents l).toS
  | [] => tableX_none
  | e :: r => e.ok _ (ents_ok r)

abbrev OkX (f : FuncId) (ts : List Ty) (R : RTy) (g : ElS ts → Option R.El) : Prop := FnOk U Tryz.prog G0 f (callS (specX ts R g))
abbrev OkA (f : FuncId) (ts : List ATy) (R : RTy) (g : ElA ts → Option R.El) : Prop := FnOk U Tryz.prog G0 f (callS (specA ts R g))

theorem fX (l : List Ent) {A : Nat → Option JA} {f : FuncId} {fn : Func} (hf : LF.fn f = some fn) (hb : fn.body = some (bodyOf fn))
    {ts : List Ty} {R : RTy} {g : ElS ts → Option R.El} (h : ∀ s x, exF (Γ := U) LF G0 (ents l) A fn (bodyOf fn) R s (encS ts x) = g x) : OkX f ts R g := fnOk_fast (ents_ok l) hf hb h

theorem fA (l : List Ent) {A : Nat → Option JA} {f : FuncId} {fn : Func} (hf : LF.fn f = some fn) (hb : fn.body = some (bodyOf fn))
    {ts : List ATy} {R : RTy} {g : ElA ts → Option R.El} (h : ∀ s x, exF (Γ := U) LF G0 (ents l) A fn (bodyOf fn) R s (encA ts x) = g x) : OkA f ts R g := fnOk_fastA (ents_ok l) hf hb h

def jj (k b : Nat) (l : List (Nat × Nat × Nat)) (s : List Slot) : Nat × JA := (k, ⟨b, l, s⟩)

/-- Joins by their numbers. -/
def jl : List (Nat × JA) → Nat → Option JA
  | [], _ => none
  | (a, j) :: r, k => match Nat.beq a k with
    | true => some j
    | false => jl r k
end Go.Ve

/-
  Conditions out of code, part 4: contracts over typed data; tables of contracts.
-/
import Derived.Test.YtggmpbaiijodiaaGreatNvW3
namespace Go.Ve
open Go

@[reducible] def ElS : List Ty → Type
  | [] => Unit
  | t :: ts => t.El × ElS ts

def encS : (ts : List Ty) → ElS ts → List V
  | [], _ => []
  | t :: ts, x => t.enc x.1 :: encS ts x.2

def decS : (ts : List Ty) → List V → Option (ElS ts)
  | [], [] => some ()
  | t :: ts, d :: ds => match t.dec d with
    | some x => match decS ts ds with
      | some xs => some (x, xs)
      | none => none
    | none => none
  | _, _ => none

theorem decS_sound : ∀ (ts : List Ty) (ds : List V) (x : ElS ts), decS ts ds = some x → WkVs ds (encS ts x)
  | [], [], _, _ => trivial
  | [], _ :: _, _, h => by simp [decS] at h
  | _ :: _, [], _, h => by simp [decS] at h
  | t :: ts, d :: ds, x, h => by
    simp only [decS] at h
    split at h
    · rename_i y hy
      split at h
      · rename_i ys hys
        simp only [Option.some.injEq] at h
        subst h
        exact ⟨dec_sound hy, decS_sound ts ds ys hys⟩
      · cases h
    · cases h

abbrev Spec1 (Γ : Sig) := Γ.St → List V → Option (Prop × Γ.St × RV)

open Classical in
noncomputable def Spec1.toS {Γ : Sig} (sp : Spec1 Γ) : Γ.St → List V → Option (Γ.St × RV) := fun s ds =>
  match sp s ds with
  | some (pre, r) => if pre then some r else none
  | none => none

/-- A contract over typed data. -/
def specT {Γ : Sig} (ts : List Ty) (F : Γ.St → ElS ts → Prop × Γ.St × RV) : Spec1 Γ := fun s ds =>
  match decS ts ds with
  | some x => some (F s x)
  | none => none

def SpecsW.add {Γ : Sig} (S : SpecsW Γ) (f : FuncId) (sp : Spec1 Γ) : SpecsW Γ := fun g s ds =>
  match Nat.beq g f with
  | true => sp s ds
  | false => S g s ds

def SpecsW.none (Γ : Sig) : SpecsW Γ := fun _ _ _ => Option.none

def isFn (P : Program) (f : FuncId) : Bool :=
  match P.funcs[f]? with
  | some fn => fn.body.isSome && !(fn.name == "runtime.NumGoroutine")
  | none => false

section
variable {Γ : Sig} {P : Program} {G : Nat → Option (List V)} {S : SpecsW Γ} {A : Nat → Option (Head Γ.St)}

theorem table_noneW : Table Γ P G (SpecsW.none Γ).toS := by
  have : (SpecsW.none Γ).toS = noSpecs Γ := by funext f s ds; rfl
  rw [this]; exact table_none

theorem table_add (hS : Table Γ P G S.toS) {f : FuncId} {sp : Spec1 Γ} (hi : isFn P f = true) (h : FnOk Γ P G f sp.toS) : Table Γ P G (S.add f sp).toS := by
  have e1 : (S.add f sp).toS f = sp.toS := by
    funext s ds
    simp only [SpecsW.toS, SpecsW.add, Spec1.toS, Nat.beq_refl]
    rfl
  have e2 : ∀ g, g ≠ f → (S.add f sp).toS g = S.toS g := by
    intro g hg
    funext s ds
    have : Nat.beq g f = false := by
      cases hb : Nat.beq g f with
      | false => rfl
      | true => exact absurd (Nat.eq_of_beq_eq_true hb) hg
    simp only [SpecsW.toS, SpecsW.add, this]
  refine ⟨?_, ?_⟩
  · intro g
    by_cases hg : g = f
    · subst hg; rw [e1]; exact h
    · rw [e2 g hg]; exact hS.ok g
  · intro g s ds r hr
    by_cases hg : g = f
    · subst hg
      unfold isFn at hi
      split at hi
      · rename_i fn hfn
        simp only [Bool.and_eq_true, Bool.not_eq_true'] at hi
        exact ⟨fn, hfn, hi.1, hi.2⟩
      · cases hi
    · rw [e2 g hg] at hr; exact hS.is g s ds r hr

theorem fnOk_wk {f : FuncId} {sp sp' : Γ.St → List V → Option (Γ.St × RV)} (h : FnOk Γ P G f sp) (hw : ∀ s ds r, sp' s ds = some r → ∃ ds', WkVs ds ds' ∧ sp s ds' = some r) : FnOk Γ P G f sp' := by
  intro w F O s args ds s' r hsig hG hF hlen hrd hspec
  obtain ⟨ds', hwk, hsp⟩ := hw s ds (s', r) hspec
  refine h w F O s args ds' s' r hsig hG hF (hlen.trans hwk.len) ?_ hsp
  intro i x d hx hd
  have hlt : i < ds.length := by rw [hwk.len]; exact (List.getElem?_eq_some_iff.1 hd).1
  exact hwk.get i ds[i] d (by simp [hlt]) hd w F x (hrd i x ds[i] hx (by simp [hlt]))

/-- What a function's body has to show, over typed data. -/
def FnVC {ts : List Ty} (L : Look) (G : Nat → Option (List V)) (S : SpecsW Γ) (A : (s : Γ.St) → (x : ElS ts) → Nat → Option (Head Γ.St)) (fn : Func) (c : Code) (F : Γ.St → ElS ts → Prop × Γ.St × RV) : Prop :=
  ∀ s x, (F s x).1 → wpC L G S (A s x) c (endW L fn (F s x).2.1 (F s x).2.2) (start fn.ntmps s (encS ts x))

theorem fnOk_specT (hmix : P.follows .mixedOrders = true) (hS : Table Γ P G S.toS) {f : FuncId} {fn : Func} {c : Code} (hf : P.funcs[f]? = some fn) (hb : fn.body = some c)
    {ts : List Ty} {F : Γ.St → ElS ts → Prop × Γ.St × RV} {A : (s : Γ.St) → (x : ElS ts) → Nat → Option (Head Γ.St)} (h : FnVC P G S A fn c F) : FnOk Γ P G f (specT ts F).toS := by
  open Classical in
  have key : ∀ s x, FnOk Γ P G f (fun s0 ds => if s0 = s ∧ ds = encS ts x ∧ (F s x).1 then some (F s x).2 else none) := by
    intro s x
    refine fnOk_of_wpC (A := A s x) hmix hS hf hb ?_
    intro s0 ds s' r hh
    split at hh
    · rename_i hc
      obtain ⟨rfl, rfl, hp⟩ := hc
      simp only [Option.some.injEq] at hh
      have := h s0 x hp
      rw [hh] at this
      exact this
    · cases hh
  intro w F0 O s args ds s' r hsig hG hF hlen hrd hspec
  simp only [Spec1.toS, specT] at hspec
  split at hspec
  · rename_i pre r0 hr0
    split at hr0
    · rename_i x hx
      split at hspec
      · rename_i hp
        simp only [Option.some.injEq] at hr0 hspec
        subst hspec
        have hwk := decS_sound ts ds x hx
        refine key s x w F0 O s args (encS ts x) s' r hsig hG hF (hlen.trans hwk.len) ?_ ?_
        · intro i y d hy hd
          have hlt : i < ds.length := by rw [hwk.len]; exact (List.getElem?_eq_some_iff.1 hd).1
          exact hwk.get i ds[i] d (by simp [hlt]) hd w F0 y (hrd i y ds[i] hy (by simp [hlt]))
        · have hc : s = s ∧ encS ts x = encS ts x ∧ (F s x).1 := ⟨rfl, rfl, by rw [hr0]; exact hp⟩
          show (if s = s ∧ encS ts x = encS ts x ∧ (F s x).1 then some (F s x).2 else none) = _
          rw [if_pos hc, hr0]
      · cases hspec
    · cases hr0
  · cases hspec
end
end Go.Ve

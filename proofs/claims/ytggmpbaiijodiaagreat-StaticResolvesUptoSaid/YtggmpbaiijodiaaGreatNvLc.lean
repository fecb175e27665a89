/-
  law18: the table of contracts; the contract of StaticResolves.
-/
import Derived.Test.YtggmpbaiijodiaaGreatNvLa
import Derived.Test.YtggmpbaiijodiaaGreatNvLb
import Derived.Test.YtggmpbaiijodiaaGreatNvLs
namespace Go.Ve
open Go Go.Proofs
set_option maxRecDepth 100000

theorem fnOk_fast {S : SW} {f : FuncId} {fn : Func} {c : Code} (hS : Table U Tryz.prog G0 S.toS) (hf : Tryz.prog.funcs[f]? = some fn) (hb : fn.body = some c) {ts : List Ty}
    {F : Unit → ElS ts → Prop × Unit × RV} {A : Unit → ElS ts → Nat → Option (Head Unit)} (h : FnVC LF G0 S A fn c F) : FnOk U Tryz.prog G0 f (specT ts F).toS := by
  have h' : FnVC (Look.of Tryz.prog) G0 S A fn c F := by rw [← Look.fast_eq Tryz.prog 210 210]; exact h
  exact fnOk_specT mixed hS hf hb h'

theorem tab_add {S : SW} {f : FuncId} {fn : Func} {c : Code} (hS : Table U Tryz.prog G0 S.toS) (hi : isFn Tryz.prog f = true) (hf : Tryz.prog.funcs[f]? = some fn) (hb : fn.body = some c) {ts : List Ty}
    {F : Unit → ElS ts → Prop × Unit × RV} {A : Unit → ElS ts → Nat → Option (Head Unit)} {S' : SW} (hS' : Table U Tryz.prog G0 S'.toS) (h : FnVC LF G0 S A fn c F) : Table U Tryz.prog G0 (S'.add f (specT ts F)).toS :=
  table_add hS' hi (fnOk_fast hS hf hb h)

theorem tb1 : Table U Tryz.prog G0 S1.toS := tab_add table_noneW (by kernel_rfl) (by kernel_rfl) (by kernel_rfl) table_noneW ok52
theorem tb2 : Table U Tryz.prog G0 S2.toS := tab_add tb1 (by kernel_rfl) (by kernel_rfl) (by kernel_rfl) tb1 ok51
theorem tb3 : Table U Tryz.prog G0 S3.toS := tab_add tb2 (by kernel_rfl) (by kernel_rfl) (by kernel_rfl) tb2 ok35
theorem tb4 : Table U Tryz.prog G0 S4.toS := tab_add tb3 (by kernel_rfl) (by kernel_rfl) (by kernel_rfl) tb3 ok15
theorem tb5 : Table U Tryz.prog G0 S5.toS := tab_add tb4 (by kernel_rfl) (by kernel_rfl) (by kernel_rfl) tb4 ok36
theorem tb6 : Table U Tryz.prog G0 S6.toS :=
  tab_add tb5 (by kernel_rfl) (by kernel_rfl) (by kernel_rfl)
    (tab_add tb5 (by kernel_rfl) (by kernel_rfl) (by kernel_rfl)
      (tab_add tb5 (by kernel_rfl) (by kernel_rfl) (by kernel_rfl)
        (tab_add tb5 (by kernel_rfl) (by kernel_rfl) (by kernel_rfl) tb5 ok37) ok17) ok22) ok38
theorem tb7 : Table U Tryz.prog G0 S7.toS :=
  tab_add tb6 (by kernel_rfl) (by kernel_rfl) (by kernel_rfl) (tab_add tb6 (by kernel_rfl) (by kernel_rfl) (by kernel_rfl) tb6 ok67) ok39
theorem tb8 : Table U Tryz.prog G0 S8.toS := tab_add tb7 (by kernel_rfl) (by kernel_rfl) (by kernel_rfl) tb7 ok40
theorem tb9 : Table U Tryz.prog G0 S9.toS :=
  tab_add tb8 (by kernel_rfl) (by kernel_rfl) (by kernel_rfl)
    (tab_add tb8 (by kernel_rfl) (by kernel_rfl) (by kernel_rfl)
      (tab_add tb8 (by kernel_rfl) (by kernel_rfl) (by kernel_rfl)
        (tab_add tb8 (by kernel_rfl) (by kernel_rfl) (by kernel_rfl) tb8 ok41) ok42) ok43) ok44
theorem tb10 : Table U Tryz.prog G0 S10.toS := tab_add tb9 (by kernel_rfl) (by kernel_rfl) (by kernel_rfl) tb9 ok19
theorem tb11 : Table U Tryz.prog G0 S11.toS := tab_add tb10 (by kernel_rfl) (by kernel_rfl) (by kernel_rfl) tb10 ok8

theorem noCnt : noCount Tryz.prog = true := by kernel_rfl

theorem fn14 : FnOk U Tryz.prog G0 14 (specT [] F14).toS := by
  have h := (table_fast mixed noCnt (table_none (Γ := U) (G := G0)) 210 210 300 14).ok 14
  refine fnOk_wk h ?_
  intro s ds r hr
  simp only [Spec1.toS, specT] at hr
  split at hr
  · rename_i pre r0 hr0
    split at hr0
    · rename_i x hx
      split at hr
      · simp only [Option.some.injEq] at hr
        subst hr
        have hds : ds = [] := by
          cases ds with
          | nil => rfl
          | cons d ds => simp [decS] at hx
        subst hds
        refine ⟨[], trivial, ?_⟩
        have : r0 = ((), .p (.val (.bool true))) := by
          have := congrArg Prod.snd (Option.some.inj hr0)
          exact this.symm
        rw [this]
        exact sane14
      · cases hr
    · cases hr0
  · cases hr

theorem tb12 : Table U Tryz.prog G0 S12.toS :=
  table_add (tab_add tb11 (by kernel_rfl) (by kernel_rfl) (by kernel_rfl) tb11 ok16) (by kernel_rfl) fn14

theorem fn4 : FnOk U Tryz.prog G0 4 (specT [.sl tRoute, tPrefix, tU] F4).toS := fnOk_fast tb12 (by kernel_rfl) (by kernel_rfl) ok4
end Go.Ve

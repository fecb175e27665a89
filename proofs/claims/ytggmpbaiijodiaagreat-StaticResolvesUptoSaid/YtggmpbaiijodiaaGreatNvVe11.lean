/-
  The evaluator over pure values, part 11: a region that draws its order, evaluated in the order of the text: what is known of each operation at the end.
-/
import Derived.Test.YtggmpbaiijodiaaGreatNvVe10
namespace Go.Ve
open Go

section
variable {St : Type} (P : Look) (G : Nat → Option (List V)) (S : FuncId → St → List V → Option (St × RV)) (ops : Array Oper)

/-- Is the operation carried out? -/
def wantedV (e : Env St) (o : Oper) : Option Bool :=
  match o.guard with
  | none => some true
  | some (j, want) => match (ops[j]?).bind (·.dst) with
    | none => some false
    | some t => match e.get t with
      | .p (.val (.bool b)) => if t < e.tm.length then some (b == want) else none
      | .p (.val (.tuple _)) => some false
      | _ => none

def dstsOf (l : List Oper) : List Nat := l.filterMap (·.dst)

def pendOk (pend : List Nat) (e : Env St) (o : Oper) : Bool :=
  o.op.operands.toList.all fun x => match evx G e x with
    | .lp s _ => !pend.contains s
    | _ => true

def applyD (e : Env St) (dst : Option Tmp) (r : R St) : Option (Env St) :=
  match dst with
  | some d => if d < e.vars.length then some (e.setR d r) else none
  | none => match r with
    | .ret _ => some e
    | .call st _ (.p _) => some { e with st := st }
    | _ => none

def drawGo : List Oper → Env St → Option (Env St)
  | [], e => some e
  | o :: rest, e => match wantedV ops e o with
    | some true => if pendOk G (dstsOf (o :: rest)) e o then
        match evQ P G S e o with
        | some r => match applyD e o.dst r with
          | some e1 => drawGo rest e1
          | none => none
        | none => none
      else none
    | some false => drawGo rest (e.put o.dst (.p (.val undef)))
    | none => none

/-- What is known of operation o at the end: e is the last state, st the one that the operation meets, st' the one that it leaves. -/
def StepAt (e : Env St) (st : St) (o : Oper) (st' : St) : Prop :=
  (wantedV ops e o = some true ∧ ∃ r, evQ P G S { e with st := st } o = some r ∧ st' = resSt st r ∧ (r.needs = true → ∃ d, o.dst = some d) ∧
    ∀ d, o.dst = some d → (d < e.tm.length → e.get d = resT d r) ∧ (∀ cs, r = .var cs → e.var d = some cs) ∧ ((∀ cs, r ≠ .var cs) → e.var d = none)) ∨
  (wantedV ops e o = some false ∧ st' = st ∧ ∀ d, o.dst = some d → (d < e.tm.length → e.get d = .p (.val undef)) ∧ e.var d = none)

variable {P G S ops}

/-- No operation looks at what it or a later one writes. -/
def Ahead : List Oper → Prop
  | [] => True
  | o :: rest => (∀ t, t ∈ o.looksAt ops → t ∉ dstsOf (o :: rest)) ∧ (∀ d, o.dst = some d → d ∉ dstsOf rest) ∧ Ahead rest

theorem wantedV_congr {e e' : Env St} {o : Oper} (h : ∀ t, t ∈ o.looksAt ops → e'.get t = e.get t) (hl : e'.tm.length = e.tm.length) : wantedV ops e' o = wantedV ops e o := by
  unfold wantedV
  cases hg : o.guard with
  | none => rfl
  | some gw =>
    obtain ⟨j, want⟩ := gw
    simp only
    cases hd : (ops[j]?).bind (·.dst) with
    | none => rfl
    | some t =>
      simp only
      rw [h t (by simp [Oper.looksAt, hg, hd]), hl]

theorem evx_congr {e e' : Env St} {o : Oper} (h : ∀ t, t ∈ o.looksAt ops → e'.get t = e.get t) (x : Operand) (hx : x ∈ o.op.operands) : evx G e' x = evx G e x := by
  cases x with
  | tmp t => exact h t (List.mem_append_left _ (List.mem_filterMap.2 ⟨.tmp t, by simpa using hx, rfl⟩))
  | _ => rfl

theorem get_put_ne (e : Env St) (d : Option Tmp) (x : T) (t : Nat) (h : d ≠ some t) : (e.put d x).get t = e.get t := by
  cases d with
  | none => rfl
  | some d =>
    have hne : t ≠ d := fun hh => h (by rw [hh])
    simp only [Env.put]
    rw [get_set]
    simp [hne]

theorem setR_get_ne (e : Env St) (d t : Nat) (r : R St) (h : t ≠ d) : (e.setR d r).get t = e.get t := by
  have : (e.setR d r).get t = ({ e with tm := e.tm.set d (resT d r) } : Env St).get t := by
    cases r <;> rfl
  rw [this, get_set]; simp [h]

theorem setR_get_eq (e : Env St) (d : Nat) (r : R St) (h : d < e.tm.length) : (e.setR d r).get d = resT d r := by
  have : (e.setR d r).get d = ({ e with tm := e.tm.set d (resT d r) } : Env St).get d := by
    cases r <;> rfl
  rw [this, get_set]; simp [h]

theorem setR_len (e : Env St) (d : Nat) (r : R St) : (e.setR d r).tm.length = e.tm.length := by
  cases r <;> simp [Env.setR]

theorem setR_var' (e : Env St) (d : Nat) (r : R St) (hd : d < e.vars.length) (s : Nat) : (e.setR d r).var s = match r with
    | .var cs => if s = d then some cs else e.var s
    | _ => e.var s := by
  cases r with
  | var cs =>
    simp only [Env.setR, Env.var]
    by_cases h : s = d
    · subst h; simp [hd]
    · simp [h, List.getElem?_set_ne (Ne.symm h)]
  | _ => rfl

theorem setR_vlen (e : Env St) (d : Nat) (r : R St) : (e.setR d r).vars.length = e.vars.length := by
  cases r <;> simp [Env.setR]

theorem setR_st' (e : Env St) (d : Nat) (r : R St) : (e.setR d r).st = resSt e.st r := by
  cases r <;> rfl

theorem drawGo_trace : ∀ (l : List Oper) (e e' : Env St), drawGo P G S ops l e = some e' → Ahead (ops := ops) l → (∀ d, d ∈ dstsOf l → e.var d = none) →
    ∃ sts : Nat → St, sts 0 = e.st ∧ sts l.length = e'.st ∧ (∀ (i : Nat) (o : Oper), l[i]? = some o → StepAt P G S ops e' (sts i) o (sts (i + 1))) ∧
      (∀ t, t ∉ dstsOf l → e'.get t = e.get t) ∧ (∀ s, s ∉ dstsOf l → e'.var s = e.var s) ∧ e'.tm.length = e.tm.length := by
  intro l
  induction l with
  | nil =>
    intro e e' h _ _
    simp only [drawGo, Option.some.injEq] at h
    subst h
    exact ⟨fun _ => e.st, rfl, rfl, fun i o ho => by simp at ho, fun _ _ => rfl, fun _ _ => rfl, rfl⟩
  | cons o rest ih =>
    intro e e' h hah hnone
    obtain ⟨hlook, hdst, hah'⟩ := hah
    have hdn : ∀ d, o.dst = some d → e.var d = none := fun d hd => hnone d (by simp [dstsOf, hd])
    simp only [drawGo] at h
    -- from a state e1 that differs from e at o's own temporary alone
    have key : ∀ (e1 : Env St) (st1 : St), e1.st = st1 → drawGo P G S ops rest e1 = some e' → e1.tm.length = e.tm.length →
        (∀ t, o.dst ≠ some t → e1.get t = e.get t) → (∀ s, o.dst ≠ some s → e1.var s = e.var s) →
        (∀ e2 : Env St, (∀ t, t ∈ o.looksAt ops → e2.get t = e.get t) → e2.tm.length = e.tm.length → (∀ s, s ∉ dstsOf (o :: rest) → e2.var s = e.var s) →
          (∀ d, o.dst = some d → e2.get d = e1.get d) → (∀ d, o.dst = some d → e2.var d = e1.var d) → StepAt P G S ops e2 e.st o st1) →
        ∃ sts : Nat → St, sts 0 = e.st ∧ sts (o :: rest).length = e'.st ∧ (∀ (i : Nat) (o' : Oper), (o :: rest)[i]? = some o' → StepAt P G S ops e' (sts i) o' (sts (i + 1))) ∧
          (∀ t, t ∉ dstsOf (o :: rest) → e'.get t = e.get t) ∧ (∀ s, s ∉ dstsOf (o :: rest) → e'.var s = e.var s) ∧ e'.tm.length = e.tm.length := by
      intro e1 st1 hst1 hgo hlen hget hvar hstep
      have hsub : ∀ t, t ∉ dstsOf (o :: rest) → t ∉ dstsOf rest ∧ o.dst ≠ some t := by
        intro t ht
        simp only [dstsOf, List.filterMap_cons] at ht
        cases hd : o.dst with
        | none => simp only [hd] at ht; exact ⟨ht, by simp⟩
        | some d =>
          simp only [hd, List.mem_cons, not_or] at ht
          exact ⟨ht.2, fun hh => ht.1 (by simpa using hh.symm)⟩
      have hmem : ∀ t, t ∈ dstsOf rest → t ∈ dstsOf (o :: rest) := by
        intro t ht
        simp only [dstsOf, List.filterMap_cons]
        cases hd : o.dst with
        | none => exact ht
        | some d => exact List.mem_cons_of_mem _ ht
      obtain ⟨sts, h0, hn, hsteps, hg, hv, hl⟩ := ih e1 e' hgo hah' (fun d hd => by
        have hne : o.dst ≠ some d := fun hh => hdst d hh hd
        rw [hvar d hne]; exact hnone d (hmem d hd))
      refine ⟨fun i => match i with | 0 => e.st | i + 1 => sts i, rfl, hn, ?_, ?_, ?_, by omega⟩
      · intro i o' ho'
        cases i with
        | zero =>
          simp only [List.getElem?_cons_zero, Option.some.injEq] at ho'
          subst ho'
          simp only
          rw [h0, hst1]
          refine hstep e' ?_ (by omega) ?_ ?_ ?_
          · intro t ht
            obtain ⟨h1, h2⟩ := hsub t (hlook t ht)
            rw [hg t h1, hget t h2]
          · intro s hs
            obtain ⟨h1, h2⟩ := hsub s hs
            rw [hv s h1, hvar s h2]
          · intro d hd; exact hg d (hdst d hd)
          · intro d hd; exact hv d (hdst d hd)
        | succ i => exact hsteps i o' (by simpa using ho')
      · intro t ht
        obtain ⟨h1, h2⟩ := hsub t ht
        rw [hg t h1, hget t h2]
      · intro s hs
        obtain ⟨h1, h2⟩ := hsub s hs
        rw [hv s h1, hvar s h2]
    split at h
    · rename_i hw
      split at h
      · rename_i hpend
        split at h
        · rename_i r hr
          split at h
          · rename_i e1 he1
            have hcong : ∀ e2 : Env St, (∀ t, t ∈ o.looksAt ops → e2.get t = e.get t) → (∀ s, s ∉ dstsOf (o :: rest) → e2.var s = e.var s) → evQ P G S { e2 with st := e.st } o = some r := by
              intro e2 h1 h2
              rw [← hr]
              symm
              refine evQ_congr (e := e) (e' := { e2 with st := e.st }) ?_ ?_ rfl
              · intro x hx; exact (evx_congr (G := G) (e := e) (e' := { e2 with st := e.st }) h1 x hx).symm
              · intro x hx s off hs
                have h3 := List.all_eq_true.1 hpend x (by simpa using hx)
                rw [hs] at h3
                have h4 : s ∉ dstsOf (o :: rest) := by simpa using h3
                exact (h2 s h4).symm
            unfold applyD at he1
            split at he1
            · rename_i d hd
              split at he1
              · rename_i hdl
                simp only [Option.some.injEq] at he1
                subst he1
                refine key _ (resSt e.st r) (setR_st' e d r) h (setR_len e d r) ?_ ?_ ?_
                · intro t ht; exact setR_get_ne e d t r (fun hh => ht (by rw [hd, hh]))
                · intro s hs
                  have hne : s ≠ d := fun hh => hs (by rw [hd, hh])
                  rw [setR_var' e d r hdl]
                  cases r <;> simp [hne]
                · intro e2 h1 h2 h3 h4 h5
                  refine .inl ⟨by rw [wantedV_congr h1 h2]; exact hw, r, hcong e2 h1 h3, rfl, fun _ => ⟨d, hd⟩, ?_⟩
                  intro d' hd'
                  rw [hd] at hd'
                  simp only [Option.some.injEq] at hd'
                  subst hd'
                  refine ⟨fun hlt => ?_, ?_, ?_⟩
                  · rw [h4 d hd]; exact setR_get_eq e d r (h2 ▸ hlt)
                  · intro cs hcs
                    rw [h5 d hd, setR_var' e d r hdl, hcs]; simp
                  · intro hcs
                    rw [h5 d hd, setR_var' e d r hdl]
                    cases r with
                    | var cs => exact absurd rfl (hcs cs)
                    | _ => exact hdn d hd
              · cases he1
            · rename_i hd
              split at he1
              · simp only [Option.some.injEq] at he1
                subst he1
                refine key _ e.st rfl h rfl (fun _ _ => rfl) (fun _ _ => rfl) ?_
                intro e2 h1 h2 h3 h4 h5
                exact .inl ⟨by rw [wantedV_congr h1 h2]; exact hw, _, hcong e2 h1 h3, rfl, fun hh => by simp [R.needs] at hh, fun d hh => by rw [hd] at hh; cases hh⟩
              · simp only [Option.some.injEq] at he1
                subst he1
                refine key _ _ rfl h rfl (fun _ _ => rfl) (fun _ _ => rfl) ?_
                intro e2 h1 h2 h3 h4 h5
                exact .inl ⟨by rw [wantedV_congr h1 h2]; exact hw, _, hcong e2 h1 h3, rfl, fun hh => by simp [R.needs] at hh, fun d hh => by rw [hd] at hh; cases hh⟩
              · cases he1
          · cases h
        · cases h
      · cases h
    · rename_i hw
      refine key _ e.st ?_ h ?_ (fun t ht => get_put_ne e o.dst _ t ht) ?_ ?_
      · cases o.dst <;> rfl
      · cases o.dst <;> simp [Env.put]
      · intro s _; cases o.dst <;> rfl
      · intro e2 h1 h2 h3 h4 h5
        refine .inr ⟨by rw [wantedV_congr h1 h2]; exact hw, rfl, ?_⟩
        intro d hd
        refine ⟨fun hlt => ?_, ?_⟩
        · rw [h4 d hd]
          simp only [Env.put, hd]
          rw [get_set]
          rw [if_pos ⟨rfl, h2 ▸ hlt⟩]
        · rw [h5 d hd]
          have : (e.put o.dst (.p (.val undef))).var d = e.var d := by cases o.dst <;> rfl
          rw [this]; exact hdn d hd
    · cases h
end
end Go.Ve

/-
  The evaluator over pure values, part 9: the frame's state in the machine; one operation behind the other.
-/
import Derived.Test.YtggmpbaiijodiaaGreatNvVe8
namespace Go.Ve
open Go

def T.hasO (id : Nat) : T → Prop
  | .ow i _ _ => i = id
  | .oe i _ _ _ _ => i = id
  | .mp i _ _ => i = id
  | .ot i _ xs => i = id ∧ xs ≠ []
  | .oet i _ _ _ _ => i = id
  | _ => False

def T.sites (al : Site → Prop) : T → Prop
  | .ow i _ _ => al (.o i)
  | .oe i _ _ _ _ => al (.o i)
  | .mp i _ _ => al (.o i)
  | .ot i _ xs => xs ≠ [] → al (.o i)
  | .oet i _ _ _ _ => al (.o i)
  | .lp s _ => al (.v s)
  | _ => True

def killT (d : Nat) : T → T
  | .ow i k es => if i = d then .dead else .ow i k es
  | .oe i k es j off => if i = d then .dead else .oe i k es j off
  | .lp s off => if s = d then .dead else .lp s off
  | .mp i es ck => if i = d then .dead else .mp i es ck
  | .ot i t xs => if i = d then .dead else .ot i t xs
  | .oet i t xs j off => if i = d then .dead else .oet i t xs j off
  | x => x

section
variable {St : Type}
def Env.has (e : Env St) (x : T) : Prop := x ∈ e.tm ∨ ∃ s cs, e.var s = some cs ∧ x ∈ cs

def alive (e : Env St) : Site → Prop
  | .v s => ∃ cs, e.var s = some cs
  | .o id => ∃ x, e.has x ∧ x.hasO id

def Env.kill (d : Nat) (e : Env St) : Env St :=
  { e with tm := e.tm.map (killT d), vars := (e.vars.set d none).map (fun c => c.map (List.map (killT d))) }

def Env.put (e : Env St) (d : Option Tmp) (x : T) : Env St :=
  match d with
  | some d => { e with tm := e.tm.set d x }
  | none => e

def killR (d : Nat) : R St → R St
  | .var cs => .var (cs.map (killT d))
  | r => r

def Env.setR (e : Env St) (d : Nat) (r : R St) : Env St :=
  match r with
  | .var cs => { e with vars := e.vars.set d (some cs), tm := e.tm.set d (.lp d 0) }
  | .call st _ rv => { e with st := st, tm := e.tm.set d (rvT d rv) }
  | r => { e with tm := e.tm.set d (resT d r) }

def applyR (e : Env St) (dst : Option Tmp) (r : R St) : Option (Env St) :=
  match dst with
  | some d => if r.needs then (if d < e.vars.length then some ((e.kill d).setR d (killR d r)) else none) else some (e.setR d r)
  | none => match r with
    | .ret _ => some e
    | .call st _ (.p _) => some { e with st := st }
    | _ => none

theorem get_map (e : Env St) (d t : Nat) : (e.kill d).get t = killT d (e.get t) := by
  simp only [Env.kill, Env.get, List.getD_eq_getElem?_getD, List.getElem?_map]
  cases e.tm[t]? <;> rfl

theorem var_kill (e : Env St) (d s : Nat) : (e.kill d).var s = if s = d then none else (e.var s).map (List.map (killT d)) := by
  simp only [Env.kill, Env.var, List.getElem?_map]
  by_cases h : s = d
  · subst h
    rw [if_pos rfl]
    by_cases hl : s < e.vars.length
    · simp [List.getElem?_set_self hl]
    · rw [List.getElem?_eq_none (by simp; omega)]; rfl
  · rw [if_neg h, List.getElem?_set_ne (Ne.symm h)]
    cases e.vars[s]? with
    | none => rfl
    | some c => rfl

theorem get_set (e : Env St) (d t : Nat) (x : T) : ({ e with tm := e.tm.set d x } : Env St).get t = if t = d ∧ d < e.tm.length then x else e.get t := by
  simp only [Env.get, List.getD_eq_getElem?_getD]
  by_cases h : t = d
  · subst h
    by_cases hl : t < e.tm.length
    · simp [hl]
    · simp [hl]
  · simp [h, List.getElem?_set_ne (Ne.symm h)]
end

theorem tmps_put (a : Act) (d t : Nat) (v : Value) : (a.put (some d) v).tmps.getD t undef = if t = d ∧ d < a.tmps.size then v else a.tmps.getD t undef := by
  simp only [Act.put]
  by_cases h : t = d
  · subst h
    by_cases hl : t < a.tmps.size
    · simp [hl]
    · simp [hl]
  · simp only [h, false_and, if_false]
    simp [Array.getElem?_setIfInBounds_ne (Ne.symm h)]

section
variable {w : World} {F : Nat → Prop} {β : Lay} {al al' : Site → Prop}
theorem TRel.on {v : Value} {x : T} (h : TRel w F β al v x) (hs : x.sites al') : TRel w F β al' v x := by
  cases x with
  | p d => exact h
  | ow i k es => exact ⟨hs, h.2⟩
  | oe i k es j off => exact ⟨hs, h.2⟩
  | lp s off => exact ⟨hs, h.2⟩
  | mp i es ck => exact ⟨hs, h.2⟩
  | ot i t xs =>
    rcases h with h | ⟨hne, _, h⟩
    · exact .inl h
    · exact .inr ⟨hne, hs (by simpa using hne), h⟩
  | oet i t xs j off => exact ⟨hs, h.2⟩
  | emp => exact h
  | dead => trivial

theorem TRel.sites {v : Value} {x : T} (h : TRel w F β al v x) : x.sites al := by
  cases x with
  | p d => trivial
  | ow i k es => exact h.1
  | oe i k es j off => exact h.1
  | lp s off => exact h.1
  | mp i es ck => exact h.1
  | ot i t xs =>
    intro hne
    rcases h with ⟨h0, _⟩ | ⟨_, ha, _⟩
    · exact absurd (by simpa using h0) hne
    · exact ha
  | oet i t xs j off => exact h.1
  | emp => trivial
  | dead => trivial

def alm (d : Nat) (al : Site → Prop) (x : Site) : Prop := al x ∧ x ≠ .v d ∧ x ≠ .o d

theorem TRel.kill {v : Value} {x : T} {d : Nat} (h : TRel w F β al v x) : TRel w F β (alm d al) v (killT d x) := by
  cases x with
  | p d => exact h
  | ow i k es =>
    simp only [killT]; split
    · trivial
    · rename_i hne; exact ⟨⟨h.1, by simp, by simpa using hne⟩, h.2⟩
  | oe i k es j off =>
    simp only [killT]; split
    · trivial
    · rename_i hne; exact ⟨⟨h.1, by simp, by simpa using hne⟩, h.2⟩
  | lp s off =>
    simp only [killT]; split
    · trivial
    · rename_i hne; exact ⟨⟨h.1, by simpa using hne, by simp⟩, h.2⟩
  | mp i es ck =>
    simp only [killT]; split
    · trivial
    · rename_i hne; exact ⟨⟨h.1, by simp, by simpa using hne⟩, h.2⟩
  | ot i t xs =>
    simp only [killT]; split
    · trivial
    · rename_i hne
      rcases h with h | ⟨h0, ha, h⟩
      · exact .inl h
      · exact .inr ⟨h0, ⟨ha, by simp, by simpa using hne⟩, h⟩
  | oet i t xs j off =>
    simp only [killT]; split
    · trivial
    · rename_i hne; exact ⟨⟨h.1, by simp, by simpa using hne⟩, h.2⟩
  | emp => exact h
  | dead => trivial

theorem VarRel.kill {b d : Nat} {cs : List T} (h : VarRel w F β al b cs) : VarRel w F β (alm d al) b (cs.map (killT d)) := by
  obtain ⟨c, et, h1, h2, h3⟩ := h
  refine ⟨c, et, h1, by simpa using h2, ?_⟩
  intro i x y hi hy
  simp only [List.getElem?_map, Option.map_eq_some_iff] at hy
  obtain ⟨z, hz, rfl⟩ := hy
  exact (h3 i x z hi hz).kill

theorem VarRel.on {b : Nat} {cs : List T} (h : VarRel w F β al b cs) (hs : ∀ x, x ∈ cs → x.sites al') : VarRel w F β al' b cs := by
  obtain ⟨c, et, h1, h2, h3⟩ := h
  exact ⟨c, et, h1, h2, fun i x y hi hy => (h3 i x y hi hy).on (hs y (List.mem_of_getElem? hy))⟩

theorem VarRel.mem {b : Nat} {cs : List T} (h : VarRel w F β al b cs) {x : T} (hx : x ∈ cs) : x.sites al := by
  obtain ⟨i, hi, rfl⟩ := List.getElem_of_mem hx
  obtain ⟨u, _, h2⟩ := h.at i hi
  exact h2.sites
end

def Inv (Γ : Sig) (G : Nat → Option (List V)) (w0 : World) (F0 O0 : Nat → Prop) (a : Act) (w : World) (e : Env Γ.St) : Prop :=
  ∃ (F O : Nat → Prop) (β : Lay), Core Γ w0 F0 O0 w F O β (alive e) e.st ∧ GRel G w F ∧ a.tmps.size = e.tm.length ∧ a.defers = [] ∧
    (∀ t, TRel w F β (alive e) (a.tmps.getD t undef) (e.get t)) ∧ (∀ s cs, e.var s = some cs → VarRel w F β (alive e) (β.vb s) cs)

section
variable {Γ : Sig} {P : Program} {G : Nat → Option (List V)} {S : Specs Γ} {o : Oper} {a : Act} {w0 : World} {F0 O0 : Nat → Prop} {w : World} {F O : Nat → Prop} {β : Lay} {al al' : Site → Prop} {st : Γ.St} {e e' : Env Γ.St}

theorem Core.anti (h : Core Γ w0 F0 O0 w F O β al st) (ha : ∀ x, al' x → al x) : Core Γ w0 F0 O0 w F O β al' st :=
  ⟨h.keep, h.sig, h.oin, h.fin, h.f0, fun x hx => h.place x (ha x hx), fun x y hx hy => h.dist x y (ha x hx) (ha y hy)⟩

theorem get_mem {x : T} {t : Nat} (h : e.get t = x) : x ∈ e.tm ∨ x = .dead := by
  simp only [Env.get, List.getD_eq_getElem?_getD] at h
  cases hx : e.tm[t]? with
  | none => rw [hx] at h; exact .inr h.symm
  | some y => rw [hx] at h; subst h; exact .inl (List.mem_of_getElem? hx)

/-- The frame's state, from what is known under any set of sites that are held. -/
theorem Inv.of (hc : Core Γ w0 F0 O0 w F O β al e.st) (hG : GRel G w F) (hsz : a.tmps.size = e.tm.length) (hdf : a.defers = [])
    (ht : ∀ t, TRel w F β al (a.tmps.getD t undef) (e.get t)) (hv : ∀ s cs, e.var s = some cs → al (.v s) ∧ VarRel w F β al (β.vb s) cs)
    (hl : ∀ s, al (.v s) → ∃ cs, e.var s = some cs) : Inv Γ G w0 F0 O0 a w e := by
  have hsub : ∀ x, alive e x → al x := by
    intro x hx
    cases x with
    | v s => obtain ⟨cs, hcs⟩ := hx; exact (hv s cs hcs).1
    | o id =>
      obtain ⟨x, hx, hid⟩ := hx
      have hsites : x.sites al := by
        rcases hx with hx | ⟨s, cs, hcs, hx⟩
        · obtain ⟨t, htl, rfl⟩ := List.getElem_of_mem hx
          have := ht t
          simp only [Env.get, List.getD_eq_getElem?_getD, List.getElem?_eq_getElem htl, Option.getD_some] at this
          exact this.sites
        · exact (hv s cs hcs).2.mem hx
      cases x <;> simp only [T.hasO] at hid <;> first | exact hid.elim | (subst hid; exact hsites) | (obtain ⟨rfl, h0⟩ := hid; exact hsites h0)
  have hal : ∀ x, e.has x → x.sites al → x.sites (alive e) := by
    intro x hx hs
    cases x with
    | ow i k es => exact ⟨_, hx, rfl⟩
    | oe i k es j off => exact ⟨_, hx, rfl⟩
    | mp i es ck => exact ⟨_, hx, rfl⟩
    | ot i t xs => exact fun h0 => ⟨_, hx, rfl, h0⟩
    | oet i t xs j off => exact ⟨_, hx, rfl⟩
    | lp s off => exact hl s hs
    | _ => trivial
  refine ⟨F, O, β, hc.anti hsub, hG, hsz, hdf, ?_, ?_⟩
  · intro t
    have h := ht t
    refine h.on ?_
    rcases get_mem (e := e) (t := t) rfl with hm | hm
    · exact hal _ (.inl hm) h.sites
    · rw [hm]; trivial
  · intro s cs hcs
    exact (hv s cs hcs).2.on (fun x hx => hal x (.inr ⟨s, cs, hcs, hx⟩) ((hv s cs hcs).2.mem hx))

theorem GRel.ext {w' : World} {F' : Nat → Prop} {β' : Lay} (h : Ext w F β al w' F' β' al') (hG : GRel G w F) : GRel G w' F' := fun g cs hg => (hG g cs hg).ext h

theorem opSim_kill {d : Nat} {r : R Γ.St} {alv : Site → Prop} (h : OpSim Γ P S o a w F β al alv st r) : OpSim Γ P S o a w F β (alm d al) alv st (killR d r) ∨ ∃ x, r = .ret x := by
  cases r with
  | ret x => exact .inr ⟨x, rfl⟩
  | var cs =>
    refine .inl ?_
    obtain ⟨c, et, h1, h2, h3⟩ := h
    refine ⟨c, et, h1, by simpa using h2, ?_⟩
    intro i x y hi hy
    simp only [List.getElem?_map, Option.map_eq_some_iff] at hy
    obtain ⟨z, hz, rfl⟩ := hy
    exact (h3 i x z hi hz).kill
  | own k es => exact .inl h
  | frz es => exact .inl h
  | mk => exact .inl h
  | frzT t xs => exact .inl h
  | ownT t xs => exact .inl h
  | call st' view rv => exact .inl h

theorem evx_sim (hG : GRel G w F) (ht : ∀ t, TRel w F β al (a.tmps.getD t undef) (e.get t)) (x : Operand) : TRel w F β al (a.eval x) (evx G e x) := by
  cases x with
  | tmp t => exact ht t
  | const v => exact rd_ofVal w F v
  | global g =>
    simp only [evx, Act.eval]
    split
    · rename_i cs hg; exact hG g cs hg
    · exact Rd.val _
  | func f => exact Rd.clo f #[] [] rfl (fun i x d h => by simp at h)

theorem setR_tm (e : Env Γ.St) (d : Nat) (r : R Γ.St) : (e.setR d r).tm = e.tm.set d (resT d r) := by
  cases r <;> rfl

theorem setR_st (e : Env Γ.St) (d : Nat) (r : R Γ.St) : (e.setR d r).st = resSt e.st r := by
  cases r <;> rfl

theorem setR_var (e : Env Γ.St) (d : Nat) (r : R Γ.St) (hd : d < e.vars.length ∨ ∀ cs, r ≠ .var cs) (s : Nat) : (e.setR d r).var s = match r with
    | .var cs => if s = d then some cs else e.var s
    | _ => e.var s := by
  cases r with
  | var cs =>
    have hd' : d < e.vars.length := hd.resolve_right (fun h => h cs rfl)
    simp only [Env.setR, Env.var]
    by_cases h : s = d
    · subst h; simp [hd']
    · simp [h, List.getElem?_set_ne (Ne.symm h)]
  | _ => rfl

theorem seq_Q (hS : Table Γ P G S) (hi : Inv Γ G w0 F0 O0 a w e) {r : R Γ.St} (h : evQ P G S e o = some r) (hr : applyR e o.dst r = some e') {Q : Exit → Act → World → Prop} :
    o.wp P a w (fun a' w' => Inv Γ G w0 F0 O0 a' w' e') Q := by
  obtain ⟨F, O, β, hc, hG, hsz, hdf, ht, hv⟩ := hi
  have hsim := evQ_sim hS (fun s cs hcs _ => hv s cs hcs) (fun x _ => evx_sim hG ht x) h
  have hpl : ∀ x, alive e x → β.blk x < w.heap.size ∧ ¬ O (β.blk x) := fun x hx => ⟨(hc.place x hx).2.1, (hc.place x hx).2.2.2⟩
  unfold applyR at hr
  split at hr
  · rename_i d hd
    split at hr
    · rename_i hneeds
      split at hr
      · rename_i hdl
        simp only [Option.some.injEq] at hr
        subst hr
        have hsim' : OpSim Γ P S o a w F β (alm d (alive e)) (alive e) e.st (killR d r) := by
          rcases opSim_kill (d := d) hsim with h | ⟨x, rfl⟩
          · exact h
          · simp [R.needs] at hneeds
        refine opSim_wp hS hG (hc.anti (fun x hx => hx.1)) hpl hsim' (d := d) (fun _ => ⟨fun h => h.2.1 rfl, fun h => h.2.2 rfl⟩) ?_
        intro v w' F' O' β' al' haf
        rw [hd]
        have hst : (e.kill d).st = e.st := rfl
        refine Inv.of (al := al') (by rw [setR_st, hst]; exact haf.core) (hG.ext haf.ext) ?_ ?_ ?_ ?_ ?_
        · simp [Act.put, setR_tm, Env.kill, hsz]
        · exact hdf
        · intro t
          rw [tmps_put]
          have hg : ((e.kill d).setR d (killR d r)).get t = if t = d ∧ d < (e.kill d).tm.length then resT d (killR d r) else (e.kill d).get t := by
            rw [← get_set]; simp only [Env.get, setR_tm]
          rw [hg]
          have hlen : (e.kill d).tm.length = a.tmps.size := by simp [Env.kill, hsz]
          rw [hlen]
          split
          · exact haf.res
          · rw [get_map]; exact (TRel.kill (ht t)).ext haf.ext
        · intro s cs hcs
          have hvd : d < (e.kill d).vars.length := by simpa [Env.kill] using hdl
          rw [setR_var _ _ _ (.inl hvd)] at hcs
          have hother : (e.kill d).var s = some cs → al' (.v s) ∧ VarRel w' F' β' al' (β'.vb s) cs := by
            intro hcs
            rw [var_kill] at hcs
            split at hcs
            · cases hcs
            · rename_i hne
              simp only [Option.map_eq_some_iff] at hcs
              obtain ⟨cs0, hcs0, rfl⟩ := hcs
              have ha : alm d (alive e) (.v s) := ⟨⟨cs0, hcs0⟩, by simpa using hne, by simp⟩
              refine ⟨haf.ext.a _ ha, ?_⟩
              have hb : β'.vb s = β.vb s := haf.ext.b (.v s) ha
              rw [hb]
              exact (VarRel.kill (hv s cs0 hcs0)).ext haf.ext (haf.ext.ha (.v s) ha)
          cases hk : killR d r with
          | var cs' =>
            rw [hk] at hcs
            simp only at hcs
            split at hcs
            · rename_i hsd
              simp only [Option.some.injEq] at hcs
              subst hcs hsd
              exact haf.var cs' hk
            · exact hother hcs
          | _ => rw [hk] at hcs; exact hother hcs
        · intro s hs
          have hvd : d < (e.kill d).vars.length := by simpa [Env.kill] using hdl
          rw [setR_var _ _ _ (.inl hvd)]
          rcases haf.new (.v s) hs with ⟨⟨cs, hcs⟩, hne, _⟩ | ⟨_, ⟨heq, cs, hk⟩ | ⟨heq, _⟩⟩
          · have hne' : s ≠ d := by simpa using hne
            have h1 : (e.kill d).var s = some (cs.map (killT d)) := by rw [var_kill, if_neg hne', hcs]; rfl
            cases hk : killR d r with
            | var cs' => simp only [hne', if_false]; exact ⟨_, h1⟩
            | _ => exact ⟨_, h1⟩
          · simp only [Site.v.injEq] at heq
            rw [hk]; simp only [heq, if_true]; exact ⟨cs, rfl⟩
          · cases heq
      · cases hr
    · rename_i hneeds
      simp only [Option.some.injEq] at hr
      subst hr
      refine opSim_wp hS hG hc hpl hsim (d := d) (fun h => absurd h hneeds) ?_
      intro v w' F' O' β' al' haf
      rw [hd]
      have hnv : ∀ cs, r ≠ .var cs := fun cs h => by subst h; simp [R.needs] at hneeds
      have hnew : ∀ x, al' x → alive e x := fun x hx => (haf.new x hx).resolve_right (fun h => hneeds h.1)
      have hvv : ∀ s, (e.setR d r).var s = e.var s := by
        intro s; rw [setR_var _ _ _ (.inr hnv)]
        cases r with
        | var cs => exact absurd rfl (hnv cs)
        | _ => rfl
      refine Inv.of (al := al') (by rw [setR_st]; exact haf.core) (hG.ext haf.ext) ?_ ?_ ?_ ?_ ?_
      · simp [Act.put, setR_tm, hsz]
      · exact hdf
      · intro t
        rw [tmps_put]
        have hg : (e.setR d r).get t = if t = d ∧ d < e.tm.length then resT d r else e.get t := by
          rw [← get_set]; simp only [Env.get, setR_tm]
        rw [hg, hsz]
        split
        · exact haf.res
        · exact (ht t).ext haf.ext
      · intro s cs hcs
        rw [hvv] at hcs
        have ha : alive e (.v s) := ⟨cs, hcs⟩
        refine ⟨haf.ext.a _ ha, ?_⟩
        have hb : β'.vb s = β.vb s := haf.ext.b (.v s) ha
        rw [hb]
        exact (hv s cs hcs).ext haf.ext (haf.ext.ha (.v s) ha)
      · intro s hs
        rw [hvv]; exact hnew _ hs
  · rename_i hd
    have hcommon : ∀ (st' : Γ.St), resSt e.st r = st' → (∀ cs, r ≠ .var cs) → r.needs = false → o.wp P a w (fun a' w' => Inv Γ G w0 F0 O0 a' w' { e with st := st' }) Q := by
      intro st' hst hnv hneeds
      refine opSim_wp hS hG hc hpl hsim (d := 0) (fun h => by rw [hneeds] at h; cases h) ?_
      intro v w' F' O' β' al' haf
      rw [hd]
      have hnew : ∀ x, al' x → alive e x := fun x hx => (haf.new x hx).resolve_right (fun h => by rw [hneeds] at h; cases h.1)
      refine Inv.of (al := al') (by rw [← hst]; exact haf.core) (hG.ext haf.ext) hsz hdf (fun t => (ht t).ext haf.ext) ?_ (fun s hs => hnew _ hs)
      intro s cs hcs
      have ha : alive e (.v s) := ⟨cs, hcs⟩
      refine ⟨haf.ext.a _ ha, ?_⟩
      have hb : β'.vb s = β.vb s := haf.ext.b (.v s) ha
      rw [hb]
      exact (hv s cs hcs).ext haf.ext (haf.ext.ha (.v s) ha)
    split at hr
    · simp only [Option.some.injEq] at hr
      subst hr
      exact hcommon _ rfl (fun cs h => by cases h) rfl
    · simp only [Option.some.injEq] at hr
      subst hr
      exact hcommon _ rfl (fun cs h => by cases h) rfl
    · cases hr
end
end Go.Ve

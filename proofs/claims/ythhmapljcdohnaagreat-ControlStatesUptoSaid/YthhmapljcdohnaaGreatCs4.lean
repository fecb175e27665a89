/-
  The evaluator over pure values, part 9: the frame's state in the machine; one operation behind the other.
  The evaluator over pure values, part 10: a region that draws its order.
  The evaluator over pure values, part 11: a region that draws its order, evaluated in the order of the text: what is known of each operation at the end.
  The evaluator over pure values, part 12: a region that draws its order, in whatever order.
  The evaluator over pure values, part 13: regions, statements, functions.
  The evaluator over pure values, part 17: operations that write what the frame itself has made; what stays from now on.
  The evaluator over pure values, part 18: append in the machine.
-/
import Derived.Test.YthhmapljcdohnaaGreatCs3
set_option linter.unusedVariables false
namespace Go.Ve
open Go

def T.hasO (id : Nat) : T → Prop
  | .ow i _ _ => i = id
  | .oe i _ _ _ _ => i = id
  | .mp i _ _ => i = id
  | .ot i _ xs => i = id ∧ xs ≠ []
  | .oet i _ _ _ _ => i = id
  | .ov i _ xs _ _ => i = id ∧ xs ≠ []
  | .on n => n.id = id ∨ n.id2 = id
  | _ => False

def T.sites (al : Site → Prop) : T → Prop
  | .ow i _ _ => al (.o i)
  | .oe i _ _ _ _ => al (.o i)
  | .mp i _ _ => al (.o i)
  | .ot i _ xs => xs ≠ [] → al (.o i)
  | .oet i _ _ _ _ => al (.o i)
  | .ov i _ xs _ _ => xs ≠ [] → al (.o i)
  | .on n => al (.o n.id) ∧ al (.o n.id2)
  | .lp s _ => al (.v s)
  | _ => True

def killT (d : Nat) : T → T
  | .ow i k es => if i = d then .dead else .ow i k es
  | .oe i k es j off => if i = d then .dead else .oe i k es j off
  | .lp s off => if s = d then .dead else .lp s off
  | .mp i es ck => if i = d then .dead else .mp i es ck
  | .ot i t xs => if i = d then .dead else .ot i t xs
  | .oet i t xs j off => if i = d then .dead else .oet i t xs j off
  | .ov i t xs j off => if i = d then .dead else .ov i t xs j off
  | .on n => if n.id = d ∨ n.id2 = d then .dead else .on n
  | x => x

section
variable {St : Type}
def Env.has (e : Env St) (x : T) : Prop := x ∈ e.tm ∨ ∃ s cs, e.var s = some cs ∧ x ∈ cs

def alive (e : Env St) : Site → Prop
  | .v s => ∃ cs, e.var s = some cs
  | .o id => ∃ x, e.has x ∧ x.hasO id

def Env.kill (d : Nat) (e : Env St) : Env St :=
  { e with tm := e.tm.map (killT d), vars := (e.vars.set d none).map (fun c => c.map (List.map (killT d))) }

def Env.put (e : Env St) (d : Option Tmp) (x : T) : Env St :=
  match d with
  | some d => { e with tm := e.tm.set d x }
  | none => e

def killR (d : Nat) : R St → R St
  | .var cs => .var (cs.map (killT d))
  | r => r

def Env.setR (e : Env St) (d : Nat) (r : R St) : Env St :=
  match r with
  | .var cs => { e with vars := e.vars.set d (some cs), tm := e.tm.set d (.lp d 0) }
  | .call st _ rv => { e with st := st, tm := e.tm.set d (rvT d rv) }
  | r => { e with tm := e.tm.set d (resT d r) }

def applyR (e : Env St) (dst : Option Tmp) (r : R St) : Option (Env St) :=
  match dst with
  | some d => if r.needs then (if d < e.vars.length ∧ d ≠ lentId then some ((e.kill d).setR d (killR d r)) else none) else some (e.setR d r)
  | none => match r with
    | .ret _ => some e
    | .call st _ (.p _) => some { e with st := st }
    | _ => none

theorem get_map (e : Env St) (d t : Nat) : (e.kill d).get t = killT d (e.get t) := by
  simp [Env.kill, Env.get]
  cases e.tm[t]? <;> rfl

theorem var_kill (e : Env St) (d s : Nat) : (e.kill d).var s = if s = d then none else (e.var s).map (List.map (killT d)) := by
  simp only [Env.kill, Env.var, List.getElem?_map]
  grind

theorem get_set (e : Env St) (d t : Nat) (x : T) : ({ e with tm := e.tm.set d x } : Env St).get t = if t = d ∧ d < e.tm.length then x else e.get t := by
  simp [Env.get]
  grind
end

theorem tmps_put (a : Act) (d t : Nat) (v : Value) : (a.put (some d) v).tmps.getD t undef = if t = d ∧ d < a.tmps.size then v else a.tmps.getD t undef := by
  simp only [Act.put]
  by_cases h : t = d
  all_goals simp_all [Ne.symm]

section
variable {w : World} {F : Blk → Prop} {β : Lay} {al al' : Site → Prop}
theorem TRel.on {v : Value} {x : T} (h : TRel w F β al v x) (hs : x.sites al') : TRel w F β al' v x := by
  cases x with
  | p d => exact h
  | ow i k es => exact ⟨hs, h.2⟩
  | oe i k es j off => exact ⟨hs, h.2⟩
  | lp s off => exact ⟨hs, h.2⟩
  | mp i es ck => exact ⟨hs, h.2⟩
  | ot i t xs =>
    rcases h with h | ⟨hne, _, h⟩
    · exact .inl h
    · exact .inr ⟨hne, hs (by simpa using hne), h⟩
  | oet i t xs j off => exact ⟨hs, h.2⟩
  | ov i t xs lo hi =>
    rcases h with h | ⟨hne, _, h⟩
    · exact .inl h
    · exact .inr ⟨hne, hs hne, h⟩
  | on n => exact ⟨hs.1, hs.2, h.2.2⟩
  | emp => exact h
  | dead => trivial

theorem TRel.sites {v : Value} {x : T} (h : TRel w F β al v x) : x.sites al := by
  cases x with
  | p d => trivial
  | ow i k es => exact h.1
  | oe i k es j off => exact h.1
  | lp s off => exact h.1
  | mp i es ck => exact h.1
  | ot i t xs =>
    intro hne
    rcases h with ⟨h0, _⟩ | ⟨_, ha, _⟩
    all_goals simp_all
  | oet i t xs j off => exact h.1
  | ov i t xs lo hi =>
    intro hne
    rcases h with ⟨h0, _⟩ | ⟨_, ha, _⟩
    all_goals grind
  | on n => exact ⟨h.1, h.2.1⟩
  | emp => trivial
  | dead => trivial

def alm (d : Nat) (al : Site → Prop) (x : Site) : Prop := al x ∧ x ≠ .v d ∧ x ≠ .o d

theorem TRel.kill {v : Value} {x : T} {d : Nat} (h : TRel w F β al v x) : TRel w F β (alm d al) v (killT d x) := by
  cases x with
  | p d => exact h
  | ow i k es =>
    simp only [killT]; split
    · trivial
    · rename_i hne; exact ⟨⟨h.1, by simp, by simpa using hne⟩, h.2⟩
  | oe i k es j off =>
    simp only [killT]; split
    · trivial
    · rename_i hne; exact ⟨⟨h.1, by simp, by simpa using hne⟩, h.2⟩
  | lp s off =>
    simp only [killT]; split
    · trivial
    · rename_i hne; exact ⟨⟨h.1, by simpa using hne, by simp⟩, h.2⟩
  | mp i es ck =>
    simp only [killT]; split
    · trivial
    · rename_i hne; exact ⟨⟨h.1, by simp, by simpa using hne⟩, h.2⟩
  | ot i t xs =>
    simp only [killT]; split
    · trivial
    · rename_i hne
      rcases h with h | ⟨h0, ha, h⟩
      · exact .inl h
      · exact .inr ⟨h0, ⟨ha, by simp, by simpa using hne⟩, h⟩
  | oet i t xs j off =>
    simp only [killT]; split
    · trivial
    · rename_i hne; exact ⟨⟨h.1, by simp, by simpa using hne⟩, h.2⟩
  | ov i t xs lo hi =>
    simp only [killT]; split
    · trivial
    · rename_i hne
      rcases h with h | ⟨h0, ha, h⟩
      · exact .inl h
      · exact .inr ⟨h0, ⟨ha, by simp, by simpa using hne⟩, h⟩
  | on n =>
    simp only [killT]; split
    · trivial
    · rename_i hne
      have h1 := not_or.1 hne
      exact ⟨⟨h.1, by simp, by simpa using h1.1⟩, ⟨h.2.1, by simp, by simpa using h1.2⟩, h.2.2⟩
  | emp => exact h
  | dead => trivial

theorem VarRel.kill {b d : Nat} {cs : List T} (h : VarRel w F β al b cs) : VarRel w F β (alm d al) b (cs.map (killT d)) := by
  obtain ⟨c, et, h1, h2, h3⟩ := h
  refine ⟨c, et, h1, by simpa using h2, ?_⟩
  intro i x y hi hy
  simp at hy
  obtain ⟨z, hz, rfl⟩ := hy
  exact (h3 i x z hi hz).kill

theorem VarRel.on {b : Nat} {cs : List T} (h : VarRel w F β al b cs) (hs : ∀ x, x ∈ cs → x.sites al') : VarRel w F β al' b cs := by
  obtain ⟨c, et, h1, h2, h3⟩ := h
  exact ⟨c, et, h1, h2, fun i x y hi hy => (h3 i x y hi hy).on (hs y (List.mem_of_getElem? hy))⟩

theorem VarRel.mem {b : Nat} {cs : List T} (h : VarRel w F β al b cs) {x : T} (hx : x ∈ cs) : x.sites al := by
  obtain ⟨i, hi, rfl⟩ := List.getElem_of_mem hx
  obtain ⟨u, _, h2⟩ := h.at i hi
  exact h2.sites
end

def Inv (Γ : Sig) (G : Nat → Option (List V)) (w0 : World) (F0 : Blk → Prop) (O0 : Lent) (a : Act) (w : World) (e : Env Γ.St) : Prop :=
  ∃ (F : Blk → Prop) (O : Nat → Prop) (β : Lay), Core Γ w0 F0 O0 w F O β (alive e) e.st ∧ GRel G w F ∧ a.tmps.size = e.tm.length ∧ a.defers = [] ∧
    (∀ t, TRel w F β (alive e) (a.tmps.getD t undef) (e.get t)) ∧ (∀ s cs, e.var s = some cs → VarRel w F β (alive e) (β.vb s) cs)

section
variable {Γ : Sig} {P : Program} {G : Nat → Option (List V)} {S : Specs Γ} {o : Oper} {a : Act} {w0 : World} {F0 : Blk → Prop} {O0 : Lent} {w : World} {F : Blk → Prop} {O : Nat → Prop} {β : Lay} {al al' : Site → Prop} {st : Γ.St} {e e' : Env Γ.St}

theorem Core.anti (h : Core Γ w0 F0 O0 w F O β al st) (ha : ∀ x, al' x → al x) : Core Γ w0 F0 O0 w F O β al' st :=
  ⟨h.keep, h.sig, h.oin, h.fin, h.f0, fun x hx => h.place x (ha x hx), fun x y hx hy => h.dist x y (ha x hx) (ha y hy), h.lent⟩

theorem get_mem {x : T} {t : Nat} (h : e.get t = x) : x ∈ e.tm ∨ x = .dead := by
  grind [List.mem_of_getElem?, Env.get]

/-- The frame's state, from what is known under any set of sites that are held. -/
theorem Inv.of (hc : Core Γ w0 F0 O0 w F O β al e.st) (hG : GRel G w F) (hsz : a.tmps.size = e.tm.length) (hdf : a.defers = [])
    (ht : ∀ t, TRel w F β al (a.tmps.getD t undef) (e.get t)) (hv : ∀ s cs, e.var s = some cs → al (.v s) ∧ VarRel w F β al (β.vb s) cs)
    (hl : ∀ s, al (.v s) → ∃ cs, e.var s = some cs) : Inv Γ G w0 F0 O0 a w e := by
  have hsub : ∀ x, alive e x → al x := by
    intro x hx
    cases x with
    | v s => obtain ⟨cs, hcs⟩ := hx; grind
    | o id =>
      obtain ⟨x, hx, hid⟩ := hx
      have hsites : x.sites al := by
        rcases hx with hx | ⟨s, cs, hcs, hx⟩
        · obtain ⟨t, htl, rfl⟩ := List.getElem_of_mem hx
          have := ht t
          simp only [Env.get, List.getD_eq_getElem?_getD, List.getElem?_eq_getElem htl, Option.getD_some] at this
          exact this.sites
        · exact (hv s cs hcs).2.mem hx
      cases x <;> simp only [T.hasO] at hid <;> first | exact hid.elim | (subst hid; exact hsites) | (obtain ⟨rfl, h0⟩ := hid; exact hsites h0) | (rcases hid with rfl | rfl <;> first | exact hsites.1 | exact hsites.2)
  have hal : ∀ x, e.has x → x.sites al → x.sites (alive e) := by
    intro x hx hs
    cases x with
    | ow i k es => exact ⟨_, hx, rfl⟩
    | oe i k es j off => exact ⟨_, hx, rfl⟩
    | mp i es ck => exact ⟨_, hx, rfl⟩
    | ot i t xs => exact fun h0 => ⟨_, hx, rfl, h0⟩
    | oet i t xs j off => exact ⟨_, hx, rfl⟩
    | ov i t xs lo hi => exact fun h0 => ⟨_, hx, rfl, h0⟩
    | on n => exact ⟨⟨_, hx, .inl rfl⟩, ⟨_, hx, .inr rfl⟩⟩
    | lp s off => exact hl s hs
    | _ => trivial
  refine ⟨F, O, β, hc.anti hsub, hG, hsz, hdf, ?_, ?_⟩
  · intro t
    have h := ht t
    refine h.on ?_
    rcases get_mem (e := e) (t := t) rfl with hm | hm
    · exact hal _ (.inl hm) h.sites
    · rw [hm]; trivial
  · intro s cs hcs
    exact (hv s cs hcs).2.on (fun x hx => hal x (.inr ⟨s, cs, hcs, hx⟩) ((hv s cs hcs).2.mem hx))

theorem GRel.ext {w' : World} {F' : Blk → Prop} {β' : Lay} (h : Ext w F β al w' F' β' al') (hG : GRel G w F) : GRel G w' F' := fun g cs hg => (hG g cs hg).ext h

theorem opSim_kill {d : Nat} {r : R Γ.St} {alv : Site → Prop} (h : OpSim Γ P S o a w F β al alv st r) : OpSim Γ P S o a w F β (alm d al) alv st (killR d r) ∨ ∃ x, r = .ret x := by
  cases r with
  | ret x => grind
  | var cs =>
    refine .inl ?_
    obtain ⟨c, et, h1, h2, h3⟩ := h
    refine ⟨c, et, h1, by simpa using h2, ?_⟩
    intro i x y hi hy
    simp at hy
    obtain ⟨z, hz, rfl⟩ := hy
    exact (h3 i x z hi hz).kill
  | own k es => exact .inl h
  | frz es => exact .inl h
  | mk => exact .inl h
  | frzT t xs => exact .inl h
  | ownT t xs => exact .inl h
  | call st' view rv => exact .inl h

theorem evx_sim (hG : GRel G w F) (ht : ∀ t, TRel w F β al (a.tmps.getD t undef) (e.get t)) (x : Operand) : TRel w F β al (a.eval x) (evx G e x) := by
  cases x with
  | tmp t => exact ht t
  | const v => exact rd_ofVal w F v
  | global g =>
    simp [evx, Act.eval]
    split
    · rename_i cs hg; exact hG g cs hg
    · exact Rd.val _
  | func f => exact Rd.clo f #[] [] rfl (fun i x d h => by simp at h)

theorem setR_tm (e : Env Γ.St) (d : Nat) (r : R Γ.St) : (e.setR d r).tm = e.tm.set d (resT d r) := by
  cases r <;> rfl

theorem setR_st (e : Env Γ.St) (d : Nat) (r : R Γ.St) : (e.setR d r).st = resSt e.st r := by
  cases r <;> rfl

theorem setR_var (e : Env Γ.St) (d : Nat) (r : R Γ.St) (hd : d < e.vars.length ∨ ∀ cs, r ≠ .var cs) (s : Nat) : (e.setR d r).var s = match r with
    | .var cs => if s = d then some cs else e.var s
    | _ => e.var s := by
  cases r with
  | var cs =>
    have hd' : d < e.vars.length := hd.resolve_right (fun h => h cs rfl)
    simp [Env.setR, Env.var]
    grind
  | _ => rfl

theorem seq_QR (hS : Table Γ P G S) (hi : Inv Γ G w0 F0 O0 a w e) {r0 r : R Γ.St} (h : evQ P G S e o = some r0)
    (hup : ∀ {F : Blk → Prop} {β : Lay} {al alv : Site → Prop} {st : Γ.St}, OpSim Γ P S o a w F β al alv st r0 → OpSim Γ P S o a w F β al alv st r)
    (hr : applyR e o.dst r = some e') {Q : Exit → Act → World → Prop} :
    o.wp P a w (fun a' w' => Inv Γ G w0 F0 O0 a' w' e') Q := by
  obtain ⟨F, O, β, hc, hG, hsz, hdf, ht, hv⟩ := hi
  have hsim := hup (evQ_sim hS hc.sig (fun s cs hcs _ => hv s cs hcs) (fun x _ => evx_sim hG ht x) h)
  have hpl : ∀ x, alive e x → β.blk x < w.heap.size ∧ ¬ O (β.blk x) := fun x hx => ⟨(hc.place x hx).2.1, (hc.place x hx).2.2.2⟩
  unfold applyR at hr
  split at hr
  · rename_i d hd
    split at hr
    · rename_i hneeds
      split at hr
      · rename_i hdl0
        obtain ⟨hdl, hdL⟩ := hdl0
        cases hr
        have hsim' : OpSim Γ P S o a w F β (alm d (alive e)) (alive e) e.st (killR d r) := by
          rcases opSim_kill (d := d) hsim with h | ⟨x, rfl⟩
          all_goals grind [R.needs]
        refine opSim_wp hS hG (hc.anti (fun x hx => hx.1)) hpl hsim' (d := d) (fun _ => hdL) (fun _ => ⟨fun h => h.2.1 rfl, fun h => h.2.2 rfl⟩) ?_
        intro v w' F' O' β' al' haf
        rw [hd]
        have hst : (e.kill d).st = e.st := rfl
        refine Inv.of (al := al') (by rw [setR_st, hst]; exact haf.core) (hG.ext haf.ext) ?_ ?_ ?_ ?_ ?_
        · simp [Act.put, setR_tm, Env.kill, hsz]
        · exact hdf
        · intro t
          rw [tmps_put]
          have hg : ((e.kill d).setR d (killR d r)).get t = if t = d ∧ d < (e.kill d).tm.length then resT d (killR d r) else (e.kill d).get t := by
            grind [get_set, setR_tm, Env.get]
          rw [hg]
          have hlen : (e.kill d).tm.length = a.tmps.size := by simp [Env.kill, hsz]
          rw [hlen]
          split
          · exact haf.res
          · rw [get_map]; exact (TRel.kill (ht t)).ext haf.ext
        · intro s cs hcs
          have hvd : d < (e.kill d).vars.length := by grind [Env.kill]
          rw [setR_var _ _ _ (.inl hvd)] at hcs
          have hother : (e.kill d).var s = some cs → al' (.v s) ∧ VarRel w' F' β' al' (β'.vb s) cs := by
            intro hcs
            rw [var_kill] at hcs
            split at hcs
            · cases hcs
            · rename_i hne
              simp at hcs
              obtain ⟨cs0, hcs0, rfl⟩ := hcs
              have ha : alm d (alive e) (.v s) := ⟨⟨cs0, hcs0⟩, by simpa using hne, by simp⟩
              refine ⟨haf.ext.a _ ha, ?_⟩
              have hb : β'.vb s = β.vb s := haf.ext.b (.v s) ha
              rw [hb]
              exact (VarRel.kill (hv s cs0 hcs0)).ext haf.ext (haf.ext.ha (.v s) ha)
          cases hk : killR d r with
          | var cs' =>
            rw [hk] at hcs
            simp only at hcs
            split at hcs
            · rename_i hsd
              simp at hcs
              subst hcs hsd
              exact haf.var cs' hk
            grind
          | _ => rw [hk] at hcs; exact hother hcs
        · intro s hs
          have hvd : d < (e.kill d).vars.length := by grind [Env.kill]
          rw [setR_var _ _ _ (.inl hvd)]
          rcases haf.new (.v s) hs with ⟨⟨cs, hcs⟩, hne, _⟩ | ⟨_, ⟨heq, cs, hk⟩ | ⟨heq, _⟩⟩
          · have hne' : s ≠ d := by simpa using hne
            have h1 : (e.kill d).var s = some (cs.map (killT d)) := by simp_all [var_kill]
            cases hk : killR d r with
            | var cs' => grind
            | _ => exact ⟨_, h1⟩
          · simp at heq
            rw [hk]; simp_all
          · cases heq
      · cases hr
    · rename_i hneeds
      cases hr
      refine opSim_wp hS hG hc hpl hsim (d := d) (fun h => absurd h hneeds) (fun h => absurd h hneeds) ?_
      intro v w' F' O' β' al' haf
      rw [hd]
      have hnv : ∀ cs, r ≠ .var cs := fun cs h => by grind [R.needs]
      have hnew : ∀ x, al' x → alive e x := fun x hx => (haf.new x hx).resolve_right (fun h => hneeds h.1)
      have hvv : ∀ s, (e.setR d r).var s = e.var s := by
        intro s; rw [setR_var _ _ _ (.inr hnv)]
        simp_all
      refine Inv.of (al := al') (by rw [setR_st]; exact haf.core) (hG.ext haf.ext) ?_ ?_ ?_ ?_ ?_
      · simp [Act.put, setR_tm, hsz]
      · exact hdf
      · intro t
        rw [tmps_put]
        have hg : (e.setR d r).get t = if t = d ∧ d < e.tm.length then resT d r else e.get t := by
          grind [get_set, setR_tm, Env.get]
        rw [hg, hsz]
        split
        · exact haf.res
        · exact (ht t).ext haf.ext
      · intro s cs hcs
        rw [hvv] at hcs
        have ha : alive e (.v s) := ⟨cs, hcs⟩
        refine ⟨haf.ext.a _ ha, ?_⟩
        have hb : β'.vb s = β.vb s := haf.ext.b (.v s) ha
        rw [hb]
        exact (hv s cs hcs).ext haf.ext (haf.ext.ha (.v s) ha)
      · intro s hs
        rw [hvv]; exact hnew _ hs
  · rename_i hd
    have hcommon : ∀ (st' : Γ.St), resSt e.st r = st' → (∀ cs, r ≠ .var cs) → r.needs = false → o.wp P a w (fun a' w' => Inv Γ G w0 F0 O0 a' w' { e with st := st' }) Q := by
      intro st' hst hnv hneeds
      refine opSim_wp hS hG hc hpl hsim (d := 0) (fun h => by grind) (fun h => by grind) ?_
      intro v w' F' O' β' al' haf
      rw [hd]
      have hnew : ∀ x, al' x → alive e x := fun x hx => (haf.new x hx).resolve_right (fun h => by grind)
      refine Inv.of (al := al') (by rw [← hst]; exact haf.core) (hG.ext haf.ext) hsz hdf (fun t => (ht t).ext haf.ext) ?_ (fun s hs => hnew _ hs)
      intro s cs hcs
      have ha : alive e (.v s) := ⟨cs, hcs⟩
      refine ⟨haf.ext.a _ ha, ?_⟩
      have hb : β'.vb s = β.vb s := haf.ext.b (.v s) ha
      rw [hb]
      exact (hv s cs hcs).ext haf.ext (haf.ext.ha (.v s) ha)
    split at hr
    · cases hr
      exact hcommon _ rfl (fun cs h => by cases h) rfl
    · cases hr
      exact hcommon _ rfl (fun cs h => by cases h) rfl
    · cases hr

theorem seq_Q (hS : Table Γ P G S) (hi : Inv Γ G w0 F0 O0 a w e) {r : R Γ.St} (h : evQ P G S e o = some r) (hr : applyR e o.dst r = some e') {Q : Exit → Act → World → Prop} :
    o.wp P a w (fun a' w' => Inv Γ G w0 F0 O0 a' w' e') Q := seq_QR hS hi h (fun h => h) hr

/-- A literal that is made is the frame's own, where that is wanted. -/
theorem seq_lit (hS : Table Γ P G S) (hi : Inv Γ G w0 F0 O0 a w e) {t : Ty} {xs : List t.El} (h : evQ P G S e o = some (.frzT t xs)) (hr : applyR e o.dst (.ownT t xs) = some e') {Q : Exit → Act → World → Prop} :
    o.wp P a w (fun a' w' => Inv Γ G w0 F0 O0 a' w' e') Q := by
  refine seq_QR hS hi h (r := .ownT t xs) ?_ hr
  intro F β al alv st hh
  obtain ⟨es, c, et, h1, h2, h3, h4, h5⟩ := hh
  exact ⟨es, c, et, es.length, h1, h2, Nat.le_refl _, fun h => by rw [h]; rfl, h3, h4, h5⟩
end
end Go.Ve

namespace Go.Ve
open Go

section
variable {St : Type} {P : Look} {G : Nat → Option (List V)} {S : FuncId → St → List V → Option (St × RV)} {e e' : Env St} {o : Oper}

theorem flat_congr (hns : ∀ cs b, o.op ≠ .select cs b) (hx : ∀ x, x ∈ o.op.operands → evx G e x = evx G e' x) : evFlat P G e o = evFlat P G e' o := by
  unfold evFlat
  have h1 : o.op.operands.toList.all (fun x => (flatT (evx G e x)).isSome) = o.op.operands.toList.all (fun x => (flatT (evx G e' x)).isSome) := by
    grind
  have h2 : execOp (fun x => (flatT (evx G e x)).getD undef) o = execOp (fun x => (flatT (evx G e' x)).getD undef) o :=
    execOp_congr o hns (fun x hm => by rw [hx x hm])
  rw [h1, h2]

theorem argV_congr {x : T} (hv : ∀ s off, x = .lp s off → e.var s = e'.var s) : argV e x = argV e' x := by
  cases x <;> simp only [argV]
  rw [hv _ _ rfl]

theorem argsV_congr : ∀ (xs : List Operand), (∀ x, x ∈ xs → evx G e x = evx G e' x) → (∀ x, x ∈ xs → ∀ s off, evx G e x = .lp s off → e.var s = e'.var s) →
    argsV G e xs = argsV G e' xs := by
  intro xs
  induction xs with
  | nil => intro _ _; rfl
  | cons x xs ih =>
    grind [argV_congr, List.mem_cons_of_mem, argsV]

theorem pureArgs_congr : ∀ (xs : List Operand), (∀ x, x ∈ xs → evx G e x = evx G e' x) → pureArgs G e xs = pureArgs G e' xs := by
  intro xs
  induction xs with
  | nil => intro _; rfl
  | cons x xs ih =>
    grind [List.mem_cons_of_mem, pureArgs]

theorem purePairs_congr : ∀ (xs : List (Nat × Operand)), (∀ x, x ∈ xs → evx G e x.2 = evx G e' x.2) → purePairs G e xs = purePairs G e' xs := by
  intro xs
  induction xs with
  | nil => intro _; rfl
  | cons x xs ih =>
    grind [List.mem_cons_of_mem, purePairs]

theorem any_congr {α : Type} {p q : α → Bool} (l : List α) (h : ∀ x, x ∈ l → p x = q x) : l.any p = l.any q := by
  grind

def isCall (o : Oper) : Bool :=
  match o.op with
  | .call c => match c.callee with
    | .builtin .append => true
    | .builtin _ => false
    | _ => true
  | _ => false

theorem evQ_congrS (hx : ∀ x, x ∈ o.op.operands → evx G e x = evx G e' x) (hv : ∀ x, x ∈ o.op.operands → ∀ s off, evx G e x = .lp s off → e.var s = e'.var s)
    (hst : isCall o = true → e.st = e'.st) : evQ P G S e o = evQ P G S e' o := by
  obtain ⟨dst, op, type, pos, after, guard⟩ := o
  cases op <;> simp only [evQ]
  case move x => grind [Op.operands]
  case assign x => grind [Op.operands]
  case pick c x y => exact flat_congr (fun _ _ hc => by cases hc) hx
  case box t x => grind [Op.operands]
  case build t parts =>
    rw [purePairs_congr parts.toList (fun p hp => hx p.2 (by
      simp only [Op.operands, List.mem_toArray, List.mem_map]
      grind))]
  case buildSlice t n parts =>
    rw [purePairs_congr parts.toList (fun p hp => hx p.2 (by
      simp only [Op.operands, List.mem_toArray, List.mem_map]
      grind))]
  case makeSlice t l c => grind [Op.operands]
  case load t x =>
    have h1 := hx x (by simp [Op.operands])
    have h2 := hv x (by simp [Op.operands])
    rw [← h1]
    cases hex : evx G e x with
    | lp s off => grind [evLoad, evLoad0]
    | p d => cases d <;> rfl
    | _ => rfl
  case nilCheck x =>
    rw [flat_congr (P := P) (o := ⟨dst, .nilCheck x, type, pos, after, guard⟩) (fun _ _ hc => by cases hc) hx, hx x (by simp [Op.operands])]
  case binOp op t x y t' =>
    rw [flat_congr (P := P) (o := ⟨dst, .binOp op t x y t', type, pos, after, guard⟩) (fun _ _ hc => by cases hc) hx, hx x (by simp [Op.operands]), hx y (by simp [Op.operands])]
  case unOp op t x => exact flat_congr (fun _ _ hc => by cases hc) hx
  case convert s d x => exact flat_congr (fun _ _ hc => by cases hc) hx
  case index t x i => exact flat_congr (fun _ _ hc => by cases hc) hx
  case makeFunc fn first captured =>
    cases fn with
    | func f => grind [pureArgs_congr, Op.operands]
    | _ => rfl
  case slice t x lo hi mx =>
    rw [flat_congr (P := P) (o := ⟨dst, .slice t x lo hi mx, type, pos, after, guard⟩) (fun _ _ hc => by cases hc) hx, hx x (by simp [Op.operands])]
    have h1 : lo.map (evx G e) = lo.map (evx G e') := by cases lo with
      | none => rfl
      | some y => grind [Op.operands]
    have h2 : hi.map (evx G e) = hi.map (evx G e') := by cases hi with
      | none => rfl
      | some y => grind [Op.operands]
    have h3 : mx.map (evx G e) = mx.map (evx G e') := by cases mx with
      | none => rfl
      | some y => grind [Op.operands]
    rw [h1, h2, h3]
  case fieldAddr t x i => grind [Op.operands]
  case makeMap t r => cases r <;> rfl
  case lookup t x ix ok => grind [Op.operands]
  case field t x i => grind [Op.operands]
  case indexAddr t x ix => grind [Op.operands]
  case extract x i => grind [Op.operands]
  case call c =>
    have hf : evFlat P G e ⟨dst, .call c, type, pos, after, guard⟩ = evFlat P G e' ⟨dst, .call c, type, pos, after, guard⟩ := flat_congr (fun _ _ hc => by cases hc) hx
    have ha : ∀ x, x ∈ c.args → evx G e x = evx G e' x := fun x hm => hx x (by simp [Op.operands, Call.operands, hm])
    have hva : ∀ x, x ∈ c.args → ∀ s off, evx G e x = .lp s off → e.var s = e'.var s := fun x hm => hv x (by simp [Op.operands, Call.operands, hm])
    unfold evCall
    rw [hf]
    cases hcal : c.callee with
    | invoke r m => rfl
    | value f =>
      grind [argsV_congr, any_congr, Op.operands, Call.operands, isCall]
    | builtin b =>
      cases b <;> try rfl
      case append =>
        simp only
        have hst' := hst (by simp [isCall, hcal])
        have : evHapp P G S e c = evHapp P G S e' c := by
          unfold evHapp
          split
          · rename_i x0 x1 t0 t1 hargs htys
            rw [ha x0 (by rw [← Array.mem_toList_iff, hargs]; simp), ha x1 (by rw [← Array.mem_toList_iff, hargs]; simp), hst']
          · rfl
        rw [this]
      grind

theorem evQ_congr (hx : ∀ x, x ∈ o.op.operands → evx G e x = evx G e' x) (hv : ∀ x, x ∈ o.op.operands → ∀ s off, evx G e x = .lp s off → e.var s = e'.var s)
    (hst : e.st = e'.st) : evQ P G S e o = evQ P G S e' o := evQ_congrS hx hv (fun _ => hst)

theorem evFlat_ret {r : R St} (h : evFlat P G e o = some r) : ∃ x, r = .ret x := by
  grind [Option.some.injEq, evFlat]

def R.isCall : R St → Bool
  | .call _ _ _ => true
  | _ => false

theorem evLoad0_nc {t : TypeId} {x : T} {r : R St} (h : evLoad0 P e t x = some r) : r.isCall = false := by
  unfold evLoad0 at h
  split at h <;> (try split at h) <;> (try (simp only [Option.map_eq_some_iff] at h; obtain ⟨_, _, rfl⟩ := h; rfl)) <;> cases h

theorem evLoad_nc {t : TypeId} {x : T} {r : R St} (h : evLoad P e t x = some r) : r.isCall = false := by
  unfold evLoad at h
  split at h
  · rename_i n
    obtain ⟨id, id2, ty, xs, j, ys, m⟩ := n
    simp only [evLoadN] at h
    repeat' split at h
    all_goals (first | (simp only [Option.some.injEq] at h; subst h; rfl) | cases h)
  · split at h
    · simp at h; obtain ⟨_, _, rfl⟩ := h; rfl
    · cases h
  · exact evLoad0_nc h

theorem evFieldAddr0_nc {t : TypeId} {i : Nat} {x : T} {r : R St} (h : evFieldAddr0 P t i x = some r) : r.isCall = false := by
  unfold evFieldAddr0 at h
  repeat' split at h
  all_goals (first | (simp only [Option.some.injEq] at h; subst h; rfl) | cases h)

theorem evFieldAddr_nc {t : TypeId} {i : Nat} {x : T} {r : R St} (h : evFieldAddr P t i x = some r) : r.isCall = false := by
  unfold evFieldAddr at h
  split at h
  · rename_i n
    obtain ⟨id, id2, ty, xs, j, ys, m⟩ := n
    simp only [evFieldAddrN] at h
    repeat' split at h
    all_goals (first | (simp only [Option.some.injEq] at h; subst h; rfl) | cases h)
  · repeat' split at h
    all_goals (first | (simp only [Option.some.injEq] at h; subst h; rfl) | cases h)
  · exact evFieldAddr0_nc h

theorem evIndexAddr0_nc {t : TypeId} {i : Int} {x : T} {r : R St} (h : evIndexAddr0 P t x i = some r) : r.isCall = false := by
  unfold evIndexAddr0 at h
  repeat' split at h
  all_goals (first | (simp only [Option.some.injEq] at h; subst h; rfl) | cases h)

theorem evIndexAddr_nc {t : TypeId} {i : Int} {x : T} {r : R St} (h : evIndexAddr P t x i = some r) : r.isCall = false := by
  unfold evIndexAddr at h
  split at h
  · rename_i n
    obtain ⟨id, id2, ty, xs, j, ys, m⟩ := n
    simp only [evIndexAddrN] at h
    repeat' split at h
    all_goals (first | (simp only [Option.some.injEq] at h; subst h; rfl) | cases h)
  · repeat' split at h
    all_goals (first | (simp only [Option.some.injEq] at h; subst h; rfl) | cases h)
  · repeat' split at h
    all_goals (first | (simp only [Option.some.injEq] at h; subst h; rfl) | cases h)
  · repeat' split at h
    all_goals (first | (simp only [Option.some.injEq] at h; subst h; rfl) | cases h)
  · exact evIndexAddr0_nc h

theorem evSliceO_nc {t : TypeId} {id : Nat} {ty : Ty} {xs : List ty.El} {lo hi mx : Option T} {r : R St} (h : evSliceO P t id ty xs lo hi mx = some r) : r.isCall = false := by
  unfold evSliceO at h
  repeat' split at h
  all_goals (first | (simp only [Option.some.injEq] at h; subst h; rfl) | cases h)

theorem evSliceT_nc {t : TypeId} {ty : Ty} {xs : List ty.El} {lo hi mx : Option T} {r : R St} (h : evSliceT P t ty xs lo hi mx = some r) : r.isCall = false := by
  unfold evSliceT at h
  repeat' split at h
  all_goals (first | (simp only [Option.some.injEq] at h; subst h; rfl) | cases h)

theorem evSlice_nc {t : TypeId} {es : List V} {lo hi mx : Option T} {r : R St} (h : evSlice P t es lo hi mx = some r) : r.isCall = false := by
  unfold evSlice at h
  repeat' split at h
  all_goals (first | (simp only [Option.some.injEq] at h; subst h; rfl) | cases h)

theorem evLen_nc {x : T} {r : R St} (h : evLen x = some r) : r.isCall = false := by
  unfold evLen at h
  repeat' split at h
  all_goals (first | (simp only [Option.some.injEq] at h; subst h; rfl) | cases h)

theorem evBuild_nc {t : TypeId} {ps : List (Nat × V)} {r : R St} (h : evBuild P t ps = some r) : r.isCall = false := by
  unfold evBuild at h
  repeat' split at h
  all_goals (first | (simp only [Option.map_eq_some_iff] at h; obtain ⟨_, _, rfl⟩ := h; rfl) | cases h)

theorem evBuildSlice_nc {t : TypeId} {n : Nat} {ps : List (Nat × V)} {r : R St} (h : evBuildSlice P t n ps = some r) : r.isCall = false := by
  unfold evBuildSlice at h
  repeat' split at h
  all_goals (first | (simp only [Option.some.injEq] at h; subst h; rfl) | (simp only [Option.some.injEq] at h; subst h; split <;> rfl) | cases h)

theorem evNil_nc {op : BinOp} {t : TypeId} {x y : T} {r : R St} (h : evNil P op t x y = some r) : r.isCall = false := by
  unfold evNil at h
  repeat' split at h
  all_goals (first | (simp only [Option.some.injEq] at h; subst h; rfl) | cases h)

theorem evEq_nc {op : BinOp} {t : TypeId} {x y : T} {r : R St} (h : evEq P op t x y = some r) : r.isCall = false := by
  unfold evEq at h
  repeat' split at h
  all_goals (first | (simp only [Option.map_eq_some_iff] at h; obtain ⟨_, _, rfl⟩ := h; rfl) | cases h)

theorem evLoadH_nc {t : TypeId} {x : T} {r : R St} (h : evLoadH P t x = some r) : r.isCall = false := by
  unfold evLoadH at h
  split at h <;> (try (simp only [Option.map_eq_some_iff] at h; obtain ⟨_, _, rfl⟩ := h; rfl)) <;> cases h

theorem evEqH_nc {op : BinOp} {t : TypeId} {x y : T} {r : R St} (h : evEqH P op t x y = some r) : r.isCall = false := by
  unfold evEqH at h
  repeat' split at h
  all_goals (first | (simp only [Option.some.injEq] at h; subst h; rfl) | cases h)

theorem evMakeSlice_nc {t : TypeId} {n : Int} {r : R St} (h : evMakeSlice P t n = some r) : r.isCall = false := by
  unfold evMakeSlice at h
  repeat' split at h
  all_goals (first | (simp only [Option.some.injEq] at h; subst h; rfl) | cases h)

theorem evField_nc {t : TypeId} {cs : List V} {i : Nat} {r : R St} (h : evField P t cs i = some r) : r.isCall = false := by
  unfold evField at h
  split at h
  · simp at h; obtain ⟨_, _, rfl⟩ := h; rfl
  · cases h

theorem evFlat_nc {r : R St} (h : evFlat P G e o = some r) : r.isCall = false := by
  obtain ⟨x, rfl⟩ := evFlat_ret h; rfl

theorem evQ_nc {r : R St} (h : evQ P G S e o = some r) (hc : isCall o = false) : r.isCall = false := by
  obtain ⟨dst, op, type, pos, after, guard⟩ := o
  cases op <;> simp only [evQ] at h
  case call c =>
    unfold evCall at h
    simp only [isCall] at hc
    split at h
    all_goals grind [Option.some.injEq, evLen_nc, evFlat_nc]
  case buildSlice t n parts =>
    grind [evBuildSlice_nc]
  case binOp op t x y t' =>
    grind [Option.some.injEq, evNil_nc, evEqH_nc, evEq_nc, evFlat_nc]
  case makeSlice t l c =>
    grind [evMakeSlice_nc]
  case load t x =>
    grind [Option.some.injEq, evLoadH_nc, evLoad_nc]
  case makeMap t r =>
    cases r with
    | none => cases h; rfl
    | some _ => cases h
  case fieldAddr t x i => exact evFieldAddr_nc h
  case makeFunc fn first captured =>
    cases fn with
    | func f =>
      simp only at h
      split at h
      · split at h
        · cases h; rfl
        · cases h
      · cases h
    | _ => cases h
  all_goals (first
    | (cases h; done)
    | exact evLoad_nc h
    | exact evFieldAddr_nc h
    | exact evFlat_nc h
    | (simp only [Option.some.injEq] at h; subst h; rfl)
    | (repeat' split at h
       all_goals (first
         | (simp only [Option.some.injEq] at h; subst h; rfl)
         | (simp only [Option.map_eq_some_iff] at h; obtain ⟨_, _, rfl⟩ := h; rfl)
         | exact evIndexAddr_nc h
         | exact evSlice_nc h
         | exact evSliceT_nc h
         | exact evSliceO_nc h
         | exact evBuild_nc h
         | exact evField_nc h
         | exact evFlat_nc h
         | cases h)))

theorem st_of_nocall {r : R St} (h : r.isCall = false) (st : St) : resSt st r = st := by
  cases r with
  | call st' view rv => cases h
  | _ => rfl
end
end Go.Ve

namespace Go.Ve
open Go

section
variable {St : Type} (P : Look) (G : Nat → Option (List V)) (S : FuncId → St → List V → Option (St × RV)) (ops : Array Oper)

/-- Is the operation carried out? -/
def wantedV (e : Env St) (o : Oper) : Option Bool :=
  match o.guard with
  | none => some true
  | some (j, want) => match (ops[j]?).bind (·.dst) with
    | none => some false
    | some t => match e.get t with
      | .p (.val (.bool b)) => if t < e.tm.length then some (b == want) else none
      | .p (.val (.tuple _)) => some false
      | _ => none

def dstsOf (l : List Oper) : List Nat := l.filterMap (·.dst)

def pendOk (pend : List Nat) (e : Env St) (o : Oper) : Bool :=
  o.op.operands.toList.all fun x => match evx G e x with
    | .lp s _ => !pend.contains s
    | _ => true

def applyD (e : Env St) (dst : Option Tmp) (r : R St) : Option (Env St) :=
  match dst with
  | some d => if d < e.vars.length ∧ d ≠ lentId then some (e.setR d r) else none
  | none => match r with
    | .ret _ => some e
    | .call st _ (.p _) => some { e with st := st }
    | _ => none

def drawGo : List Oper → Env St → Option (Env St)
  | [], e => some e
  | o :: rest, e => match wantedV ops e o with
    | some true => if pendOk G (dstsOf (o :: rest)) e o then
        match evQ P G S e o with
        | some r => match applyD e o.dst r with
          | some e1 => drawGo rest e1
          | none => none
        | none => none
      else none
    | some false => drawGo rest (e.put o.dst (.p (.val undef)))
    | none => none

/-- What is known of operation o at the end: e is the last state, st the one that the operation meets, st' the one that it leaves. -/
def StepAt (e : Env St) (st : St) (o : Oper) (st' : St) : Prop :=
  (wantedV ops e o = some true ∧ ∃ r, evQ P G S { e with st := st } o = some r ∧ st' = resSt st r ∧ (r.needs = true → ∃ d, o.dst = some d ∧ d ≠ lentId) ∧
    ∀ d, o.dst = some d → (d < e.tm.length → e.get d = resT d r) ∧ (∀ cs, r = .var cs → e.var d = some cs) ∧ ((∀ cs, r ≠ .var cs) → e.var d = none)) ∨
  (wantedV ops e o = some false ∧ st' = st ∧ ∀ d, o.dst = some d → (d < e.tm.length → e.get d = .p (.val undef)) ∧ e.var d = none)

variable {P G S ops}

/-- No operation looks at what it or a later one writes. -/
def Ahead : List Oper → Prop
  | [] => True
  | o :: rest => (∀ t, t ∈ o.looksAt ops → t ∉ dstsOf (o :: rest)) ∧ (∀ d, o.dst = some d → d ∉ dstsOf rest) ∧ Ahead rest

theorem wantedV_congr {e e' : Env St} {o : Oper} (h : ∀ t, t ∈ o.looksAt ops → e'.get t = e.get t) (hl : e'.tm.length = e.tm.length) : wantedV ops e' o = wantedV ops e o := by
  unfold wantedV
  cases hg : o.guard with
  | none => rfl
  | some gw =>
    obtain ⟨j, want⟩ := gw
    simp only
    cases hd : (ops[j]?).bind (·.dst) with
    | none => rfl
    | some t =>
      grind [Oper.looksAt]

theorem evx_congr {e e' : Env St} {o : Oper} (h : ∀ t, t ∈ o.looksAt ops → e'.get t = e.get t) (x : Operand) (hx : x ∈ o.op.operands) : evx G e' x = evx G e x := by
  cases x with
  | tmp t => exact h t (List.mem_append_left _ (List.mem_filterMap.2 ⟨.tmp t, by simpa using hx, rfl⟩))
  | _ => rfl

theorem get_put_ne (e : Env St) (d : Option Tmp) (x : T) (t : Nat) (h : d ≠ some t) : (e.put d x).get t = e.get t := by
  cases d with
  | none => rfl
  | some d =>
    grind [get_set, Env.put]

theorem setR_get_ne (e : Env St) (d t : Nat) (r : R St) (h : t ≠ d) : (e.setR d r).get t = e.get t := by
  have : (e.setR d r).get t = ({ e with tm := e.tm.set d (resT d r) } : Env St).get t := by
    cases r <;> rfl
  grind [get_set]

theorem setR_get_eq (e : Env St) (d : Nat) (r : R St) (h : d < e.tm.length) : (e.setR d r).get d = resT d r := by
  have : (e.setR d r).get d = ({ e with tm := e.tm.set d (resT d r) } : Env St).get d := by
    cases r <;> rfl
  grind [get_set]

theorem setR_len (e : Env St) (d : Nat) (r : R St) : (e.setR d r).tm.length = e.tm.length := by
  cases r <;> simp [Env.setR]

theorem setR_var' (e : Env St) (d : Nat) (r : R St) (hd : d < e.vars.length) (s : Nat) : (e.setR d r).var s = match r with
    | .var cs => if s = d then some cs else e.var s
    | _ => e.var s := by
  cases r with
  | var cs =>
    simp [Env.setR, Env.var]
    grind
  | _ => rfl

theorem setR_st' (e : Env St) (d : Nat) (r : R St) : (e.setR d r).st = resSt e.st r := by
  cases r <;> rfl

theorem drawGo_trace : ∀ (l : List Oper) (e e' : Env St), drawGo P G S ops l e = some e' → Ahead (ops := ops) l → (∀ d, d ∈ dstsOf l → e.var d = none) →
    ∃ sts : Nat → St, sts 0 = e.st ∧ sts l.length = e'.st ∧ (∀ (i : Nat) (o : Oper), l[i]? = some o → StepAt P G S ops e' (sts i) o (sts (i + 1))) ∧
      (∀ t, t ∉ dstsOf l → e'.get t = e.get t) ∧ (∀ s, s ∉ dstsOf l → e'.var s = e.var s) ∧ e'.tm.length = e.tm.length := by
  intro l
  induction l with
  | nil =>
    intro e e' h _ _
    cases h
    exact ⟨fun _ => e.st, rfl, rfl, fun i o ho => by simp at ho, fun _ _ => rfl, fun _ _ => rfl, rfl⟩
  | cons o rest ih =>
    intro e e' h hah hnone
    obtain ⟨hlook, hdst, hah'⟩ := hah
    have hdn : ∀ d, o.dst = some d → e.var d = none := fun d hd => hnone d (by simp [dstsOf, hd])
    simp only [drawGo] at h
    -- from a state e1 that differs from e at o's own temporary alone
    have key : ∀ (e1 : Env St) (st1 : St), e1.st = st1 → drawGo P G S ops rest e1 = some e' → e1.tm.length = e.tm.length →
        (∀ t, o.dst ≠ some t → e1.get t = e.get t) → (∀ s, o.dst ≠ some s → e1.var s = e.var s) →
        (∀ e2 : Env St, (∀ t, t ∈ o.looksAt ops → e2.get t = e.get t) → e2.tm.length = e.tm.length → (∀ s, s ∉ dstsOf (o :: rest) → e2.var s = e.var s) →
          (∀ d, o.dst = some d → e2.get d = e1.get d) → (∀ d, o.dst = some d → e2.var d = e1.var d) → StepAt P G S ops e2 e.st o st1) →
        ∃ sts : Nat → St, sts 0 = e.st ∧ sts (o :: rest).length = e'.st ∧ (∀ (i : Nat) (o' : Oper), (o :: rest)[i]? = some o' → StepAt P G S ops e' (sts i) o' (sts (i + 1))) ∧
          (∀ t, t ∉ dstsOf (o :: rest) → e'.get t = e.get t) ∧ (∀ s, s ∉ dstsOf (o :: rest) → e'.var s = e.var s) ∧ e'.tm.length = e.tm.length := by
      intro e1 st1 hst1 hgo hlen hget hvar hstep
      have hsub : ∀ t, t ∉ dstsOf (o :: rest) → t ∉ dstsOf rest ∧ o.dst ≠ some t := by
        intro t ht
        simp [dstsOf, List.filterMap_cons] at ht
        cases hd : o.dst with
        | none => simp only [hd] at ht; exact ⟨ht, by simp⟩
        | some d =>
          simp only [hd, List.mem_cons, not_or] at ht
          exact ⟨ht.2, fun hh => ht.1 (by grind)⟩
      have hmem : ∀ t, t ∈ dstsOf rest → t ∈ dstsOf (o :: rest) := by
        grind
      obtain ⟨sts, h0, hn, hsteps, hg, hv, hl⟩ := ih e1 e' hgo hah' (fun d hd => by
        grind)
      refine ⟨fun i => match i with | 0 => e.st | i + 1 => sts i, rfl, hn, ?_, ?_, ?_, by omega⟩
      · intro i o' ho'
        cases i with
        | zero =>
          simp at ho'
          grind
        | succ i => grind
      all_goals grind
    split at h
    · rename_i hw
      split at h
      · rename_i hpend
        split at h
        · rename_i r hr
          split at h
          · rename_i e1 he1
            have hcong : ∀ e2 : Env St, (∀ t, t ∈ o.looksAt ops → e2.get t = e.get t) → (∀ s, s ∉ dstsOf (o :: rest) → e2.var s = e.var s) → evQ P G S { e2 with st := e.st } o = some r := by
              intro e2 h1 h2
              rw [← hr]
              symm
              refine evQ_congr (e := e) (e' := { e2 with st := e.st }) ?_ ?_ rfl
              · intro x hx; exact (evx_congr (G := G) (e := e) (e' := { e2 with st := e.st }) h1 x hx).symm
              · intro x hx s off hs
                have h3 := List.all_eq_true.1 hpend x (by simpa using hx)
                rw [hs] at h3
                have h4 : s ∉ dstsOf (o :: rest) := by simpa using h3
                exact (h2 s h4).symm
            unfold applyD at he1
            split at he1
            · rename_i d hd
              split at he1
              · rename_i hdl0
                obtain ⟨hdl, hdL⟩ := hdl0
                cases he1
                refine key _ (resSt e.st r) (setR_st' e d r) h (setR_len e d r) ?_ ?_ ?_
                · grind [setR_get_ne]
                · grind [setR_var']
                · intro e2 h1 h2 h3 h4 h5
                  refine .inl ⟨by grind [wantedV_congr], r, hcong e2 h1 h3, rfl, fun _ => ⟨d, hd, hdL⟩, ?_⟩
                  intro d' hd'
                  rw [hd] at hd'
                  cases hd'
                  refine ⟨fun hlt => ?_, ?_, ?_⟩
                  · grind [setR_get_eq]
                  · grind [setR_var']
                  · intro hcs
                    rw [h5 d hd, setR_var' e d r hdl]
                    grind
              · cases he1
            · rename_i hd
              split at he1
              · cases he1
                refine key _ e.st rfl h rfl (fun _ _ => rfl) (fun _ _ => rfl) ?_
                intro e2 h1 h2 h3 h4 h5
                exact .inl ⟨by grind [wantedV_congr], _, hcong e2 h1 h3, rfl, fun hh => by simp [R.needs] at hh, fun d hh => by grind⟩
              · cases he1
                refine key _ _ rfl h rfl (fun _ _ => rfl) (fun _ _ => rfl) ?_
                intro e2 h1 h2 h3 h4 h5
                exact .inl ⟨by grind [wantedV_congr], _, hcong e2 h1 h3, rfl, fun hh => by simp [R.needs] at hh, fun d hh => by grind⟩
              · cases he1
          · cases h
        · cases h
      · cases h
    · rename_i hw
      refine key _ e.st ?_ h ?_ (fun t ht => get_put_ne e o.dst _ t ht) ?_ ?_
      · cases o.dst <;> rfl
      · cases o.dst <;> simp [Env.put]
      · intro s _; cases o.dst <;> rfl
      · intro e2 h1 h2 h3 h4 h5
        refine .inr ⟨by grind [wantedV_congr], rfl, ?_⟩
        intro d hd
        refine ⟨fun hlt => ?_, ?_⟩
        · rw [h4 d hd]
          simp [Env.put, hd]
          rw [get_set]
          grind
        · rw [h5 d hd]
          have : (e.put o.dst (.p (.val undef))).var d = e.var d := by cases o.dst <;> rfl
          grind
    · cases h
end
end Go.Ve

namespace Go.Ve
open Go

def drawOne (ops : Array Oper) (anc : Array Nat) (i : Nat) (o : Oper) : Bool :=
  o.after.all (fun e => !Region.binds .any e || decide (e.on < i)) &&
  (o.looksAt ops).all (fun t => (List.range ops.size).all fun j => match ops[j]? with
    | some oj => !(oj.dst == some t) || o.after.any (fun e => Region.binds .any e && e.on == j)
    | none => true) &&
  (List.range i).all (fun j => match ops[j]? with
    | some oj => !(oj.dst.isSome && oj.dst == o.dst) && (!(isCall oj && isCall o) || (anc.getD i 0).testBit j)
    | none => true) &&
  (!isCall o || (List.range i).all fun j => !(anc.getD i 0).testBit j || o.after.any (fun e => Region.binds .any e && (e.on == j || (anc.getD e.on 0).testBit j)))

/-- The whole table of who comes behind whom holds of the edges. -/
def ancOk (ops : Array Oper) (anc : Array Nat) : Bool :=
  (List.range ops.size).all fun i => match ops[i]? with
    | some o => (List.range i).all fun j => !(anc.getD i 0).testBit j || o.after.any (fun e => Region.binds .any e && decide (e.on < i) && (e.on == j || (decide (j < e.on) && (anc.getD e.on 0).testBit j)))
    | none => true

def drawOk (ops : Array Oper) : Bool :=
  let anc := if (ops.toList.filter isCall).length ≤ 1 then #[] else Region.before ops
  ancOk ops anc && (List.range ops.size).all fun i => match ops[i]? with
    | some o => drawOne ops anc i o
    | none => true

section
variable {ops : Array Oper}

structure Static (ops : Array Oper) : Prop where
  edge : ∀ (i : Nat) (o : Oper) (e : Edge), ops[i]? = some o → e ∈ o.after → Region.binds .any e = true → e.on < i
  look : ∀ (i : Nat) (o : Oper) (t j : Nat) (oj : Oper), ops[i]? = some o → t ∈ o.looksAt ops → ops[j]? = some oj → oj.dst = some t → ∃ e, e ∈ o.after ∧ Region.binds .any e = true ∧ e.on = j
  dist : ∀ (i j : Nat) (o oj : Oper) (d : Nat), ops[i]? = some o → ops[j]? = some oj → o.dst = some d → oj.dst = some d → i = j
  call : ∀ (listed : Nat → Prop), (∀ (i : Nat) (o : Oper) (e : Edge), ops[i]? = some o → listed i → e ∈ o.after → Region.binds .any e = true → listed e.on) →
    ∀ (i j : Nat) (o oj : Oper), ops[i]? = some o → ops[j]? = some oj → isCall o = true → isCall oj = true → j < i → listed i → listed j

theorem static_of (h : drawOk ops = true) : Static ops := by
  unfold drawOk at h
  simp only [Bool.and_eq_true] at h
  obtain ⟨hanc, hall⟩ := h
  generalize (if (ops.toList.filter isCall).length ≤ 1 then #[] else Region.before ops) = anc at hanc hall
  have hone : ∀ i o, ops[i]? = some o → drawOne ops anc i o = true := by
    grind
  have hcl : ∀ (listed : Nat → Prop), (∀ (i : Nat) (o : Oper) (e : Edge), ops[i]? = some o → listed i → e ∈ o.after → Region.binds .any e = true → listed e.on) →
      ∀ (i : Nat) (o : Oper) (j : Nat), ops[i]? = some o → j < i → (anc.getD i 0).testBit j = true → listed i → listed j := by
    intro listed hdown i
    induction i using Nat.strongRecOn with
    | _ i ih =>
      intro o j ho hji hbit hi
      have hlt : i < ops.size := (Array.getElem?_eq_some_iff.1 ho).1
      have h1 := List.all_eq_true.1 hanc i (List.mem_range.2 hlt)
      simp only [ho] at h1
      have h2 := List.all_eq_true.1 h1 j (List.mem_range.2 hji)
      simp only [hbit, Bool.not_true, Bool.false_or, Array.any_eq_true', Bool.and_eq_true, Bool.or_eq_true, decide_eq_true_eq, beq_iff_eq] at h2
      obtain ⟨e, he, ⟨hb, hon⟩, hj⟩ := h2
      grind
  refine ⟨?_, ?_, ?_, ?_⟩
  · intro i o e ho he hb
    have h1 := hone i o ho
    simp only [drawOne, Bool.and_eq_true] at h1
    grind [Array.all_eq_true_iff_forall_mem]
  · intro i o t j oj ho ht hj hd
    have h1 := hone i o ho
    simp only [drawOne, Bool.and_eq_true] at h1
    have h2 := List.all_eq_true.1 h1.1.1.2 t ht
    have hlt : j < ops.size := (Array.getElem?_eq_some_iff.1 hj).1
    have h3 := List.all_eq_true.1 h2 j (List.mem_range.2 hlt)
    simp only [hj, hd, BEq.rfl, Bool.not_true, Bool.false_or, Array.any_eq_true', Bool.and_eq_true, beq_iff_eq] at h3
    omega
  · have hlt : ∀ (i j : Nat) (o oj : Oper) (d : Nat), ops[i]? = some o → ops[j]? = some oj → o.dst = some d → oj.dst = some d → j < i → False := by
      intro i j o oj d ho hj hd hd' hji
      have h1 := hone i o ho
      simp only [drawOne, Bool.and_eq_true] at h1
      grind
    grind
  · intro listed hdown i j o oj ho hj hci hcj hji hi
    have h1 := hone i o ho
    simp only [drawOne, Bool.and_eq_true] at h1
    have h2 := List.all_eq_true.1 h1.1.2 j (List.mem_range.2 hji)
    simp only [hj, hci, hcj, Bool.and_true, Bool.not_true, Bool.false_or, Bool.and_eq_true] at h2
    exact hcl listed hdown i o j ho hji h2.2 hi

theorem ahead_of (hs : Static ops) : ∀ (n : Nat) (l : List Oper), ops.toList.drop n = l → Ahead (ops := ops) l := by
  intro n l
  induction l generalizing n with
  | nil => intro _; trivial
  | cons o rest ih =>
    intro hl
    have hat : ∀ i, ops[n + i]? = (o :: rest)[i]? := by
      grind
    have ho : ops[n]? = some o := by have := hat 0; simpa using this
    have hmem : ∀ t, t ∈ dstsOf (o :: rest) → ∃ i oj, ops[n + i]? = some oj ∧ oj.dst = some t := by
      intro t ht
      simp only [dstsOf, List.mem_filterMap] at ht
      obtain ⟨oj, hm, hd⟩ := ht
      obtain ⟨i, hi, rfl⟩ := List.getElem_of_mem hm
      exact ⟨i, _, by grind, hd⟩
    refine ⟨?_, ?_, ih (n + 1) ?_⟩
    · intro t ht hin
      obtain ⟨i, oj, hj, hd⟩ := hmem t hin
      obtain ⟨e, he, hb, hon⟩ := hs.look n o t (n + i) oj ho ht hj hd
      have := hs.edge n o e ho he hb
      omega
    · intro d hd hin
      simp [dstsOf] at hin
      obtain ⟨oj, hm, hd'⟩ := hin
      obtain ⟨i, hi, rfl⟩ := List.getElem_of_mem hm
      have hj : ops[n + (i + 1)]? = some rest[i] := by simp_all
      have := hs.dist n (n + (i + 1)) o _ d ho hj hd hd'
      omega
    grind [List.tail_drop]
end

section
variable {Γ : Sig} {P : Program} {G : Nat → Option (List V)} {S : Specs Γ} {w0 : World} {F0 : Blk → Prop} {O0 : Lent} {ops : Array Oper} {e' : Env Γ.St} {sts : Nat → Γ.St}

/-- Nobody that is still to come writes temporary t. -/
def Known (ops : Array Oper) (listed : Array Bool) (t : Nat) : Prop := ∀ (i : Nat) (o : Oper), ops[i]? = some o → listed.getD i true = false → o.dst ≠ some t

structure PInv (Γ : Sig) (G : Nat → Option (List V)) (w0 : World) (F0 : Blk → Prop) (O0 : Lent) (ops : Array Oper) (e' : Env Γ.St) (sts : Nat → Γ.St) (listed : Array Bool) (a : Act) (w : World)
    (F : Blk → Prop) (O : Nat → Prop) (β : Lay) (al : Site → Prop) (m : Nat) : Prop where
  core : Core Γ w0 F0 O0 w F O β al (sts m)
  g : GRel G w F
  size : a.tmps.size = e'.tm.length
  defers : a.defers = []
  tm : ∀ t, Known ops listed t → TRel w F β al (a.tmps.getD t undef) (e'.get t)
  var : ∀ s cs, e'.var s = some cs → al (.v s) → VarRel w F β al (β.vb s) cs
  lp : ∀ s, al (.v s) → ∃ cs, e'.var s = some cs
  vk : ∀ s cs, e'.var s = some cs → Known ops listed s → al (.v s)
  fresh : ∀ (i : Nat) (o : Oper) (d : Nat), ops[i]? = some o → listed.getD i true = false → o.dst = some d → ¬ al (.v d) ∧ ¬ al (.o d)
  mle : m ≤ ops.size
  calls : ∀ (i : Nat) (o : Oper), ops[i]? = some o → isCall o = true → (listed.getD i true = true ↔ i < m)

theorem wanted_eq {w : World} {F : Blk → Prop} {β : Lay} {al : Site → Prop} {a : Act} {o : Oper} {b : Bool} (ht : ∀ t, t ∈ o.looksAt ops → TRel w F β al (a.tmps.getD t undef) (e'.get t)) (hsz : a.tmps.size = e'.tm.length)
    (h : wantedV ops e' o = some b) : Region.wanted o (yielded ops a.tmps) = b := by
  unfold wantedV at h
  unfold Region.wanted
  cases hg : o.guard with
  | none => grind
  | some gw =>
    obtain ⟨j, want⟩ := gw
    simp only [hg] at h ⊢
    unfold yielded
    cases hd : (ops[j]?).bind (·.dst) with
    | none => grind
    | some t =>
      simp only [hd] at h
      have hr := ht t (by simp [Oper.looksAt, hg, hd])
      split at h
      · rename_i b0 hb0
        split at h
        · rename_i hlt
          rw [hb0] at hr
          have hv := Rd.eq_val hr
          simp_all
        · cases h
      · rename_i vs hvs
        rw [hvs] at hr
        have hv := Rd.eq_val hr
        cases h
        rw [Array.getD_eq_getD_getElem?] at hv
        grind
      · cases h

theorem getD_set (listed : Array Bool) (i j : Nat) (hi : i < listed.size) : (listed.setIfInBounds i true).getD j true = if j = i then true else listed.getD j true := by
  simp only [Array.getD_eq_getD_getElem?]
  grind

theorem getD_tf {listed : Array Bool} {i : Nat} (hi : i < listed.size) : listed.getD i false = listed.getD i true := by
  grind

theorem pinv_step (hst : Static ops) (hS : Table Γ P G S)
    (hsteps : ∀ (i : Nat) (o : Oper), ops[i]? = some o → StepAt P G S ops e' (sts i) o (sts (i + 1)))
    {listed : Array Bool} {a : Act} {w : World} {F : Blk → Prop} {O : Nat → Prop} {β : Lay} {al : Site → Prop} {m : Nat} (hp : PInv Γ G w0 F0 O0 ops e' sts listed a w F O β al m)
    (hls : listed.size = ops.size)
    (hdown : ∀ (i : Nat) (o : Oper) (e : Edge), ops[i]? = some o → listed.getD i true = true → e ∈ o.after → Region.binds .any e = true → listed.getD e.on true = true)
    {i : Nat} {o : Oper} (ho : ops[i]? = some o) (hun : listed.getD i true = false) (hdeps : ∀ e, e ∈ o.after → Region.binds .any e = true → listed.getD e.on true = true)
    {K : Act → World → Prop} {Q : Exit → Act → World → Prop}
    (hK : ∀ a' w' F' O' β' al' m', PInv Γ G w0 F0 O0 ops e' sts (listed.setIfInBounds i true) a' w' F' O' β' al' m' → K a' w') : wpOp P ops Q i K a w := by
  have hin : i < listed.size := by grind
  have hlk : ∀ t, t ∈ o.looksAt ops → Known ops listed t := by
    intro t ht j oj hj hjl hd
    obtain ⟨e, he, hb, hon⟩ := hst.look i o t j oj ho ht hj hd
    grind
  have hkn : ∀ t, Known ops (listed.setIfInBounds i true) t → o.dst ≠ some t → Known ops listed t := by
    intro t ht hne j oj hj hjl
    by_cases hji : j = i
    · grind
    · exact ht j oj hj (by rw [getD_set _ _ _ hin, if_neg hji]; exact hjl)
  have hnd : ∀ t, o.dst = some t → ∀ j oj, ops[j]? = some oj → (listed.setIfInBounds i true).getD j true = false → oj.dst ≠ some t := by
    intro t ht j oj hj hjl hd
    have := hst.dist i j o oj t ho hj ht hd
    simp_all
  have hrest : ∀ j oj d, ops[j]? = some oj → (listed.setIfInBounds i true).getD j true = false → oj.dst = some d → j ≠ i ∧ listed.getD j true = false := by
    intro j oj d hj hjl hd
    by_cases hji : j = i
    · grind
    · rw [getD_set _ _ _ hin, if_neg hji] at hjl; grind
  have hcl : ∀ (isC : Bool), isCall o = isC → ∃ m', (∀ j oj, ops[j]? = some oj → isCall oj = true → ((listed.setIfInBounds i true).getD j true = true ↔ j < m')) ∧ m' ≤ ops.size ∧
      (isC = false → m' = m) ∧ (isC = true → m' = i + 1 ∧ m ≤ i ∧ ∀ j oj, m ≤ j → j < i → ops[j]? = some oj → isCall oj = false) := by
    intro isC hc
    cases isC with
    | false =>
      refine ⟨m, ?_, hp.mle, fun _ => rfl, fun h => by cases h⟩
      intro j oj hj hcj
      have hji : j ≠ i := fun hh => by grind
      rw [getD_set _ _ _ hin, if_neg hji]; exact hp.calls j oj hj hcj
    | true =>
      have hmi : m ≤ i := by
        rcases Nat.lt_or_ge i m with h | h
        · have := (hp.calls i o ho hc).2 h; grind
        · exact h
      refine ⟨i + 1, ?_, by omega, (fun h => by cases h), fun _ => ⟨rfl, hmi, ?_⟩⟩
      · intro j oj hj hcj
        rw [getD_set _ _ _ hin]
        constructor
        · intro h
          by_cases hji : j = i
          · omega
          · rw [if_neg hji] at h
            rcases Nat.lt_or_ge j i with h' | h'
            · omega
            · exfalso
              have := hst.call (fun k => listed.getD k true = true) hdown j i oj o hj ho hcj hc (by omega) h
              grind
        · intro h
          by_cases hji : j = i
          · rw [if_pos hji]
          · rw [if_neg hji]
            have h1 := hst.call (fun k => (listed.setIfInBounds i true).getD k true = true) (by
              intro i' o' e hi' hl' he hb
              rw [getD_set _ _ _ hin] at hl' ⊢
              grind) i j o oj ho hj hc hcj (by omega) (by rw [getD_set _ _ _ hin, if_pos rfl])
            rw [getD_set _ _ _ hin, if_neg hji] at h1; exact h1
      · intro j oj hmj hji hj
        cases hcj : isCall oj with
        | false => rfl
        | true =>
          exfalso
          have h1 := hst.call (fun k => (listed.setIfInBounds i true).getD k true = true) (by
              intro i' o' e hi' hl' he hb
              rw [getD_set _ _ _ hin] at hl' ⊢
              grind) i j o oj ho hj hc hcj hji (by rw [getD_set _ _ _ hin, if_pos rfl])
          rw [getD_set _ _ _ hin, if_neg (by omega)] at h1
          have := (hp.calls j oj hj hcj).1 h1
          omega
  unfold wpOp
  simp only [ho]
  rcases hsteps i o ho with ⟨hw, r, hev, hst', hneeds, hdst⟩ | ⟨hw, hst', hdst⟩
  · rw [wanted_eq (fun t ht => hp.tm t (hlk t ht)) hp.size hw, if_pos rfl]
    refine .inl ?_
    have hops : ∀ x, x ∈ o.op.operands → TRel w F β al (a.eval x) (evx G ({ e' with st := sts i } : Env Γ.St) x) := by
      intro x hx
      cases x with
      | tmp t => exact hp.tm t (hlk t (List.mem_append_left _ (List.mem_filterMap.2 ⟨.tmp t, by simpa using hx, rfl⟩)))
      | const v => exact rd_ofVal w F v
      | global g =>
        simp [evx, Act.eval]
        split
        · rename_i cs hg; exact hp.g g cs hg
        · exact Rd.val _
      | func f => exact Rd.clo f #[] [] rfl (fun i x d h => by simp at h)
    have hsim := evQ_sim (e := { e' with st := sts i }) hS hp.core.sig (fun s cs hcs ha => hp.var s cs hcs ha) hops hev
    have hpl : ∀ x, al x → β.blk x < w.heap.size ∧ ¬ O (β.blk x) := fun x hx => ⟨(hp.core.place x hx).2.1, (hp.core.place x hx).2.2.2⟩
    obtain ⟨m', hcalls', hm', hmf, hmt⟩ := hcl (isCall o) rfl
    have hstm : OpSim Γ P S o a w F β al al (sts m) r ∧ resSt (sts m) r = sts m' := by
      cases hc : isCall o with
      | false =>
        have hrc := evQ_nc hev hc
        rw [hmf hc]
        refine ⟨?_, st_of_nocall hrc _⟩
        cases r with
        | call _ _ _ => cases hrc
        | _ => exact hsim
      | true =>
        obtain ⟨h1, h2, h3⟩ := hmt hc
        have heq : ∀ k, m + k ≤ i → sts (m + k) = sts m := by
          intro k
          induction k with
          | zero => intro _; rfl
          | succ k ih =>
            intro hk
            have hlt : m + k < ops.size := by omega
            have hj : ops[m + k]? = some ops[m + k] := by simp [hlt]
            have hnc := h3 (m + k) _ (by omega) (by omega) hj
            rw [← ih (by omega)]
            rcases hsteps (m + k) _ hj with ⟨_, r', hev', hst'', _, _⟩ | ⟨_, hst'', _⟩
            all_goals grind [Nat.add_assoc, st_of_nocall, evQ_nc]
        have hii : sts i = sts m := by grind [Nat.add_sub_cancel']
        grind
    refine opSim_wp hS hp.g hp.core hpl hstm.1 (d := o.dst.getD 0) (fun hn => by grind) (fun hn => ?_) ?_
    · obtain ⟨d, hd, hdL⟩ := hneeds hn
      have := hp.fresh i o d ho hun hd
      grind
    · intro v w' F' O' β' al' haf
      have hst2 := hstm.2
      refine hK _ _ F' O' β' al' m' ⟨by rw [← hst2]; exact haf.core, hp.g.ext haf.ext, ?_, ?_, ?_, ?_, ?_, ?_, ?_, hm', hcalls'⟩
      · cases hd : o.dst <;> simp [Act.put, hp.size]
      · cases hd : o.dst <;> exact hp.defers
      · intro t ht
        cases hd : o.dst with
        | none =>
          exact (hp.tm t (hkn t ht (by rw [hd]; simp))).ext haf.ext
        | some d =>
          rw [tmps_put]
          split
          · rename_i htd
            obtain ⟨rfl, hlt⟩ := htd
            have := (hdst t hd).1 (hp.size ▸ hlt)
            rw [this]
            have hres := haf.res
            grind
          · rename_i htd
            by_cases htd' : t = d
            · have hge : ¬ d < a.tmps.size := fun hh => htd ⟨htd', hh⟩
              have : e'.get t = .dead := by
                simp [Env.get]
                rw [List.getElem?_eq_none (by rw [← hp.size, htd']; omega)]; rfl
              rw [this]; trivial
            · exact (hp.tm t (hkn t ht (by grind))).ext haf.ext
      · intro s cs hcs hs
        rcases haf.new (.v s) hs with h | ⟨hn, ⟨heq, cs', hk⟩ | ⟨heq, _⟩⟩
        · have hb : β'.vb s = β.vb s := haf.ext.b (.v s) h
          rw [hb]
          exact (hp.var s cs hcs h).ext haf.ext (haf.ext.ha (.v s) h)
        · obtain ⟨d, hd, hdL⟩ := hneeds hn
          simp [hd] at heq
          subst heq
          have h1 := (hdst s hd).2.1 cs' hk
          rw [hcs] at h1
          cases h1
          have := haf.var cs hk
          grind
        · cases heq
      · intro s hs
        rcases haf.new (.v s) hs with h | ⟨hn, ⟨heq, cs', hk⟩ | ⟨heq, _⟩⟩
        · exact hp.lp s h
        all_goals grind
      · intro s cs hcs hks
        by_cases hd : o.dst = some s
        · by_cases hv : ∃ cs', r = .var cs'
          · obtain ⟨cs', hk⟩ := hv
            have := (haf.var cs' hk).1
            grind
          grind
        · exact haf.ext.a _ (hp.vk s cs hcs (hkn s hks hd))
      · intro j oj d hj hjl hd
        obtain ⟨hji, hjl'⟩ := hrest j oj d hj hjl hd
        have hf := hp.fresh j oj d hj hjl' hd
        have hne : ∀ d', o.dst = some d' → d' ≠ d := fun d' hd' hh => by
          grind
        refine ⟨fun hh => ?_, fun hh => ?_⟩
        · rcases haf.new _ hh with h | ⟨hn, ⟨heq, _⟩ | ⟨heq, _⟩⟩
          · exact hf.1 h
          · obtain ⟨d', hd', hdL⟩ := hneeds hn
            grind
          · cases heq
        · rcases haf.new _ hh with h | ⟨hn, ⟨heq, _⟩ | ⟨heq, _⟩⟩
          · exact hf.2 h
          · cases heq
          · obtain ⟨d', hd', hdL⟩ := hneeds hn
            grind
  · rw [wanted_eq (fun t ht => hp.tm t (hlk t ht)) hp.size hw]
    simp only [Bool.false_eq_true, if_false]
    -- not carried out
    have hm' : ∃ m', (∀ j oj, ops[j]? = some oj → isCall oj = true → ((listed.setIfInBounds i true).getD j true = true ↔ j < m')) ∧ m' ≤ ops.size ∧ sts m' = sts m := by
      obtain ⟨m', h1, h2, h3, h4⟩ := hcl (isCall o) rfl
      refine ⟨m', h1, h2, ?_⟩
      cases hc : isCall o with
      | false => rw [h3 hc]
      | true =>
        obtain ⟨g1, g2, g3⟩ := h4 hc
        have heq : ∀ k, m + k ≤ i → sts (m + k) = sts m := by
          intro k
          induction k with
          | zero => intro _; rfl
          | succ k ih =>
            intro hk
            have hlt : m + k < ops.size := by omega
            have hj : ops[m + k]? = some ops[m + k] := by simp [hlt]
            have hnc := g3 (m + k) _ (by omega) (by omega) hj
            rw [← ih (by omega)]
            rcases hsteps (m + k) _ hj with ⟨_, r', hev', hst'', _, _⟩ | ⟨_, hst'', _⟩
            all_goals grind [Nat.add_assoc, st_of_nocall, evQ_nc]
        grind [Nat.add_sub_cancel']
    obtain ⟨m', hcalls', hmle', hstm⟩ := hm'
    refine hK _ _ F O β al m' ⟨by rw [hstm]; exact hp.core, hp.g, ?_, ?_, ?_, hp.var, hp.lp, ?_, ?_, hmle', hcalls'⟩
    · cases hd : o.dst <;> simp [Act.put, hp.size]
    · cases hd : o.dst <;> exact hp.defers
    · intro t ht
      cases hd : o.dst with
      | none => exact hp.tm t (hkn t ht (by rw [hd]; simp))
      | some d =>
        rw [tmps_put]
        split
        · rename_i htd
          obtain ⟨rfl, hlt⟩ := htd
          rw [(hdst t hd).1 (hp.size ▸ hlt)]
          exact Rd.val _
        · rename_i htd
          by_cases htd' : t = d
          · have hge : ¬ d < a.tmps.size := fun hh => htd ⟨htd', hh⟩
            have : e'.get t = .dead := by
              simp [Env.get]
              rw [List.getElem?_eq_none (by rw [← hp.size, htd']; omega)]; rfl
            rw [this]; trivial
          · exact hp.tm t (hkn t ht (by grind))
    · intro s cs hcs hks
      by_cases hd : o.dst = some s
      · grind
      · exact hp.vk s cs hcs (hkn s hks hd)
    · intro j oj d hj hjl hd
      obtain ⟨hji, hjl'⟩ := hrest j oj d hj hjl hd
      exact hp.fresh j oj d hj hjl' hd

end
end Go.Ve

namespace Go.Ve
open Go

section
variable {Γ : Sig} {P : Program} {G : Nat → Option (List V)} {S : Specs Γ} {w0 : World} {F0 : Blk → Prop} {O0 : Lent} {ops : Array Oper} {a : Act} {w : World} {e e' : Env Γ.St} {sts : Nat → Γ.St}

theorem Inv.kill (h : Inv Γ G w0 F0 O0 a w e) (d : Nat) : Inv Γ G w0 F0 O0 a w (e.kill d) := by
  obtain ⟨F, O, β, hc, hG, hsz, hdf, ht, hv⟩ := h
  refine Inv.of (al := alm d (alive e)) (hc.anti (fun x hx => hx.1)) hG (by grind [Env.kill]) hdf (fun t => by grind [get_map, TRel.kill]) ?_ ?_
  · intro s cs hcs
    rw [var_kill] at hcs
    split at hcs
    · cases hcs
    · rename_i hne
      simp at hcs
      obtain ⟨cs0, hcs0, rfl⟩ := hcs
      exact ⟨⟨⟨cs0, hcs0⟩, by simpa using hne, by simp⟩, VarRel.kill (hv s cs0 hcs0)⟩
  · rintro s ⟨⟨cs, hcs⟩, hne, _⟩
    simp_all [var_kill]

def killAll (ds : List Nat) (e : Env Γ.St) : Env Γ.St := ds.foldl (fun e d => e.kill d) e

theorem killT_no {d : Nat} {x : T} : ¬ (killT d x).hasO d := by
  cases x <;> simp only [killT] <;> (try split) <;> simp_all [T.hasO]

theorem kill_alive (d : Nat) : ¬ alive (e.kill d) (.v d) ∧ ¬ alive (e.kill d) (.o d) := by
  refine ⟨?_, ?_⟩
  · rintro ⟨cs, hcs⟩; rw [var_kill, if_pos rfl] at hcs; cases hcs
  · rintro ⟨x, hx, hid⟩
    rcases hx with hx | ⟨s, cs, hcs, hx⟩
    · simp [Env.kill] at hx
      obtain ⟨y, _, rfl⟩ := hx
      exact killT_no hid
    · rw [var_kill] at hcs
      split at hcs
      · cases hcs
      · simp at hcs
        obtain ⟨cs0, _, rfl⟩ := hcs
        simp at hx
        obtain ⟨y, _, rfl⟩ := hx
        exact killT_no hid

theorem killT_has {d d' : Nat} {x : T} (h : (killT d x).hasO d') : x.hasO d' := by
  cases x <;> simp only [killT] at h <;> (try split at h) <;> simp_all [T.hasO]

theorem kill_anti (d : Nat) (x : Site) (h : alive (e.kill d) x) : alive e x := by
  cases x with
  | v s =>
    obtain ⟨cs, hcs⟩ := h
    rw [var_kill] at hcs
    split at hcs
    · cases hcs
    · simp at hcs
      obtain ⟨cs0, h0, _⟩ := hcs
      exact ⟨cs0, h0⟩
  | o id =>
    obtain ⟨x, hx, hid⟩ := h
    rcases hx with hx | ⟨s, cs, hcs, hx⟩
    · simp [Env.kill] at hx
      obtain ⟨y, hy, rfl⟩ := hx
      exact ⟨y, .inl hy, killT_has hid⟩
    · rw [var_kill] at hcs
      split at hcs
      · cases hcs
      · simp at hcs
        obtain ⟨cs0, h0, rfl⟩ := hcs
        simp at hx
        obtain ⟨y, hy, rfl⟩ := hx
        exact ⟨y, .inr ⟨s, cs0, h0, hy⟩, killT_has hid⟩

theorem killAll_anti : ∀ (ds : List Nat) (e : Env Γ.St) (x : Site), alive (killAll ds e) x → alive e x := by
  intro ds
  induction ds with
  | nil => intro e x h; exact h
  | cons d ds ih => intro e x h; exact kill_anti d x (ih (e.kill d) x h)

theorem killAll_alive : ∀ (ds : List Nat) (e : Env Γ.St) (d : Nat), d ∈ ds → ¬ alive (killAll ds e) (.v d) ∧ ¬ alive (killAll ds e) (.o d) := by
  intro ds
  induction ds with
  | nil => grind
  | cons d0 ds ih =>
    intro e d h
    rcases List.mem_cons.1 h with rfl | h
    · exact ⟨fun hh => (kill_alive d).1 (killAll_anti ds _ _ hh), fun hh => (kill_alive d).2 (killAll_anti ds _ _ hh)⟩
    · exact ih (e.kill d0) d h

theorem Inv.killAll : ∀ (ds : List Nat) (e : Env Γ.St), Inv Γ G w0 F0 O0 a w e → Inv Γ G w0 F0 O0 a w (Ve.killAll ds e) := by
  intro ds
  induction ds with
  | nil => intro e h; exact h
  | cons d ds ih => intro e h; exact ih (e.kill d) (h.kill d)

theorem Inv.drew (h : Inv Γ G w0 F0 O0 a w e) (n : Nat) (hn : w.drawn ≤ n) : Inv Γ G w0 F0 O0 a { w with drawn := n } e := by
  obtain ⟨F, O, β, hc, hG, hsz, hdf, ht, hv⟩ := h
  have hext : Ext w F β (alive e) { w with drawn := n } F β (alive e) := ⟨fun _ h => h, fun _ _ => rfl, fun _ h => h, fun _ _ => rfl, fun _ _ => rfl⟩
  exact ⟨F, O, β, ⟨⟨hc.keep.os, hc.keep.tape, hc.keep.output, hc.keep.size, hc.keep.block, Nat.le_trans hc.keep.drawn hn⟩, Γ.mono hc.sig (fun _ _ => Iff.rfl) (fun _ _ => rfl) (fun _ _ h => ⟨h, rfl⟩), hc.oin, hc.fin, hc.f0, hc.place, hc.dist, hc.lent⟩, hG.ext hext, hsz, hdf,
    fun t => (ht t).ext hext, fun s cs hcs => (hv s cs hcs).ext hext rfl⟩

def evDraw (P : Look) (G : Nat → Option (List V)) (S : Specs Γ) (ops : Array Oper) (e : Env Γ.St) : Option (Env Γ.St) :=
  if drawOk ops then drawGo P G S ops ops.toList (killAll (dstsOf ops.toList) e) else none

end
end Go.Ve

namespace Go.Ve
open Go

def setBlk (w : World) (b : Nat) (ob : Obj) : World := { w with heap := w.heap.setIfInBounds b ob }

theorem setBlk_ne {w : World} {b b' : Nat} {ob : Obj} (h : b' ≠ b) : (setBlk w b ob).heap[b']? = w.heap[b']? := by
  simp_all [Ne.symm, setBlk]

theorem setBlk_eq {w : World} {b : Nat} {ob : Obj} (h : b < w.heap.size) : (setBlk w b ob).heap[b]? = some ob := by
  simp [setBlk, h]

theorem setBlk_size {w : World} {b : Nat} {ob : Obj} : (setBlk w b ob).heap.size = w.heap.size := by simp [setBlk]

theorem lt_of_block {w : World} {b : Nat} {ob : Obj} (h : w.heap[b]? = some ob) : b < w.heap.size := (Array.getElem?_eq_some_iff.1 h).1

theorem arr_ext {α : Type} {xs ys : Array α} (h : ∀ i : Nat, xs[i]? = ys[i]?) : xs = ys :=
  Array.ext' (List.ext_getElem? (fun i => by simpa using h i))

theorem setCell_setBlk {w : World} {b o : Nat} {c : Array Value} {et : TypeId} (h : w.heap[b]? = some (.cells c et (0, 0))) (v : Value) :
    w.setCell ⟨b, o, none⟩ v = setBlk w b (.cells (c.setIfInBounds o v) et (0, 0)) := by
  have hlt := lt_of_block h
  simp only [World.setCell, setBlk]
  congr 1
  grind

theorem setBlk_self {w : World} {b : Nat} {ob : Obj} (h : w.heap[b]? = some ob) : setBlk w b ob = w := by
  have hlt := lt_of_block h
  have : w.heap.setIfInBounds b ob = w.heap := by
    grind
  simp [setBlk, this]

theorem setBlk_setBlk {w : World} {b : Nat} {o1 o2 : Obj} : setBlk (setBlk w b o1) b o2 = setBlk w b o2 := by
  grind [Array.setIfInBounds_setIfInBounds, setBlk]

def spliceA (c : Array Value) (o : Nat) : List Value → Array Value
  | [] => c
  | v :: r => spliceA (c.setIfInBounds o v) (o + 1) r

theorem spliceA_size : ∀ (vs : List Value) (c : Array Value) (o : Nat), (spliceA c o vs).size = c.size := by
  intro vs
  induction vs with
  | nil => intro c o; rfl
  | cons v vs ih => grind [spliceA]

theorem spliceA_get : ∀ (vs : List Value) (c : Array Value) (o i : Nat), o + vs.length ≤ c.size → (spliceA c o vs)[i]? = if o ≤ i ∧ i < o + vs.length then vs[i - o]? else c[i]? := by
  intro vs
  induction vs with
  | nil => grind [spliceA]
  | cons v vs ih =>
    intro c o i h
    simp at h
    simp only [spliceA]
    grind

theorem run_storeCells {P : Program} {b off : Nat} {et : TypeId} : ∀ (vs : List Value) (i : Nat) (w : World) (c : Array Value), w.heap[b]? = some (.cells c et (0, 0)) → off + i + vs.length ≤ c.size →
    (∀ v, v ∈ vs → v.oneCell' = true) → (storeCells ⟨b, off, none⟩ vs i).run P w = .ok () (if vs = [] then w else setBlk w b (.cells (spliceA c (off + i) vs) et (0, 0))) := by
  intro vs
  induction vs with
  | nil => simp_all [storeCells]
  | cons v vs ih =>
    intro i w c hb hle hone
    simp at hle
    have hcell : w.cell? ⟨b, off + i, none⟩ = some c[off + i] := by grind [World.cell?]
    have hfr : w.frozen? ⟨b, off + i, none⟩ = false := by simp [World.frozen?, hb]
    have hlt := lt_of_block hb
    simp only [storeCells, Sem.run_bind, add_eq, run_store P w _ v _ (hone v (by simp)), hcell, hfr, Bool.false_eq_true, if_false, Result.andThen_ok]
    rw [setCell_setBlk hb]
    rw [ih (i + 1) _ (c.setIfInBounds (off + i) v) (setBlk_eq hlt) (by simp; omega) (fun u hu => hone u (List.mem_cons_of_mem _ hu))]
    simp only [reduceCtorEq, if_false]
    cases vs with
    | nil => simp [spliceA]
    | cons u vs =>
      simp only [reduceCtorEq, if_false, setBlk_setBlk]
      rfl

section
variable {w : World} {F : Blk → Prop} {β : Lay} {al : Site → Prop}

theorem Rd.setBlk {b : Nat} {ob : Obj} (hF : ∀ b' : Nat, F b' → b' ≠ b) {v : Value} {d : V} (h : Rd w F v d) : Rd (Ve.setBlk w b ob) F v d :=
  h.mono (fun _ h => h) (fun b' hb => setBlk_ne (hF b' hb))

theorem RowRel.setBlk {b b0 k cap : Nat} {ob : Obj} (hF : ∀ b' : Nat, F b' → b' ≠ b) (hne : b0 ≠ b) {es : List V} (h : RowRel w F b0 k cap es) : RowRel (Ve.setBlk w b ob) F b0 k cap es :=
  h.mono (fun _ h => h) (fun b' hb => setBlk_ne (hF b' hb)) (setBlk_ne hne)

/-- Writing into a block that is none of the frame's own slices. -/
theorem TRel.setVar {b : Nat} {ob : Obj} (hF : ∀ b' : Nat, F b' → b' ≠ b) (ho : ∀ id, al (.o id) → β.ob id ≠ b) {v : Value} {x : T} (h : TRel w F β al v x) : TRel (Ve.setBlk w b ob) F β al v x := by
  cases x with
  | p d => exact Rd.setBlk hF h
  | ow id k es => obtain ⟨ha, cap, hv, hr⟩ := h; exact ⟨ha, cap, hv, hr.setBlk hF (ho id ha)⟩
  | oe id k es i off => obtain ⟨ha, hi, cap, hv, hr⟩ := h; exact ⟨ha, hi, cap, hv, hr.setBlk hF (ho id ha)⟩
  | lp s off => exact h
  | mp id es ck => obtain ⟨ha, hv, hr⟩ := h; exact ⟨ha, hv, (setBlk_ne (ho id ha)).trans hr⟩
  | ot id t xs =>
    rcases h with h | ⟨hne, ha, cap, hv, hr⟩
    · exact .inl h
    · exact .inr ⟨hne, ha, cap, hv, hr.setBlk hF (ho id ha)⟩
  | oet id t xs i off => obtain ⟨ha, hi, cap, hv, hr⟩ := h; exact ⟨ha, hi, cap, hv, hr.setBlk hF (ho id ha)⟩
  | ov id t xs lo hi =>
    rcases h with h | ⟨hne, ha, h1, h2, cap, hv, hr⟩
    · exact .inl h
    · exact .inr ⟨hne, ha, h1, h2, cap, hv, hr.setBlk hF (ho id ha)⟩
  | on n => exact NRel.mono h (fun _ h => h) (fun b' hb => setBlk_ne (hF b' hb)) h.1 h.2.1 rfl rfl (setBlk_ne (ho n.id h.1)) (setBlk_ne (ho n.id2 h.2.1))
  | emp => exact h
  | dead => trivial
end

def V.one : V → Bool
  | .val (.agg _) => false
  | .val (.tuple _) => false
  | .agg _ => false
  | .tup _ => false
  | _ => true

/-- The cells of what is stored. -/
def T.cellsT : T → Option (List T)
  | .p d => if d.cells.all V.one then some (d.cells.map .p) else none
  | .dead => none
  | x => some [x]

def spliceT (cs : List T) (o : Nat) : List T → List T
  | [] => cs
  | x :: r => spliceT (cs.set o x) (o + 1) r

theorem spliceT_len : ∀ (xs cs : List T) (o : Nat), (spliceT cs o xs).length = cs.length := by
  intro xs
  induction xs with
  | nil => intro cs o; rfl
  | cons x xs ih => grind [spliceT]

theorem spliceT_get : ∀ (xs cs : List T) (o i : Nat), o + xs.length ≤ cs.length → (spliceT cs o xs)[i]? = if o ≤ i ∧ i < o + xs.length then xs[i - o]? else cs[i]? := by
  intro xs
  induction xs with
  | nil => grind [spliceT]
  | cons x xs ih =>
    intro cs o i h
    simp at h
    simp only [spliceT]
    grind

section
variable {w : World} {F : Blk → Prop} {β : Lay} {al : Site → Prop}

theorem one_of_rd {v : Value} {d : V} (h : Rd w F v d) (hd : d.one = true) : v.oneCell' = true := by
  cases h with
  | val => cases v <;> simp_all [V.one, Value.oneCell']
  | agg => simp [V.one] at hd
  | tup => simp [V.one] at hd
  | tl t xs v h0 => obtain ⟨a0, cap0, rfl, _⟩ := rd_sl_len h0; rfl
  | _ => rfl

theorem cellsT_sim {v : Value} {x : T} {xs : List T} (h : TRel w F β al v x) (hx : x.cellsT = some xs) : v.cells.size = xs.length ∧ (∀ u, u ∈ v.cells → u.oneCell' = true) ∧
    ∀ (i : Nat) (u : Value) (y : T), v.cells[i]? = some u → xs[i]? = some y → TRel w F β al u y := by
  have hone : ∀ y, xs = [y] → TRel w F β al v y → v.cells = #[v] → v.oneCell' = true → v.cells.size = xs.length ∧ (∀ u, u ∈ v.cells → u.oneCell' = true) ∧
      ∀ (i : Nat) (u : Value) (y : T), v.cells[i]? = some u → xs[i]? = some y → TRel w F β al u y := by
    grind
  cases x with
  | p d =>
    simp only [T.cellsT] at hx
    split at hx
    · rename_i hall
      cases hx
      have hleaf : d.leafy = true := by
        cases d with
        | val u =>
          cases u with
          | agg cs => simp [V.cells, V.one] at hall
          | _ => rfl
        | _ => rfl
      obtain ⟨h1, h2⟩ := rd_cells h hleaf
      refine ⟨by simpa using h1, ?_, ?_⟩
      · intro u hu
        obtain ⟨i, hi, rfl⟩ := Array.getElem_of_mem hu
        have hi' : i < d.cells.length := by omega
        exact one_of_rd (h2 i _ _ (by simp [hi]) (by simp [hi'])) (List.all_eq_true.1 hall _ (List.getElem_mem hi'))
      · intro i u y hu hy
        simp at hy
        obtain ⟨z, hz, rfl⟩ := hy
        exact h2 i u z hu hz
    · cases hx
  | dead => simp [T.cellsT] at hx
  | ow id k es =>
    simp [T.cellsT] at hx
    obtain ⟨ha, cap, hv, hr⟩ := h
    exact hone _ hx.symm ⟨ha, cap, hv, hr⟩ (by rw [hv]; rfl) (by rw [hv]; rfl)
  | oe id k es i off =>
    simp [T.cellsT] at hx
    obtain ⟨ha, hi, cap, hv, hr⟩ := h
    exact hone _ hx.symm ⟨ha, hi, cap, hv, hr⟩ (by rw [hv]; rfl) (by rw [hv]; rfl)
  | lp s off =>
    simp [T.cellsT] at hx
    obtain ⟨ha, hv⟩ := h
    exact hone _ hx.symm ⟨ha, hv⟩ (by rw [hv]; rfl) (by rw [hv]; rfl)
  | mp id es ck =>
    simp [T.cellsT] at hx
    obtain ⟨ha, hv, hr⟩ := h
    exact hone _ hx.symm ⟨ha, hv, hr⟩ (by rw [hv]; rfl) (by rw [hv]; rfl)
  | ot id t xs =>
    simp [T.cellsT] at hx
    have h' := h
    rcases h with ⟨h0, a0, hv⟩ | ⟨hne, ha, cap, hv, hr⟩ <;> exact hone _ hx.symm h' (by rw [hv]; rfl) (by rw [hv]; rfl)
  | oet id t xs i off =>
    simp [T.cellsT] at hx
    obtain ⟨ha, hi, cap, hv, hr⟩ := h
    exact hone _ hx.symm ⟨ha, hi, cap, hv, hr⟩ (by rw [hv]; rfl) (by rw [hv]; rfl)
  | ov id t xs lo hi =>
    simp [T.cellsT] at hx
    have h' := h
    rcases h with ⟨_, _, _, a0, hv⟩ | ⟨_, _, _, _, cap, hv, hr⟩ <;> exact hone _ hx.symm h' (by rw [hv]; rfl) (by rw [hv]; rfl)
  | on n =>
    simp [T.cellsT] at hx
    rcases NRel.shape h with ⟨_, _, _, hv⟩ | ⟨_, hv⟩ <;> exact hone _ hx.symm h (by rw [hv]; rfl) (by rw [hv]; rfl)
  | emp =>
    simp [T.cellsT] at hx
    obtain ⟨a0, hv⟩ := h
    exact hone _ hx.symm ⟨a0, hv⟩ (by rw [hv]; rfl) (by rw [hv]; rfl)
end

section
variable {Γ : Sig} {P : Program} {G : Nat → Option (List V)} {S : Specs Γ} {o : Oper} {a : Act} {w0 : World} {F0 : Blk → Prop} {O0 : Lent} {w : World} {F : Blk → Prop} {O : Nat → Prop} {β : Lay} {al al' : Site → Prop} {st : Γ.St} {e e' : Env Γ.St}

theorem Core.setBlk (hc : Core Γ w0 F0 O0 w F O β al st) {x : Site} (hx : al x) (ob : Obj) (hob : ∀ c et fl, w.heap[β.blk x]? = some (.cells c et fl) → ∃ c' et' fl', ob = .cells c' et' fl' ∧ c'.size = c.size) : Core Γ w0 F0 O0 (Ve.setBlk w (β.blk x) ob) F O β al st := by
  obtain ⟨p1, p2, p3, p4⟩ := hc.place x hx
  refine ⟨⟨hc.keep.os, hc.keep.tape, hc.keep.output, by rw [setBlk_size]; exact hc.keep.size, ?_, hc.keep.drawn⟩, Γ.mono hc.sig (fun _ _ => Iff.rfl) (fun b hb => setBlk_ne (fun h => p4 (h ▸ hb))) (fun n _ hn => ⟨hn, setBlk_ne (fun h => p3 (h ▸ hn))⟩), hc.oin, ?_, hc.f0, ?_, hc.dist, ?_⟩
  · intro b hb ho
    rw [setBlk_ne (fun hh => ho (by rw [hh]; exact p1.old (by omega)))]; exact hc.keep.block b hb ho
  · intro b hb; rw [setBlk_size]; exact hc.fin b hb
  · intro y hy; rw [setBlk_size]; exact hc.place y hy
  · intro b n hb
    obtain ⟨h1, h2, h3, c, et, fl, h4, h5⟩ := hc.lent b n hb
    grind [setBlk_eq, setBlk_ne]

/-- A store into a variable of the frame's own. -/
def evStoreV (e : Env Γ.St) (P : Look) (t : TypeId) (s off : Nat) (x : T) : Option (Env Γ.St) :=
  match e.var s, x.cellsT with
  | some cs, some xs => if size? P t = some xs.length ∧ off + xs.length ≤ cs.length ∧ s < e.vars.length then some { e with vars := e.vars.set s (some (spliceT cs off xs)) } else none
  | _, _ => none

theorem storeV_sim (hi : Inv Γ G w0 F0 O0 a w e) {t : TypeId} {s off : Nat} {x : T} {ap xv : Operand} (hp : evx G e ap = .lp s off) (hx : evx G e xv = x) (h : evStoreV e P t s off x = some e') :
    ∃ w', (Instr.storeAt t (a.eval ap) (a.eval xv)).run P w = .ok () w' ∧ Inv Γ G w0 F0 O0 a w' e' := by
  obtain ⟨F, O, β, hc, hG, hsz, hdf, ht, hv⟩ := hi
  have hpt := evx_sim hG ht ap
  have hxt := evx_sim hG ht xv
  rw [hp] at hpt
  rw [hx] at hxt
  obtain ⟨ha, hpv⟩ := hpt
  unfold evStoreV at h
  split at h
  · rename_i cs xs hcs hxs
    split at h
    · rename_i hcond
      obtain ⟨hsize, hfit, hsl⟩ := hcond
      cases h
      obtain ⟨h1, h2, h3⟩ := cellsT_sim hxt hxs
      obtain ⟨c, et, g1, g2, g3⟩ := hv s cs hcs
      have hrun : (Instr.storeAt t (a.eval ap) (a.eval xv)).run P w = .ok () (if (a.eval xv).cells.toList = [] then w else setBlk w (β.vb s) (.cells (spliceA c (off + 0) (a.eval xv).cells.toList) et (0, 0))) := by
        have hst := run_storeCells (P := P) (b := β.vb s) (off := off) (et := et) (a.eval xv).cells.toList 0 w c g1 (by simp [h1]; omega) (fun u hu => h2 u (by simpa using hu))
        simp only [Instr.storeAt, hpv, Instr.sureAddr, Sem.run_bind, Sem.run_pure, Result.andThen_ok, storeVar, run_sizeOf hsize, h1, ne_eq, not_true, if_false]
        simpa using hst
      have hw' : (if (a.eval xv).cells.toList = [] then w else setBlk w (β.vb s) (.cells (spliceA c (off + 0) (a.eval xv).cells.toList) et (0, 0))) = setBlk w (β.vb s) (.cells (spliceA c off (a.eval xv).cells.toList) et (0, 0)) := by
        split
        · rename_i hnil
          rw [hnil]
          exact (setBlk_self g1).symm
        · simp
      rw [hw'] at hrun
      refine ⟨_, hrun, ?_⟩
      obtain ⟨p1, p2, p3, p4⟩ := hc.place (.v s) ha
      have hFne : ∀ b' : Nat, F b' → b' ≠ β.vb s := fun b' hb hh => p3 (by rw [hh] at hb; exact hb)
      have hone : ∀ id, alive e (.o id) → β.ob id ≠ β.vb s := fun id hid hh => by
        have := hc.dist (.o id) (.v s) hid ha hh
        cases this
      refine Inv.of (al := alive e) (hc.setBlk ha _ (fun c' et' fl' hh => by rw [show w.heap[β.blk (.v s)]? = _ from g1] at hh; simp at hh; exact ⟨_, _, _, rfl, by rw [spliceA_size, hh.1]⟩)) (fun g cs hg => (hG g cs hg).setBlk hFne) hsz hdf (fun t => (ht t).setVar hFne hone) ?_ ?_
      · intro s' cs' hcs'
        have hvar : ({ e with vars := e.vars.set s (some (spliceT cs off xs)) } : Env Γ.St).var s' = if s' = s then some (spliceT cs off xs) else e.var s' := by
          simp only [Env.var]
          grind
        rw [hvar] at hcs'
        split at hcs'
        · rename_i hss
          subst hss
          cases hcs'
          refine ⟨ha, _, et, setBlk_eq p2, by rw [spliceA_size, spliceT_len]; exact g2, ?_⟩
          intro i u y hu hy
          rw [spliceA_get _ _ _ _ (by simp [h1]; omega)] at hu
          rw [spliceT_get _ _ _ _ (by omega)] at hy
          have hl : (a.eval xv).cells.toList.length = xs.length := by simpa using h1
          rw [hl] at hu
          split at hu
          · rename_i hin
            rw [if_pos hin] at hy
            exact (h3 _ u y (by simpa using hu) hy).setVar hFne hone
          · rename_i hin
            rw [if_neg hin] at hy
            exact (g3 i u y hu hy).setVar hFne hone
        · rename_i hss
          have ha' : alive e (.v s') := ⟨cs', hcs'⟩
          have hne : β.vb s' ≠ β.vb s := fun hh => by
            have := hc.dist (.v s') (.v s) ha' ha hh
            grind
          refine ⟨ha', ?_⟩
          obtain ⟨c', et', q1, q2, q3⟩ := hv s' cs' hcs'
          exact ⟨c', et', (setBlk_ne hne).trans q1, q2, fun i u y hu hy => (q3 i u y hu hy).setVar hFne hone⟩
      · intro s' hs'
        by_cases hss : s' = s
        · grind [spliceT, Env.var]
        · obtain ⟨cs', hcs'⟩ := hs'
          simp_all [Ne.symm, Env.var]
    · cases h
  · cases h
end
end Go.Ve

namespace Go.Ve
open Go

theorem growBy_le (n : Nat) : ∀ (r c : Nat), c < n → Builtin.growBy n r c ≤ 2 * n + 1024 := by
  intro r
  induction r with
  | zero => grind [Builtin.growBy]
  | succ r ih =>
    intro c h
    simp only [Builtin.growBy]
    rw [if_neg (by omega)]
    by_cases h2 : c + (c + 768) / 4 < n
    · exact ih _ h2
    · cases r with
      | zero => simp [Builtin.growBy]; omega
      | succ r => simp only [Builtin.growBy]; grind

theorem nextcap_le {n c : Nat} (h : c < n) : Builtin.nextslicecap n c ≤ 2 * n + 1024 := by
  grind [growBy_le, Builtin.nextslicecap]

section
variable {P : Program} {w : World}

/-- An append that finds room. -/
theorem run_append_room {at0 at1 : TypeId} {ts : Array TypeId} {ty el el1 : TypeId} {size b off len cap n cap1 : Nat} {a1 : Option Addr} {cells : List Value} {c : Array Value} {et : TypeId}
    (h0 : ts[0]? = some at0) (h1 : ts[1]? = some at1) (hu0 : P.underlying at0 = some (.slice el)) (hu1 : P.underlying at1 = some (.slice el1)) (hs : size? P el = some size)
    (hsrc : (Builtin.firstCells size n (.slice a1 n cap1)).run P w = .ok cells.toArray w) (hlen : cells.length = n * size)
    (hb : w.heap[b]? = some (.cells c et (0, 0))) (hfit : off + len * size + n * size ≤ c.size) (hone : ∀ v, v ∈ cells → v.oneCell' = true) (hroom : len + n ≤ cap) :
    (Builtin.append_ ts ty #[.slice (some ⟨b, off, none⟩) len cap, .slice a1 n cap1]).run P w =
      .ok (.slice (some ⟨b, off, none⟩) (len + n) cap) (setBlk w b (.cells (spliceA c (off + len * size) cells) et (0, 0))) := by
  have hst := run_storeCells (P := P) (b := b) (off := off + len * size) (et := et) cells 0 w c hb (by omega) hone
  have hw : (if cells = [] then w else setBlk w b (.cells (spliceA c (off + len * size + 0) cells) et (0, 0))) = setBlk w b (.cells (spliceA c (off + len * size) cells) et (0, 0)) := by
    split
    · rename_i hnil; rw [hnil]; exact (setBlk_self hb).symm
    · simp
  rw [hw] at hst
  simp only [Builtin.append_]
  simp [h0, h1, run_underlying? hu0, run_underlying? hu1, run_sizeOf hs, Builtin.lenOf, hroom, hsrc, add_eq, hst]

/-- An append that must grow. -/
theorem run_append_grow {at0 at1 : TypeId} {ts : Array TypeId} {ty el el1 : TypeId} {info : TypeInfo} {z : Value} {len cap n cap1 : Nat} {a0 a1 : Option Addr} {cells old : List Value}
    (h0 : ts[0]? = some at0) (h1 : ts[1]? = some at1) (hu0 : P.underlying at0 = some (.slice el)) (hu1 : P.underlying at1 = some (.slice el1)) (hi : P.info? el = some info) (hz : info.zero = some z)
    (hsrc : (Builtin.firstCells info.size n (.slice a1 n cap1)).run P w.drew = .ok cells.toArray w.drew)
    (hold : (Builtin.firstCells info.size len (.slice a0 len cap)).run P w.drew = .ok old.toArray w.drew)
    (hno : ¬ len + n ≤ cap) (hbytes : 1 ≤ info.bytes) (hbound : (2 * (len + n) + 1024) * info.bytes ≤ 140737488355328) :
    ∃ newCap : Nat, len + n ≤ newCap ∧ (Builtin.append_ ts ty #[.slice a0 len cap, .slice a1 n cap1]).run P w =
      .ok (.slice (some ⟨w.heap.size, 0, none⟩) (len + n) newCap) (w.drew.alloc (.cells (old.toArray ++ (cells.toArray ++ Builtin.zeroCells z.cells (newCap - (len + n)))) el)) := by
  have hs : size? P el = some info.size := size_of_info hi
  have hnc : Builtin.nextslicecap (len + n) cap * info.bytes ≤ 281474976710656 := by
    have := nextcap_le (n := len + n) (c := cap) (by omega)
    have := Nat.mul_le_mul_right info.bytes this
    omega
  refine ⟨(Question.appendCap (len + n) cap el).cut (w.tape w.drawn (.appendCap (len + n) cap el)), by simp [Question.cut], ?_⟩
  have hzv : (zeroValue el).run P w.drew = .ok z w.drew := by simp [zeroValue, run_typeInfo hi, hz]
  simp only [Builtin.append_]
  simp [h0, h1, run_underlying? hu0, run_underlying? hu1, run_sizeOf hs, Builtin.lenOf, hno, run_typeInfo hi, show ¬ info.bytes = 0 by omega, show ¬ 281474976710656 < Builtin.nextslicecap (len + n) cap * info.bytes by omega,
    Question.forced, hsrc, hold, hzv, newRow]

end
end Go.Ve

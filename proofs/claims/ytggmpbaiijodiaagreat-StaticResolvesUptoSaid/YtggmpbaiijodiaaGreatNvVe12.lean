/-
  The evaluator over pure values, part 12: a region that draws its order, in whatever order.
-/
import Derived.Test.YtggmpbaiijodiaaGreatNvVe11
namespace Go.Ve
open Go

def drawOne (ops : Array Oper) (anc : Array Nat) (i : Nat) (o : Oper) : Bool :=
  o.after.all (fun e => !Region.binds .any e || decide (e.on < i)) &&
  (o.looksAt ops).all (fun t => (List.range ops.size).all fun j => match ops[j]? with
    | some oj => !(oj.dst == some t) || o.after.any (fun e => Region.binds .any e && e.on == j)
    | none => true) &&
  (List.range i).all (fun j => match ops[j]? with
    | some oj => !(oj.dst.isSome && oj.dst == o.dst) && (!(isCall oj && isCall o) || (anc.getD i 0).testBit j)
    | none => true) &&
  (!isCall o || (List.range i).all fun j => !(anc.getD i 0).testBit j || o.after.any (fun e => Region.binds .any e && (e.on == j || (anc.getD e.on 0).testBit j)))

/-- The whole table of who comes behind whom holds of the edges. -/
def ancOk (ops : Array Oper) (anc : Array Nat) : Bool :=
  (List.range ops.size).all fun i => match ops[i]? with
    | some o => (List.range i).all fun j => !(anc.getD i 0).testBit j || o.after.any (fun e => Region.binds .any e && decide (e.on < i) && (e.on == j || (decide (j < e.on) && (anc.getD e.on 0).testBit j)))
    | none => true

def drawOk (ops : Array Oper) : Bool :=
  let anc := if (ops.toList.filter isCall).length ≤ 1 then #[] else Region.before ops
  ancOk ops anc && (List.range ops.size).all fun i => match ops[i]? with
    | some o => drawOne ops anc i o
    | none => true

section
variable {ops : Array Oper}

structure Static (ops : Array Oper) : Prop where
  edge : ∀ (i : Nat) (o : Oper) (e : Edge), ops[i]? = some o → e ∈ o.after → Region.binds .any e = true → e.on < i
  look : ∀ (i : Nat) (o : Oper) (t j : Nat) (oj : Oper), ops[i]? = some o → t ∈ o.looksAt ops → ops[j]? = some oj → oj.dst = some t → ∃ e, e ∈ o.after ∧ Region.binds .any e = true ∧ e.on = j
  dist : ∀ (i j : Nat) (o oj : Oper) (d : Nat), ops[i]? = some o → ops[j]? = some oj → o.dst = some d → oj.dst = some d → i = j
  call : ∀ (listed : Nat → Prop), (∀ (i : Nat) (o : Oper) (e : Edge), ops[i]? = some o → listed i → e ∈ o.after → Region.binds .any e = true → listed e.on) →
    ∀ (i j : Nat) (o oj : Oper), ops[i]? = some o → ops[j]? = some oj → isCall o = true → isCall oj = true → j < i → listed i → listed j

theorem static_of (h : drawOk ops = true) : Static ops := by
  unfold drawOk at h
  simp only [Bool.and_eq_true] at h
  obtain ⟨hanc, hall⟩ := h
  generalize (if (ops.toList.filter isCall).length ≤ 1 then #[] else Region.before ops) = anc at hanc hall
  have hone : ∀ i o, ops[i]? = some o → drawOne ops anc i o = true := by
    intro i o ho
    have hlt : i < ops.size := (Array.getElem?_eq_some_iff.1 ho).1
    have := List.all_eq_true.1 hall i (List.mem_range.2 hlt)
    simpa [ho] using this
  have hcl : ∀ (listed : Nat → Prop), (∀ (i : Nat) (o : Oper) (e : Edge), ops[i]? = some o → listed i → e ∈ o.after → Region.binds .any e = true → listed e.on) →
      ∀ (i : Nat) (o : Oper) (j : Nat), ops[i]? = some o → j < i → (anc.getD i 0).testBit j = true → listed i → listed j := by
    intro listed hdown i
    induction i using Nat.strongRecOn with
    | _ i ih =>
      intro o j ho hji hbit hi
      have hlt : i < ops.size := (Array.getElem?_eq_some_iff.1 ho).1
      have h1 := List.all_eq_true.1 hanc i (List.mem_range.2 hlt)
      simp only [ho] at h1
      have h2 := List.all_eq_true.1 h1 j (List.mem_range.2 hji)
      simp only [hbit, Bool.not_true, Bool.false_or, Array.any_eq_true', Bool.and_eq_true, Bool.or_eq_true, decide_eq_true_eq, beq_iff_eq] at h2
      obtain ⟨e, he, ⟨hb, hon⟩, hj⟩ := h2
      have hle := hdown i o e ho hi he hb
      rcases hj with rfl | ⟨hjlt, hbit'⟩
      · exact hle
      · have hlt' : e.on < ops.size := by omega
        exact ih e.on hon ops[e.on] j (by simp [hlt']) hjlt hbit' hle
  refine ⟨?_, ?_, ?_, ?_⟩
  · intro i o e ho he hb
    have h1 := hone i o ho
    simp only [drawOne, Bool.and_eq_true] at h1
    have h2 := Array.all_eq_true_iff_forall_mem.1 h1.1.1.1 e he
    simpa [hb] using h2
  · intro i o t j oj ho ht hj hd
    have h1 := hone i o ho
    simp only [drawOne, Bool.and_eq_true] at h1
    have h2 := List.all_eq_true.1 h1.1.1.2 t ht
    have hlt : j < ops.size := (Array.getElem?_eq_some_iff.1 hj).1
    have h3 := List.all_eq_true.1 h2 j (List.mem_range.2 hlt)
    simp only [hj, hd, BEq.rfl, Bool.not_true, Bool.false_or, Array.any_eq_true', Bool.and_eq_true, beq_iff_eq] at h3
    obtain ⟨e, he, hb, hon⟩ := h3
    exact ⟨e, he, hb, hon⟩
  · have hlt : ∀ (i j : Nat) (o oj : Oper) (d : Nat), ops[i]? = some o → ops[j]? = some oj → o.dst = some d → oj.dst = some d → j < i → False := by
      intro i j o oj d ho hj hd hd' hji
      have h1 := hone i o ho
      simp only [drawOne, Bool.and_eq_true] at h1
      have h2 := List.all_eq_true.1 h1.1.2 j (List.mem_range.2 hji)
      simp [hj, hd, hd'] at h2
    intro i j o oj d ho hj hd hd'
    rcases Nat.lt_trichotomy i j with h | h | h
    · exact (hlt j i oj o d hj ho hd' hd h).elim
    · exact h
    · exact (hlt i j o oj d ho hj hd hd' h).elim
  · intro listed hdown i j o oj ho hj hci hcj hji hi
    have h1 := hone i o ho
    simp only [drawOne, Bool.and_eq_true] at h1
    have h2 := List.all_eq_true.1 h1.1.2 j (List.mem_range.2 hji)
    simp only [hj, hci, hcj, Bool.and_true, Bool.not_true, Bool.false_or, Bool.and_eq_true] at h2
    exact hcl listed hdown i o j ho hji h2.2 hi

theorem ahead_of (hs : Static ops) : ∀ (n : Nat) (l : List Oper), ops.toList.drop n = l → Ahead (ops := ops) l := by
  intro n l
  induction l generalizing n with
  | nil => intro _; trivial
  | cons o rest ih =>
    intro hl
    have hat : ∀ i, ops[n + i]? = (o :: rest)[i]? := by
      intro i
      rw [← hl, List.getElem?_drop, Array.getElem?_toList]
    have ho : ops[n]? = some o := by have := hat 0; simpa using this
    have hmem : ∀ t, t ∈ dstsOf (o :: rest) → ∃ i oj, ops[n + i]? = some oj ∧ oj.dst = some t := by
      intro t ht
      simp only [dstsOf, List.mem_filterMap] at ht
      obtain ⟨oj, hm, hd⟩ := ht
      obtain ⟨i, hi, rfl⟩ := List.getElem_of_mem hm
      exact ⟨i, _, by rw [hat i, List.getElem?_eq_getElem hi], hd⟩
    refine ⟨?_, ?_, ih (n + 1) ?_⟩
    · intro t ht hin
      obtain ⟨i, oj, hj, hd⟩ := hmem t hin
      obtain ⟨e, he, hb, hon⟩ := hs.look n o t (n + i) oj ho ht hj hd
      have := hs.edge n o e ho he hb
      omega
    · intro d hd hin
      simp only [dstsOf, List.mem_filterMap] at hin
      obtain ⟨oj, hm, hd'⟩ := hin
      obtain ⟨i, hi, rfl⟩ := List.getElem_of_mem hm
      have hj : ops[n + (i + 1)]? = some rest[i] := by rw [hat (i + 1)]; simp [hi]
      have := hs.dist n (n + (i + 1)) o _ d ho hj hd hd'
      omega
    · rw [← List.tail_drop, hl]; rfl
end

section
variable {Γ : Sig} {P : Program} {G : Nat → Option (List V)} {S : Specs Γ} {w0 : World} {F0 O0 : Nat → Prop} {ops : Array Oper} {e' : Env Γ.St} {sts : Nat → Γ.St}

/-- Nobody that is still to come writes temporary t. -/
def Known (ops : Array Oper) (listed : Array Bool) (t : Nat) : Prop := ∀ (i : Nat) (o : Oper), ops[i]? = some o → listed.getD i true = false → o.dst ≠ some t

structure PInv (Γ : Sig) (G : Nat → Option (List V)) (w0 : World) (F0 O0 : Nat → Prop) (ops : Array Oper) (e' : Env Γ.St) (sts : Nat → Γ.St) (listed : Array Bool) (a : Act) (w : World)
    (F O : Nat → Prop) (β : Lay) (al : Site → Prop) (m : Nat) : Prop where
  core : Core Γ w0 F0 O0 w F O β al (sts m)
  g : GRel G w F
  size : a.tmps.size = e'.tm.length
  defers : a.defers = []
  tm : ∀ t, Known ops listed t → TRel w F β al (a.tmps.getD t undef) (e'.get t)
  var : ∀ s cs, e'.var s = some cs → al (.v s) → VarRel w F β al (β.vb s) cs
  lp : ∀ s, al (.v s) → ∃ cs, e'.var s = some cs
  vk : ∀ s cs, e'.var s = some cs → Known ops listed s → al (.v s)
  fresh : ∀ (i : Nat) (o : Oper) (d : Nat), ops[i]? = some o → listed.getD i true = false → o.dst = some d → ¬ al (.v d) ∧ ¬ al (.o d)
  mle : m ≤ ops.size
  calls : ∀ (i : Nat) (o : Oper), ops[i]? = some o → isCall o = true → (listed.getD i true = true ↔ i < m)

theorem wanted_eq {w : World} {F : Nat → Prop} {β : Lay} {al : Site → Prop} {a : Act} {o : Oper} {b : Bool} (ht : ∀ t, t ∈ o.looksAt ops → TRel w F β al (a.tmps.getD t undef) (e'.get t)) (hsz : a.tmps.size = e'.tm.length)
    (h : wantedV ops e' o = some b) : Region.wanted o (yielded ops a.tmps) = b := by
  unfold wantedV at h
  unfold Region.wanted
  cases hg : o.guard with
  | none => simp [hg] at h; simp [h]
  | some gw =>
    obtain ⟨j, want⟩ := gw
    simp only [hg] at h ⊢
    unfold yielded
    cases hd : (ops[j]?).bind (·.dst) with
    | none => simp [hd] at h; simp [h]
    | some t =>
      simp only [hd] at h
      have hr := ht t (by simp [Oper.looksAt, hg, hd])
      split at h
      · rename_i b0 hb0
        split at h
        · rename_i hlt
          rw [hb0] at hr
          have hv := Rd.eq_val hr
          have hlt' : t < a.tmps.size := hsz ▸ hlt
          have hget : a.tmps[t]? = some (.bool b0) := by
            rw [Array.getElem?_eq_getElem hlt']
            rw [Array.getD_eq_getD_getElem?, Array.getElem?_eq_getElem hlt', Option.getD_some] at hv
            rw [hv]
          simp only [Option.bind_some, hget]
          simp only [Option.some.injEq] at h
          rw [← h]; rfl
        · cases h
      · rename_i vs hvs
        rw [hvs] at hr
        have hv := Rd.eq_val hr
        simp only [Option.some.injEq] at h
        subst h
        rw [Array.getD_eq_getD_getElem?] at hv
        simp only [Option.bind_some]
        cases hget : a.tmps[t]? with
        | none => rfl
        | some u => rw [hget, Option.getD_some] at hv; rw [hv]; rfl
      · cases h

theorem getD_set (listed : Array Bool) (i j : Nat) (hi : i < listed.size) : (listed.setIfInBounds i true).getD j true = if j = i then true else listed.getD j true := by
  simp only [Array.getD_eq_getD_getElem?]
  by_cases h : j = i
  · subst h; simp [hi]
  · simp [h, Array.getElem?_setIfInBounds_ne (Ne.symm h)]

theorem getD_tf {listed : Array Bool} {i : Nat} (hi : i < listed.size) : listed.getD i false = listed.getD i true := by
  simp [Array.getD_eq_getD_getElem?, hi]

theorem pinv_step (hst : Static ops) (hS : Table Γ P G S)
    (hsteps : ∀ (i : Nat) (o : Oper), ops[i]? = some o → StepAt P G S ops e' (sts i) o (sts (i + 1)))
    {listed : Array Bool} {a : Act} {w : World} {F O : Nat → Prop} {β : Lay} {al : Site → Prop} {m : Nat} (hp : PInv Γ G w0 F0 O0 ops e' sts listed a w F O β al m)
    (hls : listed.size = ops.size)
    (hdown : ∀ (i : Nat) (o : Oper) (e : Edge), ops[i]? = some o → listed.getD i true = true → e ∈ o.after → Region.binds .any e = true → listed.getD e.on true = true)
    {i : Nat} {o : Oper} (ho : ops[i]? = some o) (hun : listed.getD i true = false) (hdeps : ∀ e, e ∈ o.after → Region.binds .any e = true → listed.getD e.on true = true)
    {K : Act → World → Prop} {Q : Exit → Act → World → Prop}
    (hK : ∀ a' w' F' O' β' al' m', PInv Γ G w0 F0 O0 ops e' sts (listed.setIfInBounds i true) a' w' F' O' β' al' m' → K a' w') : wpOp P ops Q i K a w := by
  have hin : i < listed.size := by rw [hls]; exact (Array.getElem?_eq_some_iff.1 ho).1
  have hlk : ∀ t, t ∈ o.looksAt ops → Known ops listed t := by
    intro t ht j oj hj hjl hd
    obtain ⟨e, he, hb, hon⟩ := hst.look i o t j oj ho ht hj hd
    have := hdeps e he hb
    rw [hon, hjl] at this; cases this
  have hkn : ∀ t, Known ops (listed.setIfInBounds i true) t → o.dst ≠ some t → Known ops listed t := by
    intro t ht hne j oj hj hjl
    by_cases hji : j = i
    · subst hji; rw [ho] at hj; cases hj; exact hne
    · exact ht j oj hj (by rw [getD_set _ _ _ hin, if_neg hji]; exact hjl)
  have hnd : ∀ t, o.dst = some t → ∀ j oj, ops[j]? = some oj → (listed.setIfInBounds i true).getD j true = false → oj.dst ≠ some t := by
    intro t ht j oj hj hjl hd
    have := hst.dist i j o oj t ho hj ht hd
    subst this
    rw [getD_set _ _ _ hin, if_pos rfl] at hjl; cases hjl
  have hrest : ∀ j oj d, ops[j]? = some oj → (listed.setIfInBounds i true).getD j true = false → oj.dst = some d → j ≠ i ∧ listed.getD j true = false := by
    intro j oj d hj hjl hd
    by_cases hji : j = i
    · subst hji; rw [getD_set _ _ _ hin, if_pos rfl] at hjl; cases hjl
    · rw [getD_set _ _ _ hin, if_neg hji] at hjl; exact ⟨hji, hjl⟩
  have hcl : ∀ (isC : Bool), isCall o = isC → ∃ m', (∀ j oj, ops[j]? = some oj → isCall oj = true → ((listed.setIfInBounds i true).getD j true = true ↔ j < m')) ∧ m' ≤ ops.size ∧
      (isC = false → m' = m) ∧ (isC = true → m' = i + 1 ∧ m ≤ i ∧ ∀ j oj, m ≤ j → j < i → ops[j]? = some oj → isCall oj = false) := by
    intro isC hc
    cases isC with
    | false =>
      refine ⟨m, ?_, hp.mle, fun _ => rfl, fun h => by cases h⟩
      intro j oj hj hcj
      have hji : j ≠ i := fun hh => by subst hh; rw [ho] at hj; cases hj; rw [hc] at hcj; cases hcj
      rw [getD_set _ _ _ hin, if_neg hji]; exact hp.calls j oj hj hcj
    | true =>
      have hmi : m ≤ i := by
        rcases Nat.lt_or_ge i m with h | h
        · have := (hp.calls i o ho hc).2 h; rw [hun] at this; cases this
        · exact h
      refine ⟨i + 1, ?_, by have := (Array.getElem?_eq_some_iff.1 ho).1; omega, (fun h => by cases h), fun _ => ⟨rfl, hmi, ?_⟩⟩
      · intro j oj hj hcj
        rw [getD_set _ _ _ hin]
        constructor
        · intro h
          by_cases hji : j = i
          · omega
          · rw [if_neg hji] at h
            rcases Nat.lt_or_ge j i with h' | h'
            · omega
            · exfalso
              have := hst.call (fun k => listed.getD k true = true) hdown j i oj o hj ho hcj hc (by omega) h
              rw [hun] at this; cases this
        · intro h
          by_cases hji : j = i
          · rw [if_pos hji]
          · rw [if_neg hji]
            have h1 := hst.call (fun k => (listed.setIfInBounds i true).getD k true = true) (by
              intro i' o' e hi' hl' he hb
              rw [getD_set _ _ _ hin] at hl' ⊢
              split
              · rfl
              · by_cases hii : i' = i
                · subst hii; rw [ho] at hi'; cases hi'; exact hdeps e he hb
                · rw [if_neg hii] at hl'; exact hdown i' o' e hi' hl' he hb) i j o oj ho hj hc hcj (by omega) (by rw [getD_set _ _ _ hin, if_pos rfl])
            rw [getD_set _ _ _ hin, if_neg hji] at h1; exact h1
      · intro j oj hmj hji hj
        cases hcj : isCall oj with
        | false => rfl
        | true =>
          exfalso
          have h1 := hst.call (fun k => (listed.setIfInBounds i true).getD k true = true) (by
              intro i' o' e hi' hl' he hb
              rw [getD_set _ _ _ hin] at hl' ⊢
              split
              · rfl
              · by_cases hii : i' = i
                · subst hii; rw [ho] at hi'; cases hi'; exact hdeps e he hb
                · rw [if_neg hii] at hl'; exact hdown i' o' e hi' hl' he hb) i j o oj ho hj hc hcj hji (by rw [getD_set _ _ _ hin, if_pos rfl])
          rw [getD_set _ _ _ hin, if_neg (by omega)] at h1
          have := (hp.calls j oj hj hcj).1 h1
          omega
  unfold wpOp
  simp only [ho]
  rcases hsteps i o ho with ⟨hw, r, hev, hst', hneeds, hdst⟩ | ⟨hw, hst', hdst⟩
  · rw [wanted_eq (fun t ht => hp.tm t (hlk t ht)) hp.size hw, if_pos rfl]
    refine .inl ?_
    have hops : ∀ x, x ∈ o.op.operands → TRel w F β al (a.eval x) (evx G ({ e' with st := sts i } : Env Γ.St) x) := by
      intro x hx
      cases x with
      | tmp t => exact hp.tm t (hlk t (List.mem_append_left _ (List.mem_filterMap.2 ⟨.tmp t, by simpa using hx, rfl⟩)))
      | const v => exact rd_ofVal w F v
      | global g =>
        simp only [evx, Act.eval]
        split
        · rename_i cs hg; exact hp.g g cs hg
        · exact Rd.val _
      | func f => exact Rd.clo f #[] [] rfl (fun i x d h => by simp at h)
    have hsim := evQ_sim (e := { e' with st := sts i }) hS (fun s cs hcs ha => hp.var s cs hcs ha) hops hev
    have hpl : ∀ x, al x → β.blk x < w.heap.size ∧ ¬ O (β.blk x) := fun x hx => ⟨(hp.core.place x hx).2.1, (hp.core.place x hx).2.2.2⟩
    obtain ⟨m', hcalls', hm', hmf, hmt⟩ := hcl (isCall o) rfl
    have hstm : OpSim Γ P S o a w F β al al (sts m) r ∧ resSt (sts m) r = sts m' := by
      cases hc : isCall o with
      | false =>
        have hrc := evQ_nc hev hc
        rw [hmf hc]
        refine ⟨?_, st_of_nocall hrc _⟩
        cases r with
        | call _ _ _ => cases hrc
        | _ => exact hsim
      | true =>
        obtain ⟨h1, h2, h3⟩ := hmt hc
        have heq : ∀ k, m + k ≤ i → sts (m + k) = sts m := by
          intro k
          induction k with
          | zero => intro _; rfl
          | succ k ih =>
            intro hk
            have hlt : m + k < ops.size := by have := (Array.getElem?_eq_some_iff.1 ho).1; omega
            have hj : ops[m + k]? = some ops[m + k] := by simp [hlt]
            have hnc := h3 (m + k) _ (by omega) (by omega) hj
            rw [← ih (by omega)]
            rcases hsteps (m + k) _ hj with ⟨_, r', hev', hst'', _, _⟩ | ⟨_, hst'', _⟩
            · rw [← Nat.add_assoc, hst'']; exact st_of_nocall (evQ_nc hev' hnc) _
            · rw [← Nat.add_assoc, hst'']
        have hii : sts i = sts m := by have := heq (i - m) (by omega); rwa [Nat.add_sub_cancel' h2] at this
        rw [← hii, h1, hst']
        exact ⟨hsim, rfl⟩
    refine opSim_wp hS hp.g hp.core hpl hstm.1 (d := o.dst.getD 0) (fun hn => ?_) ?_
    · obtain ⟨d, hd⟩ := hneeds hn
      have := hp.fresh i o d ho hun hd
      simpa [hd] using this
    · intro v w' F' O' β' al' haf
      have hst2 := hstm.2
      refine hK _ _ F' O' β' al' m' ⟨by rw [← hst2]; exact haf.core, hp.g.ext haf.ext, ?_, ?_, ?_, ?_, ?_, ?_, ?_, hm', hcalls'⟩
      · cases hd : o.dst <;> simp [Act.put, hp.size]
      · cases hd : o.dst <;> exact hp.defers
      · intro t ht
        cases hd : o.dst with
        | none =>
          exact (hp.tm t (hkn t ht (by rw [hd]; simp))).ext haf.ext
        | some d =>
          rw [tmps_put]
          split
          · rename_i htd
            obtain ⟨rfl, hlt⟩ := htd
            have := (hdst t hd).1 (hp.size ▸ hlt)
            rw [this]
            have hres := haf.res
            rw [hd] at hres
            exact hres
          · rename_i htd
            by_cases htd' : t = d
            · have hge : ¬ d < a.tmps.size := fun hh => htd ⟨htd', hh⟩
              have : e'.get t = .dead := by
                simp only [Env.get, List.getD_eq_getElem?_getD]
                rw [List.getElem?_eq_none (by rw [← hp.size, htd']; exact Nat.le_of_not_lt hge)]; rfl
              rw [this]; trivial
            · exact (hp.tm t (hkn t ht (by rw [hd]; simpa using Ne.symm htd'))).ext haf.ext
      · intro s cs hcs hs
        rcases haf.new (.v s) hs with h | ⟨hn, ⟨heq, cs', hk⟩ | ⟨heq, _⟩⟩
        · have hb : β'.vb s = β.vb s := haf.ext.b (.v s) h
          rw [hb]
          exact (hp.var s cs hcs h).ext haf.ext (haf.ext.ha (.v s) h)
        · obtain ⟨d, hd⟩ := hneeds hn
          simp only [hd, Option.getD_some, Site.v.injEq] at heq
          subst heq
          have h1 := (hdst s hd).2.1 cs' hk
          rw [hcs] at h1
          simp only [Option.some.injEq] at h1
          subst h1
          have := haf.var cs hk
          simp only [hd, Option.getD_some] at this
          exact this.2
        · cases heq
      · intro s hs
        rcases haf.new (.v s) hs with h | ⟨hn, ⟨heq, cs', hk⟩ | ⟨heq, _⟩⟩
        · exact hp.lp s h
        · obtain ⟨d, hd⟩ := hneeds hn
          simp only [hd, Option.getD_some, Site.v.injEq] at heq
          subst heq
          exact ⟨cs', (hdst s hd).2.1 cs' hk⟩
        · cases heq
      · intro s cs hcs hks
        by_cases hd : o.dst = some s
        · by_cases hv : ∃ cs', r = .var cs'
          · obtain ⟨cs', hk⟩ := hv
            have := (haf.var cs' hk).1
            simpa [hd] using this
          · have := (hdst s hd).2.2 (fun cs' hk => hv ⟨cs', hk⟩)
            rw [hcs] at this; cases this
        · exact haf.ext.a _ (hp.vk s cs hcs (hkn s hks hd))
      · intro j oj d hj hjl hd
        obtain ⟨hji, hjl'⟩ := hrest j oj d hj hjl hd
        have hf := hp.fresh j oj d hj hjl' hd
        have hne : ∀ d', o.dst = some d' → d' ≠ d := fun d' hd' hh => by
          subst hh; exact hji (hst.dist i j o oj d' ho hj hd' hd).symm
        refine ⟨fun hh => ?_, fun hh => ?_⟩
        · rcases haf.new _ hh with h | ⟨hn, ⟨heq, _⟩ | ⟨heq, _⟩⟩
          · exact hf.1 h
          · obtain ⟨d', hd'⟩ := hneeds hn
            simp only [hd', Option.getD_some, Site.v.injEq] at heq
            exact hne d' hd' heq.symm
          · cases heq
        · rcases haf.new _ hh with h | ⟨hn, ⟨heq, _⟩ | ⟨heq, _⟩⟩
          · exact hf.2 h
          · cases heq
          · obtain ⟨d', hd'⟩ := hneeds hn
            simp only [hd', Option.getD_some, Site.o.injEq] at heq
            exact hne d' hd' heq.symm
  · rw [wanted_eq (fun t ht => hp.tm t (hlk t ht)) hp.size hw]
    simp only [Bool.false_eq_true, if_false]
    -- not carried out
    have hm' : ∃ m', (∀ j oj, ops[j]? = some oj → isCall oj = true → ((listed.setIfInBounds i true).getD j true = true ↔ j < m')) ∧ m' ≤ ops.size ∧ sts m' = sts m := by
      obtain ⟨m', h1, h2, h3, h4⟩ := hcl (isCall o) rfl
      refine ⟨m', h1, h2, ?_⟩
      cases hc : isCall o with
      | false => rw [h3 hc]
      | true =>
        obtain ⟨g1, g2, g3⟩ := h4 hc
        have heq : ∀ k, m + k ≤ i → sts (m + k) = sts m := by
          intro k
          induction k with
          | zero => intro _; rfl
          | succ k ih =>
            intro hk
            have hlt : m + k < ops.size := by have := (Array.getElem?_eq_some_iff.1 ho).1; omega
            have hj : ops[m + k]? = some ops[m + k] := by simp [hlt]
            have hnc := g3 (m + k) _ (by omega) (by omega) hj
            rw [← ih (by omega)]
            rcases hsteps (m + k) _ hj with ⟨_, r', hev', hst'', _, _⟩ | ⟨_, hst'', _⟩
            · rw [← Nat.add_assoc, hst'']; exact st_of_nocall (evQ_nc hev' hnc) _
            · rw [← Nat.add_assoc, hst'']
        have hii : sts i = sts m := by have := heq (i - m) (by omega); rwa [Nat.add_sub_cancel' g2] at this
        rw [g1, hst', hii]
    obtain ⟨m', hcalls', hmle', hstm⟩ := hm'
    refine hK _ _ F O β al m' ⟨by rw [hstm]; exact hp.core, hp.g, ?_, ?_, ?_, hp.var, hp.lp, ?_, ?_, hmle', hcalls'⟩
    · cases hd : o.dst <;> simp [Act.put, hp.size]
    · cases hd : o.dst <;> exact hp.defers
    · intro t ht
      cases hd : o.dst with
      | none => exact hp.tm t (hkn t ht (by rw [hd]; simp))
      | some d =>
        rw [tmps_put]
        split
        · rename_i htd
          obtain ⟨rfl, hlt⟩ := htd
          rw [(hdst t hd).1 (hp.size ▸ hlt)]
          exact Rd.val _
        · rename_i htd
          by_cases htd' : t = d
          · have hge : ¬ d < a.tmps.size := fun hh => htd ⟨htd', hh⟩
            have : e'.get t = .dead := by
              simp only [Env.get, List.getD_eq_getElem?_getD]
              rw [List.getElem?_eq_none (by rw [← hp.size, htd']; exact Nat.le_of_not_lt hge)]; rfl
            rw [this]; trivial
          · exact hp.tm t (hkn t ht (by rw [hd]; simpa using Ne.symm htd'))
    · intro s cs hcs hks
      by_cases hd : o.dst = some s
      · have := (hdst s hd).2
        rw [hcs] at this; cases this
      · exact hp.vk s cs hcs (hkn s hks hd)
    · intro j oj d hj hjl hd
      obtain ⟨hji, hjl'⟩ := hrest j oj d hj hjl hd
      exact hp.fresh j oj d hj hjl' hd

end
end Go.Ve

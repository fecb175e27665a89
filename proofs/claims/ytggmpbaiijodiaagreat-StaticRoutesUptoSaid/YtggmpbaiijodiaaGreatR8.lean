/-
  Drawn regions that write, part 4: the beginning; the whole region.
  Rows that are lent: the call that turns a row of the frame's own.
  Functions out of code, part 3: regions.
-/
import Derived.Test.YtggmpbaiijodiaaGreatR7
set_option linter.unusedVariables false
namespace Go.Ve
open Go

def lq (Cm : Nat) (listed : Array Bool) : Array Bool := listed.mapIdx fun i b => b || Nat.testBit Cm i

theorem lq_size {Cm : Nat} {listed : Array Bool} : (lq Cm listed).size = listed.size := by simp [lq]

theorem lq_get {Cm : Nat} {listed : Array Bool} {i : Nat} : (lq Cm listed).getD i true = (listed.getD i true || Nat.testBit Cm i) := by
  simp only [lq, Array.getD_eq_getD_getElem?, Array.getElem?_mapIdx]
  cases listed[i]? <;> simp

theorem lq_set {Cm : Nat} {listed : Array Bool} {i : Nat} : lq Cm (listed.setIfInBounds i true) = (lq Cm listed).setIfInBounds i true := by
  apply arr_ext
  intro j
  simp only [lq, Array.getElem?_mapIdx, Array.getElem?_setIfInBounds, Array.size_mapIdx]
  by_cases h : i = j
  · subst h
    by_cases hl : i < listed.size
    · simp [hl]
    · simp [hl]
  · simp [h]

def deadL {St : Type} (e : Env St) (fl : List Fl) : Env St := putL e (fl.map fun q => ⟨q.i, q.d, .c .dead⟩)

theorem deadL_ok {St : Type} {e : Env St} {fl : List Fl} (h : FlOk e.tm.length fl) : Alike (deadL e fl) e ∧ (∀ t, (∀ q, q ∈ fl → t ≠ q.d) → (deadL e fl).get t = e.get t) ∧ (∀ q, q ∈ fl → (deadL e fl).get q.d = .dead) := by
  have hok : FlOk e.tm.length (fl.map fun q => ⟨q.i, q.d, .c .dead⟩) := by
    refine ⟨?_, ?_, ?_⟩
    · rw [List.pairwise_map]; exact h.dist
    · intro q hq
      obtain ⟨p, hp, rfl⟩ := List.mem_map.1 hq
      exact h.lt p hp
    · intro q hq s hs
      obtain ⟨p, hp, rfl⟩ := List.mem_map.1 hq
      cases hs
  obtain ⟨h1, h2⟩ := putL_get _ e _ hok (Nat.le_refl _)
  refine ⟨putL_alike _ e, ?_, ?_⟩
  · intro t ht
    refine h1 t (fun q hq => ?_)
    obtain ⟨p, hp, rfl⟩ := List.mem_map.1 hq
    exact ht p hp
  · intro q hq
    exact h2 ⟨q.i, q.d, .c .dead⟩ (List.mem_map.2 ⟨q, hq, rfl⟩)

section
variable {Γ : Sig} {P : Program} {G : Nat → Option (List V)} {S : Specs Γ} {w0 : World} {F0 : Blk → Prop} {O0 : Lent} {ops : Array Oper} {anc : Array Nat} {Cm Um : Nat}

theorem wpOp_opsQ {Q : Exit → Act → World → Prop} {K : Act → World → Prop} {i : Nat} {o : Oper} {a : Act} {w : World} (hch : ChSt ops anc Cm Um) (ho : ops[i]? = some o) (hC : Cm.testBit i = false)
    (h : wpOp P (opsQ ops Cm) Q i K a w) : wpOp P ops Q i K a w := by
  unfold wpOp at *
  rw [opsQ_some ho hC] at h
  rw [ho]
  simp only at h ⊢
  have hw : Region.wanted o (yielded (opsQ ops Cm) a.tmps) = Region.wanted o (yielded ops a.tmps) := by
    unfold Region.wanted
    cases hg : o.guard with
    | none => rfl
    | some gw =>
      obtain ⟨j, want⟩ := gw
      have hj := hch.guardQ i o j want ho hC hg
      simp only [yielded, opsQ_get, hj]
      cases ops[j]? <;> rfl
  rw [hw] at h
  exact h

theorem wpAny_stage0 (hch : ChSt ops anc Cm Um) (hS : Table Γ P G S) {e1 b0 b' : Env Γ.St} {sts : Nat → Γ.St}
    (hsteps : ∀ (i : Nat) (o : Oper), (opsQ ops Cm)[i]? = some o → StepAt P G S (opsQ ops Cm) e1 (sts i) o (sts (i + 1))) (hlast : sts ops.size = e1.st)
    {fl : List Fl} (hflok : FlOk e1.tm.length fl)
    (hfi : ∀ i, Um.testBit i = true → Cm.testBit i = false → i < ops.size → ∃ q, q ∈ fl ∧ q.i = i)
    (hfo : ∀ q, q ∈ fl → Cm.testBit q.i = false ∧ Um.testBit q.i = true ∧ ∃ o, ops[q.i]? = some o ∧ o.dst = some q.d)
    (hfv : ∀ q, q ∈ fl → e1.get q.d = q.val e1 ∧ e1.var q.d = none)
    (hb0 : Alike b0 e1) (hb1 : ∀ t, (∀ q, q ∈ fl → t ≠ q.d) → b0.get t = e1.get t) (hb2 : ∀ q, q ∈ fl → b0.get q.d = .dead)
    (hf0 : ∀ q, q ∈ fl → FloatOk P G S ops fl b0 q)
    (hchain : ChainR P G S ops anc fl ((List.range ops.size).filter (fun i => Cm.testBit i)) b0 b')
    {Q : Exit → Act → World → Prop} (hQ : ∀ a w, Inv Γ G w0 F0 O0 a w (putL b' fl) → Q .normal a w) : ∀ (fuel : Nat) (listed : Array Bool) (a : Act) (w : World),
    listed.size = ops.size → listed.count false ≤ fuel → Closed ops (fun i => listed.getD i true = true) → (∀ c, c < ops.size → Cm.testBit c = true → listed.getD c true = false) →
    (∃ F O β al m, PInv Γ G w0 F0 O0 (opsQ ops Cm) e1 sts (lq Cm listed) a w F O β al m) → wpAny P .any ops Q fuel listed a w := by
  -- where all that does not float has come up
  have hgo : ∀ (fuel : Nat) (listed : Array Bool) (a : Act) (w : World), listed.size = ops.size → listed.count false ≤ fuel → Closed ops (fun i => listed.getD i true = true) →
      (∀ c, c < ops.size → Cm.testBit c = true → listed.getD c true = false) → (∀ i, i < ops.size → Cm.testBit i = false → Um.testBit i = false → listed.getD i true = true) →
      (∃ F O β al m, PInv Γ G w0 F0 O0 (opsQ ops Cm) e1 sts (lq Cm listed) a w F O β al m) → wpAny P .any ops Q fuel listed a w := by
    rintro fuel listed a w hls hcnt hcl hnc hall ⟨F, O, β, al, m, hp⟩
    refine wpAny_chain hch hS hflok hfi hfo hQ fuel _ b0 listed a w hls hcnt hcl hall ?_ (List.Pairwise.filter _ List.pairwise_lt_range) hchain (fun q hq _ => hf0 q hq) hb0.len ?_
    · intro c
      simp only [List.mem_filter, List.mem_range]
      constructor
      · rintro ⟨h1, h2⟩; exact ⟨h1, h2, hnc c h1 h2⟩
      · rintro ⟨h1, h2, _⟩; exact ⟨h1, h2⟩
    · have hgq : ∀ (i : Nat) (o : Oper), (opsQ ops Cm)[i]? = some o → (lq Cm listed).getD i true = false → ops[i]? = some o ∧ Cm.testBit i = false ∧ Um.testBit i = true ∧ listed.getD i true = false := by
        intro i o ho hl
        rw [lq_get, Bool.or_eq_false_iff] at hl
        have hlt : i < ops.size := by have := (Array.getElem?_eq_some_iff.1 ho).1; rwa [opsQ_size] at this
        rw [opsQ_get] at ho
        simp only [Option.map_eq_some_iff] at ho
        obtain ⟨o', ho', heq⟩ := ho
        simp only [hl.2] at heq
        subst heq
        refine ⟨ho', hl.2, ?_, hl.1⟩
        cases hU : Um.testBit i with
        | true => rfl
        | false => have := hall i hlt hl.2 hU; rw [hl.1] at this; cases this
      have hknown : ∀ t, (∀ q, q ∈ fl → t = q.d → listed.getD q.i true = true) → Known (opsQ ops Cm) (lq Cm listed) t := by
        intro t ht i o ho hl hd
        obtain ⟨h1, h2, h3, h4⟩ := hgq i o ho hl
        obtain ⟨q, hq, hqi⟩ := hfi i h3 h2 (Array.getElem?_eq_some_iff.1 h1).1
        obtain ⟨_, _, o', ho', hd'⟩ := hfo q hq
        rw [hqi, h1] at ho'
        cases ho'
        rw [hd] at hd'
        have := ht q hq (Option.some.inj hd')
        rw [hqi, h4] at this; cases this
      have heq : ∀ k, m + k ≤ ops.size → sts (m + k) = sts m := by
        intro k
        induction k with
        | zero => intro _; rfl
        | succ k ih =>
          intro hk
          have hlt : m + k < (opsQ ops Cm).size := by rw [opsQ_size]; omega
          have hj : (opsQ ops Cm)[m + k]? = some (opsQ ops Cm)[m + k] := Array.getElem?_eq_getElem hlt
          have hnc : isCall (opsQ ops Cm)[m + k] = false := by
            cases hc : isCall (opsQ ops Cm)[m + k] with
            | false => rfl
            | true =>
              exfalso
              cases hl : (lq Cm listed).getD (m + k) true with
              | true => have := (hp.calls _ _ hj hc).1 hl; omega
              | false =>
                obtain ⟨h1, h2, h3, h4⟩ := hgq _ _ hj hl
                have := hch.call _ _ h1 h2 h3
                rw [hc] at this; cases this
          rw [← ih (by omega)]
          rcases hsteps (m + k) _ hj with ⟨_, r', hev', hst'', _, _⟩ | ⟨_, hst'', _⟩
          · rw [← Nat.add_assoc, hst'']; exact st_of_nocall (evQ_nc hev' hnc) _
          · rw [← Nat.add_assoc, hst'']
      have hmle : m ≤ ops.size := by have := hp.mle; rwa [opsQ_size] at this
      have hlst : sts m = e1.st := by
        have := heq (ops.size - m) (by omega)
        rw [Nat.add_sub_cancel' hmle] at this
        rw [← this, hlast]
      have hal := putL_alike (fl.filter (fun q => listed.getD q.i true)) b0
      obtain ⟨a1, a2⟩ := putL_get (fl.filter (fun q => listed.getD q.i true)) b0 _ (hflok.filter _) (by rw [hb0.len]; exact Nat.le_refl _)
      have hvar : ∀ s, (putL b0 (fl.filter (fun q => listed.getD q.i true))).var s = e1.var s := fun s => (hal.trans hb0).var s
      refine Inv.of (al := al) (by rw [hal.st, hb0.st, ← hlst]; exact hp.core) hp.g (by rw [hal.len, hb0.len]; exact hp.size) hp.defers ?_ ?_ ?_
      · intro t
        by_cases ht : ∃ q, q ∈ fl ∧ t = q.d
        · obtain ⟨q, hq, rfl⟩ := ht
          cases hl : listed.getD q.i true with
          | true =>
            rw [a2 q (List.mem_filter.2 ⟨hq, hl⟩)]
            have hk := hp.tm q.d (hknown q.d (by
              intro r hr hrd
              have : r.i = q.i := by
                obtain ⟨c1, _, o1, h1, d1⟩ := hfo q hq
                obtain ⟨c2, _, o2, h2, d2⟩ := hfo r hr
                exact (hch.st.dist q.i r.i o1 o2 q.d (opsQ_some h1 c1) (opsQ_some h2 c2) d1 (by rw [hrd]; exact d2)).symm
              rw [this]; exact hl))
            rw [(hfv q hq).1] at hk
            have : q.val b0 = q.val e1 := by
              unfold Fl.val
              cases hv : q.v with
              | c x => rfl
              | a s => simp only; exact hb1 s (fun r hr => hflok.src q hq s hv r hr)
            rw [this]; exact hk
          | false =>
            rw [a1 q.d (by
              intro r hr hrd
              obtain ⟨hr1, hr2⟩ := List.mem_filter.1 hr
              obtain ⟨c1, _, o1, h1, d1⟩ := hfo q hq
              obtain ⟨c2, _, o2, h2, d2⟩ := hfo r hr1
              have : q.i = r.i := hch.st.dist q.i r.i o1 o2 q.d (opsQ_some h1 c1) (opsQ_some h2 c2) d1 (by rw [hrd]; exact d2)
              rw [← this, hl] at hr2; cases hr2), hb2 q hq]
            trivial
        · have ht' : ∀ q, q ∈ fl → t ≠ q.d := fun q hq hh => ht ⟨q, hq, hh⟩
          rw [a1 t (fun q hq => ht' q (List.mem_filter.1 hq).1), hb1 t ht']
          exact hp.tm t (hknown t (fun q hq hh => absurd hh (ht' q hq)))
      · intro s cs hcs
        rw [hvar] at hcs
        have hks : Known (opsQ ops Cm) (lq Cm listed) s := hknown s (by
          intro q hq hh
          subst hh
          rw [(hfv q hq).2] at hcs; cases hcs)
        have ha := hp.vk s cs hcs hks
        exact ⟨ha, hp.var s cs hcs ha⟩
      · intro s hs
        obtain ⟨cs, hcs⟩ := hp.lp s hs
        exact ⟨cs, by rw [hvar]; exact hcs⟩
  intro fuel
  induction fuel with
  | zero =>
    intro listed a w hls hcnt hcl hnc hp
    refine hgo 0 listed a w hls hcnt hcl hnc ?_ hp
    intro i hi _ _
    cases hl : listed.getD i true with
    | true => rfl
    | false =>
      exfalso
      have h0 : listed.count false = 0 := by omega
      rw [Array.count_eq_zero] at h0
      apply h0
      have h : i < listed.size := by omega
      simp [Array.getD_eq_getD_getElem?, h] at hl
      rw [← hl]; exact Array.getElem_mem h
  | succ fuel ih =>
    intro listed a w hls hcnt hcl hnc hp
    by_cases hall : ∀ i, i < ops.size → Cm.testBit i = false → Um.testBit i = false → listed.getD i true = true
    · exact hgo (fuel + 1) listed a w hls hcnt hcl hnc hall hp
    · obtain ⟨j, hj⟩ := Classical.not_forall.1 hall
      simp only [Classical.not_imp] at hj
      obtain ⟨hj1, hj2, hj3, hj4⟩ := hj
      refine ⟨fun hr => ?_, ?_⟩
      · exfalso
        apply hj4
        have : ∀ i, i < ops.size → listed.getD i true = true := by
          intro i
          induction i using Nat.strongRecOn with
          | _ i ihi =>
            intro hi
            cases hl : listed.getD i true with
            | true => rfl
            | false =>
              exfalso
              have hmem : i ∈ Region.ready .any ops listed := by
                rw [mem_ready]
                refine ⟨hl, ops[i], by simp [hi], ?_⟩
                intro e he hb
                have hon := hch.edge i ops[i] e (by simp [hi]) he hb
                rw [getD_tf (by omega)]
                exact ihi e.on hon (by omega)
              rw [hr] at hmem; cases hmem
        exact this j hj1
      · intro i hi
        obtain ⟨hun, o, ho, hdeps⟩ := mem_ready.1 hi
        have hlt : i < ops.size := (Array.getElem?_eq_some_iff.1 ho).1
        have hin : i < listed.size := by omega
        have hdeps' : ∀ e, e ∈ o.after → Region.binds .any e = true → listed.getD e.on true = true := by
          intro e he hb
          have h1 := hdeps e he hb
          have hon := hch.edge i o e ho he hb
          rw [← getD_tf (by omega)]; exact h1
        have hC : Cm.testBit i = false := by
          cases hC : Cm.testBit i with
          | false => rfl
          | true =>
            exfalso
            have hb := hch.before i o ho hC j hj1 (.inr ⟨hj2, hj3⟩)
            exact hj4 (hch.up (fun j => listed.getD j true = true) hcl i o ho hdeps' j hb.1 hb.2)
        obtain ⟨F, O, β, al, m, hp⟩ := hp
        refine wpOp_opsQ hch ho hC ?_
        refine pinv_step hch.st hS hsteps hp (by rw [lq_size, opsQ_size]; exact hls) ?_ (opsQ_some ho hC) ?_ ?_ ?_
        · intro k ok e hk hl he hb
          rw [lq_get, Bool.or_eq_true] at hl ⊢
          have hkl : k < ops.size := by have := (Array.getElem?_eq_some_iff.1 hk).1; rwa [opsQ_size] at this
          rw [opsQ_get] at hk
          simp only [Option.map_eq_some_iff] at hk
          obtain ⟨o', ho', heq⟩ := hk
          cases hCk : Cm.testBit k with
          | true =>
            simp only [hCk] at heq
            subst heq
            simp [nopOp] at he
          | false =>
            simp only [hCk] at heq
            subst heq
            rw [hCk] at hl
            exact .inl (hcl k o' e ho' (hl.resolve_right (by simp)) he hb)
        · rw [lq_get, hun, hC]; rfl
        · intro e he hb
          rw [lq_get, hdeps' e he hb]; rfl
        · intro a' w' F' O' β' al' m' hp'
          rw [← lq_set] at hp'
          refine ih (listed.setIfInBounds i true) a' w' (by simpa using hls) ?_ ?_ ?_ ⟨F', O', β', al', m', hp'⟩
          · have hli : listed[i] = false := by simpa [Array.getD_eq_getD_getElem?, hin] using hun
            rw [Array.setIfInBounds_def, dif_pos hin, Array.count_set hin, hli]
            simp
            omega
          · intro k ok e hk hl he hb
            show (listed.setIfInBounds i true).getD e.on true = true
            have hl : (listed.setIfInBounds i true).getD k true = true := hl
            rw [getD_set _ _ _ hin] at hl ⊢
            split
            · rfl
            · by_cases hki : k = i
              · subst hki; rw [ho] at hk; cases hk; exact hdeps' e he hb
              · rw [if_neg hki] at hl; exact hcl k ok e hk hl he hb
          · intro c hc hCc
            rw [getD_set _ _ _ hin, if_neg (fun hh => by rw [hh, hC] at hCc; cases hCc)]
            exact hnc c hc hCc

theorem chain_sim (hmix : P.follows .mixedOrders = true) (hch : ChSt ops anc Cm Um) (hS : Table Γ P G S) {a : Act} {w : World} {e e1 b' : Env Γ.St} (hi : Inv Γ G w0 F0 O0 a w e)
    (he1 : drawGo P G S (opsQ ops Cm) (opsQ ops Cm).toList (killAll (dstsOf (opsQ ops Cm).toList) e) = some e1)
    {fl : List Fl} (hflok : FlOk e1.tm.length fl)
    (hfi : ∀ i, Um.testBit i = true → Cm.testBit i = false → i < ops.size → ∃ q, q ∈ fl ∧ q.i = i)
    (hfo : ∀ q, q ∈ fl → Cm.testBit q.i = false ∧ Um.testBit q.i = true ∧ ∃ o, ops[q.i]? = some o ∧ o.dst = some q.d)
    (hfv : ∀ q, q ∈ fl → e1.get q.d = q.val e1 ∧ e1.var q.d = none)
    (hf0 : ∀ q, q ∈ fl → FloatOk P G S ops fl (deadL e1 fl) q)
    (hchain : ChainR P G S ops anc fl ((List.range ops.size).filter (fun i => Cm.testBit i)) (deadL e1 fl) b') {id : Nat}
    {Q : Exit → Act → World → Prop} (hQ : ∀ a w, Inv Γ G w0 F0 O0 a w (putL b' fl) → Q .normal a w) : (Code.region id ops true).wp P Q a w := by
  have hst := hch.st
  have hah := ahead_of hst 0 (opsQ ops Cm).toList (by simp)
  have hno : ∀ d, d ∈ dstsOf (opsQ ops Cm).toList → (killAll (dstsOf (opsQ ops Cm).toList) e).var d = none := by
    intro d hd
    cases hv : (killAll (dstsOf (opsQ ops Cm).toList) e).var d with
    | none => rfl
    | some cs => exact absurd ⟨cs, hv⟩ (killAll_alive _ e d hd).1
  obtain ⟨sts, h0, hn, hsteps, hg, hv, hl⟩ := drawGo_trace _ _ _ he1 hah hno
  have hsteps' : ∀ (i : Nat) (o : Oper), (opsQ ops Cm)[i]? = some o → StepAt P G S (opsQ ops Cm) e1 (sts i) o (sts (i + 1)) := fun i o ho => hsteps i o (by rw [Array.getElem?_toList]; exact ho)
  refine wp_region_any hmix ?_
  obtain ⟨F, O, β, hc, hG, hsz, hdf, ht, hvv⟩ := (hi.killAll (dstsOf (opsQ ops Cm).toList)).drew (w.drawn + 1)
  have hlqf : ∀ i, i < ops.size → Cm.testBit i = false → (lq Cm (Array.replicate ops.size false)).getD i true = false := by
    intro i hi hC
    rw [lq_get, hC]
    simp [Array.getD_eq_getD_getElem?, hi]
  have hmem : ∀ (i : Nat) (o : Oper) (d : Nat), (opsQ ops Cm)[i]? = some o → o.dst = some d → d ∈ dstsOf (opsQ ops Cm).toList ∧ Cm.testBit i = false := by
    intro i o d ho hd
    refine ⟨?_, ?_⟩
    · simp only [dstsOf, List.mem_filterMap]
      exact ⟨o, Array.mem_toList_iff.2 (Array.mem_of_getElem? ho), hd⟩
    · cases hC : Cm.testBit i with
      | false => rfl
      | true =>
        rw [opsQ_get] at ho
        simp only [Option.map_eq_some_iff] at ho
        obtain ⟨o', _, heq⟩ := ho
        simp only [hC] at heq
        subst heq
        cases hd
  have hnotin : ∀ t, Known (opsQ ops Cm) (lq Cm (Array.replicate ops.size false)) t → t ∉ dstsOf (opsQ ops Cm).toList := by
    intro t hkn hin
    simp only [dstsOf, List.mem_filterMap] at hin
    obtain ⟨o, hm', hd⟩ := hin
    obtain ⟨i, hi', rfl⟩ := List.getElem_of_mem hm'
    have hi'' : i < (opsQ ops Cm).size := by simpa using hi'
    have hoi : (opsQ ops Cm)[i]? = some (opsQ ops Cm)[i] := Array.getElem?_eq_getElem hi''
    have hd' : (opsQ ops Cm)[i].dst = some t := by rw [← Array.getElem_toList]; exact hd
    refine hkn i _ hoi (hlqf i (by rwa [opsQ_size] at hi'') (hmem i _ t hoi hd').2) hd'
  obtain ⟨d1, d2, d3⟩ := deadL_ok hflok
  refine wpAny_stage0 hch hS hsteps' (by rw [← hn]; simp [opsQ_size]) hflok hfi hfo hfv d1 d2 d3 hf0 hchain hQ ops.size _ a _ (by simp) (by simp) ?_ ?_ ⟨F, O, β, alive (killAll (dstsOf (opsQ ops Cm).toList) e), 0, ?_⟩
  · intro i o ed ho hlst
    have hi'' : i < ops.size := (Array.getElem?_eq_some_iff.1 ho).1
    have hlst : (Array.replicate ops.size false).getD i true = true := hlst
    simp [Array.getD_eq_getD_getElem?, hi''] at hlst
  · intro c hc _; simp [Array.getD_eq_getD_getElem?, hc]
  · refine ⟨by rw [h0]; exact hc, hG, by rw [hl]; exact hsz, hdf, ?_, ?_, ?_, ?_, ?_, Nat.zero_le _, ?_⟩
    · intro t hkn; rw [hg t (hnotin t hkn)]; exact ht t
    · intro s cs hcs hs
      obtain ⟨cs0, hcs0⟩ := hs
      have hni : s ∉ dstsOf (opsQ ops Cm).toList := fun hin => by rw [hno s hin] at hcs0; cases hcs0
      rw [hv s hni] at hcs
      exact hvv s cs hcs
    · intro s hs
      obtain ⟨cs0, hcs0⟩ := hs
      have hni : s ∉ dstsOf (opsQ ops Cm).toList := fun hin => by rw [hno s hin] at hcs0; cases hcs0
      exact ⟨cs0, by rw [hv s hni]; exact hcs0⟩
    · intro s cs hcs hkn
      rw [hv s (hnotin s hkn)] at hcs
      exact ⟨cs, hcs⟩
    · intro i o d ho _ hd
      exact killAll_alive _ e d (hmem i o d ho hd).1
    · intro i o ho hcall
      cases hC : Cm.testBit i with
      | false =>
        have hi'' : i < ops.size := by have := (Array.getElem?_eq_some_iff.1 ho).1; rwa [opsQ_size] at this
        rw [hlqf i hi'' hC]; simp
      | true =>
        exfalso
        rw [opsQ_get] at ho
        simp only [Option.map_eq_some_iff] at ho
        obtain ⟨o', _, heq⟩ := ho
        simp only [hC] at heq
        subst heq
        cases hcall
end
/-- Another number for a slice of the frame's own. -/
def renT (a b : Nat) : T → T
  | .ow i k es => .ow (if i = a then b else i) k es
  | .oe i k es j off => .oe (if i = a then b else i) k es j off
  | .mp i es ck => .mp (if i = a then b else i) es ck
  | .ot i t xs => .ot (if i = a then b else i) t xs
  | .oet i t xs j off => .oet (if i = a then b else i) t xs j off
  | .ov i t xs lo hi => .ov (if i = a then b else i) t xs lo hi
  | x => x

def noO (d : Nat) : T → Bool
  | .ow i _ _ => !Nat.beq i d
  | .oe i _ _ _ _ => !Nat.beq i d
  | .mp i _ _ => !Nat.beq i d
  | .ot i _ _ => !Nat.beq i d
  | .oet i _ _ _ _ => !Nat.beq i d
  | .ov i _ _ _ _ => !Nat.beq i d
  | _ => true

def noOE {St : Type} (d : Nat) (e : Env St) : Bool :=
  e.tm.all (noO d) && e.vars.all (fun c => match c with
    | some cs => cs.all (noO d)
    | none => true)

section
variable {Γ : Sig} {G : Nat → Option (List V)} {w0 : World} {F0 : Blk → Prop} {O0 : Lent} {e : Env Γ.St} {a0 : Act} {w : World}

theorem noO_has {d : Nat} {x : T} (h : noO d x = true) : ¬ x.hasO d := by
  cases x <;> simp only [noO, T.hasO, Bool.not_eq_true'] at h ⊢ <;> first | (intro hh; exact hh) | (intro hh; subst hh; simp at h) | (rintro ⟨hh, _⟩; subst hh; simp at h)

theorem Inv.ren (hi : Inv Γ G w0 F0 O0 a0 w e) {a b : Nat} (hb : noOE b e = true) (hal : a ≠ lentId) (hbl : b ≠ lentId) : Inv Γ G w0 F0 O0 a0 w (e.mapT (renT a b)) := by
  obtain ⟨F, O, β, hc, hG, hsz, hdf, ht, hv⟩ := hi
  by_cases hab : a = b
  · subst hab
    have : e.mapT (renT a a) = e := by
      have hid : ∀ x : T, renT a a x = x := by
        intro x
        cases x <;> simp only [renT] <;> (try split) <;> simp_all
      obtain ⟨tm, vars, st⟩ := e
      simp only [Env.mapT, Env.mk.injEq, and_true]
      refine ⟨(List.map_congr_left (fun x _ => hid x)).trans (List.map_id _), ?_⟩
      refine (List.map_congr_left (g := id) ?_).trans (List.map_id _)
      intro c _
      cases c with
      | none => rfl
      | some cs => exact congrArg some ((List.map_congr_left (fun x _ => hid x)).trans (List.map_id _))
    rw [this]
    exact ⟨F, O, β, hc, hG, hsz, hdf, ht, hv⟩
  have hnb : ¬ alive e (.o b) := by
    rintro ⟨x, hx, hid⟩
    unfold noOE at hb
    simp only [Bool.and_eq_true] at hb
    rcases hx with hx | ⟨s, cs, hcs, hx⟩
    · exact noO_has (List.all_eq_true.1 hb.1 x hx) hid
    · have hm : some cs ∈ e.vars := by
        simp only [Env.var] at hcs
        cases hg : e.vars[s]? with
        | none => rw [hg] at hcs; cases hcs
        | some c => rw [hg] at hcs; simp only [Option.getD_some] at hcs; subst hcs; exact List.mem_of_getElem? hg
      have := List.all_eq_true.1 hb.2 (some cs) hm
      exact noO_has (List.all_eq_true.1 this x hx) hid
  let β' : Lay := { β with ob := fun i => if i = b then β.ob a else β.ob i }
  let al' : Site → Prop := fun x => match x with
    | .v s => alive e (.v s)
    | .o i => (i = b ∧ alive e (.o a)) ∨ (i ≠ a ∧ i ≠ b ∧ alive e (.o i))
  have hblk : ∀ i, alive e (.o i) → al' (.o (if i = a then b else i)) ∧ β'.ob (if i = a then b else i) = β.ob i := by
    intro i hi
    by_cases h : i = a
    · subst h
      simp only [if_true]
      exact ⟨.inl ⟨rfl, hi⟩, by simp [β']⟩
    · have hib : i ≠ b := fun hh => hnb (hh ▸ hi)
      simp only [if_neg h]
      exact ⟨.inr ⟨h, hib, hi⟩, by simp [β', hib]⟩
  have hf : ∀ v x, TRel w F β (alive e) v x → TRel w F β' al' v (renT a b x) := by
    intro v x hx
    cases x with
    | p d => exact hx
    | ow i k es =>
      obtain ⟨ha, cap, hv', hr⟩ := hx
      obtain ⟨h1, h2⟩ := hblk i ha
      exact ⟨h1, cap, by rw [h2]; exact hv', by rw [h2]; exact hr⟩
    | oe i k es j off =>
      obtain ⟨ha, hj, cap, hv', hr⟩ := hx
      obtain ⟨h1, h2⟩ := hblk i ha
      exact ⟨h1, hj, cap, by rw [h2]; exact hv', by rw [h2]; exact hr⟩
    | lp s off => exact hx
    | mp i es ck =>
      obtain ⟨ha, hv', hr⟩ := hx
      obtain ⟨h1, h2⟩ := hblk i ha
      exact ⟨h1, by rw [h2]; exact hv', by rw [h2]; exact hr⟩
    | ot i t xs =>
      rcases hx with hx | ⟨hne, ha, cap, hv', hr⟩
      · exact .inl hx
      · obtain ⟨h1, h2⟩ := hblk i ha
        exact .inr ⟨hne, h1, cap, by rw [h2]; exact hv', by rw [h2]; exact hr⟩
    | oet i t xs j off =>
      obtain ⟨ha, hj, cap, hv', hr⟩ := hx
      obtain ⟨h1, h2⟩ := hblk i ha
      exact ⟨h1, hj, cap, by rw [h2]; exact hv', by rw [h2]; exact hr⟩
    | ov i t xs lo hi =>
      rcases hx with hx | ⟨hne, ha, k1, k2, cap, hv', hr⟩
      · exact .inl hx
      · obtain ⟨h1, h2⟩ := hblk i ha
        exact .inr ⟨hne, h1, k1, k2, cap, by rw [h2]; exact hv', by rw [h2]; exact hr⟩
    | emp => exact hx
    | dead => trivial
  have hsite : ∀ x, al' x → ∃ y, alive e y ∧ β'.blk x = β.blk y ∧ (∀ s, x = .v s ↔ y = .v s) ∧ (x = .o b ↔ y = .o a) ∧ (x ≠ .o b → x = y) := by
    intro x hx
    cases x with
    | v s => exact ⟨.v s, hx, rfl, fun _ => Iff.rfl, by simp, fun _ => rfl⟩
    | o i =>
      rcases hx with ⟨rfl, ha⟩ | ⟨h1, h2, ha⟩
      · exact ⟨.o a, ha, by simp [Lay.blk, β'], by simp, by simp, fun h => absurd rfl h⟩
      · exact ⟨.o i, ha, by simp [Lay.blk, β', h2], fun s => Iff.rfl, by simp [h1, h2], fun _ => rfl⟩
  refine Inv.of (al := al') (β := β') ⟨hc.keep, hc.sig, hc.oin, hc.fin, hc.f0, ?_, ?_, hc.lent⟩ hG (by simpa [Env.mapT] using hsz) hdf (fun t => by rw [get_mapT rfl]; exact hf _ _ (ht t)) ?_ ?_
  · intro x hx
    obtain ⟨y, hy, hb', _, hx1, hx2⟩ := hsite x hx
    rw [hb']
    refine ⟨?_, (hc.place y hy).2⟩
    have hp := (hc.place y hy).1
    by_cases h1 : x = .o b
    · have h2 := hx1.1 h1
      subst h2
      subst h1
      exact .inl ⟨fun h => hbl (by injection h), hp.o hal⟩
    · rw [hx2 h1]; exact hp
  · intro x y hx hy hxy
    obtain ⟨x', hx', hbx, _, hx1, hx2⟩ := hsite x hx
    obtain ⟨y', hy', hby, _, hy1, hy2⟩ := hsite y hy
    rw [hbx, hby] at hxy
    have := hc.dist x' y' hx' hy' hxy
    subst this
    by_cases h1 : x = .o b
    · rw [h1, hy1.2 (hx1.1 h1)]
    · by_cases h2 : y = .o b
      · exact absurd (hx1.2 (hy1.1 h2)) h1
      · rw [hx2 h1, hy2 h2]
  · intro s cs hcs
    rw [var_mapT] at hcs
    simp only [Option.map_eq_some_iff] at hcs
    obtain ⟨cs0, hcs0, rfl⟩ := hcs
    exact ⟨⟨cs0, hcs0⟩, (hv s cs0 hcs0).mapT rfl hf⟩
  · rintro s ⟨cs, hcs⟩
    exact ⟨_, by rw [var_mapT, hcs]; rfl⟩
end
end Go.Ve

namespace Go.Ve
open Go

def killOT (d : Nat) : T → T
  | .ow i k es => if i = d then .dead else .ow i k es
  | .oe i k es j off => if i = d then .dead else .oe i k es j off
  | .mp i es ck => if i = d then .dead else .mp i es ck
  | .ot i t xs => if i = d then .dead else .ot i t xs
  | .oet i t xs j off => if i = d then .dead else .oet i t xs j off
  | .ov i t xs j off => if i = d then .dead else .ov i t xs j off
  | x => x

def alo (d : Nat) (al : Site → Prop) (x : Site) : Prop := al x ∧ x ≠ .o d

theorem TRel.killO {w : World} {F : Blk → Prop} {β : Lay} {al : Site → Prop} {v : Value} {x : T} {d : Nat} (h : TRel w F β al v x) : TRel w F β (alo d al) v (killOT d x) := by
  cases x with
  | p d => exact h
  | ow i k es =>
    simp only [killOT]; split
    · trivial
    · rename_i hne; exact ⟨⟨h.1, by simpa using hne⟩, h.2⟩
  | oe i k es j off =>
    simp only [killOT]; split
    · trivial
    · rename_i hne; exact ⟨⟨h.1, by simpa using hne⟩, h.2⟩
  | lp s off => exact ⟨⟨h.1, by simp⟩, h.2⟩
  | mp i es ck =>
    simp only [killOT]; split
    · trivial
    · rename_i hne; exact ⟨⟨h.1, by simpa using hne⟩, h.2⟩
  | ot i t xs =>
    simp only [killOT]; split
    · trivial
    · rename_i hne
      rcases h with h | ⟨h0, ha, h⟩
      · exact .inl h
      · exact .inr ⟨h0, ⟨ha, by simpa using hne⟩, h⟩
  | oet i t xs j off =>
    simp only [killOT]; split
    · trivial
    · rename_i hne; exact ⟨⟨h.1, by simpa using hne⟩, h.2⟩
  | ov i t xs lo hi =>
    simp only [killOT]; split
    · trivial
    · rename_i hne
      rcases h with h | ⟨h0, ha, h⟩
      · exact .inl h
      · exact .inr ⟨h0, ⟨ha, by simpa using hne⟩, h⟩
  | emp => exact h
  | dead => trivial

/-- The same list in another temporary. -/
def updB (id : Nat) (t : Ty) (zs : List t.El) : T → T
  | .ot i t' xs => if i = id then (if t' = t then .ot id t zs else .dead) else .ot i t' xs
  | x => killOT id x

def andL : List Bool → Bool
  | [] => true
  | [b] => b
  | b :: c :: r => b && andL (c :: r)

/-- Are they as long as n? -/
def lensB (id p n : Nat) : Nat → List T → List Bool
  | _, [] => []
  | i, .ot j _ xs :: r => match Nat.beq j id with
    | true => match Nat.beq i p with
      | true => lensB id p n (i + 1) r
      | false => Nat.beq xs.length n :: lensB id p n (i + 1) r
    | false => lensB id p n (i + 1) r
  | i, _ :: r => lensB id p n (i + 1) r

theorem andL_all : ∀ {l : List Bool}, andL l = true → ∀ b, b ∈ l → b = true
  | [], _, b, hb => by simp at hb
  | [c], h, b, hb => by simp only [List.mem_singleton] at hb; subst hb; exact h
  | c :: c' :: r, h, b, hb => by
    simp only [andL, Bool.and_eq_true] at h
    rcases List.mem_cons.1 hb with rfl | hb
    · exact h.1
    · exact andL_all h.2 b hb

theorem lensB_get {id p n : Nat} : ∀ {l : List T} {i : Nat}, (∀ b, b ∈ lensB id p n i l → b = true) → ∀ (k : Nat) (t : Ty) (xs : List t.El), l[k]? = some (.ot id t xs) → i + k ≠ p → xs.length = n
  | [], i, _, k, t, xs, hk, _ => by simp at hk
  | x :: r, i, h, k, t, xs, hk, hne => by
    have hr : ∀ b, b ∈ lensB id p n (i + 1) r → b = true := by
      intro b hb
      refine h b ?_
      cases x with
      | ot j t' ys =>
        simp only [lensB]
        split
        · split
          · exact hb
          · exact List.mem_cons_of_mem _ hb
        · exact hb
      | _ => exact hb
    cases k with
    | zero =>
      simp only [List.getElem?_cons_zero, Option.some.injEq] at hk
      subst hk
      have hip : Nat.beq i p = false := by
        cases hb : Nat.beq i p with
        | false => rfl
        | true => exact absurd (Nat.eq_of_beq_eq_true hb) (by simpa using hne)
      have := h (Nat.beq xs.length n) (by simp only [lensB, Nat.beq_refl, hip]; exact List.mem_cons_self)
      exact Nat.eq_of_beq_eq_true this
    | succ k => exact lensB_get hr k t xs (by simpa using hk) (by omega)

/-- The state behind a call to which the list with number id was lent out of temporary p. -/
def putB {St : Type} (e : Env St) (id p : Nat) (t : Ty) (zs : List t.El) (st : St) (dst : Option Tmp) (d : V) : Env St :=
  (⟨(e.tm.map (updB id t zs)).set p (.ot id t zs), e.vars.map (fun c => c.map (List.map (killOT id))), st⟩ : Env St).put dst (.p d)

section
variable {Γ : Sig} {P : Program} {G : Nat → Option (List V)} {S : Specs Γ} {w0 : World} {F0 : Blk → Prop} {O0 : Lent} {a : Act} {w : World} {e : Env Γ.St}

theorem bor_sim (hS : Table Γ P G S) (hi : Inv Γ G w0 F0 O0 a w e) {dst : Option Tmp} {c : Call} {type : TypeId} {pos : String} {after : Array Edge} {guard : Option (Nat × Bool)}
    {f : Operand} {g : FuncId} {p id : Nat} {xs : List Operand} {t : Ty} {ys zs : List t.El} {ds : List V} {st' : Γ.St} {d : V}
    (hcal : c.callee = .value f) (hf : evx G e f = .p (.clo g [])) (hcargs : c.args.toList = .tmp p :: xs) (hp : e.get p = .ot id t ys) (hxs : pureArgs G e xs = some ds)
    (hlens : andL (lensB id p ys.length 0 e.tm) = true) (hsp : S g e.st (.bot :: .tl t ys :: ds) = some (st', .p (.tup [.tl t zs, d]))) {Q : Exit → Act → World → Prop} :
    (⟨dst, .call c, type, pos, after, guard⟩ : Oper).wp P a w (fun a' w' => Inv Γ G w0 F0 O0 a' w' (putB e id p t zs st' dst d)) Q := by
  obtain ⟨F, O, β, hc, hG, hsz, hdf, ht, hv⟩ := hi
  obtain ⟨hbor, fn, hfn, hbody, hname⟩ := hS.bor g e.st t ys ds st' zs d hsp
  have hops : ∀ x, TRel w F β (alive e) (a.eval x) (evx G e x) := fun x => evx_sim hG ht x
  have hf0 := hops f
  rw [hf] at hf0
  have hx0 := ht p
  rw [hp] at hx0
  have hplt : p < e.tm.length := by
    rcases Nat.lt_or_ge p e.tm.length with h | h
    · exact h
    · simp only [Env.get, List.getD_eq_getElem?_getD, List.getElem?_eq_none h, Option.getD_none] at hp
      cases hp
  obtain ⟨hlen, hargs⟩ := pureArgs_sim (a := a) xs ds (fun x _ => hops x) hxs
  have hrun : (execOp a.eval ⟨dst, .call c, type, pos, after, guard⟩).run P w = .ok (.enter g (c.args.map a.eval)) w := by
    have hf1 : Rd w F (a.eval f) (.clo g []) := hf0
    generalize hev : a.eval f = fv at hf1
    cases hf1 with
    | clo _ cv _ hl hcap =>
      have hcv : cv = #[] := by simpa using hl
      subst hcv
      have hb : ¬ fn.body = none := by intro hbb; simp [hbb] at hbody
      have hname' : ¬ fn.name = "runtime.NumGoroutine" := by simpa using hname
      simp [execOp, resolve, hcal, hev, Deferred.ofValue, invoke, callFunc, hfn, hname', hb]
  have hcs : c.args = (.tmp p :: xs).toArray := by apply Array.ext'; simpa using hcargs
  have hsize : (c.args.map a.eval).size = ds.length + 1 := by rw [hcs]; simp [hlen]
  have ha0 : (c.args.map a.eval)[0]? = some (a.tmps.getD p undef) := by rw [hcs]; simp [Act.eval]
  have hown : OwnR w F ⟨fun _ => β.ob id, fun _ => β.ob id⟩ (fun _ => True) (a.tmps.getD p undef) 0 t.size (ys.map t.enc) := by
    rcases hx0 with h | ⟨h0, _, h⟩
    · exact .inl h
    · exact .inr ⟨h0, trivial, h⟩
  have hal0 : ys ≠ [] → alive e (.o id) := by
    intro h0
    rcases hx0 with ⟨h, _⟩ | ⟨_, h, _⟩
    · exact absurd (by simpa using h) h0
    · exact h
  have hcall := hbor w F O (β.ob id) (a.tmps.getD p undef) (c.args.map a.eval) hc.sig hG (fun b hb => (hc.fin b hb).2) hown
    (fun h0 => ⟨(hc.place _ (hal0 h0)).2.1, (hc.place _ (hal0 h0)).2.2.1, (hc.place _ (hal0 h0)).2.2.2⟩) hsize ha0
    (fun i x y hi hd => hargs i x y (by rw [hcs] at hi; simpa using hi) hd)
  unfold Oper.wp
  rw [hrun]
  refine hcall.mono ?_
  rintro ex w' ⟨v, F', O', rfl, g1, g2, g3, g4, g5, g6, g7⟩
  have hkb : ∀ b, b < w.heap.size → ¬ O b → (ys ≠ [] → b ≠ β.ob id) → w'.heap[b]? = w.heap[b]? := fun b hb ho hne => g2.block b hb (fun h => h.elim ho (fun h => hne h.1 h.2))
  have hne : ∀ x, alive e x → x ≠ .o id → ys ≠ [] → β.blk x ≠ β.ob id := fun x hx hxi h0 hh => hxi (hc.dist x (.o id) hx (hal0 h0) hh)
  have hO' : ∀ b, b < w.heap.size → ¬ O b → ¬ O' b := fun b hb ho h => by
    rcases g3 b h with h | h
    · exact ho h
    · omega
  have hF' : ∀ b : Nat, b < w.heap.size → ¬ F b → ¬ F' b := fun b hb hf h => by
    rcases (g5 b h).1 with h | h
    · exact hf h
    · omega
  have hext : Ext w F β (alo id (alive e)) w' F' β (alive e) :=
    ⟨g4, fun b hb => hkb b (hc.fin b hb).2.1 (hc.fin b hb).2.2 (fun h0 hh => (hc.place _ (hal0 h0)).2.2.1 (by rw [hh] at hb; exact hb)), fun x hx => hx.1, fun _ _ => rfl,
      fun x hx => hkb _ (hc.place x hx.1).2.1 (hc.place x hx.1).2.2.2 (hne x hx.1 hx.2)⟩
  have hcore : Core Γ w0 F0 O0 w' F' O' β (alive e) st' := by
    refine ⟨⟨g2.os.trans hc.keep.os, g2.tape.trans hc.keep.tape, g2.output.trans hc.keep.output, Nat.le_trans hc.keep.size g2.size, ?_⟩, g1, ?_, ?_, fun b hb => g4 b (hc.f0 b hb), ?_, hc.dist, ?_⟩
    · intro b hb ho
      rw [hkb b (by have := hc.keep.size; omega) (fun h => by
        rcases hc.oin b h with h | h
        · exact ho (.inl h)
        · omega) (fun h0 hh => ho ((hc.place _ (hal0 h0)).1.old (by show β.ob id < _; rw [← hh]; exact hb) |> fun h => by rw [hh]; exact h))]
      exact hc.keep.block b hb ho
    · intro b hb
      rcases g3 b hb with h | h
      · exact hc.oin b h
      · exact .inr (Nat.le_trans hc.keep.size h)
    · intro b hb
      obtain ⟨h1, h2, h3⟩ := g5 b hb
      refine ⟨?_, h2, h3⟩
      rcases h1 with h | h
      · exact (hc.fin b h).1
      · exact .inr (Nat.le_trans hc.keep.size h)
    · intro x hx
      obtain ⟨k1, k2, k3, k4⟩ := hc.place x hx
      exact ⟨k1, Nat.lt_of_lt_of_le k2 g2.size, hF' _ k2 k3, hO' _ k2 k4⟩
    · intro b n hb
      obtain ⟨h1, h2, h3, cc, et, fl, h4, h5⟩ := hc.lent b n hb
      have hbw : b < w.heap.size := by have := hc.keep.size; omega
      refine ⟨h1, hO' b hbw h2, hF' b hbw h3, ?_⟩
      by_cases hbi : ys ≠ [] ∧ b = β.ob id
      · obtain ⟨hy, rfl⟩ := hbi
        rcases hown with ⟨hh, _⟩ | ⟨_, _, cap, hv0, c0, et0, r1, r2, _⟩
        · exact absurd (by simpa using hh) hy
        · rw [r1] at h4
          simp only [Option.some.injEq, Obj.cells.injEq] at h4
          obtain ⟨rfl, _, _⟩ := h4
          rcases g6 with ⟨hh, a0, hv1⟩ | ⟨_, _, cap1, hv1, c1, et1, q1, q2, _⟩
          · rw [hv0] at hv1
            simp only [Value.slice.injEq, List.length_map] at hv1
            exact absurd (List.eq_nil_of_length_eq_zero hv1.2.1) hy
          · rw [hv0] at hv1
            simp only [Value.slice.injEq] at hv1
            refine ⟨c1, et1, (0, 0), q1, ?_⟩
            rw [q2, ← hv1.2.2, ← r2]; exact h5
      · exact ⟨cc, et, fl, by rw [hkb b hbw h2 (fun h hh => hbi ⟨h, hh⟩)]; exact h4, h5⟩
  have hnew : TRel w' F' β (alive e) (a.tmps.getD p undef) (.ot id t zs) := by
    rcases g6 with h | ⟨h0, _, cap, hv0, hr⟩
    · exact .inl h
    · refine .inr ⟨h0, hal0 ?_, cap, hv0, hr⟩
      intro hy
      subst hy
      rcases hown with ⟨_, a0, h1⟩ | ⟨h1, _⟩
      · rw [h1] at hv0
        simp only [Value.slice.injEq] at hv0
        have : zs.map t.enc = [] := List.eq_nil_of_length_eq_zero hv0.2.1.symm
        exact h0 this
      · exact h1 rfl
  have hzl : zs.length = ys.length := by
    have l1 : ∀ (w : World) (F : Blk → Prop) (us : List t.El), OwnR w F ⟨fun _ => β.ob id, fun _ => β.ob id⟩ (fun _ => True) (a.tmps.getD p undef) 0 t.size (us.map t.enc) → ∃ ad c, a.tmps.getD p undef = .slice ad us.length c := by
      intro w F us h
      rcases h with ⟨h0, a0, h1⟩ | ⟨_, _, cap, h1, _⟩
      · have hu0 : us = [] := by simpa using h0
        subst hu0; exact ⟨_, _, h1⟩
      · exact ⟨_, _, by simpa using h1⟩
    obtain ⟨_, _, k1⟩ := l1 _ _ _ hown
    obtain ⟨_, _, k2⟩ := l1 _ _ _ g6
    rw [k1] at k2
    simp only [Value.slice.injEq] at k2
    exact k2.2.1.symm
  have hother : ∀ q (us : List t.El), e.get q = .ot id t us → us.length = ys.length → TRel w' F' β (alive e) (a.tmps.getD q undef) (.ot id t zs) := by
    intro q us hq hul
    have hTq := ht q
    rw [hq] at hTq
    rcases hTq with ⟨h0, a0, h1⟩ | ⟨h0, hal, cap1, h1, c1, et1, k1, k2, k3, _⟩
    · have hu0 : us = [] := by simpa using h0
      subst hu0
      have hz0 : zs = [] := List.eq_nil_of_length_eq_zero (by rw [hzl, ← hul]; rfl)
      subst hz0
      exact .inl ⟨rfl, a0, h1⟩
    · have hy0 : ys ≠ [] := fun hh => h0 (by rw [hh] at hul; simpa using hul)
      rcases hown with ⟨hh, _⟩ | ⟨_, _, cap, hv0, c0, et0, r1, r2, _⟩
      · exact absurd (by simpa using hh) hy0
      · rcases g6 with ⟨hh, _⟩ | ⟨hz0, _, cap2, hv1, c2, et2, q1, q2, q3, q4, q5⟩
        · have : zs = [] := by simpa using hh
          subst this
          exact absurd (List.eq_nil_of_length_eq_zero hzl.symm) hy0
        · rw [hv0] at hv1
          simp only [Value.slice.injEq] at hv1
          rw [r1] at k1
          simp only [Option.some.injEq, Obj.cells.injEq] at k1
          obtain ⟨rfl, _, _⟩ := k1
          refine .inr ⟨hz0, hal, cap1, ?_, c2, et2, q1, ?_, ?_, q4, q5⟩
          · rw [h1]; simp [hul, hzl]
          · rw [q2, ← hv1.2.2, ← r2, k2]
          · simp only [List.length_map] at k3 ⊢; omega
  have hlen1 : ((e.tm.map (updB id t zs)).set p (.ot id t zs)).length = e.tm.length := by simp
  have hget : ∀ t', TRel w' F' β (alive e) (a.tmps.getD t' undef) ((⟨(e.tm.map (updB id t zs)).set p (.ot id t zs), e.vars.map (fun c => c.map (List.map (killOT id))), st'⟩ : Env Γ.St).get t') := by
    intro q
    have h1 : (⟨(e.tm.map (updB id t zs)).set p (.ot id t zs), e.vars.map (fun c => c.map (List.map (killOT id))), st'⟩ : Env Γ.St).get q = if q = p then .ot id t zs else updB id t zs (e.get q) := by
      simp only [Env.get, List.getD_eq_getElem?_getD, List.getElem?_set]
      split
      · rename_i hpq
        subst hpq
        simp [hplt]
      · rename_i hpq
        rw [if_neg (fun hh => hpq hh.symm), List.getElem?_map]
        cases e.tm[q]? with
        | none => simp [updB, killOT]
        | some x => rfl
    rw [h1]
    split
    · rename_i h; rw [h]; exact hnew
    · rename_i hqp
      have hkill : TRel w' F' β (alive e) (a.tmps.getD q undef) (killOT id (e.get q)) := (ht q).killO.ext hext
      cases hx : e.get q with
      | ot i t' us =>
        rw [hx] at hkill
        simp only [updB]
        split
        · rename_i hi
          subst hi
          split
          · rename_i htt
            subst htt
            refine hother q us hx ?_
            refine lensB_get (andL_all hlens) q t' us ?_ (by simpa using hqp)
            simp only [Env.get, List.getD_eq_getElem?_getD] at hx
            cases hg : e.tm[q]? with
            | none => rw [hg] at hx; cases hx
            | some x => rw [hg] at hx; simp only [Option.getD_some] at hx; rw [hx]
          · trivial
        · rename_i hi
          simp only [killOT, if_neg hi] at hkill
          exact hkill
      | _ => rw [hx] at hkill; exact hkill
  refine Inv.of (al := alive e) (F := F') (O := O') (β := β) ?_ (hG.ext hext) ?_ ?_ ?_ ?_ ?_
  · cases dst <;> exact hcore
  · cases dst <;> simp [putB, Env.put, Act.put, hsz]
  · cases dst <;> exact hdf
  · intro t'
    cases dst with
    | none => exact hget t'
    | some q =>
      have h1 : (putB e id p t zs st' (some q) d).get t' = if t' = q ∧ q < ((e.tm.map (updB id t zs)).set p (.ot id t zs)).length then .p d else (⟨(e.tm.map (updB id t zs)).set p (.ot id t zs), e.vars.map (fun c => c.map (List.map (killOT id))), st'⟩ : Env Γ.St).get t' := get_set (⟨(e.tm.map (updB id t zs)).set p (.ot id t zs), e.vars.map (fun c => c.map (List.map (killOT id))), st'⟩ : Env Γ.St) q t' (.p d)
      rw [tmps_put, h1, hlen1, hsz]
      split
      · exact g7
      · exact hget t'
  · intro s cs hcs
    have hcs' : (e.mapT (killOT id)).var s = some cs := by cases dst <;> exact hcs
    rw [var_mapT] at hcs'
    simp only [Option.map_eq_some_iff] at hcs'
    obtain ⟨cs0, hcs0, rfl⟩ := hcs'
    have ha : alive e (.v s) := ⟨cs0, hcs0⟩
    refine ⟨ha, ?_⟩
    obtain ⟨c0, et, q1, q2, q3⟩ := hv s cs0 hcs0
    refine ⟨c0, et, (hext.ha (.v s) ⟨ha, by simp⟩).trans q1, by simpa using q2, ?_⟩
    intro i x y hi hy
    simp only [List.getElem?_map, Option.map_eq_some_iff] at hy
    obtain ⟨y0, hy0, rfl⟩ := hy
    exact (q3 i x y0 hi hy0).killO.ext hext
  · rintro s ⟨cs, hcs⟩
    refine ⟨cs.map (killOT id), ?_⟩
    have : (e.mapT (killOT id)).var s = some (cs.map (killOT id)) := by rw [var_mapT, hcs]; rfl
    cases dst <;> exact this
end
end Go.Ve

namespace Go.Ve
open Go

section
variable {Γ : Sig} {ρ : Type} (P : Look) (G : Nat → Option (List V)) (S : SpecsX Γ)

/-- Append behind the beginning of an own list. -/
def appVX (e : Env Γ.St) (dst : Option Tmp) (c : Call) : Option (Kex Γ ρ) :=
  match c.callee, c.args.toList, c.argTypes.toList, dst with
  | .builtin .append, [.tmp p, x1], [t0, t1], some d =>
    match e.get p with
    | .ov id t' xs 0 hi => match P.und t0, P.und t1 with
      | some (.slice el), some (.slice _) => match P.inf el with
        | some info => match info.zero, srcT (evx G e x1) with
          | some z, some ⟨t, y :: ys⟩ =>
            if neTmp p x1 = false then none else
            if h : t' = t then
              if t.size = info.size ∧ 1 ≤ info.bytes ∧ zcells z = info.size ∧ id ≠ lentId then
                some (fun K => Option.bind (app info.bytes (List.take hi (h ▸ xs)) (y :: ys)) fun zs => K { (e.kill id) with tm := (e.kill id).tm.set d (.ot id t zs) })
              else none
            else none
          | _, _ => none
        | none => none
      | _, _ => none
    | _ => none
  | _, _, _, _ => none

/-- Writing operations on typed data. -/
def wX (e : Env Γ.St) (o : Oper) : Option (Kex Γ ρ) :=
  match o.op with
  | .store t ap x => match o.dst with
    | some _ => none
    | none => match evx G e ap, evx G e x with
      | .oet id ty xs i off, .p d =>
        if size? P t = some d.cells.length ∧ off + d.cells.length ≤ ty.size ∧ d.cells.all V.one = true ∧ (ty.aggT = false → d.cells.length = 1 ∧ ty.size = 1) then
          some (fun K => Option.bind (atN xs i) fun y => match newEl ty y off d with
            | some z => K (e.mapT (updTT id ty i z))
            | none => none)
        else none
      | _, _ => none
  | .call c => match appVX P G e o.dst c with
    | some q => some q
    | none => match c.callee, c.args.toList, c.argTypes.toList, o.dst with
    | .builtin .append, [x0, x1], [t0, t1], some d => match P.und t0, P.und t1 with
      | some (.slice el), some (.slice _) => match P.inf el with
        | some info => match info.zero, srcT (evx G e x1) with
          | some z, some ⟨t, ys⟩ => match dstT t (evx G e x0) with
            | some (nm, xs) =>
              if t.size = info.size ∧ 1 ≤ info.bytes ∧ zcells z = info.size ∧ nm.getD d ≠ lentId then
                some (fun K => Option.bind (app info.bytes xs ys) fun zs =>
                  K { (e.kill (nm.getD d)) with tm := (e.kill (nm.getD d)).tm.set d (.ot (nm.getD d) t zs) })
              else none
            | none => none
          | _, _ => none
        | none => none
      | _, _ => none
    | _, _, _, _ => none
  | _ => none

def wXs (e : Env Γ.St) (o : Oper) : Option (Kex Γ ρ) :=
  match wX P G e o with
  | some q => some q
  | none => match evW P G e o with
    | some e1 => some (fun K => K e1)
    | none => none

/-- One route: what only makes, then what writes. -/
def routeX (e : Env Γ.St) (o : Oper) : Option (Kex Γ ρ) :=
  match qXs P G S e o with
  | some q => some (fun K => q (fun r => match applyR e o.dst r with
    | some e1 => K e1
    | none => none))
  | none => wXs P G e o

/-- A call to which a list of the frame's own is lent. -/
def borX (e : Env Γ.St) (o : Oper) : Option (Kex Γ ρ) :=
  match o.op with
  | .call c => match c.callee, c.args.toList with
    | .value f, .tmp p :: xs => match evx G e f, e.get p, pureArgs G e xs with
      | .p (.clo g []), .ot id t ys, some ds => match S g e.st (.bot :: .tl t ys :: ds) with
        | some cx => some (fun K => need (andL (lensB id p ys.length 0 e.tm)) (Option.bind cx.m fun y => match cx.res y with
          | .p (.tup [.tl t' zs, d]) => if h : t' = t then K (putB e id p t (h ▸ zs) (cx.st y) o.dst d) else none
          | _ => none))
        | none => none
      | _, _, _ => none
    | _, _ => none
  | _ => none

/-- One route, or a list is lent. -/
def routeB (e : Env Γ.St) (o : Oper) : Option (Kex Γ ρ) :=
  match routeX P G S e o with
  | some q => some q
  | none => borX G S e o

def anyX (e : Env Γ.St) (lg : Nat) (o : Oper) (K : Env Γ.St → Nat → Option ρ) : Option ρ :=
  match routeB P G S e o with
  | some q => q (fun e1 => K e1 (lg ||| touchW G e o))
  | none => match routeB P G S (frzOps G (frzSel o) e) o with
    | some q => q (fun e1 => K e1 (lg ||| (touchF G (frzSel o) e ||| touchW G (frzOps G (frzSel o) e) o)))
    | none => none

/-- With its guard: where the guard is open, both ways. -/
def stepX (ops : Array Oper) (e : Env Γ.St) (lg : Nat) (o : Oper) (K : Env Γ.St → Nat → Option ρ) : Option ρ :=
  match o.guard with
  | none => anyX P G S e lg o K
  | some (j, want) => match (ops[j]?).bind (·.dst) with
    | none => K (e.put o.dst (.p (.val undef))) (lg ||| bitO o.dst)
    | some t => match e.get t with
      | .p (.val (.bool b)) => if t < e.tm.length then
          cond b (match want with
            | true => kOne t (e.lit t true) (fun e => anyX P G S e lg o K)
            | false => K ((e.lit t true).put o.dst (.p (.val undef))) (lg ||| bitO o.dst))
          (match want with
            | true => K ((e.lit t false).put o.dst (.p (.val undef))) (lg ||| bitO o.dst)
            | false => kOne t (e.lit t false) (fun e => anyX P G S e lg o K))
        else none
      | .p (.val (.tuple _)) => K (e.put o.dst (.p (.val undef))) (lg ||| bitO o.dst)
      | _ => none

def seqX (ops : Array Oper) : List Oper → Env Γ.St → Nat → (Env Γ.St → Nat → Option ρ) → Option ρ
  | [], e, lg, K => K e lg
  | o :: rest, e, lg, K => stepX P G S ops e lg o (fun e1 lg => kOp o e1 (fun e1 => seqX ops rest e1 lg K))

def drawStepX (e : Env Γ.St) (lg : Nat) (o : Oper) (K : Env Γ.St → Nat → Option ρ) : Option ρ :=
  match qXs P G S e o with
  | some q => q (fun r => match applyD e o.dst r with
    | some e1 => K e1 (lg ||| bitO o.dst)
    | none => none)
  | none => none

def drawGoX (ops : Array Oper) : List Oper → Env Γ.St → Nat → (Env Γ.St → Nat → Option ρ) → Option ρ
  | [], e, lg, K => K e lg
  | o :: rest, e, lg, K =>
    match o.guard with
    | none => if pendOk G (dstsOf (o :: rest)) e o then drawStepX P G S e lg o (fun e1 lg => kOp o e1 (fun e1 => drawGoX ops rest e1 lg K)) else none
    | some (j, want) => match (ops[j]?).bind (·.dst) with
      | none => kOne (o.dst.getD 0) (e.put o.dst (.p (.val undef))) (fun e1 => drawGoX ops rest e1 (lg ||| bitO o.dst) K)
      | some t => match e.get t with
        | .p (.val (.bool b)) => if t < e.tm.length then
            cond b (match want with
              | true => kOne t (e.lit t true) (fun e => if pendOk G (dstsOf (o :: rest)) e o then drawStepX P G S e lg o (fun e1 lg => kOp o e1 (fun e1 => drawGoX ops rest e1 lg K)) else none)
              | false => kOne (o.dst.getD 0) ((e.lit t true).put o.dst (.p (.val undef))) (fun e1 => drawGoX ops rest e1 (lg ||| bitO o.dst) K))
            (match want with
              | true => kOne (o.dst.getD 0) ((e.lit t false).put o.dst (.p (.val undef))) (fun e1 => drawGoX ops rest e1 (lg ||| bitO o.dst) K)
              | false => kOne t (e.lit t false) (fun e => if pendOk G (dstsOf (o :: rest)) e o then drawStepX P G S e lg o (fun e1 lg => kOp o e1 (fun e1 => drawGoX ops rest e1 lg K)) else none))
          else none
        | .p (.val (.tuple _)) => kOne (o.dst.getD 0) (e.put o.dst (.p (.val undef))) (fun e1 => drawGoX ops rest e1 (lg ||| bitO o.dst) K)
        | _ => none

def bitsL : List Nat → Nat
  | [] => 0
  | d :: r => 2 ^ (2 * d) ||| bitsL r

def drawXK (ops : Array Oper) (k : Nat) (e : Env Γ.St) (lg : Nat) (K : Env Γ.St → Nat → Option ρ) : Option ρ :=
  if k ≤ ops.size && tailOk ops k && guardOk ops k && drawOk (ops.extract 0 k) then
    kEnv (killAll (dstsOf (ops.extract 0 k).toList) e) (fun e => drawGoX P G S (ops.extract 0 k) (ops.extract 0 k).toList e (lg ||| bitsL (dstsOf (ops.extract 0 k).toList))
      (fun e1 lg => seqX P G S ops (ops.toList.drop k) e1 lg K))
  else none

def drawX (ops : Array Oper) (e : Env Γ.St) (lg : Nat) (K : Env Γ.St → Nat → Option ρ) : Option ρ := drawXK P G S ops (tailAt ops.toList) e lg K

def isPL : T → Bool
  | .p _ => true
  | .lp _ _ => true
  | _ => false

/-- The floating operations, out of the state behind all that does not write. -/
def flOf {St : Type} (ops : Array Oper) (e1 : Env St) : List Nat → Option (List Fl)
  | [] => some []
  | i :: r => match ops[i]? with
    | some o => match o.dst with
      | some d => match isPL (e1.get d) with
        | true => (flOf ops e1 r).map (⟨i, d, .c (e1.get d)⟩ :: ·)
        | false => match o.op with
          | .move (.tmp s) => (flOf ops e1 r).map (⟨i, d, .a s⟩ :: ·)
          | _ => none
      | none => none
    | none => none

def flD (fl : List Fl) (t : Nat) : Bool := fl.any (fun q => Nat.beq q.d t)

def flC (fl : List Fl) (t : Nat) : Bool := fl.any (fun q => Nat.beq q.d t && (match q.v with
  | .c _ => true
  | .a _ => false))

def flOkB (n : Nat) : List Fl → Bool
  | [] => true
  | q :: r => !flD r q.d && Nat.blt q.d n && flOkB n r

def flSrcB (fl : List Fl) : Bool := fl.all (fun q => match q.v with
  | .c _ => true
  | .a s => !flD fl s)

def noD (d : Nat) : T → Bool
  | .ow i _ _ => !Nat.beq i d
  | .oe i _ _ _ _ => !Nat.beq i d
  | .lp s _ => !Nat.beq s d
  | .mp i _ _ => !Nat.beq i d
  | .ot i _ _ => !Nat.beq i d
  | .oet i _ _ _ _ => !Nat.beq i d
  | .ov i _ _ _ _ => !Nat.beq i d
  | _ => true

/-- Number d stands for nothing of the frame's own. -/
def clean {St : Type} (d : Nat) (e : Env St) : Bool :=
  e.tm.all (noD d) && e.vars.all (fun c => match c with
    | some cs => cs.all (noD d)
    | none => true) && (e.var d).isNone && Nat.blt d e.vars.length

def okOpnd {St : Type} (fl : List Fl) (m : Nat) (e1 : Env St) : Operand → Bool
  | .tmp t => (flC fl t || (!flD fl t && !Nat.testBit m (2 * t))) && (match e1.get t with
    | .p _ => true
    | .lp s _ => !Nat.testBit m (2 * s) && (match e1.var s with
      | some cs => cs.all (fun x => match x with | .p _ => true | _ => false) && !Nat.testBit m (2 * s + 1)
      | none => false)
    | _ => false)
  | _ => true

/-- The floating operation may still come up. -/
def okFl {St : Type} (ops : Array Oper) (fl : List Fl) (m : Nat) (e1 b : Env St) (q : Fl) : Bool :=
  match ops[q.i]? with
  | some o => match q.v with
    | .a s => match o.op with
      | .move (.tmp s') => Nat.beq s' s
      | _ => false
    | .c _ => o.op.operands.toList.all (okOpnd fl m e1) && clean q.d b && fl.all (fun r => match r.v with
      | .c x => noD q.d x
      | .a _ => true)
  | none => false

def staysB (m : Nat) (dst : Option Nat) (q : Fl) : Bool :=
  (match dst with
    | some d => !Nat.beq d q.d
    | none => true) && (match q.v with
    | .c (.p _) => true
    | .c (.lp s _) => !Nat.testBit m (2 * s)
    | .c _ => false
    | .a s => match dst with
      | some d => !Nat.beq d s
      | none => true)

def opsB (fl : List Fl) (A : Fl → Bool) (o : Oper) : Bool :=
  o.op.operands.toList.all (fun x => match x with
    | .tmp t => fl.all (fun q => !Nat.beq q.d t || A q)
    | _ => true)

def bitsF : List Fl → Nat
  | [] => 0
  | q :: r => 2 ^ (2 * q.d) ||| bitsF r

def ancA (anc : Array Nat) (c : Nat) (q : Fl) : Bool := (anc.getD c 0).testBit q.i && decide (q.i < c)

/-- One route; a composite may freeze what it is built of. -/
def routeF (e : Env Γ.St) (o : Oper) : Option (Kex Γ ρ) :=
  match routeX P G S e o with
  | some q => some q
  | none => match isBuild o with
    | true => routeX P G S (frzB G o e) o
    | false => none

/-- The chain: each operation where the floating ones that it needs have come up. -/
def chainGoX (ops : Array Oper) (anc : Array Nat) (fl : List Fl) (e1 : Env Γ.St) : List Nat → Env Γ.St → Nat → (Env Γ.St → Nat → Option ρ) → Option ρ
  | [], b, m, K => kEnv (putL b fl) (fun e => K e (m ||| bitsF fl))
  | c :: rest, b, m, K => match ops[c]? with
    | some o => kEnv (putL b (fl.filter (ancA anc c))) (fun bA => match opsB fl (ancA anc c) o && fl.all (staysB (touchW G bA o) o.dst) with
      | true => match routeF P G S bA o with
        | some q => q (fun b1 => kOp o b1 (fun b1 => match fl.all (fun q => ancA anc c q || okFl ops fl (m ||| (bitsF fl ||| touchW G bA o)) e1 b1 q) with
          | true => chainGoX ops anc fl e1 rest b1 (m ||| (bitsF fl ||| touchW G bA o)) K
          | false => none))
        | none => none
      | false => none)
    | none => none

def chainX (ops : Array Oper) (Cm Um : Nat) (e : Env Γ.St) (lg : Nat) (K : Env Γ.St → Nat → Option ρ) : Option ρ :=
  if chOk ops (Region.before ops) Cm Um then
    kEnv (killAll (dstsOf (opsQ ops Cm).toList) e) (fun e => drawGoX P G S (opsQ ops Cm) (opsQ ops Cm).toList e (lg ||| bitsL (dstsOf (opsQ ops Cm).toList))
      (fun e1 lg => match flOf ops e1 ((List.range ops.size).filter (fun i => Nat.testBit Um i && !Nat.testBit Cm i)) with
        | some fl => match flOkB e1.tm.length fl && flSrcB fl && fl.all (fun q => (e1.var q.d).isNone) && fl.all (okFl ops fl (bitsF fl) e1 (deadL e1 fl)) with
          | true => kEnv (deadL e1 fl) (fun b => chainGoX P G S ops (Region.before ops) fl e1 ((List.range ops.size).filter (fun i => Nat.testBit Cm i)) b (bitsF fl) (fun e2 m => K e2 (lg ||| m)))
          | false => none
        | none => none))
  else none

def renX : List (Nat × Nat × Nat) → Env Γ.St → (Env Γ.St → Option ρ) → Option ρ
  | [], e, K => K e
  | (a, b, n) :: r, e, K => match n with
    | 1 => match noOE b e && (!Nat.beq a lentId && !Nat.beq b lentId) with
      | true => kEnv (e.mapT (renT a b)) (fun e => renX r e K)
      | false => none
    | 2 => kEnv (frzOE a e) (fun e => renX r e K)
    | _ => renX r e K

def frzTs : List (Nat × Nat × Nat) → List Operand
  | [] => []
  | (t, _, n) :: r => match n with
    | 0 => .tmp t :: frzTs r
    | _ => frzTs r

def regX0 (ops : Array Oper) (d : Bool) (fz : Option (List (Nat × Nat × Nat))) (e : Env Γ.St) (lg : Nat) (K : Env Γ.St → Nat → Option ρ) : Option ρ :=
  match d with
  | false => seqX P G S ops ops.toList e lg K
  | true => match fz with
    | none => drawX P G S ops e lg K
    | some [] => kEnv (frzOps G (callOperands ops.toList) e) (fun e1 => drawX P G S ops e1 (lg ||| touchF G (callOperands ops.toList) e) K)
    | some ((Cm, Um, n) :: ts) => match n with
      | 9 => drawX P G S ops e lg K
      | 8 => drawXK P G S ops Cm e lg K
      | _ => kEnv (frzOps G (frzTs ts) e) (fun e1 => chainX P G S ops Cm Um e1 (lg ||| touchF G (frzTs ts) e) K)

/-- A region; where it says so, what calls take is frozen first, or what writes makes a chain; behind it slices of the frame's own may get other numbers. -/
def regX (ops : Array Oper) (d : Bool) (fz : Option (List (Nat × Nat × Nat))) (e : Env Γ.St) (lg : Nat) (K : Env Γ.St → Nat → Option ρ) : Option ρ :=
  match fz with
  | none => regX0 P G S ops d fz e lg K
  | some [] => regX0 P G S ops d fz e lg K
  | some (x :: ts) => regX0 P G S ops d fz e lg (fun e1 lg1 => renX ts e1 (fun e2 => K e2 lg1))
end

section
variable {Γ : Sig} {ρ : Type} {P : Program} {G : Nat → Option (List V)} {S : SpecsX Γ} {e : Env Γ.St} {o : Oper} {ops : Array Oper} {v : ρ}

theorem appVX_sound {q : Kex Γ ρ} {K : Env Γ.St → Option ρ} {dst : Option Tmp} {c : Call} (h : appVX P G e dst c = some q) (hK : q K = some v) : ∃ e1, evAppendV P G e dst c = some e1 ∧ K e1 = some v := by
  unfold appVX at h
  split at h
  · rename_i p x1 t0 t1 d hcal hargs htys
    split at h
    · rename_i id t' xs hi hget
      split at h
      · rename_i el el1 hu0 hu1
        split at h
        · rename_i info hinfo
          split at h
          · rename_i z t y ys hz hsrc
            split at h
            · cases h
            · rename_i hne
              split at h
              · rename_i htt
                subst htt
                split at h
                · rename_i hok
                  simp only [Option.some.injEq] at h
                  subst h
                  obtain ⟨zs, hzs, hK⟩ := bind_some hK
                  unfold app at hzs
                  split at hzs
                  · rename_i hroom
                    simp only [Option.some.injEq] at hzs
                    subst hzs
                    refine ⟨_, ?_, hK⟩
                    have hu0' : P.underlying t0 = some (.slice el) := hu0
                    have hu1' : P.underlying t1 = some (.slice el1) := hu1
                    have hinfo' : P.info? el = some info := hinfo
                    simp only [evAppendV, hcal, hargs, htys, hu0', hu1', hinfo', hz, hsrc, hget]
                    rw [if_neg hne, dif_pos trivial, if_pos hok, if_pos hroom]
                  · cases hzs
                · cases h
              · cases h
          · cases h
        · cases h
      · cases h
    · cases h
  · cases h

theorem appVX_notT {q : Kex Γ ρ} {dst : Option Tmp} {c : Call} (h : appVX P G e dst c = some q) : evAppendT P G e dst c = none := by
  unfold appVX at h
  split at h
  · rename_i p x1 t0 t1 d hcal hargs htys
    split at h
    · rename_i id t' xs hi hget
      unfold evAppendT
      simp only [hcal, hargs, htys]
      repeat' split
      all_goals first | rfl | skip
      all_goals (rename_i hdst _ _; simp only [evx, hget, dstT] at hdst; cases hdst)
    · cases h
  · cases h

theorem wX_sound {q : Kex Γ ρ} {K : Env Γ.St → Option ρ} (h : wX P G e o = some q) (hK : q K = some v) : ∃ e1, evW P G e o = some e1 ∧ K e1 = some v := by
  obtain ⟨dst, op, type, pos, after, guard⟩ := o
  cases op <;> simp only [wX, reduceCtorEq] at h
  case store t ap x =>
    split at h
    · cases h
    · rename_i hd
      split at h
      · rename_i id ty xs i off d hp hx
        split at h
        · rename_i hcond
          simp only [Option.some.injEq] at h
          subst h
          obtain ⟨y, hg, h3⟩ := bind_some hK
          unfold atN at hg
          split at h3
          · rename_i z hz
            refine ⟨_, ?_, h3⟩
            simp only [evW, hp, hx, evStoreT]
            rw [if_pos hcond]
            simp only [hg, hz]
          · cases h3
        · cases h
      · cases h
  case call c =>
    split at h
    · rename_i q' hq
      simp only [Option.some.injEq] at h
      subst h
      obtain ⟨e1, h1, h2⟩ := appVX_sound hq hK
      refine ⟨e1, ?_, h2⟩
      simp only [evW, appVX_notT hq, h1]
    · split at h
      · rename_i x0 x1 t0 t1 d hcal hargs htys _
        split at h
        · rename_i el el1 hu0 hu1
          split at h
          · rename_i info hinfo
            split at h
            · rename_i z t ys hz hsrc
              split at h
              · rename_i nm xs hdst
                split at h
                · rename_i hok
                  simp only [Option.some.injEq] at h
                  subst h
                  obtain ⟨zs, hzs, hK⟩ := bind_some hK
                  unfold app at hzs
                  split at hzs
                  · rename_i hroom
                    simp only [Option.some.injEq] at hzs
                    subst hzs
                    refine ⟨_, ?_, hK⟩
                    have hu0' : P.underlying t0 = some (.slice el) := hu0
                    have hu1' : P.underlying t1 = some (.slice el1) := hu1
                    have hinfo' : P.info? el = some info := hinfo
                    simp only [evW, evAppendT, hcal, hargs, htys, hu0', hu1', hinfo', hz, hsrc, hdst]
                    rw [if_pos hok, if_pos hroom]
                  · cases hzs
                · cases h
              · cases h
            · cases h
          · cases h
        · cases h
      · cases h

theorem wXs_sound {q : Kex Γ ρ} {K : Env Γ.St → Option ρ} (h : wXs P G e o = some q) (hK : q K = some v) : ∃ e1, evW P G e o = some e1 ∧ K e1 = some v := by
  unfold wXs at h
  split at h
  · rename_i q' hq
    simp only [Option.some.injEq] at h; subst h
    exact wX_sound hq hK
  · split at h
    · rename_i r hr
      simp only [Option.some.injEq] at h; subst h
      exact ⟨r, hr, hK⟩
    · cases h

theorem routeX_sound (hS : Table Γ P G S.toS) {q : Kex Γ ρ} {K : Env Γ.St → Option ρ} (h : routeX P G S e o = some q) (hK : q K = some v) :
    ∃ e1, OpOk P G e o e1 ∧ Agree (touchW G e o) e e1 ∧ K e1 = some v := by
  unfold routeX at h
  split at h
  · rename_i q' hq
    simp only [Option.some.injEq] at h; subst h
    obtain ⟨r, hr, hk⟩ := qXs_sound hq hK
    split at hk
    · rename_i e1 he1
      refine ⟨e1, fun w0 F0 O0 a w Q hi => evQA_sim (P := P) hS hi ?_, ?_, hk⟩
      · simp only [evQA, hr, he1]
      · refine (agree_applyR he1).mono ?_
        intro t ht
        simp only [touchW, bit_or] at ht
        exact ht.1
    · cases hk
  · obtain ⟨e1, h1, h2⟩ := wXs_sound h hK
    exact ⟨e1, fun w0 F0 O0 a w Q hi => evW_sim hi h1, agree_evW h1, h2⟩

theorem fixes_kO (id : Nat) : Fixes (killOT id) := ⟨fun _ => rfl, fun _ _ => rfl, rfl⟩

theorem agree_putB (e : Env Γ.St) (id p : Nat) (t : Ty) (ys zs : List t.El) (st : Γ.St) (dst : Option Tmp) (d : V) (hp : e.get p = .ot id t ys) : Agree (bitO dst) e (putB e id p t zs st dst d) := by
  have hg : ∀ t', t' ≠ p → (⟨(e.tm.map (updB id t zs)).set p (.ot id t zs), e.vars.map (fun c => c.map (List.map (killOT id))), st⟩ : Env Γ.St).get t' = updB id t zs (e.get t') := by
    intro t' hne
    simp only [Env.get, List.getD_eq_getElem?_getD]
    rw [List.getElem?_set_ne (Ne.symm hne), List.getElem?_map]
    cases e.tm[t']? with
    | none => simp [updB, killOT]
    | some x => rfl
  have h1 : Agree 0 e (⟨(e.tm.map (updB id t zs)).set p (.ot id t zs), e.vars.map (fun c => c.map (List.map (killOT id))), st⟩ : Env Γ.St) := by
    refine ⟨by simp, by simp, ?_, ?_, ?_⟩
    · intro t' d' ht' hx
      have hne : t' ≠ p := fun h => by rw [h, hp] at hx; cases hx
      rw [hg t' hne, hx]; rfl
    · intro t' s off _ _ hx
      have hne : t' ≠ p := fun h => by rw [h, hp] at hx; cases hx
      rw [hg t' hne, hx]; rfl
    · intro s ds _ _ hx
      have h2 : (⟨(e.tm.map (updB id t zs)).set p (.ot id t zs), e.vars.map (fun c => c.map (List.map (killOT id))), st⟩ : Env Γ.St).var s = (e.mapT (killOT id)).var s := rfl
      rw [h2, var_mapT, hx]
      simp [killOT, Function.comp_def]
  exact (h1.mono (fun t' _ => by simp)).same (agree_put _ dst _)

theorem borX_sound (hS : Table Γ P G S.toS) {q : Kex Γ ρ} {K : Env Γ.St → Option ρ} (h : borX G S e o = some q) (hK : q K = some v) :
    ∃ e1, OpOk P G e o e1 ∧ Agree (touchW G e o) e e1 ∧ K e1 = some v := by
  obtain ⟨dst, op, type, pos, after, guard⟩ := o
  unfold borX at h
  split at h
  · rename_i c hop
    subst hop
    split at h
    · rename_i f p xs hcal hargs
      split at h
      · rename_i g id t ys ds hf hp hxs
        split at h
        · rename_i cx hcx
          simp only [Option.some.injEq] at h
          subst h
          obtain ⟨hlens, hK⟩ := need_some.1 hK
          obtain ⟨y, hy, hK⟩ := bind_some hK
          split at hK
          · rename_i t' zs d hres
            split at hK
            · rename_i ht
              subst ht
              refine ⟨_, fun w0 F0 O0 a w Q hi => bor_sim hS hi hcal hf hargs hp hxs hlens (by rw [toS_eqX hcx hy, hres]), ?_, hK⟩
              refine (agree_putB e id p t' ys zs _ dst d hp).mono ?_
              intro b hb
              simp only [touchW, bit_or] at hb
              exact hb.1
            · cases hK
          · cases hK
        · cases h
      · cases h
    · cases h
  · cases h

theorem routeB_sound (hS : Table Γ P G S.toS) {q : Kex Γ ρ} {K : Env Γ.St → Option ρ} (h : routeB P G S e o = some q) (hK : q K = some v) :
    ∃ e1, OpOk P G e o e1 ∧ Agree (touchW G e o) e e1 ∧ K e1 = some v := by
  unfold routeB at h
  split at h
  · rename_i q' hq
    simp only [Option.some.injEq] at h; subst h
    exact routeX_sound hS hq hK
  · exact borX_sound hS h hK

theorem anyX_sound (hS : Table Γ P G S.toS) {lg : Nat} {K : Env Γ.St → Nat → Option ρ} (h : anyX P G S e lg o K = some v) :
    ∃ e1 d, OpOk P G e o e1 ∧ Agree d e e1 ∧ K e1 (lg ||| d) = some v := by
  unfold anyX at h
  split at h
  · rename_i q hq
    obtain ⟨e1, h1, h2, h3⟩ := routeB_sound hS hq h
    exact ⟨e1, _, h1, h2, h3⟩
  · split at h
    · rename_i q hq
      obtain ⟨e1, h1, h2, h3⟩ := routeB_sound hS hq h
      exact ⟨e1, _, fun w0 F0 O0 a w Q hi => h1 w0 F0 O0 a w Q (Inv.frzOps _ _ hi), (agree_frzOps _ e).trans h2, h3⟩
    · cases h

theorem stepX_sound (hS : Table Γ P G S.toS) {lg : Nat} {K : Env Γ.St → Nat → Option ρ} (h : stepX P G S ops e lg o K = some v) :
    ∃ e1 d, StepR P G ops e o e1 ∧ Agree d e e1 ∧ K e1 (lg ||| d) = some v := by
  unfold stepX at h
  split at h
  · rename_i hg
    obtain ⟨e1, d, h1, h2, h3⟩ := anyX_sound hS h
    exact ⟨e1, d, .inl ⟨by simp only [wantedV, hg], h1⟩, h2, h3⟩
  · rename_i j want hg
    split at h
    · rename_i hj
      exact ⟨_, _, .inr ⟨by simp only [wantedV, hg, hj], rfl⟩, agree_put e o.dst _, h⟩
    · rename_i t hj
      split at h
      · rename_i b hb
        split at h
        · rename_i hlt
          have hw : wantedV ops e o = some (b == want) := by simp only [wantedV, hg, hj, hb, hlt, if_true]
          cases b with
          | true =>
            simp only [cond_true] at h
            split at h
            · rw [kOne_eq, lit_eq hb] at h
              obtain ⟨e1, d, h1, h2, h3⟩ := anyX_sound hS h
              exact ⟨e1, d, .inl ⟨hw, h1⟩, h2, h3⟩
            · rw [lit_eq hb] at h
              exact ⟨_, _, .inr ⟨hw, rfl⟩, agree_put e o.dst _, h⟩
          | false =>
            simp only [cond_false] at h
            split at h
            · rw [lit_eq hb] at h
              exact ⟨_, _, .inr ⟨hw, rfl⟩, agree_put e o.dst _, h⟩
            · rw [kOne_eq, lit_eq hb] at h
              obtain ⟨e1, d, h1, h2, h3⟩ := anyX_sound hS h
              exact ⟨e1, d, .inl ⟨hw, h1⟩, h2, h3⟩
        · cases h
      · rename_i vs hb
        exact ⟨_, _, .inr ⟨by simp only [wantedV, hg, hj, hb], rfl⟩, agree_put e o.dst _, h⟩
      · cases h

theorem seqX_sound (hS : Table Γ P G S.toS) {K : Env Γ.St → Nat → Option ρ} : ∀ (l : List Oper) (e : Env Γ.St) (lg : Nat), seqX P G S ops l e lg K = some v → ∃ e' d, SeqR P G ops l e e' ∧ Agree d e e' ∧ K e' (lg ||| d) = some v := by
  intro l
  induction l with
  | nil => intro e lg h; exact ⟨e, 0, .nil e, Agree.refl e, by rw [Nat.or_zero]; exact h⟩
  | cons o rest ih =>
    intro e lg h
    simp only [seqX] at h
    obtain ⟨e1, d, h1, h2, h3⟩ := stepX_sound hS h
    rw [kOp_eq] at h3
    obtain ⟨e', d', h4, h5, h6⟩ := ih e1 _ h3
    exact ⟨e', d ||| d', .cons h1 h4, h2.trans h5, by rw [← Nat.or_assoc]; exact h6⟩

theorem drawStepX_sound {lg : Nat} {K : Env Γ.St → Nat → Option ρ} (h : drawStepX P G S e lg o K = some v) : ∃ r e1, evQ P G S.toS e o = some r ∧ applyD e o.dst r = some e1 ∧ K e1 (lg ||| bitO o.dst) = some v := by
  unfold drawStepX at h
  split at h
  · rename_i q hq
    obtain ⟨r, hr, hk⟩ := qXs_sound hq h
    split at hk
    · rename_i e1 he1; exact ⟨r, e1, hr, he1, hk⟩
    · cases hk
  · cases h

theorem drawGoX_sound {K : Env Γ.St → Nat → Option ρ} : ∀ (l : List Oper) (e : Env Γ.St) (lg : Nat), drawGoX P G S ops l e lg K = some v → ∃ e' d, drawGo P G S.toS ops l e = some e' ∧ Agree d e e' ∧ K e' (lg ||| d) = some v := by
  intro l
  induction l with
  | nil => intro e lg h; exact ⟨e, 0, rfl, Agree.refl e, by rw [Nat.or_zero]; exact h⟩
  | cons o rest ih =>
    intro e lg h
    have run : ∀ e0 : Env Γ.St, e0 = e → wantedV ops e o = some true → (if pendOk G (dstsOf (o :: rest)) e0 o then drawStepX P G S e0 lg o (fun e1 lg => kOp o e1 (fun e1 => drawGoX P G S ops rest e1 lg K)) else none) = some v →
        ∃ e' d, drawGo P G S.toS ops (o :: rest) e = some e' ∧ Agree d e e' ∧ K e' (lg ||| d) = some v := by
      intro e0 he0 hw hh
      subst he0
      split at hh
      · rename_i hp
        obtain ⟨r, e1, h1, h2, h3⟩ := drawStepX_sound hh
        rw [kOp_eq] at h3
        obtain ⟨e', d, h4, h5, h6⟩ := ih e1 _ h3
        refine ⟨e', bitO o.dst ||| d, ?_, (agree_applyD h2).trans h5, by rw [← Nat.or_assoc]; exact h6⟩
        simp only [drawGo, hw, hp, if_true, h1, h2, h4]
      · cases hh
    have skip : ∀ e0 : Env Γ.St, e0 = e → wantedV ops e o = some false → kOne (o.dst.getD 0) (e0.put o.dst (.p (.val undef))) (fun e1 => drawGoX P G S ops rest e1 (lg ||| bitO o.dst) K) = some v →
        ∃ e' d, drawGo P G S.toS ops (o :: rest) e = some e' ∧ Agree d e e' ∧ K e' (lg ||| d) = some v := by
      intro e0 he0 hw hh
      subst he0
      rw [kOne_eq] at hh
      obtain ⟨e', d, h4, h5, h6⟩ := ih _ _ hh
      refine ⟨e', bitO o.dst ||| d, ?_, (agree_put _ o.dst _).trans h5, by rw [← Nat.or_assoc]; exact h6⟩
      simp only [drawGo, hw, h4]
    unfold drawGoX at h
    split at h
    · rename_i hg; exact run e rfl (by simp only [wantedV, hg]) h
    · rename_i j want hg
      split at h
      · rename_i hj; exact skip e rfl (by simp only [wantedV, hg, hj]) h
      · rename_i t hj
        split at h
        · rename_i b hb
          split at h
          · rename_i hlt
            have hw : wantedV ops e o = some (b == want) := by simp only [wantedV, hg, hj, hb, hlt, if_true]
            cases b with
            | true =>
              simp only [cond_true] at h
              split at h
              · rw [kOne_eq] at h; exact run _ (lit_eq hb) hw h
              · exact skip _ (lit_eq hb) hw h
            | false =>
              simp only [cond_false] at h
              split at h
              · exact skip _ (lit_eq hb) hw h
              · rw [kOne_eq] at h; exact run _ (lit_eq hb) hw h
          · cases h
        · rename_i vs hb; exact skip e rfl (by simp only [wantedV, hg, hj, hb]) h
        · cases h

theorem agree_killAll : ∀ (ds : List Nat) (e : Env Γ.St), Agree (bitsL ds) e (killAll ds e) := by
  intro ds
  induction ds with
  | nil => intro e; exact Agree.refl e
  | cons d r ih => intro e; exact (agree_kill d e).trans (ih _)

theorem drawXK_sound (hmix : P.follows .mixedOrders = true) (hS : Table Γ P G S.toS) {lg : Nat} {K : Env Γ.St → Nat → Option ρ} {k : Nat} (h : drawXK P G S ops k e lg K = some v) : ∃ e' d, (∀ (id : Nat) (w0 : World) (F0 : Blk → Prop) (O0 : Lent) (a : Act) (w : World) (Q : Exit → Act → World → Prop),
    Inv Γ G w0 F0 O0 a w e → (∀ a w, Inv Γ G w0 F0 O0 a w e' → Q .normal a w) → (Code.region id ops true).wp P Q a w) ∧ Agree d e e' ∧ K e' (lg ||| d) = some v := by
  unfold drawXK at h
  split at h
  · rename_i hc
    simp only [Bool.and_eq_true, decide_eq_true_eq] at hc
    obtain ⟨⟨⟨h1, h2⟩, h3⟩, h4⟩ := hc
    rw [kEnv_eq] at h
    obtain ⟨e1, d1, h5, h6, h7⟩ := drawGoX_sound _ _ _ h
    obtain ⟨e', d2, h8, h9, h10⟩ := seqX_sound hS _ _ _ h7
    refine ⟨e', _ ||| d1 ||| d2, fun id w0 F0 O0 a w Q hi hQ => drawR_sim hmix hS hi h1 h2 h3 (e1 := e1) ?_ h8 hQ, ((agree_killAll _ e).trans h6).trans h9, ?_⟩
    · unfold evDraw
      rw [if_pos h4]
      exact h5
    · rw [Nat.or_assoc, ← Nat.or_assoc, ← Nat.or_assoc]; exact h10
  · cases h

theorem flOf_spec {St : Type} {e1 : Env St} : ∀ (l : List Nat) (fl : List Fl), flOf ops e1 l = some fl →
    (∀ q, q ∈ fl → q.i ∈ l ∧ ∃ o, ops[q.i]? = some o ∧ o.dst = some q.d ∧ ((isPL (e1.get q.d) = true ∧ q.v = .c (e1.get q.d)) ∨ ∃ s, o.op = .move (.tmp s) ∧ q.v = .a s)) ∧ ∀ i, i ∈ l → ∃ q, q ∈ fl ∧ q.i = i := by
  intro l
  induction l with
  | nil => intro fl h; simp only [flOf, Option.some.injEq] at h; subst h; exact ⟨fun q hq => by simp at hq, fun i hi => by simp at hi⟩
  | cons i r ih =>
    intro fl h
    simp only [flOf] at h
    split at h
    · rename_i o ho
      split at h
      · rename_i d hd
        have step : ∀ q0 : Fl, q0.i = i → q0.d = d → ((isPL (e1.get d) = true ∧ q0.v = .c (e1.get d)) ∨ ∃ s, o.op = .move (.tmp s) ∧ q0.v = .a s) → (flOf ops e1 r).map (q0 :: ·) = some fl →
            (∀ q, q ∈ fl → q.i ∈ i :: r ∧ ∃ o, ops[q.i]? = some o ∧ o.dst = some q.d ∧ ((isPL (e1.get q.d) = true ∧ q.v = .c (e1.get q.d)) ∨ ∃ s, o.op = .move (.tmp s) ∧ q.v = .a s)) ∧ ∀ j, j ∈ i :: r → ∃ q, q ∈ fl ∧ q.i = j := by
          intro q0 h1 h2 h3 hm
          simp only [Option.map_eq_some_iff] at hm
          obtain ⟨fl0, hfl0, rfl⟩ := hm
          obtain ⟨g1, g2⟩ := ih fl0 hfl0
          refine ⟨?_, ?_⟩
          · intro q hq
            rcases List.mem_cons.1 hq with rfl | hq
            · rw [h1, h2]; exact ⟨by simp, o, ho, hd, h3⟩
            · obtain ⟨k1, k2⟩ := g1 q hq
              exact ⟨List.mem_cons_of_mem _ k1, k2⟩
          · intro j hj
            rcases List.mem_cons.1 hj with rfl | hj
            · exact ⟨q0, by simp, h1⟩
            · obtain ⟨q, k1, k2⟩ := g2 j hj
              exact ⟨q, List.mem_cons_of_mem _ k1, k2⟩
        split at h
        · rename_i hpl; exact step ⟨i, d, .c (e1.get d)⟩ rfl rfl (.inl ⟨hpl, rfl⟩) h
        · split at h
          · rename_i s hop; exact step ⟨i, d, .a s⟩ rfl rfl (.inr ⟨s, hop, rfl⟩) h
          · cases h
      · cases h
    · cases h

theorem flD_iff {fl : List Fl} {t : Nat} : flD fl t = true ↔ ∃ q, q ∈ fl ∧ q.d = t := by
  simp only [flD, List.any_eq_true]
  constructor
  · rintro ⟨q, hq, h⟩; exact ⟨q, hq, Nat.eq_of_beq_eq_true h⟩
  · rintro ⟨q, hq, rfl⟩; exact ⟨q, hq, by simp⟩

theorem flOkB_sound {n : Nat} {fl : List Fl} (h1 : flOkB n fl = true) (h2 : flSrcB fl = true) : FlOk n fl := by
  have hd : ∀ l : List Fl, flOkB n l = true → l.Pairwise (fun p q => p.d ≠ q.d) ∧ ∀ q, q ∈ l → q.d < n := by
    intro l
    induction l with
    | nil => intro _; exact ⟨.nil, fun q hq => by simp at hq⟩
    | cons q r ih =>
      intro h
      simp only [flOkB, Bool.and_eq_true, Bool.not_eq_true'] at h
      obtain ⟨⟨g1, g2⟩, g3⟩ := h
      obtain ⟨k1, k2⟩ := ih g3
      refine ⟨List.pairwise_cons.2 ⟨?_, k1⟩, ?_⟩
      · intro p hp hh
        have : flD r q.d = true := flD_iff.2 ⟨p, hp, hh.symm⟩
        rw [g1] at this; cases this
      · intro p hp
        rcases List.mem_cons.1 hp with rfl | hp
        · simpa using g2
        · exact k2 p hp
  refine ⟨(hd fl h1).1, (hd fl h1).2, ?_⟩
  intro q hq s hs p hp hh
  have := List.all_eq_true.1 h2 q hq
  rw [hs] at this
  simp only [Bool.not_eq_true'] at this
  have h3 : flD fl s = true := flD_iff.2 ⟨p, hp, hh.symm⟩
  rw [this] at h3; cases h3

theorem noD_kill {d : Nat} {x : T} (h : noD d x = true) : killT d x = x := by
  cases x <;> simp only [noD, killT] at h ⊢ <;> first | rfl | (rw [if_neg]; intro hh; subst hh; simp at h)

theorem clean_kill {St : Type} {d : Nat} {e : Env St} (h1 : ∀ x, x ∈ e.tm → noD d x = true) (h2 : ∀ cs, some cs ∈ e.vars → ∀ x, x ∈ cs → noD d x = true) (h3 : e.var d = none) : e.kill d = e := by
  obtain ⟨tm, vars, st⟩ := e
  simp only [Env.kill, Env.mk.injEq, and_true]
  refine ⟨?_, ?_⟩
  · exact (List.map_congr_left (fun x hx => noD_kill (h1 x hx))).trans (List.map_id _)
  · have hs : vars.set d none = vars := by
      apply List.ext_getElem?
      intro i
      rw [List.getElem?_set]
      split
      · rename_i h; subst h
        simp only [Env.var] at h3
        split
        · rename_i hl
          rw [List.getElem?_eq_getElem hl] at h3 ⊢
          simpa using h3.symm
        · rename_i hl; rw [List.getElem?_eq_none (by omega)]
      · rfl
    rw [hs]
    refine (List.map_congr_left (g := id) ?_).trans (List.map_id _)
    intro c hc
    cases c with
    | none => rfl
    | some cs => exact congrArg some ((List.map_congr_left (fun x hx => noD_kill (h2 cs hc x hx))).trans (List.map_id _))

theorem evQ_st {S : Specs Γ} {L : Look} (st : Γ.St) (hc : isCall o = false) : evQ L G S { e with st := st } o = evQ L G S e o :=
  evQ_congrS (fun x _ => by cases x <;> rfl) (fun _ _ _ _ _ => rfl) (fun h => by rw [hc] at h; cases h)

theorem putL_tm {St : Type} {b : Env St} : ∀ (L : List Fl) (b : Env St) (x : T), x ∈ (putL b L).tm → x ∈ b.tm ∨ (∃ q, q ∈ L ∧ ∃ y, q.v = .c y ∧ x = y) ∨ x = .dead := by
  intro L
  induction L with
  | nil => intro b x h; exact .inl h
  | cons q L ih =>
    intro b x h
    rcases ih (putF b q) x h with h | ⟨r, hr, y, hy⟩ | h
    · simp only [putF] at h
      rcases List.mem_or_eq_of_mem_set h with h | h
      · exact .inl h
      · unfold Fl.val at h
        cases hv : q.v with
        | c y => rw [hv] at h; exact .inr (.inl ⟨q, by simp, y, hv, h⟩)
        | a s =>
          rw [hv] at h
          simp only [Env.get, List.getD_eq_getElem?_getD] at h
          cases hg : b.tm[s]? with
          | none => rw [hg] at h; exact .inr (.inr h)
          | some z => rw [hg] at h; simp only [Option.getD_some] at h; subst h; exact .inl (List.mem_of_getElem? hg)
    · exact .inr (.inl ⟨r, List.mem_cons_of_mem _ hr, y, hy⟩)
    · exact .inr (.inr h)

theorem okFl_sound {Sp : Specs Γ} {Cm Um : Nat} {anc : Array Nat} (hch : ChSt ops anc Cm Um) {fl : List Fl} {e1 b : Env Γ.St} {m : Nat} (hfl : FlOk e1.tm.length fl)
    (hspec : ∀ q, q ∈ fl → Cm.testBit q.i = false ∧ Um.testBit q.i = true ∧ ∃ o, ops[q.i]? = some o ∧ o.dst = some q.d ∧ ((isPL (e1.get q.d) = true ∧ q.v = .c (e1.get q.d)) ∨ ∃ s, o.op = .move (.tmp s) ∧ q.v = .a s))
    (hvar : ∀ q, q ∈ fl → e1.var q.d = none) (hA : Agree m (deadL e1 fl) b)
    {q : Fl} (hq : q ∈ fl) (hst : ∀ o, ops[q.i]? = some o → ∃ st st', StepAt P G Sp (opsQ ops Cm) e1 st o st') (h : okFl ops fl m e1 b q = true) : FloatOk P G Sp ops fl b q := by
  intro o p ho hp
  obtain ⟨hC, hU, o', ho', hd, hcase⟩ := hspec q hq
  rw [ho] at ho'
  cases ho'
  have hg := hch.guardC q.i o ho (.inr hU)
  have hnc := hch.call q.i o ho hC hU
  obtain ⟨d1, d2, d3⟩ := deadL_ok hfl
  have hlen : b.tm.length = e1.tm.length := hA.tl.trans d1.len
  obtain ⟨a1, a2⟩ := putL_get (fl.filter p) b e1.tm.length (hfl.filter p) (by rw [hlen]; exact Nat.le_refl _)
  have hal := putL_alike (fl.filter p) b
  unfold okFl at h
  rw [ho] at h
  simp only at h
  rcases hcase with ⟨hpl, hv⟩ | ⟨s, hop, hv⟩
  · -- a value
    rw [hv] at h
    simp only [Bool.and_eq_true] at h
    obtain ⟨⟨h1, h2⟩, h3⟩ := h
    obtain ⟨st, st', hstep⟩ := hst o ho
    rcases hstep with ⟨_, r, hev, _, hneed, hdst⟩ | ⟨hw, _⟩
    · obtain ⟨g1, g2, g3⟩ := hdst q.d hd
      have hget := g1 (hfl.lt q hq)
      have hev' : evQ P G Sp (putL b (fl.filter p)) o = some r := by
        rw [← hev, evQ_st st hnc, ← evQ_st (e := e1) (putL b (fl.filter p)).st hnc]
        have hops : ∀ x, x ∈ o.op.operands → evx G (putL b (fl.filter p)) x = evx G e1 x ∧ ∀ s off, evx G e1 x = .lp s off → (putL b (fl.filter p)).var s = e1.var s := by
          intro x hx
          have hok := List.all_eq_true.1 h1 x (by simpa using hx)
          cases x with
          | tmp t =>
            simp only [okOpnd, Bool.and_eq_true, Bool.or_eq_true] at hok
            obtain ⟨hwhich, hm⟩ := hok
            have hvars : ∀ s off, e1.get t = .lp s off → (putL b (fl.filter p)).var s = e1.var s := by
              intro s off hlp
              rw [hlp] at hm
              simp only [Bool.and_eq_true, Bool.not_eq_true'] at hm
              obtain ⟨hsb, hm⟩ := hm
              split at hm
              · rename_i cs hcs
                simp only [Bool.and_eq_true, Bool.not_eq_true'] at hm
                have hds : ∃ ds : List V, cs = ds.map T.p := by
                  have hall := hm.1
                  clear hcs hm
                  induction cs with
                  | nil => exact ⟨[], rfl⟩
                  | cons c cs ih =>
                    simp only [List.all_cons, Bool.and_eq_true] at hall
                    obtain ⟨ds, hds⟩ := ih hall.2
                    cases c with
                    | p d0 => exact ⟨d0 :: ds, by rw [hds]; rfl⟩
                    | _ => simp at hall
                obtain ⟨ds, rfl⟩ := hds
                have hvv := hA.v s ds hsb hm.2 (by rw [d1.var]; exact hcs)
                rw [hal.var, hvv, hcs]
              · cases hm
            refine ⟨?_, fun s off hs => hvars s off hs⟩
            show (putL b (fl.filter p)).get t = e1.get t
            rcases hwhich with hok | hok
            · simp only [flC, List.any_eq_true, Bool.and_eq_true] at hok
              obtain ⟨q', hq', hqd, hqc⟩ := hok
              have hqd := Nat.eq_of_beq_eq_true hqd
              subst hqd
              obtain ⟨_, _, o2, ho2, hd2, hcase2⟩ := hspec q' hq'
              have hpq := hp q' hq' hx
              have hval := a2 q' (List.mem_filter.2 ⟨hq', hpq⟩)
              have hv2 : q'.v = .c (e1.get q'.d) := by
                rcases hcase2 with ⟨_, h5⟩ | ⟨s5, _, h5⟩
                · exact h5
                · rw [h5] at hqc; cases hqc
              rw [hval]; unfold Fl.val; rw [hv2]
            · simp only [Bool.and_eq_true, Bool.not_eq_true'] at hok
              obtain ⟨hnf, hbit⟩ := hok
              have hnf' : ∀ q', q' ∈ fl → t ≠ q'.d := by
                intro q' hq' hh
                have : flD fl t = true := flD_iff.2 ⟨q', hq', hh.symm⟩
                rw [hnf] at this; cases this
              have hdt := d2 t hnf'
              have hbt := a1 t (fun q' hq' => hnf' q' (List.mem_filter.1 hq').1)
              split at hm
              · rename_i dv hdv
                have := hA.p t dv hbit (by rw [hdt]; exact hdv)
                rw [hbt, this, hdv]
              · rename_i s off hlp
                simp only [Bool.and_eq_true, Bool.not_eq_true'] at hm
                have := hA.lp t s off hbit hm.1 (by rw [hdt]; exact hlp)
                rw [hbt, this, hlp]
              · cases hm
          | _ => exact ⟨rfl, fun s off hs => by
              simp only [evx] at hs
              first | cases hs | (split at hs <;> cases hs)⟩
        exact evQ_congr (fun x hx => (hops x hx).1) (fun x hx s off hs => (hops x hx).2 s off (by rw [← (hops x hx).1]; exact hs)) rfl
      have hrc := evQ_nc hev hnc
      refine .inl ?_
      simp only [evQA, hev', hd]
      have hgoal : ∀ e2 : Env Γ.St, e2 = { (putL b (fl.filter p)) with tm := (putL b (fl.filter p)).tm.set q.d (resT q.d r) } → some e2 = some (putF (putL b (fl.filter p)) q) := by
        intro e2 he2
        rw [he2]
        unfold putF Fl.val
        rw [hv, hget]
      unfold applyR
      cases hn : r.needs with
      | false =>
        simp only [hn, Bool.false_eq_true, if_false]
        apply hgoal
        cases r with
        | ret x => rfl
        | call _ _ _ => cases hrc
        | _ => cases hn
      | true =>
        simp only [hn, if_true]
        unfold clean at h2
        simp only [Bool.and_eq_true] at h2
        obtain ⟨⟨⟨k1, k2⟩, k3⟩, k4⟩ := h2
        have hvl : q.d < (putL b (fl.filter p)).vars.length := by rw [hal.vars]; simpa using k4
        rw [if_pos ⟨hvl, by obtain ⟨d', hd', hdL⟩ := hneed hn; rw [hd] at hd'; simp only [Option.some.injEq] at hd'; rw [hd']; exact hdL⟩]
        have hk : (putL b (fl.filter p)).kill q.d = putL b (fl.filter p) := by
          refine clean_kill ?_ ?_ ?_
          · intro x hx
            rcases putL_tm (b := b) _ _ x hx with hx | ⟨q', hq', y, hy, rfl⟩ | rfl
            · exact List.all_eq_true.1 k1 x hx
            · have := List.all_eq_true.1 h3 q' (List.mem_filter.1 hq').1
              rw [hy] at this
              exact this
            · rfl
          · intro cs hcs x hx
            rw [hal.vars] at hcs
            have := List.all_eq_true.1 k2 (some cs) hcs
            exact List.all_eq_true.1 this x hx
          · rw [hal.var]; exact Option.isNone_iff_eq_none.1 k3
        rw [hk]
        apply hgoal
        cases r with
        | var cs => have := g2 cs rfl; rw [hvar q hq] at this; cases this
        | call _ _ _ => cases hrc
        | ret x => cases hn
        | _ => rfl
    · simp only [wantedV, hg] at hw
      cases hw
  · -- a copy
    refine .inl ?_
    obtain ⟨dst, op, type, pos, after, guard⟩ := o
    simp only at hop hd
    subst hop hd
    simp only [evQA, evQ, applyR, R.needs, Bool.false_eq_true, if_false]
    simp only [putF, Fl.val, hv]
    rfl

theorem routeX_route0 {q : Kex Γ ρ} {K : Env Γ.St → Option ρ} (h : routeX P G S e o = some q) (hK : q K = some v) :
    ∃ e1, (evQA P G S.toS e o = some e1 ∨ evW P G e o = some e1) ∧ Agree (touchW G e o) e e1 ∧ K e1 = some v := by
  unfold routeX at h
  split at h
  · rename_i q' hq
    simp only [Option.some.injEq] at h; subst h
    obtain ⟨r, hr, hk⟩ := qXs_sound hq hK
    split at hk
    · rename_i e1 he1
      refine ⟨e1, .inl ?_, ?_, hk⟩
      · simp only [evQA, hr, he1]
      · refine (agree_applyR he1).mono ?_
        intro t ht
        simp only [touchW, bit_or] at ht
        exact ht.1
    · cases hk
  · obtain ⟨e1, h1, h2⟩ := wXs_sound h hK
    exact ⟨e1, .inr h1, agree_evW h1, h2⟩

theorem agree_frzI : ∀ (l : List Nat) (e : Env Γ.St), Agree 0 e (frzI l e) := by
  intro l
  induction l with
  | nil => intro e; exact Agree.refl e
  | cons i r ih => intro e; exact ((agree_frzOE i e).trans (ih _)).mono (fun t _ => by simp)

theorem routeF_route {q : Kex Γ ρ} {K : Env Γ.St → Option ρ} (h : routeF P G S e o = some q) (hK : q K = some v) :
    ∃ e1, Route P G S.toS e o e1 ∧ Agree (touchW G e o) e e1 ∧ K e1 = some v := by
  unfold routeF at h
  split at h
  · rename_i q' hq
    simp only [Option.some.injEq] at h; subst h
    obtain ⟨e1, h1, h2, h3⟩ := routeX_route0 hq hK
    exact ⟨e1, h1.elim .inl (fun h => .inr (.inl h)), h2, h3⟩
  · split at h
    · rename_i hB
      obtain ⟨e1, h1, h2, h3⟩ := routeX_route0 h hK
      refine ⟨e1, ?_, ?_, h3⟩
      · rcases h1 with h1 | h1
        · exact .inr (.inr ⟨hB, h1⟩)
        · exfalso
          unfold isBuild at hB
          split at hB
          · rename_i hop
            simp only [evW, hop] at h1
            cases h1
          · cases hB
      · rw [touchW_build hB] at h2 ⊢
        exact ((agree_frzI _ e).trans h2).mono (fun t ht => by simpa using ht)
    · cases h

theorem bitsF_bit : ∀ {fl : List Fl} {t : Nat}, (bitsF fl).testBit t = false → ∀ q, q ∈ fl → t ≠ 2 * q.d := by
  intro fl
  induction fl with
  | nil => intro t _ q hq; simp at hq
  | cons p r ih =>
    intro t h q hq
    simp only [bitsF, bit_or] at h
    rcases List.mem_cons.1 hq with rfl | hq
    · exact (bit_pow _ _).1 h.1
    · exact ih h.2 q hq

theorem agree_putL {St : Type} : ∀ (L : List Fl) (e : Env St), Agree (bitsF L) e (putL e L) := by
  intro L
  induction L with
  | nil => intro e; exact Agree.refl e
  | cons q L ih => intro e; exact (agree_set q.d (q.val e) e).trans (ih (putF e q))

theorem bitsF_sub {L fl : List Fl} (h : ∀ q, q ∈ L → ∃ r, r ∈ fl ∧ r.d = q.d) {t : Nat} (ht : (bitsF fl).testBit t = false) : (bitsF L).testBit t = false := by
  induction L with
  | nil => simp [bitsF]
  | cons q L ih =>
    simp only [bitsF, bit_or]
    refine ⟨(bit_pow _ _).2 ?_, ih (fun p hp => h p (List.mem_cons_of_mem _ hp))⟩
    obtain ⟨r, hr, hrd⟩ := h q (by simp)
    rw [← hrd]
    exact bitsF_bit ht r hr

theorem staysB_sound {m : Nat} {dst : Option Nat} {q : Fl} (h : staysB m dst q = true) : Stays m dst q := by
  unfold staysB at h
  simp only [Bool.and_eq_true] at h
  obtain ⟨h1, h2⟩ := h
  refine ⟨?_, ?_⟩
  · intro hh
    rw [hh] at h1
    simp at h1
  · split at h2
    · rename_i hv; rw [hv]; trivial
    · rename_i hv; rw [hv]; simpa using h2
    · cases h2
    · rename_i s hv
      rw [hv]
      intro hh
      rw [hh] at h2
      simp at h2

theorem chainGoX_sound {Cm Um : Nat} {anc : Array Nat} (hch : ChSt ops anc Cm Um) {fl : List Fl} {e1 : Env Γ.St} (hfl : FlOk e1.tm.length fl)
    (hspec : ∀ q, q ∈ fl → Cm.testBit q.i = false ∧ Um.testBit q.i = true ∧ ∃ o, ops[q.i]? = some o ∧ o.dst = some q.d ∧ ((isPL (e1.get q.d) = true ∧ q.v = .c (e1.get q.d)) ∨ ∃ s, o.op = .move (.tmp s) ∧ q.v = .a s))
    (hvar : ∀ q, q ∈ fl → e1.var q.d = none)
    (hst : ∀ q, q ∈ fl → ∀ o, ops[q.i]? = some o → ∃ st st', StepAt P G S.toS (opsQ ops Cm) e1 st o st') {K : Env Γ.St → Nat → Option ρ} : ∀ (l : List Nat) (b : Env Γ.St) (m : Nat),
    chainGoX P G S ops anc fl e1 l b m K = some v → Agree m (deadL e1 fl) b → (∀ t, m.testBit t = false → (bitsF fl).testBit t = false) →
    ∃ b' M, ChainR P G S.toS ops anc fl l b b' ∧ Agree M (deadL e1 fl) (putL b' fl) ∧ (∀ t, M.testBit t = false → (bitsF fl).testBit t = false) ∧ K (putL b' fl) M = some v := by
  intro l
  induction l with
  | nil =>
    intro b m h hA hm
    simp only [chainGoX] at h
    rw [kEnv_eq] at h
    exact ⟨b, _, .nil b, hA.trans (agree_putL fl b), fun t ht => ((bit_or _ _ _).1 ht).2, h⟩
  | cons c rest ih =>
    intro b m h hA hm
    simp only [chainGoX] at h
    split at h
    · rename_i o ho
      rw [kEnv_eq] at h
      split at h
      · rename_i hchk
        simp only [Bool.and_eq_true] at hchk
        obtain ⟨hops, hstays⟩ := hchk
        split at h
        · rename_i q hq
          obtain ⟨b1, h1, h2, h3⟩ := routeF_route hq h
          rw [kOp_eq] at h3
          split at h3
          · rename_i hok
            have hA1 : Agree (m ||| (bitsF fl ||| touchW G (putL b (fl.filter (ancA anc c))) o)) (deadL e1 fl) b1 := by
              have hput : Agree (bitsF fl) b (putL b (fl.filter (ancA anc c))) := (agree_putL _ b).mono (fun t ht => bitsF_sub (fun q hq => ⟨q, (List.mem_filter.1 hq).1, rfl⟩) ht)
              exact hA.trans (hput.trans h2)
            obtain ⟨b', M, g1, g2, g3, g4⟩ := ih b1 _ h3 hA1 (fun t ht => hm t ((bit_or _ _ _).1 ht).1)
            refine ⟨b', M, .cons ho h1 ?_ ?_ ?_ g1, g2, g3, g4⟩
            · intro q hqf hx
              have hx1 := List.all_eq_true.1 hops (.tmp q.d) (by simpa using hx)
              have hx2 := List.all_eq_true.1 hx1 q hqf
              simpa [ancA] using hx2
            · intro q hqf
              exact staysB_sound (List.all_eq_true.1 hstays q hqf)
            · intro q hqf hnA
              have hx := List.all_eq_true.1 hok q hqf
              rw [show ancA anc c q = false from hnA, Bool.false_or] at hx
              exact okFl_sound hch hfl hspec hvar hA1 hqf (hst q hqf) hx
          · cases h3
        · cases h
      · cases h
    · cases h

theorem chainX_sound (hmix : P.follows .mixedOrders = true) (hS : Table Γ P G S.toS) {Cm Um lg : Nat} {K : Env Γ.St → Nat → Option ρ} (h : chainX P G S ops Cm Um e lg K = some v) : ∃ e' d, (∀ (id : Nat) (w0 : World) (F0 : Blk → Prop) (O0 : Lent) (a : Act) (w : World) (Q : Exit → Act → World → Prop),
    Inv Γ G w0 F0 O0 a w e → (∀ a w, Inv Γ G w0 F0 O0 a w e' → Q .normal a w) → (Code.region id ops true).wp P Q a w) ∧ Agree d e e' ∧ K e' (lg ||| d) = some v := by
  unfold chainX at h
  split at h
  · rename_i hchk
    have hch := chst_of hchk
    rw [kEnv_eq] at h
    obtain ⟨e1, d1, h1, h2, h3⟩ := drawGoX_sound _ _ _ h
    split at h3
    · rename_i fl hfl
      split at h3
      · rename_i hc
        simp only [Bool.and_eq_true] at hc
        obtain ⟨⟨⟨c1, c2⟩, c3⟩, c4⟩ := hc
        have hflok := flOkB_sound c1 c2
        obtain ⟨s1, s2⟩ := flOf_spec _ _ hfl
        have hspec : ∀ q, q ∈ fl → Cm.testBit q.i = false ∧ Um.testBit q.i = true ∧ ∃ o, ops[q.i]? = some o ∧ o.dst = some q.d ∧ ((isPL (e1.get q.d) = true ∧ q.v = .c (e1.get q.d)) ∨ ∃ s, o.op = .move (.tmp s) ∧ q.v = .a s) := by
          intro q hq
          obtain ⟨k1, k2⟩ := s1 q hq
          simp only [List.mem_filter, Bool.and_eq_true, Bool.not_eq_true'] at k1
          exact ⟨k1.2.2, k1.2.1, k2⟩
        have hvar : ∀ q, q ∈ fl → e1.var q.d = none := fun q hq => Option.isNone_iff_eq_none.1 (List.all_eq_true.1 c3 q hq)
        have hah := ahead_of hch.st 0 (opsQ ops Cm).toList (by simp)
        have hno : ∀ d, d ∈ dstsOf (opsQ ops Cm).toList → (killAll (dstsOf (opsQ ops Cm).toList) e).var d = none := by
          intro d hd
          cases hv : (killAll (dstsOf (opsQ ops Cm).toList) e).var d with
          | none => rfl
          | some cs => exact absurd ⟨cs, hv⟩ (killAll_alive _ e d hd).1
        obtain ⟨sts, _, _, hsteps, _, _, _⟩ := drawGo_trace _ _ _ h1 hah hno
        have hst : ∀ q, q ∈ fl → ∀ o, ops[q.i]? = some o → ∃ st st', StepAt P G S.toS (opsQ ops Cm) e1 st o st' := by
          intro q hq o ho
          exact ⟨_, _, hsteps q.i o (by rw [Array.getElem?_toList]; exact opsQ_some ho (hspec q hq).1)⟩
        rw [kEnv_eq] at h3
        have hdead : Agree (bitsF fl) e1 (deadL e1 fl) := (agree_putL _ e1).mono (fun t ht => bitsF_sub (fun q hq => by
          obtain ⟨p, hp, rfl⟩ := List.mem_map.1 hq
          exact ⟨p, hp, rfl⟩) ht)
        have hA0 : Agree (bitsF fl) (deadL e1 fl) (deadL e1 fl) := (Agree.refl _).mono (fun t _ => by simp)
        obtain ⟨b', M, g1, g2, g3, g4⟩ := chainGoX_sound hch hflok hspec hvar hst _ _ _ h3 hA0 (fun t ht => ht)
        have hfv : ∀ q, q ∈ fl → e1.get q.d = q.val e1 ∧ e1.var q.d = none := by
          intro q hq
          refine ⟨?_, hvar q hq⟩
          obtain ⟨hC, hU, o, ho, hd, hcase⟩ := hspec q hq
          rcases hcase with ⟨_, hv⟩ | ⟨s, hop, hv⟩
          · unfold Fl.val; rw [hv]
          · obtain ⟨st, st', hstep⟩ := hst q hq o ho
            have hg := hch.guardC q.i o ho (.inr hU)
            rcases hstep with ⟨_, r, hev, _, _, hdst⟩ | ⟨hw, _⟩
            · obtain ⟨k1, _, _⟩ := hdst q.d hd
              rw [k1 (hflok.lt q hq)]
              simp only [evQ, hop, Option.some.injEq] at hev
              subst hev
              unfold Fl.val; rw [hv]; rfl
            · simp only [wantedV, hg] at hw; cases hw
        refine ⟨putL b' fl, (bitsL (dstsOf (opsQ ops Cm).toList) ||| d1) ||| M, ?_, ?_, ?_⟩
        · intro id w0 F0 O0 a w Q hi hQ
          refine chain_sim hmix hch hS hi h1 hflok ?_ ?_ hfv ?_ g1 hQ
          · intro i hU hC hlt
            exact s2 i (by simp [hlt, hU, hC])
          · intro q hq
            obtain ⟨k1, k2, o, ho, hd, _⟩ := hspec q hq
            exact ⟨k1, k2, o, ho, hd⟩
          · intro q hq
            exact okFl_sound hch hflok hspec hvar hA0 hq (hst q hq) (List.all_eq_true.1 c4 q hq)
        · have hd2 : Agree M e1 (putL b' fl) := (hdead.mono (fun t ht => g3 t ht)).same g2
          exact ((agree_killAll _ e).trans h2).trans hd2
        · rw [← Nat.or_assoc, ← Nat.or_assoc]; exact g4
      · cases h3
    · cases h3
  · cases h

theorem regX0_sound (hmix : P.follows .mixedOrders = true) (hS : Table Γ P G S.toS) {d : Bool} {fz : Option (List (Nat × Nat × Nat))} {lg : Nat} {K : Env Γ.St → Nat → Option ρ} {id : Nat} (h : regX0 P G S ops d fz e lg K = some v) :
    ∃ e' n, CodeOk P G (.region id ops d) e .normal e' ∧ Agree n e e' ∧ K e' (lg ||| n) = some v := by
  have draw : ∀ (e : Env Γ.St) (lg k : Nat), drawXK P G S ops k e lg K = some v → ∃ e' n, CodeOk P G (.region id ops true) e .normal e' ∧ Agree n e e' ∧ K e' (lg ||| n) = some v := by
    intro e lg k h
    obtain ⟨e1, n, h1, h2, h3⟩ := drawXK_sound hmix hS h
    exact ⟨e1, n, fun w0 F0 O0 a w hi => h1 id w0 F0 O0 a w _ hi (fun a w h => ⟨rfl, h⟩), h2, h3⟩
  unfold regX0 at h
  split at h
  · obtain ⟨e1, n, h1, h2, h3⟩ := seqX_sound hS _ _ _ h
    refine ⟨e1, n, ?_, h2, h3⟩
    intro w0 F0 O0 a w hi
    refine wp_region ?_
    have := seq_ops (Q := fun ex a' w' => ex = X.toExit .normal ∧ Inv Γ G w0 F0 O0 a' w' e1) ops 0 ops.toList e e1 a w (by simp) h1 hi (fun a w h => ⟨rfl, h⟩)
    simpa [List.range_eq_range'] using this
  · split at h
    · exact draw e lg _ h
    · rw [kEnv_eq] at h
      obtain ⟨e1, n, h1, h2, h3⟩ := draw _ _ _ h
      exact ⟨e1, _, fun w0 F0 O0 a w hi => h1 w0 F0 O0 a w (Inv.frzOps _ _ hi), (agree_frzOps _ e).trans h2, by rw [← Nat.or_assoc]; exact h3⟩
    · split at h
      · exact draw e lg _ h
      · exact draw e lg _ h
      · rw [kEnv_eq] at h
        obtain ⟨e1, n, h1, h2, h3⟩ := chainX_sound hmix hS h
        exact ⟨e1, _, fun w0 F0 O0 a w hi => h1 id w0 F0 O0 a w _ (Inv.frzOps _ _ hi) (fun a w h => ⟨rfl, h⟩), (agree_frzOps _ e).trans h2, by rw [← Nat.or_assoc]; exact h3⟩

theorem fixes_ren (a b : Nat) : Fixes (renT a b) := ⟨fun _ => rfl, fun _ _ => rfl, rfl⟩

theorem renX_sound {K : Env Γ.St → Option ρ} : ∀ (l : List (Nat × Nat × Nat)) (e : Env Γ.St), renX l e K = some v → ∃ e', Agree 0 e e' ∧ K e' = some v ∧ ∀ (w0 : World) (F0 : Blk → Prop) (O0 : Lent) (a : Act) (w : World), Inv Γ G w0 F0 O0 a w e → Inv Γ G w0 F0 O0 a w e' := by
  intro l
  induction l with
  | nil => intro e h; exact ⟨e, Agree.refl e, h, fun _ _ _ _ _ h => h⟩
  | cons x r ih =>
    intro e h
    obtain ⟨a, b, n⟩ := x
    simp only [renX] at h
    split at h
    · split at h
      · rename_i hb
        rw [kEnv_eq] at h
        obtain ⟨e', h1, h2, h3⟩ := ih _ h
        exact ⟨e', (agree_mapT (fixes_ren a b) e).same h1, h2, fun w0 F0 O0 a0 w hi => h3 w0 F0 O0 a0 w (by
          simp only [Bool.and_eq_true, Bool.not_eq_true'] at hb
          exact hi.ren hb.1 (fun h => by rw [h] at hb; simp at hb) (fun h => by rw [h] at hb; simp at hb))⟩
      · cases h
    · rw [kEnv_eq] at h
      obtain ⟨e', h1, h2, h3⟩ := ih _ h
      exact ⟨e', (agree_frzOE _ e).same h1, h2, fun w0 F0 O0 a0 w hi => h3 w0 F0 O0 a0 w (hi.frzOE _)⟩
    · exact ih e h

theorem regX_sound (hmix : P.follows .mixedOrders = true) (hS : Table Γ P G S.toS) {d : Bool} {fz : Option (List (Nat × Nat × Nat))} {lg : Nat} {K : Env Γ.St → Nat → Option ρ} {id : Nat} (h : regX P G S ops d fz e lg K = some v) :
    ∃ e' n, CodeOk P G (.region id ops d) e .normal e' ∧ Agree n e e' ∧ K e' (lg ||| n) = some v := by
  unfold regX at h
  split at h
  · exact regX0_sound hmix hS h
  · exact regX0_sound hmix hS h
  · obtain ⟨e1, n, h1, h2, h3⟩ := regX0_sound hmix hS (id := id) h
    obtain ⟨e2, g1, g2, g3⟩ := renX_sound (G := G) _ _ h3
    refine ⟨e2, n, ?_, h2.same (g1.mono (fun t _ => by simp)), g2⟩
    intro w0 F0 O0 a w hi
    exact wp_mono (h1 w0 F0 O0 a w hi) (fun ex a' w' hh => ⟨hh.1, g3 w0 F0 O0 a' w' hh.2⟩)
end
end Go.Ve

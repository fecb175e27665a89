/-
  The evaluator over pure values, part 13: regions, statements, functions.
-/
import Derived.Test.YtggmpbaiijodiaaGreatNvVe12
namespace Go.Ve
open Go

section
variable {Γ : Sig} {P : Program} {G : Nat → Option (List V)} {S : Specs Γ} {w0 : World} {F0 O0 : Nat → Prop} {ops : Array Oper} {a : Act} {w : World} {e e' : Env Γ.St} {sts : Nat → Γ.St}

theorem Inv.kill (h : Inv Γ G w0 F0 O0 a w e) (d : Nat) : Inv Γ G w0 F0 O0 a w (e.kill d) := by
  obtain ⟨F, O, β, hc, hG, hsz, hdf, ht, hv⟩ := h
  refine Inv.of (al := alm d (alive e)) (hc.anti (fun x hx => hx.1)) hG (by simpa [Env.kill] using hsz) hdf (fun t => by rw [get_map]; exact TRel.kill (ht t)) ?_ ?_
  · intro s cs hcs
    rw [var_kill] at hcs
    split at hcs
    · cases hcs
    · rename_i hne
      simp only [Option.map_eq_some_iff] at hcs
      obtain ⟨cs0, hcs0, rfl⟩ := hcs
      exact ⟨⟨⟨cs0, hcs0⟩, by simpa using hne, by simp⟩, VarRel.kill (hv s cs0 hcs0)⟩
  · rintro s ⟨⟨cs, hcs⟩, hne, _⟩
    have hne' : s ≠ d := by simpa using hne
    exact ⟨_, by rw [var_kill, if_neg hne', hcs]; rfl⟩

def killAll (ds : List Nat) (e : Env Γ.St) : Env Γ.St := ds.foldl (fun e d => e.kill d) e

theorem killT_no {d : Nat} {x : T} : ¬ (killT d x).hasO d := by
  cases x <;> simp only [killT] <;> (try split) <;> simp_all [T.hasO]

theorem kill_alive (d : Nat) : ¬ alive (e.kill d) (.v d) ∧ ¬ alive (e.kill d) (.o d) := by
  refine ⟨?_, ?_⟩
  · rintro ⟨cs, hcs⟩; rw [var_kill, if_pos rfl] at hcs; cases hcs
  · rintro ⟨x, hx, hid⟩
    rcases hx with hx | ⟨s, cs, hcs, hx⟩
    · simp only [Env.kill, List.mem_map] at hx
      obtain ⟨y, _, rfl⟩ := hx
      exact killT_no hid
    · rw [var_kill] at hcs
      split at hcs
      · cases hcs
      · simp only [Option.map_eq_some_iff] at hcs
        obtain ⟨cs0, _, rfl⟩ := hcs
        simp only [List.mem_map] at hx
        obtain ⟨y, _, rfl⟩ := hx
        exact killT_no hid

theorem killT_has {d d' : Nat} {x : T} (h : (killT d x).hasO d') : x.hasO d' := by
  cases x <;> simp only [killT] at h <;> (try split at h) <;> simp_all [T.hasO]

theorem kill_anti (d : Nat) (x : Site) (h : alive (e.kill d) x) : alive e x := by
  cases x with
  | v s =>
    obtain ⟨cs, hcs⟩ := h
    rw [var_kill] at hcs
    split at hcs
    · cases hcs
    · simp only [Option.map_eq_some_iff] at hcs
      obtain ⟨cs0, h0, _⟩ := hcs
      exact ⟨cs0, h0⟩
  | o id =>
    obtain ⟨x, hx, hid⟩ := h
    rcases hx with hx | ⟨s, cs, hcs, hx⟩
    · simp only [Env.kill, List.mem_map] at hx
      obtain ⟨y, hy, rfl⟩ := hx
      exact ⟨y, .inl hy, killT_has hid⟩
    · rw [var_kill] at hcs
      split at hcs
      · cases hcs
      · simp only [Option.map_eq_some_iff] at hcs
        obtain ⟨cs0, h0, rfl⟩ := hcs
        simp only [List.mem_map] at hx
        obtain ⟨y, hy, rfl⟩ := hx
        exact ⟨y, .inr ⟨s, cs0, h0, hy⟩, killT_has hid⟩

theorem killAll_anti : ∀ (ds : List Nat) (e : Env Γ.St) (x : Site), alive (killAll ds e) x → alive e x := by
  intro ds
  induction ds with
  | nil => intro e x h; exact h
  | cons d ds ih => intro e x h; exact kill_anti d x (ih (e.kill d) x h)

theorem killAll_alive : ∀ (ds : List Nat) (e : Env Γ.St) (d : Nat), d ∈ ds → ¬ alive (killAll ds e) (.v d) ∧ ¬ alive (killAll ds e) (.o d) := by
  intro ds
  induction ds with
  | nil => intro e d h; cases h
  | cons d0 ds ih =>
    intro e d h
    rcases List.mem_cons.1 h with rfl | h
    · exact ⟨fun hh => (kill_alive d).1 (killAll_anti ds _ _ hh), fun hh => (kill_alive d).2 (killAll_anti ds _ _ hh)⟩
    · exact ih (e.kill d0) d h

theorem Inv.killAll : ∀ (ds : List Nat) (e : Env Γ.St), Inv Γ G w0 F0 O0 a w e → Inv Γ G w0 F0 O0 a w (Ve.killAll ds e) := by
  intro ds
  induction ds with
  | nil => intro e h; exact h
  | cons d ds ih => intro e h; exact ih (e.kill d) (h.kill d)

theorem Inv.drew (h : Inv Γ G w0 F0 O0 a w e) (n : Nat) : Inv Γ G w0 F0 O0 a { w with drawn := n } e := by
  obtain ⟨F, O, β, hc, hG, hsz, hdf, ht, hv⟩ := h
  have hext : Ext w F β (alive e) { w with drawn := n } F β (alive e) := ⟨fun _ h => h, fun _ _ => rfl, fun _ h => h, fun _ _ => rfl, fun _ _ => rfl⟩
  exact ⟨F, O, β, ⟨⟨hc.keep.os, hc.keep.tape, hc.keep.output, hc.keep.size, hc.keep.block⟩, Γ.mono hc.sig (fun _ _ => rfl), hc.oin, hc.fin, hc.f0, hc.place, hc.dist⟩, hG.ext hext, hsz, hdf,
    fun t => (ht t).ext hext, fun s cs hcs => (hv s cs hcs).ext hext rfl⟩

def evDraw (P : Look) (G : Nat → Option (List V)) (S : Specs Γ) (ops : Array Oper) (e : Env Γ.St) : Option (Env Γ.St) :=
  if drawOk ops then drawGo P G S ops ops.toList (killAll (dstsOf ops.toList) e) else none

theorem wpAny_draw (hst : Static ops) (hS : Table Γ P G S)
    (hsteps : ∀ (i : Nat) (o : Oper), ops[i]? = some o → StepAt P G S ops e' (sts i) o (sts (i + 1))) (hlast : sts ops.size = e'.st)
    {Q : Exit → Act → World → Prop} (hQ : ∀ a w, Inv Γ G w0 F0 O0 a w e' → Q .normal a w) : ∀ (fuel : Nat) (listed : Array Bool) (a : Act) (w : World), listed.size = ops.size →
    listed.count false ≤ fuel →
    (∀ (i : Nat) (o : Oper) (e : Edge), ops[i]? = some o → listed.getD i true = true → e ∈ o.after → Region.binds .any e = true → listed.getD e.on true = true) →
    (∃ F O β al m, PInv Γ G w0 F0 O0 ops e' sts listed a w F O β al m) → wpAny P .any ops Q fuel listed a w := by
  have hend : ∀ (listed : Array Bool) (a : Act) (w : World), (∀ i, listed.getD i true = true) → (∃ F O β al m, PInv Γ G w0 F0 O0 ops e' sts listed a w F O β al m) → Q .normal a w := by
    rintro listed a w hall ⟨F, O, β, al, m, hp⟩
    have hkn : ∀ t, Known ops listed t := fun t i o ho hl => by rw [hall i] at hl; cases hl
    have heq : ∀ k, m + k ≤ ops.size → sts (m + k) = sts m := by
      intro k
      induction k with
      | zero => intro _; rfl
      | succ k ih =>
        intro hk
        have hlt : m + k < ops.size := by omega
        have hj : ops[m + k]? = some ops[m + k] := by simp [hlt]
        have hnc : isCall ops[m + k] = false := by
          cases hc : isCall ops[m + k] with
          | false => rfl
          | true => have := (hp.calls _ _ hj hc).1 (hall _); omega
        rw [← ih (by omega)]
        rcases hsteps (m + k) _ hj with ⟨_, r', hev', hst'', _, _⟩ | ⟨_, hst'', _⟩
        · rw [← Nat.add_assoc, hst'']; exact st_of_nocall (evQ_nc hev' hnc) _
        · rw [← Nat.add_assoc, hst'']
    have hlst : sts m = e'.st := by
      have := heq (ops.size - m) (by have := hp.mle; omega)
      rw [Nat.add_sub_cancel' hp.mle] at this
      rw [← this, hlast]
    refine hQ a w (Inv.of (al := al) (by rw [← hlst]; exact hp.core) hp.g hp.size hp.defers (fun t => hp.tm t (hkn t)) ?_ hp.lp)
    intro s cs hcs
    have ha := hp.vk s cs hcs (hkn s)
    exact ⟨ha, hp.var s cs hcs ha⟩
  have hall_of : ∀ (listed : Array Bool), listed.size = ops.size → Region.ready .any ops listed = [] → ∀ i, listed.getD i true = true := by
    intro listed hls hr
    have : ∀ i, i < ops.size → listed.getD i true = true := by
      intro i
      induction i using Nat.strongRecOn with
      | _ i ih =>
        intro hi
        cases hl : listed.getD i true with
        | true => rfl
        | false =>
          exfalso
          have hmem : i ∈ Region.ready .any ops listed := by
            rw [mem_ready]
            refine ⟨hl, ops[i], by simp [hi], ?_⟩
            intro e he hb
            have hon := hst.edge i ops[i] e (by simp [hi]) he hb
            rw [getD_tf (by omega)]
            exact ih e.on hon (by omega)
          rw [hr] at hmem; cases hmem
    intro i
    rcases Nat.lt_or_ge i ops.size with h | h
    · exact this i h
    · simp [Array.getD_eq_getD_getElem?, Array.getElem?_eq_none (by omega : listed.size ≤ i)]
  intro fuel
  induction fuel with
  | zero =>
    intro listed a w hls hcnt hdown hp
    have hnone : ∀ i, listed.getD i true = true := by
      intro i
      cases hl : listed.getD i true with
      | true => rfl
      | false =>
        exfalso
        have h0 : listed.count false = 0 := by omega
        rw [Array.count_eq_zero] at h0
        apply h0
        rcases Nat.lt_or_ge i listed.size with h | h
        · simp [Array.getD_eq_getD_getElem?, h] at hl
          rw [← hl]; exact Array.getElem_mem h
        · simp [Array.getD_eq_getD_getElem?, Array.getElem?_eq_none h] at hl
    refine ⟨?_, hend listed a w hnone hp⟩
    apply List.eq_nil_iff_forall_not_mem.2
    intro j hj
    have := (mem_ready.1 hj).1
    rw [hnone j] at this; cases this
  | succ fuel ih =>
    intro listed a w hls hcnt hdown hp
    refine ⟨fun hr => hend listed a w (hall_of listed hls hr) hp, ?_⟩
    intro i hi
    obtain ⟨hun, o, ho, hdeps⟩ := mem_ready.1 hi
    obtain ⟨F, O, β, al, m, hp⟩ := hp
    have hin : i < listed.size := by rw [hls]; exact (Array.getElem?_eq_some_iff.1 ho).1
    have hdeps' : ∀ e, e ∈ o.after → Region.binds .any e = true → listed.getD e.on true = true := by
      intro e he hb
      have h1 := hdeps e he hb
      rcases Nat.lt_or_ge e.on listed.size with h | h
      · rw [← getD_tf h]; exact h1
      · simp [Array.getD_eq_getD_getElem?, Array.getElem?_eq_none h]
    refine pinv_step hst hS hsteps hp hls hdown ho hun hdeps' ?_
    intro a' w' F' O' β' al' m' hp'
    refine ih (listed.setIfInBounds i true) a' w' (by simpa using hls) ?_ ?_ ⟨F', O', β', al', m', hp'⟩
    · have hli : listed[i] = false := by simpa [Array.getD_eq_getD_getElem?, hin] using hun
      rw [Array.setIfInBounds_def, dif_pos hin, Array.count_set hin, hli]
      simp
      omega
    · intro j oj e hj hl he hb
      rw [getD_set _ _ _ hin] at hl ⊢
      split
      · rfl
      · by_cases hji : j = i
        · subst hji; rw [ho] at hj; cases hj; exact hdeps' e he hb
        · rw [if_neg hji] at hl; exact hdown j oj e hj hl he hb

theorem draw_sim (hm : P.follows .mixedOrders = true) (hS : Table Γ P G S) (hi : Inv Γ G w0 F0 O0 a w e) (hev : evDraw P G S ops e = some e') {id : Nat}
    {Q : Exit → Act → World → Prop} (hQ : ∀ a w, Inv Γ G w0 F0 O0 a w e' → Q .normal a w) : (Code.region id ops true).wp P Q a w := by
  unfold evDraw at hev
  split at hev
  · rename_i hok
    have hst := static_of hok
    have hah := ahead_of hst 0 ops.toList (by simp)
    have hno : ∀ d, d ∈ dstsOf ops.toList → (killAll (dstsOf ops.toList) e).var d = none := by
      intro d hd
      cases hv : (killAll (dstsOf ops.toList) e).var d with
      | none => rfl
      | some cs => exact absurd ⟨cs, hv⟩ (killAll_alive _ e d hd).1
    obtain ⟨sts, h0, hn, hsteps, hg, hv, hl⟩ := drawGo_trace _ _ _ hev hah hno
    have hsteps' : ∀ (i : Nat) (o : Oper), ops[i]? = some o → StepAt P G S ops e' (sts i) o (sts (i + 1)) := fun i o ho => hsteps i o (by simpa using ho)
    refine wp_region_any hm ?_
    obtain ⟨F, O, β, hc, hG, hsz, hdf, ht, hvv⟩ := (hi.killAll (dstsOf ops.toList)).drew (w.drawn + 1)
    have hnotin : ∀ t, Known ops (Array.replicate ops.size false) t → t ∉ dstsOf ops.toList := by
      intro t hk hin
      simp only [dstsOf, List.mem_filterMap] at hin
      obtain ⟨o, hm', hd⟩ := hin
      obtain ⟨i, hi', rfl⟩ := List.getElem_of_mem hm'
      have hi'' : i < ops.size := by simpa using hi'
      exact hk i ops[i] (by simp [hi'']) (by simp [Array.getD_eq_getD_getElem?, hi'']) (by simpa using hd)
    refine wpAny_draw hst hS hsteps' (by simpa using hn) hQ ops.size _ a _ (by simp) (by simp) ?_ ⟨F, O, β, alive (killAll (dstsOf ops.toList) e), 0, ?_⟩
    · intro i o ed ho hlst
      have hi'' : i < ops.size := (Array.getElem?_eq_some_iff.1 ho).1
      simp [Array.getD_eq_getD_getElem?, hi''] at hlst
    · refine ⟨by rw [h0]; exact hc, hG, by rw [hl]; exact hsz, hdf, ?_, ?_, ?_, ?_, ?_, Nat.zero_le _, ?_⟩
      · intro t hk; rw [hg t (hnotin t hk)]; exact ht t
      · intro s cs hcs hs
        obtain ⟨cs0, hcs0⟩ := hs
        have hni : s ∉ dstsOf ops.toList := fun hin => by rw [hno s hin] at hcs0; cases hcs0
        rw [hv s hni] at hcs
        exact hvv s cs hcs
      · intro s hs
        obtain ⟨cs0, hcs0⟩ := hs
        have hni : s ∉ dstsOf ops.toList := fun hin => by rw [hno s hin] at hcs0; cases hcs0
        exact ⟨cs0, by rw [hv s hni]; exact hcs0⟩
      · intro s cs hcs hk
        rw [hv s (hnotin s hk)] at hcs
        exact ⟨cs, hcs⟩
      · intro i o d ho _ hd
        refine killAll_alive _ e d ?_
        simp only [dstsOf, List.mem_filterMap]
        exact ⟨o, by simpa using Array.mem_of_getElem? ho, hd⟩
      · intro i o ho _
        have hi'' : i < ops.size := (Array.getElem?_eq_some_iff.1 ho).1
        simp [Array.getD_eq_getD_getElem?, hi'']
  · cases hev
end
end Go.Ve

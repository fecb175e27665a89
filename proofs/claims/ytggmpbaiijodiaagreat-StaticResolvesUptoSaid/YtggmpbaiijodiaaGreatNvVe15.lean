/-
  The evaluator over pure values, part 15: a function's contract out of the evaluation of its body.
-/
import Derived.Test.YtggmpbaiijodiaaGreatNvVe14
namespace Go.Ve
open Go

section
variable {St : Type} (P : Look) (e : Env St)

def argsT : List T → Option (List V)
  | [] => some []
  | x :: r => match argV e x, argsT r with
    | some d, some ds => some (d :: ds)
    | _, _ => none

/-- A result that lies in a variable. -/
def resCell (t : TypeId) : T → Option V
  | .p (.pp cs) => ldV P t cs
  | .lp s off => match e.var s with
    | some cs => match isAgg? P t with
      | some true => match size? P t with
        | some n => if n ≤ (cs.drop off).length then (argsT e ((cs.drop off).take n)).map .agg else none
        | none => none
      | some false => match (cs.drop off).head? with
        | some x => argV e x
        | none => none
      | none => none
    | none => none
  | _ => none

def resV : ResultVar → Option V
  | .tmp t => argV e (e.get t)
  | .cell t ty => resCell P e ty (e.get t)

def resVs : List ResultVar → Option (List V)
  | [] => some []
  | x :: r => match resV P e x, resVs r with
    | some d, some ds => some (d :: ds)
    | _, _ => none

def evRet (fn : Func) : Option RV :=
  match fn.results.toList with
  | [.tmp t] => match e.get t with
    | .emp => some (.own [])
    | .ow _ _ [] => some (.p (.sl []))
    | .ow _ _ (x :: es) => some (.own (x :: es))
    | .ot _ t xs => some (.ownT t xs)
    | x => (argV e x).map .p
  | [r] => (resV P e r).map .p
  | rs => (resVs P e rs).map (fun ds => .p (.tup ds))
end

def startTm (n : Nat) (ds : List V) : List T := ds.map .p ++ List.replicate (n - ds.length) (.p (.val undef))

def start {St : Type} (n : Nat) (s : St) (ds : List V) : Env St := { tm := startTm n ds, vars := List.replicate n none, st := s }

section
variable {Γ : Sig} {P : Program} {G : Nat → Option (List V)} {S : Specs Γ} {e : Env Γ.St} {a : Act} {w : World} {F : Nat → Prop} {β : Lay} {al : Site → Prop}

theorem argsT_sim (hvars : ∀ s cs, e.var s = some cs → al (.v s) → VarRel w F β al (β.vb s) cs) : ∀ (xs : List T) (vs : List Value) (ds : List V), xs.length = vs.length →
    (∀ (i : Nat) (v : Value) (x : T), vs[i]? = some v → xs[i]? = some x → TRel w F β al v x) → argsT e xs = some ds →
    vs.length = ds.length ∧ ∀ (i : Nat) (v : Value) (d : V), vs[i]? = some v → ds[i]? = some d → Rd w (Fal F β al) v d := by
  intro xs
  induction xs with
  | nil =>
    intro vs ds hl _ h
    simp [argsT] at h; subst h
    cases vs with
    | nil => exact ⟨rfl, fun i v d h => by simp at h⟩
    | cons v vs => simp at hl
  | cons x xs ih =>
    intro vs ds hl hr h
    cases vs with
    | nil => simp at hl
    | cons v vs =>
      simp only [argsT] at h
      split at h
      · rename_i d ds' hd hds
        simp only [Option.some.injEq] at h
        subst h
        obtain ⟨h1, h2⟩ := ih vs ds' (by simpa using hl) (fun i v x hv hx => hr (i + 1) v x (by simpa using hv) (by simpa using hx)) hds
        refine ⟨by simpa using h1, ?_⟩
        intro i u y hu hy
        cases i with
        | zero => simp at hu hy; subst hu hy; exact (argV_sim hvars (hr 0 v x rfl rfl) hd).1
        | succ i => exact h2 i u y (by simpa using hu) (by simpa using hy)
      · cases h

theorem resCell_sim (hvars : ∀ s cs, e.var s = some cs → al (.v s) → VarRel w F β al (β.vb s) cs) {t : TypeId} {x : T} {v : Value} {d : V}
    (hx : TRel w F β al v x) (h : resCell P e t x = some d) : ∃ ad u, v = .pointer (some ad) ∧ (loadVar t ad).run P w = .ok u w ∧ Rd w (Fal F β al) u d := by
  unfold resCell at h
  split at h
  · rename_i cs
    cases hx with
    | pp b off cs g hF hg hr =>
      obtain ⟨u, h1, h2⟩ := ldV_sim (P := P) hg hr h
      refine ⟨⟨b, off, none⟩, u, rfl, ?_, h2.mono (fun b hb => .inl hb) (fun _ _ => rfl)⟩
      simpa [Instr.loadAt, Instr.sureAddr] using h1
  · rename_i s off
    obtain ⟨ha, rfl⟩ := hx
    split at h
    · rename_i cs hcs
      have hv := hvars s cs hcs ha
      split at h
      · rename_i hagg
        split at h
        · rename_i n hn
          split at h
          · rename_i hle
            simp only [Option.map_eq_some_iff] at h
            obtain ⟨ds, hds, rfl⟩ := h
            simp only [List.length_drop] at hle
            let g : Nat → Value := fun m => (w.cell? ⟨β.vb s, off + m, none⟩).getD undef
            have hg : ∀ m, m < n → w.cell? ⟨β.vb s, off + m, none⟩ = some (g m) ∧ ∀ x, ((cs.drop off).take n)[m]? = some x → TRel w F β al (g m) x := fun m hm => by
              obtain ⟨x, h1, h2⟩ := hv.at (off + m) (by omega)
              refine ⟨by simp [g, h1], fun y hy => ?_⟩
              rw [List.getElem?_take, if_pos hm, List.getElem?_drop, List.getElem?_eq_getElem (by omega), Option.some.injEq] at hy
              subst hy
              simpa [g, h1] using h2
            have hrun := run_loadAt_agg (P := P) hagg hn (fun m hm => (hg m hm).1)
            obtain ⟨h3, h4⟩ := argsT_sim hvars ((cs.drop off).take n) ((List.range n).map g) ds (by simp; omega) (by
              intro i v x hv hx
              simp only [List.getElem?_map, Option.map_eq_some_iff] at hv
              obtain ⟨m, hm, rfl⟩ := hv
              have hi : i < n := by
                have := (List.getElem?_eq_some_iff.1 hm).1; simpa using this
              rw [List.getElem?_range hi] at hm
              simp only [Option.some.injEq] at hm
              subst hm
              exact (hg i hi).2 x hx) hds
            refine ⟨_, _, rfl, by simpa [Instr.loadAt, Instr.sureAddr] using hrun, ?_⟩
            exact Rd.agg _ ds (by simpa using h3) (fun i x d hi hd => h4 i x d (by simpa using hi) hd)
          · cases h
        · cases h
      · rename_i hagg
        split at h
        · rename_i x hx
          have hlt : off < cs.length := by
            rcases Nat.lt_or_ge off cs.length with h | h
            · exact h
            · rw [List.drop_eq_nil_of_le h] at hx; simp at hx
          rw [List.head?_drop, List.getElem?_eq_getElem hlt, Option.some.injEq] at hx
          subst hx
          obtain ⟨x, h1, h2⟩ := hv.at off hlt
          have hrun := run_loadAt_leaf (P := P) hagg h1
          exact ⟨_, x, rfl, by simpa [Instr.loadAt, Instr.sureAddr] using hrun, (argV_sim hvars h2 h).1⟩
        · cases h
      · cases h
    · cases h
  · cases h

def resFn (tmps : Array Value) : ResultVar → Sem Value
  | .tmp t => pure (tmps.getD t undef)
  | .cell x t => do loadVar t (← asAddr (tmps.getD x undef))

theorem results_eq (fn : Func) (tmps : Array Value) : results fn tmps = (do
    let vs ← fn.results.mapM (resFn tmps)
    pure (if h : vs.size = 1 then vs[0] else .tuple vs)) := by
  unfold results
  congr 1

theorem resV_sim (hvars : ∀ s cs, e.var s = some cs → al (.v s) → VarRel w F β al (β.vb s) cs) (ht : ∀ t, TRel w F β al (a.tmps.getD t undef) (e.get t)) {r : ResultVar} {d : V}
    (h : resV P e r = some d) : ∃ u, (resFn a.tmps r).run P w = .ok u w ∧ Rd w (Fal F β al) u d := by
  cases r with
  | tmp t => exact ⟨_, rfl, (argV_sim hvars (ht t) h).1⟩
  | cell t ty =>
    obtain ⟨ad, u, h1, h2, h3⟩ := resCell_sim (P := P) hvars (ht t) h
    exact ⟨u, by simp only [resFn, Sem.run_bind, h1, asAddr, Sem.run_pure, Result.andThen_ok, h2], h3⟩

theorem resVs_sim (hvars : ∀ s cs, e.var s = some cs → al (.v s) → VarRel w F β al (β.vb s) cs) (ht : ∀ t, TRel w F β al (a.tmps.getD t undef) (e.get t)) : ∀ (rs : List ResultVar) (ds : List V),
    resVs P e rs = some ds → ∃ us, (rs.mapM (resFn a.tmps)).run P w = .ok us w ∧ us.length = ds.length ∧
      ∀ (i : Nat) (v : Value) (d : V), us[i]? = some v → ds[i]? = some d → Rd w (Fal F β al) v d := by
  intro rs
  induction rs with
  | nil => intro ds h; simp [resVs] at h; subst h; exact ⟨[], rfl, rfl, fun i v d h => by simp at h⟩
  | cons r rs ih =>
    intro ds h
    simp only [resVs] at h
    split at h
    · rename_i d ds' hd hds
      simp only [Option.some.injEq] at h
      subst h
      obtain ⟨u, h1, h2⟩ := resV_sim (P := P) hvars ht hd
      obtain ⟨us, h3, h4, h5⟩ := ih ds' hds
      refine ⟨u :: us, ?_, by simpa using h4, ?_⟩
      · rw [List.mapM_cons]
        simp only [Sem.run_bind, h1, Result.andThen_ok, h3, Sem.run_pure]
      · intro i v y hv hy
        cases i with
        | zero => simp at hv hy; subst hv hy; exact h2
        | succ i => exact h5 i v y (by simpa using hv) (by simpa using hy)
    · cases h

/-- What the function hands back, in the world in which it ends. -/
theorem evRet_sim {w0 : World} {F0 O0 : Nat → Prop} (hi : Inv Γ G w0 F0 O0 a w e) {fn : Func} {r : RV} (h : evRet P e fn = some r) :
    ∃ (v : Value) (F' O' : Nat → Prop), (results fn a.tmps).run P w = .ok v w ∧ Γ.R e.st O' w ∧ Keep O0 w0 w ∧ (∀ b, O' b → O0 b ∨ w0.heap.size ≤ b) ∧ (∀ b, F0 b → F' b) ∧
      (∀ b, F' b → (F0 b ∨ w0.heap.size ≤ b) ∧ b < w.heap.size ∧ ¬ O' b) ∧ RetRel w0.heap.size w F' O' v r := by
  obtain ⟨F, O, β, hc, hG, hsz, hdf, ht, hv⟩ := hi
  have hvars : ∀ s cs, e.var s = some cs → alive e (.v s) → VarRel w F β (alive e) (β.vb s) cs := fun s cs hcs _ => hv s cs hcs
  have hFal : ∀ b, Fal F β (alive e) b → (F0 b ∨ w0.heap.size ≤ b) ∧ b < w.heap.size ∧ ¬ O b := by
    rintro b (hb | ⟨x, hx, rfl⟩)
    · exact hc.fin b hb
    · obtain ⟨h1, h2, h3, h4⟩ := hc.place x hx
      exact ⟨.inr h1, h2, h4⟩
  have hrun : ∀ us, (fn.results.toList.mapM (resFn a.tmps)).run P w = .ok us w →
      (results fn a.tmps).run P w = .ok (if h : us.length = 1 then us[0] else .tuple us.toArray) w := by
    intro us hus
    rw [results_eq, Array.mapM_eq_mapM_toList]
    simp only [Sem.run_bind, Sem.run_map, hus, Result.andThen_ok, Sem.run_pure]
    rfl
  have hfin : ∀ (v : Value) (d : V), (results fn a.tmps).run P w = .ok v w → Rd w (Fal F β (alive e)) v d →
      ∃ (v : Value) (F' O' : Nat → Prop), (results fn a.tmps).run P w = .ok v w ∧ Γ.R e.st O' w ∧ Keep O0 w0 w ∧ (∀ b, O' b → O0 b ∨ w0.heap.size ≤ b) ∧ (∀ b, F0 b → F' b) ∧
      (∀ b, F' b → (F0 b ∨ w0.heap.size ≤ b) ∧ b < w.heap.size ∧ ¬ O' b) ∧ RetRel w0.heap.size w F' O' v (.p d) :=
    fun v d h1 h2 => ⟨v, Fal F β (alive e), O, h1, hc.sig, hc.keep, hc.oin, fun b hb => .inl (hc.f0 b hb), hFal, h2⟩
  have hone : ∀ r0, fn.results.toList = [r0] → ∀ d, resV P e r0 = some d → ∃ v, (results fn a.tmps).run P w = .ok v w ∧ Rd w (Fal F β (alive e)) v d := by
    intro r0 hr d hd
    obtain ⟨us, h1, h2, h3⟩ := resVs_sim (P := P) hvars ht [r0] [d] (by simp [resVs, hd])
    cases us with
    | nil => simp at h2
    | cons u us =>
      cases us with
      | cons _ _ => simp at h2
      | nil =>
        have := hrun [u] (by rw [hr]; exact h1)
        exact ⟨u, by simpa using this, h3 0 u d rfl rfl⟩
  unfold evRet at h
  split at h
  · rename_i t hres
    have hrun1 : (results fn a.tmps).run P w = .ok (a.tmps.getD t undef) w := by
      have := hrun [a.tmps.getD t undef] (by rw [hres]; rfl)
      simpa using this
    have hT := ht t
    split at h
    · rename_i hx
      simp only [Option.some.injEq] at h; subst h
      rw [hx] at hT
      obtain ⟨a0, ha0⟩ := hT
      exact ⟨_, Fal F β (alive e), O, hrun1, hc.sig, hc.keep, hc.oin, fun b hb => .inl (hc.f0 b hb), hFal, .inl ⟨rfl, a0, ha0⟩⟩
    · rename_i id k hx
      simp only [Option.some.injEq] at h; subst h
      rw [hx] at hT
      obtain ⟨ha, cap, hvv, hrow⟩ := hT
      exact hfin _ _ hrun1 (by rw [hvv]; exact .slemp _ _)
    · rename_i id k x es hx
      simp only [Option.some.injEq] at h; subst h
      rw [hx] at hT
      obtain ⟨ha, cap, hvv, hrow⟩ := hT
      obtain ⟨p1, p2, p3, p4⟩ := hc.place (.o id) ha
      refine ⟨_, F, O, hrun1, hc.sig, hc.keep, hc.oin, hc.f0, hc.fin, .inr ⟨by simp, β.ob id, cap, hvv, p1, p2, p3, p4, k, hrow⟩⟩
    · rename_i id t xs hx
      simp only [Option.some.injEq] at h; subst h
      rw [hx] at hT
      rcases hT with ⟨h0, a0, hv0⟩ | ⟨hne, ha, cap, hvv, hrow⟩
      · exact ⟨_, F, O, hrun1, hc.sig, hc.keep, hc.oin, hc.f0, hc.fin, .inl ⟨h0, a0, hv0⟩⟩
      · obtain ⟨p1, p2, p3, p4⟩ := hc.place (.o id) ha
        exact ⟨_, F, O, hrun1, hc.sig, hc.keep, hc.oin, hc.f0, hc.fin, .inr ⟨hne, β.ob id, cap, hvv, p1, p2, p3, p4, t.size, hrow⟩⟩
    · simp only [Option.map_eq_some_iff] at h
      obtain ⟨d, hd, rfl⟩ := h
      obtain ⟨v, h1, h2⟩ := hone _ hres d hd
      exact hfin v d h1 h2
  · rename_i r0 _ hres
    simp only [Option.map_eq_some_iff] at h
    obtain ⟨d, hd, rfl⟩ := h
    obtain ⟨v, h1, h2⟩ := hone _ hres d hd
    exact hfin v d h1 h2
  · rename_i hn1 hn2
    simp only [Option.map_eq_some_iff] at h
    obtain ⟨ds, hds, rfl⟩ := h
    obtain ⟨us, h1, h2, h3⟩ := resVs_sim (P := P) hvars ht _ ds hds
    have hrun2 := hrun us h1
    have hne : us.length ≠ 1 := by
      intro hl
      have hlen : ∀ (l : List ResultVar) (ds : List V), resVs P e l = some ds → ds.length = l.length := by
        intro l
        induction l with
        | nil => intro ds h; simp [resVs] at h; subst h; rfl
        | cons r l ih =>
          intro ds h
          simp only [resVs] at h
          split at h
          · rename_i d ds' hd hds
            simp only [Option.some.injEq] at h; subst h
            simp [ih ds' hds]
          · cases h
      have := hlen _ ds hds
      match hl' : fn.results.toList with
      | [] => rw [hl'] at this; simp only [List.length_nil] at this; omega
      | [r0] => exact hn2 r0 hl'
      | _ :: _ :: _ => rw [hl'] at this; simp only [List.length_cons] at this; omega
    rw [dif_neg hne] at hrun2
    exact hfin _ _ hrun2 (.tup _ ds (by simpa using h2) (fun i x d hi hd => h3 i x d (by simpa using hi) hd))

theorem fnOk_of_ev (hm : P.follows .mixedOrders = true) (hS : Table Γ P G S) {f : FuncId} {fn : Func} {c : Code} (hf : P.funcs[f]? = some fn) (hb : fn.body = some c)
    {spec : Γ.St → List V → Option (Γ.St × RV)}
    (h : ∀ s ds s' r, spec s ds = some (s', r) → ∃ k e', Ev P G S c (start fn.ntmps s ds) k e' ∧ (k = .normal ∨ k = .ret) ∧ e'.st = s' ∧ evRet P e' fn = some r) : FnOk Γ P G f spec := by
  intro w F O s args ds s' r hsig hG hF hlen hrd hspec
  obtain ⟨k, e', hev, hk, hst, hret⟩ := h s ds s' r hspec
  refine calls_of_wp hf hb ?_
  have hget : ∀ t, TRel w F ⟨fun _ => 0, fun _ => 0⟩ (fun _ => False) ((args ++ Array.replicate (fn.ntmps - args.size) undef).getD t undef) ((start fn.ntmps s ds).get t) := by
    intro t
    simp only [start, startTm, Env.get, List.getD_eq_getElem?_getD, Array.getD_eq_getD_getElem?]
    by_cases ht : t < ds.length
    · rw [List.getElem?_append_left (by simpa using ht), Array.getElem?_append_left (by omega)]
      rw [List.getElem?_map, List.getElem?_eq_getElem ht, Array.getElem?_eq_getElem (by omega)]
      exact hrd t _ _ (by simp [show t < args.size by omega]) (by simp [ht])
    · rw [List.getElem?_append_right (by simpa using Nat.le_of_not_lt ht), Array.getElem?_append_right (by omega), hlen]
      simp only [List.length_map]
      by_cases h2 : t - ds.length < fn.ntmps - ds.length
      · rw [List.getElem?_replicate, if_pos h2, Array.getElem?_replicate, if_pos h2]
        exact Rd.val _
      · rw [List.getElem?_replicate, if_neg h2]
        trivial
  have hnovar : ∀ s0, (start fn.ntmps s ds).var s0 = none := by
    intro s0
    simp only [start, Env.var, List.getElem?_replicate]
    split <;> rfl
  have hinv : Inv Γ G w F O { tmps := args ++ Array.replicate (fn.ntmps - args.size) undef, defers := [] } w (start fn.ntmps s ds) := by
    refine Inv.of (F := F) (O := O) (β := ⟨fun _ => 0, fun _ => 0⟩) (al := fun _ => False) ⟨Keep.refl O w, hsig, fun b hb => .inl hb, fun b hb => ⟨.inl hb, hF b hb⟩, fun b hb => hb, fun x hx => hx.elim, fun x y hx => hx.elim⟩ hG ?_ rfl hget ?_ (fun s h => h.elim)
    · simp [start, startTm, hlen]
    · intro s0 cs hcs; rw [hnovar] at hcs; cases hcs
  refine wp_mono (ev_sim hm hS hev hinv) ?_
  rintro ex a' w' ⟨rfl, hi'⟩
  obtain ⟨v, F', O', h1, h2, h3, h4, h5, h6, h7⟩ := evRet_sim hi' hret
  have hdf : a'.defers = [] := by obtain ⟨_, _, _, _, _, _, hdf, _⟩ := hi'; exact hdf
  rw [hst] at h2
  rcases hk with rfl | rfl
  · exact ⟨hdf, v, h1, v, F', O', rfl, h2, h3, h4, h5, h6, h7⟩
  · exact ⟨hdf, v, h1, v, F', O', rfl, h2, h3, h4, h5, h6, h7⟩
end
end Go.Ve

/-
  The evaluator over pure values, part 15: a function's contract out of the evaluation of its body.
  The evaluator over pure values, part 16: an evaluation that computes; the interpreter over all functions.
-/
import Derived.Test.YthhmapljcdohnaaGreatCs6
set_option linter.unusedVariables false
namespace Go.Ve
open Go

section
variable {St : Type} (P : Look) (e : Env St)

def argsT : List T → Option (List V)
  | [] => some []
  | x :: r => match argV e x, argsT r with
    | some d, some ds => some (d :: ds)
    | _, _ => none

/-- A result that lies in a variable. -/
def resCell (t : TypeId) : T → Option V
  | .p (.pp cs) => ldV P t cs
  | .lp s off => match e.var s with
    | some cs => match isAgg? P t with
      | some true => match size? P t with
        | some n => if n ≤ (cs.drop off).length then (argsT e ((cs.drop off).take n)).map .agg else none
        | none => none
      | some false => match (cs.drop off).head? with
        | some x => argV e x
        | none => none
      | none => none
    | none => none
  | _ => none

def resV : ResultVar → Option V
  | .tmp t => argV e (e.get t)
  | .cell t ty => resCell P e ty (e.get t)

def resVs : List ResultVar → Option (List V)
  | [] => some []
  | x :: r => match resV P e x, resVs r with
    | some d, some ds => some (d :: ds)
    | _, _ => none

def evRet (fn : Func) : Option RV :=
  match fn.results.toList with
  | [.tmp t] => match e.get t with
    | .emp => some (.own [])
    | .ow _ _ [] => some (.p (.sl []))
    | .ow _ _ (x :: es) => some (.own (x :: es))
    | .ot _ t xs => some (.ownT t xs)
    | x => (argV e x).map .p
  | [r] => (resV P e r).map .p
  | rs => (resVs P e rs).map (fun ds => .p (.tup ds))
end

def startTm (n : Nat) (ds : List V) : List T := ds.map .p ++ List.replicate (n - ds.length) (.p (.val undef))

def start {St : Type} (n : Nat) (s : St) (ds : List V) : Env St := { tm := startTm n ds, vars := List.replicate n none, st := s }

section
variable {Γ : Sig} {P : Program} {G : Nat → Option (List V)} {S : Specs Γ} {e : Env Γ.St} {a : Act} {w : World} {F : Blk → Prop} {β : Lay} {al : Site → Prop}

theorem argsT_sim (hvars : ∀ s cs, e.var s = some cs → al (.v s) → VarRel w F β al (β.vb s) cs) : ∀ (xs : List T) (vs : List Value) (ds : List V), xs.length = vs.length →
    (∀ (i : Nat) (v : Value) (x : T), vs[i]? = some v → xs[i]? = some x → TRel w F β al v x) → argsT e xs = some ds →
    vs.length = ds.length ∧ ∀ (i : Nat) (v : Value) (d : V), vs[i]? = some v → ds[i]? = some d → Rd w (Fal F β al) v d := by
  intro xs
  induction xs with
  | nil =>
    intro vs ds hl _ h
    simp [argsT] at h; grind
  | cons x xs ih =>
    intro vs ds hl hr h
    cases vs with
    | nil => simp at hl
    | cons v vs =>
      simp only [argsT] at h
      split at h
      · rename_i d ds' hd hds
        cases h
        obtain ⟨h1, h2⟩ := ih vs ds' (by simpa using hl) (fun i v x hv hx => hr (i + 1) v x (by simpa using hv) (by simpa using hx)) hds
        refine ⟨by simpa using h1, ?_⟩
        intro i u y hu hy
        cases i with
        | zero => simp at hu hy; subst hu hy; exact (argV_sim hvars (hr 0 v x rfl rfl) hd).1
        | succ i => grind
      · cases h

theorem resCell_sim (hvars : ∀ s cs, e.var s = some cs → al (.v s) → VarRel w F β al (β.vb s) cs) {t : TypeId} {x : T} {v : Value} {d : V}
    (hx : TRel w F β al v x) (h : resCell P e t x = some d) : ∃ ad u, v = .pointer (some ad) ∧ (loadVar t ad).run P w = .ok u w ∧ Rd w (Fal F β al) u d := by
  unfold resCell at h
  split at h
  · rename_i cs
    cases hx with
    | pp b off cs g hF hg hr =>
      obtain ⟨u, h1, h2⟩ := ldV_sim (P := P) hg hr h
      refine ⟨⟨b, off, none⟩, u, rfl, ?_, h2.mono (fun b hb => .inl hb) (fun _ _ => rfl)⟩
      grind [Instr.loadAt, Instr.sureAddr]
  · rename_i s off
    obtain ⟨ha, rfl⟩ := hx
    split at h
    · rename_i cs hcs
      have hv := hvars s cs hcs ha
      split at h
      · rename_i hagg
        split at h
        · rename_i n hn
          split at h
          · rename_i hle
            simp at h
            obtain ⟨ds, hds, rfl⟩ := h
            simp at hle
            let g : Nat → Value := fun m => (w.cell? ⟨β.vb s, off + m, none⟩).getD undef
            have hg : ∀ m, m < n → w.cell? ⟨β.vb s, off + m, none⟩ = some (g m) ∧ ∀ x, ((cs.drop off).take n)[m]? = some x → TRel w F β al (g m) x := fun m hm => by
              obtain ⟨x, h1, h2⟩ := hv.at (off + m) (by omega)
              grind
            have hrun := run_loadAt_agg (P := P) hagg hn (fun m hm => (hg m hm).1)
            obtain ⟨h3, h4⟩ := argsT_sim hvars ((cs.drop off).take n) ((List.range n).map g) ds (by simp; omega) (by
              grind) hds
            refine ⟨_, _, rfl, by simpa [Instr.loadAt, Instr.sureAddr] using hrun, ?_⟩
            exact Rd.agg _ ds (by simpa using h3) (fun i x d hi hd => h4 i x d (by simpa using hi) hd)
          · cases h
        · cases h
      · rename_i hagg
        split at h
        · rename_i x hx
          have hlt : off < cs.length := by
            grind [Nat.lt_or_ge, List.drop_eq_nil_of_le]
          rw [List.head?_drop, List.getElem?_eq_getElem hlt, Option.some.injEq] at hx
          subst hx
          obtain ⟨x, h1, h2⟩ := hv.at off hlt
          have hrun := run_loadAt_leaf (P := P) hagg h1
          exact ⟨_, x, rfl, by grind [Instr.loadAt, Instr.sureAddr], (argV_sim hvars h2 h).1⟩
        · cases h
      · cases h
    · cases h
  · cases h

def resFn (tmps : Array Value) : ResultVar → Sem Value
  | .tmp t => pure (tmps.getD t undef)
  | .cell x t => do loadVar t (← asAddr (tmps.getD x undef))

theorem results_eq (fn : Func) (tmps : Array Value) : results fn tmps = (do
    let vs ← fn.results.mapM (resFn tmps)
    pure (if h : vs.size = 1 then vs[0] else .tuple vs)) := by
  unfold results
  congr 1

theorem resV_sim (hvars : ∀ s cs, e.var s = some cs → al (.v s) → VarRel w F β al (β.vb s) cs) (ht : ∀ t, TRel w F β al (a.tmps.getD t undef) (e.get t)) {r : ResultVar} {d : V}
    (h : resV P e r = some d) : ∃ u, (resFn a.tmps r).run P w = .ok u w ∧ Rd w (Fal F β al) u d := by
  cases r with
  | tmp t => exact ⟨_, rfl, (argV_sim hvars (ht t) h).1⟩
  | cell t ty =>
    obtain ⟨ad, u, h1, h2, h3⟩ := resCell_sim (P := P) hvars (ht t) h
    grind [Sem.run_bind, Sem.run_pure, Result.andThen_ok, resFn, asAddr]

theorem resVs_sim (hvars : ∀ s cs, e.var s = some cs → al (.v s) → VarRel w F β al (β.vb s) cs) (ht : ∀ t, TRel w F β al (a.tmps.getD t undef) (e.get t)) : ∀ (rs : List ResultVar) (ds : List V),
    resVs P e rs = some ds → ∃ us, (rs.mapM (resFn a.tmps)).run P w = .ok us w ∧ us.length = ds.length ∧
      ∀ (i : Nat) (v : Value) (d : V), us[i]? = some v → ds[i]? = some d → Rd w (Fal F β al) v d := by
  intro rs
  induction rs with
  | nil => intro ds h; simp [resVs] at h; simp_all
  | cons r rs ih =>
    intro ds h
    simp only [resVs] at h
    split at h
    · rename_i d ds' hd hds
      cases h
      obtain ⟨u, h1, h2⟩ := resV_sim (P := P) hvars ht hd
      obtain ⟨us, h3, h4, h5⟩ := ih ds' hds
      refine ⟨u :: us, ?_, by simpa using h4, ?_⟩
      all_goals grind [Sem.run_bind, Result.andThen_ok, Sem.run_pure]
    · cases h

/-- What the function hands back, in the world in which it ends. -/
theorem evRet_sim {w0 : World} {F0 : Blk → Prop} {O0 : Lent} (hnl : O0.l = none) (hi : Inv Γ G w0 F0 O0 a w e) {fn : Func} {r : RV} (h : evRet P e fn = some r) :
    ∃ (v : Value) (F' : Blk → Prop) (O' : Nat → Prop), (results fn a.tmps).run P w = .ok v w ∧ Γ.R e.st F' O' w ∧ Keep O0.o w0 w ∧ (∀ b, O' b → O0.o b ∨ w0.heap.size ≤ b) ∧ GrowW Γ.wk w0.heap.size F0 F' ∧
      (∀ b : Nat, F' b → (F0 b ∨ w0.heap.size ≤ b) ∧ b < w.heap.size ∧ ¬ O' b) ∧ RetRel w0.heap.size w F' O' v r := by
  obtain ⟨F, O, β, hc, hG, hsz, hdf, ht, hv⟩ := hi
  have hkeep : Keep O0.o w0 w := ⟨hc.keep.os, hc.keep.tape, hc.keep.output, hc.keep.size, fun b hb ho => hc.keep.block b hb (fun h => h.elim ho (fun ⟨n, h⟩ => by grind)), hc.keep.drawn⟩
  have hhome : ∀ x b, Home w0 O0 x b → w0.heap.size ≤ b := fun x b h => h.elim (fun h => h.2) (fun ⟨_, n, h⟩ => by grind)
  have hvars : ∀ s cs, e.var s = some cs → alive e (.v s) → VarRel w F β (alive e) (β.vb s) cs := fun s cs hcs _ => hv s cs hcs
  have hFal : ∀ b : Nat, Fal F β (alive e) b → (F0 b ∨ w0.heap.size ≤ b) ∧ b < w.heap.size ∧ ¬ O b := by
    rintro b (hb | ⟨x, hx, hxb⟩)
    · exact hc.fin b hb
    · have hxb := blk_eq hxb
      subst hxb
      obtain ⟨h1, h2, h3, h4⟩ := hc.place x hx
      grind
  have hsigF : Γ.R e.st (Fal F β (alive e)) O w := Γ.mono hc.sig (fun x hx => ⟨fun h => h.elim (fun h => h) (fun ⟨_, _, h⟩ => by subst h; cases hx), .inl⟩) (fun _ _ => rfl) (fun _ _ h => ⟨.inl h, rfl⟩)
  have hgrow : GrowW Γ.wk w0.heap.size F0 (Fal F β (alive e)) := hc.f0.trans ⟨fun _ h => .inl h, fun _ h => h.elim .inl (fun ⟨_, _, h⟩ => by cases h)⟩ (Nat.le_refl _)
  have hrun : ∀ us, (fn.results.toList.mapM (resFn a.tmps)).run P w = .ok us w →
      (results fn a.tmps).run P w = .ok (if h : us.length = 1 then us[0] else .tuple us.toArray) w := by
    grind [results_eq, Array.mapM_eq_mapM_toList, Sem.run_bind, Sem.run_map, Result.andThen_ok, Sem.run_pure]
  have hfin : ∀ (v : Value) (d : V), (results fn a.tmps).run P w = .ok v w → Rd w (Fal F β (alive e)) v d →
      ∃ (v : Value) (F' : Blk → Prop) (O' : Nat → Prop), (results fn a.tmps).run P w = .ok v w ∧ Γ.R e.st F' O' w ∧ Keep O0.o w0 w ∧ (∀ b, O' b → O0.o b ∨ w0.heap.size ≤ b) ∧ GrowW Γ.wk w0.heap.size F0 F' ∧
      (∀ b : Nat, F' b → (F0 b ∨ w0.heap.size ≤ b) ∧ b < w.heap.size ∧ ¬ O' b) ∧ RetRel w0.heap.size w F' O' v (.p d) :=
    fun v d h1 h2 => ⟨v, Fal F β (alive e), O, h1, hsigF, hkeep, hc.oin, hgrow, hFal, h2⟩
  have hone : ∀ r0, fn.results.toList = [r0] → ∀ d, resV P e r0 = some d → ∃ v, (results fn a.tmps).run P w = .ok v w ∧ Rd w (Fal F β (alive e)) v d := by
    intro r0 hr d hd
    obtain ⟨us, h1, h2, h3⟩ := resVs_sim (P := P) hvars ht [r0] [d] (by simp [resVs, hd])
    cases us with
    | nil => simp at h2
    | cons u us =>
      cases us with
      | cons _ _ => simp at h2
      | nil =>
        have := hrun [u] (by rw [hr]; exact h1)
        exact ⟨u, by simpa using this, h3 0 u d rfl rfl⟩
  unfold evRet at h
  split at h
  · rename_i t hres
    have hrun1 : (results fn a.tmps).run P w = .ok (a.tmps.getD t undef) w := by
      have := hrun [a.tmps.getD t undef] (by rw [hres]; rfl)
      simpa using this
    have hT := ht t
    split at h
    · rename_i hx
      cases h
      rw [hx] at hT
      obtain ⟨a0, ha0⟩ := hT
      exact ⟨_, Fal F β (alive e), O, hrun1, hsigF, hkeep, hc.oin, hgrow, hFal, .inl ⟨rfl, a0, ha0⟩⟩
    · rename_i id k hx
      cases h
      rw [hx] at hT
      obtain ⟨ha, cap, hvv, hrow⟩ := hT
      exact hfin _ _ hrun1 (by rw [hvv]; exact .slemp _ _)
    · rename_i id k x es hx
      cases h
      rw [hx] at hT
      obtain ⟨ha, cap, hvv, hrow⟩ := hT
      obtain ⟨p1, p2, p3, p4⟩ := hc.place (.o id) ha
      refine ⟨_, F, O, hrun1, hc.sig, hkeep, hc.oin, hc.f0, hc.fin, .inr ⟨by simp, β.ob id, cap, hvv, hhome _ _ p1, p2, p3, p4, k, hrow⟩⟩
    · rename_i id t xs hx
      cases h
      rw [hx] at hT
      rcases hT with ⟨h0, a0, hv0⟩ | ⟨hne, ha, cap, hvv, hrow⟩
      · exact ⟨_, F, O, hrun1, hc.sig, hkeep, hc.oin, hc.f0, hc.fin, .inl ⟨h0, a0, hv0⟩⟩
      · obtain ⟨p1, p2, p3, p4⟩ := hc.place (.o id) ha
        exact ⟨_, F, O, hrun1, hc.sig, hkeep, hc.oin, hc.f0, hc.fin, .inr ⟨hne, β.ob id, cap, hvv, hhome _ _ p1, p2, p3, p4, t.size, hrow⟩⟩
    · simp at h
      obtain ⟨d, hd, rfl⟩ := h
      obtain ⟨v, h1, h2⟩ := hone _ hres d hd
      grind
  · rename_i r0 _ hres
    simp at h
    grind
  · rename_i hn1 hn2
    simp at h
    obtain ⟨ds, hds, rfl⟩ := h
    obtain ⟨us, h1, h2, h3⟩ := resVs_sim (P := P) hvars ht _ ds hds
    have hrun2 := hrun us h1
    have hne : us.length ≠ 1 := by
      intro hl
      have hlen : ∀ (l : List ResultVar) (ds : List V), resVs P e l = some ds → ds.length = l.length := by
        intro l
        induction l with
        | nil => grind [resVs]
        | cons r l ih =>
          grind [Option.some.injEq, resVs]
      have := hlen _ ds hds
      match hl' : fn.results.toList with
      | [] => grind
      | [r0] => exact hn2 r0 hl'
      | _ :: _ :: _ => grind
    rw [dif_neg hne] at hrun2
    exact hfin _ _ hrun2 (.tup _ ds (by simpa using h2) (fun i x d hi hd => h3 i x d (by simpa using hi) hd))

theorem fnOk_of_ev [Calm Γ] (hm : P.follows .mixedOrders = true) (hS : Table Γ P G S) {f : FuncId} {fn : Func} {c : Code} (hf : P.funcs[f]? = some fn) (hb : fn.body = some c)
    {spec : Γ.St → List V → Option (Γ.St × RV)}
    (h : ∀ s ds s' r, spec s ds = some (s', r) → ∃ k e', Ev P G S c (start fn.ntmps s ds) k e' ∧ (k = .normal ∨ k = .ret) ∧ e'.st = s' ∧ evRet P e' fn = some r) : FnOk Γ P G f spec := by
  refine FnOkW.calm ?_
  intro w F O s args ds s' r hsig hG hF hlen hrd hspec
  obtain ⟨k, e', hev, hk, hst, hret⟩ := h s ds s' r hspec
  refine calls_of_wp hf hb ?_
  have hget : ∀ t, TRel w F ⟨fun _ => 0, fun _ => 0⟩ (fun _ => False) ((args ++ Array.replicate (fn.ntmps - args.size) undef).getD t undef) ((start fn.ntmps s ds).get t) := by
    intro t
    simp [start, startTm, Env.get]
    by_cases ht : t < ds.length
    · rw [List.getElem?_append_left (by simpa using ht), Array.getElem?_append_left (by omega)]
      rw [List.getElem?_map, List.getElem?_eq_getElem ht, Array.getElem?_eq_getElem (by omega)]
      exact hrd t _ _ (by grind) (by simp [ht])
    · rw [List.getElem?_append_right (by grind), Array.getElem?_append_right (by omega), hlen]
      simp
      by_cases h2 : t - ds.length < fn.ntmps - ds.length
      · rw [List.getElem?_replicate, if_pos h2, Array.getElem?_replicate, if_pos h2]
        exact Rd.val _
      · rw [List.getElem?_replicate, if_neg h2]
        trivial
  have hnovar : ∀ s0, (start fn.ntmps s ds).var s0 = none := by
    grind [start, Env.var]
  have hinv : Inv Γ G w F O { tmps := args ++ Array.replicate (fn.ntmps - args.size) undef, defers := [] } w (start fn.ntmps s ds) := by
    refine Inv.of (F := F) (O := O) (β := ⟨fun _ => 0, fun _ => 0⟩) (al := fun _ => False) ⟨Keep.refl _ w, hsig, fun b hb => .inl hb, fun b hb => ⟨.inl hb, hF b hb⟩, .refl _ _, fun x hx => hx.elim, fun x y hx => hx.elim, fun b n h => by cases h⟩ hG ?_ rfl hget ?_ (fun s h => h.elim)
    all_goals grind [start, startTm]
  refine wp_mono (ev_sim hm hS hev hinv) ?_
  rintro ex a' w' ⟨rfl, hi'⟩
  obtain ⟨v, F', O', h1, h2, h3, h4, h5, h6, h7⟩ := evRet_sim rfl hi' hret
  have hdf : a'.defers = [] := by obtain ⟨_, _, _, _, _, _, hdf, _⟩ := hi'; exact hdf
  rw [hst] at h2
  rcases hk with rfl | rfl
  · exact ⟨hdf, v, h1, v, F', O', rfl, h2, h3, h4, h5, h6, h7⟩
  · exact ⟨hdf, v, h1, v, F', O', rfl, h2, h3, h4, h5, h6, h7⟩
end
end Go.Ve

namespace Go.Ve
open Go

section
variable {Γ : Sig} (P : Look) (G : Nat → Option (List V)) (S : Specs Γ)

def evCode : Nat → Code → Env Γ.St → Option (X × Env Γ.St)
  | 0, _, _ => none
  | _ + 1, .skip, e => some (.normal, e)
  | n + 1, .seq x y, e => match evCode n x e with
    | some (.normal, e1) => evCode n y e1
    | r => r
  | n + 1, .cond c x y, e => match evx G e c with
    | .p (.val (.bool true)) => evCode n x e
    | .p (.val (.bool false)) => evCode n y e
    | _ => none
  | n + 1, .block id c, e => match evCode n c e with
    | some (k, e1) => some (k.out id, e1)
    | none => none
  | n + 1, .loop c, e => match evCode n c e with
    | some (.normal, e1) => evCode n (.loop c) e1
    | r => r
  | _ + 1, .exit id, e => some (.exit id, e)
  | _ + 1, .ret, e => some (.ret, e)
  | _ + 1, .region _ ops false, e => match evSeq P G S ops ops.toList e with
    | some e1 => some (.normal, e1)
    | none => none
  | _ + 1, .region _ ops true, e => match evDrawT P G S ops e with
    | some e1 => some (.normal, e1)
    | none => none
  | _, _, _ => none

variable {P G S}

theorem Ev.loopStep {c : Code} {e e1 e2 : Env Γ.St} {k : X} (h1 : Ev P G S c e .normal e1) (h2 : Ev P G S (.loop c) e1 k e2) : Ev P G S (.loop c) e k e2 := by
  cases h2 with
  | loop n es h0 hs hl hne =>
    refine .loop (n + 1) (fun i => match i with | 0 => e | i + 1 => es i) rfl ?_ hl hne
    grind

theorem Ev.loopDone {c : Code} {e e1 : Env Γ.St} {k : X} (h1 : Ev P G S c e k e1) (hne : k ≠ .normal) : Ev P G S (.loop c) e k e1 :=
  .loop 0 (fun _ => e) rfl (fun i hi => by omega) h1 hne

theorem ev_of_code : ∀ (n : Nat) (c : Code) (e e' : Env Γ.St) (k : X), evCode P G S n c e = some (k, e') → Ev P G S c e k e' := by
  intro n
  induction n with
  | zero => grind [evCode]
  | succ n ih =>
    intro c e e' k h
    cases c <;> (try simp only [evCode] at h)
    case skip => simp at h; obtain ⟨rfl, rfl⟩ := h; exact .skip e
    case region id ops draw =>
      cases draw
      · simp only [evCode] at h
        split at h
        · rename_i e1 he1
          simp at h; obtain ⟨rfl, rfl⟩ := h
          exact .seqR he1
        · cases h
      · simp only [evCode] at h
        split at h
        · rename_i e1 he1
          simp at h; obtain ⟨rfl, rfl⟩ := h
          exact .drawR he1
        · cases h
    case seq x y =>
      split at h
      · rename_i e1 he1
        exact .seqN (ih x e e1 .normal he1) (ih y e1 e' k h)
      · rename_i hne
        refine .seqX (ih x e e' k h) ?_
        simp_all
    case cond c x y =>
      split at h
      · rename_i hc; exact .condT hc (ih x e e' k h)
      · rename_i hc; exact .condF hc (ih y e e' k h)
      · cases h
    case block id c =>
      split at h
      · rename_i k0 e1 he1
        simp at h; obtain ⟨rfl, rfl⟩ := h
        exact .block (ih c e e1 k0 he1)
      · cases h
    case loop c =>
      split at h
      · rename_i e1 he1
        exact (ih c e e1 .normal he1).loopStep (ih (.loop c) e1 e' k h)
      · rename_i hne
        refine (ih c e e' k h).loopDone ?_
        simp_all
    case exit id => simp at h; obtain ⟨rfl, rfl⟩ := h; exact .exit id e
    case ret => simp at h; obtain ⟨rfl, rfl⟩ := h; exact .ret e
    all_goals (cases h)

variable (P G S)

/-- A function by the evaluation of its body. -/
def evFn (n : Nat) (fn : Func) (s : Γ.St) (ds : List V) : Option (Γ.St × RV) :=
  match fn.body with
  | some c => match evCode P G S n c (start fn.ntmps s ds) with
    | some (.normal, e') => (evRet P e' fn).map (fun r => (e'.st, r))
    | some (.ret, e') => (evRet P e' fn).map (fun r => (e'.st, r))
    | _ => none
  | none => none

def isBot : List V → Bool
  | .bot :: _ => true
  | _ => false

/-- The interpreter: contracts that are given, else the bodies. -/
def runN (Xs : Specs Γ) (k : Nat) : Nat → Specs Γ
  | 0 => Xs
  | n + 1 => fun f s ds => match Xs f s ds with
    | some r => some r
    | none => match isBot ds with
      | true => none
      | false => match P.fn f with
        | some fn => evFn P G (runN Xs k n) k fn s ds
        | none => none

end

section
variable {Γ : Sig} {P : Program} {G : Nat → Option (List V)} {S : Specs Γ}

theorem fnOk_evFn [Calm Γ] (hm : P.follows .mixedOrders = true) (hS : Table Γ P G S) {f : FuncId} {fn : Func} (hf : P.funcs[f]? = some fn) (n : Nat) : FnOk Γ P G f (evFn P G S n fn) := by
  cases hb : fn.body with
  | none =>
    intro w F O s args ds s' r _ _ _ _ _ h
    grind [evFn]
  | some c =>
    refine fnOk_of_ev hm hS hf hb ?_
    intro s ds s' r h
    simp [evFn, hb] at h
    split at h
    · rename_i e' he'
      simp only [Option.map_eq_some_iff, Prod.mk.injEq] at h
      obtain ⟨r', hr, hst, rfl⟩ := h
      exact ⟨_, e', ev_of_code n c _ e' _ he', .inl rfl, hst, hr⟩
    · rename_i e' he'
      simp only [Option.map_eq_some_iff, Prod.mk.injEq] at h
      obtain ⟨r', hr, hst, rfl⟩ := h
      exact ⟨_, e', ev_of_code n c _ e' _ he', .inr rfl, hst, hr⟩
    · cases h

theorem FnOk.or {f : FuncId} {s1 s2 : Γ.St → List V → Option (Γ.St × RV)} (h1 : FnOk Γ P G f s1) (h2 : FnOk Γ P G f s2) :
    FnOk Γ P G f (fun s ds => match s1 s ds with | some r => some r | none => s2 s ds) := by
  intro w F O s args ds s' r a1 a2 a3 a4 a5 h
  simp only at h
  split at h
  · rename_i r' hr'
    cases h
    exact h1 w F O s args ds s' r a1 a2 a3 a4 a5 hr'
  · exact h2 w F O s args ds s' r a1 a2 a3 a4 a5 h

theorem FnOk.nothing {f : FuncId} : FnOk Γ P G f (fun _ _ => none) := by
  intro w F O s args ds s' r _ _ _ _ _ h; cases h

/-- No function of the program is the one that counts goroutines. -/
def noCount (P : Program) : Bool := P.funcs.toList.all (fun fn => !(fn.name == "runtime.NumGoroutine"))

theorem table_runN [Calm Γ] (hm : P.follows .mixedOrders = true) (hn : noCount P = true) {Xs : Specs Γ} (hX : Table Γ P G Xs) (k : Nat) : ∀ n, Table Γ P G (runN P G Xs k n) := by
  intro n
  induction n with
  | zero => exact hX
  | succ n ih =>
    refine ⟨?_, ?_, ?_, ?_⟩
    · intro f
      cases hf : P.funcs[f]? with
      | none =>
        have : runN P G Xs k (n + 1) f = fun s ds => match Xs f s ds with | some r => some r | none => none := by
          grind [runN, isBot]
        rw [this]
        exact (hX.ok f).or .nothing
      | some fn =>
        have : runN P G Xs k (n + 1) f = fun s ds => match Xs f s ds with | some r => some r | none => match isBot ds with | true => none | false => evFn P G (runN P G Xs k n) k fn s ds := by
          grind [runN]
        rw [this]
        refine (hX.ok f).or ?_
        intro w F O s args ds s' r a1 a2 a3 a4 a5 h
        simp only at h
        split at h
        · cases h
        · exact fnOk_evFn hm ih hf k w F O s args ds s' r a1 a2 a3 a4 a5 h
    · intro f s ds r h hb
      simp only [runN] at h
      split at h
      · rename_i r' hr'
        exact hX.is f s ds r' hr' hb
      · split at h
        · cases h
        · split at h
          · rename_i fn hf
            refine ⟨fn, hf, ?_, ?_⟩
            · grind [evFn]
            · have := List.all_eq_true.1 hn fn (by grind)
              simpa using this
          · cases h
    · intro hno st q t ys bytes st' d h
      refine hX.app hno st q t ys bytes st' d ?_
      grind [runN, isBot]
    · intro f st t xs ds st' ys d h
      refine hX.bor f st t xs ds st' ys d ?_
      grind [runN, isBot]

def noSpecs (Γ : Sig) : Specs Γ := fun _ _ _ => none

theorem table_none : Table Γ P G (noSpecs Γ) :=
  ⟨fun _ => .nothing, (fun f s ds r h => by cases h), (fun _ st q t ys bytes st' d h => by cases h), (fun f st t xs ds st' ys d h => by cases h)⟩
end
end Go.Ve

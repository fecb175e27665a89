/-
  Conditions out of code, part 2: writing operations, regions.
-/
import Derived.Test.YtggmpbaiijodiaaGreatNvW1
namespace Go.Ve
open Go

section
variable {β : Type 1}

/-- The constructors of a value written out; its leaves as they stand. -/
def gL {α : Type} (f : α → (α → Prop) → Prop) : List α → (List α → Prop) → Prop
  | [], k => k []
  | x :: r, k => f x (fun x => gL f r (fun r => k (x :: r)))

def gVal : Value → (Value → Prop) → Prop
  | .int q n, k => k (.int q n)
  | .bool b, k => k (.bool b)
  | .string s, k => k (.string s)
  | v, k => k v

def gV : Nat → V → (V → Prop) → Prop
  | 0, d, k => k d
  | _ + 1, .val v, k => gVal v (fun v => k (.val v))
  | n + 1, .agg cs, k => gL (gV n) cs (fun cs => k (.agg cs))
  | n + 1, .sl cs, k => gL (gV n) cs (fun cs => k (.sl cs))
  | n + 1, .tup cs, k => gL (gV n) cs (fun cs => k (.tup cs))
  | n + 1, .pp cs, k => gL (gV n) cs (fun cs => k (.pp cs))
  | n + 1, .clo f cs, k => gL (gV n) cs (fun cs => k (.clo f cs))
  | _ + 1, .tl t xs, k => k (.tl t xs)

def gT : T → (T → Prop) → Prop
  | .p d, k => gV 6 d (fun d => k (.p d))
  | .ow i q es, k => gL (gV 6) es (fun es => k (.ow i q es))
  | .oe i q es j off, k => gL (gV 6) es (fun es => k (.oe i q es j off))
  | .lp s off, k => k (.lp s off)
  | .mp i es ck, k => k (.mp i es ck)
  | .ot i t xs, k => k (.ot i t xs)
  | .oet i t xs j off, k => k (.oet i t xs j off)
  | .emp, k => k .emp
  | .dead, k => k .dead

def gO : Option (List T) → (Option (List T) → Prop) → Prop
  | none, k => k none
  | some cs, k => gL gT cs (fun cs => k (some cs))

def gEnv {St : Type} (e : Env St) (k : Env St → Prop) : Prop :=
  match e with
  | ⟨tm, vars, st⟩ => gL gT tm (fun tm => gL gO vars (fun vars => k ⟨tm, vars, st⟩))

/-- Element d alone; what stands behind it is as it was. -/
def gAt {α : Type} (f : α → (α → Prop) → Prop) : Nat → List α → (List α → Prop) → Prop
  | _, [], k => k []
  | 0, x :: r, k => f x (fun x => k (x :: r))
  | n + 1, x :: r, k => gAt f n r (fun r => k (x :: r))

def gOne {St : Type} (d : Nat) (e : Env St) (k : Env St → Prop) : Prop :=
  match e with
  | ⟨tm, vars, st⟩ => gAt gT d tm (fun tm => k ⟨tm, vars, st⟩)

/-- By what the operation may turn. -/
def gOp {St : Type} (o : Oper) (e : Env St) (k : Env St → Prop) : Prop :=
  match o.op with
  | .move _ | .assign _ | .load _ _ | .field _ _ _ | .fieldAddr _ _ _ | .indexAddr _ _ _ | .index _ _ _ | .binOp _ _ _ _ _ | .unOp _ _ _ | .convert _ _ _ | .pick _ _ _ | .extract _ _ | .nilCheck _ => match o.dst with
    | some d => gOne d e k
    | none => gEnv e k
  | .call c => match c.callee, o.dst with
    | .builtin .len, some d => gOne d e k
    | .builtin .min, some d => gOne d e k
    | .builtin .max, some d => gOne d e k
    | _, _ => gEnv e k
  | _ => gEnv e k

theorem gL_eq {α : Type} {f : α → (α → Prop) → Prop} (hf : ∀ x k, f x k = k x) : ∀ (l : List α) (k : List α → Prop), gL f l k = k l := by
  intro l
  induction l with
  | nil => intro k; rfl
  | cons x l ih => intro k; simp only [gL, hf, ih]

theorem gVal_eq (v : Value) (k : Value → Prop) : gVal v k = k v := by cases v <;> rfl

theorem gV_eq : ∀ (n : Nat) (d : V) (k : V → Prop), gV n d k = k d := by
  intro n
  induction n with
  | zero => intro d k; rfl
  | succ n ih =>
    intro d k
    cases d <;> simp only [gV]
    · exact gVal_eq _ _
    all_goals (first | exact gL_eq ih _ _ | rfl)

theorem gT_eq (x : T) (k : T → Prop) : gT x k = k x := by
  cases x <;> simp only [gT]
  · exact gV_eq _ _ _
  · exact gL_eq (gV_eq 6) _ _
  · exact gL_eq (gV_eq 6) _ _

theorem gO_eq (x : Option (List T)) (k : Option (List T) → Prop) : gO x k = k x := by
  cases x with
  | none => rfl
  | some cs => simp only [gO]; exact gL_eq gT_eq _ _

theorem gEnv_eq {St : Type} (e : Env St) (k : Env St → Prop) : gEnv e k = k e := by
  obtain ⟨tm, vars, st⟩ := e
  simp only [gEnv]
  rw [gL_eq gT_eq, gL_eq gO_eq]

theorem gAt_eq {α : Type} {f : α → (α → Prop) → Prop} (hf : ∀ x k, f x k = k x) : ∀ (n : Nat) (l : List α) (k : List α → Prop), gAt f n l k = k l := by
  intro n l
  induction l generalizing n with
  | nil => intro k; cases n <;> rfl
  | cons x l ih =>
    intro k
    cases n with
    | zero => simp only [gAt, hf]
    | succ n => simp only [gAt]; exact ih n _

theorem gOne_eq {St : Type} (d : Nat) (e : Env St) (k : Env St → Prop) : gOne d e k = k e := by
  obtain ⟨tm, vars, st⟩ := e
  simp only [gOne]
  rw [gAt_eq gT_eq]

theorem gOp_eq {St : Type} (o : Oper) (e : Env St) (k : Env St → Prop) : gOp o e k = k e := by
  unfold gOp
  repeat' split
  all_goals (first | exact gOne_eq _ _ _ | exact gEnv_eq _ _)
end

section
variable {Γ : Sig} (P : Look) (G : Nat → Option (List V)) (S : SpecsW Γ)

/-- Writing operations on typed data. -/
def wW (e : Env Γ.St) (o : Oper) : Option (Ke Γ) :=
  match o.op with
  | .store t ap x => match o.dst with
    | some _ => none
    | none => match evx G e ap, evx G e x with
      | .oet id ty xs i off, .p d =>
        if size? P t = some d.cells.length ∧ off + d.cells.length ≤ ty.size ∧ d.cells.all V.one = true ∧ (ty.aggT = false → d.cells.length = 1 ∧ ty.size = 1) then
          some (fun K => i < xs.length ∧ ∀ y, xs[i]? = some y → match newEl ty y off d with
            | some z => K (e.mapT (updTT id ty i z))
            | none => False)
        else none
      | _, _ => none
  | .call c => match c.callee, c.args.toList, c.argTypes.toList, o.dst with
    | .builtin .append, [x0, x1], [t0, t1], some d => match P.und t0, P.und t1 with
      | some (.slice el), some (.slice _) => match P.inf el with
        | some info => match info.zero, srcT (evx G e x1) with
          | some z, some ⟨t, ys⟩ => match dstT t (evx G e x0) with
            | some (nm, xs) =>
              if t.size = info.size ∧ 1 ≤ info.bytes ∧ zcells z = info.size then
                some (fun K => (2 * (xs.length + ys.length) + 1024) * info.bytes ≤ 140737488355328 ∧
                  K { (e.kill (nm.getD d)) with tm := (e.kill (nm.getD d)).tm.set d (.ot (nm.getD d) t (xs ++ ys)) })
              else none
            | none => none
          | _, _ => none
        | none => none
      | _, _ => none
    | _, _, _, _ => none
  | _ => none

noncomputable def wWs (e : Env Γ.St) (o : Oper) : Option (Ke Γ) :=
  match wW P G e o with
  | some q => some q
  | none => match evW P G e o with
    | some e1 => some (fun K => K e1)
    | none => none

/-- One route: what only makes, then what writes. -/
noncomputable def routeW (e : Env Γ.St) (o : Oper) : Option (Ke Γ) :=
  match qWs P G S e o with
  | some q => some (fun K => q (fun r => match applyR e o.dst r with
    | some e1 => K e1
    | none => False))
  | none => wWs P G e o

noncomputable def anyW (e : Env Γ.St) (o : Oper) (K : Env Γ.St → Prop) : Prop :=
  match routeW P G S e o with
  | some q => q K
  | none => match routeW P G S (frzOps G (frzSel o) e) o with
    | some q => q K
    | none => False

def Env.lit (e : Env Γ.St) (t : Nat) (b : Bool) : Env Γ.St := { e with tm := e.tm.set t (.p (.val (.bool b))) }

/-- With its guard: where the guard is open, both ways. -/
noncomputable def stepW (ops : Array Oper) (e : Env Γ.St) (o : Oper) (K : Env Γ.St → Prop) : Prop :=
  match o.guard with
  | none => anyW P G S e o K
  | some (j, want) => match (ops[j]?).bind (·.dst) with
    | none => K (e.put o.dst (.p (.val undef)))
    | some t => match e.get t with
      | .p (.val (.bool b)) => if t < e.tm.length then
          ifb b (match want with
            | true => gOne t (e.lit t true) (fun e => anyW P G S e o K)
            | false => K ((e.lit t true).put o.dst (.p (.val undef))))
          (match want with
            | true => K ((e.lit t false).put o.dst (.p (.val undef)))
            | false => gOne t (e.lit t false) (fun e => anyW P G S e o K))
        else False
      | .p (.val (.tuple _)) => K (e.put o.dst (.p (.val undef)))
      | _ => False

noncomputable def seqW (ops : Array Oper) : List Oper → Env Γ.St → (Env Γ.St → Prop) → Prop
  | [], e, K => K e
  | o :: rest, e, K => stepW P G S ops e o (fun e1 => gOp o e1 (fun e1 => seqW ops rest e1 K))

noncomputable def drawStepW (e : Env Γ.St) (o : Oper) (K : Env Γ.St → Prop) : Prop :=
  match qWs P G S e o with
  | some q => q (fun r => match applyD e o.dst r with
    | some e1 => K e1
    | none => False)
  | none => False

noncomputable def drawGoW (ops : Array Oper) : List Oper → Env Γ.St → (Env Γ.St → Prop) → Prop
  | [], e, K => K e
  | o :: rest, e, K =>
    match o.guard with
    | none => if pendOk G (dstsOf (o :: rest)) e o then drawStepW P G S e o (fun e1 => gOp o e1 (fun e1 => drawGoW ops rest e1 K)) else False
    | some (j, want) => match (ops[j]?).bind (·.dst) with
      | none => gOne (o.dst.getD 0) (e.put o.dst (.p (.val undef))) (fun e1 => drawGoW ops rest e1 K)
      | some t => match e.get t with
        | .p (.val (.bool b)) => if t < e.tm.length then
            ifb b (match want with
              | true => gOne t (e.lit t true) (fun e => if pendOk G (dstsOf (o :: rest)) e o then drawStepW P G S e o (fun e1 => gOp o e1 (fun e1 => drawGoW ops rest e1 K)) else False)
              | false => gOne (o.dst.getD 0) ((e.lit t true).put o.dst (.p (.val undef))) (fun e1 => drawGoW ops rest e1 K))
            (match want with
              | true => gOne (o.dst.getD 0) ((e.lit t false).put o.dst (.p (.val undef))) (fun e1 => drawGoW ops rest e1 K)
              | false => gOne t (e.lit t false) (fun e => if pendOk G (dstsOf (o :: rest)) e o then drawStepW P G S e o (fun e1 => gOp o e1 (fun e1 => drawGoW ops rest e1 K)) else False))
          else False
        | .p (.val (.tuple _)) => gOne (o.dst.getD 0) (e.put o.dst (.p (.val undef))) (fun e1 => drawGoW ops rest e1 K)
        | _ => False

noncomputable def drawW (ops : Array Oper) (e : Env Γ.St) (K : Env Γ.St → Prop) : Prop :=
  if tailAt ops.toList ≤ ops.size && tailOk ops (tailAt ops.toList) && guardOk ops (tailAt ops.toList) && drawOk (ops.extract 0 (tailAt ops.toList)) then
    gEnv (killAll (dstsOf (ops.extract 0 (tailAt ops.toList)).toList) e) (fun e => drawGoW P G S (ops.extract 0 (tailAt ops.toList)) (ops.extract 0 (tailAt ops.toList)).toList e
      (fun e1 => seqW P G S ops (ops.toList.drop (tailAt ops.toList)) e1 K))
  else False
end

section
variable {Γ : Sig} {P : Program} {G : Nat → Option (List V)} {S : SpecsW Γ} {e : Env Γ.St} {o : Oper} {K : Env Γ.St → Prop} {ops : Array Oper}

theorem wW_sound {q : Ke Γ} (h : wW P G e o = some q) (hK : q K) : ∃ e1, evW P G e o = some e1 ∧ K e1 := by
  obtain ⟨dst, op, type, pos, after, guard⟩ := o
  cases op <;> simp only [wW, reduceCtorEq] at h
  case store t ap x =>
    split at h
    · cases h
    · rename_i hd
      split at h
      · rename_i id ty xs i off d hp hx
        split at h
        · rename_i hcond
          simp only [Option.some.injEq] at h
          subst h
          obtain ⟨h1, h2⟩ := hK
          have hg : xs[i]? = some xs[i] := by simp [h1]
          have h3 := h2 _ hg
          split at h3
          · rename_i z hz
            refine ⟨_, ?_, h3⟩
            simp only [evW, hp, hx, evStoreT]
            rw [if_pos hcond]
            simp only [hg, hz]
          · exact h3.elim
        · cases h
      · cases h
  case call c =>
    split at h
    · rename_i x0 x1 t0 t1 d hcal hargs htys
      split at h
      · rename_i el el1 hu0 hu1
        split at h
        · rename_i info hinfo
          split at h
          · rename_i z t ys hz hsrc
            split at h
            · rename_i nm xs hdst
              split at h
              · rename_i hok
                simp only [Option.some.injEq] at h
                subst h
                refine ⟨_, ?_, hK.2⟩
                have hu0' : P.underlying t0 = some (.slice el) := hu0
                have hu1' : P.underlying t1 = some (.slice el1) := hu1
                have hinfo' : P.info? el = some info := hinfo
                simp only [evW, evAppendT, hcal, hargs, htys, hu0', hu1', hinfo', hz, hsrc, hdst]
                rw [if_pos hok, if_pos hK.1]
              · cases h
            · cases h
          · cases h
        · cases h
      · cases h
    · cases h

theorem wWs_sound {q : Ke Γ} (h : wWs P G e o = some q) (hK : q K) : ∃ e1, evW P G e o = some e1 ∧ K e1 := by
  unfold wWs at h
  split at h
  · rename_i q' hq
    simp only [Option.some.injEq] at h; subst h
    exact wW_sound hq hK
  · split at h
    · rename_i r hr
      simp only [Option.some.injEq] at h; subst h
      exact ⟨r, hr, hK⟩
    · cases h

theorem routeW_sound (hS : Table Γ P G S.toS) {q : Ke Γ} (h : routeW P G S e o = some q) (hK : q K) : ∃ e1, OpOk P G e o e1 ∧ K e1 := by
  unfold routeW at h
  split at h
  · rename_i q' hq
    simp only [Option.some.injEq] at h; subst h
    obtain ⟨r, hr, hk⟩ := qWs_sound hq hK
    split at hk
    · rename_i e1 he1
      refine ⟨e1, fun w0 F0 O0 a w Q hi => evQA_sim (P := P) hS hi ?_, hk⟩
      simp only [evQA, hr, he1]
    · exact hk.elim
  · obtain ⟨e1, h1, h2⟩ := wWs_sound h hK
    exact ⟨e1, fun w0 F0 O0 a w Q hi => evW_sim hi h1, h2⟩

theorem anyW_sound (hS : Table Γ P G S.toS) (h : anyW P G S e o K) : ∃ e1, OpOk P G e o e1 ∧ K e1 := by
  unfold anyW at h
  split at h
  · rename_i q hq; exact routeW_sound hS hq h
  · split at h
    · rename_i q hq
      obtain ⟨e1, h1, h2⟩ := routeW_sound hS hq h
      exact ⟨e1, fun w0 F0 O0 a w Q hi => h1 w0 F0 O0 a w Q (Inv.frzOps _ _ hi), h2⟩
    · exact h.elim

theorem lit_eq {t : Nat} {b : Bool} (h : e.get t = .p (.val (.bool b))) : e.lit t b = e := by
  obtain ⟨tm, vars, st⟩ := e
  simp only [Env.lit, Env.mk.injEq, and_true]
  refine List.ext_getElem? (fun i => ?_)
  simp only [Env.get, List.getD_eq_getElem?_getD] at h
  by_cases hi : t = i
  · subst hi
    rcases Nat.lt_or_ge t tm.length with hl | hl
    · rw [List.getElem?_set_self hl]
      rw [List.getElem?_eq_getElem hl, Option.getD_some] at h
      rw [List.getElem?_eq_getElem hl, h]
    · rw [List.getElem?_eq_none (by simpa using hl), List.getElem?_eq_none hl]
  · rw [List.getElem?_set_ne hi]

theorem stepW_sound (hS : Table Γ P G S.toS) (h : stepW P G S ops e o K) : ∃ e1, StepR P G ops e o e1 ∧ K e1 := by
  unfold stepW at h
  split at h
  · rename_i hg
    obtain ⟨e1, h1, h2⟩ := anyW_sound hS h
    exact ⟨e1, .inl ⟨by simp only [wantedV, hg], h1⟩, h2⟩
  · rename_i j want hg
    split at h
    · rename_i hj
      exact ⟨_, .inr ⟨by simp only [wantedV, hg, hj], rfl⟩, h⟩
    · rename_i t hj
      split at h
      · rename_i b hb
        split at h
        · rename_i hlt
          have hw : wantedV ops e o = some (b == want) := by simp only [wantedV, hg, hj, hb, hlt, if_true]
          refine ifb_cases h (fun hbt hh => ?_) (fun hbt hh => ?_)
          · subst hbt
            split at hh
            · rw [gOne_eq, lit_eq hb] at hh
              obtain ⟨e1, h1, h2⟩ := anyW_sound hS hh
              exact ⟨e1, .inl ⟨hw, h1⟩, h2⟩
            · rw [lit_eq hb] at hh
              exact ⟨_, .inr ⟨hw, rfl⟩, hh⟩
          · subst hbt
            split at hh
            · rw [lit_eq hb] at hh
              exact ⟨_, .inr ⟨hw, rfl⟩, hh⟩
            · rw [gOne_eq, lit_eq hb] at hh
              obtain ⟨e1, h1, h2⟩ := anyW_sound hS hh
              exact ⟨e1, .inl ⟨hw, h1⟩, h2⟩
        · exact h.elim
      · rename_i vs hb
        exact ⟨_, .inr ⟨by simp only [wantedV, hg, hj, hb], rfl⟩, h⟩
      · exact h.elim

theorem seqW_sound (hS : Table Γ P G S.toS) : ∀ (l : List Oper) (e : Env Γ.St), seqW P G S ops l e K → ∃ e', SeqR P G ops l e e' ∧ K e' := by
  intro l
  induction l with
  | nil => intro e h; exact ⟨e, .nil e, h⟩
  | cons o rest ih =>
    intro e h
    simp only [seqW] at h
    obtain ⟨e1, h1, h2⟩ := stepW_sound hS h
    rw [gOp_eq] at h2
    obtain ⟨e', h3, h4⟩ := ih e1 h2
    exact ⟨e', .cons h1 h3, h4⟩

theorem drawStepW_sound (h : drawStepW P G S e o K) : ∃ r e1, evQ P G S.toS e o = some r ∧ applyD e o.dst r = some e1 ∧ K e1 := by
  unfold drawStepW at h
  split at h
  · rename_i q hq
    obtain ⟨r, hr, hk⟩ := qWs_sound hq h
    split at hk
    · rename_i e1 he1; exact ⟨r, e1, hr, he1, hk⟩
    · exact hk.elim
  · exact h.elim

theorem drawGoW_sound : ∀ (l : List Oper) (e : Env Γ.St), drawGoW P G S ops l e K → ∃ e', drawGo P G S.toS ops l e = some e' ∧ K e' := by
  intro l
  induction l with
  | nil => intro e h; exact ⟨e, rfl, h⟩
  | cons o rest ih =>
    intro e h
    have run : ∀ e0 : Env Γ.St, e0 = e → wantedV ops e o = some true → (if pendOk G (dstsOf (o :: rest)) e0 o then drawStepW P G S e0 o (fun e1 => gOp o e1 (fun e1 => drawGoW P G S ops rest e1 K)) else False) →
        ∃ e', drawGo P G S.toS ops (o :: rest) e = some e' ∧ K e' := by
      intro e0 he0 hw hh
      subst he0
      split at hh
      · rename_i hp
        obtain ⟨r, e1, h1, h2, h3⟩ := drawStepW_sound hh
        rw [gOp_eq] at h3
        obtain ⟨e', h4, h5⟩ := ih e1 h3
        refine ⟨e', ?_, h5⟩
        simp only [drawGo, hw, hp, if_true, h1, h2, h4]
      · exact hh.elim
    have skip : ∀ e0 : Env Γ.St, e0 = e → wantedV ops e o = some false → gOne (o.dst.getD 0) (e0.put o.dst (.p (.val undef))) (fun e1 => drawGoW P G S ops rest e1 K) → ∃ e', drawGo P G S.toS ops (o :: rest) e = some e' ∧ K e' := by
      intro e0 he0 hw hh
      subst he0
      rw [gOne_eq] at hh
      obtain ⟨e', h4, h5⟩ := ih _ hh
      refine ⟨e', ?_, h5⟩
      simp only [drawGo, hw, h4]
    unfold drawGoW at h
    split at h
    · rename_i hg; exact run e rfl (by simp only [wantedV, hg]) h
    · rename_i j want hg
      split at h
      · rename_i hj; exact skip e rfl (by simp only [wantedV, hg, hj]) h
      · rename_i t hj
        split at h
        · rename_i b hb
          split at h
          · rename_i hlt
            have hw : wantedV ops e o = some (b == want) := by simp only [wantedV, hg, hj, hb, hlt, if_true]
            refine ifb_cases h (fun hbt hh => ?_) (fun hbt hh => ?_)
            · subst hbt
              split at hh
              · rw [gOne_eq] at hh; exact run _ (lit_eq hb) hw hh
              · exact skip _ (lit_eq hb) hw hh
            · subst hbt
              split at hh
              · exact skip _ (lit_eq hb) hw hh
              · rw [gOne_eq] at hh; exact run _ (lit_eq hb) hw hh
          · exact h.elim
        · rename_i vs hb; exact skip e rfl (by simp only [wantedV, hg, hj, hb]) h
        · exact h.elim

theorem drawW_sound (hmix : P.follows .mixedOrders = true) (hS : Table Γ P G S.toS) (h : drawW P G S ops e K) : ∃ e', (∀ (id : Nat) (w0 : World) (F0 O0 : Nat → Prop) (a : Act) (w : World) (Q : Exit → Act → World → Prop),
    Inv Γ G w0 F0 O0 a w e → (∀ a w, Inv Γ G w0 F0 O0 a w e' → Q .normal a w) → (Code.region id ops true).wp P Q a w) ∧ K e' := by
  unfold drawW at h
  split at h
  · rename_i hc
    simp only [Bool.and_eq_true, decide_eq_true_eq] at hc
    obtain ⟨⟨⟨h1, h2⟩, h3⟩, h4⟩ := hc
    rw [gEnv_eq] at h
    obtain ⟨e1, h5, h6⟩ := drawGoW_sound _ _ h
    obtain ⟨e', h7, h8⟩ := seqW_sound hS _ _ h6
    refine ⟨e', fun id w0 F0 O0 a w Q hi hQ => drawR_sim hmix hS hi h1 h2 h3 (e1 := e1) ?_ h7 hQ, h8⟩
    unfold evDraw
    rw [if_pos h4]
    exact h5
  · exact h.elim
end
end Go.Ve

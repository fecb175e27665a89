/-
  The evaluator over pure values, part 17: operations that write what the frame itself has made; what stays from now on.
-/
import Derived.Test.YtggmpbaiijodiaaGreatNvVe13
namespace Go.Ve
open Go

def setBlk (w : World) (b : Nat) (ob : Obj) : World := { w with heap := w.heap.setIfInBounds b ob }

theorem setBlk_ne {w : World} {b b' : Nat} {ob : Obj} (h : b' ≠ b) : (setBlk w b ob).heap[b']? = w.heap[b']? := by
  simp only [setBlk]; exact Array.getElem?_setIfInBounds_ne (Ne.symm h)

theorem setBlk_eq {w : World} {b : Nat} {ob : Obj} (h : b < w.heap.size) : (setBlk w b ob).heap[b]? = some ob := by
  simp [setBlk, h]

theorem setBlk_size {w : World} {b : Nat} {ob : Obj} : (setBlk w b ob).heap.size = w.heap.size := by simp [setBlk]

theorem lt_of_block {w : World} {b : Nat} {ob : Obj} (h : w.heap[b]? = some ob) : b < w.heap.size := (Array.getElem?_eq_some_iff.1 h).1

theorem arr_ext {α : Type} {xs ys : Array α} (h : ∀ i : Nat, xs[i]? = ys[i]?) : xs = ys :=
  Array.ext' (List.ext_getElem? (fun i => by simpa using h i))

theorem setCell_setBlk {w : World} {b o : Nat} {c : Array Value} {et : TypeId} (h : w.heap[b]? = some (.cells c et (0, 0))) (v : Value) :
    w.setCell ⟨b, o, none⟩ v = setBlk w b (.cells (c.setIfInBounds o v) et (0, 0)) := by
  have hlt := lt_of_block h
  simp only [World.setCell, setBlk]
  congr 1
  refine arr_ext fun i => ?_
  rw [Array.getElem?_modify]
  by_cases hi : b = i
  · subst hi
    rw [if_pos rfl, h, Array.getElem?_setIfInBounds_self_of_lt hlt]
    rfl
  · rw [if_neg hi, Array.getElem?_setIfInBounds_ne hi]

theorem setBlk_self {w : World} {b : Nat} {ob : Obj} (h : w.heap[b]? = some ob) : setBlk w b ob = w := by
  have hlt := lt_of_block h
  have : w.heap.setIfInBounds b ob = w.heap := by
    refine arr_ext fun i => ?_
    by_cases hi : b = i
    · subst hi; rw [Array.getElem?_setIfInBounds_self_of_lt hlt, h]
    · rw [Array.getElem?_setIfInBounds_ne hi]
  simp only [setBlk, this]

theorem setBlk_setBlk {w : World} {b : Nat} {o1 o2 : Obj} : setBlk (setBlk w b o1) b o2 = setBlk w b o2 := by
  simp only [setBlk]; congr 1; exact Array.setIfInBounds_setIfInBounds ..

def spliceA (c : Array Value) (o : Nat) : List Value → Array Value
  | [] => c
  | v :: r => spliceA (c.setIfInBounds o v) (o + 1) r

theorem spliceA_size : ∀ (vs : List Value) (c : Array Value) (o : Nat), (spliceA c o vs).size = c.size := by
  intro vs
  induction vs with
  | nil => intro c o; rfl
  | cons v vs ih => intro c o; simp [spliceA, ih]

theorem spliceA_get : ∀ (vs : List Value) (c : Array Value) (o i : Nat), o + vs.length ≤ c.size → (spliceA c o vs)[i]? = if o ≤ i ∧ i < o + vs.length then vs[i - o]? else c[i]? := by
  intro vs
  induction vs with
  | nil => intro c o i _; simp [spliceA]; intro h1 h2; omega
  | cons v vs ih =>
    intro c o i h
    simp only [List.length_cons] at h
    simp only [spliceA]
    rw [ih _ _ _ (by simp; omega)]
    by_cases h1 : o + 1 ≤ i ∧ i < o + 1 + vs.length
    · rw [if_pos h1, if_pos (by simp; omega)]
      have : i - o = (i - (o + 1)) + 1 := by omega
      rw [this]; simp
    · rw [if_neg h1]
      by_cases h2 : i = o
      · subst h2
        rw [Array.getElem?_setIfInBounds_self_of_lt (by omega), if_pos (by simp)]
        simp
      · rw [Array.getElem?_setIfInBounds_ne (Ne.symm h2), if_neg (by simp; omega)]

theorem run_storeCells {P : Program} {b off : Nat} {et : TypeId} : ∀ (vs : List Value) (i : Nat) (w : World) (c : Array Value), w.heap[b]? = some (.cells c et (0, 0)) → off + i + vs.length ≤ c.size →
    (∀ v, v ∈ vs → v.oneCell' = true) → (storeCells ⟨b, off, none⟩ vs i).run P w = .ok () (if vs = [] then w else setBlk w b (.cells (spliceA c (off + i) vs) et (0, 0))) := by
  intro vs
  induction vs with
  | nil => intro i w c _ _ _; simp [storeCells]
  | cons v vs ih =>
    intro i w c hb hle hone
    simp only [List.length_cons] at hle
    have hcell : w.cell? ⟨b, off + i, none⟩ = some c[off + i] := by simp [World.cell?, hb, show off + i < c.size by omega]
    have hfr : w.frozen? ⟨b, off + i, none⟩ = false := by simp [World.frozen?, hb]
    have hlt := lt_of_block hb
    simp only [storeCells, Sem.run_bind, add_eq, run_store P w _ v _ (hone v (by simp)), hcell, hfr, Bool.false_eq_true, if_false, Result.andThen_ok]
    rw [setCell_setBlk hb]
    rw [ih (i + 1) _ (c.setIfInBounds (off + i) v) (setBlk_eq hlt) (by simp; omega) (fun u hu => hone u (List.mem_cons_of_mem _ hu))]
    simp only [reduceCtorEq, if_false]
    cases vs with
    | nil => simp [spliceA]
    | cons u vs =>
      simp only [reduceCtorEq, if_false, setBlk_setBlk]
      rfl

section
variable {w : World} {F : Nat → Prop} {β : Lay} {al : Site → Prop}

theorem Rd.setBlk {b : Nat} {ob : Obj} (hF : ∀ b', F b' → b' ≠ b) {v : Value} {d : V} (h : Rd w F v d) : Rd (Ve.setBlk w b ob) F v d :=
  h.mono (fun _ h => h) (fun b' hb => setBlk_ne (hF b' hb))

theorem RowRel.setBlk {b b0 k cap : Nat} {ob : Obj} (hF : ∀ b', F b' → b' ≠ b) (hne : b0 ≠ b) {es : List V} (h : RowRel w F b0 k cap es) : RowRel (Ve.setBlk w b ob) F b0 k cap es :=
  h.mono (fun _ h => h) (fun b' hb => setBlk_ne (hF b' hb)) (setBlk_ne hne)

/-- Writing into a block that is none of the frame's own slices. -/
theorem TRel.setVar {b : Nat} {ob : Obj} (hF : ∀ b', F b' → b' ≠ b) (ho : ∀ id, al (.o id) → β.ob id ≠ b) {v : Value} {x : T} (h : TRel w F β al v x) : TRel (Ve.setBlk w b ob) F β al v x := by
  cases x with
  | p d => exact Rd.setBlk hF h
  | ow id k es => obtain ⟨ha, cap, hv, hr⟩ := h; exact ⟨ha, cap, hv, hr.setBlk hF (ho id ha)⟩
  | oe id k es i off => obtain ⟨ha, hi, cap, hv, hr⟩ := h; exact ⟨ha, hi, cap, hv, hr.setBlk hF (ho id ha)⟩
  | lp s off => exact h
  | mp id es ck => obtain ⟨ha, hv, hr⟩ := h; exact ⟨ha, hv, (setBlk_ne (ho id ha)).trans hr⟩
  | ot id t xs =>
    rcases h with h | ⟨hne, ha, cap, hv, hr⟩
    · exact .inl h
    · exact .inr ⟨hne, ha, cap, hv, hr.setBlk hF (ho id ha)⟩
  | oet id t xs i off => obtain ⟨ha, hi, cap, hv, hr⟩ := h; exact ⟨ha, hi, cap, hv, hr.setBlk hF (ho id ha)⟩
  | emp => exact h
  | dead => trivial
end

def V.one : V → Bool
  | .val (.agg _) => false
  | .val (.tuple _) => false
  | .agg _ => false
  | .tup _ => false
  | _ => true

/-- The cells of what is stored. -/
def T.cellsT : T → Option (List T)
  | .p d => if d.cells.all V.one then some (d.cells.map .p) else none
  | .dead => none
  | x => some [x]

def spliceT (cs : List T) (o : Nat) : List T → List T
  | [] => cs
  | x :: r => spliceT (cs.set o x) (o + 1) r

theorem spliceT_len : ∀ (xs cs : List T) (o : Nat), (spliceT cs o xs).length = cs.length := by
  intro xs
  induction xs with
  | nil => intro cs o; rfl
  | cons x xs ih => intro cs o; simp [spliceT, ih]

theorem spliceT_get : ∀ (xs cs : List T) (o i : Nat), o + xs.length ≤ cs.length → (spliceT cs o xs)[i]? = if o ≤ i ∧ i < o + xs.length then xs[i - o]? else cs[i]? := by
  intro xs
  induction xs with
  | nil => intro cs o i _; simp [spliceT]; intro h1 h2; omega
  | cons x xs ih =>
    intro cs o i h
    simp only [List.length_cons] at h
    simp only [spliceT]
    rw [ih _ _ _ (by simp; omega)]
    by_cases h1 : o + 1 ≤ i ∧ i < o + 1 + xs.length
    · rw [if_pos h1, if_pos (by simp; omega)]
      have : i - o = (i - (o + 1)) + 1 := by omega
      rw [this]; simp
    · rw [if_neg h1]
      by_cases h2 : i = o
      · subst h2
        rw [List.getElem?_set_self (by omega), if_pos (by simp)]
        simp
      · rw [List.getElem?_set_ne (Ne.symm h2), if_neg (by simp; omega)]

section
variable {w : World} {F : Nat → Prop} {β : Lay} {al : Site → Prop}

theorem one_of_rd {v : Value} {d : V} (h : Rd w F v d) (hd : d.one = true) : v.oneCell' = true := by
  cases h with
  | val => cases v <;> simp_all [V.one, Value.oneCell']
  | agg => simp [V.one] at hd
  | tup => simp [V.one] at hd
  | tl t xs v h0 => obtain ⟨a0, cap0, rfl, _⟩ := rd_sl_len h0; rfl
  | _ => rfl

theorem cellsT_sim {v : Value} {x : T} {xs : List T} (h : TRel w F β al v x) (hx : x.cellsT = some xs) : v.cells.size = xs.length ∧ (∀ u, u ∈ v.cells → u.oneCell' = true) ∧
    ∀ (i : Nat) (u : Value) (y : T), v.cells[i]? = some u → xs[i]? = some y → TRel w F β al u y := by
  have hone : ∀ y, xs = [y] → TRel w F β al v y → v.cells = #[v] → v.oneCell' = true → v.cells.size = xs.length ∧ (∀ u, u ∈ v.cells → u.oneCell' = true) ∧
      ∀ (i : Nat) (u : Value) (y : T), v.cells[i]? = some u → xs[i]? = some y → TRel w F β al u y := by
    intro y hy hr hc ho
    subst hy
    rw [hc]
    refine ⟨rfl, fun u hu => by simp at hu; subst hu; exact ho, ?_⟩
    intro i u z h1 h2
    cases i with
    | zero => simp at h1 h2; subst h1 h2; exact hr
    | succ i => simp at h2
  cases x with
  | p d =>
    simp only [T.cellsT] at hx
    split at hx
    · rename_i hall
      simp only [Option.some.injEq] at hx
      subst hx
      have hleaf : d.leafy = true := by
        cases d with
        | val u =>
          cases u with
          | agg cs => simp [V.cells, V.one] at hall
          | _ => rfl
        | _ => rfl
      obtain ⟨h1, h2⟩ := rd_cells h hleaf
      refine ⟨by simpa using h1, ?_, ?_⟩
      · intro u hu
        obtain ⟨i, hi, rfl⟩ := Array.getElem_of_mem hu
        have hi' : i < d.cells.length := by omega
        exact one_of_rd (h2 i _ _ (by simp [hi]) (by simp [hi'])) (List.all_eq_true.1 hall _ (List.getElem_mem hi'))
      · intro i u y hu hy
        simp only [List.getElem?_map, Option.map_eq_some_iff] at hy
        obtain ⟨z, hz, rfl⟩ := hy
        exact h2 i u z hu hz
    · cases hx
  | dead => simp [T.cellsT] at hx
  | ow id k es =>
    simp only [T.cellsT, Option.some.injEq] at hx
    obtain ⟨ha, cap, hv, hr⟩ := h
    exact hone _ hx.symm ⟨ha, cap, hv, hr⟩ (by rw [hv]; rfl) (by rw [hv]; rfl)
  | oe id k es i off =>
    simp only [T.cellsT, Option.some.injEq] at hx
    obtain ⟨ha, hi, cap, hv, hr⟩ := h
    exact hone _ hx.symm ⟨ha, hi, cap, hv, hr⟩ (by rw [hv]; rfl) (by rw [hv]; rfl)
  | lp s off =>
    simp only [T.cellsT, Option.some.injEq] at hx
    obtain ⟨ha, hv⟩ := h
    exact hone _ hx.symm ⟨ha, hv⟩ (by rw [hv]; rfl) (by rw [hv]; rfl)
  | mp id es ck =>
    simp only [T.cellsT, Option.some.injEq] at hx
    obtain ⟨ha, hv, hr⟩ := h
    exact hone _ hx.symm ⟨ha, hv, hr⟩ (by rw [hv]; rfl) (by rw [hv]; rfl)
  | ot id t xs =>
    simp only [T.cellsT, Option.some.injEq] at hx
    have h' := h
    rcases h with ⟨h0, a0, hv⟩ | ⟨hne, ha, cap, hv, hr⟩ <;> exact hone _ hx.symm h' (by rw [hv]; rfl) (by rw [hv]; rfl)
  | oet id t xs i off =>
    simp only [T.cellsT, Option.some.injEq] at hx
    obtain ⟨ha, hi, cap, hv, hr⟩ := h
    exact hone _ hx.symm ⟨ha, hi, cap, hv, hr⟩ (by rw [hv]; rfl) (by rw [hv]; rfl)
  | emp =>
    simp only [T.cellsT, Option.some.injEq] at hx
    obtain ⟨a0, hv⟩ := h
    exact hone _ hx.symm ⟨a0, hv⟩ (by rw [hv]; rfl) (by rw [hv]; rfl)
end

section
variable {Γ : Sig} {P : Program} {G : Nat → Option (List V)} {S : Specs Γ} {o : Oper} {a : Act} {w0 : World} {F0 O0 : Nat → Prop} {w : World} {F O : Nat → Prop} {β : Lay} {al al' : Site → Prop} {st : Γ.St} {e e' : Env Γ.St}

theorem Core.setBlk (hc : Core Γ w0 F0 O0 w F O β al st) {x : Site} (hx : al x) (ob : Obj) : Core Γ w0 F0 O0 (Ve.setBlk w (β.blk x) ob) F O β al st := by
  obtain ⟨p1, p2, p3, p4⟩ := hc.place x hx
  refine ⟨⟨hc.keep.os, hc.keep.tape, hc.keep.output, by rw [setBlk_size]; exact hc.keep.size, ?_⟩, Γ.mono hc.sig (fun b hb => setBlk_ne (fun h => p4 (h ▸ hb))), hc.oin, ?_, hc.f0, ?_, hc.dist⟩
  · intro b hb ho
    rw [setBlk_ne (by omega)]; exact hc.keep.block b hb ho
  · intro b hb; rw [setBlk_size]; exact hc.fin b hb
  · intro y hy; rw [setBlk_size]; exact hc.place y hy

/-- A store into a variable of the frame's own. -/
def evStoreV (e : Env Γ.St) (P : Look) (t : TypeId) (s off : Nat) (x : T) : Option (Env Γ.St) :=
  match e.var s, x.cellsT with
  | some cs, some xs => if size? P t = some xs.length ∧ off + xs.length ≤ cs.length ∧ s < e.vars.length then some { e with vars := e.vars.set s (some (spliceT cs off xs)) } else none
  | _, _ => none

theorem storeV_sim (hi : Inv Γ G w0 F0 O0 a w e) {t : TypeId} {s off : Nat} {x : T} {ap xv : Operand} (hp : evx G e ap = .lp s off) (hx : evx G e xv = x) (h : evStoreV e P t s off x = some e') :
    ∃ w', (Instr.storeAt t (a.eval ap) (a.eval xv)).run P w = .ok () w' ∧ Inv Γ G w0 F0 O0 a w' e' := by
  obtain ⟨F, O, β, hc, hG, hsz, hdf, ht, hv⟩ := hi
  have hpt := evx_sim hG ht ap
  have hxt := evx_sim hG ht xv
  rw [hp] at hpt
  rw [hx] at hxt
  obtain ⟨ha, hpv⟩ := hpt
  unfold evStoreV at h
  split at h
  · rename_i cs xs hcs hxs
    split at h
    · rename_i hcond
      obtain ⟨hsize, hfit, hsl⟩ := hcond
      simp only [Option.some.injEq] at h
      subst h
      obtain ⟨h1, h2, h3⟩ := cellsT_sim hxt hxs
      obtain ⟨c, et, g1, g2, g3⟩ := hv s cs hcs
      have hrun : (Instr.storeAt t (a.eval ap) (a.eval xv)).run P w = .ok () (if (a.eval xv).cells.toList = [] then w else setBlk w (β.vb s) (.cells (spliceA c (off + 0) (a.eval xv).cells.toList) et (0, 0))) := by
        have hst := run_storeCells (P := P) (b := β.vb s) (off := off) (et := et) (a.eval xv).cells.toList 0 w c g1 (by simp [h1]; omega) (fun u hu => h2 u (by simpa using hu))
        simp only [Instr.storeAt, hpv, Instr.sureAddr, Sem.run_bind, Sem.run_pure, Result.andThen_ok, storeVar, run_sizeOf hsize, h1, ne_eq, not_true, if_false]
        simpa using hst
      have hw' : (if (a.eval xv).cells.toList = [] then w else setBlk w (β.vb s) (.cells (spliceA c (off + 0) (a.eval xv).cells.toList) et (0, 0))) = setBlk w (β.vb s) (.cells (spliceA c off (a.eval xv).cells.toList) et (0, 0)) := by
        split
        · rename_i hnil
          rw [hnil]
          exact (setBlk_self g1).symm
        · simp
      rw [hw'] at hrun
      refine ⟨_, hrun, ?_⟩
      obtain ⟨p1, p2, p3, p4⟩ := hc.place (.v s) ha
      have hFne : ∀ b', F b' → b' ≠ β.vb s := fun b' hb hh => p3 (by rw [hh] at hb; exact hb)
      have hone : ∀ id, alive e (.o id) → β.ob id ≠ β.vb s := fun id hid hh => by
        have := hc.dist (.o id) (.v s) hid ha hh
        cases this
      refine Inv.of (al := alive e) (hc.setBlk ha _) (fun g cs hg => (hG g cs hg).setBlk hFne) hsz hdf (fun t => (ht t).setVar hFne hone) ?_ ?_
      · intro s' cs' hcs'
        have hvar : ({ e with vars := e.vars.set s (some (spliceT cs off xs)) } : Env Γ.St).var s' = if s' = s then some (spliceT cs off xs) else e.var s' := by
          simp only [Env.var]
          by_cases hh : s' = s
          · subst hh; simp [hsl]
          · simp [hh, List.getElem?_set_ne (Ne.symm hh)]
        rw [hvar] at hcs'
        split at hcs'
        · rename_i hss
          subst hss
          simp only [Option.some.injEq] at hcs'
          subst hcs'
          refine ⟨ha, _, et, setBlk_eq p2, by rw [spliceA_size, spliceT_len]; exact g2, ?_⟩
          intro i u y hu hy
          rw [spliceA_get _ _ _ _ (by simp [h1]; omega)] at hu
          rw [spliceT_get _ _ _ _ (by omega)] at hy
          have hl : (a.eval xv).cells.toList.length = xs.length := by simpa using h1
          rw [hl] at hu
          split at hu
          · rename_i hin
            rw [if_pos hin] at hy
            exact (h3 _ u y (by simpa using hu) hy).setVar hFne hone
          · rename_i hin
            rw [if_neg hin] at hy
            exact (g3 i u y hu hy).setVar hFne hone
        · rename_i hss
          have ha' : alive e (.v s') := ⟨cs', hcs'⟩
          have hne : β.vb s' ≠ β.vb s := fun hh => by
            have := hc.dist (.v s') (.v s) ha' ha hh
            simp at this; exact hss this
          refine ⟨ha', ?_⟩
          obtain ⟨c', et', q1, q2, q3⟩ := hv s' cs' hcs'
          exact ⟨c', et', (setBlk_ne hne).trans q1, q2, fun i u y hu hy => (q3 i u y hu hy).setVar hFne hone⟩
      · intro s' hs'
        by_cases hss : s' = s
        · subst hss; exact ⟨spliceT cs off xs, by simp [Env.var, hsl]⟩
        · obtain ⟨cs', hcs'⟩ := hs'
          refine ⟨cs', ?_⟩
          simp only [Env.var] at hcs' ⊢
          rw [List.getElem?_set_ne (Ne.symm hss)]; exact hcs'
    · cases h
  · cases h
end
end Go.Ve

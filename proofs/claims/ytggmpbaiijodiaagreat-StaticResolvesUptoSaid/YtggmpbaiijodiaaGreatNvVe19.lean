/-
  The evaluator over pure values, part 19: append on a slice of the frame's own; stores into it; what stays from now on.
-/
import Derived.Test.YtggmpbaiijodiaaGreatNvVe18
namespace Go.Ve
open Go

def elemsT : T → Option (List V)
  | .p (.sl es) => some es
  | .p (.val (.slice none 0 0)) => some []
  | .ow _ _ es => some es
  | .emp => some []
  | _ => none

section
variable {P : Program} {w : World} {F : Nat → Prop} {β : Lay} {al : Site → Prop}

theorem cell_heap {w w' : World} (h : w'.heap = w.heap) (ad : Addr) : w'.cell? ad = w.cell? ad := by
  simp only [World.cell?, h]

theorem src_of {es : List V} {k b off cap : Nat} {g : Nat → Value} (hg : ∀ m, m < es.length * k → w.cell? ⟨b, off + m, none⟩ = some (g m))
    (hr : ∀ (i j : Nat) (e d : V), es[i]? = some e → e.cells[j]? = some d → Rd w F (g (i * k + j)) d) (hk : ∀ e, e ∈ es → e.cells.length = k) :
    ∃ cells : List Value, cells.length = es.length * k ∧
      (∀ w' : World, w'.heap = w.heap → (Builtin.firstCells k es.length (.slice (some ⟨b, off, none⟩) es.length cap)).run P w' = .ok cells.toArray w') ∧
      ∀ (i j : Nat) (e d : V), es[i]? = some e → e.cells[j]? = some d → ∃ x, cells[i * k + j]? = some x ∧ Rd w F x d := by
  refine ⟨(List.range (es.length * k)).map g, by simp, ?_, ?_⟩
  · intro w' hw
    have := run_loadCells (P := P) (w := w') (b := b) (off := off) (n := es.length * k) (g := g) (fun m hm => by rw [cell_heap hw]; exact hg m hm)
    simpa [Builtin.firstCells] using this
  · intro i j e d hi hj
    have h1 := (List.getElem?_eq_some_iff.1 hi).1
    have h2 := (List.getElem?_eq_some_iff.1 hj).1
    have h3 := hk e (List.mem_of_getElem? hi)
    have : (i + 1) * k ≤ es.length * k := Nat.mul_le_mul_right k (by omega)
    rw [Nat.succ_mul] at this
    refine ⟨g (i * k + j), ?_, hr i j e d hi hj⟩
    rw [List.getElem?_map, List.getElem?_range (by omega)]; rfl

theorem src_nil {k : Nat} (a : Option Addr) (cap : Nat) : ∃ cells : List Value, cells.length = ([] : List V).length * k ∧
      (∀ w' : World, w'.heap = w.heap → (Builtin.firstCells k 0 (.slice a 0 cap)).run P w' = .ok cells.toArray w') ∧
      ∀ (i j : Nat) (e d : V), ([] : List V)[i]? = some e → e.cells[j]? = some d → ∃ x, cells[i * k + j]? = some x ∧ Rd w F x d := by
  refine ⟨[], by simp, ?_, fun i j e d h => by simp at h⟩
  intro w' _
  cases a with
  | none => simp [Builtin.firstCells]
  | some ad => simp [Builtin.firstCells, loadCells, loadCellsFrom]

theorem src_sim {x : T} {v : Value} {es : List V} {k : Nat} (hx : TRel w F β al v x) (hes : elemsT x = some es) (hk : ∀ e, e ∈ es → e.cells.length = k) :
    ∃ (a : Option Addr) (cap : Nat) (cells : List Value), v = .slice a es.length cap ∧ es.length ≤ cap ∧ cells.length = es.length * k ∧
      (∀ w' : World, w'.heap = w.heap → (Builtin.firstCells k es.length v).run P w' = .ok cells.toArray w') ∧
      ∀ (i j : Nat) (e d : V), es[i]? = some e → e.cells[j]? = some d → ∃ x, cells[i * k + j]? = some x ∧ Rd w F x d := by
  unfold elemsT at hes
  split at hes
  · rename_i es0
    simp only [Option.some.injEq] at hes
    subst hes
    cases hx with
    | slemp a cap =>
      obtain ⟨cells, h1, h2, h3⟩ := src_nil (P := P) (w := w) (F := F) (k := k) a cap
      exact ⟨a, cap, cells, rfl, by simp, h1, h2, h3⟩
    | sl b off cap k0 es g hF hcap hk0 hg hr =>
      cases es0 with
      | nil =>
        obtain ⟨cells, h1, h2, h3⟩ := src_nil (P := P) (w := w) (F := F) (k := k) (some ⟨b, off, none⟩) cap
        exact ⟨_, cap, cells, rfl, by simp, h1, h2, h3⟩
      | cons e es =>
        have hkk : k0 = k := by rw [← hk0 e (by simp), hk e (by simp)]
        subst hkk
        obtain ⟨cells, h1, h2, h3⟩ := src_of (P := P) (cap := cap) hg hr hk0
        exact ⟨_, cap, cells, rfl, hcap, h1, h2, h3⟩
  · simp only [Option.some.injEq] at hes
    subst hes
    have := Rd.eq_val hx
    subst this
    obtain ⟨cells, h1, h2, h3⟩ := src_nil (P := P) (w := w) (F := F) (k := k) none 0
    exact ⟨none, 0, cells, rfl, by simp, h1, h2, h3⟩
  · rename_i id k0 es0
    simp only [Option.some.injEq] at hes
    subst hes
    obtain ⟨ha, cap, rfl, c, et, g1, g2, g3, g4, g5⟩ := hx
    cases es0 with
    | nil =>
      obtain ⟨cells, h1, h2, h3⟩ := src_nil (P := P) (w := w) (F := F) (k := k) (some ⟨β.ob id, 0, none⟩) cap
      exact ⟨_, cap, cells, rfl, by simp, h1, h2, h3⟩
    | cons e es =>
      have hkk : k0 = k := by rw [← g4 e (by simp), hk e (by simp)]
      subst hkk
      have hle : (e :: es).length * k0 ≤ cap * k0 := Nat.mul_le_mul_right k0 g3
      obtain ⟨cells, h1, h2, h3⟩ := src_of (P := P) (w := w) (F := F) (es := e :: es) (k := k0) (b := β.ob id) (off := 0) (cap := cap) (g := fun m => (c[m]?).getD undef)
        (fun m hm => by
          have : m < c.size := by omega
          simp [World.cell?, g1, this])
        (fun i j q d hi hj => by
          have hi' := (List.getElem?_eq_some_iff.1 hi).1
          have hj' := (List.getElem?_eq_some_iff.1 hj).1
          have hq := g4 q (List.mem_of_getElem? hi)
          have : (i + 1) * k0 ≤ cap * k0 := Nat.mul_le_mul_right k0 (by omega)
          rw [Nat.succ_mul] at this
          have hlt : i * k0 + j < c.size := by omega
          exact g5 i j q d _ hi hj (by simp [hlt])) g4
      exact ⟨_, cap, cells, rfl, g3, h1, h2, h3⟩
  · simp only [Option.some.injEq] at hes
    subst hes
    obtain ⟨a0, rfl⟩ := hx
    obtain ⟨cells, h1, h2, h3⟩ := src_nil (P := P) (w := w) (F := F) (k := k) a0 0
    exact ⟨a0, 0, cells, rfl, by simp, h1, h2, h3⟩
  · cases hes

theorem src_one {es : List V} {k : Nat} {cells : List Value} (hl : cells.length = es.length * k) (hk : ∀ e, e ∈ es → e.cells.length = k) (ho : ∀ e, e ∈ es → e.cells.all V.one = true)
    (h : ∀ (i j : Nat) (e d : V), es[i]? = some e → e.cells[j]? = some d → ∃ x, cells[i * k + j]? = some x ∧ Rd w F x d) : ∀ v, v ∈ cells → v.oneCell' = true := by
  intro v hv
  obtain ⟨m, hm, rfl⟩ := List.getElem_of_mem hv
  have hk0 : 0 < k := by
    rcases Nat.eq_zero_or_pos k with h | h
    · subst h; simp at hl; simp [hl] at hm
    · exact h
  have hi : m / k < es.length := by
    rw [Nat.div_lt_iff_lt_mul hk0]; omega
  have hj : m % k < (es[m / k]).cells.length := by rw [hk _ (List.getElem_mem hi)]; exact Nat.mod_lt _ hk0
  obtain ⟨x, hx, hr⟩ := h (m / k) (m % k) _ _ (List.getElem?_eq_getElem hi) (List.getElem?_eq_getElem hj)
  have hmm : m / k * k + m % k = m := by rw [Nat.mul_comm]; exact Nat.div_add_mod m k
  rw [hmm, List.getElem?_eq_getElem hm, Option.some.injEq] at hx
  rw [hx]
  exact one_of_rd hr (List.all_eq_true.1 (ho _ (List.getElem_mem hi)) _ (List.getElem_mem hj))

/-- The row behind the append, in place. -/
theorem row_room {w' : World} {b k cap : Nat} {es es2 : List V} {c : Array Value} {et : TypeId} {cells : List Value} (g2 : c.size = cap * k) (g4 : ∀ e, e ∈ es → e.cells.length = k)
    (g5 : ∀ (i j : Nat) (e d : V) (x : Value), es[i]? = some e → e.cells[j]? = some d → c[i * k + j]? = some x → Rd w' F x d)
    (hk2 : ∀ e, e ∈ es2 → e.cells.length = k) (hl : cells.length = es2.length * k)
    (h : ∀ (i j : Nat) (e d : V), es2[i]? = some e → e.cells[j]? = some d → ∃ x, cells[i * k + j]? = some x ∧ Rd w' F x d) (hroom : es.length + es2.length ≤ cap)
    (hb : w'.heap[b]? = some (.cells (spliceA c (es.length * k) cells) et (0, 0))) : RowRel w' F b k cap (es ++ es2) := by
  have hfit : es.length * k + es2.length * k ≤ c.size := by rw [← Nat.add_mul, g2]; exact Nat.mul_le_mul_right k hroom
  refine ⟨_, et, hb, by rw [spliceA_size]; exact g2, by simpa using hroom, ?_, ?_⟩
  · intro e he
    rcases List.mem_append.1 he with h | h
    · exact g4 e h
    · exact hk2 e h
  · intro i j e d x hi hj hx
    have hj' := (List.getElem?_eq_some_iff.1 hj).1
    rw [spliceA_get _ _ _ _ (by rw [hl]; exact hfit)] at hx
    by_cases hlt : i < es.length
    · rw [List.getElem?_append_left hlt] at hi
      have := g4 e (List.mem_of_getElem? hi)
      have h1 : (i + 1) * k ≤ es.length * k := Nat.mul_le_mul_right k (by omega)
      rw [Nat.succ_mul] at h1
      rw [if_neg (by omega)] at hx
      exact g5 i j e d x hi hj hx
    · rw [List.getElem?_append_right (by omega)] at hi
      have he := hk2 e (List.mem_of_getElem? hi)
      have hi2 := (List.getElem?_eq_some_iff.1 hi).1
      have h1 : es.length * k ≤ i * k := Nat.mul_le_mul_right k (by omega)
      have h2 : (i - es.length) * k = i * k - es.length * k := Nat.sub_mul ..
      have h3 : (i - es.length + 1) * k ≤ es2.length * k := Nat.mul_le_mul_right k (by omega)
      rw [Nat.succ_mul] at h3
      rw [if_pos (by rw [hl]; omega)] at hx
      obtain ⟨y, hy, hr⟩ := h (i - es.length) j e d hi hj
      have h4 : i * k + j - es.length * k = (i - es.length) * k + j := by omega
      rw [h4, hy, Option.some.injEq] at hx
      subst hx; exact hr

/-- The row behind the append, in a new array. -/
theorem row_grow {w' : World} {b k cap : Nat} {es es2 : List V} {et : TypeId} {old cells : List Value} {rest : Array Value} (hk1 : ∀ e, e ∈ es → e.cells.length = k) (hk2 : ∀ e, e ∈ es2 → e.cells.length = k)
    (hl1 : old.length = es.length * k) (hl2 : cells.length = es2.length * k)
    (h1 : ∀ (i j : Nat) (e d : V), es[i]? = some e → e.cells[j]? = some d → ∃ x, old[i * k + j]? = some x ∧ Rd w' F x d)
    (h2 : ∀ (i j : Nat) (e d : V), es2[i]? = some e → e.cells[j]? = some d → ∃ x, cells[i * k + j]? = some x ∧ Rd w' F x d) (hcap : es.length + es2.length ≤ cap)
    (hrest : rest.size = (cap - (es.length + es2.length)) * k)
    (hb : w'.heap[b]? = some (.cells (old.toArray ++ (cells.toArray ++ rest)) et (0, 0))) : RowRel w' F b k cap (es ++ es2) := by
  refine ⟨_, et, hb, ?_, by simpa using hcap, ?_, ?_⟩
  · simp only [Array.size_append, List.size_toArray, hl1, hl2, hrest, Nat.sub_mul, Nat.add_mul]
    have : (es.length + es2.length) * k ≤ cap * k := Nat.mul_le_mul_right k hcap
    rw [Nat.add_mul] at this; omega
  · intro e he
    rcases List.mem_append.1 he with h | h
    · exact hk1 e h
    · exact hk2 e h
  · intro i j e d x hi hj hx
    have hj' := (List.getElem?_eq_some_iff.1 hj).1
    by_cases hlt : i < es.length
    · rw [List.getElem?_append_left hlt] at hi
      have := hk1 e (List.mem_of_getElem? hi)
      have h3 : (i + 1) * k ≤ es.length * k := Nat.mul_le_mul_right k (by omega)
      rw [Nat.succ_mul] at h3
      rw [Array.getElem?_append_left (by simp; omega)] at hx
      obtain ⟨y, hy, hr⟩ := h1 i j e d hi hj
      simp only [List.getElem?_toArray] at hx
      rw [hy, Option.some.injEq] at hx
      subst hx; exact hr
    · rw [List.getElem?_append_right (by omega)] at hi
      have he := hk2 e (List.mem_of_getElem? hi)
      have hi2 := (List.getElem?_eq_some_iff.1 hi).1
      have h3 : es.length * k ≤ i * k := Nat.mul_le_mul_right k (by omega)
      have h4 : (i - es.length) * k = i * k - es.length * k := Nat.sub_mul ..
      have h5 : (i - es.length + 1) * k ≤ es2.length * k := Nat.mul_le_mul_right k (by omega)
      rw [Nat.succ_mul] at h5
      rw [Array.getElem?_append_right (by simp; omega)] at hx
      simp only [List.size_toArray, hl1] at hx
      have h6 : i * k + j - es.length * k = (i - es.length) * k + j := by omega
      rw [h6, Array.getElem?_append_left (by simp; omega)] at hx
      obtain ⟨y, hy, hr⟩ := h2 (i - es.length) j e d hi hj
      simp only [List.getElem?_toArray] at hx
      rw [hy, Option.some.injEq] at hx
      subst hx; exact hr
end

section
variable {Γ : Sig} {P : Program} {G : Nat → Option (List V)} {S : Specs Γ} {o : Oper} {a : Act} {w0 : World} {F0 O0 : Nat → Prop} {w : World} {e e' : Env Γ.St}

/-- The frame's state behind a step that gives site 'id' a new slice and forgets the old one. -/
theorem Inv.own {F O : Nat → Prop} {β β' : Lay} {w' : World} {d id k : Nat} {es : List V} {v : Value} {cap : Nat} {al' : Site → Prop}
    (hG : GRel G w F) (hsz : a.tmps.size = e.tm.length) (hdf : a.defers = [])
    (ht : ∀ t, TRel w F β (alive e) (a.tmps.getD t undef) (e.get t)) (hv : ∀ s cs, e.var s = some cs → VarRel w F β (alive e) (β.vb s) cs)
    (hal : al' = fun x => alm id (alive e) x ∨ x = .o id)
    (hc' : Core Γ w0 F0 O0 w' F O β' al' e.st) (hext : Ext w F β (alm id (alive e)) w' F β' al')
    (hval : v = .slice (some ⟨β'.ob id, 0, none⟩) es.length cap) (hrow : RowRel w' F (β'.ob id) k cap es) :
    Inv Γ G w0 F0 O0 (a.put (some d) v) w' { (e.kill id) with tm := (e.kill id).tm.set d (.ow id k es) } := by
  have hnew : al' (.o id) := by rw [hal]; exact .inr rfl
  refine Inv.of (al := al') hc' (hG.ext hext) (by simp [Act.put, Env.kill, hsz]) hdf ?_ ?_ ?_
  · intro t
    rw [tmps_put, get_set]
    have hlen : (e.kill id).tm.length = a.tmps.size := by simp [Env.kill, hsz]
    rw [hlen]
    split
    · exact ⟨hnew, cap, hval, hrow⟩
    · rw [get_map]; exact (TRel.kill (ht t)).ext hext
  · intro s cs hcs
    have hcs' : (e.kill id).var s = some cs := hcs
    rw [var_kill] at hcs'
    split at hcs'
    · cases hcs'
    · rename_i hne
      simp only [Option.map_eq_some_iff] at hcs'
      obtain ⟨cs0, hcs0, rfl⟩ := hcs'
      have ha : alm id (alive e) (.v s) := ⟨⟨cs0, hcs0⟩, by simpa using hne, by simp⟩
      refine ⟨hext.a _ ha, ?_⟩
      have hb : β'.vb s = β.vb s := hext.b (.v s) ha
      rw [hb]
      exact (VarRel.kill (hv s cs0 hcs0)).ext hext (hext.ha (.v s) ha)
  · intro s hs
    rw [hal] at hs
    rcases hs with ⟨⟨cs, hcs⟩, hne, _⟩ | h
    · have hne' : s ≠ id := by simpa using hne
      refine ⟨cs.map (killT id), ?_⟩
      show (e.kill id).var s = _
      rw [var_kill, if_neg hne', hcs]; rfl
    · cases h

theorem Core.drew {F O : Nat → Prop} {β : Lay} {al : Site → Prop} {st : Γ.St} (hc : Core Γ w0 F0 O0 w F O β al st) : Core Γ w0 F0 O0 w.drew F O β al st :=
  ⟨⟨hc.keep.os, hc.keep.tape, hc.keep.output, hc.keep.size, hc.keep.block⟩, Γ.mono hc.sig (fun _ _ => rfl), hc.oin, hc.fin, hc.f0, hc.place, hc.dist⟩

theorem drew_ext {w' : World} {F F' : Nat → Prop} {β β' : Lay} {al al' : Site → Prop} (h : Ext w.drew F β al w' F' β' al') : Ext w F β al w' F' β' al' :=
  ⟨h.f, h.hf, h.a, h.b, h.ha⟩

def zcells (z : Value) : Nat := z.cells.size

def appendOk (info : TypeInfo) (z : Value) (es2 : List V) : Bool :=
  es2.all (fun q => q.cells.length == info.size && q.cells.all V.one) && decide (1 ≤ info.bytes) && zcells z == info.size

def evAppendN (P : Look) (G : Nat → Option (List V)) (e : Env Γ.St) (nm : Option Nat) (dst : Option Tmp) (c : Call) : Option (Env Γ.St) :=
  match c.callee, c.args.toList, c.argTypes.toList, dst with
  | .builtin .append, [x0, x1], [t0, t1], some d =>
    match P.und t0, P.und t1 with
    | some (.slice el), some (.slice _) => match P.inf el with
      | some info => match info.zero, elemsT (evx G e x1) with
        | some z, some es2 =>
          if appendOk info z es2 then
            match evx G e x0 with
            | .ow id k es => if k = info.size ∧ (2 * (es.length + es2.length) + 1024) * info.bytes ≤ 140737488355328 then
                some { (e.kill id) with tm := (e.kill id).tm.set d (.ow id k (es ++ es2)) } else none
            | x => match elemsT x with
              | some [] => match x with
                | .p (.sl _) => none
                | _ => match es2 with
                  | [] => some (e.put (some d) x)
                  | q :: r => if (2 * (q :: r).length + 1024) * info.bytes ≤ 140737488355328 then some { (e.kill (nm.getD d)) with tm := (e.kill (nm.getD d)).tm.set d (.ow (nm.getD d) info.size (q :: r)) } else none
              | _ => none
          else none
        | _, _ => none
      | none => none
    | _, _ => none
  | _, _, _, _ => none

def evAppend (P : Look) (G : Nat → Option (List V)) (e : Env Γ.St) (dst : Option Tmp) (c : Call) : Option (Env Γ.St) := evAppendN P G e none dst c

theorem appendN_sim (hi : Inv Γ G w0 F0 O0 a w e) {dst : Option Tmp} {c : Call} {type : TypeId} {pos : String} {after : Array Edge} {guard : Option (Nat × Bool)}
    {nm : Option Nat} (h : evAppendN P G e nm dst c = some e') {Q : Exit → Act → World → Prop} :
    (⟨dst, .call c, type, pos, after, guard⟩ : Oper).wp P a w (fun a' w' => Inv Γ G w0 F0 O0 a' w' e') Q := by
  obtain ⟨F, O, β, hc, hG, hsz, hdf, ht, hv⟩ := hi
  unfold evAppendN at h
  split at h
  · rename_i x0 x1 t0 t1 d hcal hargs htys
    split at h
    · rename_i el el1 hu0 hu1
      split at h
      · rename_i info hinfo
        split at h
        · rename_i z es2 hz hes2
          split at h
          · rename_i hok
            simp only [appendOk, Bool.and_eq_true, decide_eq_true_eq, beq_iff_eq, List.all_eq_true] at hok
            obtain ⟨⟨hall, hbytes⟩, hzc⟩ := hok
            have hk2 : ∀ q, q ∈ es2 → q.cells.length = info.size := fun q hq => (hall q hq).1
            have ho2 : ∀ q, q ∈ es2 → q.cells.all V.one = true := fun q hq => List.all_eq_true.2 (fun y hy => (hall q hq).2 y hy)
            obtain ⟨a1, cap1, cells, hv1, hcap1, hl2, hrun2, hr2⟩ := src_sim (P := P) (evx_sim hG ht x1) hes2 hk2
            have hargs' : c.args = #[x0, x1] := by apply Array.ext'; simpa using hargs
            have ht0 : c.argTypes[0]? = some t0 := by rw [← Array.getElem?_toList, htys]; rfl
            have ht1 : c.argTypes[1]? = some t1 := by rw [← Array.getElem?_toList, htys]; rfl
            have hexec : ∀ r, (Builtin.append_ c.argTypes type #[a.eval x0, a.eval x1]).run P w = r → (execOp a.eval ⟨some d, .call c, type, pos, after, guard⟩).run P w = r.andThen fun v w' => .ok (.value v) w' := by
              intro r hr
              simp [execOp, resolve, hcal, hargs', invoke, builtin, hr]
            have hx0 := evx_sim hG ht x0
            have hs : size? P el = some info.size := size_of_info hinfo
            have hrest : ∀ m, (Builtin.zeroCells z.cells m).size = m * info.size := by
              intro m; simp only [Builtin.zeroCells, Array.size_map, Array.size_range]; rw [show z.cells.size = info.size from hzc]
            split at h
            · rename_i id k es hex0
              split at h
              · rename_i hcond
                obtain ⟨rfl, hbound⟩ := hcond
                simp only [Option.some.injEq] at h
                subst h
                rw [hex0] at hx0
                obtain ⟨ha, cap, hv0, cc, et, g1, g2, g3, g4, g5⟩ := hx0
                have hp := hc.place (.o id) ha
                have halm : ∀ x, alm id (alive e) x → β.blk x ≠ β.ob id := fun x hx hh => hx.2.2 (hc.dist x (.o id) hx.1 ha hh)
                unfold Oper.wp
                by_cases hroom : es.length + es2.length ≤ cap
                · have hfit : es.length * info.size + es2.length * info.size ≤ cc.size := by rw [← Nat.add_mul, g2]; exact Nat.mul_le_mul_right _ hroom
                  have hrun := run_append_room (P := P) (w := w) (ts := c.argTypes) (ty := type) (b := β.ob id) (off := 0) (len := es.length) (cap := cap) (n := es2.length) (cap1 := cap1) (a1 := a1) (cells := cells) (c := cc) (et := et) ht0 ht1 hu0 hu1 hs
                    (by rw [← hv1]; exact hrun2 w rfl) hl2 g1 (by omega) (src_one hl2 hk2 ho2 hr2) hroom
                  rw [← hv0, ← hv1] at hrun
                  simp only [Nat.zero_add] at hrun
                  rw [hexec _ hrun]
                  simp only [Result.andThen_ok, Oper.upon]
                  have hal' : ∀ x, (alm id (alive e) x ∨ x = .o id) → alive e x := fun x hx => hx.elim (fun h => h.1) (fun h => h ▸ ha)
                  have hext : Ext w F β (alm id (alive e)) (setBlk w (β.ob id) (.cells (spliceA cc (es.length * info.size) cells) et (0, 0))) F β (fun x => alm id (alive e) x ∨ x = .o id) :=
                    ⟨fun _ h => h, fun b hb => setBlk_ne (fun hh => hp.2.2.1 (by rw [hh] at hb; exact hb)), fun _ h => .inl h, fun _ _ => rfl, fun x hx => setBlk_ne (halm x hx)⟩
                  refine Inv.own (cap := cap) hG hsz hdf ht hv rfl ((hc.setBlk ha _).anti hal') hext (by simp) ?_
                  refine row_room g2 g4 (fun i j q y x hi hj hx => Rd.ext hext (g5 i j q y x hi hj hx)) hk2 hl2 (fun i j q y hi hj => ?_) hroom (setBlk_eq hp.2.1)
                  obtain ⟨x, hx, hr⟩ := hr2 i j q y hi hj
                  exact ⟨x, hx, Rd.ext hext hr⟩
                · have hx0' : TRel w F β (alive e) (a.eval x0) (.ow id info.size es) := ⟨ha, cap, hv0, cc, et, g1, g2, g3, g4, g5⟩
                  obtain ⟨a0, cap0, old, hv0', hcap0, hl1, hrun1, hr1⟩ := src_sim (P := P) (k := info.size) hx0' rfl g4
                  have hcc : cap0 = cap := by rw [hv0] at hv0'; simp at hv0'; exact hv0'.2.symm
                  subst hcc
                  obtain ⟨newCap, hnc, hrun⟩ := run_append_grow (P := P) (w := w) (ts := c.argTypes) (ty := type) (len := es.length) (cap := cap0) (n := es2.length) (cap1 := cap1) (a0 := a0) (a1 := a1) (cells := cells) (old := old) ht0 ht1 hu0 hu1 hinfo hz
                    (by rw [← hv1]; exact hrun2 w.drew rfl) (by rw [← hv0']; exact hrun1 w.drew rfl) hroom hbytes hbound
                  rw [← hv0', ← hv1] at hrun
                  rw [hexec _ hrun]
                  simp only [Result.andThen_ok, Oper.upon]
                  let β' : Lay := { β with ob := fun s => if s = id then w.heap.size else β.ob s }
                  have hb : ∀ x, alm id (alive e) x → β'.blk x = β.blk x := by
                    intro x hx
                    cases x with
                    | o s =>
                      have hne : s ≠ id := fun hh => hx.2.2 (by rw [hh])
                      simp [Lay.blk, β', hne]
                    | v s => rfl
                  have hob : β'.ob id = w.heap.size := by simp [β']
                  have hcm := (hc.drew.anti (al' := alm id (alive e)) (fun x hx => hx.1))
                  have hcore := hcm.push (.cells (old.toArray ++ (cells.toArray ++ Builtin.zeroCells z.cells (newCap - (es.length + es2.length)))) el) β' (.o id) hob hb
                  have hext : Ext w F β (alm id (alive e)) (w.drew.alloc (.cells (old.toArray ++ (cells.toArray ++ Builtin.zeroCells z.cells (newCap - (es.length + es2.length)))) el)) F β' (fun x => alm id (alive e) x ∨ x = .o id) :=
                    drew_ext (hcm.push_ext (.cells (old.toArray ++ (cells.toArray ++ Builtin.zeroCells z.cells (newCap - (es.length + es2.length)))) el) β' (fun x => alm id (alive e) x ∨ x = .o id) hb (fun x hx => .inl hx))
                  refine Inv.own (cap := newCap) hG hsz hdf ht hv rfl hcore hext (by rw [hob]; simp) ?_
                  rw [hob]
                  refine row_grow g4 hk2 hl1 hl2 (fun i j q y hi hj => ?_) (fun i j q y hi hj => ?_) hnc (hrest _) (push_new (w := w.drew))
                  · obtain ⟨x, hx, hr⟩ := hr1 i j q y hi hj
                    exact ⟨x, hx, Rd.ext hext hr⟩
                  · obtain ⟨x, hx, hr⟩ := hr2 i j q y hi hj
                    exact ⟨x, hx, Rd.ext hext hr⟩
              · cases h
            · rename_i hnow
              split at h
              · rename_i hnil
                have hemp : (∀ es0, evx G e x0 ≠ .p (.sl es0)) → ∃ a0, a.eval x0 = .slice a0 0 0 := by
                  intro hns
                  unfold elemsT at hnil
                  split at hnil
                  · rename_i es0 heq; exact absurd heq (hns es0)
                  · rename_i heq
                    rw [heq] at hx0
                    exact ⟨none, Rd.eq_val hx0⟩
                  · rename_i i0 k0 es0 heq; exact absurd heq (hnow i0 k0 es0)
                  · rename_i heq
                    rw [heq] at hx0
                    obtain ⟨a0, ha0⟩ := hx0
                    exact ⟨a0, ha0⟩
                  · cases hnil
                split at h
                · cases h
                · rename_i hns
                  obtain ⟨a0, hv0⟩ := hemp hns
                  unfold Oper.wp
                  split at h
                  · simp only [Option.some.injEq] at h
                    subst h
                    have hrun : (Builtin.append_ c.argTypes type #[a.eval x0, a.eval x1]).run P w = .ok (.slice a0 0 0) w := by
                      rw [hv0, hv1]
                      have hr := hrun2 w rfl
                      rw [hv1] at hr
                      have hcn : cells = [] := List.eq_nil_of_length_eq_zero (by simpa using hl2)
                      subst hcn
                      simp only [List.length_nil] at hr ⊢
                      cases a0 with
                      | none => simp [Builtin.append_, ht0, ht1, run_underlying? hu0, run_underlying? hu1, run_sizeOf hs, Builtin.lenOf, hr]
                      | some ad => simp [Builtin.append_, ht0, ht1, run_underlying? hu0, run_underlying? hu1, run_sizeOf hs, Builtin.lenOf, hr, storeCells]
                    rw [hexec _ hrun]
                    simp only [Result.andThen_ok, Oper.upon]
                    refine Inv.of (al := alive e) hc hG (by simp [Act.put, Env.put, hsz]) hdf ?_ (fun s cs hcs => ⟨⟨cs, hcs⟩, hv s cs hcs⟩) (fun s hs => hs)
                    intro t
                    simp only [Env.put]
                    rw [tmps_put, get_set, hsz]
                    split
                    · rw [← hv0]; exact hx0
                    · exact ht t
                  · rename_i q r
                    split at h
                    · rename_i hbound
                      simp only [Option.some.injEq] at h
                      subst h
                      obtain ⟨a0', cap0, old, hv0', hcap0, hl1, hrun1, hr1⟩ := src_sim (P := P) (k := info.size) hx0 hnil (by simp)
                      rw [hv0] at hrun1
                      have hold : old = [] := List.eq_nil_of_length_eq_zero (by simpa using hl1)
                      subst hold
                      obtain ⟨newCap, hnc, hrun⟩ := run_append_grow (P := P) (w := w) (ts := c.argTypes) (ty := type) (len := 0) (cap := 0) (n := (q :: r).length) (cap1 := cap1) (a0 := a0) (a1 := a1) (cells := cells) (old := []) ht0 ht1 hu0 hu1 hinfo hz
                        (by rw [← hv1]; exact hrun2 w.drew rfl) (by exact hrun1 w.drew rfl) (by simp) hbytes (by simpa using hbound)
                      rw [← hv0, ← hv1] at hrun
                      rw [hexec _ hrun]
                      simp only [Result.andThen_ok, Oper.upon]
                      simp only [Nat.zero_add] at hnc ⊢
                      let β' : Lay := { β with ob := fun s => if s = nm.getD d then w.heap.size else β.ob s }
                      have hb : ∀ x, alm (nm.getD d) (alive e) x → β'.blk x = β.blk x := by
                        intro x hx
                        cases x with
                        | o s =>
                          have hne : s ≠ nm.getD d := fun hh => hx.2.2 (by rw [hh])
                          simp [Lay.blk, β', hne]
                        | v s => rfl
                      have hob : β'.ob (nm.getD d) = w.heap.size := by simp [β']
                      have hcm := (hc.drew.anti (al' := alm (nm.getD d) (alive e)) (fun x hx => hx.1))
                      have hcore := hcm.push (.cells (([] : List Value).toArray ++ (cells.toArray ++ Builtin.zeroCells z.cells (newCap - (q :: r).length))) el) β' (.o (nm.getD d)) hob hb
                      have hext := hcm.push_ext (.cells (([] : List Value).toArray ++ (cells.toArray ++ Builtin.zeroCells z.cells (newCap - (q :: r).length))) el) β' (fun x => alm (nm.getD d) (alive e) x ∨ x = .o (nm.getD d)) hb (fun x hx => .inl hx)
                      have hext' : Ext w F β (alm (nm.getD d) (alive e)) (w.drew.alloc (.cells (([] : List Value).toArray ++ (cells.toArray ++ Builtin.zeroCells z.cells (newCap - (q :: r).length))) el)) F β' (fun x => alm (nm.getD d) (alive e) x ∨ x = .o (nm.getD d)) := drew_ext hext
                      refine Inv.own (cap := newCap) hG hsz hdf ht hv rfl hcore hext' (by rw [hob]) ?_
                      rw [hob]
                      have := row_grow (w' := w.drew.alloc (.cells (([] : List Value).toArray ++ (cells.toArray ++ Builtin.zeroCells z.cells (newCap - (q :: r).length))) el)) (F := F) (b := w.heap.size) (k := info.size) (cap := newCap) (es := []) (es2 := q :: r) (et := el) (old := []) (cells := cells)
                        (by simp) hk2 (by simp) hl2 (fun i j q y hi hj => by simp at hi) (fun i j q' y hi hj => by
                          obtain ⟨x, hx, hr⟩ := hr2 i j q' y hi hj
                          exact ⟨x, hx, Rd.ext hext' hr⟩) (by simpa using hnc) (by simpa using hrest _) (push_new (w := w.drew))
                      simpa using this
                    · cases h
              · cases h
          · cases h
        · cases h
      · cases h
    · cases h
  · cases h

theorem append_sim (hi : Inv Γ G w0 F0 O0 a w e) {dst : Option Tmp} {c : Call} {type : TypeId} {pos : String} {after : Array Edge} {guard : Option (Nat × Bool)}
    (h : evAppend P G e dst c = some e') {Q : Exit → Act → World → Prop} :
    (⟨dst, .call c, type, pos, after, guard⟩ : Oper).wp P a w (fun a' w' => Inv Γ G w0 F0 O0 a' w' e') Q := appendN_sim hi h
end
end Go.Ve

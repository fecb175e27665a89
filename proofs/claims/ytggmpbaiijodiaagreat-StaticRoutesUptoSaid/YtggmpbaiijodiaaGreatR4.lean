/-
  The evaluator over pure values, part 19: append on a slice of the frame's own; stores into it; what stays from now on.
  The evaluator over pure values, part 24: states that know less; typed slices that are appended to.
  The evaluator over pure values, part 20: stores into a slice of the frame's own; what stays from now on; one operation, whatever it is.
-/
import Derived.Test.YtggmpbaiijodiaaGreatR3
set_option linter.unusedVariables false
namespace Go.Ve
open Go

def elemsT : T → Option (List V)
  | .p (.sl es) => some es
  | .p (.val (.slice none 0 0)) => some []
  | .ow _ _ es => some es
  | .emp => some []
  | .ov _ t xs lo hi => some (((xs.take hi).drop lo).map t.enc)
  | _ => none

section
variable {P : Program} {w : World} {F : Blk → Prop} {β : Lay} {al : Site → Prop}

theorem cell_heap {w w' : World} (h : w'.heap = w.heap) (ad : Addr) : w'.cell? ad = w.cell? ad := by
  simp only [World.cell?, h]

theorem src_of {es : List V} {k b off cap : Nat} {g : Nat → Value} (hg : ∀ m, m < es.length * k → w.cell? ⟨b, off + m, none⟩ = some (g m))
    (hr : ∀ (i j : Nat) (e d : V), es[i]? = some e → e.cells[j]? = some d → Rd w F (g (i * k + j)) d) (hk : ∀ e, e ∈ es → e.cells.length = k) :
    ∃ cells : List Value, cells.length = es.length * k ∧
      (∀ w' : World, w'.heap = w.heap → (Builtin.firstCells k es.length (.slice (some ⟨b, off, none⟩) es.length cap)).run P w' = .ok cells.toArray w') ∧
      ∀ (i j : Nat) (e d : V), es[i]? = some e → e.cells[j]? = some d → ∃ x, cells[i * k + j]? = some x ∧ Rd w F x d := by
  refine ⟨(List.range (es.length * k)).map g, by simp, ?_, ?_⟩
  · intro w' hw
    have := run_loadCells (P := P) (w := w') (b := b) (off := off) (n := es.length * k) (g := g) (fun m hm => by rw [cell_heap hw]; exact hg m hm)
    simpa [Builtin.firstCells] using this
  · intro i j e d hi hj
    have h1 := (List.getElem?_eq_some_iff.1 hi).1
    have h2 := (List.getElem?_eq_some_iff.1 hj).1
    have h3 := hk e (List.mem_of_getElem? hi)
    have : (i + 1) * k ≤ es.length * k := Nat.mul_le_mul_right k (by omega)
    rw [Nat.succ_mul] at this
    refine ⟨g (i * k + j), ?_, hr i j e d hi hj⟩
    rw [List.getElem?_map, List.getElem?_range (by omega)]; rfl

theorem src_nil {k : Nat} (a : Option Addr) (cap : Nat) : ∃ cells : List Value, cells.length = ([] : List V).length * k ∧
      (∀ w' : World, w'.heap = w.heap → (Builtin.firstCells k 0 (.slice a 0 cap)).run P w' = .ok cells.toArray w') ∧
      ∀ (i j : Nat) (e d : V), ([] : List V)[i]? = some e → e.cells[j]? = some d → ∃ x, cells[i * k + j]? = some x ∧ Rd w F x d := by
  refine ⟨[], by simp, ?_, fun i j e d h => by simp at h⟩
  intro w' _
  cases a with
  | none => simp [Builtin.firstCells]
  | some ad => simp [Builtin.firstCells, loadCells, loadCellsFrom]

theorem src_sim {x : T} {v : Value} {es : List V} {k : Nat} (hx : TRel w F β al v x) (hes : elemsT x = some es) (hk : ∀ e, e ∈ es → e.cells.length = k) :
    ∃ (a : Option Addr) (cap : Nat) (cells : List Value), v = .slice a es.length cap ∧ es.length ≤ cap ∧ cells.length = es.length * k ∧
      (∀ w' : World, w'.heap = w.heap → (Builtin.firstCells k es.length v).run P w' = .ok cells.toArray w') ∧
      ∀ (i j : Nat) (e d : V), es[i]? = some e → e.cells[j]? = some d → ∃ x, cells[i * k + j]? = some x ∧ Rd w F x d := by
  unfold elemsT at hes
  split at hes
  · rename_i es0
    simp only [Option.some.injEq] at hes
    subst hes
    cases hx with
    | slemp a cap =>
      obtain ⟨cells, h1, h2, h3⟩ := src_nil (P := P) (w := w) (F := F) (k := k) a cap
      exact ⟨a, cap, cells, rfl, by simp, h1, h2, h3⟩
    | sl b off cap k0 es g hF hcap hk0 hg hr =>
      cases es0 with
      | nil =>
        obtain ⟨cells, h1, h2, h3⟩ := src_nil (P := P) (w := w) (F := F) (k := k) (some ⟨b, off, none⟩) cap
        exact ⟨_, cap, cells, rfl, by simp, h1, h2, h3⟩
      | cons e es =>
        have hkk : k0 = k := by rw [← hk0 e (by simp), hk e (by simp)]
        subst hkk
        obtain ⟨cells, h1, h2, h3⟩ := src_of (P := P) (cap := cap) hg hr hk0
        exact ⟨_, cap, cells, rfl, hcap, h1, h2, h3⟩
  · simp only [Option.some.injEq] at hes
    subst hes
    have := Rd.eq_val hx
    subst this
    obtain ⟨cells, h1, h2, h3⟩ := src_nil (P := P) (w := w) (F := F) (k := k) none 0
    exact ⟨none, 0, cells, rfl, by simp, h1, h2, h3⟩
  · rename_i id k0 es0
    simp only [Option.some.injEq] at hes
    subst hes
    obtain ⟨ha, cap, rfl, c, et, g1, g2, g3, g4, g5⟩ := hx
    cases es0 with
    | nil =>
      obtain ⟨cells, h1, h2, h3⟩ := src_nil (P := P) (w := w) (F := F) (k := k) (some ⟨β.ob id, 0, none⟩) cap
      exact ⟨_, cap, cells, rfl, by simp, h1, h2, h3⟩
    | cons e es =>
      have hkk : k0 = k := by rw [← g4 e (by simp), hk e (by simp)]
      subst hkk
      have hle : (e :: es).length * k0 ≤ cap * k0 := Nat.mul_le_mul_right k0 g3
      obtain ⟨cells, h1, h2, h3⟩ := src_of (P := P) (w := w) (F := F) (es := e :: es) (k := k0) (b := β.ob id) (off := 0) (cap := cap) (g := fun m => (c[m]?).getD undef)
        (fun m hm => by
          have : m < c.size := by omega
          simp [World.cell?, g1, this])
        (fun i j q d hi hj => by
          have hi' := (List.getElem?_eq_some_iff.1 hi).1
          have hj' := (List.getElem?_eq_some_iff.1 hj).1
          have hq := g4 q (List.mem_of_getElem? hi)
          have : (i + 1) * k0 ≤ cap * k0 := Nat.mul_le_mul_right k0 (by omega)
          rw [Nat.succ_mul] at this
          have hlt : i * k0 + j < c.size := by omega
          exact g5 i j q d _ hi hj (by simp [hlt])) g4
      exact ⟨_, cap, cells, rfl, g3, h1, h2, h3⟩
  · simp only [Option.some.injEq] at hes
    subst hes
    obtain ⟨a0, rfl⟩ := hx
    obtain ⟨cells, h1, h2, h3⟩ := src_nil (P := P) (w := w) (F := F) (k := k) a0 0
    exact ⟨a0, 0, cells, rfl, by simp, h1, h2, h3⟩
  · rename_i id t xs lo hi
    simp only [Option.some.injEq] at hes
    subst hes
    rcases hx with ⟨rfl, rfl, rfl, a0, rfl⟩ | ⟨hne, ha, hlh, hhl, cap, rfl, c, et, g1, g2, g3, g4, g5⟩
    · obtain ⟨cells, h1, h2, h3⟩ := src_nil (P := P) (w := w) (F := F) (k := k) a0 0
      exact ⟨a0, 0, cells, rfl, by simp, h1, h2, h3⟩
    · have hlen : (((xs.take hi).drop lo).map t.enc).length = hi - lo := by simp; omega
      have hcap : xs.length ≤ cap := by simpa using g3
      by_cases h0 : hi - lo = 0
      · have hnil : ((xs.take hi).drop lo).map t.enc = [] := List.eq_nil_of_length_eq_zero (by omega)
        rw [hnil, h0]
        obtain ⟨cells, h1, h2, h3⟩ := src_nil (P := P) (w := w) (F := F) (k := k) (some ⟨β.ob id, if cap = lo then 0 else lo * t.size, none⟩) (cap - lo)
        exact ⟨_, _, cells, rfl, by simp, h1, h2, h3⟩
      · have hkk : t.size = k := by
          have hl0 : 0 < (((xs.take hi).drop lo).map t.enc).length := by omega
          have := hk _ (List.getElem_mem hl0)
          rw [List.getElem_map, enc_len] at this
          exact this
        subst hkk
        rw [if_neg (by omega)]
        have hsub : ∀ (i : Nat) (q : V), (((xs.take hi).drop lo).map t.enc)[i]? = some q → (xs.map t.enc)[lo + i]? = some q ∧ lo + i < hi := by
          intro i q hq
          have hi' := (List.getElem?_eq_some_iff.1 hq).1
          rw [hlen] at hi'
          refine ⟨?_, by omega⟩
          rw [← hq, List.getElem?_map, List.getElem?_map, List.getElem?_drop, List.getElem?_take, if_pos (by omega)]
        have hcs : cap * t.size = c.size := g2.symm
        obtain ⟨cells, h1, h2, h3⟩ := src_of (P := P) (w := w) (F := F) (es := ((xs.take hi).drop lo).map t.enc) (k := t.size) (b := β.ob id) (off := lo * t.size) (cap := cap - lo) (g := fun m => (c[lo * t.size + m]?).getD undef)
          (fun m hm => by
            rw [hlen] at hm
            have h5 : (hi - lo) * t.size = hi * t.size - lo * t.size := Nat.sub_mul hi lo t.size
            have h6 : hi * t.size ≤ cap * t.size := Nat.mul_le_mul_right _ (by omega)
            have h7 : lo * t.size ≤ hi * t.size := Nat.mul_le_mul_right _ hlh
            have : lo * t.size + m < c.size := by omega
            simp [World.cell?, g1, this])
          (fun i j q d hq hj => by
            obtain ⟨hq1, hq2⟩ := hsub i q hq
            have hj' := (List.getElem?_eq_some_iff.1 hj).1
            have hqk := g4 q (List.mem_of_getElem? hq1)
            have h5 : (lo + i + 1) * t.size ≤ cap * t.size := Nat.mul_le_mul_right _ (by omega)
            rw [Nat.succ_mul, Nat.add_mul] at h5
            have hlt : lo * t.size + (i * t.size + j) < c.size := by omega
            have := g5 (lo + i) j q d (c[lo * t.size + (i * t.size + j)]) hq1 hj (by rw [Nat.add_mul, Nat.add_assoc]; simp [hlt])
            simpa [hlt] using this) hk
        refine ⟨_, _, cells, by rw [hlen], by omega, h1, ?_, h3⟩
        intro w' hw
        have := h2 w' hw
        rw [hlen] at this ⊢
        exact this
  · cases hes

theorem src_one {es : List V} {k : Nat} {cells : List Value} (hl : cells.length = es.length * k) (hk : ∀ e, e ∈ es → e.cells.length = k) (ho : ∀ e, e ∈ es → e.cells.all V.one = true)
    (h : ∀ (i j : Nat) (e d : V), es[i]? = some e → e.cells[j]? = some d → ∃ x, cells[i * k + j]? = some x ∧ Rd w F x d) : ∀ v, v ∈ cells → v.oneCell' = true := by
  intro v hv
  obtain ⟨m, hm, rfl⟩ := List.getElem_of_mem hv
  have hk0 : 0 < k := by
    rcases Nat.eq_zero_or_pos k with h | h
    · subst h; simp at hl; simp [hl] at hm
    · exact h
  have hi : m / k < es.length := by
    rw [Nat.div_lt_iff_lt_mul hk0]; omega
  have hj : m % k < (es[m / k]).cells.length := by rw [hk _ (List.getElem_mem hi)]; exact Nat.mod_lt _ hk0
  obtain ⟨x, hx, hr⟩ := h (m / k) (m % k) _ _ (List.getElem?_eq_getElem hi) (List.getElem?_eq_getElem hj)
  have hmm : m / k * k + m % k = m := by rw [Nat.mul_comm]; exact Nat.div_add_mod m k
  rw [hmm, List.getElem?_eq_getElem hm, Option.some.injEq] at hx
  rw [hx]
  exact one_of_rd hr (List.all_eq_true.1 (ho _ (List.getElem_mem hi)) _ (List.getElem_mem hj))

/-- The row behind the append, in place. -/
theorem row_room {w' : World} {b k cap : Nat} {es es2 : List V} {c : Array Value} {et : TypeId} {cells : List Value} (g2 : c.size = cap * k) (g4 : ∀ e, e ∈ es → e.cells.length = k)
    (g5 : ∀ (i j : Nat) (e d : V) (x : Value), es[i]? = some e → e.cells[j]? = some d → c[i * k + j]? = some x → Rd w' F x d)
    (hk2 : ∀ e, e ∈ es2 → e.cells.length = k) (hl : cells.length = es2.length * k)
    (h : ∀ (i j : Nat) (e d : V), es2[i]? = some e → e.cells[j]? = some d → ∃ x, cells[i * k + j]? = some x ∧ Rd w' F x d) (hroom : es.length + es2.length ≤ cap)
    (hb : w'.heap[b]? = some (.cells (spliceA c (es.length * k) cells) et (0, 0))) : RowRel w' F b k cap (es ++ es2) := by
  have hfit : es.length * k + es2.length * k ≤ c.size := by rw [← Nat.add_mul, g2]; exact Nat.mul_le_mul_right k hroom
  refine ⟨_, et, hb, by rw [spliceA_size]; exact g2, by simpa using hroom, ?_, ?_⟩
  · intro e he
    rcases List.mem_append.1 he with h | h
    · exact g4 e h
    · exact hk2 e h
  · intro i j e d x hi hj hx
    have hj' := (List.getElem?_eq_some_iff.1 hj).1
    rw [spliceA_get _ _ _ _ (by rw [hl]; exact hfit)] at hx
    by_cases hlt : i < es.length
    · rw [List.getElem?_append_left hlt] at hi
      have := g4 e (List.mem_of_getElem? hi)
      have h1 : (i + 1) * k ≤ es.length * k := Nat.mul_le_mul_right k (by omega)
      rw [Nat.succ_mul] at h1
      rw [if_neg (by omega)] at hx
      exact g5 i j e d x hi hj hx
    · rw [List.getElem?_append_right (by omega)] at hi
      have he := hk2 e (List.mem_of_getElem? hi)
      have hi2 := (List.getElem?_eq_some_iff.1 hi).1
      have h1 : es.length * k ≤ i * k := Nat.mul_le_mul_right k (by omega)
      have h2 : (i - es.length) * k = i * k - es.length * k := Nat.sub_mul ..
      have h3 : (i - es.length + 1) * k ≤ es2.length * k := Nat.mul_le_mul_right k (by omega)
      rw [Nat.succ_mul] at h3
      rw [if_pos (by rw [hl]; omega)] at hx
      obtain ⟨y, hy, hr⟩ := h (i - es.length) j e d hi hj
      have h4 : i * k + j - es.length * k = (i - es.length) * k + j := by omega
      rw [h4, hy, Option.some.injEq] at hx
      subst hx; exact hr

/-- The row behind the append, in a new array. -/
theorem row_grow {w' : World} {b k cap : Nat} {es es2 : List V} {et : TypeId} {old cells : List Value} {rest : Array Value} (hk1 : ∀ e, e ∈ es → e.cells.length = k) (hk2 : ∀ e, e ∈ es2 → e.cells.length = k)
    (hl1 : old.length = es.length * k) (hl2 : cells.length = es2.length * k)
    (h1 : ∀ (i j : Nat) (e d : V), es[i]? = some e → e.cells[j]? = some d → ∃ x, old[i * k + j]? = some x ∧ Rd w' F x d)
    (h2 : ∀ (i j : Nat) (e d : V), es2[i]? = some e → e.cells[j]? = some d → ∃ x, cells[i * k + j]? = some x ∧ Rd w' F x d) (hcap : es.length + es2.length ≤ cap)
    (hrest : rest.size = (cap - (es.length + es2.length)) * k)
    (hb : w'.heap[b]? = some (.cells (old.toArray ++ (cells.toArray ++ rest)) et (0, 0))) : RowRel w' F b k cap (es ++ es2) := by
  refine ⟨_, et, hb, ?_, by simpa using hcap, ?_, ?_⟩
  · simp only [Array.size_append, List.size_toArray, hl1, hl2, hrest, Nat.sub_mul, Nat.add_mul]
    have : (es.length + es2.length) * k ≤ cap * k := Nat.mul_le_mul_right k hcap
    rw [Nat.add_mul] at this; omega
  · intro e he
    rcases List.mem_append.1 he with h | h
    · exact hk1 e h
    · exact hk2 e h
  · intro i j e d x hi hj hx
    have hj' := (List.getElem?_eq_some_iff.1 hj).1
    by_cases hlt : i < es.length
    · rw [List.getElem?_append_left hlt] at hi
      have := hk1 e (List.mem_of_getElem? hi)
      have h3 : (i + 1) * k ≤ es.length * k := Nat.mul_le_mul_right k (by omega)
      rw [Nat.succ_mul] at h3
      rw [Array.getElem?_append_left (by simp; omega)] at hx
      obtain ⟨y, hy, hr⟩ := h1 i j e d hi hj
      simp only [List.getElem?_toArray] at hx
      rw [hy, Option.some.injEq] at hx
      subst hx; exact hr
    · rw [List.getElem?_append_right (by omega)] at hi
      have he := hk2 e (List.mem_of_getElem? hi)
      have hi2 := (List.getElem?_eq_some_iff.1 hi).1
      have h3 : es.length * k ≤ i * k := Nat.mul_le_mul_right k (by omega)
      have h4 : (i - es.length) * k = i * k - es.length * k := Nat.sub_mul ..
      have h5 : (i - es.length + 1) * k ≤ es2.length * k := Nat.mul_le_mul_right k (by omega)
      rw [Nat.succ_mul] at h5
      rw [Array.getElem?_append_right (by simp; omega)] at hx
      simp only [List.size_toArray, hl1] at hx
      have h6 : i * k + j - es.length * k = (i - es.length) * k + j := by omega
      rw [h6, Array.getElem?_append_left (by simp; omega)] at hx
      obtain ⟨y, hy, hr⟩ := h2 (i - es.length) j e d hi hj
      simp only [List.getElem?_toArray] at hx
      rw [hy, Option.some.injEq] at hx
      subst hx; exact hr
end

section
variable {Γ : Sig} {P : Program} {G : Nat → Option (List V)} {S : Specs Γ} {o : Oper} {a : Act} {w0 : World} {F0 : Blk → Prop} {O0 : Lent} {w : World} {e e' : Env Γ.St}

/-- The frame's state behind a step that gives site 'id' a new slice and forgets the old one. -/
theorem Inv.own {F : Blk → Prop} {O : Nat → Prop} {β β' : Lay} {w' : World} {d id k : Nat} {es : List V} {v : Value} {cap : Nat} {al' : Site → Prop}
    (hG : GRel G w F) (hsz : a.tmps.size = e.tm.length) (hdf : a.defers = [])
    (ht : ∀ t, TRel w F β (alive e) (a.tmps.getD t undef) (e.get t)) (hv : ∀ s cs, e.var s = some cs → VarRel w F β (alive e) (β.vb s) cs)
    (hal : al' = fun x => alm id (alive e) x ∨ x = .o id)
    (hc' : Core Γ w0 F0 O0 w' F O β' al' e.st) (hext : Ext w F β (alm id (alive e)) w' F β' al')
    (hval : v = .slice (some ⟨β'.ob id, 0, none⟩) es.length cap) (hrow : RowRel w' F (β'.ob id) k cap es) :
    Inv Γ G w0 F0 O0 (a.put (some d) v) w' { (e.kill id) with tm := (e.kill id).tm.set d (.ow id k es) } := by
  have hnew : al' (.o id) := by rw [hal]; exact .inr rfl
  refine Inv.of (al := al') hc' (hG.ext hext) (by simp [Act.put, Env.kill, hsz]) hdf ?_ ?_ ?_
  · intro t
    rw [tmps_put, get_set]
    have hlen : (e.kill id).tm.length = a.tmps.size := by simp [Env.kill, hsz]
    rw [hlen]
    split
    · exact ⟨hnew, cap, hval, hrow⟩
    · rw [get_map]; exact (TRel.kill (ht t)).ext hext
  · intro s cs hcs
    have hcs' : (e.kill id).var s = some cs := hcs
    rw [var_kill] at hcs'
    split at hcs'
    · cases hcs'
    · rename_i hne
      simp only [Option.map_eq_some_iff] at hcs'
      obtain ⟨cs0, hcs0, rfl⟩ := hcs'
      have ha : alm id (alive e) (.v s) := ⟨⟨cs0, hcs0⟩, by simpa using hne, by simp⟩
      refine ⟨hext.a _ ha, ?_⟩
      have hb : β'.vb s = β.vb s := hext.b (.v s) ha
      rw [hb]
      exact (VarRel.kill (hv s cs0 hcs0)).ext hext (hext.ha (.v s) ha)
  · intro s hs
    rw [hal] at hs
    rcases hs with ⟨⟨cs, hcs⟩, hne, _⟩ | h
    · have hne' : s ≠ id := by simpa using hne
      refine ⟨cs.map (killT id), ?_⟩
      show (e.kill id).var s = _
      rw [var_kill, if_neg hne', hcs]; rfl
    · cases h

theorem Core.drew {F : Blk → Prop} {O : Nat → Prop} {β : Lay} {al : Site → Prop} {st : Γ.St} (hc : Core Γ w0 F0 O0 w F O β al st) : Core Γ w0 F0 O0 w.drew F O β al st :=
  ⟨⟨hc.keep.os, hc.keep.tape, hc.keep.output, hc.keep.size, hc.keep.block⟩, Γ.mono hc.sig (fun _ _ _ _ => Iff.rfl) (fun _ _ => rfl), hc.oin, hc.fin, hc.f0, hc.place, hc.dist, hc.lent⟩

theorem drew_ext {w' : World} {F F' : Blk → Prop} {β β' : Lay} {al al' : Site → Prop} (h : Ext w.drew F β al w' F' β' al') : Ext w F β al w' F' β' al' :=
  ⟨h.f, h.hf, h.a, h.b, h.ha⟩

def zcells (z : Value) : Nat := z.cells.size

def appendOk (info : TypeInfo) (z : Value) (es2 : List V) : Bool :=
  es2.all (fun q => q.cells.length == info.size && q.cells.all V.one) && decide (1 ≤ info.bytes) && zcells z == info.size

def evAppendN (P : Look) (G : Nat → Option (List V)) (e : Env Γ.St) (nm : Option Nat) (dst : Option Tmp) (c : Call) : Option (Env Γ.St) :=
  match c.callee, c.args.toList, c.argTypes.toList, dst with
  | .builtin .append, [x0, x1], [t0, t1], some d =>
    match P.und t0, P.und t1 with
    | some (.slice el), some (.slice _) => match P.inf el with
      | some info => match info.zero, elemsT (evx G e x1) with
        | some z, some es2 =>
          if appendOk info z es2 then
            match evx G e x0 with
            | .ow id k es => if k = info.size ∧ (2 * (es.length + es2.length) + 1024) * info.bytes ≤ 140737488355328 ∧ id ≠ lentId then
                some { (e.kill id) with tm := (e.kill id).tm.set d (.ow id k (es ++ es2)) } else none
            | x => match elemsT x with
              | some [] => match x with
                | .p (.sl _) => none
                | .ov _ _ _ _ _ => none
                | _ => match es2 with
                  | [] => some (e.put (some d) x)
                  | q :: r => if (2 * (q :: r).length + 1024) * info.bytes ≤ 140737488355328 ∧ nm.getD d ≠ lentId then some { (e.kill (nm.getD d)) with tm := (e.kill (nm.getD d)).tm.set d (.ow (nm.getD d) info.size (q :: r)) } else none
              | _ => none
          else none
        | _, _ => none
      | none => none
    | _, _ => none
  | _, _, _, _ => none

def evAppend (P : Look) (G : Nat → Option (List V)) (e : Env Γ.St) (dst : Option Tmp) (c : Call) : Option (Env Γ.St) := evAppendN P G e none dst c

theorem appendN_sim (hi : Inv Γ G w0 F0 O0 a w e) {dst : Option Tmp} {c : Call} {type : TypeId} {pos : String} {after : Array Edge} {guard : Option (Nat × Bool)}
    {nm : Option Nat} (h : evAppendN P G e nm dst c = some e') {Q : Exit → Act → World → Prop} :
    (⟨dst, .call c, type, pos, after, guard⟩ : Oper).wp P a w (fun a' w' => Inv Γ G w0 F0 O0 a' w' e') Q := by
  obtain ⟨F, O, β, hc, hG, hsz, hdf, ht, hv⟩ := hi
  unfold evAppendN at h
  split at h
  · rename_i x0 x1 t0 t1 d hcal hargs htys
    split at h
    · rename_i el el1 hu0 hu1
      split at h
      · rename_i info hinfo
        split at h
        · rename_i z es2 hz hes2
          split at h
          · rename_i hok
            simp only [appendOk, Bool.and_eq_true, decide_eq_true_eq, beq_iff_eq, List.all_eq_true] at hok
            obtain ⟨⟨hall, hbytes⟩, hzc⟩ := hok
            have hk2 : ∀ q, q ∈ es2 → q.cells.length = info.size := fun q hq => (hall q hq).1
            have ho2 : ∀ q, q ∈ es2 → q.cells.all V.one = true := fun q hq => List.all_eq_true.2 (fun y hy => (hall q hq).2 y hy)
            obtain ⟨a1, cap1, cells, hv1, hcap1, hl2, hrun2, hr2⟩ := src_sim (P := P) (evx_sim hG ht x1) hes2 hk2
            have hargs' : c.args = #[x0, x1] := by apply Array.ext'; simpa using hargs
            have ht0 : c.argTypes[0]? = some t0 := by rw [← Array.getElem?_toList, htys]; rfl
            have ht1 : c.argTypes[1]? = some t1 := by rw [← Array.getElem?_toList, htys]; rfl
            have hexec : ∀ r, (Builtin.append_ c.argTypes type #[a.eval x0, a.eval x1]).run P w = r → (execOp a.eval ⟨some d, .call c, type, pos, after, guard⟩).run P w = r.andThen fun v w' => .ok (.value v) w' := by
              intro r hr
              simp [execOp, resolve, hcal, hargs', invoke, builtin, hr]
            have hx0 := evx_sim hG ht x0
            have hs : size? P el = some info.size := size_of_info hinfo
            have hrest : ∀ m, (Builtin.zeroCells z.cells m).size = m * info.size := by
              intro m; simp only [Builtin.zeroCells, Array.size_map, Array.size_range]; rw [show z.cells.size = info.size from hzc]
            split at h
            · rename_i id k es hex0
              split at h
              · rename_i hcond
                obtain ⟨rfl, hbound, hnl⟩ := hcond
                simp only [Option.some.injEq] at h
                subst h
                rw [hex0] at hx0
                obtain ⟨ha, cap, hv0, cc, et, g1, g2, g3, g4, g5⟩ := hx0
                have hp := hc.place (.o id) ha
                have halm : ∀ x, alm id (alive e) x → β.blk x ≠ β.ob id := fun x hx hh => hx.2.2 (hc.dist x (.o id) hx.1 ha hh)
                unfold Oper.wp
                by_cases hroom : es.length + es2.length ≤ cap
                · have hfit : es.length * info.size + es2.length * info.size ≤ cc.size := by rw [← Nat.add_mul, g2]; exact Nat.mul_le_mul_right _ hroom
                  have hrun := run_append_room (P := P) (w := w) (ts := c.argTypes) (ty := type) (b := β.ob id) (off := 0) (len := es.length) (cap := cap) (n := es2.length) (cap1 := cap1) (a1 := a1) (cells := cells) (c := cc) (et := et) ht0 ht1 hu0 hu1 hs
                    (by rw [← hv1]; exact hrun2 w rfl) hl2 g1 (by omega) (src_one hl2 hk2 ho2 hr2) hroom
                  rw [← hv0, ← hv1] at hrun
                  simp only [Nat.zero_add] at hrun
                  rw [hexec _ hrun]
                  simp only [Result.andThen_ok, Oper.upon]
                  have hal' : ∀ x, (alm id (alive e) x ∨ x = .o id) → alive e x := fun x hx => hx.elim (fun h => h.1) (fun h => h ▸ ha)
                  have hext : Ext w F β (alm id (alive e)) (setBlk w (β.ob id) (.cells (spliceA cc (es.length * info.size) cells) et (0, 0))) F β (fun x => alm id (alive e) x ∨ x = .o id) :=
                    ⟨fun _ h => h, fun b hb => setBlk_ne (fun hh => hp.2.2.1 (by rw [hh] at hb; exact hb)), fun _ h => .inl h, fun _ _ => rfl, fun x hx => setBlk_ne (halm x hx)⟩
                  refine Inv.own (cap := cap) hG hsz hdf ht hv rfl ((hc.setBlk ha _ (fun c' et' fl' hh => by rw [show w.heap[β.blk (.o id)]? = _ from g1] at hh; simp only [Option.some.injEq, Obj.cells.injEq] at hh; exact ⟨_, _, _, rfl, by rw [spliceA_size, hh.1]⟩)).anti hal') hext (by simp) ?_
                  refine row_room g2 g4 (fun i j q y x hi hj hx => Rd.ext hext (g5 i j q y x hi hj hx)) hk2 hl2 (fun i j q y hi hj => ?_) hroom (setBlk_eq hp.2.1)
                  obtain ⟨x, hx, hr⟩ := hr2 i j q y hi hj
                  exact ⟨x, hx, Rd.ext hext hr⟩
                · have hx0' : TRel w F β (alive e) (a.eval x0) (.ow id info.size es) := ⟨ha, cap, hv0, cc, et, g1, g2, g3, g4, g5⟩
                  obtain ⟨a0, cap0, old, hv0', hcap0, hl1, hrun1, hr1⟩ := src_sim (P := P) (k := info.size) hx0' rfl g4
                  have hcc : cap0 = cap := by rw [hv0] at hv0'; simp at hv0'; exact hv0'.2.symm
                  subst hcc
                  obtain ⟨newCap, hnc, hrun⟩ := run_append_grow (P := P) (w := w) (ts := c.argTypes) (ty := type) (len := es.length) (cap := cap0) (n := es2.length) (cap1 := cap1) (a0 := a0) (a1 := a1) (cells := cells) (old := old) ht0 ht1 hu0 hu1 hinfo hz
                    (by rw [← hv1]; exact hrun2 w.drew rfl) (by rw [← hv0']; exact hrun1 w.drew rfl) hroom hbytes hbound
                  rw [← hv0', ← hv1] at hrun
                  rw [hexec _ hrun]
                  simp only [Result.andThen_ok, Oper.upon]
                  let β' : Lay := { β with ob := fun s => if s = id then w.heap.size else β.ob s }
                  have hb : ∀ x, alm id (alive e) x → β'.blk x = β.blk x := by
                    intro x hx
                    cases x with
                    | o s =>
                      have hne : s ≠ id := fun hh => hx.2.2 (by rw [hh])
                      simp [Lay.blk, β', hne]
                    | v s => rfl
                  have hob : β'.ob id = w.heap.size := by simp [β']
                  have hcm := (hc.drew.anti (al' := alm id (alive e)) (fun x hx => hx.1))
                  have hcore := hcm.push (.cells (old.toArray ++ (cells.toArray ++ Builtin.zeroCells z.cells (newCap - (es.length + es2.length)))) el) β' (.o id) (fun hh => hnl (by cases hh; rfl)) hob hb
                  have hext : Ext w F β (alm id (alive e)) (w.drew.alloc (.cells (old.toArray ++ (cells.toArray ++ Builtin.zeroCells z.cells (newCap - (es.length + es2.length)))) el)) F β' (fun x => alm id (alive e) x ∨ x = .o id) :=
                    drew_ext (hcm.push_ext (.cells (old.toArray ++ (cells.toArray ++ Builtin.zeroCells z.cells (newCap - (es.length + es2.length)))) el) β' (fun x => alm id (alive e) x ∨ x = .o id) hb (fun x hx => .inl hx))
                  refine Inv.own (cap := newCap) hG hsz hdf ht hv rfl hcore hext (by rw [hob]; simp) ?_
                  rw [hob]
                  refine row_grow g4 hk2 hl1 hl2 (fun i j q y hi hj => ?_) (fun i j q y hi hj => ?_) hnc (hrest _) (push_new (w := w.drew))
                  · obtain ⟨x, hx, hr⟩ := hr1 i j q y hi hj
                    exact ⟨x, hx, Rd.ext hext hr⟩
                  · obtain ⟨x, hx, hr⟩ := hr2 i j q y hi hj
                    exact ⟨x, hx, Rd.ext hext hr⟩
              · cases h
            · rename_i hnow
              split at h
              · rename_i hnil
                have hemp : (∀ es0, evx G e x0 ≠ .p (.sl es0)) → (∀ i t xs lo hi, evx G e x0 ≠ .ov i t xs lo hi) → ∃ a0, a.eval x0 = .slice a0 0 0 := by
                  intro hns hnov
                  unfold elemsT at hnil
                  split at hnil
                  · rename_i es0 heq; exact absurd heq (hns es0)
                  · rename_i heq
                    rw [heq] at hx0
                    exact ⟨none, Rd.eq_val hx0⟩
                  · rename_i i0 k0 es0 heq; exact absurd heq (hnow i0 k0 es0)
                  · rename_i heq
                    rw [heq] at hx0
                    obtain ⟨a0, ha0⟩ := hx0
                    exact ⟨a0, ha0⟩
                  · rename_i heq; exact absurd heq (hnov _ _ _ _ _)
                  · cases hnil
                split at h
                · cases h
                · cases h
                · rename_i hns hnov
                  obtain ⟨a0, hv0⟩ := hemp hns hnov
                  unfold Oper.wp
                  split at h
                  · simp only [Option.some.injEq] at h
                    subst h
                    have hrun : (Builtin.append_ c.argTypes type #[a.eval x0, a.eval x1]).run P w = .ok (.slice a0 0 0) w := by
                      rw [hv0, hv1]
                      have hr := hrun2 w rfl
                      rw [hv1] at hr
                      have hcn : cells = [] := List.eq_nil_of_length_eq_zero (by simpa using hl2)
                      subst hcn
                      simp only [List.length_nil] at hr ⊢
                      cases a0 with
                      | none => simp [Builtin.append_, ht0, ht1, run_underlying? hu0, run_underlying? hu1, run_sizeOf hs, Builtin.lenOf, hr]
                      | some ad => simp [Builtin.append_, ht0, ht1, run_underlying? hu0, run_underlying? hu1, run_sizeOf hs, Builtin.lenOf, hr, storeCells]
                    rw [hexec _ hrun]
                    simp only [Result.andThen_ok, Oper.upon]
                    refine Inv.of (al := alive e) hc hG (by simp [Act.put, Env.put, hsz]) hdf ?_ (fun s cs hcs => ⟨⟨cs, hcs⟩, hv s cs hcs⟩) (fun s hs => hs)
                    intro t
                    simp only [Env.put]
                    rw [tmps_put, get_set, hsz]
                    split
                    · rw [← hv0]; exact hx0
                    · exact ht t
                  · rename_i q r
                    split at h
                    · rename_i hbound0
                      obtain ⟨hbound, hnl⟩ := hbound0
                      simp only [Option.some.injEq] at h
                      subst h
                      obtain ⟨a0', cap0, old, hv0', hcap0, hl1, hrun1, hr1⟩ := src_sim (P := P) (k := info.size) hx0 hnil (by simp)
                      rw [hv0] at hrun1
                      have hold : old = [] := List.eq_nil_of_length_eq_zero (by simpa using hl1)
                      subst hold
                      obtain ⟨newCap, hnc, hrun⟩ := run_append_grow (P := P) (w := w) (ts := c.argTypes) (ty := type) (len := 0) (cap := 0) (n := (q :: r).length) (cap1 := cap1) (a0 := a0) (a1 := a1) (cells := cells) (old := []) ht0 ht1 hu0 hu1 hinfo hz
                        (by rw [← hv1]; exact hrun2 w.drew rfl) (by exact hrun1 w.drew rfl) (by simp) hbytes (by simpa using hbound)
                      rw [← hv0, ← hv1] at hrun
                      rw [hexec _ hrun]
                      simp only [Result.andThen_ok, Oper.upon]
                      simp only [Nat.zero_add] at hnc ⊢
                      let β' : Lay := { β with ob := fun s => if s = nm.getD d then w.heap.size else β.ob s }
                      have hb : ∀ x, alm (nm.getD d) (alive e) x → β'.blk x = β.blk x := by
                        intro x hx
                        cases x with
                        | o s =>
                          have hne : s ≠ nm.getD d := fun hh => hx.2.2 (by rw [hh])
                          simp [Lay.blk, β', hne]
                        | v s => rfl
                      have hob : β'.ob (nm.getD d) = w.heap.size := by simp [β']
                      have hcm := (hc.drew.anti (al' := alm (nm.getD d) (alive e)) (fun x hx => hx.1))
                      have hcore := hcm.push (.cells (([] : List Value).toArray ++ (cells.toArray ++ Builtin.zeroCells z.cells (newCap - (q :: r).length))) el) β' (.o (nm.getD d)) (fun hh => hnl (by injection hh)) hob hb
                      have hext := hcm.push_ext (.cells (([] : List Value).toArray ++ (cells.toArray ++ Builtin.zeroCells z.cells (newCap - (q :: r).length))) el) β' (fun x => alm (nm.getD d) (alive e) x ∨ x = .o (nm.getD d)) hb (fun x hx => .inl hx)
                      have hext' : Ext w F β (alm (nm.getD d) (alive e)) (w.drew.alloc (.cells (([] : List Value).toArray ++ (cells.toArray ++ Builtin.zeroCells z.cells (newCap - (q :: r).length))) el)) F β' (fun x => alm (nm.getD d) (alive e) x ∨ x = .o (nm.getD d)) := drew_ext hext
                      refine Inv.own (cap := newCap) hG hsz hdf ht hv rfl hcore hext' (by rw [hob]) ?_
                      rw [hob]
                      have := row_grow (w' := w.drew.alloc (.cells (([] : List Value).toArray ++ (cells.toArray ++ Builtin.zeroCells z.cells (newCap - (q :: r).length))) el)) (F := F) (b := w.heap.size) (k := info.size) (cap := newCap) (es := []) (es2 := q :: r) (et := el) (old := []) (cells := cells)
                        (by simp) hk2 (by simp) hl2 (fun i j q y hi hj => by simp at hi) (fun i j q' y hi hj => by
                          obtain ⟨x, hx, hr⟩ := hr2 i j q' y hi hj
                          exact ⟨x, hx, Rd.ext hext' hr⟩) (by simpa using hnc) (by simpa using hrest _) (push_new (w := w.drew))
                      simpa using this
                    · cases h
              · cases h
          · cases h
        · cases h
      · cases h
    · cases h
  · cases h

theorem append_sim (hi : Inv Γ G w0 F0 O0 a w e) {dst : Option Tmp} {c : Call} {type : TypeId} {pos : String} {after : Array Edge} {guard : Option (Nat × Bool)}
    (h : evAppend P G e dst c = some e') {Q : Exit → Act → World → Prop} :
    (⟨dst, .call c, type, pos, after, guard⟩ : Oper).wp P a w (fun a' w' => Inv Γ G w0 F0 O0 a' w' e') Q := appendN_sim hi h
end
end Go.Ve

namespace Go.Ve
open Go

section
variable {St : Type}
def Env.mapT (f : T → T) (e : Env St) : Env St := { e with tm := e.tm.map f, vars := e.vars.map (fun c => c.map (List.map f)) }

theorem get_mapT {f : T → T} (hf : f .dead = .dead) (e : Env St) (t : Nat) : (e.mapT f).get t = f (e.get t) := by
  simp only [Env.mapT, Env.get, List.getD_eq_getElem?_getD, List.getElem?_map]
  cases e.tm[t]? <;> simp [hf]

theorem var_mapT {f : T → T} (e : Env St) (s : Nat) : (e.mapT f).var s = (e.var s).map (List.map f) := by
  simp only [Env.mapT, Env.var, List.getElem?_map]
  cases e.vars[s]? <;> rfl
end

def WkT (x y : T) : Prop := ∀ (w : World) (F : Blk → Prop) (β : Lay) (al : Site → Prop) (v : Value), TRel w F β al v x → TRel w F β al v y

def WkTs : List T → List T → Prop
  | [], [] => True
  | x :: xs, y :: ys => WkT x y ∧ WkTs xs ys
  | _, _ => False

theorem WkT.refl (x : T) : WkT x x := fun _ _ _ _ _ h => h
theorem WkT.trans {x y z : T} (h : WkT x y) (k : WkT y z) : WkT x z := fun w F β al v hh => k w F β al v (h w F β al v hh)
theorem WkT.dead (x : T) : WkT x .dead := fun _ _ _ _ _ _ => trivial
theorem WkT.un (x : T) : WkT x x.un := fun _ _ _ _ _ h => TRel_un.1 h
theorem WkT.ofUn (x : T) : WkT x.un x := fun _ _ _ _ _ h => TRel_un.2 h

theorem WkTs.refl : ∀ (l : List T), WkTs l l
  | [] => trivial
  | x :: l => ⟨.refl x, WkTs.refl l⟩

theorem WkTs.map {f g : T → T} (h : ∀ x, WkT (f x) (g x)) : ∀ (l : List T), WkTs (l.map f) (l.map g)
  | [] => trivial
  | x :: l => ⟨h x, WkTs.map h l⟩

theorem WkTs.get : ∀ {xs ys : List T} (_ : WkTs xs ys) (i : Nat) (x y : T), xs[i]? = some x → ys[i]? = some y → WkT x y
  | [], [], _, i, x, y, h1, _ => by simp at h1
  | a :: xs, b :: ys, h, i, x, y, h1, h2 => by
    cases i with
    | zero => simp at h1 h2; subst h1 h2; exact h.1
    | succ i => exact WkTs.get h.2 i x y (by simpa using h1) (by simpa using h2)

theorem WkTs.len : ∀ {xs ys : List T} (_ : WkTs xs ys), xs.length = ys.length
  | [], [], _ => rfl
  | a :: xs, b :: ys, h => by simp [WkTs.len h.2]

section
variable {Γ : Sig} {P : Program} {G : Nat → Option (List V)} {S : Specs Γ} {o : Oper} {a : Act} {w0 : World} {F0 : Blk → Prop} {O0 : Lent} {w : World} {e e' : Env Γ.St}

/-- The variables of e2 are those of e; each cell knows no more. -/
def WkVars (e e2 : Env Γ.St) : Prop := ∀ s, match e.var s, e2.var s with
  | none, none => True
  | some cs, some cs2 => WkTs cs cs2
  | _, _ => False

theorem Inv.weak {e2 : Env Γ.St} (h : Inv Γ G w0 F0 O0 a w e) (hl : e2.tm.length = e.tm.length) (hst : e2.st = e.st) (ht2 : ∀ t, WkT (e.get t) (e2.get t)) (hv2 : WkVars e e2) :
    Inv Γ G w0 F0 O0 a w e2 := by
  obtain ⟨F, O, β, hc, hG, hsz, hdf, ht, hv⟩ := h
  refine Inv.of (al := alive e) (by rw [hst]; exact hc) hG (by rw [hl]; exact hsz) hdf (fun t => ht2 t _ _ _ _ _ (ht t)) ?_ ?_
  · intro s cs2 hcs2
    have h1 := hv2 s
    rw [hcs2] at h1
    cases hcs : e.var s with
    | none => rw [hcs] at h1; exact h1.elim
    | some cs =>
      rw [hcs] at h1
      obtain ⟨c, et, g1, g2, g3⟩ := hv s cs hcs
      refine ⟨⟨cs, hcs⟩, c, et, g1, g2.trans h1.len, ?_⟩
      intro i x y hx hy
      have hlt : i < cs.length := by rw [h1.len]; exact (List.getElem?_eq_some_iff.1 hy).1
      exact h1.get i cs[i] y (by simp [hlt]) hy _ _ _ _ _ (g3 i x cs[i] hx (by simp [hlt]))
  · rintro s ⟨cs, hcs⟩
    have h1 := hv2 s
    rw [hcs] at h1
    cases hcs2 : e2.var s with
    | none => rw [hcs2] at h1; exact h1.elim
    | some cs2 => exact ⟨cs2, rfl⟩

theorem evx_un (x : Operand) : evx G (e.mapT T.un) x = (evx G e x).un := by
  cases x with
  | tmp t => exact get_mapT rfl e t
  | const v =>
    simp only [evx]
    cases v with
    | tuple vs => rfl
    | agg cs => rfl
    | _ => rfl
  | global g => simp only [evx]; cases G g <;> rfl
  | func f => rfl

theorem Inv.un (h : Inv Γ G w0 F0 O0 a w e) : Inv Γ G w0 F0 O0 a w (e.mapT T.un) := by
  refine h.weak (by simp [Env.mapT]) rfl (fun t => by rw [get_mapT rfl]; exact WkT.un _) ?_
  intro s
  rw [var_mapT]
  cases hs : e.var s with
  | none => trivial
  | some cs =>
    have := WkTs.map (f := id) (g := T.un) (fun x => WkT.un x) cs
    simpa using this

theorem kill_un (n : Nat) (x : T) : WkT (killT n x.un) (killT n x) := by
  cases x with
  | p d =>
    cases d with
    | tl t xs => exact WkT.ofUn (.p (.tl t xs))
    | _ => exact .refl _
  | ot i t xs =>
    cases xs with
    | nil =>
      simp only [killT, T.un, List.map_nil]
      split
      · exact .dead _
      · exact WkT.ofUn (.ot i t [])
    | cons x xs =>
      simp only [killT, T.un, List.map_cons]
      split
      · exact .dead _
      · exact WkT.ofUn (.ot i t (x :: xs))
  | oet i t xs j off =>
    simp only [killT, T.un]
    split
    · exact .dead _
    · exact WkT.ofUn (.oet i t xs j off)
  | _ => exact .refl _

theorem cells_one (t : Ty) (x : t.El) : (t.cells x).all V.one = true := by
  induction t with
  | pair a b iha ihb => simp only [Ty.cells, List.all_append, iha, ihb, Bool.and_self]
  | _ => rfl

def srcT : T → Option ((t : Ty) × List t.El)
  | .p (.tl t xs) => some ⟨t, xs⟩
  | .ot _ t xs => some ⟨t, xs⟩
  | .ov _ t xs lo hi => some ⟨t, (xs.take hi).drop lo⟩
  | _ => none

def dstT (t : Ty) : T → Option (Option Nat × List t.El)
  | .p (.val (.slice none 0 0)) => some (none, [])
  | .emp => some (none, [])
  | .ot id t' xs => if h : t' = t then some (some id, h ▸ xs) else none
  | _ => none

def evAppendT (P : Look) (G : Nat → Option (List V)) (e : Env Γ.St) (dst : Option Tmp) (c : Call) : Option (Env Γ.St) :=
  match c.callee, c.args.toList, c.argTypes.toList, dst with
  | .builtin .append, [x0, x1], [t0, t1], some d =>
    match P.und t0, P.und t1 with
    | some (.slice el), some (.slice _) => match P.inf el with
      | some info => match info.zero, srcT (evx G e x1) with
        | some z, some ⟨t, ys⟩ => match dstT t (evx G e x0) with
          | some (nm, xs) =>
            if t.size = info.size ∧ 1 ≤ info.bytes ∧ zcells z = info.size ∧ nm.getD d ≠ lentId then
              if (2 * (xs.length + ys.length) + 1024) * info.bytes ≤ 140737488355328 then
                some { (e.kill (nm.getD d)) with tm := (e.kill (nm.getD d)).tm.set d (.ot (nm.getD d) t (xs ++ ys)) }
              else none
            else none
          | none => none
        | _, _ => none
      | none => none
    | _, _ => none
  | _, _, _, _ => none

theorem weak_set {n d : Nat} {X Y : T} (hXY : WkT X Y) (h : Inv Γ G w0 F0 O0 a w { ((e.mapT T.un).kill n) with tm := ((e.mapT T.un).kill n).tm.set d X }) :
    Inv Γ G w0 F0 O0 a w { (e.kill n) with tm := (e.kill n).tm.set d Y } := by
  refine h.weak (by simp [Env.kill, Env.mapT]) rfl ?_ ?_
  · intro t
    rw [get_set, get_set]
    have hlen : ((e.mapT T.un).kill n).tm.length = (e.kill n).tm.length := by simp [Env.kill, Env.mapT]
    rw [hlen]
    split
    · exact hXY
    · rw [get_map, get_map, get_mapT rfl]
      exact kill_un n _
  · intro s
    have h1 : ({ ((e.mapT T.un).kill n) with tm := ((e.mapT T.un).kill n).tm.set d X } : Env Γ.St).var s = ((e.mapT T.un).kill n).var s := rfl
    have h2 : ({ (e.kill n) with tm := (e.kill n).tm.set d Y } : Env Γ.St).var s = (e.kill n).var s := rfl
    rw [h1, h2, var_kill, var_kill, var_mapT]
    by_cases hs : s = n
    · rw [if_pos hs, if_pos hs]; trivial
    · rw [if_neg hs, if_neg hs]
      cases e.var s with
      | none => trivial
      | some cs =>
        simp only [Option.map_some, List.map_map]
        exact WkTs.map (fun x => kill_un n x) cs

theorem appendT_sim (hi : Inv Γ G w0 F0 O0 a w e) {dst : Option Tmp} {c : Call} {type : TypeId} {pos : String} {after : Array Edge} {guard : Option (Nat × Bool)}
    (h : evAppendT P G e dst c = some e') {Q : Exit → Act → World → Prop} :
    (⟨dst, .call c, type, pos, after, guard⟩ : Oper).wp P a w (fun a' w' => Inv Γ G w0 F0 O0 a' w' e') Q := by
  unfold evAppendT at h
  split at h
  · rename_i x0 x1 t0 t1 d hcal hargs htys
    split at h
    · rename_i el el1 hu0 hu1
      have hu0' : P.underlying t0 = some (.slice el) := hu0
      have hu1' : P.underlying t1 = some (.slice el1) := hu1
      split at h
      · rename_i info hinfo
        have hinfo' : P.info? el = some info := hinfo
        split at h
        · rename_i z t ys hz hsrc
          split at h
          · rename_i nm xs hdst
            split at h
            · rename_i hok
              obtain ⟨hsz, hby, hzc, hnl⟩ := hok
              split at h
              · rename_i hbound
                simp only [Option.some.injEq] at h
                subst h
                have hsu : elemsT (evx G (e.mapT T.un) x1) = some (ys.map t.enc) := by
                  rw [evx_un]
                  unfold srcT at hsrc
                  split at hsrc
                  · rename_i heq
                    simp only [Option.some.injEq, Sigma.mk.injEq] at hsrc
                    obtain ⟨rfl, hys⟩ := hsrc
                    cases hys
                    rw [heq]; rfl
                  · rename_i i0 ys0 heq
                    simp only [Option.some.injEq, Sigma.mk.injEq] at hsrc
                    obtain ⟨rfl, hys⟩ := hsrc
                    cases hys
                    rw [heq]
                    cases ys0 <;> rfl
                  · rename_i i0 xs0 lo0 hi0 heq
                    simp only [Option.some.injEq, Sigma.mk.injEq] at hsrc
                    obtain ⟨rfl, hys⟩ := hsrc
                    cases hys
                    rw [heq]; rfl
                  · cases hsrc
                have hao : appendOk info z (ys.map t.enc) = true := by
                  simp only [appendOk, Bool.and_eq_true, decide_eq_true_eq, beq_iff_eq, List.all_eq_true]
                  refine ⟨⟨?_, hby⟩, hzc⟩
                  intro q hq
                  simp only [List.mem_map] at hq
                  obtain ⟨y, _, rfl⟩ := hq
                  refine ⟨by rw [enc_len]; exact hsz, ?_⟩
                  rw [enc_cells]
                  exact fun y hy => List.all_eq_true.1 (cells_one t _) y hy
                -- a slice of the frame's own that is not empty
                have hown : ∀ id x xs', nm = some id → xs = x :: xs' → evx G (e.mapT T.un) x0 = .ow id t.size (xs.map t.enc) → (⟨some d, .call c, type, pos, after, guard⟩ : Oper).wp P a w (fun a' w' => Inv Γ G w0 F0 O0 a' w' { (e.kill (nm.getD d)) with tm := (e.kill (nm.getD d)).tm.set d (.ot (nm.getD d) t (xs ++ ys)) }) Q := by
                  intro id x xs' hnm hxs hx0
                  subst hnm
                  have hev : evAppendN P G (e.mapT T.un) (some id) (some d) c = some { ((e.mapT T.un).kill id) with tm := ((e.mapT T.un).kill id).tm.set d (.ow id t.size (xs.map t.enc ++ ys.map t.enc)) } := by
                    have hb' : (2 * ((xs.map t.enc).length + (ys.map t.enc).length) + 1024) * info.bytes ≤ 140737488355328 := by simpa using hbound
                    have hnl' : id ≠ lentId := hnl
                    simp only [evAppendN, hcal, hargs, htys, hu0', hu1', hinfo', hz, hsu, hao, if_true, hx0]
                    rw [if_pos ⟨hsz, hb', hnl'⟩]
                  refine Oper.wp_mono (fun a' w' hh => ?_) (appendN_sim hi.un hev)
                  refine weak_set ?_ hh
                  have : (T.ot id t (xs ++ ys)).un = .ow id t.size (xs.map t.enc ++ ys.map t.enc) := by
                    subst hxs; simp [T.un]
                  rw [← this]; exact WkT.ofUn _
                have hemp : ∀ x : T, evx G (e.mapT T.un) x0 = x → (x = .emp ∨ x = .p (.val (.slice none 0 0))) → xs = [] → (⟨some d, .call c, type, pos, after, guard⟩ : Oper).wp P a w (fun a' w' => Inv Γ G w0 F0 O0 a' w' { (e.kill (nm.getD d)) with tm := (e.kill (nm.getD d)).tm.set d (.ot (nm.getD d) t (xs ++ ys)) }) Q := by
                  intro x hx0 hx hxs
                  subst hxs
                  have hel : elemsT x = some [] := by rcases hx with rfl | rfl <;> rfl
                  cases ys with
                  | nil =>
                    have hev : evAppendN P G (e.mapT T.un) nm (some d) c = some ((e.mapT T.un).put (some d) x) := by
                      simp only [evAppendN, hcal, hargs, htys, hu0', hu1', hinfo', hz, hsu, hao, if_true, hx0]
                      rcases hx with rfl | rfl <;> simp [elemsT]
                    refine Oper.wp_mono (fun a' w' hh => ?_) (appendN_sim hi.un hev)
                    have hk := hh.kill (nm.getD d)
                    have heq : ((e.mapT T.un).put (some d) x).kill (nm.getD d) = { ((e.mapT T.un).kill (nm.getD d)) with tm := ((e.mapT T.un).kill (nm.getD d)).tm.set d (killT (nm.getD d) x) } := by
                      simp [Env.kill, Env.put, List.map_set]
                    rw [heq] at hk
                    refine weak_set ?_ hk
                    rcases hx with rfl | rfl
                    · exact fun w F β al v h => .inl ⟨rfl, h⟩
                    · exact fun w F β al v h => .inl ⟨rfl, none, Rd.eq_val h⟩
                  | cons y ys =>
                    have hev : evAppendN P G (e.mapT T.un) nm (some d) c = some { ((e.mapT T.un).kill (nm.getD d)) with tm := ((e.mapT T.un).kill (nm.getD d)).tm.set d (.ow (nm.getD d) info.size ((y :: ys).map t.enc)) } := by
                      have hb' : (2 * (t.enc y :: ys.map t.enc).length + 1024) * info.bytes ≤ 140737488355328 := by simpa using hbound
                      simp only [evAppendN, hcal, hargs, htys, hu0', hu1', hinfo', hz, hsu, hao, if_true, hx0]
                      rcases hx with rfl | rfl <;> (simp only [elemsT, List.map_cons]; rw [if_pos ⟨hb', hnl⟩])
                    refine Oper.wp_mono (fun a' w' hh => ?_) (appendN_sim hi.un hev)
                    refine weak_set ?_ hh
                    have : (T.ot (nm.getD d) t ([] ++ y :: ys)).un = .ow (nm.getD d) info.size ((y :: ys).map t.enc) := by
                      simp [T.un, hsz]
                    rw [← this]; exact WkT.ofUn _
                unfold dstT at hdst
                split at hdst
                · rename_i heq
                  simp only [Option.some.injEq, Prod.mk.injEq] at hdst
                  obtain ⟨rfl, rfl⟩ := hdst
                  exact hemp _ rfl (by rw [evx_un, heq]; exact .inr rfl) rfl
                · rename_i heq
                  simp only [Option.some.injEq, Prod.mk.injEq] at hdst
                  obtain ⟨rfl, rfl⟩ := hdst
                  exact hemp _ rfl (by rw [evx_un, heq]; exact .inl rfl) rfl
                · rename_i id t' xs0 heq
                  split at hdst
                  · rename_i ht
                    subst ht
                    simp only [Option.some.injEq, Prod.mk.injEq] at hdst
                    obtain ⟨rfl, rfl⟩ := hdst
                    cases hxs : xs0 with
                    | nil =>
                      subst hxs
                      exact hemp _ rfl (by rw [evx_un, heq]; exact .inl rfl) rfl
                    | cons x xs' =>
                      subst hxs
                      exact hown id x xs' rfl rfl (by rw [evx_un, heq]; rfl)
                  · cases hdst
                · cases hdst
              · cases h
            · cases h
          · cases h
        · cases h
      · cases h
    · cases h
  · cases h

def neTmp (p : Nat) : Operand → Bool
  | .tmp q => !Nat.beq q p
  | _ => true

/-- Append behind the beginning of a slice of the frame's own. -/
def evAppendV (P : Look) (G : Nat → Option (List V)) (e : Env Γ.St) (dst : Option Tmp) (c : Call) : Option (Env Γ.St) :=
  match c.callee, c.args.toList, c.argTypes.toList, dst with
  | .builtin .append, [.tmp p, x1], [t0, t1], some d =>
    match P.und t0, P.und t1 with
    | some (.slice el), some (.slice _) => match P.inf el with
      | some info => match info.zero, srcT (evx G e x1) with
        | some z, some ⟨t, y :: ys⟩ => match e.get p with
          | .ov id t' xs 0 hi =>
            if neTmp p x1 = false then none else
            if h : t' = t then
              if t.size = info.size ∧ 1 ≤ info.bytes ∧ zcells z = info.size ∧ id ≠ lentId then
                if (2 * ((List.take hi (h ▸ xs)).length + (y :: ys).length) + 1024) * info.bytes ≤ 140737488355328 then
                  some { (e.kill id) with tm := (e.kill id).tm.set d (.ot id t (List.take hi (h ▸ xs) ++ y :: ys)) }
                else none
              else none
            else none
          | _ => none
        | _, _ => none
      | none => none
    | _, _ => none
  | _, _, _, _ => none

theorem evx_put_ne {x : Operand} {p : Nat} {X : T} (h : ∀ t, x = .tmp t → t ≠ p) : evx G (e.put (some p) X) x = evx G e x := by
  cases x with
  | tmp t =>
    simp only [evx, Env.put, Env.get, List.getD_eq_getElem?_getD]
    rw [List.getElem?_set_ne (fun hh => h t rfl hh.symm)]
  | _ => rfl

theorem Inv.putWeak (h : Inv Γ G w0 F0 O0 a w e) {p : Nat} {X : T} (hw : WkT (e.get p) X) : Inv Γ G w0 F0 O0 a w (e.put (some p) X) := by
  refine h.weak (by simp [Env.put]) rfl ?_ ?_
  · intro t
    simp only [Env.put]
    rw [get_set]
    split
    · rename_i ht; rw [ht.1]; exact hw
    · exact .refl _
  · intro s
    have : (e.put (some p) X).var s = e.var s := rfl
    rw [this]
    cases e.var s with
    | none => trivial
    | some cs => exact WkTs.refl cs

theorem RowRel.take {w : World} {F : Blk → Prop} {b k cap : Nat} {es : List V} (h : RowRel w F b k cap es) (n : Nat) : RowRel w F b k cap (es.take n) := by
  obtain ⟨c, et, g1, g2, g3, g4, g5⟩ := h
  refine ⟨c, et, g1, g2, by simp; omega, fun e he => g4 e (List.mem_of_mem_take he), ?_⟩
  intro i j e d x hi hj hx
  rw [List.getElem?_take] at hi
  split at hi
  · exact g5 i j e d x hi hj hx
  · cases hi

theorem kill_put {p id : Nat} {X : T} (h1 : killT id X = .dead) (h2 : killT id (e.get p) = .dead) (hp : p < e.tm.length) : (e.put (some p) X).kill id = e.kill id := by
  have : (e.tm.set p X).map (killT id) = e.tm.map (killT id) := by
    rw [List.map_set, h1]
    apply List.ext_getElem?
    intro i
    rw [List.getElem?_set]
    split
    · rename_i hpi
      subst hpi
      rw [if_pos (by simpa using hp), List.getElem?_map, List.getElem?_eq_getElem hp]
      simp only [Env.get, List.getD_eq_getElem?_getD, List.getElem?_eq_getElem hp, Option.getD_some] at h2
      simp [h2]
    · rfl
  simp only [Env.kill, Env.put, this]

theorem appendV_sim (hi : Inv Γ G w0 F0 O0 a w e) {dst : Option Tmp} {c : Call} {type : TypeId} {pos : String} {after : Array Edge} {guard : Option (Nat × Bool)}
    (h : evAppendV P G e dst c = some e') {Q : Exit → Act → World → Prop} :
    (⟨dst, .call c, type, pos, after, guard⟩ : Oper).wp P a w (fun a' w' => Inv Γ G w0 F0 O0 a' w' e') Q := by
  unfold evAppendV at h
  split at h
  · rename_i p x1 t0 t1 d hcal hargs htys
    split at h
    · rename_i el el1 hu0 hu1
      have hu0' : P.underlying t0 = some (.slice el) := hu0
      have hu1' : P.underlying t1 = some (.slice el1) := hu1
      split at h
      · rename_i info hinfo
        have hinfo' : P.info? el = some info := hinfo
        split at h
        · rename_i z t y ys hz hsrc
          split at h
          · rename_i id t' xs hi0 hget
            split at h
            · cases h
            · rename_i hne0
              split at h
              · rename_i htt
                subst htt
                simp only at h
                split at h
                · rename_i hok
                  obtain ⟨hsz, hby, hzc, hnl⟩ := hok
                  split at h
                  · rename_i hbound
                    simp only [Option.some.injEq] at h
                    subst h
                    have hx1p : ∀ q, x1 = .tmp q → q ≠ p := by
                      rintro q rfl hqp
                      subst hqp
                      exact hne0 (by simp [neTmp])
                    have hlt : p < e.tm.length := by
                      rcases Nat.lt_or_ge p e.tm.length with h | h
                      · exact h
                      · simp only [Env.get, List.getD_eq_getElem?_getD, List.getElem?_eq_none h, Option.getD_none] at hget
                        cases hget
                    have hkov : killT id (e.get p) = .dead := by rw [hget]; simp [killT]
                    have hgp : ∀ (e1 : Env Γ.St) (X : T), p < e1.tm.length → (e1.put (some p) X).get p = X := by
                      intro e1 X h1
                      simp only [Env.put]
                      rw [get_set, if_pos ⟨rfl, h1⟩]
                    cases xs with
                    | nil =>
                      have hw : WkT (e.get p) (.ot id t' []) := by
                        rw [hget]
                        rintro w F β al v (⟨_, _, _, hv⟩ | ⟨h0, _⟩)
                        · exact .inl ⟨rfl, hv⟩
                        · exact absurd rfl h0
                      have hk : (e.put (some p) (.ot id t' [])).kill id = e.kill id := kill_put (by simp [killT]) hkov hlt
                      have hev : evAppendT P G (e.put (some p) (.ot id t' [])) (some d) c = some { ((e.put (some p) (.ot id t' [])).kill id) with tm := ((e.put (some p) (.ot id t' [])).kill id).tm.set d (.ot id t' ([] ++ y :: ys)) } := by
                        have hb' : (2 * (([] : List t'.El).length + (y :: ys).length) + 1024) * info.bytes ≤ 140737488355328 := by simpa using hbound
                        have hsrc' : srcT (evx G (e.put (some p) (.ot id t' [])) x1) = some ⟨t', y :: ys⟩ := by rw [evx_put_ne hx1p]; exact hsrc
                        have hdst : dstT t' (evx G (e.put (some p) (.ot id t' [])) (.tmp p)) = some (some id, []) := by
                          simp only [evx, hgp e _ hlt, dstT, dif_pos]
                        simp only [evAppendT, hcal, hargs, htys, hu0', hu1', hinfo', hz, hsrc', hdst]
                        rw [if_pos ⟨hsz, hby, hzc, hnl⟩, if_pos hb']; rfl
                      have := appendT_sim (type := type) (pos := pos) (after := after) (guard := guard) (Q := Q) (hi.putWeak hw) hev
                      rw [hk] at this
                      simpa using this
                    | cons x xs =>
                      have hw : WkT ((e.mapT T.un).get p) (.ow id t'.size (((x :: xs).take hi0).map t'.enc)) := by
                        rw [get_mapT rfl, hget]
                        rintro w F β al v (⟨h0, _⟩ | ⟨_, ha, h1, h2, cap, hv, hr⟩)
                        · cases h0
                        · refine ⟨ha, cap, ?_, ?_⟩
                          · rw [hv]
                            have : ((List.take hi0 (x :: xs)).map t'.enc).length = hi0 := by simp at h2 ⊢; omega
                            rw [this]
                            simp
                          · rw [List.map_take]; exact hr.take hi0
                      have hlt' : p < (e.mapT T.un).tm.length := by simpa [Env.mapT] using hlt
                      have hkov' : killT id ((e.mapT T.un).get p) = .dead := by rw [get_mapT rfl, hget]; simp [T.un, killT]
                      have hk : ((e.mapT T.un).put (some p) (.ow id t'.size (((x :: xs).take hi0).map t'.enc))).kill id = (e.mapT T.un).kill id := kill_put (by simp [killT]) hkov' hlt'
                      have hsu : elemsT (evx G (e.mapT T.un) x1) = some ((y :: ys).map t'.enc) := by
                        rw [evx_un]
                        unfold srcT at hsrc
                        split at hsrc
                        · rename_i heq
                          simp only [Option.some.injEq, Sigma.mk.injEq] at hsrc
                          obtain ⟨rfl, hys⟩ := hsrc
                          cases hys
                          rw [heq]; rfl
                        · rename_i i0 ys0 heq
                          simp only [Option.some.injEq, Sigma.mk.injEq] at hsrc
                          obtain ⟨rfl, hys⟩ := hsrc
                          cases hys
                          rw [heq]; rfl
                        · rename_i i0 xs0 lo0 hi1 heq
                          simp only [Option.some.injEq, Sigma.mk.injEq] at hsrc
                          obtain ⟨rfl, hys⟩ := hsrc
                          rw [heq]
                          simp only [T.un, elemsT]
                          rw [eq_of_heq hys]
                        · cases hsrc
                      have hao : appendOk info z ((y :: ys).map t'.enc) = true := by
                        simp only [appendOk, Bool.and_eq_true, decide_eq_true_eq, beq_iff_eq, List.all_eq_true]
                        refine ⟨⟨?_, hby⟩, hzc⟩
                        intro q hq
                        simp only [List.mem_map] at hq
                        obtain ⟨y, _, rfl⟩ := hq
                        refine ⟨by rw [enc_len]; exact hsz, ?_⟩
                        rw [enc_cells]
                        exact fun y hy => List.all_eq_true.1 (cells_one t' _) y hy
                      have hev : evAppendN P G ((e.mapT T.un).put (some p) (.ow id t'.size (((x :: xs).take hi0).map t'.enc))) (some id) (some d) c =
                          some { (((e.mapT T.un).put (some p) (.ow id t'.size (((x :: xs).take hi0).map t'.enc))).kill id) with tm := (((e.mapT T.un).put (some p) (.ow id t'.size (((x :: xs).take hi0).map t'.enc))).kill id).tm.set d (.ow id t'.size (((x :: xs).take hi0).map t'.enc ++ (y :: ys).map t'.enc)) } := by
                        have hb' : (2 * ((((x :: xs).take hi0).map t'.enc).length + ((y :: ys).map t'.enc).length) + 1024) * info.bytes ≤ 140737488355328 := by simpa using hbound
                        have hsu' : elemsT (evx G ((e.mapT T.un).put (some p) (.ow id t'.size (((x :: xs).take hi0).map t'.enc))) x1) = some ((y :: ys).map t'.enc) := by rw [evx_put_ne hx1p]; exact hsu
                        have hx0 : evx G ((e.mapT T.un).put (some p) (.ow id t'.size (((x :: xs).take hi0).map t'.enc))) (.tmp p) = .ow id t'.size (((x :: xs).take hi0).map t'.enc) := hgp _ _ hlt'
                        simp only [evAppendN, hcal, hargs, htys, hu0', hu1', hinfo', hz, hsu', hao, if_true, hx0]
                        rw [if_pos ⟨hsz, hb', hnl⟩]
                      refine Oper.wp_mono (fun a' w' hh => ?_) (appendN_sim (hi.un.putWeak hw) hev)
                      rw [hk] at hh
                      refine weak_set ?_ hh
                      have : (T.ot id t' ((x :: xs).take hi0 ++ y :: ys)).un = .ow id t'.size (((x :: xs).take hi0).map t'.enc ++ (y :: ys).map t'.enc) := by
                        simp only [T.un, List.map_append]
                        cases hm : ((x :: xs).take hi0).map t'.enc with
                        | nil => rfl
                        | cons _ _ => rfl
                      rw [← this]; exact WkT.ofUn _
                  · cases h
                · cases h
              · cases h
          · cases h
        · cases h
      · cases h
    · cases h
  · cases h
end
end Go.Ve

namespace Go.Ve
open Go

def spliceV (cs : List V) (o : Nat) : List V → List V
  | [] => cs
  | x :: r => spliceV (cs.set o x) (o + 1) r

theorem spliceV_len : ∀ (xs cs : List V) (o : Nat), (spliceV cs o xs).length = cs.length := by
  intro xs
  induction xs with
  | nil => intro cs o; rfl
  | cons x xs ih => intro cs o; simp [spliceV, ih]

theorem spliceV_get : ∀ (xs cs : List V) (o i : Nat), o + xs.length ≤ cs.length → (spliceV cs o xs)[i]? = if o ≤ i ∧ i < o + xs.length then xs[i - o]? else cs[i]? := by
  intro xs
  induction xs with
  | nil => intro cs o i _; simp [spliceV]; intro h1 h2; omega
  | cons x xs ih =>
    intro cs o i h
    simp only [List.length_cons] at h
    simp only [spliceV]
    rw [ih _ _ _ (by simp; omega)]
    by_cases h1 : o + 1 ≤ i ∧ i < o + 1 + xs.length
    · rw [if_pos h1, if_pos (by simp; omega)]
      have : i - o = (i - (o + 1)) + 1 := by omega
      rw [this]; simp
    · rw [if_neg h1]
      by_cases h2 : i = o
      · subst h2
        rw [List.getElem?_set_self (by omega), if_pos (by simp)]
        simp
      · rw [List.getElem?_set_ne (Ne.symm h2), if_neg (by simp; omega)]

def reElem (q : V) (cs : List V) : V :=
  match q with
  | .agg _ => .agg cs
  | _ => match cs with
    | [y] => y
    | _ => q

def updT (id k n : Nat) (q : V) : T → T
  | .ow i k' es => if i = id then (if k' = k then .ow i k (es.set n q) else .dead) else .ow i k' es
  | .oe i k' es j off => if i = id then (if k' = k then .oe i k (es.set n q) j off else .dead) else .oe i k' es j off
  | .ot i t xs => if i = id then .dead else .ot i t xs
  | .oet i t xs j off => if i = id then .dead else .oet i t xs j off
  | .ov i t xs j off => if i = id then .dead else .ov i t xs j off
  | x => x


section
variable {Γ : Sig} {P : Program} {G : Nat → Option (List V)} {S : Specs Γ} {o : Oper} {a : Act} {w0 : World} {F0 : Blk → Prop} {O0 : Lent} {w : World} {e e' : Env Γ.St}

theorem VarRel.mapT {w' : World} {F F' : Blk → Prop} {β β' : Lay} {al al' : Site → Prop} {f : T → T} {b : Nat} {cs : List T} (hb : w'.heap[b]? = w.heap[b]?)
    (hf : ∀ v x, TRel w F β al v x → TRel w' F' β' al' v (f x)) (h : VarRel w F β al b cs) : VarRel w' F' β' al' b (cs.map f) := by
  obtain ⟨c, et, h1, h2, h3⟩ := h
  refine ⟨c, et, hb.trans h1, by simpa using h2, ?_⟩
  intro i x y hi hy
  simp only [List.getElem?_map, Option.map_eq_some_iff] at hy
  obtain ⟨z, hz, rfl⟩ := hy
  exact hf x z (h3 i x z hi hz)

/-- A store into a slice of the frame's own. -/
def evStoreO (P : Look) (e : Env Γ.St) (t : TypeId) (id k : Nat) (es : List V) (i off : Nat) (d : V) : Option (Env Γ.St) :=
  match es[i]? with
  | some q =>
    if size? P t = some d.cells.length ∧ off + d.cells.length ≤ k ∧ d.cells.all V.one = true ∧ q.cells.length = k ∧ (reElem q (spliceV q.cells off d.cells)).cells.length = k ∧
        (q.noAgg = true → d.cells.length = 1 ∧ k = 1) then
      some (e.mapT (updT id k i (reElem q (spliceV q.cells off d.cells))))
    else none
  | none => none

theorem reElem_cells {q d : V} {off k : Nat} (hq : q.cells.length = k) (hone : d.cells.all V.one = true) (hfit : off + d.cells.length ≤ k)
    (hc : q.noAgg = true → d.cells.length = 1 ∧ k = 1) : (reElem q (spliceV q.cells off d.cells)).cells = spliceV q.cells off d.cells := by
  have hl := spliceV_len d.cells q.cells off
  have main : (∀ cs, q ≠ .agg cs) → d.cells.length = 1 ∧ k = 1 → (match spliceV q.cells off d.cells with | [y] => y | _ => q).cells = spliceV q.cells off d.cells := by
    intro hna ⟨h1, hk⟩
    subst hk
    obtain rfl : off = 0 := by omega
    match hd : d.cells, h1 with
    | [y], _ =>
      have hy : y.one = true := by rw [hd] at hone; simpa using hone
      match hqc : q.cells, hq with
      | [z], _ =>
        simp only [spliceV, List.set_cons_zero]
        cases y <;> first | rfl | (simp [V.one] at hy)
  cases q with
  | agg cs => rfl
  | val v => exact main (fun cs h => by cases h) (hc rfl)
  | sl es => exact main (fun cs h => by cases h) (hc rfl)
  | tup vs => exact main (fun cs h => by cases h) (hc rfl)
  | clo f cs => exact main (fun cs h => by cases h) (hc rfl)
  | pp cs => exact main (fun cs h => by cases h) (hc rfl)
  | tl t xs => exact main (fun cs h => by cases h) (hc rfl)
  | rf o => exact main (fun cs h => by cases h) (hc rfl)
  | bot => exact main (fun cs h => by cases h) (hc rfl)

theorem storeO_sim (hi : Inv Γ G w0 F0 O0 a w e) {t : TypeId} {id k i off : Nat} {es : List V} {d : V} {ap xv : Operand} (hp : evx G e ap = .oe id k es i off) (hx : evx G e xv = .p d)
    (h : evStoreO P e t id k es i off d = some e') : ∃ w', (Instr.storeAt t (a.eval ap) (a.eval xv)).run P w = .ok () w' ∧ Inv Γ G w0 F0 O0 a w' e' := by
  obtain ⟨F, O, β, hc, hG, hsz, hdf, ht, hv⟩ := hi
  have hpt := evx_sim hG ht ap
  have hxt := evx_sim hG ht xv
  rw [hp] at hpt
  rw [hx] at hxt
  obtain ⟨ha, hil, cap, hpv, c, et, g1, g2, g3, g4, g5⟩ := hpt
  unfold evStoreO at h
  split at h
  · rename_i q hq
    split at h
    · rename_i hcond
      obtain ⟨hsize, hfit, hone, hqk, hre, hag⟩ := hcond
      simp only [Option.some.injEq] at h
      subst h
      have hrc := reElem_cells hqk hone hfit hag
      obtain ⟨h1, h2, h3⟩ := cellsT_sim (xs := d.cells.map .p) hxt (by simp [T.cellsT, hone])
      simp only [List.length_map] at h1
      have hik : (i + 1) * k ≤ cap * k := Nat.mul_le_mul_right k (by omega)
      rw [Nat.succ_mul] at hik
      have hrun : (Instr.storeAt t (a.eval ap) (a.eval xv)).run P w = .ok () (setBlk w (β.ob id) (.cells (spliceA c (i * k + off) (a.eval xv).cells.toList) et (0, 0))) := by
        have hst := run_storeCells (P := P) (b := β.ob id) (off := i * k + off) (et := et) (a.eval xv).cells.toList 0 w c g1 (by simp [h1]; omega) (fun u hu => h2 u (by simpa using hu))
        have hw : (if (a.eval xv).cells.toList = [] then w else setBlk w (β.ob id) (.cells (spliceA c (i * k + off + 0) (a.eval xv).cells.toList) et (0, 0))) = setBlk w (β.ob id) (.cells (spliceA c (i * k + off) (a.eval xv).cells.toList) et (0, 0)) := by
          split
          · rename_i hnil; rw [hnil]; exact (setBlk_self g1).symm
          · simp
        rw [hw] at hst
        simp only [Instr.storeAt, hpv, Instr.sureAddr, Sem.run_bind, Sem.run_pure, Result.andThen_ok, storeVar, run_sizeOf hsize, h1, ne_eq, not_true, if_false]
        exact hst
      refine ⟨_, hrun, ?_⟩
      obtain ⟨p1, p2, p3, p4⟩ := hc.place (.o id) ha
      have hFne : ∀ b' : Nat, F b' → b' ≠ β.ob id := fun b' hb hh => p3 (by rw [hh] at hb; exact hb)
      have hvne : ∀ s, alive e (.v s) → β.vb s ≠ β.ob id := fun s hs hh => by
        have := hc.dist (.v s) (.o id) hs ha hh
        cases this
      have hone' : ∀ id', id' ≠ id → alive e (.o id') → β.ob id' ≠ β.ob id := fun id' hne hs hh => by
        have := hc.dist (.o id') (.o id) hs ha hh
        simp at this; exact hne this
      have hrow : ∀ es0 cap', RowRel w F (β.ob id) k cap' es0 → RowRel (setBlk w (β.ob id) (.cells (spliceA c (i * k + off) (a.eval xv).cells.toList) et (0, 0))) F (β.ob id) k cap' (es0.set i (reElem q (spliceV q.cells off d.cells))) := by
        intro es0 cap' hr0
        obtain ⟨c', et', q1, q2, q3, q4, q5⟩ := hr0
        rw [g1] at q1
        simp only [Option.some.injEq, Obj.cells.injEq] at q1
        obtain ⟨rfl, _, _⟩ := q1
        refine ⟨_, et, setBlk_eq p2, by rw [spliceA_size]; exact q2, by simpa using q3, ?_, ?_⟩
        · intro y hy
          rcases List.mem_or_eq_of_mem_set hy with h | h
          · exact q4 y h
          · rw [h]; exact hre
        · intro i' j y d' x hi' hj hx
          have hj' := (List.getElem?_eq_some_iff.1 hj).1
          rw [spliceA_get _ _ _ _ (by simp [h1]; omega)] at hx
          simp only [Array.length_toList, h1] at hx
          by_cases hii : i = i'
          · subst hii
            have hil0 : i < es0.length := by have := (List.getElem?_eq_some_iff.1 hi').1; simpa using this
            rw [List.getElem?_set_self hil0, Option.some.injEq] at hi'
            subst hi'
            rw [hrc] at hj hj'
            rw [spliceV_get _ _ _ _ (by omega)] at hj
            rw [spliceV_len] at hj'
            by_cases hin : off ≤ j ∧ j < off + d.cells.length
            · rw [if_pos hin] at hj
              rw [if_pos (by omega)] at hx
              have := h3 (j - off) x (.p d') (by rw [show j - off = i * k + j - (i * k + off) by omega]; simpa using hx) (by simp [hj])
              exact Rd.setBlk hFne this
            · rw [if_neg hin] at hj
              rw [if_neg (by omega)] at hx
              exact Rd.setBlk hFne (g5 i j q d' x hq hj hx)
          · rw [List.getElem?_set_ne hii] at hi'
            have hyk := q4 y (List.mem_of_getElem? hi')
            have hout : ¬ (i * k + off ≤ i' * k + j ∧ i' * k + j < i * k + off + d.cells.length) := by
              intro hh
              rcases Nat.lt_or_ge i i' with h | h
              · have := Nat.mul_le_mul_right k (show i + 1 ≤ i' by omega)
                rw [Nat.succ_mul] at this; omega
              · have := Nat.mul_le_mul_right k (show i' + 1 ≤ i by omega)
                rw [Nat.succ_mul] at this; omega
            rw [if_neg hout] at hx
            exact Rd.setBlk hFne (q5 i' j y d' x hi' hj hx)
      have hf : ∀ v x, TRel w F β (alive e) v x → TRel (setBlk w (β.ob id) (.cells (spliceA c (i * k + off) (a.eval xv).cells.toList) et (0, 0))) F β (alive e) v (updT id k i (reElem q (spliceV q.cells off d.cells)) x) := by
        intro v x hx
        cases x with
        | p y => exact Rd.setBlk hFne hx
        | ow id' k' es0 =>
          simp only [updT]
          obtain ⟨ha', cap', hv', hr'⟩ := hx
          split
          · rename_i hid
            subst hid
            split
            · rename_i hke
              subst hke
              exact ⟨ha', cap', by simpa using hv', hrow es0 cap' hr'⟩
            · trivial
          · rename_i hid
            exact ⟨ha', cap', hv', hr'.setBlk hFne (hone' id' hid ha')⟩
        | oe id' k' es0 j off' =>
          simp only [updT]
          obtain ⟨ha', hj', cap', hv', hr'⟩ := hx
          split
          · rename_i hid
            subst hid
            split
            · rename_i hke
              subst hke
              exact ⟨ha', by simpa using hj', cap', hv', hrow es0 cap' hr'⟩
            · trivial
          · rename_i hid
            exact ⟨ha', hj', cap', hv', hr'.setBlk hFne (hone' id' hid ha')⟩
        | lp s off' => exact hx
        | mp id' es' ck =>
          obtain ⟨ha', hv', hr'⟩ := hx
          by_cases hid : id' = id
          · subst hid; rw [g1] at hr'; cases hr'
          · exact ⟨ha', hv', (setBlk_ne (hone' id' hid ha')).trans hr'⟩
        | ot id' t' xs' =>
          simp only [updT]
          split
          · trivial
          · rename_i hid
            rcases hx with hx | ⟨hne, ha', cap', hv', hr'⟩
            · exact .inl hx
            · exact .inr ⟨hne, ha', cap', hv', hr'.setBlk hFne (hone' id' hid ha')⟩
        | oet id' t' xs' j off' =>
          simp only [updT]
          split
          · trivial
          · rename_i hid
            obtain ⟨ha', hj', cap', hv', hr'⟩ := hx
            exact ⟨ha', hj', cap', hv', hr'.setBlk hFne (hone' id' hid ha')⟩
        | ov id' t' xs' lo' hi' =>
          simp only [updT]
          split
          · trivial
          · rename_i hid
            rcases hx with hx | ⟨hne, ha', q1, q2, cap', hv', hr'⟩
            · exact .inl hx
            · exact .inr ⟨hne, ha', q1, q2, cap', hv', hr'.setBlk hFne (hone' id' hid ha')⟩
        | emp => exact hx
        | dead => trivial
      refine Inv.of (al := alive e) (hc.setBlk ha _ (fun c' et' fl' hh => by rw [show w.heap[β.blk (.o id)]? = _ from g1] at hh; simp only [Option.some.injEq, Obj.cells.injEq] at hh; exact ⟨_, _, _, rfl, by rw [spliceA_size, hh.1]⟩)) (fun g cs hg => (hG g cs hg).setBlk hFne) (by simpa [Env.mapT] using hsz) hdf (fun t => by rw [get_mapT rfl]; exact hf _ _ (ht t)) ?_ ?_
      · intro s cs hcs
        rw [var_mapT] at hcs
        simp only [Option.map_eq_some_iff] at hcs
        obtain ⟨cs0, hcs0, rfl⟩ := hcs
        have ha' : alive e (.v s) := ⟨cs0, hcs0⟩
        exact ⟨ha', (hv s cs0 hcs0).mapT (setBlk_ne (hvne s ha')) hf⟩
      · rintro s ⟨cs, hcs⟩
        exact ⟨_, by rw [var_mapT, hcs]; rfl⟩
    · cases h
  · cases h

/-- A typed element behind a store into it. -/
def newEl (ty : Ty) (x : ty.El) (off : Nat) (d : V) : Option ty.El :=
  match ty.uncells (spliceV (ty.cells x) off d.cells) with
  | some (y, []) => some y
  | _ => none

def Ty.aggT : Ty → Bool
  | .pair _ _ | .unit => true
  | _ => false

def updTT (id : Nat) (ty : Ty) (n : Nat) (x : ty.El) : T → T
  | .ow i k es => if i = id then .dead else .ow i k es
  | .oe i k es j off => if i = id then .dead else .oe i k es j off
  | .ot i t ys => if i = id then (if h : t = ty then .ot i ty ((h ▸ ys).set n x) else .dead) else .ot i t ys
  | .oet i t ys j off => if i = id then (if h : t = ty then .oet i ty ((h ▸ ys).set n x) j off else .dead) else .oet i t ys j off
  | .ov i t xs j off => if i = id then .dead else .ov i t xs j off
  | y => y

/-- A store into a typed slice of the frame's own. -/
def evStoreT (P : Look) (e : Env Γ.St) (t : TypeId) (id : Nat) (ty : Ty) (xs : List ty.El) (i off : Nat) (d : V) : Option (Env Γ.St) :=
  if size? P t = some d.cells.length ∧ off + d.cells.length ≤ ty.size ∧ d.cells.all V.one = true ∧ (ty.aggT = false → d.cells.length = 1 ∧ ty.size = 1) then
    match xs[i]? with
    | some x => match newEl ty x off d with
      | some y => some (e.mapT (updTT id ty i y))
      | none => none
    | none => none
  else none

theorem WkVs.set : ∀ {xs ys : List V} (_ : WkVs xs ys) {a b : V} (_ : WkV a b) (n : Nat), WkVs (xs.set n a) (ys.set n b)
  | [], [], _, _, _, _, _ => trivial
  | x :: xs, y :: ys, h, a, b, hab, n => by
    cases n with
    | zero => exact ⟨hab, h.2⟩
    | succ n => exact ⟨h.1, WkVs.set h.2 hab n⟩

theorem WkVs.splice : ∀ {ds ds' : List V} (_ : WkVs ds ds') {cs cs' : List V} (_ : WkVs cs cs') (o : Nat), WkVs (spliceV cs o ds) (spliceV cs' o ds')
  | [], [], _, _, _, h, _ => h
  | x :: ds, y :: ds', hd, cs, cs', h, o => WkVs.splice hd.2 (h.set hd.1 o) (o + 1)

theorem WkV.trans {x y z : V} (h : WkV x y) (k : WkV y z) : WkV x z := fun w F v hh => k w F v (h w F v hh)

theorem WkVs.trans : ∀ {xs ys zs : List V} (_ : WkVs xs ys) (_ : WkVs ys zs), WkVs xs zs
  | [], [], [], _, _ => trivial
  | _ :: _, _ :: _, _ :: _, h, k => ⟨h.1.trans k.1, WkVs.trans h.2 k.2⟩

def V.un : V → V
  | .tl t xs => .sl (xs.map t.enc)
  | d => d

theorem un_cells (d : V) : WkVs d.un.cells d.cells ∧ d.un.cells.length = d.cells.length ∧ d.un.cells.all V.one = d.cells.all V.one := by
  cases d with
  | tl t xs => exact ⟨⟨fun w F v h => .tl t xs v h, trivial⟩, rfl, rfl⟩
  | _ => exact ⟨.refl _, rfl, rfl⟩

theorem un_p (d : V) : (T.p d).un = .p d.un := by cases d <;> rfl

theorem storeT_sim (hi : Inv Γ G w0 F0 O0 a w e) {t : TypeId} {id : Nat} {ty : Ty} {xs : List ty.El} {i off : Nat} {d : V} {ap xv : Operand} (hp : evx G e ap = .oet id ty xs i off) (hx : evx G e xv = .p d)
    (h : evStoreT P e t id ty xs i off d = some e') : ∃ w', (Instr.storeAt t (a.eval ap) (a.eval xv)).run P w = .ok () w' ∧ Inv Γ G w0 F0 O0 a w' e' := by
  unfold evStoreT at h
  split at h
  · rename_i hcond
    obtain ⟨hs, hfit, hone, hag⟩ := hcond
    split at h
    · rename_i x hxi
      split at h
      · rename_i y hy
        simp only [Option.some.injEq] at h
        subst h
        have hq : (xs.map ty.enc)[i]? = some (ty.enc x) := by simp [hxi]
        have hne : ((ty.enc x).noAgg = true → d.cells.length = 1 ∧ ty.size = 1) := by
          intro hh
          refine hag ?_
          cases ty <;> first | rfl | (simp [Ty.enc, V.noAgg] at hh)
        obtain ⟨u1, u2, u3⟩ := un_cells d
        rw [← u2] at hs hfit hne
        rw [← u3] at hone
        have hrc := reElem_cells (q := ty.enc x) (d := d.un) (off := off) (k := ty.size) (enc_len ty x) hone hfit hne
        have hev : evStoreO P (e.mapT T.un) t id ty.size (xs.map ty.enc) i off d.un = some ((e.mapT T.un).mapT (updT id ty.size i (reElem (ty.enc x) (spliceV (ty.enc x).cells off d.un.cells)))) := by
          simp only [evStoreO, hq]
          rw [if_pos]
          exact ⟨hs, hfit, hone, enc_len ty x, by rw [hrc, spliceV_len, enc_len], hne⟩
        obtain ⟨w', h1, h2⟩ := storeO_sim (P := P) hi.un (ap := ap) (xv := xv) (by rw [evx_un, hp]; rfl) (by rw [evx_un, hx, un_p]) hev
        refine ⟨w', h1, ?_⟩
        have hcy : WkVs (reElem (ty.enc x) (spliceV (ty.enc x).cells off d.un.cells)).cells (ty.enc y).cells := by
          rw [hrc, enc_cells, enc_cells]
          unfold newEl at hy
          split at hy
          · rename_i y' hy'
            simp only [Option.some.injEq] at hy
            subst hy
            obtain ⟨c1, e1, e2⟩ := uncells_sound ty _ y' [] hy'
            simp only [List.append_nil] at e1
            exact (WkVs.splice u1 (.refl _) off).trans (by rw [e1]; exact e2)
          · cases hy
        have hset : ∀ (ys : List ty.El) (F : Blk → Prop) (b cap : Nat) (w : World), RowRel w F b ty.size cap ((ys.map ty.enc).set i (reElem (ty.enc x) (spliceV (ty.enc x).cells off d.un.cells))) → RowRel w F b ty.size cap ((ys.set i y).map ty.enc) := by
          intro ys F b cap w hr
          refine hr.weak (by simp) ?_ ?_
          · intro q hq
            simp only [List.mem_map] at hq
            obtain ⟨z, _, rfl⟩ := hq
            exact enc_len ty z
          · intro m p q hp hq
            rw [List.map_set] at hq
            by_cases hm : i = m
            · subst hm
              have hlt : i < ys.length := by have := (List.getElem?_eq_some_iff.1 hq).1; simpa using this
              rw [List.getElem?_set_self (by simpa using hlt)] at hp hq
              simp only [Option.some.injEq] at hp hq
              subst hp hq
              exact hcy
            · rw [List.getElem?_set_ne hm] at hp hq
              rw [hp] at hq
              simp only [Option.some.injEq] at hq
              subst hq
              exact .refl _
        have hT : ∀ z : T, WkT (updT id ty.size i (reElem (ty.enc x) (spliceV (ty.enc x).cells off d.un.cells)) z.un) (updTT id ty i y z) := by
          intro z
          cases z with
          | p q =>
            cases q with
            | tl t xs => exact WkT.ofUn (.p (.tl t xs))
            | _ => exact .refl _
          | ow i0 k0 es0 =>
            simp only [T.un, updT, updTT]
            split
            · exact .dead _
            · exact .refl _
          | oe i0 k0 es0 j0 off0 =>
            simp only [T.un, updT, updTT]
            split
            · exact .dead _
            · exact .refl _
          | ot i0 t0 ys =>
            simp only [updTT]
            split
            · rename_i hid
              split
              · rename_i htt
                subst htt
                cases ys with
                | nil => exact fun w F β al v hh => .inl ⟨rfl, hh⟩
                | cons z zs =>
                  intro w F β al v hh
                  simp only [T.un, List.map_cons, updT, hid, if_true] at hh
                  obtain ⟨ha, cap, hv, hr⟩ := hh
                  have hr' := hset (z :: zs) F _ cap w hr
                  refine .inr ⟨by simp, by rw [hid]; exact ha, cap, by rw [hid]; simpa using hv, by rw [hid]; exact hr'⟩
              · exact .dead _
            · rename_i hid
              cases ys with
              | nil => exact WkT.ofUn (.ot i0 t0 [])
              | cons z zs =>
                simp only [T.un, List.map_cons, updT, if_neg hid]
                exact WkT.ofUn (.ot i0 t0 (z :: zs))
          | oet i0 t0 ys j0 off0 =>
            simp only [updTT]
            split
            · rename_i hid
              split
              · rename_i htt
                subst htt
                intro w F β al v hh
                simp only [T.un, updT, hid, if_true] at hh
                obtain ⟨ha, hj, cap, hv, hr⟩ := hh
                refine ⟨by rw [hid]; exact ha, by simpa using hj, cap, by rw [hid]; exact hv, by rw [hid]; exact hset ys F _ cap w hr⟩
              · exact .dead _
            · rename_i hid
              simp only [T.un, updT, if_neg hid]
              exact WkT.ofUn (.oet i0 t0 ys j0 off0)
          | ov i0 t0 ys j0 off0 =>
            simp only [T.un, updT, updTT]
            exact .refl _
          | _ => exact .refl _
        refine h2.weak (by simp [Env.mapT]) rfl (fun t => by rw [get_mapT rfl, get_mapT rfl, get_mapT rfl]; exact hT _) ?_
        intro s
        rw [var_mapT, var_mapT, var_mapT]
        cases e.var s with
        | none => trivial
        | some cs =>
          simp only [Option.map_some, List.map_map]
          exact WkTs.map (fun z => hT z) cs
      · cases h
    · cases h
  · cases h

def updM (id : Nat) (es' : List MapEntry) (ck' : Nat) : T → T
  | .mp i es ck => if i = id then .mp i es' ck' else .mp i es ck
  | x => x

/-- An update of a map of the frame's own. -/
def evUpd (P : Look) (e : Env Γ.St) (t : TypeId) (id : Nat) (es : List MapEntry) (ck : Nat) (k v : Value) : Option (Env Γ.St) :=
  match pureIn P.P (updIn t es ck k v) with
  | some (es', ck') => some (e.mapT (updM id es' ck'))
  | none => none

theorem run_mapUpdate {t : TypeId} {b : Nat} {es es' : List MapEntry} {ck ck' : Nat} {k v : Value} (hm : w.heap[b]? = some (.map es.toArray ck))
    (h : pureIn P (updIn t es ck k v) = some (es', ck')) : (Instr.mapUpdate t (.map (some b)) k v).run P w = .ok () (setBlk w b (.map es'.toArray ck')) := by
  have hlt := lt_of_block hm
  have hg : (getObj b).run P w = .ok (.map es.toArray ck) w := by simp [getObj, Sem.run, hm]
  have hset : ∀ ob, (setObj b ob).run P w = .ok () (setBlk w b ob) := by intro ob; simp [setObj, Sem.run, hm, setBlk]
  obtain ⟨d, h1, h⟩ := pureIn_bind h
  have h1 := pureIn_run h1 w
  split at h
  · rename_i keyType elem
    obtain ⟨u, h2, h⟩ := pureIn_bind h
    obtain ⟨r, h3, h⟩ := pureIn_bind h
    have h2 := pureIn_run h2 w
    have h3 := pureIn_run h3 w
    split at h
    · rename_i i v0
      obtain ⟨key, h4, h⟩ := pureIn_bind h
      have h4 := pureIn_run h4 w
      simp only [pureIn, pure, Option.some.injEq, Prod.mk.injEq] at h
      obtain ⟨rfl, rfl⟩ := h
      simp only [Instr.mapUpdate, Sem.run_bind, h1, Result.andThen_ok, hg, h2, h3]
      simp only [List.getElem?_toArray, h4, Result.andThen_ok, hset]
      congr 2
      simp
    · simp only [pureIn, pure, Option.some.injEq, Prod.mk.injEq] at h
      obtain ⟨rfl, rfl⟩ := h
      simp only [Instr.mapUpdate, Sem.run_bind, h1, Result.andThen_ok, hg, h2, h3, hset]
      congr 2
      simp
  · cases h

theorem upd_sim (hi : Inv Γ G w0 F0 O0 a w e) {t : TypeId} {id : Nat} {es : List MapEntry} {ck : Nat} {m kx vx : Operand} {k v : Value} (hm : evx G e m = .mp id es ck)
    (hk : flatT (evx G e kx) = some k) (hx : flatT (evx G e vx) = some v)
    (h : evUpd P e t id es ck k v = some e') : ∃ w', (Instr.mapUpdate t (a.eval m) (a.eval kx) (a.eval vx)).run P w = .ok () w' ∧ Inv Γ G w0 F0 O0 a w' e' := by
  obtain ⟨F, O, β, hc, hG, hsz, hdf, ht, hv⟩ := hi
  have hmt := evx_sim hG ht m
  rw [hm] at hmt
  have hkt := flatT_eq (evx_sim hG ht kx) hk
  have hxt := flatT_eq (evx_sim hG ht vx) hx
  obtain ⟨ha, hmv, hblk⟩ := hmt
  unfold evUpd at h
  split at h
  · rename_i es' ck' hp
    simp only [Option.some.injEq] at h
    subst h
    refine ⟨_, by rw [hmv, hkt, hxt]; exact run_mapUpdate hblk hp, ?_⟩
    obtain ⟨p1, p2, p3, p4⟩ := hc.place (.o id) ha
    have hFne : ∀ b' : Nat, F b' → b' ≠ β.ob id := fun b' hb hh => p3 (by rw [hh] at hb; exact hb)
    have hvne : ∀ s, alive e (.v s) → β.vb s ≠ β.ob id := fun s hs hh => by
      have := hc.dist (.v s) (.o id) hs ha hh
      cases this
    have hone' : ∀ id', id' ≠ id → alive e (.o id') → β.ob id' ≠ β.ob id := fun id' hne hs hh => by
      have := hc.dist (.o id') (.o id) hs ha hh
      simp at this; exact hne this
    have hf : ∀ v x, TRel w F β (alive e) v x → TRel (setBlk w (β.ob id) (.map es'.toArray ck')) F β (alive e) v (updM id es' ck' x) := by
      intro v x hx
      cases x with
      | p y => exact Rd.setBlk hFne hx
      | ow id' k' es0 =>
        obtain ⟨ha', cap', hv', hr'⟩ := hx
        by_cases hid : id' = id
        · subst hid; obtain ⟨c, et, q1, _⟩ := hr'; rw [hblk] at q1; cases q1
        · exact ⟨ha', cap', hv', hr'.setBlk hFne (hone' id' hid ha')⟩
      | oe id' k' es0 j off' =>
        obtain ⟨ha', hj', cap', hv', hr'⟩ := hx
        by_cases hid : id' = id
        · subst hid; obtain ⟨c, et, q1, _⟩ := hr'; rw [hblk] at q1; cases q1
        · exact ⟨ha', hj', cap', hv', hr'.setBlk hFne (hone' id' hid ha')⟩
      | lp s off' => exact hx
      | mp id' es0 ck0 =>
        obtain ⟨ha', hv', hr'⟩ := hx
        simp only [updM]
        split
        · rename_i hid
          subst hid
          exact ⟨ha', hv', setBlk_eq p2⟩
        · rename_i hid
          exact ⟨ha', hv', (setBlk_ne (hone' id' hid ha')).trans hr'⟩
      | ot id' t' xs' =>
        rcases hx with hx | ⟨hne, ha', cap', hv', hr'⟩
        · exact .inl hx
        · by_cases hid : id' = id
          · subst hid; obtain ⟨c, et, q1, _⟩ := hr'; rw [hblk] at q1; cases q1
          · exact .inr ⟨hne, ha', cap', hv', hr'.setBlk hFne (hone' id' hid ha')⟩
      | oet id' t' xs' j off' =>
        obtain ⟨ha', hj', cap', hv', hr'⟩ := hx
        by_cases hid : id' = id
        · subst hid; obtain ⟨c, et, q1, _⟩ := hr'; rw [hblk] at q1; cases q1
        · exact ⟨ha', hj', cap', hv', hr'.setBlk hFne (hone' id' hid ha')⟩
      | ov id' t' xs' lo' hi' =>
        rcases hx with hx | ⟨hne, ha', k1, k2, cap', hv', hr'⟩
        · exact .inl hx
        · by_cases hid : id' = id
          · subst hid; obtain ⟨c, et, q1, _⟩ := hr'; rw [hblk] at q1; cases q1
          · exact .inr ⟨hne, ha', k1, k2, cap', hv', hr'.setBlk hFne (hone' id' hid ha')⟩
      | emp => exact hx
      | dead => trivial
    refine Inv.of (al := alive e) (hc.setBlk ha _ (fun c' et' fl' hh => by rw [show w.heap[β.blk (.o id)]? = _ from hblk] at hh; cases hh)) (fun g cs hg => (hG g cs hg).setBlk hFne) (by simpa [Env.mapT] using hsz) hdf (fun t => by rw [get_mapT rfl]; exact hf _ _ (ht t)) ?_ ?_
    · intro s cs hcs
      rw [var_mapT] at hcs
      simp only [Option.map_eq_some_iff] at hcs
      obtain ⟨cs0, hcs0, rfl⟩ := hcs
      have ha' : alive e (.v s) := ⟨cs0, hcs0⟩
      exact ⟨ha', (hv s cs0 hcs0).mapT (setBlk_ne (hvne s ha')) hf⟩
    · rintro s ⟨cs, hcs⟩
      exact ⟨_, by rw [var_mapT, hcs]; rfl⟩
  · cases h

/-- A slice of the frame's own stays as it is from now on. -/
def frzOT (id : Nat) : T → T
  | .ow i k es => if i = id then .p (.sl es) else .ow i k es
  | .oe i k es j off => if i = id then (match es[j]? with | some q => .p (.pp (q.cells.drop off)) | none => .dead) else .oe i k es j off
  | .mp i es ck => if i = id then .dead else .mp i es ck
  | .ot i t xs => if i = id then .p (.tl t xs) else .ot i t xs
  | .oet i t xs j off => if i = id then .dead else .oet i t xs j off
  | .ov i t xs j off => if i = id then .dead else .ov i t xs j off
  | x => x

theorem Inv.frzO (hi : Inv Γ G w0 F0 O0 a w e) {id : Nat} (hidl : id ≠ lentId) : Inv Γ G w0 F0 O0 a w (e.mapT (frzOT id)) := by
  obtain ⟨F, O, β, hc, hG, hsz, hdf, ht, hv⟩ := hi
  by_cases ha : alive e (.o id)
  · obtain ⟨p1, p2, p3, p4⟩ := hc.place (.o id) ha
    let F' : Blk → Prop := fun b => F b ∨ b = β.ob id
    let al' : Site → Prop := fun x => alive e x ∧ x ≠ .o id
    have hcore : Core Γ w0 F0 O0 w F' O β al' e.st := by
      refine ⟨hc.keep, Γ.mono hc.sig addB_h (fun _ _ => rfl), hc.oin, ?_, fun b hb => .inl (hc.f0 b hb), ?_, fun x y hx hy => hc.dist x y hx.1 hy.1, hc.lent.step (fun b n _ hb ho hf => ⟨rfl, ho, fun h => h.elim hf (fun h => by have h1 := blk_eq h; have h2 : w0.heap.size ≤ β.ob id := p1.o hidl; omega)⟩)⟩
      · rintro b (hb | hb)
        · exact hc.fin b hb
        · have hb := blk_eq hb; subst hb; exact ⟨.inr (p1.o hidl), p2, p4⟩
      · intro x hx
        obtain ⟨q1, q2, q3, q4⟩ := hc.place x hx.1
        refine ⟨q1, q2, fun hh => hh.elim q3 (fun hh => hx.2 (hc.dist x (.o id) hx.1 ha (blk_eq hh))), q4⟩
    have hext : Ext w F β al' w F' β al' := ⟨fun _ h => .inl h, fun _ _ => rfl, fun _ h => h, fun _ _ => rfl, fun _ _ => rfl⟩
    have hf : ∀ v x, TRel w F β (alive e) v x → TRel w F' β al' v (frzOT id x) := by
      intro v x hx
      cases x with
      | p y => exact Rd.ext hext hx
      | ow i k es =>
        simp only [frzOT]
        obtain ⟨ha', cap, hv', hr⟩ := hx
        split
        · rename_i hid
          subst hid
          rw [hv']
          exact Row_rd hr (fun b hb => .inl hb) (.inr rfl)
        · rename_i hid
          exact TRel.ext hext (show TRel w F β al' v (.ow i k es) from ⟨⟨ha', by simpa using hid⟩, cap, hv', hr⟩)
      | oe i k es j off =>
        simp only [frzOT]
        obtain ⟨ha', hj, cap, hv', hr⟩ := hx
        split
        · rename_i hid
          subst hid
          split
          · rename_i q hq
            obtain ⟨c, et, g1, g2, g3, g4, g5⟩ := hr
            have hqk := g4 q (List.mem_of_getElem? hq)
            have hjk : (j + 1) * k ≤ cap * k := Nat.mul_le_mul_right k (by omega)
            rw [Nat.succ_mul] at hjk
            rw [hv']
            refine Rd.pp (β.ob i) (j * k + off) _ (fun m => (c[j * k + (off + m)]?).getD undef) (.inr rfl) ?_ ?_
            · intro m hm
              simp only [List.length_drop, hqk] at hm
              have hlt : j * k + (off + m) < c.size := by omega
              have he : j * k + off + m = j * k + (off + m) := by omega
              simp [World.cell?, g1, he, hlt]
            · intro m d hd
              rw [List.getElem?_drop] at hd
              have hlt2 := (List.getElem?_eq_some_iff.1 hd).1
              have hlt : j * k + (off + m) < c.size := by omega
              exact Rd.ext hext (g5 j (off + m) q d _ hq hd (by simp [hlt]))
          · trivial
        · rename_i hid
          exact TRel.ext hext (show TRel w F β al' v (.oe i k es j off) from ⟨⟨ha', by simpa using hid⟩, hj, cap, hv', hr⟩)
      | lp s off => exact ⟨⟨hx.1, by simp⟩, hx.2⟩
      | mp i es' ck =>
        simp only [frzOT]
        split
        · trivial
        · rename_i hid
          exact TRel.ext hext (show TRel w F β al' v (.mp i es' ck) from ⟨⟨hx.1, by simpa using hid⟩, hx.2⟩)
      | ot i t xs =>
        simp only [frzOT]
        split
        · rename_i hid
          subst hid
          refine .tl t xs v ?_
          rcases hx with ⟨h0, a0, rfl⟩ | ⟨hne, ha', cap, rfl, hr⟩
          · rw [h0]; exact .slemp a0 0
          · exact Row_rd (hr.mono hext.f hext.hf rfl) (fun _ h => h) (.inr rfl)
        · rename_i hid
          rcases hx with hx | ⟨hne, ha', cap, hv', hr⟩
          · exact .inl hx
          · exact TRel.ext hext (show TRel w F β al' v (.ot i t xs) from .inr ⟨hne, ⟨ha', by simpa using hid⟩, cap, hv', hr⟩)
      | oet i t xs j off =>
        simp only [frzOT]
        split
        · trivial
        · rename_i hid
          obtain ⟨ha', hj, cap, hv', hr⟩ := hx
          exact TRel.ext hext (show TRel w F β al' v (.oet i t xs j off) from ⟨⟨ha', by simpa using hid⟩, hj, cap, hv', hr⟩)
      | ov i t xs lo hi =>
        simp only [frzOT]
        split
        · trivial
        · rename_i hid
          rcases hx with hx | ⟨hne, ha', k1, k2, cap, hv', hr⟩
          · exact .inl hx
          · exact TRel.ext hext (show TRel w F β al' v (.ov i t xs lo hi) from .inr ⟨hne, ⟨ha', by simpa using hid⟩, k1, k2, cap, hv', hr⟩)
      | emp => exact hx
      | dead => trivial
    refine Inv.of (al := al') hcore (hG.ext hext) (by simpa [Env.mapT] using hsz) hdf (fun t => by rw [get_mapT rfl]; exact hf _ _ (ht t)) ?_ ?_
    · intro s cs hcs
      rw [var_mapT] at hcs
      simp only [Option.map_eq_some_iff] at hcs
      obtain ⟨cs0, hcs0, rfl⟩ := hcs
      exact ⟨⟨⟨cs0, hcs0⟩, by simp⟩, (hv s cs0 hcs0).mapT rfl hf⟩
    · rintro s ⟨⟨cs, hcs⟩, _⟩
      exact ⟨_, by rw [var_mapT, hcs]; rfl⟩
  · have hf : ∀ v x, TRel w F β (alive e) v x → TRel w F β (alive e) v (frzOT id x) := by
      intro v x hx
      cases x with
      | ow i k es =>
        simp only [frzOT]
        split
        · rename_i hid; subst hid; exact absurd hx.1 ha
        · exact hx
      | oe i k es j off =>
        simp only [frzOT]
        split
        · rename_i hid; subst hid; exact absurd hx.1 ha
        · exact hx
      | mp i es ck =>
        simp only [frzOT]
        split
        · trivial
        · exact hx
      | ot i t xs =>
        simp only [frzOT]
        split
        · rename_i hid
          subst hid
          rcases hx with ⟨h0, a0, rfl⟩ | ⟨hne, ha', _⟩
          · exact .tl t xs _ (by rw [h0]; exact .slemp a0 0)
          · exact absurd ha' ha
        · exact hx
      | oet i t xs j off =>
        simp only [frzOT]
        split
        · trivial
        · exact hx
      | ov i t xs lo hi =>
        simp only [frzOT]
        split
        · trivial
        · exact hx
      | _ => exact hx
    refine Inv.of (al := alive e) hc hG (by simpa [Env.mapT] using hsz) hdf (fun t => by rw [get_mapT rfl]; exact hf _ _ (ht t)) ?_ ?_
    · intro s cs hcs
      rw [var_mapT] at hcs
      simp only [Option.map_eq_some_iff] at hcs
      obtain ⟨cs0, hcs0, rfl⟩ := hcs
      exact ⟨⟨cs0, hcs0⟩, (hv s cs0 hcs0).mapT rfl hf⟩
    · rintro s ⟨cs, hcs⟩
      exact ⟨_, by rw [var_mapT, hcs]; rfl⟩

/-- A variable of the frame's own stays as it is from now on. -/
def frzVT (s : Nat) (ds : List V) : T → T
  | .lp s' off => if s' = s then .p (.pp (ds.drop off)) else .lp s' off
  | x => x

def Env.frzV (s : Nat) (ds : List V) (e : Env Γ.St) : Env Γ.St := ({ e with vars := e.vars.set s none } : Env Γ.St).mapT (frzVT s ds)

theorem drop_pure {cs : List T} {ds : List V} (h : pureCells cs = some ds) (off : Nat) : pureCells (cs.drop off) = some (ds.drop off) := by
  have := pureCells_get h
  subst this
  have hall : ∀ ds : List V, pureCells (ds.map .p) = some ds := by
    intro ds
    induction ds with
    | nil => rfl
    | cons d ds ih => simp [pureCells, ih]
  rw [← List.map_drop]; exact hall _

theorem Inv.frzV (hi : Inv Γ G w0 F0 O0 a w e) {s : Nat} {cs : List T} {ds : List V} (hs : e.var s = some cs) (hp : pureCells cs = some ds) : Inv Γ G w0 F0 O0 a w (e.frzV s ds) := by
  obtain ⟨F, O, β, hc, hG, hsz, hdf, ht, hv⟩ := hi
  have ha : alive e (.v s) := ⟨cs, hs⟩
  obtain ⟨p1, p2, p3, p4⟩ := hc.place (.v s) ha
  let F' : Blk → Prop := fun b => F b ∨ b = β.vb s
  let al' : Site → Prop := fun x => alive e x ∧ x ≠ .v s
  have hcore : Core Γ w0 F0 O0 w F' O β al' e.st := by
    refine ⟨hc.keep, Γ.mono hc.sig addB_h (fun _ _ => rfl), hc.oin, ?_, fun b hb => .inl (hc.f0 b hb), ?_, fun x y hx hy => hc.dist x y hx.1 hy.1, hc.lent.step (fun b n _ hb ho hf => ⟨rfl, ho, fun h => h.elim hf (fun h => by have h1 := blk_eq h; have h2 : w0.heap.size ≤ β.vb s := p1.v; omega)⟩)⟩
    · rintro b (hb | hb)
      · exact hc.fin b hb
      · have hb := blk_eq hb; subst hb; exact ⟨.inr p1.v, p2, p4⟩
    · intro x hx
      obtain ⟨q1, q2, q3, q4⟩ := hc.place x hx.1
      refine ⟨q1, q2, fun hh => hh.elim q3 (fun hh => hx.2 (hc.dist x (.v s) hx.1 ha (blk_eq hh))), q4⟩
  have hext : Ext w F β al' w F' β al' := ⟨fun _ h => .inl h, fun _ _ => rfl, fun _ h => h, fun _ _ => rfl, fun _ _ => rfl⟩
  have hf : ∀ v x, TRel w F β (alive e) v x → TRel w F' β al' v (frzVT s ds x) := by
    intro v x hx
    cases x with
    | p y => exact Rd.ext hext hx
    | ow i k es => exact TRel.ext hext (show TRel w F β al' v (.ow i k es) from ⟨⟨hx.1, by simp⟩, hx.2⟩)
    | oe i k es j off => exact TRel.ext hext (show TRel w F β al' v (.oe i k es j off) from ⟨⟨hx.1, by simp⟩, hx.2⟩)
    | lp s' off =>
      simp only [frzVT]
      obtain ⟨ha', hv'⟩ := hx
      split
      · rename_i hss
        subst hss
        rw [hv']
        exact Var_rd (hv s' cs hs) (fun b hb => .inl hb) (.inr rfl) (drop_pure hp off)
      · rename_i hss
        exact ⟨⟨ha', by simpa using hss⟩, hv'⟩
    | mp i es ck => exact TRel.ext hext (show TRel w F β al' v (.mp i es ck) from ⟨⟨hx.1, by simp⟩, hx.2⟩)
    | ot i t xs =>
      rcases hx with hx | ⟨hne, ha', h2⟩
      · exact .inl hx
      · exact TRel.ext hext (show TRel w F β al' v (.ot i t xs) from .inr ⟨hne, ⟨ha', by simp⟩, h2⟩)
    | oet i t xs j off => exact TRel.ext hext (show TRel w F β al' v (.oet i t xs j off) from ⟨⟨hx.1, by simp⟩, hx.2⟩)
    | ov i t xs lo hi =>
      rcases hx with hx | ⟨hne, ha', hx⟩
      · exact .inl hx
      · exact TRel.ext hext (show TRel w F β al' v (.ov i t xs lo hi) from .inr ⟨hne, ⟨ha', by simp⟩, hx⟩)
    | emp => exact hx
    | dead => trivial
  have hvar : ∀ s', (e.frzV s ds).var s' = if s' = s then none else (e.var s').map (List.map (frzVT s ds)) := by
    intro s'
    simp only [Env.frzV, var_mapT]
    simp only [Env.var]
    by_cases hh : s' = s
    · subst hh
      rw [if_pos rfl]
      by_cases hl : s' < e.vars.length
      · simp [hl]
      · rw [List.getElem?_eq_none (by simp; omega)]; rfl
    · rw [if_neg hh, List.getElem?_set_ne (Ne.symm hh)]
  have hget : ∀ t, (e.frzV s ds).get t = frzVT s ds (e.get t) := fun t => get_mapT (f := frzVT s ds) rfl _ t
  refine Inv.of (al := al') hcore (hG.ext hext) (by simpa [Env.frzV, Env.mapT] using hsz) hdf (fun t => by rw [hget]; exact hf _ _ (ht t)) ?_ ?_
  · intro s' cs' hcs'
    rw [hvar] at hcs'
    split at hcs'
    · cases hcs'
    · rename_i hne
      simp only [Option.map_eq_some_iff] at hcs'
      obtain ⟨cs0, hcs0, rfl⟩ := hcs'
      exact ⟨⟨⟨cs0, hcs0⟩, by simpa using hne⟩, (hv s' cs0 hcs0).mapT rfl hf⟩
  · rintro s' ⟨⟨cs', hcs'⟩, hne⟩
    have hne' : s' ≠ s := by simpa using hne
    exact ⟨_, by rw [hvar, if_neg hne', hcs']; rfl⟩

/-- The row that is lent stays the frame's own. -/
def frzOE (id : Nat) (e : Env Γ.St) : Env Γ.St :=
  match Nat.beq id lentId with
  | true => e
  | false => e.mapT (frzOT id)

theorem Inv.frzOE (hi : Inv Γ G w0 F0 O0 a w e) (id : Nat) : Inv Γ G w0 F0 O0 a w (Ve.frzOE id e) := by
  unfold Ve.frzOE
  split
  · exact hi
  · rename_i hb
    exact hi.frzO (fun h => by subst h; simp at hb)

/-- What a value needs to be pure. -/
def frzCells (e : Env Γ.St) : List T → Env Γ.St
  | [] => e
  | .ow id _ _ :: r => frzCells (frzOE id e) r
  | .ot id _ _ :: r => frzCells (frzOE id e) r
  | _ :: r => frzCells e r

def frzT1 (x : T) (e : Env Γ.St) : Env Γ.St :=
  match x with
  | .ow id _ _ => frzOE id e
  | .oe id _ _ _ _ => frzOE id e
  | .ot id _ _ => frzOE id e
  | .lp s _ => match e.var s with
    | some cs => match (frzCells e cs).var s with
      | some cs' => match pureCells cs' with
        | some ds => (frzCells e cs).frzV s ds
        | none => frzCells e cs
      | none => frzCells e cs
    | none => e
  | _ => e

theorem Inv.frzCells : ∀ (cs : List T) (e : Env Γ.St), Inv Γ G w0 F0 O0 a w e → Inv Γ G w0 F0 O0 a w (Ve.frzCells e cs) := by
  intro cs
  induction cs with
  | nil => intro e h; exact h
  | cons c cs ih =>
    intro e h
    cases c with
    | ow id k es => exact ih _ (h.frzOE id)
    | ot id t xs => exact ih _ (h.frzOE id)
    | _ => exact ih _ h

theorem Inv.frzT1 (h : Inv Γ G w0 F0 O0 a w e) (x : T) : Inv Γ G w0 F0 O0 a w (Ve.frzT1 x e) := by
  unfold Ve.frzT1
  split
  · exact h.frzOE _
  · exact h.frzOE _
  · exact h.frzOE _
  · split
    · rename_i cs hcs
      have h1 := Inv.frzCells cs e h
      split
      · rename_i cs' hcs'
        split
        · rename_i ds hds; exact h1.frzV hcs' hds
        · exact h1
      · exact h1
    · exact h
  · exact h

def frzOps (G : Nat → Option (List V)) : List Operand → Env Γ.St → Env Γ.St
  | [], e => e
  | x :: r, e => frzOps G r (frzT1 (evx G e x) e)

theorem Inv.frzOps : ∀ (xs : List Operand) (e : Env Γ.St), Inv Γ G w0 F0 O0 a w e → Inv Γ G w0 F0 O0 a w (Ve.frzOps G xs e) := by
  intro xs
  induction xs with
  | nil => intro e h; exact h
  | cons x xs ih => intro e h; exact ih _ (h.frzT1 _)

end

section
variable {Γ : Sig} (P : Look) (G : Nat → Option (List V)) (S : Specs Γ)

def evW (e : Env Γ.St) (o : Oper) : Option (Env Γ.St) :=
  match o.op with
  | .store t ap x => match o.dst with
    | some _ => none
    | none => match evx G e ap with
      | .lp s off => evStoreV e P t s off (evx G e x)
      | .oe id k es i off => match evx G e x with
        | .p d => evStoreO P e t id k es i off d
        | _ => none
      | .oet id ty xs i off => match evx G e x with
        | .p d => evStoreT P e t id ty xs i off d
        | _ => none
      | _ => none
  | .call c => match evAppendT P G e o.dst c with
    | some e1 => some e1
    | none => match evAppendV P G e o.dst c with
      | some e1 => some e1
      | none => evAppend P G e o.dst c
  | .mapUpdate t m k v => match o.dst with
    | some _ => none
    | none => match evx G e m, flatT (evx G e k), flatT (evx G e v) with
      | .mp id es ck, some k, some v => evUpd P e t id es ck k v
      | _, _, _ => none
  | _ => none

def evQA (e : Env Γ.St) (o : Oper) : Option (Env Γ.St) :=
  match evQ P G S e o with
  | some r => applyR e o.dst r
  | none => none

/-- What is frozen where an operation does not go otherwise: of a store what is stored, else every operand. -/
def frzSel (o : Oper) : List Operand :=
  match o.op with
  | .store _ _ x => [x]
  | .mapUpdate _ _ _ v => [v]
  | _ => o.op.operands.toList

/-- One operation, whatever it is. -/
def evAny (e : Env Γ.St) (o : Oper) : Option (Env Γ.St) :=
  match evQA P G S e o with
  | some e1 => some e1
  | none => match evW P G e o with
    | some e1 => some e1
    | none => match evQA P G S (frzOps G (frzSel o) e) o with
      | some e1 => some e1
      | none => evW P G (frzOps G (frzSel o) e) o

end

section
variable {Γ : Sig} {P : Program} {G : Nat → Option (List V)} {S : Specs Γ} {o : Oper} {a : Act} {w0 : World} {F0 : Blk → Prop} {O0 : Lent} {w : World} {e e' : Env Γ.St}

theorem evW_sim (hi : Inv Γ G w0 F0 O0 a w e) (h : evW P G e o = some e') {Q : Exit → Act → World → Prop} : o.wp P a w (fun a' w' => Inv Γ G w0 F0 O0 a' w' e') Q := by
  obtain ⟨dst, op, type, pos, after, guard⟩ := o
  unfold evW at h
  split at h
  · rename_i t ap x hop
    simp only at hop
    subst hop
    split at h
    · cases h
    · rename_i hd
      simp only at hd
      subst hd
      have hfin : ∀ w', (Instr.storeAt t (a.eval ap) (a.eval x)).run P w = .ok () w' → Inv Γ G w0 F0 O0 a w' e' → (⟨none, .store t ap x, type, pos, after, guard⟩ : Oper).wp P a w (fun a' w' => Inv Γ G w0 F0 O0 a' w' e') Q := by
        intro w' hr hinv
        unfold Oper.wp
        have : (execOp a.eval ⟨none, .store t ap x, type, pos, after, guard⟩).run P w = .ok .skip w' := by simp [execOp, hr]
        rw [this]
        exact hinv
      split at h
      · rename_i s off hp
        obtain ⟨w', h1, h2⟩ := storeV_sim (P := P) hi hp rfl h
        exact hfin w' h1 h2
      · rename_i id k es i off hp
        split at h
        · rename_i d hx
          obtain ⟨w', h1, h2⟩ := storeO_sim (P := P) hi hp hx h
          exact hfin w' h1 h2
        · cases h
      · rename_i id ty xs i off hp
        split at h
        · rename_i d hx
          obtain ⟨w', h1, h2⟩ := storeT_sim (P := P) hi hp hx h
          exact hfin w' h1 h2
        · cases h
      · cases h
  · rename_i c hop
    simp only at hop
    subst hop
    split at h
    · rename_i e1 h1
      simp only [Option.some.injEq] at h
      subst h
      exact appendT_sim hi h1
    · split at h
      · rename_i e1 h1
        simp only [Option.some.injEq] at h
        subst h
        exact appendV_sim hi h1
      · exact append_sim hi h
  · rename_i t m k v hop
    simp only at hop
    subst hop
    split at h
    · cases h
    · rename_i hd
      simp only at hd
      subst hd
      split at h
      · rename_i id es ck kv vv hm hk hv
        obtain ⟨w', h1, h2⟩ := upd_sim (P := P) hi hm hk hv h
        unfold Oper.wp
        have : (execOp a.eval ⟨none, .mapUpdate t m k v, type, pos, after, guard⟩).run P w = .ok .skip w' := by simp [execOp, h1]
        rw [this]
        exact h2
      · cases h
  · cases h

theorem evQA_sim (hS : Table Γ P G S) (hi : Inv Γ G w0 F0 O0 a w e) (h : evQA P G S e o = some e') {Q : Exit → Act → World → Prop} : o.wp P a w (fun a' w' => Inv Γ G w0 F0 O0 a' w' e') Q := by
  unfold evQA at h
  split at h
  · rename_i r hr; exact seq_Q hS hi hr h
  · cases h

theorem evAny_sim (hS : Table Γ P G S) (hi : Inv Γ G w0 F0 O0 a w e) (h : evAny P G S e o = some e') {Q : Exit → Act → World → Prop} : o.wp P a w (fun a' w' => Inv Γ G w0 F0 O0 a' w' e') Q := by
  unfold evAny at h
  split at h
  · rename_i e1 h1; simp only [Option.some.injEq] at h; subst h; exact evQA_sim hS hi h1
  · split at h
    · rename_i e1 h1; simp only [Option.some.injEq] at h; subst h; exact evW_sim hi h1
    · split at h
      · rename_i e1 h1; simp only [Option.some.injEq] at h; subst h; exact evQA_sim hS (Inv.frzOps _ _ hi) h1
      · exact evW_sim (Inv.frzOps _ _ hi) h
end
end Go.Ve

/-
  The evaluator over pure values, part 19: append on a slice of the frame's own; stores into it; what stays from now on.
  The evaluator over pure values, part 24: states that know less; typed slices that are appended to.
-/
import Derived.Test.YthhmapljcdohnaaGreatCs4
set_option linter.unusedVariables false
namespace Go.Ve
open Go

def elemsT : T → Option (List V)
  | .p (.sl es) => some es
  | .p (.val (.slice none 0 0)) => some []
  | .ow _ _ es => some es
  | .emp => some []
  | .ov _ t xs lo hi => some (((xs.take hi).drop lo).map t.enc)
  | _ => none

section
variable {P : Program} {w : World} {F : Blk → Prop} {β : Lay} {al : Site → Prop}

theorem cell_heap {w w' : World} (h : w'.heap = w.heap) (ad : Addr) : w'.cell? ad = w.cell? ad := by
  simp [World.cell?, h]

theorem src_of {es : List V} {k b off cap : Nat} {g : Nat → Value} (hg : ∀ m, m < es.length * k → w.cell? ⟨b, off + m, none⟩ = some (g m))
    (hr : ∀ (i j : Nat) (e d : V), es[i]? = some e → e.cells[j]? = some d → Rd w F (g (i * k + j)) d) (hk : ∀ e, e ∈ es → e.cells.length = k) :
    ∃ cells : List Value, cells.length = es.length * k ∧
      (∀ w' : World, w'.heap = w.heap → (Builtin.firstCells k es.length (.slice (some ⟨b, off, none⟩) es.length cap)).run P w' = .ok cells.toArray w') ∧
      ∀ (i j : Nat) (e d : V), es[i]? = some e → e.cells[j]? = some d → ∃ x, cells[i * k + j]? = some x ∧ Rd w F x d := by
  refine ⟨(List.range (es.length * k)).map g, by simp, ?_, ?_⟩
  · grind [run_loadCells, cell_heap, Builtin.firstCells]
  · intro i j e d hi hj
    have h1 := (List.getElem?_eq_some_iff.1 hi).1
    have h2 := (List.getElem?_eq_some_iff.1 hj).1
    have h3 := hk e (List.mem_of_getElem? hi)
    have : (i + 1) * k ≤ es.length * k := Nat.mul_le_mul_right k (by omega)
    grind

theorem src_nil {k : Nat} (a : Option Addr) (cap : Nat) : ∃ cells : List Value, cells.length = ([] : List V).length * k ∧
      (∀ w' : World, w'.heap = w.heap → (Builtin.firstCells k 0 (.slice a 0 cap)).run P w' = .ok cells.toArray w') ∧
      ∀ (i j : Nat) (e d : V), ([] : List V)[i]? = some e → e.cells[j]? = some d → ∃ x, cells[i * k + j]? = some x ∧ Rd w F x d := by
  refine ⟨[], by simp, ?_, fun i j e d h => by simp at h⟩
  intro w' _
  cases a with
  | none => simp [Builtin.firstCells]
  | some ad => simp [Builtin.firstCells, loadCells, loadCellsFrom]

theorem src_sim {x : T} {v : Value} {es : List V} {k : Nat} (hx : TRel w F β al v x) (hes : elemsT x = some es) (hk : ∀ e, e ∈ es → e.cells.length = k) :
    ∃ (a : Option Addr) (cap : Nat) (cells : List Value), v = .slice a es.length cap ∧ es.length ≤ cap ∧ cells.length = es.length * k ∧
      (∀ w' : World, w'.heap = w.heap → (Builtin.firstCells k es.length v).run P w' = .ok cells.toArray w') ∧
      ∀ (i j : Nat) (e d : V), es[i]? = some e → e.cells[j]? = some d → ∃ x, cells[i * k + j]? = some x ∧ Rd w F x d := by
  unfold elemsT at hes
  split at hes
  · rename_i es0
    simp at hes
    subst hes
    cases hx with
    | slemp a cap =>
      obtain ⟨cells, h1, h2, h3⟩ := src_nil (P := P) (w := w) (F := F) (k := k) a cap
      simp_all
    | sl b off cap k0 es g hF hcap hk0 hg hr =>
      cases es0 with
      | nil =>
        obtain ⟨cells, h1, h2, h3⟩ := src_nil (P := P) (w := w) (F := F) (k := k) (some ⟨b, off, none⟩) cap
        simp_all
      | cons e es =>
        have hkk : k0 = k := by simp_all
        subst hkk
        obtain ⟨cells, h1, h2, h3⟩ := src_of (P := P) (cap := cap) hg hr hk0
        exact ⟨_, cap, cells, rfl, hcap, h1, h2, h3⟩
  · cases hes
    have := Rd.eq_val hx
    subst this
    obtain ⟨cells, h1, h2, h3⟩ := src_nil (P := P) (w := w) (F := F) (k := k) none 0
    simp_all
  · rename_i id k0 es0
    simp at hes
    subst hes
    obtain ⟨ha, cap, rfl, c, et, g1, g2, g3, g4, g5⟩ := hx
    cases es0 with
    | nil =>
      obtain ⟨cells, h1, h2, h3⟩ := src_nil (P := P) (w := w) (F := F) (k := k) (some ⟨β.ob id, 0, none⟩) cap
      simp_all
    | cons e es =>
      have hkk : k0 = k := by simp_all
      subst hkk
      have hle : (e :: es).length * k0 ≤ cap * k0 := Nat.mul_le_mul_right k0 g3
      obtain ⟨cells, h1, h2, h3⟩ := src_of (P := P) (w := w) (F := F) (es := e :: es) (k := k0) (b := β.ob id) (off := 0) (cap := cap) (g := fun m => (c[m]?).getD undef)
        (fun m hm => by
          grind [World.cell?])
        (fun i j q d hi hj => by
          have hi' := (List.getElem?_eq_some_iff.1 hi).1
          have hj' := (List.getElem?_eq_some_iff.1 hj).1
          have hq := g4 q (List.mem_of_getElem? hi)
          have : (i + 1) * k0 ≤ cap * k0 := Nat.mul_le_mul_right k0 (by omega)
          grind) g4
      exact ⟨_, cap, cells, rfl, g3, h1, h2, h3⟩
  · cases hes
    obtain ⟨a0, rfl⟩ := hx
    obtain ⟨cells, h1, h2, h3⟩ := src_nil (P := P) (w := w) (F := F) (k := k) a0 0
    simp_all
  · rename_i id t xs lo hi
    cases hes
    rcases hx with ⟨rfl, rfl, rfl, a0, rfl⟩ | ⟨hne, ha, hlh, hhl, cap, rfl, c, et, g1, g2, g3, g4, g5⟩
    · obtain ⟨cells, h1, h2, h3⟩ := src_nil (P := P) (w := w) (F := F) (k := k) a0 0
      simp_all
    · have hlen : (((xs.take hi).drop lo).map t.enc).length = hi - lo := by simp; omega
      have hcap : xs.length ≤ cap := by simpa using g3
      by_cases h0 : hi - lo = 0
      · have hnil : ((xs.take hi).drop lo).map t.enc = [] := List.eq_nil_of_length_eq_zero (by omega)
        rw [hnil, h0]
        obtain ⟨cells, h1, h2, h3⟩ := src_nil (P := P) (w := w) (F := F) (k := k) (some ⟨β.ob id, if cap = lo then 0 else lo * t.size, none⟩) (cap - lo)
        simp_all
      · have hkk : t.size = k := by
          have hl0 : 0 < (((xs.take hi).drop lo).map t.enc).length := by omega
          have := hk _ (List.getElem_mem hl0)
          grind
        subst hkk
        rw [if_neg (by omega)]
        have hsub : ∀ (i : Nat) (q : V), (((xs.take hi).drop lo).map t.enc)[i]? = some q → (xs.map t.enc)[lo + i]? = some q ∧ lo + i < hi := by
          grind
        have hcs : cap * t.size = c.size := g2.symm
        obtain ⟨cells, h1, h2, h3⟩ := src_of (P := P) (w := w) (F := F) (es := ((xs.take hi).drop lo).map t.enc) (k := t.size) (b := β.ob id) (off := lo * t.size) (cap := cap - lo) (g := fun m => (c[lo * t.size + m]?).getD undef)
          (fun m hm => by
            rw [hlen] at hm
            have h5 : (hi - lo) * t.size = hi * t.size - lo * t.size := Nat.sub_mul hi lo t.size
            have h6 : hi * t.size ≤ cap * t.size := Nat.mul_le_mul_right _ (by omega)
            grind [Nat.mul_le_mul_right, World.cell?])
          (fun i j q d hq hj => by
            obtain ⟨hq1, hq2⟩ := hsub i q hq
            have hj' := (List.getElem?_eq_some_iff.1 hj).1
            have hqk := g4 q (List.mem_of_getElem? hq1)
            have h5 : (lo + i + 1) * t.size ≤ cap * t.size := Nat.mul_le_mul_right _ (by omega)
            rw [Nat.succ_mul, Nat.add_mul] at h5
            have hlt : lo * t.size + (i * t.size + j) < c.size := by omega
            grind) hk
        refine ⟨_, _, cells, by rw [hlen], by omega, h1, ?_, h3⟩
        grind
  · cases hes

theorem src_one {es : List V} {k : Nat} {cells : List Value} (hl : cells.length = es.length * k) (hk : ∀ e, e ∈ es → e.cells.length = k) (ho : ∀ e, e ∈ es → e.cells.all V.one = true)
    (h : ∀ (i j : Nat) (e d : V), es[i]? = some e → e.cells[j]? = some d → ∃ x, cells[i * k + j]? = some x ∧ Rd w F x d) : ∀ v, v ∈ cells → v.oneCell' = true := by
  intro v hv
  obtain ⟨m, hm, rfl⟩ := List.getElem_of_mem hv
  have hk0 : 0 < k := by
    grind
  have hi : m / k < es.length := by
    rw [Nat.div_lt_iff_lt_mul hk0]; omega
  have hj : m % k < (es[m / k]).cells.length := by simp_all [Nat.mod_lt]
  obtain ⟨x, hx, hr⟩ := h (m / k) (m % k) _ _ (List.getElem?_eq_getElem hi) (List.getElem?_eq_getElem hj)
  grind [Nat.mul_comm, Nat.div_add_mod, List.getElem?_eq_getElem, Option.some.injEq, one_of_rd, List.all_eq_true, List.getElem_mem]

/-- The row behind the append, in place. -/
theorem row_room {w' : World} {b k cap : Nat} {es es2 : List V} {c : Array Value} {et : TypeId} {cells : List Value} (g2 : c.size = cap * k) (g4 : ∀ e, e ∈ es → e.cells.length = k)
    (g5 : ∀ (i j : Nat) (e d : V) (x : Value), es[i]? = some e → e.cells[j]? = some d → c[i * k + j]? = some x → Rd w' F x d)
    (hk2 : ∀ e, e ∈ es2 → e.cells.length = k) (hl : cells.length = es2.length * k)
    (h : ∀ (i j : Nat) (e d : V), es2[i]? = some e → e.cells[j]? = some d → ∃ x, cells[i * k + j]? = some x ∧ Rd w' F x d) (hroom : es.length + es2.length ≤ cap)
    (hb : w'.heap[b]? = some (.cells (spliceA c (es.length * k) cells) et (0, 0))) : RowRel w' F b k cap (es ++ es2) := by
  have hfit : es.length * k + es2.length * k ≤ c.size := by rw [← Nat.add_mul, g2]; exact Nat.mul_le_mul_right k hroom
  refine ⟨_, et, hb, by rw [spliceA_size]; exact g2, by simpa using hroom, ?_, ?_⟩
  · grind
  · intro i j e d x hi hj hx
    have hj' := (List.getElem?_eq_some_iff.1 hj).1
    rw [spliceA_get _ _ _ _ (by omega)] at hx
    by_cases hlt : i < es.length
    · rw [List.getElem?_append_left hlt] at hi
      have := g4 e (List.mem_of_getElem? hi)
      have h1 : (i + 1) * k ≤ es.length * k := Nat.mul_le_mul_right k (by omega)
      grind
    · rw [List.getElem?_append_right (by omega)] at hi
      have he := hk2 e (List.mem_of_getElem? hi)
      have hi2 := (List.getElem?_eq_some_iff.1 hi).1
      have h1 : es.length * k ≤ i * k := Nat.mul_le_mul_right k (by omega)
      have h2 : (i - es.length) * k = i * k - es.length * k := Nat.sub_mul ..
      grind

/-- The row behind the append, in a new array. -/
theorem row_grow {w' : World} {b k cap : Nat} {es es2 : List V} {et : TypeId} {old cells : List Value} {rest : Array Value} (hk1 : ∀ e, e ∈ es → e.cells.length = k) (hk2 : ∀ e, e ∈ es2 → e.cells.length = k)
    (hl1 : old.length = es.length * k) (hl2 : cells.length = es2.length * k)
    (h1 : ∀ (i j : Nat) (e d : V), es[i]? = some e → e.cells[j]? = some d → ∃ x, old[i * k + j]? = some x ∧ Rd w' F x d)
    (h2 : ∀ (i j : Nat) (e d : V), es2[i]? = some e → e.cells[j]? = some d → ∃ x, cells[i * k + j]? = some x ∧ Rd w' F x d) (hcap : es.length + es2.length ≤ cap)
    (hrest : rest.size = (cap - (es.length + es2.length)) * k)
    (hb : w'.heap[b]? = some (.cells (old.toArray ++ (cells.toArray ++ rest)) et (0, 0))) : RowRel w' F b k cap (es ++ es2) := by
  refine ⟨_, et, hb, ?_, by simpa using hcap, ?_, ?_⟩
  · simp [hl1, hl2, hrest, Nat.sub_mul, Nat.add_mul]
    have : (es.length + es2.length) * k ≤ cap * k := Nat.mul_le_mul_right k hcap
    grind
  · grind
  · intro i j e d x hi hj hx
    have hj' := (List.getElem?_eq_some_iff.1 hj).1
    by_cases hlt : i < es.length
    · grind
    · rw [List.getElem?_append_right (by omega)] at hi
      have he := hk2 e (List.mem_of_getElem? hi)
      have hi2 := (List.getElem?_eq_some_iff.1 hi).1
      have h3 : es.length * k ≤ i * k := Nat.mul_le_mul_right k (by omega)
      have h4 : (i - es.length) * k = i * k - es.length * k := Nat.sub_mul ..
      have h5 : (i - es.length + 1) * k ≤ es2.length * k := Nat.mul_le_mul_right k (by omega)
      rw [Nat.succ_mul] at h5
      rw [Array.getElem?_append_right (by simp; omega)] at hx
      simp [hl1] at hx
      have h6 : i * k + j - es.length * k = (i - es.length) * k + j := by omega
      grind
end

section
variable {Γ : Sig} {P : Program} {G : Nat → Option (List V)} {S : Specs Γ} {o : Oper} {a : Act} {w0 : World} {F0 : Blk → Prop} {O0 : Lent} {w : World} {e e' : Env Γ.St}

/-- The frame's state behind a step that gives site 'id' a new slice and forgets the old one. -/
theorem Inv.own {F : Blk → Prop} {O : Nat → Prop} {β β' : Lay} {w' : World} {d id k : Nat} {es : List V} {v : Value} {cap : Nat} {al' : Site → Prop}
    (hG : GRel G w F) (hsz : a.tmps.size = e.tm.length) (hdf : a.defers = [])
    (ht : ∀ t, TRel w F β (alive e) (a.tmps.getD t undef) (e.get t)) (hv : ∀ s cs, e.var s = some cs → VarRel w F β (alive e) (β.vb s) cs)
    (hal : al' = fun x => alm id (alive e) x ∨ x = .o id)
    (hc' : Core Γ w0 F0 O0 w' F O β' al' e.st) (hext : Ext w F β (alm id (alive e)) w' F β' al')
    (hval : v = .slice (some ⟨β'.ob id, 0, none⟩) es.length cap) (hrow : RowRel w' F (β'.ob id) k cap es) :
    Inv Γ G w0 F0 O0 (a.put (some d) v) w' { (e.kill id) with tm := (e.kill id).tm.set d (.ow id k es) } := by
  have hnew : al' (.o id) := by grind
  refine Inv.of (al := al') hc' (hG.ext hext) (by simp [Act.put, Env.kill, hsz]) hdf ?_ ?_ ?_
  · intro t
    rw [tmps_put, get_set]
    have hlen : (e.kill id).tm.length = a.tmps.size := by simp [Env.kill, hsz]
    rw [hlen]
    split
    · exact ⟨hnew, cap, hval, hrow⟩
    · rw [get_map]; exact (TRel.kill (ht t)).ext hext
  · intro s cs hcs
    have hcs' : (e.kill id).var s = some cs := hcs
    rw [var_kill] at hcs'
    split at hcs'
    · cases hcs'
    · rename_i hne
      simp at hcs'
      obtain ⟨cs0, hcs0, rfl⟩ := hcs'
      have ha : alm id (alive e) (.v s) := ⟨⟨cs0, hcs0⟩, by simpa using hne, by simp⟩
      refine ⟨hext.a _ ha, ?_⟩
      have hb : β'.vb s = β.vb s := hext.b (.v s) ha
      rw [hb]
      exact (VarRel.kill (hv s cs0 hcs0)).ext hext (hext.ha (.v s) ha)
  · intro s hs
    rw [hal] at hs
    rcases hs with ⟨⟨cs, hcs⟩, hne, _⟩ | h
    · have hne' : s ≠ id := by simpa using hne
      refine ⟨cs.map (killT id), ?_⟩
      show (e.kill id).var s = _
      simp_all [var_kill]
    · cases h

theorem Core.drew {F : Blk → Prop} {O : Nat → Prop} {β : Lay} {al : Site → Prop} {st : Γ.St} (hc : Core Γ w0 F0 O0 w F O β al st) : Core Γ w0 F0 O0 w.drew F O β al st :=
  ⟨⟨hc.keep.os, hc.keep.tape, hc.keep.output, hc.keep.size, hc.keep.block, Nat.le_trans hc.keep.drawn (Nat.le_succ _)⟩, Γ.mono hc.sig (fun _ _ => Iff.rfl) (fun _ _ => rfl) (fun _ _ h => ⟨h, rfl⟩), hc.oin, hc.fin, hc.f0, hc.place, hc.dist, hc.lent⟩

theorem drew_ext {w' : World} {F F' : Blk → Prop} {β β' : Lay} {al al' : Site → Prop} (h : Ext w.drew F β al w' F' β' al') : Ext w F β al w' F' β' al' :=
  ⟨h.f, h.hf, h.a, h.b, h.ha⟩

def zcells (z : Value) : Nat := z.cells.size

def appendOk (info : TypeInfo) (z : Value) (es2 : List V) : Bool :=
  es2.all (fun q => q.cells.length == info.size && q.cells.all V.one) && decide (1 ≤ info.bytes) && zcells z == info.size

def evAppendN (P : Look) (G : Nat → Option (List V)) (e : Env Γ.St) (nm : Option Nat) (dst : Option Tmp) (c : Call) : Option (Env Γ.St) :=
  match c.callee, c.args.toList, c.argTypes.toList, dst with
  | .builtin .append, [x0, x1], [t0, t1], some d =>
    match P.und t0, P.und t1 with
    | some (.slice el), some (.slice _) => match P.inf el with
      | some info => match info.zero, elemsT (evx G e x1) with
        | some z, some es2 =>
          if appendOk info z es2 then
            match evx G e x0 with
            | .ow id k es => if k = info.size ∧ (2 * (es.length + es2.length) + 1024) * info.bytes ≤ 140737488355328 ∧ id ≠ lentId then
                some { (e.kill id) with tm := (e.kill id).tm.set d (.ow id k (es ++ es2)) } else none
            | x => match elemsT x with
              | some [] => match x with
                | .p (.sl _) => none
                | .ov _ _ _ _ _ => none
                | _ => match es2 with
                  | [] => some (e.put (some d) x)
                  | q :: r => if (2 * (q :: r).length + 1024) * info.bytes ≤ 140737488355328 ∧ nm.getD d ≠ lentId then some { (e.kill (nm.getD d)) with tm := (e.kill (nm.getD d)).tm.set d (.ow (nm.getD d) info.size (q :: r)) } else none
              | _ => none
          else none
        | _, _ => none
      | none => none
    | _, _ => none
  | _, _, _, _ => none

def evAppend (P : Look) (G : Nat → Option (List V)) (e : Env Γ.St) (dst : Option Tmp) (c : Call) : Option (Env Γ.St) := evAppendN P G e none dst c

theorem appendN_sim (hi : Inv Γ G w0 F0 O0 a w e) {dst : Option Tmp} {c : Call} {type : TypeId} {pos : String} {after : Array Edge} {guard : Option (Nat × Bool)}
    {nm : Option Nat} (h : evAppendN P G e nm dst c = some e') {Q : Exit → Act → World → Prop} :
    (⟨dst, .call c, type, pos, after, guard⟩ : Oper).wp P a w (fun a' w' => Inv Γ G w0 F0 O0 a' w' e') Q := by
  obtain ⟨F, O, β, hc, hG, hsz, hdf, ht, hv⟩ := hi
  unfold evAppendN at h
  split at h
  · rename_i x0 x1 t0 t1 d hcal hargs htys
    split at h
    · rename_i el el1 hu0 hu1
      split at h
      · rename_i info hinfo
        split at h
        · rename_i z es2 hz hes2
          split at h
          · rename_i hok
            simp [appendOk] at hok
            obtain ⟨⟨hall, hbytes⟩, hzc⟩ := hok
            have hk2 : ∀ q, q ∈ es2 → q.cells.length = info.size := fun q hq => (hall q hq).1
            have ho2 : ∀ q, q ∈ es2 → q.cells.all V.one = true := fun q hq => List.all_eq_true.2 (fun y hy => (hall q hq).2 y hy)
            obtain ⟨a1, cap1, cells, hv1, hcap1, hl2, hrun2, hr2⟩ := src_sim (P := P) (evx_sim hG ht x1) hes2 hk2
            have hargs' : c.args = #[x0, x1] := by grind
            have ht0 : c.argTypes[0]? = some t0 := by rw [← Array.getElem?_toList, htys]; rfl
            have ht1 : c.argTypes[1]? = some t1 := by rw [← Array.getElem?_toList, htys]; rfl
            have hexec : ∀ r, (Builtin.append_ c.argTypes type #[a.eval x0, a.eval x1]).run P w = r → (execOp a.eval ⟨some d, .call c, type, pos, after, guard⟩).run P w = r.andThen fun v w' => .ok (.value v) w' := by
              intro r hr
              simp [execOp, resolve, hcal, hargs', invoke, builtin, hr]
            have hx0 := evx_sim hG ht x0
            have hs : size? P el = some info.size := size_of_info hinfo
            have hrest : ∀ m, (Builtin.zeroCells z.cells m).size = m * info.size := by
              intro m; simp [Builtin.zeroCells]; rw [show z.cells.size = info.size from hzc]
            split at h
            · rename_i id k es hex0
              split at h
              · rename_i hcond
                obtain ⟨rfl, hbound, hnl⟩ := hcond
                simp at h
                subst h
                rw [hex0] at hx0
                obtain ⟨ha, cap, hv0, cc, et, g1, g2, g3, g4, g5⟩ := hx0
                have hp := hc.place (.o id) ha
                have halm : ∀ x, alm id (alive e) x → β.blk x ≠ β.ob id := fun x hx hh => hx.2.2 (hc.dist x (.o id) hx.1 ha hh)
                unfold Oper.wp
                by_cases hroom : es.length + es2.length ≤ cap
                · have hfit : es.length * info.size + es2.length * info.size ≤ cc.size := by rw [← Nat.add_mul, g2]; exact Nat.mul_le_mul_right _ hroom
                  have hrun := run_append_room (P := P) (w := w) (ts := c.argTypes) (ty := type) (b := β.ob id) (off := 0) (len := es.length) (cap := cap) (n := es2.length) (cap1 := cap1) (a1 := a1) (cells := cells) (c := cc) (et := et) ht0 ht1 hu0 hu1 hs
                    (by grind) hl2 g1 (by omega) (src_one hl2 hk2 ho2 hr2) hroom
                  rw [← hv0, ← hv1] at hrun
                  simp at hrun
                  rw [hexec _ hrun]
                  simp [Oper.upon]
                  have hal' : ∀ x, (alm id (alive e) x ∨ x = .o id) → alive e x := fun x hx => hx.elim (fun h => h.1) (fun h => h ▸ ha)
                  have hext : Ext w F β (alm id (alive e)) (setBlk w (β.ob id) (.cells (spliceA cc (es.length * info.size) cells) et (0, 0))) F β (fun x => alm id (alive e) x ∨ x = .o id) :=
                    ⟨fun _ h => h, fun b hb => setBlk_ne (fun hh => hp.2.2.1 (by rw [hh] at hb; exact hb)), fun _ h => .inl h, fun _ _ => rfl, fun x hx => setBlk_ne (halm x hx)⟩
                  refine Inv.own (cap := cap) hG hsz hdf ht hv rfl ((hc.setBlk ha _ (fun c' et' fl' hh => by rw [show w.heap[β.blk (.o id)]? = _ from g1] at hh; simp at hh; exact ⟨_, _, _, rfl, by rw [spliceA_size, hh.1]⟩)).anti hal') hext (by simp) ?_
                  refine row_room g2 g4 (fun i j q y x hi hj hx => Rd.ext hext (g5 i j q y x hi hj hx)) hk2 hl2 (fun i j q y hi hj => ?_) hroom (setBlk_eq hp.2.1)
                  grind [Rd.ext]
                · have hx0' : TRel w F β (alive e) (a.eval x0) (.ow id info.size es) := ⟨ha, cap, hv0, cc, et, g1, g2, g3, g4, g5⟩
                  obtain ⟨a0, cap0, old, hv0', hcap0, hl1, hrun1, hr1⟩ := src_sim (P := P) (k := info.size) hx0' rfl g4
                  have hcc : cap0 = cap := by grind
                  subst hcc
                  obtain ⟨newCap, hnc, hrun⟩ := run_append_grow (P := P) (w := w) (ts := c.argTypes) (ty := type) (len := es.length) (cap := cap0) (n := es2.length) (cap1 := cap1) (a0 := a0) (a1 := a1) (cells := cells) (old := old) ht0 ht1 hu0 hu1 hinfo hz
                    (by rw [← hv1]; exact hrun2 w.drew rfl) (by rw [← hv0']; exact hrun1 w.drew rfl) hroom hbytes hbound
                  rw [← hv0', ← hv1] at hrun
                  rw [hexec _ hrun]
                  simp [Oper.upon]
                  let β' : Lay := { β with ob := fun s => if s = id then w.heap.size else β.ob s }
                  have hb : ∀ x, alm id (alive e) x → β'.blk x = β.blk x := by
                    intro x hx
                    cases x with
                    | o s =>
                      grind [id, Lay.blk]
                    | v s => rfl
                  have hob : β'.ob id = w.heap.size := by simp [β']
                  have hcm := (hc.drew.anti (al' := alm id (alive e)) (fun x hx => hx.1))
                  have hcore := hcm.push (.cells (old.toArray ++ (cells.toArray ++ Builtin.zeroCells z.cells (newCap - (es.length + es2.length)))) el) β' (.o id) (fun hh => hnl (by cases hh; rfl)) hob hb
                  have hext : Ext w F β (alm id (alive e)) (w.drew.alloc (.cells (old.toArray ++ (cells.toArray ++ Builtin.zeroCells z.cells (newCap - (es.length + es2.length)))) el)) F β' (fun x => alm id (alive e) x ∨ x = .o id) :=
                    drew_ext (hcm.push_ext (.cells (old.toArray ++ (cells.toArray ++ Builtin.zeroCells z.cells (newCap - (es.length + es2.length)))) el) β' (fun x => alm id (alive e) x ∨ x = .o id) hb (fun x hx => .inl hx))
                  refine Inv.own (cap := newCap) hG hsz hdf ht hv rfl hcore hext (by rw [hob]; simp) ?_
                  rw [hob]
                  refine row_grow g4 hk2 hl1 hl2 (fun i j q y hi hj => ?_) (fun i j q y hi hj => ?_) hnc (hrest _) (push_new (w := w.drew))
                  all_goals grind [Rd.ext]
              · cases h
            · rename_i hnow
              split at h
              · rename_i hnil
                have hemp : (∀ es0, evx G e x0 ≠ .p (.sl es0)) → (∀ i t xs lo hi, evx G e x0 ≠ .ov i t xs lo hi) → ∃ a0, a.eval x0 = .slice a0 0 0 := by
                  intro hns hnov
                  unfold elemsT at hnil
                  split at hnil
                  · grind
                  · rename_i heq
                    rw [heq] at hx0
                    exact ⟨none, Rd.eq_val hx0⟩
                  · grind
                  · rename_i heq
                    rw [heq] at hx0
                    obtain ⟨a0, ha0⟩ := hx0
                    grind
                  all_goals grind
                split at h
                · cases h
                · cases h
                · rename_i hns hnov
                  obtain ⟨a0, hv0⟩ := hemp hns hnov
                  unfold Oper.wp
                  split at h
                  · cases h
                    have hrun : (Builtin.append_ c.argTypes type #[a.eval x0, a.eval x1]).run P w = .ok (.slice a0 0 0) w := by
                      rw [hv0, hv1]
                      have hr := hrun2 w rfl
                      rw [hv1] at hr
                      have hcn : cells = [] := List.eq_nil_of_length_eq_zero (by simpa using hl2)
                      subst hcn
                      simp at hr ⊢
                      cases a0 with
                      | none => simp [Builtin.append_, ht0, ht1, run_underlying? hu0, run_underlying? hu1, run_sizeOf hs, Builtin.lenOf, hr]
                      | some ad => simp [Builtin.append_, ht0, ht1, run_underlying? hu0, run_underlying? hu1, run_sizeOf hs, Builtin.lenOf, hr, storeCells]
                    rw [hexec _ hrun]
                    simp [Oper.upon]
                    refine Inv.of (al := alive e) hc hG (by simp [Act.put, Env.put, hsz]) hdf ?_ (fun s cs hcs => ⟨⟨cs, hcs⟩, hv s cs hcs⟩) (fun s hs => hs)
                    grind [tmps_put, get_set, Env.put]
                  · rename_i q r
                    split at h
                    · rename_i hbound0
                      obtain ⟨hbound, hnl⟩ := hbound0
                      simp at h
                      subst h
                      obtain ⟨a0', cap0, old, hv0', hcap0, hl1, hrun1, hr1⟩ := src_sim (P := P) (k := info.size) hx0 hnil (by simp)
                      rw [hv0] at hrun1
                      have hold : old = [] := List.eq_nil_of_length_eq_zero (by simpa using hl1)
                      subst hold
                      obtain ⟨newCap, hnc, hrun⟩ := run_append_grow (P := P) (w := w) (ts := c.argTypes) (ty := type) (len := 0) (cap := 0) (n := (q :: r).length) (cap1 := cap1) (a0 := a0) (a1 := a1) (cells := cells) (old := []) ht0 ht1 hu0 hu1 hinfo hz
                        (by rw [← hv1]; exact hrun2 w.drew rfl) (by exact hrun1 w.drew rfl) (by simp) hbytes (by grind)
                      rw [← hv0, ← hv1] at hrun
                      rw [hexec _ hrun]
                      simp only [Result.andThen_ok, Oper.upon]
                      simp only [Nat.zero_add] at hnc ⊢
                      let β' : Lay := { β with ob := fun s => if s = nm.getD d then w.heap.size else β.ob s }
                      have hb : ∀ x, alm (nm.getD d) (alive e) x → β'.blk x = β.blk x := by
                        intro x hx
                        cases x with
                        | o s =>
                          have hne : s ≠ nm.getD d := fun hh => hx.2.2 (by rw [hh])
                          grind [Lay.blk]
                        | v s => rfl
                      have hob : β'.ob (nm.getD d) = w.heap.size := by simp [β']
                      have hcm := (hc.drew.anti (al' := alm (nm.getD d) (alive e)) (fun x hx => hx.1))
                      have hcore := hcm.push (.cells (([] : List Value).toArray ++ (cells.toArray ++ Builtin.zeroCells z.cells (newCap - (q :: r).length))) el) β' (.o (nm.getD d)) (fun hh => hnl (by injection hh)) hob hb
                      have hext := hcm.push_ext (.cells (([] : List Value).toArray ++ (cells.toArray ++ Builtin.zeroCells z.cells (newCap - (q :: r).length))) el) β' (fun x => alm (nm.getD d) (alive e) x ∨ x = .o (nm.getD d)) hb (fun x hx => .inl hx)
                      have hext' : Ext w F β (alm (nm.getD d) (alive e)) (w.drew.alloc (.cells (([] : List Value).toArray ++ (cells.toArray ++ Builtin.zeroCells z.cells (newCap - (q :: r).length))) el)) F β' (fun x => alm (nm.getD d) (alive e) x ∨ x = .o (nm.getD d)) := drew_ext hext
                      refine Inv.own (cap := newCap) hG hsz hdf ht hv rfl hcore hext' (by rw [hob]) ?_
                      rw [hob]
                      have := row_grow (w' := w.drew.alloc (.cells (([] : List Value).toArray ++ (cells.toArray ++ Builtin.zeroCells z.cells (newCap - (q :: r).length))) el)) (F := F) (b := w.heap.size) (k := info.size) (cap := newCap) (es := []) (es2 := q :: r) (et := el) (old := []) (cells := cells)
                        (by simp) hk2 (by simp) hl2 (fun i j q y hi hj => by simp at hi) (fun i j q' y hi hj => by
                          grind [Rd.ext]) (by simpa using hnc) (by grind) (push_new (w := w.drew))
                      simpa using this
                    · cases h
              · cases h
          · cases h
        · cases h
      · cases h
    · cases h
  · cases h

theorem append_sim (hi : Inv Γ G w0 F0 O0 a w e) {dst : Option Tmp} {c : Call} {type : TypeId} {pos : String} {after : Array Edge} {guard : Option (Nat × Bool)}
    (h : evAppend P G e dst c = some e') {Q : Exit → Act → World → Prop} :
    (⟨dst, .call c, type, pos, after, guard⟩ : Oper).wp P a w (fun a' w' => Inv Γ G w0 F0 O0 a' w' e') Q := appendN_sim hi h
end
end Go.Ve

namespace Go.Ve
open Go

section
variable {St : Type}
def Env.mapT (f : T → T) (e : Env St) : Env St := { e with tm := e.tm.map f, vars := e.vars.map (fun c => c.map (List.map f)) }

theorem get_mapT {f : T → T} (hf : f .dead = .dead) (e : Env St) (t : Nat) : (e.mapT f).get t = f (e.get t) := by
  grind [Env.mapT, Env.get]

theorem var_mapT {f : T → T} (e : Env St) (s : Nat) : (e.mapT f).var s = (e.var s).map (List.map f) := by
  grind [Env.mapT, Env.var]
end

def WkT (x y : T) : Prop := ∀ (w : World) (F : Blk → Prop) (β : Lay) (al : Site → Prop) (v : Value), TRel w F β al v x → TRel w F β al v y

def WkTs : List T → List T → Prop
  | [], [] => True
  | x :: xs, y :: ys => WkT x y ∧ WkTs xs ys
  | _, _ => False

theorem WkT.refl (x : T) : WkT x x := fun _ _ _ _ _ h => h
theorem WkT.dead (x : T) : WkT x .dead := fun _ _ _ _ _ _ => trivial
theorem WkT.un (x : T) : WkT x x.un := fun _ _ _ _ _ h => TRel_un.1 h
theorem WkT.ofUn (x : T) : WkT x.un x := fun _ _ _ _ _ h => TRel_un.2 h

theorem WkTs.refl : ∀ (l : List T), WkTs l l
  | [] => trivial
  | x :: l => ⟨.refl x, WkTs.refl l⟩

theorem WkTs.map {f g : T → T} (h : ∀ x, WkT (f x) (g x)) : ∀ (l : List T), WkTs (l.map f) (l.map g)
  | [] => trivial
  | x :: l => ⟨h x, WkTs.map h l⟩

theorem WkTs.get : ∀ {xs ys : List T} (_ : WkTs xs ys) (i : Nat) (x y : T), xs[i]? = some x → ys[i]? = some y → WkT x y
  | [], [], _, i, x, y, h1, _ => by simp at h1
  | a :: xs, b :: ys, h, i, x, y, h1, h2 => by
    cases i with
    | zero => simp at h1 h2; subst h1 h2; exact h.1
    | succ i => exact WkTs.get h.2 i x y (by simpa using h1) (by simpa using h2)

theorem WkTs.len : ∀ {xs ys : List T} (_ : WkTs xs ys), xs.length = ys.length
  | [], [], _ => rfl
  | a :: xs, b :: ys, h => by simp [WkTs.len h.2]

section
variable {Γ : Sig} {P : Program} {G : Nat → Option (List V)} {S : Specs Γ} {o : Oper} {a : Act} {w0 : World} {F0 : Blk → Prop} {O0 : Lent} {w : World} {e e' : Env Γ.St}

/-- The variables of e2 are those of e; each cell knows no more. -/
def WkVars (e e2 : Env Γ.St) : Prop := ∀ s, match e.var s, e2.var s with
  | none, none => True
  | some cs, some cs2 => WkTs cs cs2
  | _, _ => False

theorem Inv.weak {e2 : Env Γ.St} (h : Inv Γ G w0 F0 O0 a w e) (hl : e2.tm.length = e.tm.length) (hst : e2.st = e.st) (ht2 : ∀ t, WkT (e.get t) (e2.get t)) (hv2 : WkVars e e2) :
    Inv Γ G w0 F0 O0 a w e2 := by
  obtain ⟨F, O, β, hc, hG, hsz, hdf, ht, hv⟩ := h
  refine Inv.of (al := alive e) (by rw [hst]; exact hc) hG (by omega) hdf (fun t => ht2 t _ _ _ _ _ (ht t)) ?_ ?_
  · intro s cs2 hcs2
    have h1 := hv2 s
    rw [hcs2] at h1
    cases hcs : e.var s with
    | none => grind
    | some cs =>
      rw [hcs] at h1
      obtain ⟨c, et, g1, g2, g3⟩ := hv s cs hcs
      refine ⟨⟨cs, hcs⟩, c, et, g1, g2.trans h1.len, ?_⟩
      intro i x y hx hy
      have hlt : i < cs.length := by grind
      exact h1.get i cs[i] y (by simp [hlt]) hy _ _ _ _ _ (g3 i x cs[i] hx (by simp [hlt]))
  · rintro s ⟨cs, hcs⟩
    have h1 := hv2 s
    grind

theorem evx_un (x : Operand) : evx G (e.mapT T.un) x = (evx G e x).un := by
  cases x with
  | tmp t => exact get_mapT rfl e t
  | const v =>
    simp only [evx]
    cases v with
    | tuple vs => rfl
    | agg cs => rfl
    | _ => rfl
  | global g => simp only [evx]; cases G g <;> rfl
  | func f => rfl

theorem Inv.un (h : Inv Γ G w0 F0 O0 a w e) : Inv Γ G w0 F0 O0 a w (e.mapT T.un) := by
  refine h.weak (by simp [Env.mapT]) rfl (fun t => by rw [get_mapT rfl]; exact WkT.un _) ?_
  intro s
  rw [var_mapT]
  cases hs : e.var s with
  | none => trivial
  | some cs =>
    have := WkTs.map (f := id) (g := T.un) (fun x => WkT.un x) cs
    simpa using this

theorem kill_un (n : Nat) (x : T) : WkT (killT n x.un) (killT n x) := by
  cases x with
  | p d =>
    cases d with
    | tl t xs => exact WkT.ofUn (.p (.tl t xs))
    | _ => exact .refl _
  | ot i t xs =>
    cases xs with
    | nil =>
      simp [killT, T.un]
      split
      · exact .dead _
      · exact WkT.ofUn (.ot i t [])
    | cons x xs =>
      simp [killT, T.un]
      split
      · exact .dead _
      · exact WkT.ofUn (.ot i t (x :: xs))
  | oet i t xs j off =>
    simp [killT, T.un]
    split
    · exact .dead _
    · exact WkT.ofUn (.oet i t xs j off)
  | _ => exact .refl _

theorem cells_one (t : Ty) (x : t.El) : (t.cells x).all V.one = true := by
  induction t with
  | pair a b iha ihb => simp [Ty.cells, iha, ihb]
  | _ => rfl

def srcT : T → Option ((t : Ty) × List t.El)
  | .p (.tl t xs) => some ⟨t, xs⟩
  | .ot _ t xs => some ⟨t, xs⟩
  | .ov _ t xs lo hi => some ⟨t, (xs.take hi).drop lo⟩
  | _ => none

def dstT (t : Ty) : T → Option (Option Nat × List t.El)
  | .p (.val (.slice none 0 0)) => some (none, [])
  | .emp => some (none, [])
  | .ot id t' xs => if h : t' = t then some (some id, h ▸ xs) else none
  | _ => none

def evAppendT (P : Look) (G : Nat → Option (List V)) (e : Env Γ.St) (dst : Option Tmp) (c : Call) : Option (Env Γ.St) :=
  match c.callee, c.args.toList, c.argTypes.toList, dst with
  | .builtin .append, [x0, x1], [t0, t1], some d =>
    match P.und t0, P.und t1 with
    | some (.slice el), some (.slice _) => match P.inf el with
      | some info => match info.zero, srcT (evx G e x1) with
        | some z, some ⟨t, ys⟩ => match dstT t (evx G e x0) with
          | some (nm, xs) =>
            if t.size = info.size ∧ 1 ≤ info.bytes ∧ zcells z = info.size ∧ nm.getD d ≠ lentId then
              if (2 * (xs.length + ys.length) + 1024) * info.bytes ≤ 140737488355328 then
                some { (e.kill (nm.getD d)) with tm := (e.kill (nm.getD d)).tm.set d (.ot (nm.getD d) t (xs ++ ys)) }
              else none
            else none
          | none => none
        | _, _ => none
      | none => none
    | _, _ => none
  | _, _, _, _ => none

theorem weak_set {n d : Nat} {X Y : T} (hXY : WkT X Y) (h : Inv Γ G w0 F0 O0 a w { ((e.mapT T.un).kill n) with tm := ((e.mapT T.un).kill n).tm.set d X }) :
    Inv Γ G w0 F0 O0 a w { (e.kill n) with tm := (e.kill n).tm.set d Y } := by
  refine h.weak (by simp [Env.kill, Env.mapT]) rfl ?_ ?_
  · intro t
    rw [get_set, get_set]
    have hlen : ((e.mapT T.un).kill n).tm.length = (e.kill n).tm.length := by simp [Env.kill, Env.mapT]
    rw [hlen]
    split
    · exact hXY
    · rw [get_map, get_map, get_mapT rfl]
      exact kill_un n _
  · intro s
    have h1 : ({ ((e.mapT T.un).kill n) with tm := ((e.mapT T.un).kill n).tm.set d X } : Env Γ.St).var s = ((e.mapT T.un).kill n).var s := rfl
    have h2 : ({ (e.kill n) with tm := (e.kill n).tm.set d Y } : Env Γ.St).var s = (e.kill n).var s := rfl
    rw [h1, h2, var_kill, var_kill, var_mapT]
    by_cases hs : s = n
    · grind
    · rw [if_neg hs, if_neg hs]
      cases e.var s with
      | none => trivial
      | some cs =>
        grind [List.map_map, WkTs.map, kill_un]

theorem appendT_sim (hi : Inv Γ G w0 F0 O0 a w e) {dst : Option Tmp} {c : Call} {type : TypeId} {pos : String} {after : Array Edge} {guard : Option (Nat × Bool)}
    (h : evAppendT P G e dst c = some e') {Q : Exit → Act → World → Prop} :
    (⟨dst, .call c, type, pos, after, guard⟩ : Oper).wp P a w (fun a' w' => Inv Γ G w0 F0 O0 a' w' e') Q := by
  unfold evAppendT at h
  split at h
  · rename_i x0 x1 t0 t1 d hcal hargs htys
    split at h
    · rename_i el el1 hu0 hu1
      have hu0' : P.underlying t0 = some (.slice el) := hu0
      have hu1' : P.underlying t1 = some (.slice el1) := hu1
      split at h
      · rename_i info hinfo
        have hinfo' : P.info? el = some info := hinfo
        split at h
        · rename_i z t ys hz hsrc
          split at h
          · rename_i nm xs hdst
            split at h
            · rename_i hok
              obtain ⟨hsz, hby, hzc, hnl⟩ := hok
              split at h
              · rename_i hbound
                simp at h
                subst h
                have hsu : elemsT (evx G (e.mapT T.un) x1) = some (ys.map t.enc) := by
                  rw [evx_un]
                  unfold srcT at hsrc
                  split at hsrc
                  · rename_i heq
                    simp at hsrc
                    obtain ⟨rfl, hys⟩ := hsrc
                    cases hys
                    rw [heq]; rfl
                  · rename_i i0 ys0 heq
                    simp at hsrc
                    obtain ⟨rfl, hys⟩ := hsrc
                    cases hys
                    rw [heq]
                    cases ys0 <;> rfl
                  · rename_i i0 xs0 lo0 hi0 heq
                    simp at hsrc
                    obtain ⟨rfl, hys⟩ := hsrc
                    cases hys
                    rw [heq]; rfl
                  · cases hsrc
                have hao : appendOk info z (ys.map t.enc) = true := by
                  simp only [appendOk, Bool.and_eq_true, decide_eq_true_eq, beq_iff_eq, List.all_eq_true]
                  refine ⟨⟨?_, hby⟩, hzc⟩
                  intro q hq
                  simp at hq
                  obtain ⟨y, _, rfl⟩ := hq
                  grind [enc_len, enc_cells, List.all_eq_true, cells_one]
                -- a slice of the frame's own that is not empty
                have hown : ∀ id x xs', nm = some id → xs = x :: xs' → evx G (e.mapT T.un) x0 = .ow id t.size (xs.map t.enc) → (⟨some d, .call c, type, pos, after, guard⟩ : Oper).wp P a w (fun a' w' => Inv Γ G w0 F0 O0 a' w' { (e.kill (nm.getD d)) with tm := (e.kill (nm.getD d)).tm.set d (.ot (nm.getD d) t (xs ++ ys)) }) Q := by
                  intro id x xs' hnm hxs hx0
                  subst hnm
                  have hev : evAppendN P G (e.mapT T.un) (some id) (some d) c = some { ((e.mapT T.un).kill id) with tm := ((e.mapT T.un).kill id).tm.set d (.ow id t.size (xs.map t.enc ++ ys.map t.enc)) } := by
                    have hb' : (2 * ((xs.map t.enc).length + (ys.map t.enc).length) + 1024) * info.bytes ≤ 140737488355328 := by grind
                    have hnl' : id ≠ lentId := hnl
                    simp_all [evAppendN]
                  refine Oper.wp_mono (fun a' w' hh => ?_) (appendN_sim hi.un hev)
                  refine weak_set ?_ hh
                  have : (T.ot id t (xs ++ ys)).un = .ow id t.size (xs.map t.enc ++ ys.map t.enc) := by
                    grind [T.un]
                  grind [WkT.ofUn]
                have hemp : ∀ x : T, evx G (e.mapT T.un) x0 = x → (x = .emp ∨ x = .p (.val (.slice none 0 0))) → xs = [] → (⟨some d, .call c, type, pos, after, guard⟩ : Oper).wp P a w (fun a' w' => Inv Γ G w0 F0 O0 a' w' { (e.kill (nm.getD d)) with tm := (e.kill (nm.getD d)).tm.set d (.ot (nm.getD d) t (xs ++ ys)) }) Q := by
                  intro x hx0 hx hxs
                  subst hxs
                  have hel : elemsT x = some [] := by rcases hx with rfl | rfl <;> rfl
                  cases ys with
                  | nil =>
                    have hev : evAppendN P G (e.mapT T.un) nm (some d) c = some ((e.mapT T.un).put (some d) x) := by
                      simp only [evAppendN, hcal, hargs, htys, hu0', hu1', hinfo', hz, hsu, hao, if_true, hx0]
                      grind
                    refine Oper.wp_mono (fun a' w' hh => ?_) (appendN_sim hi.un hev)
                    have hk := hh.kill (nm.getD d)
                    have heq : ((e.mapT T.un).put (some d) x).kill (nm.getD d) = { ((e.mapT T.un).kill (nm.getD d)) with tm := ((e.mapT T.un).kill (nm.getD d)).tm.set d (killT (nm.getD d) x) } := by
                      simp [Env.kill, Env.put]
                    rw [heq] at hk
                    refine weak_set ?_ hk
                    rcases hx with rfl | rfl
                    · exact fun w F β al v h => .inl ⟨rfl, h⟩
                    · exact fun w F β al v h => .inl ⟨rfl, none, Rd.eq_val h⟩
                  | cons y ys =>
                    have hev : evAppendN P G (e.mapT T.un) nm (some d) c = some { ((e.mapT T.un).kill (nm.getD d)) with tm := ((e.mapT T.un).kill (nm.getD d)).tm.set d (.ow (nm.getD d) info.size ((y :: ys).map t.enc)) } := by
                      have hb' : (2 * (t.enc y :: ys.map t.enc).length + 1024) * info.bytes ≤ 140737488355328 := by grind
                      simp only [evAppendN, hcal, hargs, htys, hu0', hu1', hinfo', hz, hsu, hao, if_true, hx0]
                      grind
                    refine Oper.wp_mono (fun a' w' hh => ?_) (appendN_sim hi.un hev)
                    refine weak_set ?_ hh
                    have : (T.ot (nm.getD d) t ([] ++ y :: ys)).un = .ow (nm.getD d) info.size ((y :: ys).map t.enc) := by
                      simp [T.un, hsz]
                    grind [WkT.ofUn]
                unfold dstT at hdst
                split at hdst
                · rename_i heq
                  simp only [Option.some.injEq, Prod.mk.injEq] at hdst
                  obtain ⟨rfl, rfl⟩ := hdst
                  exact hemp _ rfl (by rw [evx_un, heq]; exact .inr rfl) rfl
                · rename_i heq
                  simp only [Option.some.injEq, Prod.mk.injEq] at hdst
                  obtain ⟨rfl, rfl⟩ := hdst
                  exact hemp _ rfl (by rw [evx_un, heq]; exact .inl rfl) rfl
                · rename_i id t' xs0 heq
                  split at hdst
                  · rename_i ht
                    subst ht
                    simp at hdst
                    obtain ⟨rfl, rfl⟩ := hdst
                    cases hxs : xs0 with
                    | nil =>
                      subst hxs
                      exact hemp _ rfl (by rw [evx_un, heq]; exact .inl rfl) rfl
                    | cons x xs' =>
                      subst hxs
                      exact hown id x xs' rfl rfl (by rw [evx_un, heq]; rfl)
                  · cases hdst
                · cases hdst
              · cases h
            · cases h
          · cases h
        · cases h
      · cases h
    · cases h
  · cases h

def neTmp (p : Nat) : Operand → Bool
  | .tmp q => !Nat.beq q p
  | _ => true

/-- Append behind the beginning of a slice of the frame's own. -/
def evAppendV (P : Look) (G : Nat → Option (List V)) (e : Env Γ.St) (dst : Option Tmp) (c : Call) : Option (Env Γ.St) :=
  match c.callee, c.args.toList, c.argTypes.toList, dst with
  | .builtin .append, [.tmp p, x1], [t0, t1], some d =>
    match P.und t0, P.und t1 with
    | some (.slice el), some (.slice _) => match P.inf el with
      | some info => match info.zero, srcT (evx G e x1) with
        | some z, some ⟨t, y :: ys⟩ => match e.get p with
          | .ov id t' xs 0 hi =>
            if neTmp p x1 = false then none else
            if h : t' = t then
              if t.size = info.size ∧ 1 ≤ info.bytes ∧ zcells z = info.size ∧ id ≠ lentId then
                if (2 * ((List.take hi (h ▸ xs)).length + (y :: ys).length) + 1024) * info.bytes ≤ 140737488355328 then
                  some { (e.kill id) with tm := (e.kill id).tm.set d (.ot id t (List.take hi (h ▸ xs) ++ y :: ys)) }
                else none
              else none
            else none
          | _ => none
        | _, _ => none
      | none => none
    | _, _ => none
  | _, _, _, _ => none

theorem evx_put_ne {x : Operand} {p : Nat} {X : T} (h : ∀ t, x = .tmp t → t ≠ p) : evx G (e.put (some p) X) x = evx G e x := by
  cases x with
  | tmp t =>
    simp [evx, Env.put, Env.get]
    grind
  | _ => rfl

theorem Inv.putWeak (h : Inv Γ G w0 F0 O0 a w e) {p : Nat} {X : T} (hw : WkT (e.get p) X) : Inv Γ G w0 F0 O0 a w (e.put (some p) X) := by
  refine h.weak (by simp [Env.put]) rfl ?_ ?_
  · intro t
    simp only [Env.put]
    rw [get_set]
    split
    · grind
    · exact .refl _
  · intro s
    have : (e.put (some p) X).var s = e.var s := rfl
    rw [this]
    cases e.var s with
    | none => trivial
    | some cs => exact WkTs.refl cs

theorem RowRel.take {w : World} {F : Blk → Prop} {b k cap : Nat} {es : List V} (h : RowRel w F b k cap es) (n : Nat) : RowRel w F b k cap (es.take n) := by
  obtain ⟨c, et, g1, g2, g3, g4, g5⟩ := h
  refine ⟨c, et, g1, g2, by simp; omega, fun e he => g4 e (List.mem_of_mem_take he), ?_⟩
  grind

theorem kill_put {p id : Nat} {X : T} (h1 : killT id X = .dead) (h2 : killT id (e.get p) = .dead) (hp : p < e.tm.length) : (e.put (some p) X).kill id = e.kill id := by
  have : (e.tm.set p X).map (killT id) = e.tm.map (killT id) := by
    rw [List.map_set, h1]
    apply List.ext_getElem?
    simp_all [List.getElem?_set, Env.get]
  grind [Env.kill, Env.put]

theorem appendV_sim (hi : Inv Γ G w0 F0 O0 a w e) {dst : Option Tmp} {c : Call} {type : TypeId} {pos : String} {after : Array Edge} {guard : Option (Nat × Bool)}
    (h : evAppendV P G e dst c = some e') {Q : Exit → Act → World → Prop} :
    (⟨dst, .call c, type, pos, after, guard⟩ : Oper).wp P a w (fun a' w' => Inv Γ G w0 F0 O0 a' w' e') Q := by
  unfold evAppendV at h
  split at h
  · rename_i p x1 t0 t1 d hcal hargs htys
    split at h
    · rename_i el el1 hu0 hu1
      have hu0' : P.underlying t0 = some (.slice el) := hu0
      have hu1' : P.underlying t1 = some (.slice el1) := hu1
      split at h
      · rename_i info hinfo
        have hinfo' : P.info? el = some info := hinfo
        split at h
        · rename_i z t y ys hz hsrc
          split at h
          · rename_i id t' xs hi0 hget
            split at h
            · cases h
            · rename_i hne0
              split at h
              · rename_i htt
                subst htt
                simp only at h
                split at h
                · rename_i hok
                  obtain ⟨hsz, hby, hzc, hnl⟩ := hok
                  split at h
                  · rename_i hbound
                    cases h
                    have hx1p : ∀ q, x1 = .tmp q → q ≠ p := by
                      rintro q rfl hqp
                      simp_all [neTmp]
                    have hlt : p < e.tm.length := by
                      grind [Nat.lt_or_ge, List.getElem?_eq_none, Env.get]
                    have hkov : killT id (e.get p) = .dead := by grind [killT]
                    have hgp : ∀ (e1 : Env Γ.St) (X : T), p < e1.tm.length → (e1.put (some p) X).get p = X := by
                      intro e1 X h1
                      simp only [Env.put]
                      rw [get_set, if_pos ⟨rfl, h1⟩]
                    cases xs with
                    | nil =>
                      have hw : WkT (e.get p) (.ot id t' []) := by
                        rw [hget]
                        rintro w F β al v (⟨_, _, _, hv⟩ | ⟨h0, _⟩)
                        · exact .inl ⟨rfl, hv⟩
                        grind
                      have hk : (e.put (some p) (.ot id t' [])).kill id = e.kill id := kill_put (by simp [killT]) hkov hlt
                      have hev : evAppendT P G (e.put (some p) (.ot id t' [])) (some d) c = some { ((e.put (some p) (.ot id t' [])).kill id) with tm := ((e.put (some p) (.ot id t' [])).kill id).tm.set d (.ot id t' ([] ++ y :: ys)) } := by
                        have hb' : (2 * (([] : List t'.El).length + (y :: ys).length) + 1024) * info.bytes ≤ 140737488355328 := by grind
                        have hsrc' : srcT (evx G (e.put (some p) (.ot id t' [])) x1) = some ⟨t', y :: ys⟩ := by grind [evx_put_ne]
                        have hdst : dstT t' (evx G (e.put (some p) (.ot id t' [])) (.tmp p)) = some (some id, []) := by
                          simp_all [evx, dstT]
                        simp_all [evAppendT]
                      have := appendT_sim (type := type) (pos := pos) (after := after) (guard := guard) (Q := Q) (hi.putWeak hw) hev
                      grind
                    | cons x xs =>
                      have hw : WkT ((e.mapT T.un).get p) (.ow id t'.size (((x :: xs).take hi0).map t'.enc)) := by
                        rw [get_mapT rfl, hget]
                        rintro w F β al v (⟨h0, _⟩ | ⟨_, ha, h1, h2, cap, hv, hr⟩)
                        · cases h0
                        · refine ⟨ha, cap, ?_, ?_⟩
                          · grind
                          · rw [List.map_take]; exact hr.take hi0
                      have hlt' : p < (e.mapT T.un).tm.length := by grind [Env.mapT]
                      have hkov' : killT id ((e.mapT T.un).get p) = .dead := by rw [get_mapT rfl, hget]; simp [T.un, killT]
                      have hk : ((e.mapT T.un).put (some p) (.ow id t'.size (((x :: xs).take hi0).map t'.enc))).kill id = (e.mapT T.un).kill id := kill_put (by simp [killT]) hkov' hlt'
                      have hsu : elemsT (evx G (e.mapT T.un) x1) = some ((y :: ys).map t'.enc) := by
                        rw [evx_un]
                        unfold srcT at hsrc
                        split at hsrc
                        · rename_i heq
                          simp at hsrc
                          obtain ⟨rfl, hys⟩ := hsrc
                          cases hys
                          rw [heq]; rfl
                        · rename_i i0 ys0 heq
                          simp at hsrc
                          obtain ⟨rfl, hys⟩ := hsrc
                          cases hys
                          rw [heq]; rfl
                        · rename_i i0 xs0 lo0 hi1 heq
                          simp at hsrc
                          obtain ⟨rfl, hys⟩ := hsrc
                          rw [heq]
                          simp only [T.un, elemsT]
                          grind
                        · cases hsrc
                      have hao : appendOk info z ((y :: ys).map t'.enc) = true := by
                        simp only [appendOk, Bool.and_eq_true, decide_eq_true_eq, beq_iff_eq, List.all_eq_true]
                        refine ⟨⟨?_, hby⟩, hzc⟩
                        intro q hq
                        simp only [List.mem_map] at hq
                        obtain ⟨y, _, rfl⟩ := hq
                        grind [enc_len, enc_cells, List.all_eq_true, cells_one]
                      have hev : evAppendN P G ((e.mapT T.un).put (some p) (.ow id t'.size (((x :: xs).take hi0).map t'.enc))) (some id) (some d) c =
                          some { (((e.mapT T.un).put (some p) (.ow id t'.size (((x :: xs).take hi0).map t'.enc))).kill id) with tm := (((e.mapT T.un).put (some p) (.ow id t'.size (((x :: xs).take hi0).map t'.enc))).kill id).tm.set d (.ow id t'.size (((x :: xs).take hi0).map t'.enc ++ (y :: ys).map t'.enc)) } := by
                        have hb' : (2 * ((((x :: xs).take hi0).map t'.enc).length + ((y :: ys).map t'.enc).length) + 1024) * info.bytes ≤ 140737488355328 := by grind
                        have hsu' : elemsT (evx G ((e.mapT T.un).put (some p) (.ow id t'.size (((x :: xs).take hi0).map t'.enc))) x1) = some ((y :: ys).map t'.enc) := by grind [evx_put_ne]
                        have hx0 : evx G ((e.mapT T.un).put (some p) (.ow id t'.size (((x :: xs).take hi0).map t'.enc))) (.tmp p) = .ow id t'.size (((x :: xs).take hi0).map t'.enc) := hgp _ _ hlt'
                        simp_all [evAppendN]
                      refine Oper.wp_mono (fun a' w' hh => ?_) (appendN_sim (hi.un.putWeak hw) hev)
                      rw [hk] at hh
                      refine weak_set ?_ hh
                      have : (T.ot id t' ((x :: xs).take hi0 ++ y :: ys)).un = .ow id t'.size (((x :: xs).take hi0).map t'.enc ++ (y :: ys).map t'.enc) := by
                        simp only [T.un, List.map_append]
                        cases hm : ((x :: xs).take hi0).map t'.enc with
                        | nil => rfl
                        | cons _ _ => rfl
                      grind [WkT.ofUn]
                  · cases h
                · cases h
              · cases h
          · cases h
        · cases h
      · cases h
    · cases h
  · cases h
end
end Go.Ve

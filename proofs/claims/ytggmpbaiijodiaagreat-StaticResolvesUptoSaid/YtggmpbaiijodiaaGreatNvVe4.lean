/-
  The evaluator over pure values, part 4: what the operations that write nothing of old come to in the machine.
-/
import Derived.Test.YtggmpbaiijodiaaGreatNvVe3
namespace Go.Ve
open Go

theorem add_eq (b off i : Nat) : Addr.add ⟨b, off, none⟩ i = ⟨b, off + i, none⟩ := by
  unfold Addr.add; split
  · simp [*]
  · rfl

theorem run_underlying? {P : Program} {t : TypeId} {d : TypeDesc} (h : P.underlying t = some d) (w : World) : (underlying t).run P w = .ok d w := by
  simp [underlying, h]

theorem run_isAgg {P : Program} {t : TypeId} {c : Bool} (h : isAgg? P t = some c) (w : World) : (isAgg t).run P w = .ok c w := by
  unfold isAgg? at h
  cases hu : P.underlying t with
  | none => simp [hu] at h
  | some d => cases d <;> simp [hu] at h <;> subst h <;> simp [isAgg, underlying, hu]

theorem run_typeInfo {P : Program} {t : TypeId} {i : TypeInfo} (h : P.info? t = some i) (w : World) : (typeInfo t).run P w = .ok i w := by
  simp [typeInfo, h]

theorem run_sizeOf {P : Program} {t : TypeId} {n : Nat} (h : size? P t = some n) (w : World) : (sizeOf t).run P w = .ok n w := by
  simp only [size?, Option.map_eq_some_iff] at h
  obtain ⟨i, hi, rfl⟩ := h
  simp [sizeOf, run_typeInfo hi]

theorem size_of_info {P : Program} {t : TypeId} {i : TypeInfo} (h : P.info? t = some i) : size? P t = some i.size := by
  show (P.info? t).map (·.size) = some i.size
  rw [h]; rfl

theorem run_loadCellsFrom {P : Program} {w : World} {b off : Nat} {g : Nat → Value} : ∀ (n i : Nat) (acc : Array Value),
    (∀ m, m < n → w.cell? ⟨b, off + (i + m), none⟩ = some (g (i + m))) →
    (loadCellsFrom ⟨b, off, none⟩ i n acc).run P w = .ok (acc ++ ((List.range n).map (fun m => g (i + m))).toArray) w := by
  intro n
  induction n with
  | zero => intro i acc _; simp [loadCellsFrom]
  | succ n ih =>
    intro i acc h
    have h0 := h 0 (by omega)
    simp only [Nat.add_zero] at h0
    have h1 := ih (i + 1) (acc.push (g i)) (fun m hm => by
      have := h (m + 1) (by omega)
      rw [show i + 1 + m = i + (m + 1) by omega]; exact this)
    simp only [loadCellsFrom, Sem.run_bind, add_eq, run_load, h0, Result.andThen_ok, h1]
    congr 1
    apply Array.ext'
    simp [List.range_succ_eq_map, Function.comp_def, Nat.add_assoc, Nat.add_comm 1]

theorem run_loadCells {P : Program} {w : World} {b off n : Nat} {g : Nat → Value} (h : ∀ m, m < n → w.cell? ⟨b, off + m, none⟩ = some (g m)) :
    (loadCells ⟨b, off, none⟩ n).run P w = .ok ((List.range n).map g).toArray w := by
  have := run_loadCellsFrom (P := P) (w := w) (b := b) (off := off) (g := g) n 0 #[] (fun m hm => by simpa using h m hm)
  simpa [loadCells] using this

theorem run_loadAt_agg {P : Program} {w : World} {t : TypeId} {b off n : Nat} {g : Nat → Value} (ha : isAgg? P t = some true) (hs : size? P t = some n)
    (h : ∀ m, m < n → w.cell? ⟨b, off + m, none⟩ = some (g m)) :
    (Instr.loadAt t (.pointer (some ⟨b, off, none⟩))).run P w = .ok (.agg ((List.range n).map g).toArray) w := by
  simp [Instr.loadAt, Instr.sureAddr, loadVar, run_isAgg ha, run_sizeOf hs, run_loadCells h]

theorem run_loadAt_leaf {P : Program} {w : World} {t : TypeId} {b off : Nat} {x : Value} (ha : isAgg? P t = some false)
    (h : w.cell? ⟨b, off, none⟩ = some x) : (Instr.loadAt t (.pointer (some ⟨b, off, none⟩))).run P w = .ok x w := by
  simp [Instr.loadAt, Instr.sureAddr, loadVar, run_isAgg ha, h]

/-- The table of the callees' contracts. -/
structure Table (Γ : Sig) (P : Program) (G : Nat → Option (List V)) (S : Specs Γ) : Prop where
  ok : ∀ f, FnOk Γ P G f (S f)
  is : ∀ f s ds r, S f s ds = some r → ∃ fn, P.funcs[f]? = some fn ∧ fn.body.isSome = true ∧ (fn.name == "runtime.NumGoroutine") = false

def Fal (F : Nat → Prop) (β : Lay) (al : Site → Prop) (b : Nat) : Prop := F b ∨ ∃ x, al x ∧ β.blk x = b

def OpSim (Γ : Sig) (P : Program) (S : Specs Γ) (o : Oper) (a : Act) (w : World) (F : Nat → Prop) (β : Lay) (al alv : Site → Prop) (st : Γ.St) : R Γ.St → Prop
  | .ret x => ∃ v, (execOp a.eval o).run P w = .ok (.value v) w ∧ TRel w F β al v x
  | .var cs => ∃ (c : Array Value) (et : TypeId), (execOp a.eval o).run P w = .ok (.value (.pointer (some ⟨w.heap.size, 0, none⟩))) { w with heap := w.heap.push (.cells c et) } ∧
      c.size = cs.length ∧ ∀ (i : Nat) (x : Value) (d : T), c[i]? = some x → cs[i]? = some d → TRel w F β al x d
  | .own k es => ∃ (c : Array Value) (et : TypeId) (cap : Nat), (execOp a.eval o).run P w = .ok (.value (.slice (some ⟨w.heap.size, 0, none⟩) es.length cap)) { w with heap := w.heap.push (.cells c et) } ∧
      c.size = cap * k ∧ es.length ≤ cap ∧ (es = [] → cap = 0) ∧ (∀ e, e ∈ es → e.cells.length = k) ∧
      ∀ (i j : Nat) (e d : V) (x : Value), es[i]? = some e → e.cells[j]? = some d → c[i * k + j]? = some x → Rd w F x d
  | .frz es => ∃ (c : Array Value) (et : TypeId) (k : Nat), (execOp a.eval o).run P w = .ok (.value (.slice (some ⟨w.heap.size, 0, none⟩) es.length es.length)) { w with heap := w.heap.push (.cells c et) } ∧
      c.size = es.length * k ∧ (∀ e, e ∈ es → e.cells.length = k) ∧
      ∀ (i j : Nat) (e d : V) (x : Value), es[i]? = some e → e.cells[j]? = some d → c[i * k + j]? = some x → Rd w F x d
  | .call st' view r => ∃ (f : FuncId) (args : Array Value) (ds : List V), (execOp a.eval o).run P w = .ok (.enter f args) w ∧ args.size = ds.length ∧
      (∀ (i : Nat) (x : Value) (d : V), args[i]? = some x → ds[i]? = some d → Rd w (if view then Fal F β alv else F) x d) ∧
      S f st ds = some (st', r) ∧ (view = true → r.plain = true)
  | .frzT t xs => ∃ (es : List V) (c : Array Value) (et : TypeId), (execOp a.eval o).run P w = .ok (.value (.slice (some ⟨w.heap.size, 0, none⟩) es.length es.length)) { w with heap := w.heap.push (.cells c et) } ∧
      c.size = es.length * t.size ∧ (∀ e, e ∈ es → e.cells.length = t.size) ∧
      (∀ (i j : Nat) (e d : V) (x : Value), es[i]? = some e → e.cells[j]? = some d → c[i * t.size + j]? = some x → Rd w F x d) ∧ WkEs es (xs.map t.enc)
  | .ownT t xs => ∃ (es : List V) (c : Array Value) (et : TypeId) (cap : Nat), (execOp a.eval o).run P w = .ok (.value (.slice (some ⟨w.heap.size, 0, none⟩) es.length cap)) { w with heap := w.heap.push (.cells c et) } ∧
      c.size = cap * t.size ∧ es.length ≤ cap ∧ (es = [] → cap = 0) ∧ (∀ e, e ∈ es → e.cells.length = t.size) ∧
      (∀ (i j : Nat) (e d : V) (x : Value), es[i]? = some e → e.cells[j]? = some d → c[i * t.size + j]? = some x → Rd w F x d) ∧ WkEs es (xs.map t.enc)
  | .mk => (execOp a.eval o).run P w = .ok (.value (.map (some w.heap.size))) { w with heap := w.heap.push (.map #[] 0) }

section
variable {Γ : Sig} {P : Program} {G : Nat → Option (List V)} {S : Specs Γ} {e : Env Γ.St} {o : Oper} {a : Act} {w : World} {F : Nat → Prop} {β : Lay} {al : Site → Prop}

theorem flatT_eq {v u : Value} {x : T} (h : TRel w F β al v x) (hx : flatT x = some u) : v = u := by
  cases x <;> simp [flatT] at hx
  exact Rd.eq_toVal h hx

theorem evFlat_sim (hns : ∀ cs b, o.op ≠ .select cs b) (hops : ∀ x, x ∈ o.op.operands → TRel w F β al (a.eval x) (evx G e x)) {r : R Γ.St}
    (h : evFlat P G e o = some r) {st : Γ.St} : OpSim Γ P S o a w F β al al st r := by
  unfold evFlat at h
  split at h
  · rename_i hall
    have hc : execOp a.eval o = execOp (fun x => (flatT (evx G e x)).getD undef) o := by
      apply execOp_congr o hns
      intro x hx
      have h1 := List.all_eq_true.1 hall x (by simpa using hx)
      obtain ⟨u, hu⟩ := Option.isSome_iff_exists.1 h1
      rw [flatT_eq (hops x hx) hu]
      simp [hu]
    split at h
    · rename_i v hv
      simp only [Option.some.injEq] at h
      subst h
      exact ⟨v, by rw [hc]; exact pureIn_run hv w, rd_ofVal w F v⟩
    · cases h
  · cases h

theorem ldV_sim {t : TypeId} {cs : List V} {d : V} {b off : Nat} {g : Nat → Value}
    (hg : ∀ m, m < cs.length → w.cell? ⟨b, off + m, none⟩ = some (g m)) (hr : ∀ (m : Nat) (d : V), cs[m]? = some d → Rd w F (g m) d)
    (h : ldV P t cs = some d) : ∃ v, (Instr.loadAt t (.pointer (some ⟨b, off, none⟩))).run P w = .ok v w ∧ Rd w F v d := by
  unfold ldV at h
  split at h
  · rename_i ha
    split at h
    · rename_i n hn
      split at h
      · rename_i hle
        simp only [Option.some.injEq] at h
        subst h
        refine ⟨_, run_loadAt_agg ha hn (fun m hm => hg m (by omega)), ?_⟩
        refine .agg _ _ (by simp; omega) ?_
        intro i x d h1 h2
        simp only [List.getElem?_toArray, List.getElem?_map, Option.map_eq_some_iff] at h1
        obtain ⟨m, hm, rfl⟩ := h1
        rw [List.getElem?_range] at hm
        · simp only [Option.some.injEq] at hm; subst hm
          rw [List.getElem?_take] at h2
          split at h2
          · exact hr _ _ h2
          · cases h2
        · rw [List.getElem?_take] at h2
          split at h2
          · assumption
          · cases h2
      · cases h
    · cases h
  · rename_i ha
    cases cs with
    | nil => simp at h
    | cons c cs =>
      simp only [List.head?_cons, Option.some.injEq] at h
      subst h
      refine ⟨g 0, run_loadAt_leaf ha ?_, hr 0 c rfl⟩
      simpa using hg 0 (by simp)
  · cases h

theorem pureCells_get : ∀ {cs : List T} {ds : List V}, pureCells cs = some ds → cs = ds.map .p := by
  intro cs
  induction cs with
  | nil => intro ds h; simp [pureCells] at h; subst h; rfl
  | cons c cs ih =>
    intro ds h
    cases c <;> simp [pureCells] at h
    obtain ⟨ds', h1, rfl⟩ := h
    simp [ih h1]

theorem VarRel.at {b : Nat} {cs : List T} (h : VarRel w F β al b cs) (i : Nat) (hi : i < cs.length) :
    ∃ x, w.cell? ⟨b, i, none⟩ = some x ∧ TRel w F β al x cs[i] := by
  obtain ⟨c, et, h1, h2, h3⟩ := h
  have hic : i < c.size := by omega
  refine ⟨c[i], by simp [World.cell?, h1, hic], h3 i _ _ (by simp [hic]) (by simp [hi])⟩

theorem evLoad0_sim (hvars : ∀ s cs, e.var s = some cs → al (.v s) → VarRel w F β al (β.vb s) cs) {t : TypeId} {x : T} {v : Value} {r : R Γ.St}
    (hx : TRel w F β al v x) (h : evLoad0 P e t x = some r) : ∃ u y, r = .ret y ∧ (Instr.loadAt t v).run P w = .ok u w ∧ TRel w F β al u y := by
  unfold evLoad0 at h
  split at h
  · rename_i cs
    simp only [Option.map_eq_some_iff] at h
    obtain ⟨d, hd, rfl⟩ := h
    cases hx with
    | pp b off cs g hF hg hr =>
      obtain ⟨u, h1, h2⟩ := ldV_sim hg hr hd
      exact ⟨u, _, rfl, h1, h2⟩
  · rename_i s off
    obtain ⟨ha, rfl⟩ := hx
    split at h
    · rename_i cs hcs
      have hv := hvars s cs hcs ha
      simp only [Option.map_eq_some_iff] at h
      obtain ⟨y, hy, rfl⟩ := h
      unfold ldT at hy
      split at hy
      · rename_i hagg
        split at hy
        · rename_i n hn
          split at hy
          · rename_i hle
            simp only [Option.map_eq_some_iff] at hy
            obtain ⟨ds, hds, rfl⟩ := hy
            have heq := pureCells_get hds
            simp only [List.length_drop] at hle
            have hlen : ds.length = n := by
              have := congrArg List.length heq
              simp at this; omega
            have hcell : ∀ m, m < n → ∃ x, w.cell? ⟨β.vb s, off + m, none⟩ = some x ∧ ∀ d, ds[m]? = some d → Rd w F x d := by
              intro m hm
              obtain ⟨x, h1, h2⟩ := hv.at (off + m) (by omega)
              refine ⟨x, h1, fun d hd => ?_⟩
              have h3 : ((cs.drop off).take n)[m]? = some (.p d) := by rw [heq]; simp [hd]
              rw [List.getElem?_take, if_pos hm, List.getElem?_drop] at h3
              rw [List.getElem?_eq_getElem (by omega), Option.some.injEq] at h3
              rw [h3] at h2; exact h2
            let g : Nat → Value := fun m => (w.cell? ⟨β.vb s, off + m, none⟩).getD undef
            have hg : ∀ m, m < n → w.cell? ⟨β.vb s, off + m, none⟩ = some (g m) := fun m hm => by
              obtain ⟨x, h1, _⟩ := hcell m hm
              simp [g, h1]
            refine ⟨_, _, rfl, run_loadAt_agg hagg hn hg, ?_⟩
            refine Rd.agg _ _ (by simp [hlen]) ?_
            intro i x d h1 h2
            have hi : i < n := by
              have := (List.getElem?_eq_some_iff.1 h2).1; omega
            simp only [List.getElem?_toArray, List.getElem?_map, Option.map_eq_some_iff] at h1
            obtain ⟨m, hm, rfl⟩ := h1
            rw [List.getElem?_range hi] at hm
            simp only [Option.some.injEq] at hm; subst hm
            obtain ⟨x, h3, h4⟩ := hcell i hi
            simp only [g, h3, Option.getD_some]
            exact h4 d h2
          · cases hy
        · cases hy
      · rename_i hagg
        have hlt : off < cs.length := by
          rcases Nat.lt_or_ge off cs.length with h | h
          · exact h
          · rw [List.drop_eq_nil_of_le h] at hy; simp at hy
        rw [List.head?_drop, List.getElem?_eq_getElem hlt, Option.some.injEq] at hy
        subst hy
        obtain ⟨x, h1, h2⟩ := hv.at off hlt
        exact ⟨x, _, rfl, run_loadAt_leaf hagg h1, h2⟩
      · cases hy
    · cases h
  · rename_i id k es i off
    obtain ⟨ha, hi, cap, rfl, c, et, h1, h2, h3, h4, h5⟩ := hx
    split at h
    · rename_i d0 hd0
      simp only [Option.map_eq_some_iff] at h
      obtain ⟨d, hd, rfl⟩ := h
      have hk := h4 d0 (List.mem_of_getElem? hd0)
      let g : Nat → Value := fun m => (c[i * k + (off + m)]?).getD undef
      have hin : ∀ m, off + m < k → i * k + (off + m) < c.size := by
        intro m hm
        have : (i + 1) * k ≤ cap * k := Nat.mul_le_mul_right k (by omega)
        rw [Nat.succ_mul] at this; omega
      have hlen : (d0.cells.drop off).length = k - off := by simp [hk]
      obtain ⟨u, h6, h7⟩ := ldV_sim (P := P) (w := w) (F := F) (t := t) (cs := d0.cells.drop off) (d := d) (b := β.ob id) (off := i * k + off) (g := g)
        (fun m hm => by
          have := hin m (by omega)
          have e1 : i * k + off + m = i * k + (off + m) := by omega
          simp [World.cell?, h1, g, e1, this])
        (fun m d' hd' => by
          rw [List.getElem?_drop] at hd'
          have hlt : off + m < d0.cells.length := (List.getElem?_eq_some_iff.1 hd').1
          have := hin m (by omega)
          exact h5 i (off + m) d0 d' _ hd0 hd' (by simp [g, this])) hd
      exact ⟨u, _, rfl, h6, h7⟩
    · cases h
  · cases h

theorem evLoad_sim (hvars : ∀ s cs, e.var s = some cs → al (.v s) → VarRel w F β al (β.vb s) cs) {t : TypeId} {x : T} {v : Value} {r : R Γ.St}
    (hx : TRel w F β al v x) (h : evLoad P e t x = some r) : ∃ u y, r = .ret y ∧ (Instr.loadAt t v).run P w = .ok u w ∧ TRel w F β al u y := by
  cases x with
  | oet id ty xs i off =>
    refine evLoad0_sim hvars (TRel_un.1 hx) ?_
    simp only [evLoad] at h
    simp only [T.un, evLoad0, List.getElem?_map]
    cases hxi : xs[i]? with
    | none => rw [hxi] at h; cases h
    | some x => rw [hxi] at h; simp only [Option.map_some, enc_cells]; exact h
  | _ => exact evLoad0_sim hvars hx h
end
end Go.Ve

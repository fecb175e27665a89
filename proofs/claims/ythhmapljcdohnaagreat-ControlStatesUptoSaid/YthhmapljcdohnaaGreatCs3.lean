/-
  The evaluator over pure values, part 6: slicing, building, calling; all operations that write nothing of old.
  The evaluator over pure values, part 7: every operation that writes nothing of old.
  The evaluator over pure values, part 8: one operation in the machine; the state behind it.
-/
import Derived.LaidEql
import Derived.Test.YthhmapljcdohnaaGreatCs2
set_option linter.unusedVariables false
namespace Go.Ve
open Go

section
variable {Γ : Sig} {P : Program} {G : Nat → Option (List V)} {S : Specs Γ} {e : Env Γ.St} {o : Oper} {a : Act} {w : World} {F : Blk → Prop} {β : Lay} {al : Site → Prop} {st : Γ.St}

theorem run_mapM {α γ : Type} {f : α → Sem γ} {g : α → γ} : ∀ (l : List α), (∀ x, x ∈ l → (f x).run P w = .ok (g x) w) → (l.mapM f).run P w = .ok (l.map g) w := by
  intro l
  induction l with
  | nil => intro _; rfl
  | cons x l ih =>
    simp_all

theorem boundV_sim {x : T} {v : Value} {dflt top y h : Nat} (hx : TRel w F β al v x) (hb : boundV (some x) dflt top = some h) (hy : top ≤ y) (code : BoundsCode) :
    (Instr.sliceBound v y code).run P w = .ok h w ∧ h ≤ top := by
  unfold boundV at hb
  split at hb
  · grind
  · rename_i k i heq
    cases heq
    split at hb
    · rename_i hc
      cases hb
      have := Rd.eq_val hx
      subst this
      refine ⟨?_, by omega⟩
      simp [Instr.sliceBound, asIntOf, hc.1, show i ≤ (y : Int) by omega]
    · cases hb
  · cases hb

theorem rd_sub {b off cap k : Nat} {es : List V} {g : Nat → Value} (hF : F b) (hcap : es.length ≤ cap) (hk : ∀ e, e ∈ es → e.cells.length = k)
    (hg : ∀ m, m < es.length * k → w.cell? ⟨b, off + m, none⟩ = some (g m))
    (hr : ∀ (i j : Nat) (e d : V), es[i]? = some e → e.cells[j]? = some d → Rd w F (g (i * k + j)) d) {l h : Nat} (hh : h ≤ es.length) (hl : l ≤ h) :
    Rd w F (.slice (some ⟨b, off + l * k, none⟩) (h - l) (cap - l)) (.sl ((es.take h).drop l)) := by
  have hlen : ((es.take h).drop l).length = h - l := by simp; omega
  rw [← hlen]
  refine .sl b (off + l * k) (cap - l) k _ (fun m => g (l * k + m)) hF (by omega) ?_ ?_ ?_
  · grind
  · intro m hm
    rw [hlen] at hm
    rw [Nat.add_assoc]
    refine hg _ ?_
    have h1 : h * k ≤ es.length * k := Nat.mul_le_mul_right k hh
    grind [Nat.sub_mul, Nat.mul_le_mul_right]
  grind

theorem evSlice_sim {t : TypeId} {es : List V} {v : Value} {lo hi mx : Option Operand} {r : R Γ.St} (hx : Rd w F v (.sl es))
    (hlo : ∀ x, lo = some x → TRel w F β al (a.eval x) (evx G e x)) (hhi : ∀ x, hi = some x → TRel w F β al (a.eval x) (evx G e x))
    (hmx : ∀ x, mx = some x → TRel w F β al (a.eval x) (evx G e x))
    (h : evSlice P t es (lo.map (evx G e)) (hi.map (evx G e)) (mx.map (evx G e)) = some r) :
    ∃ u y, r = .ret y ∧ (Instr.sliceAt t v (lo.map a.eval) (hi.map a.eval) (mx.map a.eval)).run P w = .ok u w ∧ TRel w F β al u y := by
  unfold evSlice at h
  split at h
  · rename_i el hu
    cases mx with
    | none =>
      simp at h ⊢
      split at h
      · rename_i hN hbh
        split at h
        · rename_i lN hbl
          split at h
          · rename_i z hz
            obtain ⟨a0, cap, hv, hcap⟩ := rd_sl_len hx
            have hh : hN ≤ es.length ∧ ∀ code, (match hi.map a.eval, (none : Option Value) with
                | some v, some _ => Instr.sliceBound v cap .slice3B
                | some v, none => Instr.sliceBound v cap code
                | none, none => pure es.length
                | none, some _ => stuck "Slice: max without high").run P w = .ok hN w := by
              cases hi with
              | none => simp [boundV] at hbh; simp_all
              | some x =>
                have := boundV_sim (P := P) (hhi x rfl) hbh hcap
                exact ⟨(this .index).2, fun code => (this code).1⟩
            have hl : lN ≤ hN ∧ ∀ code, (match lo.map a.eval with
                | some v => Instr.sliceBound v hN code
                | none => pure 0).run P w = .ok lN w := by
              cases lo with
              | none => cases hbl; simp_all
              | some x =>
                have := boundV_sim (P := P) (hlo x rfl) hbl (Nat.le_refl _)
                exact ⟨(this .index).2, fun code => (this code).1⟩
            have hrun : (Instr.sliceAt t v (lo.map a.eval) (hi.map a.eval) none).run P w = .ok (.slice (if cap = lN then a0 else a0.map (·.add (lN * z))) (hN - lN) (cap - lN)) w := by
              subst hv
              have h1 := hh.2 .sliceAcap
              have h2 := hl.2 .sliceB
              have hsb : (Instr.sliceBounds true es.length cap (lo.map a.eval) (hi.map a.eval) none).run P w = .ok (lN, hN, cap) w := by
                simp only [Instr.sliceBounds, Sem.run_bind, Sem.run_pure, Result.andThen_ok]
                cases hi <;> cases lo <;> simp_all
              simp [Instr.sliceAt, Instr.slice, run_underlying? hu, hsb, run_sizeOf hz]
            have hres : ∃ u, (Instr.sliceAt t v (lo.map a.eval) (hi.map a.eval) none).run P w = .ok u w ∧ Rd w F u (.sl ((es.take hN).drop lN)) ∧ r = .ret (.p (.sl ((es.take hN).drop lN))) := by
              refine ⟨_, hrun, ?_⟩
              cases hx with
              | slemp a1 cap1 =>
                simp at hv
                obtain ⟨rfl, rfl⟩ := hv
                simp at hh hl
                obtain ⟨rfl, _⟩ := hh
                obtain ⟨hl0, _⟩ := hl
                obtain rfl : lN = 0 := by omega
                refine ⟨?_, by grind⟩
                simp
                exact .slemp _ _
              | sl b off cap' k es g hF hcap' hk hg hr =>
                simp at hv
                obtain ⟨rfl, rfl⟩ := hv
                have hlen : ((es.take hN).drop lN).length = hN - lN := by simp; omega
                cases hd : es[lN]? with
                | some d =>
                  simp only [hd] at h
                  split at h
                  · rename_i hdz
                    have hkz : k = z := by grind
                    subst hkz
                    simp at h
                    refine ⟨?_, h.symm⟩
                    have hlt := (List.getElem?_eq_some_iff.1 hd).1
                    rw [if_neg (by omega)]
                    simp_all [add_eq, rd_sub]
                  · cases h
                | none =>
                  simp [hd] at h
                  have hge := List.getElem?_eq_none_iff.1 hd
                  have hnil : (es.take hN).drop lN = [] := List.eq_nil_of_length_eq_zero (by omega)
                  rw [hnil]
                  refine ⟨?_, h.symm⟩
                  have h0 : hN - lN = 0 := by omega
                  rw [h0]
                  have hsome : ∃ off', (if cap' = lN then some (⟨b, off, none⟩ : Addr) else Option.map (fun x : Addr => x.add (lN * z)) (some (⟨b, off, none⟩ : Addr))) = some (⟨b, off', none⟩ : Addr) := by
                    split
                    · grind
                    grind [add_eq]
                  obtain ⟨off', ho⟩ := hsome
                  rw [ho]
                  exact Rd.sl b off' _ 0 [] (fun _ => undef) hF (by simp) (by simp) (by simp) (by simp)
            obtain ⟨u, hu1, hu2, hu3⟩ := hres
            exact ⟨u, _, hu3, hu1, hu2⟩
          · cases h
        · cases h
      · cases h
    | some m0 =>
      simp at h ⊢
      have hm := hmx m0 rfl
      split at h
      · grind
      · rename_i km heq
        simp at heq
        rw [heq] at hm
        have hm' := Rd.eq_val hm
        split at h
        · rename_i kh hhi0 hlo0
          cases hi with
          | none => simp at hhi0
          | some h0 =>
            cases lo with
            | some l0 => simp at hlo0
            | none =>
              simp at hhi0
              have hh := hhi h0 rfl
              rw [hhi0] at hh
              have hh' := Rd.eq_val hh
              split at h
              · rename_i z hz
                cases h
                obtain ⟨a0, cap, hv, _⟩ := rd_sl_len hx
                refine ⟨.slice a0 0 0, .emp, rfl, ?_, a0, rfl⟩
                · subst hv
                  simp [Instr.sliceAt, Instr.slice, run_underlying? hu, Instr.sliceBounds, Instr.sliceBound, asIntOf, hm', hh', run_sizeOf hz]
              · cases h
        · cases h
      · cases h
  · cases h

theorem slice_run {t el : TypeId} {v : Value} {a0 : Option Addr} {n cap z hN lN : Nat} {lo hi : Option Operand} (hv : v = .slice a0 n cap) (hcap : n ≤ cap) (hu : P.underlying t = some (.slice el)) (hz : size? P el = some z)
    (hlo : ∀ x, lo = some x → TRel w F β al (a.eval x) (evx G e x)) (hhi : ∀ x, hi = some x → TRel w F β al (a.eval x) (evx G e x))
    (hbh : boundV (hi.map (evx G e)) n n = some hN) (hbl : boundV (lo.map (evx G e)) 0 hN = some lN) :
    hN ≤ n ∧ lN ≤ hN ∧ (Instr.sliceAt t v (lo.map a.eval) (hi.map a.eval) none).run P w = .ok (.slice (if cap = lN then a0 else a0.map (·.add (lN * z))) (hN - lN) (cap - lN)) w := by
  have hh : hN ≤ n ∧ ∀ code, (match hi.map a.eval, (none : Option Value) with
      | some v, some _ => Instr.sliceBound v cap .slice3B
      | some v, none => Instr.sliceBound v cap code
      | none, none => pure n
      | none, some _ => stuck "Slice: max without high").run P w = .ok hN w := by
    cases hi with
    | none => simp [boundV] at hbh; simp_all
    | some x =>
      have := boundV_sim (P := P) (hhi x rfl) hbh hcap
      exact ⟨(this .index).2, fun code => (this code).1⟩
  have hl : lN ≤ hN ∧ ∀ code, (match lo.map a.eval with
      | some v => Instr.sliceBound v hN code
      | none => pure 0).run P w = .ok lN w := by
    cases lo with
    | none => cases hbl; simp_all
    | some x =>
      have := boundV_sim (P := P) (hlo x rfl) hbl (Nat.le_refl _)
      exact ⟨(this .index).2, fun code => (this code).1⟩
  refine ⟨hh.1, hl.1, ?_⟩
  subst hv
  have h1 := hh.2 .sliceAcap
  have h2 := hl.2 .sliceB
  have hsb : (Instr.sliceBounds true n cap (lo.map a.eval) (hi.map a.eval) none).run P w = .ok (lN, hN, cap) w := by
    simp only [Instr.sliceBounds, Sem.run_bind, Sem.run_pure, Result.andThen_ok]
    cases hi <;> cases lo <;> simp_all
  simp [Instr.sliceAt, Instr.slice, run_underlying? hu, hsb, run_sizeOf hz]

theorem evSliceO_sim {t : TypeId} {id : Nat} {ty : Ty} {xs : List ty.El} {v : Value} {lo hi mx : Option Operand} {r : R Γ.St} (hx : TRel w F β al v (.ot id ty xs))
    (hlo : ∀ x, lo = some x → TRel w F β al (a.eval x) (evx G e x)) (hhi : ∀ x, hi = some x → TRel w F β al (a.eval x) (evx G e x))
    (h : evSliceO P t id ty xs (lo.map (evx G e)) (hi.map (evx G e)) (mx.map (evx G e)) = some r) :
    ∃ u y, r = .ret y ∧ (Instr.sliceAt t v (lo.map a.eval) (hi.map a.eval) (mx.map a.eval)).run P w = .ok u w ∧ TRel w F β al u y := by
  unfold evSliceO at h
  split at h
  · rename_i el hu
    split at h
    · rename_i hz
      split at h
      · rename_i hmn
        obtain rfl : mx = none := by simp_all
        split at h
        · rename_i hN hbh
          split at h
          · rename_i lN hbl
            cases h
            rcases hx with ⟨h0, a0, hv⟩ | ⟨hne, ha, cap, hv, hrow⟩
            · have h0 : xs = [] := List.map_eq_nil_iff.1 h0
              subst h0
              obtain ⟨h1, h2, h3⟩ := slice_run (a := a) (G := G) (e := e) hv (by simp) hu hz hlo hhi hbh hbl
              have h1 : hN ≤ 0 := h1
              obtain rfl : hN = 0 := by omega
              obtain rfl : lN = 0 := by omega
              exact ⟨_, _, rfl, h3, .inl ⟨rfl, rfl, rfl, _, rfl⟩⟩
            · have hne' : xs ≠ [] := fun h => hne (by rw [h]; rfl)
              have hcap : xs.length ≤ cap := by
                obtain ⟨c, et, g1, g2, g3, g4, g5⟩ := hrow
                simpa using g3
              obtain ⟨h1, h2, h3⟩ := slice_run (a := a) (G := G) (e := e) (n := xs.length) (by simpa using hv) hcap hu hz hlo hhi hbh hbl
              refine ⟨_, _, rfl, h3, .inr ⟨hne', ha, h2, h1, cap, ?_, hrow⟩⟩
              grind [add_eq]
          · cases h
        · cases h
      · cases h
    · cases h
  · cases h

theorem evSliceT_sim {t : TypeId} {ty : Ty} {xs : List ty.El} {v : Value} {lo hi mx : Option Operand} {r : R Γ.St} (hx : Rd w F v (.tl ty xs))
    (hlo : ∀ x, lo = some x → TRel w F β al (a.eval x) (evx G e x)) (hhi : ∀ x, hi = some x → TRel w F β al (a.eval x) (evx G e x))
    (hmx : ∀ x, mx = some x → TRel w F β al (a.eval x) (evx G e x))
    (h : evSliceT P t ty xs (lo.map (evx G e)) (hi.map (evx G e)) (mx.map (evx G e)) = some r) :
    ∃ u y, r = .ret y ∧ (Instr.sliceAt t v (lo.map a.eval) (hi.map a.eval) (mx.map a.eval)).run P w = .ok u w ∧ TRel w F β al u y := by
  unfold evSliceT at h
  split at h
  · rename_i el hu
    have hu' : P.underlying t = some (.slice el) := hu
    split at h
    · rename_i hz
      split at h
      · rename_i hmn
        split at h
        · rename_i hN hbh
          split at h
          · rename_i lN hbl
            cases h
            obtain ⟨u, y, h1, h2, h3⟩ := evSlice_sim (P := P) (t := t) (Γ := Γ) (lo := lo) (hi := hi) (mx := mx) (r := .ret (.p (.sl (((xs.map ty.enc).take hN).drop lN)))) (Rd.untl hx) hlo hhi hmx (by
              simp only [evSlice, hu', hmn, List.length_map, hbh, hbl, hz]
              cases hl : (xs.map ty.enc)[lN]? with
              | none =>
                have : ((xs.map ty.enc).take hN).drop lN = [] := by
                  rw [List.getElem?_eq_none_iff] at hl
                  exact List.eq_nil_of_length_eq_zero (by grind)
                simp [this]
              | some d =>
                simp at hl
                obtain ⟨x, _, rfl⟩ := hl
                simp [enc_len])
            cases h1
            have h4 : Rd w F u (.sl (((xs.map ty.enc).take hN).drop lN)) := h3
            refine ⟨u, _, rfl, h2, .tl _ _ _ ?_⟩
            simp_all
          · cases h
        · cases h
      · cases h
    · cases h
  · cases h

theorem evBuild_sim {t : TypeId} {parts : Array (Nat × Operand)} {qs : List (Nat × V)} {r : R Γ.St} (hp : ∀ p, p ∈ parts.toList → TRel w F β al (a.eval p.2) (evx G e p.2))
    (hq : purePairs G e parts.toList = some qs) (h : evBuild P t qs = some r) :
    ∃ u y, r = .ret y ∧ (Instr.build t (parts.map fun (i, x) => (i, a.eval x))).run P w = .ok u w ∧ TRel w F β al u y := by
  obtain ⟨hl, hr⟩ := purePairs_sim parts.toList qs hp hq
  unfold evBuild at h
  split at h
  · rename_i z hz
    simp only [Option.bind_eq_some_iff] at hz
    obtain ⟨info, hi, hz⟩ := hz
    have hz0 := rd_cells (rd_ofVal1 w F z) (by cases z <;> rfl)
    have hzero : Cells w F z.cells (V.ofVal1 z).cells := hz0
    have hzv : (zeroValue t).run P w = .ok z w := by simp [zeroValue, run_typeInfo hi, hz]
    split at h
    · rename_i fs hu
      split at h
      · rename_i hall
        simp only [Option.map_eq_some_iff] at h
        obtain ⟨cs, hcs, rfl⟩ := h
        have hpl : (fs.mapM fun f => do pure (f.offset, ← sizeOf f.type) : Sem (Array (Nat × Nat))).run P w = .ok (fs.map fun f => (f.offset, (size? P f.type).getD 0)) w := by
          rw [Array.mapM_eq_mapM_toList]
          simp only [Sem.run_map]
          rw [run_mapM (g := fun f : Field => (f.offset, (size? P f.type).getD 0))]
          · simp only [Result.andThen_ok]
            congr 1
            grind
          · intro f hf
            obtain ⟨n, hn⟩ := Option.isSome_iff_exists.1 (List.all_eq_true.1 hall f hf)
            simp [run_sizeOf hn, hn]
        obtain ⟨c', hc1, hc2⟩ := fillV_sim (w := w) (F := F) _ _ qs z.cells _ cs hl hr hzero hcs
        refine ⟨.agg c', _, rfl, ?_, Rd.agg c' cs hc2.1 hc2.2⟩
        simp only [Instr.build, Sem.run_bind, hzv, Result.andThen_ok, run_underlying? hu, hpl]
        simp only [Array.toList_map]
        rw [hc1]
        rfl
      · cases h
    · rename_i n0 el hu
      split at h
      · rename_i n hn
        simp at h
        obtain ⟨cs, hcs, rfl⟩ := h
        obtain ⟨c', hc1, hc2⟩ := fillV_sim (w := w) (F := F) _ _ qs z.cells _ cs hl hr hzero hcs
        refine ⟨.agg c', _, rfl, ?_, Rd.agg c' cs hc2.1 hc2.2⟩
        simp only [Instr.build, Sem.run_bind, hzv, Result.andThen_ok, run_underlying? hu, run_sizeOf hn]
        simp
        rw [hc1]
        rfl
      · cases h
    · cases h
  · cases h

theorem Row_rd {b k cap : Nat} {es : List V} (h : RowRel w F b k cap es) {F' : Blk → Prop} (hF : ∀ b, F b → F' b) (hb : F' b) : Rd w F' (.slice (some ⟨b, 0, none⟩) es.length cap) (.sl es) := by
  obtain ⟨c, et, h1, h2, h3, h4, h5⟩ := h
  have hle : es.length * k ≤ cap * k := Nat.mul_le_mul_right k h3
  refine .sl b 0 cap k es (fun m => (c[m]?).getD undef) hb h3 h4 ?_ ?_
  · grind [World.cell?]
  · intro i j e d hi hj
    have hi' := (List.getElem?_eq_some_iff.1 hi).1
    have hj' := (List.getElem?_eq_some_iff.1 hj).1
    have hk := h4 e (List.mem_of_getElem? hi)
    have : (i + 1) * k ≤ cap * k := Nat.mul_le_mul_right k (by omega)
    rw [Nat.succ_mul] at this
    have hlt : i * k + j < c.size := by omega
    exact (h5 i j e d _ hi hj (by simp [hlt])).mono hF (fun _ _ => rfl)

theorem Var_rd {b : Nat} {cs : List T} {ds : List V} (h : VarRel w F β al b cs) {F' : Blk → Prop} (hF : ∀ b, F b → F' b) (hb : F' b) {off : Nat}
    (hp : pureCells (cs.drop off) = some ds) : Rd w F' (.pointer (some ⟨b, off, none⟩)) (.pp ds) := by
  have heq := pureCells_get hp
  have hlen : ds.length = cs.length - off := by
    have := congrArg List.length heq
    grind
  have hat : ∀ m, m < ds.length → ∃ x, w.cell? ⟨b, off + m, none⟩ = some x ∧ ∀ d, ds[m]? = some d → Rd w F x d := by
    intro m hm
    obtain ⟨x, h1, h2⟩ := h.at (off + m) (by omega)
    refine ⟨x, h1, fun d hd => ?_⟩
    have h3 : (cs.drop off)[m]? = some (.p d) := by grind
    rw [List.getElem?_drop, List.getElem?_eq_getElem (by omega), Option.some.injEq] at h3
    rw [h3] at h2; exact h2
  refine .pp b off ds (fun m => (w.cell? ⟨b, off + m, none⟩).getD undef) hb ?_ ?_
  · grind
  · intro m d hd
    obtain ⟨x, h1, h2⟩ := hat m (List.getElem?_eq_some_iff.1 hd).1
    simp [h1]
    exact (h2 d hd).mono hF (fun _ _ => rfl)

theorem argV_sim (hvars : ∀ s cs, e.var s = some cs → al (.v s) → VarRel w F β al (β.vb s) cs) {v : Value} {x : T} {d : V} (hx : TRel w F β al v x) (h : argV e x = some d) :
    Rd w (Fal F β al) v d ∧ (x.isView = false → Rd w F v d) := by
  cases x with
  | p d' =>
    simp [argV] at h
    subst h
    exact ⟨Rd.mono hx (fun b hb => .inl hb) (fun _ _ => rfl), fun _ => hx⟩
  | ow id k es =>
    cases h
    obtain ⟨ha, cap, rfl, hrow⟩ := hx
    exact ⟨Row_rd hrow (fun b hb => .inl hb) (.inr ⟨.o id, ha, rfl⟩), fun hv => by simp [T.isView] at hv⟩
  | oe id k es i off => simp [argV] at h
  | lp s off =>
    simp only [argV] at h
    split at h
    · rename_i cs hcs
      simp at h
      obtain ⟨ds, hds, rfl⟩ := h
      obtain ⟨ha, rfl⟩ := hx
      exact ⟨Var_rd (hvars s cs hcs ha) (fun b hb => .inl hb) (.inr ⟨.v s, ha, rfl⟩) hds, fun hv => by simp [T.isView] at hv⟩
    · cases h
  | emp =>
    cases h
    obtain ⟨a0, rfl⟩ := hx
    exact ⟨.slemp a0 0, fun _ => .slemp a0 0⟩
  | mp id es ck => simp [argV] at h
  | ot id t xs =>
    cases h
    refine ⟨?_, fun hv => by simp [T.isView] at hv⟩
    refine .tl t xs v ?_
    rcases hx with ⟨h0, a0, rfl⟩ | ⟨hne, ha, cap, rfl, hrow⟩
    · rw [h0]; exact .slemp a0 0
    · exact Row_rd hrow (fun b hb => .inl hb) (.inr ⟨.o id, ha, rfl⟩)
  | oet id t xs i off => simp [argV] at h
  | ov id t xs lo hi => simp [argV] at h
  | on n => simp [argV] at h
  | dead => simp [argV] at h

theorem argsV_sim (hvars : ∀ s cs, e.var s = some cs → al (.v s) → VarRel w F β al (β.vb s) cs) : ∀ (xs : List Operand) (ds : List V),
    (∀ x, x ∈ xs → TRel w F β al (a.eval x) (evx G e x)) → argsV G e xs = some ds → xs.length = ds.length ∧
    ∀ (i : Nat) (x : Value) (y : V), (xs.map a.eval)[i]? = some x → ds[i]? = some y → Rd w (Fal F β al) x y ∧ (xs.any (fun x => (evx G e x).isView) = false → Rd w F x y) := by
  intro xs
  induction xs with
  | nil => intro qs _ h; simp [argsV] at h; grind
  | cons x xs ih =>
    intro qs hr h
    simp only [argsV] at h
    split at h
    · rename_i d ds hd hds
      cases h
      obtain ⟨h1, h2⟩ := ih ds (fun p hp => hr p (List.mem_cons_of_mem _ hp)) hds
      refine ⟨by simpa using h1, ?_⟩
      grind [argV_sim]
    · cases h

theorem mkElems_len (ag : Bool) (k : Nat) : ∀ (n : Nat) (flat : List V), (mkElems ag k n flat).length = n := by
  intro n
  induction n with
  | zero => intro _; rfl
  | succ n ih => grind [mkElems]

theorem mkElems_get (ag : Bool) (k : Nat) : ∀ (n : Nat) (flat : List V) (i : Nat) (q : V), flat.length = n * k → (ag = false → k = 1) → (ag = true ∨ ∀ d, d ∈ flat → d.noAgg = true) → k ≠ 0 →
    (mkElems ag k n flat)[i]? = some q → q.cells.length = k ∧ ∀ j d, q.cells[j]? = some d → flat[i * k + j]? = some d := by
  intro n
  induction n with
  | zero => grind [mkElems]
  | succ n ih =>
    intro flat i q hl hk hone hk0 h
    rw [Nat.succ_mul] at hl
    cases i with
    | zero =>
      cases h
      cases ag with
      | true =>
        simp_all [List.getElem?_take, V.cells]
      | false =>
        obtain rfl := hk rfl
        cases flat with
        | nil => simp at hl
        | cons d0 flat =>
          simp only [Bool.false_eq_true, if_false, List.head?_cons, Option.getD_some]
          have h1 := hone.resolve_left (by simp) d0 (by simp)
          have hc : d0.cells = [d0] := by cases d0 <;> simp_all [V.noAgg, V.cells]
          grind
    | succ i =>
      simp [mkElems] at h
      have := ih (flat.drop k) i q (by simp; omega) hk (hone.imp id (fun hh d hd => hh d (List.mem_of_mem_drop hd))) hk0 h
      grind

theorem evBuildSlice_sim {t : TypeId} {len : Nat} {parts : Array (Nat × Operand)} {qs : List (Nat × V)} {r : R Γ.St} {dst : Option Tmp} {type : TypeId} {pos : String} {after : Array Edge} {guard : Option (Nat × Bool)}
    (hp : ∀ p, p ∈ parts.toList → TRel w F β al (a.eval p.2) (evx G e p.2)) (hq : purePairs G e parts.toList = some qs) (h : evBuildSlice P t len qs = some r) :
    OpSim Γ P S ⟨dst, .buildSlice t len parts, type, pos, after, guard⟩ a w F β al al st r := by
  obtain ⟨hl, hr⟩ := purePairs_sim parts.toList qs hp hq
  unfold evBuildSlice at h
  split at h
  · rename_i el hu
    split at h
    · rename_i info hi
      split at h
      · rename_i z ag hz hag
        split at h
        · rename_i hcond
          obtain ⟨h24, hzl, hs0, hag1⟩ := hcond
          split at h
          · rename_i flat hflat
            split at h
            · rename_i hone
              obtain ⟨hz1, hz2⟩ := rd_cells (rd_ofVal1 w F z) (by cases z <;> rfl)
              have hzs : z.cells.size = info.size := by omega
              have hzero : Cells w F ((Array.range (len * info.size)).map (fun i => z.cells[i % z.cells.size]!)) ((List.range (len * info.size)).map (fun i => ((V.ofVal1 z).cells[i % info.size]?).getD (.val undef))) := by
                refine ⟨by simp, ?_⟩
                intro i x y hx hy
                simp at hy
                obtain ⟨m, hm, rfl⟩ := hy
                have hlt : i < len * info.size := by grind
                rw [List.getElem?_range hlt, Option.some.injEq] at hm
                subst hm
                simp [hlt] at hx
                grind [Nat.mod_lt, Nat.pos_of_ne_zero, List.getElem?_eq_getElem, Array.getElem?_eq_getElem, V.ofVal1]
              obtain ⟨c', hc1, hc2⟩ := fillV_sim (w := w) (F := F) _ _ qs _ _ flat hl hr hzero hflat
              have hflen : flat.length = len * info.size := by
                have := hc2.1
                have hfs : ∀ (ps : List (Nat × Value)) (c c' : Array Value) (pl : Nat → Option (Nat × Nat)), Instr.fill pl c ps = some c' → c'.size = c.size := by
                  intro ps
                  induction ps with
                  | nil => grind [Instr.fill]
                  | cons p ps ih =>
                    intro c c' pl h
                    obtain ⟨i, v⟩ := p
                    simp only [Instr.fill] at h
                    split at h
                    · cases h
                    · split at h
                      · cases h
                      · have h3 := ih _ _ _ h
                        rw [h3]
                        have hfold : ∀ (l : List (Value × Nat)) (off : Nat) (c : Array Value), (l.foldl (fun cs (x : Value × Nat) => cs.setIfInBounds (off + x.2) x.1) c).size = c.size := by
                          intro l
                          induction l with
                          | nil => intro off c; rfl
                          | cons x l ih => intro off c; simp [ih]
                        rw [← Array.foldl_toList]
                        exact hfold _ _ _
                grind
              have hget := fun i q hq => mkElems_get ag info.size len flat i q hflen hag1 (by
                grind) hs0 hq
              have hlen := mkElems_len ag info.size len flat
              have hrow : ∃ (c : Array Value) (et : TypeId), (execOp a.eval ⟨dst, .buildSlice t len parts, type, pos, after, guard⟩).run P w = .ok (.value (.slice (some ⟨w.heap.size, 0, none⟩) (mkElems ag info.size len flat).length (mkElems ag info.size len flat).length)) { w with heap := w.heap.push (.cells c et) } ∧
                  c.size = (mkElems ag info.size len flat).length * info.size ∧ (∀ e, e ∈ (mkElems ag info.size len flat) → e.cells.length = info.size) ∧
                  ∀ (i j : Nat) (e d : V) (x : Value), (mkElems ag info.size len flat)[i]? = some e → e.cells[j]? = some d → c[i * info.size + j]? = some x → Rd w F x d := by
               refine ⟨c', el, ?_, ?_, ?_, ?_⟩
               · have hzv : (zeroValue el).run P w = .ok z w := by simp [zeroValue, run_typeInfo hi, hz]
                 have hsz : (sizeOf el).run P w = .ok info.size w := run_sizeOf (size_of_info hi) w
                 rw [hlen]
                 simp only [execOp, Instr.buildSlice, Sem.run_bind, run_underlying? hu, Result.andThen_ok, hsz]
                 rw [if_neg (by omega)]
                 by_cases h0 : len * info.size = 0
                 · have hrange : ∀ f : Nat → Value, (Array.range (len * info.size)).map f = #[] := by grind
                   rw [hrange] at hc1
                   simp only [hrange]
                   simp only [h0, if_true, Sem.run_bind, Sem.run_pure, Result.andThen_ok, Array.toList_map]
                   rw [hc1]
                   rfl
                 · simp only [h0, if_false, Sem.run_bind, hzv, Result.andThen_ok, Sem.run_pure]
                   simp only [Array.toList_map]
                   rw [hc1]
                   rfl
               · rw [hlen]; rw [hc2.1]; exact hflen
               · intro q hq
                 obtain ⟨i, hi', rfl⟩ := List.getElem_of_mem hq
                 exact (hget i _ (List.getElem?_eq_getElem hi')).1
               · intro i j q d x hi' hj hx
                 exact hc2.2 _ x d hx ((hget i q hi').2 j d hj)
              obtain ⟨c, et, h1, h2, h3, h4⟩ := hrow
              have hfrz : OpSim Γ P S ⟨dst, .buildSlice t len parts, type, pos, after, guard⟩ a w F β al al st (.frz (mkElems ag info.size len flat)) := ⟨c, et, info.size, h1, h2, h3, h4⟩
              split at h
              · rename_i h0
                cases h
                subst h0
                exact ⟨c, et, 0, by grind, by grind, by simp, by simp, by simp, by simp⟩
              · split at h
                · rename_i ty hty
                  split at h
                  · rename_i hsz
                    split at h
                    · rename_i xs hxs
                      cases h
                      exact ⟨_, c, et, h1, by grind, by grind, by grind, decs_cells hxs⟩
                    grind
                  grind
                grind
            · cases h
          · cases h
        · cases h
      · cases h
    · cases h
  · cases h

theorem some_sim {v : Value} {x : T} (h : TRel w F β al v x) (hx : x.thereS = true) : ∃ (ad : Addr) (n c : Nat), v = .slice (some ad) n c := by
  cases x with
  | p d =>
    cases d with
    | sl es =>
      cases es with
      | nil => cases hx
      | cons x es => exact rd_sl_some h
    | tl t xs =>
      cases xs with
      | nil => cases hx
      | cons x es => exact rd_sl_some (Rd.untl h)
    | _ => cases hx
  | ow id k es => obtain ⟨ha, cap, hv, _⟩ := h; grind
  | _ => cases hx

theorem equal_nil {t el : TypeId} {ad : Addr} {n c n' c' : Nat} (hu : (underlying t).run P w = .ok (.slice el) w) :
    (Op.equal t (.slice (some ad) n c) (.slice none n' c')).run P w = .ok false w := by
  show (Op.equalIn (9999 + 1) t (.slice (some ad) n c) (.slice none n' c')).run P w = .ok false w
  unfold Op.equalIn
  simp only [Sem.run_bind, hu, Result.andThen_ok]
  rfl

theorem equal_ptr {t el : TypeId} {ad : Addr} (hu : (underlying t).run P w = .ok (.pointer el) w) :
    (Op.equal t (.pointer (some ad)) (.pointer none)).run P w = .ok false w := by
  show (Op.equalIn (9999 + 1) t (.pointer (some ad)) (.pointer none)).run P w = .ok false w
  unfold Op.equalIn
  simp only [Sem.run_bind, hu, Result.andThen_ok]
  rfl

theorem evNil_sim {op : BinOp} {t t' : TypeId} {x y : Operand} {r : R Γ.St} {dst : Option Tmp} {type : TypeId} {pos : String} {after : Array Edge} {guard : Option (Nat × Bool)}
    (hx : TRel w F β al (a.eval x) (evx G e x)) (hy : TRel w F β al (a.eval y) (evx G e y)) (h : evNil P op t (evx G e x) (evx G e y) = some r) :
    OpSim Γ P S ⟨dst, .binOp op t x y t', type, pos, after, guard⟩ a w F β al al st r := by
  unfold evNil at h
  split at h
  · rename_i hs
    obtain ⟨ad, n, c, hv⟩ := some_sim hx hs
    split at h
    · rename_i n' c' hey
      rw [hey] at hy
      have hy' := Rd.eq_val hy
      split at h
      · split at h
        · rename_i el hu
          cases h
          refine ⟨.bool false, ?_, .val _⟩
          have hu' : (underlying t).run P w = .ok (.slice el) w := run_underlying? hu w
          have hb : binOp .eql t (.slice (some ad) n c) (.slice none n' c') = (do pure (.bool ((← Op.equal t (.slice (some ad) n c) (.slice none n' c'))))) := rfl
          have hg : eqGuard .eql t x y (.slice (some ad) n c) (.slice none n' c') = pure () := rfl
          simp [execOp, hv, hy', hg, hb, equal_nil hu']
        · cases h
      · split at h
        · rename_i el hu
          cases h
          refine ⟨.bool true, ?_, .val _⟩
          have hu' : (underlying t).run P w = .ok (.slice el) w := run_underlying? hu w
          have hb : binOp .neq t (.slice (some ad) n c) (.slice none n' c') = (do pure (.bool (!(← Op.equal t (.slice (some ad) n c) (.slice none n' c'))))) := rfl
          have hg : eqGuard .neq t x y (.slice (some ad) n c) (.slice none n' c') = pure () := rfl
          simp_all [Result.andThen_ok, equal_nil, execOp]
        · cases h
      · cases h
    · cases h
  · split at h
    · rename_i hd hex
      rw [hex] at hx
      split at h
      · rename_i hey
        rw [hey] at hy
        have hy' := Rd.eq_val hy
        split at h
        · split at h
          · rename_i el hu
            cases h
            refine ⟨.bool false, ?_, .val _⟩
            generalize hvx : a.eval x = vx at hx
            cases hx with
            | hd id ad hh =>
              have hu' : (underlying t).run P w = .ok (.pointer el) w := run_underlying? hu w
              have hb : binOp .eql t (.pointer (some ad)) (.pointer none) = (do pure (.bool ((← Op.equal t (.pointer (some ad)) (.pointer none))))) := rfl
              have hg : eqGuard .eql t x y (.pointer (some ad)) (.pointer none) = pure () := rfl
              simp [execOp, hvx, hy', hg, hb, equal_ptr hu']
          · cases h
        · cases h
      · cases h
    · rename_i ty o hex
      rw [hex] at hx
      split at h
      · rename_i hey
        rw [hey] at hy
        have hy' := Rd.eq_val hy
        split at h
        · rename_i el hu
          have hu' : (underlying t).run P w = .ok (.pointer el) w := run_underlying? hu w
          have hv : ∃ q : Option Addr, a.eval x = .pointer q ∧ q.isNone = o.isNone := by
            generalize a.eval x = vx at hx
            cases hx with
            | ptn => grind
            | pt _ id b x hF => grind
          obtain ⟨q, hq, hqo⟩ := hv
          have he : (Op.equal t (.pointer q) (.pointer none)).run P w = .ok o.isNone w := by
            rw [← hqo]
            cases q with
            | none =>
              show (Op.equalIn (9999 + 1) t (.pointer none) (.pointer none)).run P w = .ok true w
              unfold Op.equalIn
              simp only [Sem.run_bind, hu', Result.andThen_ok]
              rfl
            | some ad => exact equal_ptr hu'
          split at h
          · cases h
            refine ⟨.bool o.isNone, ?_, .val _⟩
            have hb : binOp .eql t (.pointer q) (.pointer none) = (do pure (.bool ((← Op.equal t (.pointer q) (.pointer none))))) := rfl
            simp_all [Sem.run_bind, Result.andThen_ok, eqGuard, pure, execOp]
          · cases h
            refine ⟨.bool (!o.isNone), ?_, .val _⟩
            have hb : binOp .neq t (.pointer q) (.pointer none) = (do pure (.bool (!(← Op.equal t (.pointer q) (.pointer none))))) := rfl
            grind [Sem.run_bind, Sem.run_pure, Result.andThen_ok, eqGuard, pure, execOp]
          · cases h
        · cases h
      · cases h
    · cases h

theorem evLoadH_sim {O : Nat → Prop} {s : Γ.St} (hR : Γ.R s F O w) {t : TypeId} {x : T} {v : Value} {r : R Γ.St}
    (hx : TRel w F β al v x) (h : evLoadH P t x = some r) : ∃ u y, r = .ret y ∧ (Instr.loadAt t v).run P w = .ok u w ∧ TRel w F β al u y := by
  have main : ∀ (id b off : Nat) (cs cs' : List V) (d : V), F (.k id b cs') → (∀ (m : Nat) (d : V), cs[m]? = some d → cs'[off + m]? = some d) → ldV P t cs = some d →
      ∃ u, (Instr.loadAt t (.pointer (some ⟨b, off, none⟩))).run P w = .ok u w ∧ Rd w F u d := by
    intro id b off cs cs' d hF hc hd
    obtain ⟨c, et, hb, hld⟩ := Γ.ld hR hF
    have hcell : ∀ m, m < cs.length → ∃ x, w.cell? ⟨b, off + m, none⟩ = some x ∧ ∀ d, cs[m]? = some d → Rd w F x d := by
      intro m hm
      obtain ⟨x, h1, h2⟩ := hld _ _ (hc m cs[m] (by simp [hm]))
      obtain ⟨hlt, rfl⟩ := Array.getElem?_eq_some_iff.1 h1
      grind [List.getElem?_eq_getElem, Option.some.injEq, World.cell?]
    let g : Nat → Value := fun m => (w.cell? ⟨b, off + m, none⟩).getD undef
    refine ldV_sim (g := g) (fun m hm => ?_) (fun m d hd => ?_) hd
    all_goals grind
  unfold evLoadH at h
  split at h
  · simp at h
    obtain ⟨d, hd, rfl⟩ := h
    cases hx with
    | hp id b off cs cs' hF hc =>
      obtain ⟨u, h1, h2⟩ := main id b off _ _ d hF hc hd
      exact ⟨u, _, rfl, h1, h2⟩
  · simp at h
    obtain ⟨d, hd, rfl⟩ := h
    cases hx with
    | pt _ id b x hF =>
      obtain ⟨u, h1, h2⟩ := main id b 0 _ _ d hF (fun m d hd => by grind) hd
      exact ⟨u, _, rfl, h1, h2⟩
  · cases h

theorem evEqH_sim {O : Nat → Prop} {s : Γ.St} (hR : Γ.R s F O w) {op : BinOp} {t t' : TypeId} {x y : Operand} {r : R Γ.St} {dst : Option Tmp} {type : TypeId} {pos : String} {after : Array Edge} {guard : Option (Nat × Bool)}
    (hx : TRel w F β al (a.eval x) (evx G e x)) (hy : TRel w F β al (a.eval y) (evx G e y)) (h : evEqH P op t (evx G e x) (evx G e y) = some r) :
    OpSim Γ P S ⟨dst, .binOp op t x y t', type, pos, after, guard⟩ a w F β al al st r := by
  unfold evEqH at h
  split at h
  · rename_i ty o ty' o' hex hey
    rw [hex] at hx
    rw [hey] at hy
    split at h
    · rename_i el hu
      have hu' : (underlying t).run P w = .ok (.pointer el) w := run_underlying? hu w
      split at h
      · rename_i z hz
        have hz' : (sizeOf el).run P w = .ok (z + 1) w := run_sizeOf hz w
        have hv : ∃ q q' : Option Addr, a.eval x = .pointer q ∧ a.eval y = .pointer q' ∧ (Op.equal t (.pointer q) (.pointer q')).run P w = .ok (sameH o o') w := by
          generalize a.eval x = vx at hx
          generalize a.eval y = vy at hy
          have hnil : ∀ q : Option Addr, (Op.equal t (.pointer none) (.pointer q)).run P w = .ok q.isNone w := by
            intro q
            show (Op.equalIn (9999 + 1) t (.pointer none) (.pointer q)).run P w = .ok q.isNone w
            unfold Op.equalIn
            simp only [Sem.run_bind, hu', Result.andThen_ok]
            rfl
          cases hx with
          | ptn =>
            cases hy with
            | ptn => exact ⟨none, none, rfl, rfl, hnil none⟩
            | pt _ id b x hF => exact ⟨none, some _, rfl, rfl, hnil _⟩
          | pt _ id b x hF =>
            cases hy with
            | ptn => exact ⟨some _, none, rfl, rfl, equal_ptr hu'⟩
            | pt _ id' b' x' hF' =>
              refine ⟨some _, some _, rfl, rfl, ?_⟩
              have hk := Γ.eqk hR hF hF'
              obtain ⟨c1, t1, h1, _⟩ := Γ.ld hR hF
              obtain ⟨c2, t2, h2, _⟩ := Γ.ld hR hF'
              show (Op.equalIn (9999 + 1) t (.pointer (some ⟨b, 0, none⟩)) (.pointer (some ⟨b', 0, none⟩))).run P w = .ok (Nat.beq id id') w
              unfold Op.equalIn
              simp only [Sem.run_bind, hu', Result.andThen_ok]
              simp [hz']
              by_cases hbb : b = b'
              · subst hbb
                rw [run_sameAddr_same]
                simp_all
              · rw [run_sameAddr_other w (a := ⟨b, 0, none⟩) (b := ⟨b', 0, none⟩) (fun h => hbb (congrArg Addr.block h)) h1 h2]
                grind [Nat.eq_of_beq_eq_true, id, absurd]
        obtain ⟨q, q', hq, hq', he⟩ := hv
        have hg : ∀ op, eqGuard op t x y (.pointer q) (.pointer q') = pure () := by intro op; cases op <;> cases q <;> cases q' <;> rfl
        split at h
        · cases h
          refine ⟨.bool (sameH o o'), ?_, .val _⟩
          have hb : binOp .eql t (.pointer q) (.pointer q') = (do pure (.bool ((← Op.equal t (.pointer q) (.pointer q'))))) := rfl
          simp [execOp, hq, hq', hg, hb, he]
        · cases h
          refine ⟨.bool (!sameH o o'), ?_, .val _⟩
          have hb : binOp .neq t (.pointer q) (.pointer q') = (do pure (.bool (!(← Op.equal t (.pointer q) (.pointer q'))))) := rfl
          simp [execOp, hq, hq', hg, hb, he]
        · cases h
      · cases h
    · cases h
  · cases h

theorem forIn_eq {xs ys : Array Value} {d : Nat} {eqs : TypeId → V → V → Option Bool} {ds es : List V}
    (heq : ∀ t vx vy x y c, Rd w F vx x → Rd w F vy y → eqs t x y = some c → (Op.equalIn d t vx vy).run P w = .ok c w)
    (hx : xs.size = ds.length ∧ ∀ (i : Nat) (v : Value) (d : V), xs[i]? = some v → ds[i]? = some d → Rd w F v d)
    (hy : ys.size = es.length ∧ ∀ (i : Nat) (v : Value) (d : V), ys[i]? = some v → es[i]? = some d → Rd w F v d) : ∀ (fs : List Field) (c : Bool), eqFs P eqs ds es fs = some c →
    (forIn fs ((none, ()) : Option Bool × Unit) (fun f (_ : Option Bool × Unit) =>
      if f.name ≠ "_" then do
        let u ← part f.type xs f.offset
        let v ← part f.type ys f.offset
        let b ← Op.equalIn d f.type u v
        if (!b) = true then pure (ForInStep.done (some false, ())) else pure (ForInStep.yield (none, ()))
      else pure (ForInStep.yield (none, ()))) : Sem (Option Bool × Unit)).run P w = .ok (if c then (none, ()) else (some false, ())) w := by
  intro fs
  induction fs with
  | nil => simp_all [eqFs]
  | cons f fs ih =>
    intro c h
    simp only [eqFs] at h
    split at h
    · cases h
    · rename_i hname
      split at h
      · rename_i a0 b0 ha hb
        split at h
        · rename_i c1 c2 h1 h2
          cases h
          obtain ⟨u, hu, hru⟩ := partV_sim (P := P) hx.1 hx.2 ha
          obtain ⟨v, hv, hrv⟩ := partV_sim (P := P) hy.1 hy.2 hb
          have he := heq f.type u v a0 b0 c1 hru hrv h1
          rw [List.forIn_cons]
          simp only [ne_eq, hname, not_false_eq_true, if_true, Sem.run_bind, hu, hv, he, Result.andThen_ok]
          cases c1 with
          | false => simp
          | true =>
            have := ih c2 h2
            simp only [Bool.not_true, Bool.false_eq_true, if_false, Sem.run_pure, Result.andThen_ok, Bool.true_and]
            exact this
        · cases h
      · cases h

theorem equal_sim : ∀ (d : Nat) (t : TypeId) (vx vy : Value) (x y : V) (c : Bool), Rd w F vx x → Rd w F vy y → eqV P d t x y = some c → (Op.equalIn d t vx vy).run P w = .ok c w := by
  intro d
  induction d with
  | zero => grind [eqV]
  | succ d ih =>
    intro t vx vy x y c hx hy h
    simp only [eqV] at h
    split at h
    · rename_i hu
      split at h
      · cases h
        rw [Rd.eq_val hx, Rd.eq_val hy]
        unfold Op.equalIn
        simp only [Sem.run_bind, run_underlying? hu, Result.andThen_ok]
        rfl
      · cases h
    · rename_i k0 hu
      split at h
      · split at h
        · rename_i hk
          cases h
          rw [Rd.eq_val hx, Rd.eq_val hy]
          unfold Op.equalIn
          simp only [Sem.run_bind, run_underlying? hu, Result.andThen_ok, hk, if_true]
          rfl
        · cases h
      · cases h
    · rename_i hu
      split at h
      · cases h
        rw [Rd.eq_val hx, Rd.eq_val hy]
        unfold Op.equalIn
        simp only [Sem.run_bind, run_underlying? hu, Result.andThen_ok]
        rfl
      · cases h
    · rename_i fs hu
      split at h
      · split at h
        · rename_i hst
          cases hx with
          | agg xs ds hl hr =>
            cases hy with
            | agg ys es hl' hr' =>
              unfold Op.equalIn
              have hp : (program).run P w = .ok P w := rfl
              have hst' : P.stoodInHeld t = false := hst
              simp only [Sem.run_bind, run_underlying? hu, Result.andThen_ok, hp, hst', Bool.false_eq_true, if_false]
              rw [← Array.forIn_toList]
              have := forIn_eq (P := P) (w := w) (F := F) (d := d) (eqs := eqV P d) (fun t vx vy x y c h1 h2 h3 => ih t vx vy x y c h1 h2 h3) ⟨hl, hr⟩ ⟨hl', hr'⟩ fs.toList c h
              rw [this]
              cases c <;> rfl
        · cases h
      · cases h
    · cases h

theorem evEq_sim {op : BinOp} {t t' : TypeId} {x y : Operand} {r : R Γ.St} {dst : Option Tmp} {type : TypeId} {pos : String} {after : Array Edge} {guard : Option (Nat × Bool)}
    (hx : TRel w F β al (a.eval x) (evx G e x)) (hy : TRel w F β al (a.eval y) (evx G e y)) (h : evEq P op t (evx G e x) (evx G e y) = some r) :
    OpSim Γ P S ⟨dst, .binOp op t x y t', type, pos, after, guard⟩ a w F β al al st r := by
  unfold evEq at h
  split at h
  · rename_i xs ys hex hey
    rw [hex] at hx
    rw [hey] at hy
    have hx' : Rd w F (a.eval x) (.agg xs) := hx
    have hy' : Rd w F (a.eval y) (.agg ys) := hy
    have hgd : ∀ op, (P.eqGuardType P.depth t = false) → (eqGuard op t x y (a.eval x) (a.eval y)).run P w = .ok () w := by
      intro op hq
      generalize a.eval x = vx at hx'
      generalize a.eval y = vy at hy'
      cases hx' with
      | agg cs ds hl hr =>
        cases hy' with
        | agg cs' ds' hl' hr' =>
          unfold eqGuard
          simp_all
    have hform : ∀ op, op = .eql → binOp op t (a.eval x) (a.eval y) = (do pure (.bool (← Op.equal t (a.eval x) (a.eval y)))) := by
      rintro _ rfl
      generalize a.eval x = vx at hx'
      generalize a.eval y = vy at hy'
      cases hx' with
      | agg cs ds hl hr =>
        cases hy' with
        | agg cs' ds' hl' hr' => rfl
    have hform2 : binOp .neq t (a.eval x) (a.eval y) = (do pure (.bool (!(← Op.equal t (a.eval x) (a.eval y))))) := by
      generalize a.eval x = vx at hx'
      generalize a.eval y = vy at hy'
      cases hx' with
      | agg cs ds hl hr =>
        cases hy' with
        | agg cs' ds' hl' hr' => rfl
    split at h
    · split at h
      · rename_i hq
        simp only [Option.map_eq_some_iff] at h
        obtain ⟨b, hb, rfl⟩ := h
        have he : (Op.equal t (a.eval x) (a.eval y)).run P w = .ok b w := equal_sim (P := P) 10000 t _ _ _ _ b hx' hy' hb
        refine ⟨.bool b, ?_, .val _⟩
        have hbo : binOp .eql t (a.eval x) (a.eval y) = (do pure (.bool (← Op.equal t (a.eval x) (a.eval y)))) := hform .eql rfl
        simp [execOp, hbo, hgd .eql hq, he]
      · cases h
    · split at h
      · rename_i hq
        simp only [Option.map_eq_some_iff] at h
        obtain ⟨b, hb, rfl⟩ := h
        have he : (Op.equal t (a.eval x) (a.eval y)).run P w = .ok b w := equal_sim (P := P) 10000 t _ _ _ _ b hx' hy' hb
        refine ⟨.bool (!b), ?_, .val _⟩
        have hbo : binOp .neq t (a.eval x) (a.eval y) = (do pure (.bool (!(← Op.equal t (a.eval x) (a.eval y))))) := hform2
        simp [execOp, hbo, hgd .neq hq, he]
      · cases h
    · cases h
  · cases h

theorem evMakeSlice_sim {t : TypeId} {n : Int} {l c0 : Operand} {r : R Γ.St} {dst : Option Tmp} {type : TypeId} {pos : String} {after : Array Edge} {guard : Option (Nat × Bool)}
    (hl : a.eval l = .int .i64 n) (hcv : a.eval c0 = .int .i64 n) (h : evMakeSlice P t n = some r) :
    OpSim Γ P S ⟨dst, .makeSlice t l c0, type, pos, after, guard⟩ a w F β al al st r := by
  unfold evMakeSlice at h
  split at h
  · rename_i el hu
    split at h
    · rename_i info hi
      split at h
      · rename_i z hz
        split at h
        · rename_i hcond
          obtain ⟨h0, hb, hb1, hzl, hs0⟩ := hcond
          obtain ⟨hz1, hz2⟩ := rd_cells (rd_ofVal1 w F z) (by cases z <;> rfl)
          have hzs : z.cells.size = info.size := by omega
          have hnb : n ≤ 140737488355328 := by
            have : n * 1 ≤ n * (info.bytes : Int) := Int.mul_le_mul_of_nonneg_left (by omega) h0
            omega
          have hwrap : IntKind.i64.wrap n = n := IntWalk.i64_in n (by omega)
          have hmain : ∃ (c : Array Value) (et : TypeId) (cap : Nat), (execOp a.eval ⟨dst, .makeSlice t l c0, type, pos, after, guard⟩).run P w = .ok (.value (.slice (some ⟨w.heap.size, 0, none⟩) (List.replicate n.toNat (V.ofVal1 z)).length cap)) { w with heap := w.heap.push (.cells c et) } ∧
              c.size = cap * info.size ∧ (List.replicate n.toNat (V.ofVal1 z)).length ≤ cap ∧ (List.replicate n.toNat (V.ofVal1 z) = [] → cap = 0) ∧ (∀ e, e ∈ List.replicate n.toNat (V.ofVal1 z) → e.cells.length = info.size) ∧
              ∀ (i j : Nat) (e d : V) (x : Value), (List.replicate n.toNat (V.ofVal1 z))[i]? = some e → e.cells[j]? = some d → c[i * info.size + j]? = some x → Rd w F x d := by
           refine ⟨(Array.range (n.toNat * info.size)).map (fun i => z.cells[i % z.cells.size]!), el, n.toNat, ?_, by simp, by simp, by simp, ?_, ?_⟩
           · have hzv : (zeroValue el).run P w = .ok z w := by simp [zeroValue, run_typeInfo hi, hz]
             have hsz : (sizeOf el).run P w = .ok info.size w := run_sizeOf (size_of_info hi) w
             have hlt1 : ¬ (n < 0 ∨ 281474976710656 < (info.bytes : Int) * n) := by grind
             simp only [not_or] at hlt1
             simp only [execOp, Instr.makeSlice, Sem.run_bind, run_underlying? hu, Result.andThen_ok, hl, hcv, asInt, asIntOf, Sem.run_pure, run_typeInfo hi, hwrap]
             have hno : (decide (n < 0) || decide ((info.bytes : Int) * n > 2 ^ 48)) = false := by simp; omega
             simp only [hno, Bool.false_or, List.length_replicate]
             have hno2 : (decide (n < 0) || decide (n > n)) = false := by simp; omega
             simp only [hno2, Bool.false_eq_true, if_false]
             by_cases hz0 : n.toNat * info.size = 0
             · have hrange : ∀ f : Nat → Value, (Array.range (n.toNat * info.size)).map f = #[] := by grind
               simp only [hrange]
               simp [hsz, hz0, newRow]
               grind
             simp_all [newRow]
           · grind
           · intro i j q d x hi' hj hx
             have hq : q = V.ofVal1 z := List.eq_of_mem_replicate (List.mem_of_getElem? hi')
             subst hq
             have hj' := (List.getElem?_eq_some_iff.1 hj).1
             have hi2 : i < n.toNat := by grind
             have h1 : (i + 1) * info.size ≤ n.toNat * info.size := Nat.mul_le_mul_right _ (by omega)
             rw [Nat.succ_mul] at h1
             have hlt : i * info.size + j < n.toNat * info.size := by omega
             simp [hlt] at hx
             grind [Nat.mul_comm, Nat.mul_add_mod, Nat.mod_eq_of_lt]
          obtain ⟨c, et, cap, q1, q2, q3, q4, q5, q6⟩ := hmain
          split at h
          · rename_i ty hty
            split at h
            · rename_i x hx
              split at h
              · rename_i hsz
                cases h
                refine ⟨_, c, et, cap, q1, by grind, q3, q4, by grind, by grind, by simp, ?_⟩
                grind [List.map_replicate, List.mem_of_getElem?, dec_cells]
              · cases h
            · cases h; exact ⟨c, et, cap, q1, q2, q3, q4, q5, q6⟩
          · cases h; exact ⟨c, et, cap, q1, q2, q3, q4, q5, q6⟩
        · cases h
      · cases h
    · cases h
  · cases h
end
end Go.Ve

namespace Go.Ve
open Go

section
variable {Γ : Sig} {P : Program} {G : Nat → Option (List V)} {S : Specs Γ} {e : Env Γ.St} {o : Oper} {a : Act} {w : World} {F : Blk → Prop} {β : Lay} {al : Site → Prop}

theorem callRes_some {St : Type} {view : Bool} {x : Option (St × RV)} {r : R St} (h : callRes view x = some r) : ∃ st' rv, x = some (st', rv) ∧ r = .call st' view rv ∧ (view = true → rv.plain = true) := by
  unfold callRes at h
  grind

theorem keyE_rd {x : T} {k : V} {v : Value} (h : keyE x = some k) (hr : TRel w F β al v x) : AppRd w F v k := by
  unfold keyE at h
  split at h
  · cases h; exact hr
  · cases h; exact hr
  · cases h; exact ⟨none, Rd.eq_val hr⟩
  · cases h

theorem evHapp_sim (hS : Table Γ P G S) {dst : Option Tmp} {c : Call} {type : TypeId} {pos : String} {after : Array Edge} {guard : Option (Nat × Bool)} (hcal : c.callee = .builtin .append)
    (hops : ∀ x, x ∈ c.operands → TRel w F β al (a.eval x) (evx G e x)) {r : R Γ.St} (h : evHapp P G S e c = some r) :
    OpSim Γ P S ⟨dst, .call c, type, pos, after, guard⟩ a w F β al al e.st r := by
  unfold evHapp at h
  split at h
  · rename_i x0 x1 t0 t1 hargs htys
    split at h
    · rename_i q t ys hx0 hx1
      split at h
      · cases h
      · rename_i hnf
        split at h
        · rename_i el el1 hu0 hu1
          split at h
          · rename_i info hinfo
            split at h
            · rename_i z hz
              split at h
              · rename_i hc
                obtain ⟨c1, c2, c3⟩ := hc
                split at h
                · rename_i st' d hs
                  cases h
                  have hargs' : c.args = #[x0, x1] := by grind
                  have h0 := hops x0 (by grind [Call.operands])
                  have h1 := hops x1 (by grind [Call.operands])
                  have h0 := keyE_rd hx0 h0
                  rw [hx1] at h1
                  refine .inl ⟨rfl, d, rfl, ?_⟩
                  intro O hR hF
                  have happ := hS.app hnf e.st q t ys info.bytes st' d hs
                  obtain ⟨u, w', hr, ht⟩ := happ c.argTypes type t0 t1 el el1 info z w F O (a.eval x0) (a.eval x1) (by rw [← Array.getElem?_toList, htys]; rfl) (by rw [← Array.getElem?_toList, htys]; rfl) hu0 hu1 hinfo hz c1 c2 c3 rfl hR hF h0 h1
                  refine ⟨u, w', ?_, ht⟩
                  simp [execOp, resolve, hcal, hargs', invoke, builtin, hr]
                · cases h
              · cases h
            · cases h
          · cases h
        · cases h
    · cases h
  · cases h

theorem evCall_sim (hS : Table Γ P G S) (hvars : ∀ s cs, e.var s = some cs → al (.v s) → VarRel w F β al (β.vb s) cs) {dst : Option Tmp} {c : Call} {type : TypeId} {pos : String} {after : Array Edge} {guard : Option (Nat × Bool)}
    (hops : ∀ x, x ∈ c.operands → TRel w F β al (a.eval x) (evx G e x)) {r : R Γ.St} (h : evCall P G S e c ⟨dst, .call c, type, pos, after, guard⟩ = some r) :
    OpSim Γ P S ⟨dst, .call c, type, pos, after, guard⟩ a w F β al al e.st r := by
  have hns : ∀ cs b, (⟨dst, .call c, type, pos, after, guard⟩ : Oper).op ≠ .select cs b := fun _ _ hc => by cases hc
  unfold evCall at h
  split at h
  · rename_i hcal
    split at h
    · grind [Option.some.injEq, evHapp_sim]
    · exact evFlat_sim hns hops h
  · rename_i hcal
    split at h
    · rename_i x hx
      split at h
      · rename_i r' hr'
        split at h
        · rename_i t ht
          split at h
          · rename_i el hu
            split at h
            · rename_i hsz
              simp at h
              subst h
              have hx0 : c.args = #[x] := by
                grind
              obtain ⟨u, y, rfl, h1, h2⟩ := evLen_sim (P := P) (c := c) (hops x (by grind [Call.operands])) hr' hu ht type
              refine ⟨u, ?_, h2⟩
              simp_all [execOp, resolve, invoke, builtin]
            · cases h
          · cases h
        · cases h
      · exact evFlat_sim hns hops h
    · cases h
  · exact evFlat_sim hns hops h
  · cases h
  · rename_i f hcal
    split at h
    · rename_i g caps ds hf hds
      obtain ⟨st', rv, h1, rfl, h2⟩ := callRes_some h
      have hfr := hops f (by simp [Call.operands, hcal])
      rw [hf] at hfr
      obtain ⟨hlen, hargs⟩ := argsV_sim (a := a) hvars c.args.toList ds (fun x hx => hops x (by grind [Call.operands])) hds
      have hfr' : Rd w F (a.eval f) (.clo g caps) := hfr
      generalize hev : a.eval f = fv at hfr'
      cases hfr' with
      | clo _ cv _ hl hcap =>
        obtain ⟨fn, hfn, hbody, hname⟩ := hS.is g e.st (ds ++ caps) _ h1 (by
          intro ds' hbot
          have hnb : ∀ (F : Blk → Prop) (u : Value), ¬ Rd w F u .bot := fun F u h => by cases h
          cases ds with
          | nil =>
            cases hbot
            have : 0 < cv.size := by rw [hl]; simp
            exact hnb F cv[0] (hcap 0 cv[0] .bot (by simp [this]) rfl)
          | cons d ds =>
            simp at hbot
            obtain ⟨rfl, _⟩ := hbot
            have hl0 : 0 < (c.args.toList.map a.eval).length := by grind
            exact hnb _ _ (hargs 0 (c.args.toList.map a.eval)[0] .bot (List.getElem?_eq_getElem hl0) rfl).1)
        refine .inr ⟨g, c.args.map a.eval ++ cv, ds ++ caps, ?_, ?_, ?_, h1, h2⟩
        · have hb : ¬ fn.body = none := by grind
          have hname' : ¬ fn.name = "runtime.NumGoroutine" := by simpa using hname
          simp [execOp, resolve, hcal, hev, Deferred.ofValue, invoke, callFunc, hfn, hname', hb]
        · grind
        · intro i x d hi hd
          have hsz : (c.args.map a.eval).size = ds.length := by simpa using hlen
          by_cases hlt : i < ds.length
          · grind
          · rw [List.getElem?_append_right (by omega)] at hd
            rw [Array.getElem?_append_right (by omega), hsz] at hi
            have h3 := hcap _ x d hi hd
            split
            · exact h3.mono (fun b hb => .inl hb) (fun _ _ => rfl)
            · exact h3
    · cases h

theorem evQ_sim (hS : Table Γ P G S) {O0 : Nat → Prop} {s0 : Γ.St} (hR : Γ.R s0 F O0 w) (hvars : ∀ s cs, e.var s = some cs → al (.v s) → VarRel w F β al (β.vb s) cs)
    (hops : ∀ x, x ∈ o.op.operands → TRel w F β al (a.eval x) (evx G e x)) {r : R Γ.St} (h : evQ P G S e o = some r) : OpSim Γ P S o a w F β al al e.st r := by
  obtain ⟨dst, op, type, pos, after, guard⟩ := o
  cases op <;> simp only [evQ] at h
  case move x =>
    cases h
    exact ⟨a.eval x, by simp [execOp], hops x (by simp [Op.operands])⟩
  case assign x =>
    cases h
    exact ⟨a.eval x, by simp [execOp], hops x (by simp [Op.operands])⟩
  case pick c x y => exact evFlat_sim (fun _ _ hc => by cases hc) hops h
  case makeMap t r0 =>
    cases r0 with
    | some _ => cases h
    | none =>
      cases h
      show (execOp a.eval ⟨dst, .makeMap t none, type, pos, after, guard⟩).run P w = _
      simp [execOp, Instr.makeMap]
  case lookup t x ix ok =>
    split at h
    · rename_i id es ck hex
      split at h
      · rename_i k hk
        simp at h
        obtain ⟨v, hv, rfl⟩ := h
        have hx := hops x (by simp [Op.operands])
        have hi := flatT_eq (hops ix (by simp [Op.operands])) hk
        rw [hex] at hx
        obtain ⟨_, hxv, hm⟩ := hx
        refine ⟨v, ?_, rd_ofVal _ _ _⟩
        have hrun := pureIn_run hv w
        have : (Instr.lookup t (a.eval x) (a.eval ix) ok).run P w = (lookIn t es k ok).run P w := by
          rw [hxv, hi]
          cases hu : P.underlying t with
          | none =>
            simp_all [Sem.run_bind, underlying, stuck, pure, lookIn]
          | some d =>
            have hg : (getObj (β.ob id)).run P w = .ok (.map es.toArray ck) w := by simp [getObj, Sem.run, hm]
            simp only [Instr.lookup, lookIn, Sem.run_bind, run_underlying? hu, Result.andThen_ok]
            cases d <;> simp [hg]
            congr 1
        simp_all [execOp]
      · cases h
    · cases h
  case alloc t =>
    split at h
    · rename_i z hz
      simp only [Option.bind_eq_some_iff] at hz
      obtain ⟨info, hi, hz⟩ := hz
      cases h
      have hzv : (zeroValue t).run P w = .ok z w := by simp [zeroValue, run_typeInfo hi, hz]
      obtain ⟨h1, h2⟩ := rd_cells (rd_ofVal1 w F z) (by cases z <;> rfl)
      refine ⟨z.cells, t, ?_, by simpa using h1, ?_⟩
      · simp [execOp, Instr.alloc, hzv, newVar, newRow]
      · intro i x d h3 h4
        simp at h4
        obtain ⟨y, hy, rfl⟩ := h4
        exact h2 i x y h3 hy
    · cases h
  case box t x =>
    have hx := hops x (by simp [Op.operands])
    have hrun : (execOp a.eval ⟨dst, .box t x, type, pos, after, guard⟩).run P w = .ok (.value (.pointer (some ⟨w.heap.size, 0, none⟩))) { w with heap := w.heap.push (.cells (a.eval x).cells t) } := by
      simp [execOp, Instr.box, newVar, newRow]
    have hone : ∀ y : T, TRel w F β al (a.eval x) y → (a.eval x).cells = #[a.eval x] → OpSim Γ P S ⟨dst, .box t x, type, pos, after, guard⟩ a w F β al al e.st (.var [y]) := by
      intro y hy hc
      refine ⟨(a.eval x).cells, t, hrun, by rw [hc]; rfl, ?_⟩
      grind
    cases hex : evx G e x with
    | p d =>
      simp only [hex] at h hx
      split at h
      · rename_i hleaf
        cases h
        obtain ⟨h1, h2⟩ := rd_cells hx hleaf
        refine ⟨(a.eval x).cells, t, hrun, by simpa using h1, ?_⟩
        intro i u d' h3 h4
        simp at h4
        obtain ⟨y, hy, rfl⟩ := h4
        exact h2 i u y h3 hy
      · cases h
    | dead => simp [hex] at h
    | ow id k es =>
      simp [hex] at h hx; subst h
      refine hone _ hx ?_
      obtain ⟨_, cap, hv, _⟩ := hx; rw [hv]; rfl
    | oe id k es i off =>
      simp [hex] at h hx; subst h
      refine hone _ hx ?_
      obtain ⟨_, _, cap, hv, _⟩ := hx; rw [hv]; rfl
    | lp s off =>
      simp [hex] at h hx; subst h
      refine hone _ hx ?_
      obtain ⟨_, hv⟩ := hx; rw [hv]; rfl
    | mp id es ck =>
      simp [hex] at h hx; subst h
      refine hone _ hx ?_
      obtain ⟨_, hv, _⟩ := hx; rw [hv]; rfl
    | ot id t xs =>
      simp [hex] at h hx; subst h
      refine hone _ hx ?_
      rcases hx with ⟨_, a0, hv⟩ | ⟨_, _, cap, hv, _⟩ <;> (rw [hv]; rfl)
    | oet id t xs i off =>
      simp [hex] at h hx; subst h
      refine hone _ hx ?_
      obtain ⟨_, _, cap, hv, _⟩ := hx; rw [hv]; rfl
    | ov id t xs lo hi =>
      simp [hex] at h hx; subst h
      refine hone _ hx ?_
      rcases hx with ⟨_, _, _, a0, hv⟩ | ⟨_, _, _, _, cap, hv, _⟩ <;> (rw [hv]; rfl)
    | on n =>
      simp [hex] at h hx; subst h
      refine hone _ hx ?_
      rcases NRel.shape hx with ⟨_, _, _, hv⟩ | ⟨_, hv⟩ <;> (rw [hv]; rfl)
    | emp =>
      simp [hex] at h hx; subst h
      refine hone _ hx ?_
      obtain ⟨a0, hv⟩ := hx; rw [hv]; rfl
  case build t parts =>
    split at h
    · rename_i ps hps
      obtain ⟨u, y, rfl, h1, h2⟩ := evBuild_sim (a := a) (fun p hp => hops p.2 (by
        simp only [Op.operands]
        grind)) hps h
      exact ⟨u, by simp [execOp, h1], h2⟩
    · cases h
  case buildSlice t n parts =>
    split at h
    · rename_i ps hps
      exact evBuildSlice_sim (fun p hp => hops p.2 (by
        simp only [Op.operands]
        grind)) hps h
    · cases h
  case makeSlice t l c =>
    split at h
    · rename_i n m hl hc
      split at h
      · rename_i hnm
        subst hnm
        have h1 := hops l (by simp [Op.operands])
        have h2 := hops c (by simp [Op.operands])
        rw [hl] at h1
        rw [hc] at h2
        exact evMakeSlice_sim (Rd.eq_val h1) (Rd.eq_val h2) h
      · cases h
    · cases h
  case load t x =>
    split at h
    · rename_i r' hr'
      simp at h
      subst h
      obtain ⟨u, y, rfl, h1, h2⟩ := evLoadH_sim hR (hops x (by simp [Op.operands])) hr'
      exact ⟨u, by simp [execOp, h1], h2⟩
    · obtain ⟨u, y, rfl, h1, h2⟩ := evLoad_sim hvars (hops x (by simp [Op.operands])) h
      exact ⟨u, by simp [execOp, h1], h2⟩
  case nilCheck x =>
    have hx := hops x (by simp [Op.operands])
    split at h
    · rename_i cs hex
      cases h
      rw [hex] at hx
      refine ⟨a.eval x, ?_, hx⟩
      have hx' : Rd w F (a.eval x) (.pp cs) := hx
      generalize hv : a.eval x = v at hx'
      cases hx'
      simp [execOp, hv]
    · rename_i cs hex
      cases h
      rw [hex] at hx
      refine ⟨a.eval x, ?_, hx⟩
      have hx' : Rd w F (a.eval x) (.hp cs) := hx
      generalize hv : a.eval x = v at hx'
      cases hx'
      simp [execOp, hv]
    · rename_i ty y hex
      cases h
      rw [hex] at hx
      refine ⟨a.eval x, ?_, hx⟩
      have hx' : Rd w F (a.eval x) (.pt ty (some y)) := hx
      generalize hv : a.eval x = v at hx'
      cases hx'
      simp [execOp, hv]
    · rename_i f caps hex
      cases h
      rw [hex] at hx
      refine ⟨a.eval x, ?_, hx⟩
      have hx' : Rd w F (a.eval x) (.clo f caps) := hx
      generalize hv : a.eval x = v at hx'
      cases hx'
      simp [execOp, hv]
    · rename_i s off hex
      cases h
      rw [hex] at hx
      obtain ⟨h1, h2⟩ := hx
      exact ⟨a.eval x, by simp [execOp, h2], h1, h2⟩
    · rename_i id k es i off hex
      cases h
      rw [hex] at hx
      obtain ⟨h1, h2, cap, h3, h4⟩ := hx
      exact ⟨a.eval x, by simp [execOp, h3], h1, h2, cap, h3, h4⟩
    · rename_i id ty xs i off hex
      cases h
      rw [hex] at hx
      obtain ⟨h1, h2, cap, h3, h4⟩ := hx
      exact ⟨a.eval x, by simp [execOp, h3], h1, h2, cap, h3, h4⟩
    · rename_i id id2 ty xs j ys k off hex
      cases h
      rw [hex] at hx
      obtain ⟨a1, a2, c, et, cap2, k1, k2, k5, k6, k7, k8, k9⟩ := hx
      exact ⟨a.eval x, by simp [execOp, k9], a1, a2, c, et, cap2, k1, k2, k5, k6, k7, k8, k9⟩
    · exact evFlat_sim (fun _ _ hc => by cases hc) hops h
  case binOp op t x y t' =>
    split at h
    · grind [Option.some.injEq, evNil_sim, Op.operands]
    · split at h
      · grind [Option.some.injEq, evEqH_sim, Op.operands]
      · split at h
        · grind [Option.some.injEq, evEq_sim, Op.operands]
        · exact evFlat_sim (fun _ _ hc => by cases hc) hops h
  case unOp op t x => exact evFlat_sim (fun _ _ hc => by cases hc) hops h
  case convert s d x => exact evFlat_sim (fun _ _ hc => by cases hc) hops h
  case index t x i => exact evFlat_sim (fun _ _ hc => by cases hc) hops h
  case makeFunc fn first captured =>
    cases fn <;> simp only [reduceCtorEq] at h
    rename_i f
    split at h
    · rename_i ds hds
      split at h
      · rename_i hsz
        cases h
        obtain ⟨h1, h2⟩ := pureArgs_sim (a := a) captured.toList ds (fun x hx => hops x (by grind [Op.operands])) hds
        have hfirst : first = #[] := Array.eq_empty_of_size_eq_zero hsz
        refine ⟨.func (.func f) #[] (captured.map a.eval), by simp [execOp, Instr.makeFunc, hfirst], ?_⟩
        refine Rd.clo f _ ds (by simpa using h1) ?_
        grind
      · cases h
    · cases h
  case slice t x lo hi mx =>
    split at h
    · rename_i es hex
      have hx := hops x (by simp [Op.operands])
      rw [hex] at hx
      obtain ⟨u, y, rfl, h1, h2⟩ := evSlice_sim (a := a) (G := G) (e := e) (lo := lo) (hi := hi) (mx := mx) hx
        (fun y hy => hops y (by simp [Op.operands, hy])) (fun y hy => hops y (by simp [Op.operands, hy])) (fun y hy => hops y (by simp [Op.operands, hy])) h
      exact ⟨u, by simp [execOp, h1], h2⟩
    · rename_i ty xs hex
      have hx := hops x (by simp [Op.operands])
      rw [hex] at hx
      obtain ⟨u, y, rfl, h1, h2⟩ := evSliceT_sim (a := a) (G := G) (e := e) (lo := lo) (hi := hi) (mx := mx) hx
        (fun y hy => hops y (by simp [Op.operands, hy])) (fun y hy => hops y (by simp [Op.operands, hy])) (fun y hy => hops y (by simp [Op.operands, hy])) h
      exact ⟨u, by simp [execOp, h1], h2⟩
    · rename_i id ty xs hex
      have hx := hops x (by simp [Op.operands])
      rw [hex] at hx
      obtain ⟨u, y, rfl, h1, h2⟩ := evSliceO_sim (a := a) (G := G) (e := e) (lo := lo) (hi := hi) (mx := mx) hx
        (fun y hy => hops y (by simp [Op.operands, hy])) (fun y hy => hops y (by simp [Op.operands, hy])) h
      exact ⟨u, by simp [execOp, h1], h2⟩
    · exact evFlat_sim (fun _ _ hc => by cases hc) hops h
  case fieldAddr t x i =>
    obtain ⟨u, y, rfl, h1, h2⟩ := evFieldAddr_sim (hops x (by simp [Op.operands])) h
    exact ⟨u, by simp [execOp, h1], h2⟩
  case field t x i =>
    split at h
    · rename_i cs hex
      have hx := hops x (by simp [Op.operands])
      rw [hex] at hx
      unfold evField at h
      split at h
      · rename_i f hf
        obtain ⟨fs, hu, hfi⟩ := fieldOf_some hf
        simp at h
        obtain ⟨d, hd, rfl⟩ := h
        have hx' : Rd w F (a.eval x) (.agg cs) := hx
        generalize hv : a.eval x = v at hx'
        cases hx' with
        | agg c _ hl hr =>
          obtain ⟨u, h1, h2⟩ := partV_sim hl hr hd
          exact ⟨u, by simp_all [run_underlying?, execOp, Instr.field, asAgg], h2⟩
      · cases h
    · cases h
  case indexAddr t x ix =>
    split at h
    · rename_i k i hix
      have hi := hops ix (by simp [Op.operands])
      rw [hix] at hi
      have hi' := Rd.eq_val hi
      obtain ⟨u, y, rfl, h1, h2⟩ := evIndexAddr_sim (k := k) (hops x (by simp [Op.operands])) h
      exact ⟨u, by simp [execOp, hi', h1], h2⟩
    · cases h
  case extract x i =>
    split at h
    · rename_i vs hex
      have hx := hops x (by simp [Op.operands])
      rw [hex] at hx
      simp at h
      obtain ⟨d, hd, rfl⟩ := h
      have hx' : Rd w F (a.eval x) (.tup vs) := hx
      generalize hv : a.eval x = v at hx'
      cases hx' with
      | tup c _ hl hr =>
        have hlt : i < c.size := by grind
        exact ⟨c[i], by simp [execOp, Instr.extract, hv, hlt], hr i _ d (by simp [hlt]) hd⟩
    · cases h
  case call c => exact evCall_sim hS hvars hops h
  all_goals (cases h)
end
end Go.Ve

namespace Go.Ve
open Go

def ownT (d : Nat) : List V → T
  | [] => .emp
  | e :: es => .ow d e.cells.length (e :: es)

def ownK (d k : Nat) : List V → T
  | [] => .emp
  | e :: es => .ow d k (e :: es)

def frzT : List V → T
  | [] => .emp
  | e :: es => .p (.sl (e :: es))

def rvT (d : Nat) : RV → T
  | .p x => .p x
  | .own es => ownT d es
  | .ownT t xs => .ot d t xs

theorem flat_leaf : ∀ (t : Ty) (x : t.El), t.flat = true → ∀ d, d ∈ t.cells x → d.isVal = true := by
  intro t
  induction t with
  | pair a b iha ihb =>
    intro x h d hd
    simp [Ty.flat] at h
    grind [Ty.cells]
  | sl t _ => grind [Ty.flat]
  | rf => grind [Ty.flat]
  | hd => grind [Ty.flat]
  | pt t => grind [Ty.flat]
  | unit => grind [Ty.cells]
  | _ => intro x _ d hd; simp [Ty.cells] at hd; subst hd; rfl

/-- What no list that is there is part of reads the same in every world. -/
theorem rd_bare {w w' : World} {F F' : Blk → Prop} : ∀ (t : Ty) (x : t.El), t.bare x = true → ∀ d, d ∈ t.cells x → ∀ v, Rd w F v d → Rd w' F' v d := by
  intro t
  induction t with
  | pair a b iha ihb =>
    intro x h d hd
    simp [Ty.bare] at h
    grind [Ty.cells]
  | sl t _ =>
    intro x h d hd v hr
    simp [Ty.cells] at hd
    subst hd
    have hx : x = [] := by grind [Ty.bare]
    subst hx
    obtain ⟨a, cap, hv, _⟩ := rd_sl_len hr.untl
    exact .tl t [] v (by rw [hv]; exact .slemp a cap)
  | rf => grind [Ty.bare]
  | hd => grind [Ty.bare]
  | pt t => grind [Ty.bare]
  | unit => grind [Ty.cells]
  | _ => intro x _ d hd v hr; simp only [Ty.cells, List.mem_singleton] at hd; subst hd; rw [Rd.eq_val hr]; exact .val _

def resT {St : Type} (d : Nat) : R St → T
  | .ret x => x
  | .var _ => .lp d 0
  | .own k es => ownK d k es
  | .frz es => frzT es
  | .call _ _ r => rvT d r
  | .mk => .mp d [] 0
  | .frzT t xs => .p (.tl t xs)
  | .ownT t xs => .ot d t xs

def resSt {St : Type} (st : St) : R St → St
  | .call st' _ _ => st'
  | _ => st

/-- Does the operation need a temporary for what it makes? -/
def R.needs {St : Type} : R St → Bool
  | .ret _ => false
  | .call _ _ (.p _) => false
  | _ => true

/-- What of an operation's outcome is new: -/
structure After (Γ : Sig) (w0 : World) (F0 : Blk → Prop) (O0 : Lent) (w : World) (F : Blk → Prop) (β : Lay) (al : Site → Prop) (st : Γ.St) (d : Nat) (r : R Γ.St)
    (v : Value) (w' : World) (F' : Blk → Prop) (O' : Nat → Prop) (β' : Lay) (al' : Site → Prop) : Prop where
  core : Core Γ w0 F0 O0 w' F' O' β' al' (resSt st r)
  ext : Ext w F β al w' F' β' al'
  new : ∀ x, al' x → al x ∨ (r.needs = true ∧ ((x = .v d ∧ ∃ cs, r = .var cs) ∨ (x = .o d ∧ True)))
  res : TRel w' F' β' al' v (resT d r)
  var : ∀ cs, r = .var cs → al' (.v d) ∧ VarRel w' F' β' al' (β'.vb d) cs

section
variable {Γ : Sig} {P : Program} {G : Nat → Option (List V)} {S : Specs Γ} {o : Oper} {a : Act} {w0 : World} {F0 : Blk → Prop} {O0 : Lent} {w : World} {F : Blk → Prop} {O : Nat → Prop} {β : Lay} {al : Site → Prop} {st : Γ.St}

theorem push_old {w : World} {ob : Obj} {b : Nat} (h : b < w.heap.size) : ({ w with heap := w.heap.push ob } : World).heap[b]? = w.heap[b]? := by
  grind

theorem push_new {w : World} {ob : Obj} : ({ w with heap := w.heap.push ob } : World).heap[w.heap.size]? = some ob := by
  simp

theorem Keep.push {O0 : Nat → Prop} (hk : Keep O0 w0 w) (ob : Obj) : Keep O0 w0 { w with heap := w.heap.push ob } :=
  ⟨hk.os, hk.tape, hk.output, by simp; have := hk.size; omega, fun b hb ho => by
    rw [push_old (by have := hk.size; omega)]; exact hk.block b hb ho, hk.drawn⟩

theorem Core.push_ext (hc : Core Γ w0 F0 O0 w F O β al st) (ob : Obj) (β' : Lay) (al' : Site → Prop) (hb : ∀ x, al x → β'.blk x = β.blk x) (ha : ∀ x, al x → al' x) :
    Ext w F β al { w with heap := w.heap.push ob } F β' al' :=
  ⟨fun _ h => h, fun b hb => push_old (hc.fin b hb).2.1, ha, hb, fun x hx => push_old (hc.place x hx).2.1⟩

/-- A new block for one new site. -/
theorem Core.push (hc : Core Γ w0 F0 O0 w F O β al st) (ob : Obj) (β' : Lay) (s : Site) (hL : s ≠ .o lentId) (hs : β'.blk s = w.heap.size) (hb : ∀ x, al x → β'.blk x = β.blk x) :
    Core Γ w0 F0 O0 { w with heap := w.heap.push ob } F O β' (fun x => al x ∨ x = s) st := by
  refine ⟨hc.keep.push ob, Γ.mono hc.sig (fun _ _ => Iff.rfl) (fun b hb => push_old (Γ.inb hc.sig b hb)) (fun n _ h => ⟨h, push_old (hc.fin n h).2.1⟩), hc.oin, ?_, hc.f0, ?_, ?_, hc.lent.step (fun b n _ hb ho hf => ⟨push_old (by have := hc.keep.size; omega), ho, hf⟩)⟩
  · intro b hb
    obtain ⟨h1, h2, h3⟩ := hc.fin b hb
    grind
  · rintro x (hx | rfl)
    · obtain ⟨h1, h2, h3, h4⟩ := hc.place x hx
      grind
    · rw [hs]
      refine ⟨.inl ⟨hL, hc.keep.size⟩, by simp, fun hf => ?_, fun ho => ?_⟩
      · have := (hc.fin _ hf).2.1; omega
      · have := Γ.inb hc.sig _ ho; omega
  · rintro x y (hx | rfl) (hy | rfl) h
    · rw [hb x hx, hb y hy] at h; exact hc.dist x y hx hy h
    · rw [hb x hx, hs] at h; have := (hc.place x hx).2.1; omega
    · rw [hs, hb y hy] at h; have := (hc.place y hy).2.1; omega
    · rfl

theorem opSim_wp (hS : Table Γ P G S) (hG : GRel G w F) (hc : Core Γ w0 F0 O0 w F O β al st) {alv : Site → Prop} (hv : ∀ x, alv x → β.blk x < w.heap.size ∧ ¬ O (β.blk x)) {r : R Γ.St} (hs : OpSim Γ P S o a w F β al alv st r) {d : Nat}
    (hdl : r.needs = true → d ≠ lentId) (hfr : r.needs = true → ¬ al (.v d) ∧ ¬ al (.o d)) {K : Act → World → Prop} {Q : Exit → Act → World → Prop}
    (hK : ∀ v w' F' O' β' al', After Γ w0 F0 O0 w F β al st d r v w' F' O' β' al' → K (a.put o.dst v) w') : o.wp P a w K Q := by
  unfold Oper.wp
  cases r with
  | ret x =>
    obtain ⟨v, h1, h2⟩ := hs
    rw [h1]
    exact hK v w F O β al ⟨hc, Ext.refl, fun x hx => .inl hx, h2, (fun cs h => by cases h)⟩
  | var cs =>
    obtain ⟨c, et, h1, h2, h3⟩ := hs
    rw [h1]
    let β' : Lay := { β with vb := fun s => if s = d then w.heap.size else β.vb s }
    have hb : ∀ x, al x → β'.blk x = β.blk x := by
      intro x hx
      cases x with
      | v s =>
        have hne : s ≠ d := fun h => (hfr rfl).1 (h ▸ hx)
        grind [Lay.blk]
      | o id => rfl
    have hsb : β'.blk (.v d) = w.heap.size := by simp [Lay.blk, β']
    have hext := hc.push_ext (.cells c et) β' (fun x => al x ∨ x = .v d) hb (fun x hx => .inl hx)
    have hvar : VarRel { w with heap := w.heap.push (.cells c et) } F β' (fun x => al x ∨ x = .v d) (β'.vb d) cs := by
      refine ⟨c, et, ?_, h2, fun i x y hi hy => (h3 i x y hi hy).ext hext⟩
      grind
    refine hK _ _ F O β' (fun x => al x ∨ x = .v d) ⟨hc.push _ β' (.v d) (fun h => by cases h) hsb hb, hext, ?_, ?_, ?_⟩
    · rintro x (hx | rfl)
      · exact .inl hx
      · exact .inr ⟨rfl, .inl ⟨rfl, cs, rfl⟩⟩
    · refine ⟨.inr rfl, ?_⟩
      grind
    grind
  | own k es =>
    obtain ⟨c, et, cap, h1, h2, h3, h30, h4, h5⟩ := hs
    rw [h1]
    let β' : Lay := { β with ob := fun s => if s = d then w.heap.size else β.ob s }
    have hb : ∀ x, al x → β'.blk x = β.blk x := by
      intro x hx
      cases x with
      | o s =>
        have hne : s ≠ d := fun h => (hfr rfl).2 (h ▸ hx)
        grind [Lay.blk]
      | v id => rfl
    have hsb : β'.blk (.o d) = w.heap.size := by simp [Lay.blk, β']
    have hext := hc.push_ext (.cells c et) β' (fun x => al x ∨ x = .o d) hb (fun x hx => .inl hx)
    have hob : β'.ob d = w.heap.size := hsb
    cases es with
    | nil =>
      have hp := hc.push (.cells c et) β' (.o d) (fun h => hdl rfl (by cases h; rfl)) hsb hb
      refine hK _ _ F O β' al ⟨⟨hp.keep, hp.sig, hp.oin, hp.fin, hp.f0, fun x hx => hp.place x (.inl hx), fun x y hx hy => hp.dist x y (.inl hx) (.inl hy), hp.lent⟩,
        ⟨hext.f, hext.hf, fun _ h => h, hext.b, hext.ha⟩, fun x hx => .inl hx, ?_, (fun cs h => by cases h)⟩
      exact ⟨_, by rw [h30 rfl]; rfl⟩
    | cons e0 es0 =>
    refine hK _ _ F O β' (fun x => al x ∨ x = .o d) ⟨hc.push _ β' (.o d) (fun h => hdl rfl (by cases h; rfl)) hsb hb, hext, ?_, ?_, ?_⟩
    · rintro x (hx | rfl)
      · exact .inl hx
      · exact .inr ⟨rfl, .inr ⟨rfl, trivial⟩⟩
    · refine ⟨.inr rfl, cap, by rw [hob], c, et, ?_, h2, h3, h4, ?_⟩
      all_goals grind [push_new, Rd.ext]
    grind
  | frzT t xs =>
    obtain ⟨es, c, et, h1, h2, h4, h5, hwk⟩ := hs
    rw [h1]
    let F' : Blk → Prop := fun b => F b ∨ b = w.heap.size
    have hext : Ext w F β al { w with heap := w.heap.push (.cells c et) } F' β al :=
      ⟨fun _ h => .inl h, fun b hb => push_old (hc.fin b hb).2.1, fun _ h => h, fun _ _ => rfl, fun x hx => push_old (hc.place x hx).2.1⟩
    have hrd : Rd { w with heap := w.heap.push (.cells c et) } F' (.slice (some ⟨w.heap.size, 0, none⟩) es.length es.length) (.tl t xs) := by
      refine .tl t xs _ ?_
      have hrow : RowRel { w with heap := w.heap.push (.cells c et) } F' w.heap.size t.size es.length es := ⟨c, et, push_new, h2, Nat.le_refl _, h4, fun i j e d' x a1 a2 a3 => Rd.ext hext (h5 i j e d' x a1 a2 a3)⟩
      have := Row_rd (F := F') (hrow.typed rfl hwk) (fun _ h => h) (.inr rfl)
      rw [← hwk.1] at this
      exact this
    refine hK _ _ F' O β al ⟨?_, hext, fun x hx => .inl hx, hrd, (fun cs h => by cases h)⟩
    · refine ⟨hc.keep.push _, Γ.mono hc.sig addB_h (fun b hb => push_old (Γ.inb hc.sig b hb)) (fun n _ h => ⟨.inl h, push_old (hc.fin n h).2.1⟩), hc.oin, ?_, hc.f0.trans (Grow.addB _ _ _) (Nat.le_refl _), ?_, hc.dist, hc.lent.step (fun b n _ hb ho hf => ⟨push_old (by have := hc.keep.size; omega), ho, fun h => h.elim hf (fun h => by have := blk_eq h; have := hc.keep.size; omega)⟩)⟩
      · rintro b (hb | hb)
        · obtain ⟨h1, h2, h3⟩ := hc.fin b hb
          grind
        · have hb := blk_eq hb
          subst hb
          exact ⟨.inr hc.keep.size, by simp, fun ho => by have := Γ.inb hc.sig _ ho; omega⟩
      · intro x hx
        obtain ⟨h1, h2, h3, h4⟩ := hc.place x hx
        grind
  | ownT t xs =>
    obtain ⟨es, c, et, cap, h1, h2, h3, h30, h4, h5, hwk⟩ := hs
    rw [h1]
    let β' : Lay := { β with ob := fun s => if s = d then w.heap.size else β.ob s }
    have hb : ∀ x, al x → β'.blk x = β.blk x := by
      intro x hx
      cases x with
      | o s =>
        have hne : s ≠ d := fun h => (hfr rfl).2 (h ▸ hx)
        grind [Lay.blk]
      | v id => rfl
    have hsb : β'.blk (.o d) = w.heap.size := by simp [Lay.blk, β']
    have hext := hc.push_ext (.cells c et) β' (fun x => al x ∨ x = .o d) hb (fun x hx => .inl hx)
    have hob : β'.ob d = w.heap.size := hsb
    have hlx : es.length = xs.length := by have := hwk.1; simpa using this
    refine hK _ _ F O β' (fun x => al x ∨ x = .o d) ⟨hc.push _ β' (.o d) (fun h => hdl rfl (by cases h; rfl)) hsb hb, hext, ?_, ?_, ?_⟩
    · rintro x (hx | rfl)
      · exact .inl hx
      · exact .inr ⟨rfl, .inr ⟨rfl, trivial⟩⟩
    · by_cases h0 : xs.map t.enc = []
      · have he : es = [] := List.eq_nil_of_length_eq_zero (by simp_all)
        subst he
        exact .inl ⟨h0, _, by rw [h30 rfl]; rfl⟩
      · refine .inr ⟨h0, .inr rfl, cap, by grind, ?_⟩
        rw [hob]
        refine RowRel.typed ⟨c, et, push_new, h2, h3, h4, ?_⟩ rfl hwk
        grind [Rd.ext]
    grind
  | mk =>
    have hs' : (execOp a.eval o).run P w = .ok (.value (.map (some w.heap.size))) { w with heap := w.heap.push (.map #[] 0) } := hs
    rw [hs']
    let β' : Lay := { β with ob := fun s => if s = d then w.heap.size else β.ob s }
    have hb : ∀ x, al x → β'.blk x = β.blk x := by
      intro x hx
      cases x with
      | o s =>
        have hne : s ≠ d := fun h => (hfr rfl).2 (h ▸ hx)
        grind [Lay.blk]
      | v id => rfl
    have hsb : β'.blk (.o d) = w.heap.size := by simp [Lay.blk, β']
    have hext := hc.push_ext (.map #[] 0) β' (fun x => al x ∨ x = .o d) hb (fun x hx => .inl hx)
    have hob : β'.ob d = w.heap.size := hsb
    refine hK _ _ F O β' (fun x => al x ∨ x = .o d) ⟨hc.push _ β' (.o d) (fun h => hdl rfl (by cases h; rfl)) hsb hb, hext, ?_, ?_, ?_⟩
    · rintro x (hx | rfl)
      · exact .inl hx
      · exact .inr ⟨rfl, .inr ⟨rfl, trivial⟩⟩
    · exact ⟨.inr rfl, by rw [hob], by grind⟩
    grind
  | frz es =>
    obtain ⟨c, et, k, h1, h2, h4, h5⟩ := hs
    rw [h1]
    let F' : Blk → Prop := fun b => F b ∨ b = w.heap.size
    have hext : Ext w F β al { w with heap := w.heap.push (.cells c et) } F' β al :=
      ⟨fun _ h => .inl h, fun b hb => push_old (hc.fin b hb).2.1, fun _ h => h, fun _ _ => rfl, fun x hx => push_old (hc.place x hx).2.1⟩
    have hrd : Rd { w with heap := w.heap.push (.cells c et) } F' (.slice (some ⟨w.heap.size, 0, none⟩) es.length es.length) (.sl es) := by
      refine Row_rd (F := F') (k := k) ⟨c, et, push_new, h2, Nat.le_refl _, h4, ?_⟩ (fun _ h => h) (.inr rfl)
      grind [Rd.ext]
    refine hK _ _ F' O β al ⟨?_, hext, fun x hx => .inl hx, ?_, (fun cs h => by cases h)⟩
    · refine ⟨hc.keep.push _, Γ.mono hc.sig addB_h (fun b hb => push_old (Γ.inb hc.sig b hb)) (fun n _ h => ⟨.inl h, push_old (hc.fin n h).2.1⟩), hc.oin, ?_, hc.f0.trans (Grow.addB _ _ _) (Nat.le_refl _), ?_, hc.dist, hc.lent.step (fun b n _ hb ho hf => ⟨push_old (by have := hc.keep.size; omega), ho, fun h => h.elim hf (fun h => by have := blk_eq h; have := hc.keep.size; omega)⟩)⟩
      · rintro b (hb | hb)
        · obtain ⟨h1, h2, h3⟩ := hc.fin b hb
          grind
        · have hb := blk_eq hb
          subst hb
          exact ⟨.inr hc.keep.size, by simp, fun ho => by have := Γ.inb hc.sig _ ho; omega⟩
      · intro x hx
        obtain ⟨h1, h2, h3, h4⟩ := hc.place x hx
        grind
    · cases es with
      | nil => exact ⟨_, rfl⟩
      | cons e es => exact hrd
  | call st' view rv =>
    have hFF : ∀ b, F b → (if view then Fal F β alv else F) b := by
      intro b hb
      cases view with
      | false => exact hb
      | true => exact .inl hb
    have main : (view = true → rv.plain = true) → ∀ (v : Value) (w' : World) (Fr : Blk → Prop) (O' : Nat → Prop), Γ.R st' Fr O' w' → Keep O w w' → (∀ b, O' b → O b ∨ w.heap.size ≤ b) → GrowW (Γ.wk ∧ rv.isH) w.heap.size (if view then Fal F β alv else F) Fr →
        (∀ b : Nat, Fr b → ((if view then Fal F β alv else F) b ∨ w.heap.size ≤ b) ∧ b < w'.heap.size ∧ ¬ O' b) → RetRel w.heap.size w' Fr O' v rv → K (a.put o.dst v) w' := by
      intro h5 v w' Fr O' g1 g2 g3 g4 g5 g6
      let oldS : Blk → Prop := fun b => match b with
        | .s n => Γ.wk ∧ F (.b n)
        | _ => False
      let F' : Blk → Prop := fun b => Fr b ∧ (F b ∨ newB w.heap.size b ∨ oldS b)
      have hsn : ∀ n, Fr (.s n) → F (.s n) ∨ w.heap.size ≤ n ∨ (Γ.wk ∧ F (.b n)) := fun n h => by
        rcases g4.2 n h with h | h | ⟨h1, h2⟩
        · cases view with
          | false => exact .inl h
          | true => exact h.elim .inl (fun ⟨_, _, h⟩ => by cases h)
        · omega
        · cases view with
          | false => grind
          | true =>
            have hp := h5 rfl
            have h1 := h1.2
            cases rv with
            | p d => cases d <;> first | exact False.elim h1 | cases hp
            | own es => exact False.elim h1
            | ownT t xs => exact False.elim h1
      have g1 : Γ.R st' F' O' w' := Γ.mono g1 (fun x hx => ⟨fun h => h.1, fun h => ⟨h, by
        cases x with
        | b n => cases hx
        | s n => exact (hsn n h).imp id (fun h => h)
        | _ => exact .inr (.inl trivial)⟩⟩) (fun _ _ => rfl) (fun n h hb => ⟨⟨hb, (hsn n h).elim (fun h => .inl (Γ.sb hc.sig h)) (fun h => h.elim (fun h => .inr (.inl h)) (fun h => .inl h.2))⟩, rfl⟩)
      have hO' : ∀ b, b < w.heap.size → ¬ O b → ¬ O' b := fun b hb ho h => by
        grind
      have hsame : ∀ b, b < w.heap.size → ¬ O b → w'.heap[b]? = w.heap[b]? := g2.block
      have hplain : ∀ (u : Value) (x : V) (y : Value), x.toVal = some y → Rd w' Fr u x → Rd w' F' u x := fun u x y hx hr => hr.of_flat hx
      have hrd : ∀ (u : Value) (x : V), view = false → Rd w' Fr u x → Rd w' F' u x := by
        intro u x hv hr
        subst hv
        refine hr.mono (fun b hb => ⟨hb, ?_⟩) (fun _ _ => rfl)
        cases b with
        | b n => exact (g5 n hb).1.imp id .inl
        | s n => exact (hsn n hb).imp id (fun h => h)
        | _ => exact .inr (.inl trivial)
      have hcore : ∀ (β' : Lay) (al' : Site → Prop), (∀ x, al' x → (al x ∧ β'.blk x = β.blk x) ∨ ((x ≠ .o lentId ∧ w.heap.size ≤ β'.blk x) ∧ β'.blk x < w'.heap.size ∧ ¬ F' (β'.blk x) ∧ ¬ O' (β'.blk x))) →
          (∀ x y, al' x → al' y → β'.blk x = β'.blk y → x = y) → Core Γ w0 F0 O0 w' F' O' β' al' st' := by
        intro β' al' hpl hdist
        refine ⟨⟨g2.os.trans hc.keep.os, g2.tape.trans hc.keep.tape, g2.output.trans hc.keep.output, Nat.le_trans hc.keep.size g2.size, ?_, Nat.le_trans hc.keep.drawn g2.drawn⟩, g1, ?_, ?_, ?_, ?_, hdist, hc.lent.step (fun b n _ hb ho hf => ⟨hsame b (by have := hc.keep.size; omega) ho, hO' b (by have := hc.keep.size; omega) ho, fun h => h.2.elim hf (fun h => h.elim (fun h => by have h : w.heap.size ≤ b := h; have := hc.keep.size; omega) (fun h => h))⟩)⟩
        · intro b hb ho
          have hno : ¬ O b := fun h => by
            rcases hc.oin b h with h | h
            · exact ho (.inl h)
            · omega
          rw [hsame b (by have := hc.keep.size; omega) hno]
          exact hc.keep.block b hb ho
        · intro b hb
          rcases g3 b hb with h | h
          · exact hc.oin b h
          · exact .inr (Nat.le_trans hc.keep.size h)
        · intro b hb
          obtain ⟨h1, h2, h3⟩ := g5 b hb.1
          refine ⟨?_, h2, h3⟩
          rcases hb.2 with h | h | h
          · exact (hc.fin b h).1
          · exact .inr (Nat.le_trans hc.keep.size h)
          · exact h.elim
        · refine ⟨fun b hb => ?_, fun n hn => ?_⟩
          · have := hc.f0.1 b hb
            exact ⟨g4.1 b (hFF b this), .inl this⟩
          · rcases hsn n hn.1 with h | h | ⟨h1, h2⟩
            · exact hc.f0.2 n h
            · exact .inr (.inl (Nat.le_trans hc.keep.size h))
            · exact (hc.fin n h2).1.elim (fun h => .inr (.inr ⟨h1, h⟩)) (fun h => .inr (.inl h))
        · intro x hx
          rcases hpl x hx with ⟨h1, h2⟩ | ⟨h1, h2, h3, h4⟩
          · obtain ⟨k1, k2, k3, k4⟩ := hc.place x h1
            rw [h2]
            refine ⟨k1, Nat.lt_of_lt_of_le k2 g2.size, fun h => ?_, hO' _ k2 k4⟩
            rcases h.2 with h | h | h
            · exact k3 h
            · have h : w.heap.size ≤ β.blk x := h
              omega
            · exact h.elim
          · exact ⟨.inl ⟨h1.1, Nat.le_trans hc.keep.size h1.2⟩, h2, h3, h4⟩
      have hext : ∀ (β' : Lay) (al' : Site → Prop), (∀ x, al x → al' x) → (∀ x, al x → β'.blk x = β.blk x) → Ext w F β al w' F' β' al' := by
        intro β' al' ha hb
        refine ⟨fun b hb => ⟨g4.1 b (hFF b hb), .inl hb⟩, fun b hb => hsame b (hc.fin b hb).2.1 (hc.fin b hb).2.2, ha, hb, fun x hx => ?_⟩
        obtain ⟨k1, k2, k3, k4⟩ := hc.place x hx
        grind
      have hkeep := hcore β al (fun x hx => .inl ⟨hx, rfl⟩) hc.dist
      have hkext := hext β al (fun _ h => h) (fun _ _ => rfl)
      have hown : ∀ (es : List V), OwnRet w.heap.size w' Fr O' v es → (view = true → ∀ e, e ∈ es → ∀ d, d ∈ e.cells → ∀ x, Rd w' Fr x d → Rd w' F' x d) → (R.call st' view rv : R Γ.St).needs = true →
          (es = [] → ∀ β al, TRel w' F' β al v .emp → TRel w' F' β al v (rvT d rv)) →
          (es ≠ [] → ∀ k β al, (∀ e, e ∈ es → e.cells.length = k) → TRel w' F' β al v (.ow d k es) → TRel w' F' β al v (rvT d rv)) → K (a.put o.dst v) w' := by
        intro es g6 h5 hneeds hE hO
        rcases g6 with ⟨h0, a0, rfl⟩ | ⟨hne, b, cap, rfl, k1, k2, k3, k4, k, hrow⟩
        · exact hK _ w' F' O' β al ⟨hkeep, hkext, fun x hx => .inl hx, hE h0 β al ⟨a0, rfl⟩, (fun cs h => by cases h)⟩
        · have hkk : ∀ e, e ∈ es → e.cells.length = k := by
            obtain ⟨c, et, q1, q2, q3, q4, q5⟩ := hrow
            exact q4
          have hwant : TRel w' F' { β with ob := fun s => if s = d then b else β.ob s } (fun x => al x ∨ x = .o d) (.slice (some ⟨b, 0, none⟩) es.length cap) (.ow d k es) := by
            refine ⟨.inr rfl, cap, by simp, ?_⟩
            simp
            obtain ⟨c, et, q1, q2, q3, q4, q5⟩ := hrow
            refine ⟨c, et, q1, q2, q3, q4, ?_⟩
            grind
          let β' : Lay := { β with ob := fun s => if s = d then b else β.ob s }
          have hb : ∀ x, al x → β'.blk x = β.blk x := by
            intro x hx
            cases x with
            | o s =>
              grind [Lay.blk]
            | v id => rfl
          have hsb : β'.blk (.o d) = b := by simp [Lay.blk, β']
          have hnF : ¬ F' b := fun h => k3 h.1
          refine hK _ w' F' O' β' (fun x => al x ∨ x = .o d) ⟨?_, hext β' _ (fun x hx => .inl hx) hb, ?_, hO hne k _ _ hkk hwant, (fun cs h => by cases h)⟩
          · refine hcore β' _ ?_ ?_
            · grind
            · rintro x y (hx | rfl) (hy | rfl) h
              · rw [hb x hx, hb y hy] at h; exact hc.dist x y hx hy h
              · rw [hb x hx, hsb] at h; have := (hc.place x hx).2.1; omega
              · rw [hsb, hb y hy] at h; have := (hc.place y hy).2.1; omega
              · rfl
          grind
      cases rv with
      | p x =>
        refine hK v w' F' O' β al ⟨hkeep, hkext, fun x hx => .inl hx, ?_, (fun cs h => by cases h)⟩
        show Rd w' F' v x
        cases hvw : view with
        | false => exact hrd v x hvw g6
        | true =>
          have := h5 hvw
          simp [RV.plain, Option.isSome_iff_exists] at this
          obtain ⟨y, hy⟩ := this
          exact hplain v x y hy g6
      | own es =>
        refine hown es g6 (fun hvw e he d' hd' x this => ?_) rfl ?_ ?_
        · have hpl := h5 hvw
          simp only [RV.plain] at hpl
          have h6 := List.all_eq_true.1 hpl e he
          obtain ⟨y, hy⟩ := Option.isSome_iff_exists.1 h6
          cases e with
          | val u => simp [V.cells] at hd'; subst hd'; exact hplain x _ u rfl this
          | agg cs =>
            simp only [V.toVal1] at hy
            split at hy
            · rename_i hall
              have h7 := leaf_of_isVal (List.all_eq_true.1 hall d' hd')
              rw [h7] at this ⊢
              exact hplain x _ _ rfl this
            · cases hy
          | _ => simp [V.toVal1] at hy
        · intro h0 β al h; subst h0; exact h
        · intro hne k β al hk h
          cases es with
          | nil => grind
          | cons e es =>
            show TRel _ _ _ _ _ (.ow d e.cells.length (e :: es))
            grind
      | ownT t xs =>
        refine hown (xs.map t.enc) g6 (fun hvw e he d' hd' x this => ?_) rfl ?_ ?_
        · have hpl := h5 hvw
          simp only [RV.plain, Bool.or_eq_true] at hpl
          simp at he
          obtain ⟨y, hy, rfl⟩ := he
          rw [enc_cells] at hd'
          rcases hpl with hpl | hpl
          · have h7 := leaf_of_isVal (flat_leaf t y hpl d' hd')
            rw [h7] at this ⊢
            exact hplain x _ _ rfl this
          grind [rd_bare, List.all_eq_true]
        · grind [TRel_un, rvT, T.un]
        · intro hne k β al hk h
          cases xs with
          | nil => grind
          | cons x xs =>
            refine TRel_un.2 ?_
            have : k = t.size := by grind [enc_len]
            subst this
            exact h
    rcases hs with ⟨rfl, d0, rfl, hrun⟩ | ⟨f, args, ds, h1, h2, h3, h4, h5⟩
    · obtain ⟨u, w', hr, F', O', g1, g2, g3, g4, g5, g6⟩ := hrun O hc.sig (fun b hb => (hc.fin b hb).2)
      rw [hr]
      exact main (fun h => by cases h) u w' F' O' g1 g2 g3 g4.w g5 g6
    · rw [h1]
      have hFc : ∀ b : Nat, (if view then Fal F β alv else F) b → b < w.heap.size ∧ ¬ O b := by
        intro b hb
        cases view with
        | false => exact (hc.fin b hb).2
        | true =>
          rcases hb with hb | ⟨x, hx, hxb⟩
          · exact (hc.fin b hb).2
          grind
      have hGc : GRel G w (if view then Fal F β alv else F) := fun g cs hg => (hG g cs hg).mono hFF (fun _ _ => rfl)
      have hsigc : Γ.R st (if view then Fal F β alv else F) O w := Γ.mono hc.sig (by
        intro x hx
        cases view with
        | false => exact Iff.rfl
        | true => exact ⟨fun h => h.elim (fun h => h) (fun ⟨_, _, h⟩ => by subst h; cases hx), .inl⟩) (fun _ _ => rfl) (fun n _ h => ⟨hFF _ h, rfl⟩)
      have hcall := hS.ok f w (if view then Fal F β alv else F) O st args ds st' rv hsigc hGc hFc h2 (fun i x d hi hd' => h3 i x d hi hd') h4
      refine hcall.mono ?_
      grind

end
end Go.Ve

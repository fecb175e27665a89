/-
  The evaluator over pure values, part 6: slicing, building, calling; all operations that write nothing of old.
-/
import Derived.Test.YtggmpbaiijodiaaGreatNvVe5
namespace Go.Ve
open Go

section
variable {Γ : Sig} {P : Program} {G : Nat → Option (List V)} {S : Specs Γ} {e : Env Γ.St} {o : Oper} {a : Act} {w : World} {F : Nat → Prop} {β : Lay} {al : Site → Prop} {st : Γ.St}

theorem run_mapM {α γ : Type} {f : α → Sem γ} {g : α → γ} : ∀ (l : List α), (∀ x, x ∈ l → (f x).run P w = .ok (g x) w) → (l.mapM f).run P w = .ok (l.map g) w := by
  intro l
  induction l with
  | nil => intro _; rfl
  | cons x l ih =>
    intro h
    simp [List.mapM_cons, h x (by simp), ih (fun y hy => h y (List.mem_cons_of_mem _ hy))]

theorem boundV_sim {x : T} {v : Value} {dflt top y h : Nat} (hx : TRel w F β al v x) (hb : boundV (some x) dflt top = some h) (hy : top ≤ y) (code : BoundsCode) :
    (Instr.sliceBound v y code).run P w = .ok h w ∧ h ≤ top := by
  unfold boundV at hb
  split at hb
  · rename_i heq; cases heq
  · rename_i k i heq
    simp only [Option.some.injEq] at heq
    subst heq
    split at hb
    · rename_i hc
      simp only [Option.some.injEq] at hb
      subst hb
      have := Rd.eq_val hx
      subst this
      refine ⟨?_, by omega⟩
      simp [Instr.sliceBound, asIntOf, hc.1, show i ≤ (y : Int) by omega]
    · cases hb
  · cases hb

theorem rd_sub {b off cap k : Nat} {es : List V} {g : Nat → Value} (hF : F b) (hcap : es.length ≤ cap) (hk : ∀ e, e ∈ es → e.cells.length = k)
    (hg : ∀ m, m < es.length * k → w.cell? ⟨b, off + m, none⟩ = some (g m))
    (hr : ∀ (i j : Nat) (e d : V), es[i]? = some e → e.cells[j]? = some d → Rd w F (g (i * k + j)) d) {l h : Nat} (hh : h ≤ es.length) (hl : l ≤ h) :
    Rd w F (.slice (some ⟨b, off + l * k, none⟩) (h - l) (cap - l)) (.sl ((es.take h).drop l)) := by
  have hlen : ((es.take h).drop l).length = h - l := by simp; omega
  rw [← hlen]
  refine .sl b (off + l * k) (cap - l) k _ (fun m => g (l * k + m)) hF (by omega) ?_ ?_ ?_
  · intro e he; exact hk e (List.mem_of_mem_take (List.mem_of_mem_drop he))
  · intro m hm
    rw [hlen] at hm
    rw [Nat.add_assoc]
    refine hg _ ?_
    have h1 : h * k ≤ es.length * k := Nat.mul_le_mul_right k hh
    have h2 : (h - l) * k = h * k - l * k := Nat.sub_mul h l k
    have h3 : l * k ≤ h * k := Nat.mul_le_mul_right k hl
    omega
  · intro i j e d h1 h2
    rw [List.getElem?_drop, List.getElem?_take] at h1
    split at h1
    · have := hr (l + i) j e d h1 h2
      rw [Nat.add_mul, Nat.add_assoc] at this
      exact this
    · cases h1

theorem evSlice_sim {t : TypeId} {es : List V} {v : Value} {lo hi mx : Option Operand} {r : R Γ.St} (hx : Rd w F v (.sl es))
    (hlo : ∀ x, lo = some x → TRel w F β al (a.eval x) (evx G e x)) (hhi : ∀ x, hi = some x → TRel w F β al (a.eval x) (evx G e x))
    (hmx : ∀ x, mx = some x → TRel w F β al (a.eval x) (evx G e x))
    (h : evSlice P t es (lo.map (evx G e)) (hi.map (evx G e)) (mx.map (evx G e)) = some r) :
    ∃ u y, r = .ret y ∧ (Instr.sliceAt t v (lo.map a.eval) (hi.map a.eval) (mx.map a.eval)).run P w = .ok u w ∧ TRel w F β al u y := by
  unfold evSlice at h
  split at h
  · rename_i el hu
    cases mx with
    | none =>
      simp only [Option.map_none] at h ⊢
      split at h
      · rename_i hN hbh
        split at h
        · rename_i lN hbl
          split at h
          · rename_i z hz
            obtain ⟨a0, cap, hv, hcap⟩ := rd_sl_len hx
            have hh : hN ≤ es.length ∧ ∀ code, (match hi.map a.eval, (none : Option Value) with
                | some v, some _ => Instr.sliceBound v cap .slice3B
                | some v, none => Instr.sliceBound v cap code
                | none, none => pure es.length
                | none, some _ => stuck "Slice: max without high").run P w = .ok hN w := by
              cases hi with
              | none => simp [boundV] at hbh; subst hbh; exact ⟨Nat.le_refl _, fun _ => rfl⟩
              | some x =>
                have := boundV_sim (P := P) (hhi x rfl) hbh hcap
                exact ⟨(this .index).2, fun code => (this code).1⟩
            have hl : lN ≤ hN ∧ ∀ code, (match lo.map a.eval with
                | some v => Instr.sliceBound v hN code
                | none => pure 0).run P w = .ok lN w := by
              cases lo with
              | none => simp [boundV] at hbl; subst hbl; exact ⟨Nat.zero_le _, fun _ => rfl⟩
              | some x =>
                have := boundV_sim (P := P) (hlo x rfl) hbl (Nat.le_refl _)
                exact ⟨(this .index).2, fun code => (this code).1⟩
            have hrun : (Instr.sliceAt t v (lo.map a.eval) (hi.map a.eval) none).run P w = .ok (.slice (if cap = lN then a0 else a0.map (·.add (lN * z))) (hN - lN) (cap - lN)) w := by
              subst hv
              have h1 := hh.2 .sliceAcap
              have h2 := hl.2 .sliceB
              have hsb : (Instr.sliceBounds true es.length cap (lo.map a.eval) (hi.map a.eval) none).run P w = .ok (lN, hN, cap) w := by
                simp only [Instr.sliceBounds, Sem.run_bind, Sem.run_pure, Result.andThen_ok]
                cases hi <;> cases lo <;> simp_all
              simp [Instr.sliceAt, Instr.slice, run_underlying? hu, hsb, run_sizeOf hz]
            have hres : ∃ u, (Instr.sliceAt t v (lo.map a.eval) (hi.map a.eval) none).run P w = .ok u w ∧ Rd w F u (.sl ((es.take hN).drop lN)) ∧ r = .ret (.p (.sl ((es.take hN).drop lN))) := by
              refine ⟨_, hrun, ?_⟩
              cases hx with
              | slemp a1 cap1 =>
                simp at hv
                obtain ⟨rfl, rfl⟩ := hv
                simp at hh hl
                obtain ⟨rfl, _⟩ := hh
                obtain ⟨hl0, _⟩ := hl
                obtain rfl : lN = 0 := by omega
                refine ⟨?_, by simp at h; simp [h]⟩
                simp
                exact .slemp _ _
              | sl b off cap' k es g hF hcap' hk hg hr =>
                simp at hv
                obtain ⟨rfl, rfl⟩ := hv
                have hlen : ((es.take hN).drop lN).length = hN - lN := by simp; omega
                cases hd : es[lN]? with
                | some d =>
                  simp only [hd] at h
                  split at h
                  · rename_i hdz
                    have hkz : k = z := by rw [← hdz]; exact (hk d (List.mem_of_getElem? hd)).symm
                    subst hkz
                    simp only [Option.some.injEq] at h
                    refine ⟨?_, h.symm⟩
                    have hlt := (List.getElem?_eq_some_iff.1 hd).1
                    rw [if_neg (by omega)]
                    simp only [Option.map_some, add_eq]
                    exact rd_sub hF hcap hk hg hr hh.1 hl.1
                  · cases h
                | none =>
                  simp only [hd, Option.some.injEq] at h
                  have hge := List.getElem?_eq_none_iff.1 hd
                  have hnil : (es.take hN).drop lN = [] := List.eq_nil_of_length_eq_zero (by omega)
                  rw [hnil]
                  refine ⟨?_, h.symm⟩
                  have h0 : hN - lN = 0 := by omega
                  rw [h0]
                  have hsome : ∃ off', (if cap' = lN then some (⟨b, off, none⟩ : Addr) else Option.map (fun x : Addr => x.add (lN * z)) (some (⟨b, off, none⟩ : Addr))) = some (⟨b, off', none⟩ : Addr) := by
                    split
                    · exact ⟨off, rfl⟩
                    · exact ⟨off + lN * z, by simp [add_eq]⟩
                  obtain ⟨off', ho⟩ := hsome
                  rw [ho]
                  exact Rd.sl b off' _ 0 [] (fun _ => undef) hF (by simp) (by simp) (by simp) (by simp)
            obtain ⟨u, hu1, hu2, hu3⟩ := hres
            exact ⟨u, _, hu3, hu1, hu2⟩
          · cases h
        · cases h
      · cases h
    | some m0 =>
      simp only [Option.map_some] at h ⊢
      have hm := hmx m0 rfl
      split at h
      · rename_i heq; cases heq
      · rename_i km heq
        simp only [Option.some.injEq] at heq
        rw [heq] at hm
        have hm' := Rd.eq_val hm
        split at h
        · rename_i kh hhi0 hlo0
          cases hi with
          | none => simp at hhi0
          | some h0 =>
            cases lo with
            | some l0 => simp at hlo0
            | none =>
              simp only [Option.map_some, Option.some.injEq] at hhi0
              have hh := hhi h0 rfl
              rw [hhi0] at hh
              have hh' := Rd.eq_val hh
              split at h
              · rename_i z hz
                simp only [Option.some.injEq] at h
                subst h
                obtain ⟨a0, cap, hv, _⟩ := rd_sl_len hx
                refine ⟨.slice a0 0 0, .emp, rfl, ?_, a0, rfl⟩
                · subst hv
                  simp [Instr.sliceAt, Instr.slice, run_underlying? hu, Instr.sliceBounds, Instr.sliceBound, asIntOf, hm', hh', run_sizeOf hz]
              · cases h
        · cases h
      · cases h
  · cases h

theorem evSliceT_sim {t : TypeId} {ty : Ty} {xs : List ty.El} {v : Value} {lo hi mx : Option Operand} {r : R Γ.St} (hx : Rd w F v (.tl ty xs))
    (hlo : ∀ x, lo = some x → TRel w F β al (a.eval x) (evx G e x)) (hhi : ∀ x, hi = some x → TRel w F β al (a.eval x) (evx G e x))
    (hmx : ∀ x, mx = some x → TRel w F β al (a.eval x) (evx G e x))
    (h : evSliceT P t ty xs (lo.map (evx G e)) (hi.map (evx G e)) (mx.map (evx G e)) = some r) :
    ∃ u y, r = .ret y ∧ (Instr.sliceAt t v (lo.map a.eval) (hi.map a.eval) (mx.map a.eval)).run P w = .ok u w ∧ TRel w F β al u y := by
  unfold evSliceT at h
  split at h
  · rename_i el hu
    have hu' : P.underlying t = some (.slice el) := hu
    split at h
    · rename_i hz
      split at h
      · rename_i hmn
        split at h
        · rename_i hN hbh
          split at h
          · rename_i lN hbl
            simp only [Option.some.injEq] at h
            subst h
            obtain ⟨u, y, h1, h2, h3⟩ := evSlice_sim (P := P) (t := t) (Γ := Γ) (lo := lo) (hi := hi) (mx := mx) (r := .ret (.p (.sl (((xs.map ty.enc).take hN).drop lN)))) (Rd.untl hx) hlo hhi hmx (by
              simp only [evSlice, hu', hmn, List.length_map, hbh, hbl, hz]
              cases hl : (xs.map ty.enc)[lN]? with
              | none =>
                have : ((xs.map ty.enc).take hN).drop lN = [] := by
                  rw [List.getElem?_eq_none_iff] at hl
                  exact List.eq_nil_of_length_eq_zero (by simp at hl ⊢; omega)
                simp [this]
              | some d =>
                simp only [List.getElem?_map, Option.map_eq_some_iff] at hl
                obtain ⟨x, _, rfl⟩ := hl
                simp [enc_len])
            simp only [R.ret.injEq] at h1
            subst h1
            have h4 : Rd w F u (.sl (((xs.map ty.enc).take hN).drop lN)) := h3
            refine ⟨u, _, rfl, h2, .tl _ _ _ ?_⟩
            simpa [List.map_take, List.map_drop] using h4
          · cases h
        · cases h
      · cases h
    · cases h
  · cases h

theorem evBuild_sim {t : TypeId} {parts : Array (Nat × Operand)} {qs : List (Nat × V)} {r : R Γ.St} (hp : ∀ p, p ∈ parts.toList → TRel w F β al (a.eval p.2) (evx G e p.2))
    (hq : purePairs G e parts.toList = some qs) (h : evBuild P t qs = some r) :
    ∃ u y, r = .ret y ∧ (Instr.build t (parts.map fun (i, x) => (i, a.eval x))).run P w = .ok u w ∧ TRel w F β al u y := by
  obtain ⟨hl, hr⟩ := purePairs_sim parts.toList qs hp hq
  unfold evBuild at h
  split at h
  · rename_i z hz
    simp only [Option.bind_eq_some_iff] at hz
    obtain ⟨info, hi, hz⟩ := hz
    have hz0 := rd_cells (rd_ofVal1 w F z) (by cases z <;> rfl)
    have hzero : Cells w F z.cells (V.ofVal1 z).cells := hz0
    have hzv : (zeroValue t).run P w = .ok z w := by simp [zeroValue, run_typeInfo hi, hz]
    split at h
    · rename_i fs hu
      split at h
      · rename_i hall
        simp only [Option.map_eq_some_iff] at h
        obtain ⟨cs, hcs, rfl⟩ := h
        have hpl : (fs.mapM fun f => do pure (f.offset, ← sizeOf f.type) : Sem (Array (Nat × Nat))).run P w = .ok (fs.map fun f => (f.offset, (size? P f.type).getD 0)) w := by
          rw [Array.mapM_eq_mapM_toList]
          simp only [Sem.run_map]
          rw [run_mapM (g := fun f : Field => (f.offset, (size? P f.type).getD 0))]
          · simp only [Result.andThen_ok]
            congr 1
            apply Array.ext'
            simp
          · intro f hf
            obtain ⟨n, hn⟩ := Option.isSome_iff_exists.1 (List.all_eq_true.1 hall f hf)
            simp [run_sizeOf hn, hn]
        obtain ⟨c', hc1, hc2⟩ := fillV_sim (w := w) (F := F) _ _ qs z.cells _ cs hl hr hzero hcs
        refine ⟨.agg c', _, rfl, ?_, Rd.agg c' cs hc2.1 hc2.2⟩
        simp only [Instr.build, Sem.run_bind, hzv, Result.andThen_ok, run_underlying? hu, hpl]
        simp only [Array.toList_map]
        rw [hc1]
        rfl
      · cases h
    · rename_i n0 el hu
      split at h
      · rename_i n hn
        simp only [Option.map_eq_some_iff] at h
        obtain ⟨cs, hcs, rfl⟩ := h
        obtain ⟨c', hc1, hc2⟩ := fillV_sim (w := w) (F := F) _ _ qs z.cells _ cs hl hr hzero hcs
        refine ⟨.agg c', _, rfl, ?_, Rd.agg c' cs hc2.1 hc2.2⟩
        simp only [Instr.build, Sem.run_bind, hzv, Result.andThen_ok, run_underlying? hu, run_sizeOf hn]
        simp only [Array.toList_map]
        rw [hc1]
        rfl
      · cases h
    · cases h
  · cases h

theorem Row_rd {b k cap : Nat} {es : List V} (h : RowRel w F b k cap es) {F' : Nat → Prop} (hF : ∀ b, F b → F' b) (hb : F' b) : Rd w F' (.slice (some ⟨b, 0, none⟩) es.length cap) (.sl es) := by
  obtain ⟨c, et, h1, h2, h3, h4, h5⟩ := h
  have hle : es.length * k ≤ cap * k := Nat.mul_le_mul_right k h3
  refine .sl b 0 cap k es (fun m => (c[m]?).getD undef) hb h3 h4 ?_ ?_
  · intro m hm
    have : m < c.size := by omega
    simp [World.cell?, h1, this]
  · intro i j e d hi hj
    have hi' := (List.getElem?_eq_some_iff.1 hi).1
    have hj' := (List.getElem?_eq_some_iff.1 hj).1
    have hk := h4 e (List.mem_of_getElem? hi)
    have : (i + 1) * k ≤ cap * k := Nat.mul_le_mul_right k (by omega)
    rw [Nat.succ_mul] at this
    have hlt : i * k + j < c.size := by omega
    exact (h5 i j e d _ hi hj (by simp [hlt])).mono hF (fun _ _ => rfl)

theorem Var_rd {b : Nat} {cs : List T} {ds : List V} (h : VarRel w F β al b cs) {F' : Nat → Prop} (hF : ∀ b, F b → F' b) (hb : F' b) {off : Nat}
    (hp : pureCells (cs.drop off) = some ds) : Rd w F' (.pointer (some ⟨b, off, none⟩)) (.pp ds) := by
  have heq := pureCells_get hp
  have hlen : ds.length = cs.length - off := by
    have := congrArg List.length heq
    simp at this; omega
  have hat : ∀ m, m < ds.length → ∃ x, w.cell? ⟨b, off + m, none⟩ = some x ∧ ∀ d, ds[m]? = some d → Rd w F x d := by
    intro m hm
    obtain ⟨x, h1, h2⟩ := h.at (off + m) (by omega)
    refine ⟨x, h1, fun d hd => ?_⟩
    have h3 : (cs.drop off)[m]? = some (.p d) := by rw [heq]; simp [hd]
    rw [List.getElem?_drop, List.getElem?_eq_getElem (by omega), Option.some.injEq] at h3
    rw [h3] at h2; exact h2
  refine .pp b off ds (fun m => (w.cell? ⟨b, off + m, none⟩).getD undef) hb ?_ ?_
  · intro m hm
    obtain ⟨x, h1, _⟩ := hat m hm
    simp [h1]
  · intro m d hd
    obtain ⟨x, h1, h2⟩ := hat m (List.getElem?_eq_some_iff.1 hd).1
    simp only [h1, Option.getD_some]
    exact (h2 d hd).mono hF (fun _ _ => rfl)

theorem argV_sim (hvars : ∀ s cs, e.var s = some cs → al (.v s) → VarRel w F β al (β.vb s) cs) {v : Value} {x : T} {d : V} (hx : TRel w F β al v x) (h : argV e x = some d) :
    Rd w (Fal F β al) v d ∧ (x.isView = false → Rd w F v d) := by
  cases x with
  | p d' =>
    simp only [argV, Option.some.injEq] at h
    subst h
    exact ⟨Rd.mono hx (fun b hb => .inl hb) (fun _ _ => rfl), fun _ => hx⟩
  | ow id k es =>
    simp only [argV, Option.some.injEq] at h
    subst h
    obtain ⟨ha, cap, rfl, hrow⟩ := hx
    exact ⟨Row_rd hrow (fun b hb => .inl hb) (.inr ⟨.o id, ha, rfl⟩), fun hv => by simp [T.isView] at hv⟩
  | oe id k es i off => simp [argV] at h
  | lp s off =>
    simp only [argV] at h
    split at h
    · rename_i cs hcs
      simp only [Option.map_eq_some_iff] at h
      obtain ⟨ds, hds, rfl⟩ := h
      obtain ⟨ha, rfl⟩ := hx
      exact ⟨Var_rd (hvars s cs hcs ha) (fun b hb => .inl hb) (.inr ⟨.v s, ha, rfl⟩) hds, fun hv => by simp [T.isView] at hv⟩
    · cases h
  | emp =>
    simp only [argV, Option.some.injEq] at h
    subst h
    obtain ⟨a0, rfl⟩ := hx
    exact ⟨.slemp a0 0, fun _ => .slemp a0 0⟩
  | mp id es ck => simp [argV] at h
  | ot id t xs =>
    simp only [argV, Option.some.injEq] at h
    subst h
    refine ⟨?_, fun hv => by simp [T.isView] at hv⟩
    refine .tl t xs v ?_
    rcases hx with ⟨h0, a0, rfl⟩ | ⟨hne, ha, cap, rfl, hrow⟩
    · rw [h0]; exact .slemp a0 0
    · exact Row_rd hrow (fun b hb => .inl hb) (.inr ⟨.o id, ha, rfl⟩)
  | oet id t xs i off => simp [argV] at h
  | dead => simp [argV] at h

theorem argsV_sim (hvars : ∀ s cs, e.var s = some cs → al (.v s) → VarRel w F β al (β.vb s) cs) : ∀ (xs : List Operand) (ds : List V),
    (∀ x, x ∈ xs → TRel w F β al (a.eval x) (evx G e x)) → argsV G e xs = some ds → xs.length = ds.length ∧
    ∀ (i : Nat) (x : Value) (y : V), (xs.map a.eval)[i]? = some x → ds[i]? = some y → Rd w (Fal F β al) x y ∧ (xs.any (fun x => (evx G e x).isView) = false → Rd w F x y) := by
  intro xs
  induction xs with
  | nil => intro qs _ h; simp [argsV] at h; subst h; exact ⟨rfl, fun i x y h1 => by simp at h1⟩
  | cons x xs ih =>
    intro qs hr h
    simp only [argsV] at h
    split at h
    · rename_i d ds hd hds
      simp only [Option.some.injEq] at h
      subst h
      obtain ⟨h1, h2⟩ := ih ds (fun p hp => hr p (List.mem_cons_of_mem _ hp)) hds
      refine ⟨by simpa using h1, ?_⟩
      intro n u y hu hy
      cases n with
      | zero =>
        simp at hu hy; subst hu hy
        obtain ⟨h3, h4⟩ := argV_sim hvars (hr x (by simp)) hd
        exact ⟨h3, fun hv => h4 (by simp at hv; exact hv.1)⟩
      | succ n =>
        obtain ⟨h3, h4⟩ := h2 n u y (by simpa using hu) (by simpa using hy)
        exact ⟨h3, fun hv => h4 (by simp at hv ⊢; exact hv.2)⟩
    · cases h

theorem mkElems_len (ag : Bool) (k : Nat) : ∀ (n : Nat) (flat : List V), (mkElems ag k n flat).length = n := by
  intro n
  induction n with
  | zero => intro _; rfl
  | succ n ih => intro flat; simp [mkElems, ih]

theorem mkElems_get (ag : Bool) (k : Nat) : ∀ (n : Nat) (flat : List V) (i : Nat) (q : V), flat.length = n * k → (ag = false → k = 1) → (ag = true ∨ ∀ d, d ∈ flat → d.noAgg = true) → k ≠ 0 →
    (mkElems ag k n flat)[i]? = some q → q.cells.length = k ∧ ∀ j d, q.cells[j]? = some d → flat[i * k + j]? = some d := by
  intro n
  induction n with
  | zero => intro flat i q _ _ _ _ h; simp [mkElems] at h
  | succ n ih =>
    intro flat i q hl hk hone hk0 h
    rw [Nat.succ_mul] at hl
    cases i with
    | zero =>
      simp only [mkElems, List.getElem?_cons_zero, Option.some.injEq] at h
      subst h
      cases ag with
      | true =>
        simp only [if_true, V.cells]
        refine ⟨by simp; omega, ?_⟩
        intro j d hj
        rw [List.getElem?_take] at hj
        split at hj
        · simpa using hj
        · cases hj
      | false =>
        obtain rfl := hk rfl
        cases flat with
        | nil => simp at hl
        | cons d0 flat =>
          simp only [Bool.false_eq_true, if_false, List.head?_cons, Option.getD_some]
          have h1 := hone.resolve_left (by simp) d0 (by simp)
          have hc : d0.cells = [d0] := by cases d0 <;> simp_all [V.noAgg, V.cells]
          rw [hc]
          refine ⟨rfl, ?_⟩
          intro j d hj
          have hj0 : j = 0 := by have := (List.getElem?_eq_some_iff.1 hj).1; simpa using this
          subst hj0
          simpa using hj
    | succ i =>
      simp only [mkElems, List.getElem?_cons_succ] at h
      have := ih (flat.drop k) i q (by simp; omega) hk (hone.imp id (fun hh d hd => hh d (List.mem_of_mem_drop hd))) hk0 h
      refine ⟨this.1, ?_⟩
      intro j d hj
      have h2 := this.2 j d hj
      rw [List.getElem?_drop] at h2
      rw [Nat.succ_mul, show i * k + k + j = k + (i * k + j) by omega]; exact h2

theorem evBuildSlice_sim {t : TypeId} {len : Nat} {parts : Array (Nat × Operand)} {qs : List (Nat × V)} {r : R Γ.St} {dst : Option Tmp} {type : TypeId} {pos : String} {after : Array Edge} {guard : Option (Nat × Bool)}
    (hp : ∀ p, p ∈ parts.toList → TRel w F β al (a.eval p.2) (evx G e p.2)) (hq : purePairs G e parts.toList = some qs) (h : evBuildSlice P t len qs = some r) :
    OpSim Γ P S ⟨dst, .buildSlice t len parts, type, pos, after, guard⟩ a w F β al al st r := by
  obtain ⟨hl, hr⟩ := purePairs_sim parts.toList qs hp hq
  unfold evBuildSlice at h
  split at h
  · rename_i el hu
    split at h
    · rename_i info hi
      split at h
      · rename_i z ag hz hag
        split at h
        · rename_i hcond
          obtain ⟨h24, hzl, hs0, hag1⟩ := hcond
          split at h
          · rename_i flat hflat
            split at h
            · rename_i hone
              obtain ⟨hz1, hz2⟩ := rd_cells (rd_ofVal1 w F z) (by cases z <;> rfl)
              have hzs : z.cells.size = info.size := by rw [hz1]; exact hzl
              have hzero : Cells w F ((Array.range (len * info.size)).map (fun i => z.cells[i % z.cells.size]!)) ((List.range (len * info.size)).map (fun i => ((V.ofVal1 z).cells[i % info.size]?).getD (.val undef))) := by
                refine ⟨by simp, ?_⟩
                intro i x y hx hy
                simp only [List.getElem?_map, Option.map_eq_some_iff] at hy
                obtain ⟨m, hm, rfl⟩ := hy
                have hlt : i < len * info.size := by have := (List.getElem?_eq_some_iff.1 hm).1; simpa using this
                rw [List.getElem?_range hlt, Option.some.injEq] at hm
                subst hm
                simp only [Array.getElem?_map, Array.getElem?_range, hlt, if_true, Option.map_some, Option.some.injEq] at hx
                subst hx
                have hmod : i % info.size < info.size := Nat.mod_lt _ (Nat.pos_of_ne_zero hs0)
                rw [hzs]
                have hlt2 : i % info.size < z.cells.size := by omega
                have hlt3 : i % info.size < (V.ofVal1 z).cells.length := by omega
                rw [List.getElem?_eq_getElem hlt3, Option.getD_some]
                rw [getElem!_pos z.cells _ hlt2]
                exact hz2 (i % info.size) _ _ (Array.getElem?_eq_getElem hlt2) (List.getElem?_eq_getElem hlt3)
              obtain ⟨c', hc1, hc2⟩ := fillV_sim (w := w) (F := F) _ _ qs _ _ flat hl hr hzero hflat
              have hflen : flat.length = len * info.size := by
                have := hc2.1
                have hfs : ∀ (ps : List (Nat × Value)) (c c' : Array Value) (pl : Nat → Option (Nat × Nat)), Instr.fill pl c ps = some c' → c'.size = c.size := by
                  intro ps
                  induction ps with
                  | nil => intro c c' pl h; simp [Instr.fill] at h; rw [h]
                  | cons p ps ih =>
                    intro c c' pl h
                    obtain ⟨i, v⟩ := p
                    simp only [Instr.fill] at h
                    split at h
                    · cases h
                    · split at h
                      · cases h
                      · have h3 := ih _ _ _ h
                        rw [h3]
                        have hfold : ∀ (l : List (Value × Nat)) (off : Nat) (c : Array Value), (l.foldl (fun cs (x : Value × Nat) => cs.setIfInBounds (off + x.2) x.1) c).size = c.size := by
                          intro l
                          induction l with
                          | nil => intro off c; rfl
                          | cons x l ih => intro off c; simp [ih]
                        rw [← Array.foldl_toList]
                        exact hfold _ _ _
                have := hfs _ _ _ _ hc1
                simp at this; omega
              have hget := fun i q hq => mkElems_get ag info.size len flat i q hflen hag1 (by
                cases ag with
                | true => exact .inl rfl
                | false => simp only [Bool.false_or, List.all_eq_true] at hone; exact .inr hone) hs0 hq
              have hlen := mkElems_len ag info.size len flat
              have hrow : ∃ (c : Array Value) (et : TypeId), (execOp a.eval ⟨dst, .buildSlice t len parts, type, pos, after, guard⟩).run P w = .ok (.value (.slice (some ⟨w.heap.size, 0, none⟩) (mkElems ag info.size len flat).length (mkElems ag info.size len flat).length)) { w with heap := w.heap.push (.cells c et) } ∧
                  c.size = (mkElems ag info.size len flat).length * info.size ∧ (∀ e, e ∈ (mkElems ag info.size len flat) → e.cells.length = info.size) ∧
                  ∀ (i j : Nat) (e d : V) (x : Value), (mkElems ag info.size len flat)[i]? = some e → e.cells[j]? = some d → c[i * info.size + j]? = some x → Rd w F x d := by
               refine ⟨c', el, ?_, ?_, ?_, ?_⟩
               · have hzv : (zeroValue el).run P w = .ok z w := by simp [zeroValue, run_typeInfo hi, hz]
                 have hsz : (sizeOf el).run P w = .ok info.size w := run_sizeOf (size_of_info hi) w
                 rw [hlen]
                 simp only [execOp, Instr.buildSlice, Sem.run_bind, run_underlying? hu, Result.andThen_ok, hsz]
                 rw [if_neg (by omega)]
                 by_cases h0 : len * info.size = 0
                 · have hrange : ∀ f : Nat → Value, (Array.range (len * info.size)).map f = #[] := by intro f; rw [h0]; exact Array.eq_empty_of_size_eq_zero (by simp)
                   rw [hrange] at hc1
                   simp only [hrange]
                   simp only [h0, if_true, Sem.run_bind, Sem.run_pure, Result.andThen_ok, Array.toList_map]
                   rw [hc1]
                   rfl
                 · simp only [h0, if_false, Sem.run_bind, hzv, Result.andThen_ok, Sem.run_pure]
                   simp only [Array.toList_map]
                   rw [hc1]
                   rfl
               · rw [hlen]; rw [hc2.1]; exact hflen
               · intro q hq
                 obtain ⟨i, hi', rfl⟩ := List.getElem_of_mem hq
                 exact (hget i _ (List.getElem?_eq_getElem hi')).1
               · intro i j q d x hi' hj hx
                 exact hc2.2 _ x d hx ((hget i q hi').2 j d hj)
              obtain ⟨c, et, h1, h2, h3, h4⟩ := hrow
              have hfrz : OpSim Γ P S ⟨dst, .buildSlice t len parts, type, pos, after, guard⟩ a w F β al al st (.frz (mkElems ag info.size len flat)) := ⟨c, et, info.size, h1, h2, h3, h4⟩
              split at h
              · rename_i h0
                simp only [Option.some.injEq] at h
                subst h
                subst h0
                exact ⟨c, et, 0, by simpa [mkElems] using h1, by simpa [mkElems] using h2, by simp, by simp, by simp, by simp⟩
              · split at h
                · rename_i ty hty
                  split at h
                  · rename_i hsz
                    split at h
                    · rename_i xs hxs
                      simp only [Option.some.injEq] at h
                      subst h
                      exact ⟨_, c, et, h1, by rw [hsz]; exact h2, by rw [hsz]; exact h3, by rw [hsz]; exact h4, decs_cells hxs⟩
                    · simp only [Option.some.injEq] at h; subst h; exact hfrz
                  · simp only [Option.some.injEq] at h; subst h; exact hfrz
                · simp only [Option.some.injEq] at h; subst h; exact hfrz
            · cases h
          · cases h
        · cases h
      · cases h
    · cases h
  · cases h

theorem some_sim {v : Value} {x : T} (h : TRel w F β al v x) (hx : x.thereS = true) : ∃ (ad : Addr) (n c : Nat), v = .slice (some ad) n c := by
  cases x with
  | p d =>
    cases d with
    | sl es =>
      cases es with
      | nil => cases hx
      | cons x es => exact rd_sl_some h
    | tl t xs =>
      cases xs with
      | nil => cases hx
      | cons x es => exact rd_sl_some (Rd.untl h)
    | _ => cases hx
  | ow id k es => obtain ⟨ha, cap, hv, _⟩ := h; exact ⟨_, _, cap, hv⟩
  | _ => cases hx

theorem equal_nil {t el : TypeId} {ad : Addr} {n c n' c' : Nat} (hu : (underlying t).run P w = .ok (.slice el) w) :
    (Op.equal t (.slice (some ad) n c) (.slice none n' c')).run P w = .ok false w := by
  show (Op.equalIn (9999 + 1) t (.slice (some ad) n c) (.slice none n' c')).run P w = .ok false w
  unfold Op.equalIn
  simp only [Sem.run_bind, hu, Result.andThen_ok]
  rfl

theorem evNil_sim {op : BinOp} {t t' : TypeId} {x y : Operand} {r : R Γ.St} {dst : Option Tmp} {type : TypeId} {pos : String} {after : Array Edge} {guard : Option (Nat × Bool)}
    (hx : TRel w F β al (a.eval x) (evx G e x)) (hy : TRel w F β al (a.eval y) (evx G e y)) (h : evNil P op t (evx G e x) (evx G e y) = some r) :
    OpSim Γ P S ⟨dst, .binOp op t x y t', type, pos, after, guard⟩ a w F β al al st r := by
  unfold evNil at h
  split at h
  · rename_i hs
    obtain ⟨ad, n, c, hv⟩ := some_sim hx hs
    split at h
    · rename_i n' c' hey
      rw [hey] at hy
      have hy' := Rd.eq_val hy
      split at h
      · split at h
        · rename_i el hu
          simp only [Option.some.injEq] at h
          subst h
          refine ⟨.bool false, ?_, .val _⟩
          have hu' : (underlying t).run P w = .ok (.slice el) w := run_underlying? hu w
          have hb : binOp .eql t (.slice (some ad) n c) (.slice none n' c') = (do pure (.bool ((← Op.equal t (.slice (some ad) n c) (.slice none n' c'))))) := rfl
          have hg : eqGuard .eql t x y (.slice (some ad) n c) (.slice none n' c') = pure () := rfl
          simp only [execOp, hv, hy', hg, hb, Sem.run_bind, Sem.run_pure, Result.andThen_ok, equal_nil hu']
        · cases h
      · split at h
        · rename_i el hu
          simp only [Option.some.injEq] at h
          subst h
          refine ⟨.bool true, ?_, .val _⟩
          have hu' : (underlying t).run P w = .ok (.slice el) w := run_underlying? hu w
          have hb : binOp .neq t (.slice (some ad) n c) (.slice none n' c') = (do pure (.bool (!(← Op.equal t (.slice (some ad) n c) (.slice none n' c'))))) := rfl
          have hg : eqGuard .neq t x y (.slice (some ad) n c) (.slice none n' c') = pure () := rfl
          simp only [execOp, hv, hy', hg, hb, Sem.run_bind, Sem.run_pure, Result.andThen_ok, equal_nil hu']
          rfl
        · cases h
      · cases h
    · cases h
  · cases h

theorem forIn_eq {xs ys : Array Value} {d : Nat} {eqs : TypeId → V → V → Option Bool} {ds es : List V}
    (heq : ∀ t vx vy x y c, Rd w F vx x → Rd w F vy y → eqs t x y = some c → (Op.equalIn d t vx vy).run P w = .ok c w)
    (hx : xs.size = ds.length ∧ ∀ (i : Nat) (v : Value) (d : V), xs[i]? = some v → ds[i]? = some d → Rd w F v d)
    (hy : ys.size = es.length ∧ ∀ (i : Nat) (v : Value) (d : V), ys[i]? = some v → es[i]? = some d → Rd w F v d) : ∀ (fs : List Field) (c : Bool), eqFs P eqs ds es fs = some c →
    (forIn fs ((none, ()) : Option Bool × Unit) (fun f (_ : Option Bool × Unit) =>
      if f.name ≠ "_" then do
        let u ← part f.type xs f.offset
        let v ← part f.type ys f.offset
        let b ← Op.equalIn d f.type u v
        if (!b) = true then pure (ForInStep.done (some false, ())) else pure (ForInStep.yield (none, ()))
      else pure (ForInStep.yield (none, ()))) : Sem (Option Bool × Unit)).run P w = .ok (if c then (none, ()) else (some false, ())) w := by
  intro fs
  induction fs with
  | nil => intro c h; simp [eqFs] at h; subst h; rfl
  | cons f fs ih =>
    intro c h
    simp only [eqFs] at h
    split at h
    · cases h
    · rename_i hname
      split at h
      · rename_i a0 b0 ha hb
        split at h
        · rename_i c1 c2 h1 h2
          simp only [Option.some.injEq] at h
          subst h
          obtain ⟨u, hu, hru⟩ := partV_sim (P := P) hx.1 hx.2 ha
          obtain ⟨v, hv, hrv⟩ := partV_sim (P := P) hy.1 hy.2 hb
          have he := heq f.type u v a0 b0 c1 hru hrv h1
          rw [List.forIn_cons]
          simp only [ne_eq, hname, not_false_eq_true, if_true, Sem.run_bind, hu, hv, he, Result.andThen_ok]
          cases c1 with
          | false => simp
          | true =>
            have := ih c2 h2
            simp only [Bool.not_true, Bool.false_eq_true, if_false, Sem.run_pure, Result.andThen_ok, Bool.true_and]
            exact this
        · cases h
      · cases h

theorem equal_sim : ∀ (d : Nat) (t : TypeId) (vx vy : Value) (x y : V) (c : Bool), Rd w F vx x → Rd w F vy y → eqV P d t x y = some c → (Op.equalIn d t vx vy).run P w = .ok c w := by
  intro d
  induction d with
  | zero => intro t vx vy x y c _ _ h; simp [eqV] at h
  | succ d ih =>
    intro t vx vy x y c hx hy h
    simp only [eqV] at h
    split at h
    · rename_i hu
      split at h
      · simp only [Option.some.injEq] at h
        subst h
        rw [Rd.eq_val hx, Rd.eq_val hy]
        unfold Op.equalIn
        simp only [Sem.run_bind, run_underlying? hu, Result.andThen_ok]
        rfl
      · cases h
    · rename_i k0 hu
      split at h
      · split at h
        · rename_i hk
          simp only [Option.some.injEq] at h
          subst h
          rw [Rd.eq_val hx, Rd.eq_val hy]
          unfold Op.equalIn
          simp only [Sem.run_bind, run_underlying? hu, Result.andThen_ok, hk, if_true]
          rfl
        · cases h
      · cases h
    · rename_i hu
      split at h
      · simp only [Option.some.injEq] at h
        subst h
        rw [Rd.eq_val hx, Rd.eq_val hy]
        unfold Op.equalIn
        simp only [Sem.run_bind, run_underlying? hu, Result.andThen_ok]
        rfl
      · cases h
    · rename_i fs hu
      split at h
      · split at h
        · rename_i hst
          cases hx with
          | agg xs ds hl hr =>
            cases hy with
            | agg ys es hl' hr' =>
              unfold Op.equalIn
              have hp : (program).run P w = .ok P w := rfl
              have hst' : P.stoodInHeld t = false := hst
              simp only [Sem.run_bind, run_underlying? hu, Result.andThen_ok, hp, hst', Bool.false_eq_true, if_false]
              rw [← Array.forIn_toList]
              have := forIn_eq (P := P) (w := w) (F := F) (d := d) (eqs := eqV P d) (fun t vx vy x y c h1 h2 h3 => ih t vx vy x y c h1 h2 h3) ⟨hl, hr⟩ ⟨hl', hr'⟩ fs.toList c h
              rw [this]
              cases c <;> rfl
        · cases h
      · cases h
    · cases h

theorem evEq_sim {op : BinOp} {t t' : TypeId} {x y : Operand} {r : R Γ.St} {dst : Option Tmp} {type : TypeId} {pos : String} {after : Array Edge} {guard : Option (Nat × Bool)}
    (hx : TRel w F β al (a.eval x) (evx G e x)) (hy : TRel w F β al (a.eval y) (evx G e y)) (h : evEq P op t (evx G e x) (evx G e y) = some r) :
    OpSim Γ P S ⟨dst, .binOp op t x y t', type, pos, after, guard⟩ a w F β al al st r := by
  unfold evEq at h
  split at h
  · rename_i xs ys hex hey
    rw [hex] at hx
    rw [hey] at hy
    have hx' : Rd w F (a.eval x) (.agg xs) := hx
    have hy' : Rd w F (a.eval y) (.agg ys) := hy
    have hgd : ∀ op, (P.eqGuardType P.depth t = false) → (eqGuard op t x y (a.eval x) (a.eval y)).run P w = .ok () w := by
      intro op hq
      generalize a.eval x = vx at hx'
      generalize a.eval y = vy at hy'
      cases hx' with
      | agg cs ds hl hr =>
        cases hy' with
        | agg cs' ds' hl' hr' =>
          unfold eqGuard
          have hp : (program).run P w = .ok P w := rfl
          cases op <;> first | rfl | (simp [hp, hq])
    have hform : ∀ op, op = .eql → binOp op t (a.eval x) (a.eval y) = (do pure (.bool (← Op.equal t (a.eval x) (a.eval y)))) := by
      rintro _ rfl
      generalize a.eval x = vx at hx'
      generalize a.eval y = vy at hy'
      cases hx' with
      | agg cs ds hl hr =>
        cases hy' with
        | agg cs' ds' hl' hr' => rfl
    have hform2 : binOp .neq t (a.eval x) (a.eval y) = (do pure (.bool (!(← Op.equal t (a.eval x) (a.eval y))))) := by
      generalize a.eval x = vx at hx'
      generalize a.eval y = vy at hy'
      cases hx' with
      | agg cs ds hl hr =>
        cases hy' with
        | agg cs' ds' hl' hr' => rfl
    split at h
    · split at h
      · rename_i hq
        simp only [Option.map_eq_some_iff] at h
        obtain ⟨b, hb, rfl⟩ := h
        have he : (Op.equal t (a.eval x) (a.eval y)).run P w = .ok b w := equal_sim (P := P) 10000 t _ _ _ _ b hx' hy' hb
        refine ⟨.bool b, ?_, .val _⟩
        have hbo : binOp .eql t (a.eval x) (a.eval y) = (do pure (.bool (← Op.equal t (a.eval x) (a.eval y)))) := hform .eql rfl
        simp only [execOp, hbo, Sem.run_bind, hgd .eql hq, Result.andThen_ok, he, Sem.run_pure]
      · cases h
    · split at h
      · rename_i hq
        simp only [Option.map_eq_some_iff] at h
        obtain ⟨b, hb, rfl⟩ := h
        have he : (Op.equal t (a.eval x) (a.eval y)).run P w = .ok b w := equal_sim (P := P) 10000 t _ _ _ _ b hx' hy' hb
        refine ⟨.bool (!b), ?_, .val _⟩
        have hbo : binOp .neq t (a.eval x) (a.eval y) = (do pure (.bool (!(← Op.equal t (a.eval x) (a.eval y))))) := hform2
        simp only [execOp, hbo, Sem.run_bind, hgd .neq hq, Result.andThen_ok, he, Sem.run_pure]
      · cases h
    · cases h
  · cases h

theorem evMakeSlice_sim {t : TypeId} {n : Int} {l c0 : Operand} {r : R Γ.St} {dst : Option Tmp} {type : TypeId} {pos : String} {after : Array Edge} {guard : Option (Nat × Bool)}
    (hl : a.eval l = .int .i64 n) (hcv : a.eval c0 = .int .i64 n) (h : evMakeSlice P t n = some r) :
    OpSim Γ P S ⟨dst, .makeSlice t l c0, type, pos, after, guard⟩ a w F β al al st r := by
  unfold evMakeSlice at h
  split at h
  · rename_i el hu
    split at h
    · rename_i info hi
      split at h
      · rename_i z hz
        split at h
        · rename_i hcond
          obtain ⟨h0, hb, hb1, hzl, hs0⟩ := hcond
          obtain ⟨hz1, hz2⟩ := rd_cells (rd_ofVal1 w F z) (by cases z <;> rfl)
          have hzs : z.cells.size = info.size := by rw [hz1]; exact hzl
          have hnb : n ≤ 140737488355328 := by
            have : n * 1 ≤ n * (info.bytes : Int) := Int.mul_le_mul_of_nonneg_left (by omega) h0
            omega
          have hwrap : IntKind.i64.wrap n = n := IntWalk.i64_in n (by omega)
          have hmain : ∃ (c : Array Value) (et : TypeId) (cap : Nat), (execOp a.eval ⟨dst, .makeSlice t l c0, type, pos, after, guard⟩).run P w = .ok (.value (.slice (some ⟨w.heap.size, 0, none⟩) (List.replicate n.toNat (V.ofVal1 z)).length cap)) { w with heap := w.heap.push (.cells c et) } ∧
              c.size = cap * info.size ∧ (List.replicate n.toNat (V.ofVal1 z)).length ≤ cap ∧ (List.replicate n.toNat (V.ofVal1 z) = [] → cap = 0) ∧ (∀ e, e ∈ List.replicate n.toNat (V.ofVal1 z) → e.cells.length = info.size) ∧
              ∀ (i j : Nat) (e d : V) (x : Value), (List.replicate n.toNat (V.ofVal1 z))[i]? = some e → e.cells[j]? = some d → c[i * info.size + j]? = some x → Rd w F x d := by
           refine ⟨(Array.range (n.toNat * info.size)).map (fun i => z.cells[i % z.cells.size]!), el, n.toNat, ?_, by simp, by simp, by simp, ?_, ?_⟩
           · have hzv : (zeroValue el).run P w = .ok z w := by simp [zeroValue, run_typeInfo hi, hz]
             have hsz : (sizeOf el).run P w = .ok info.size w := run_sizeOf (size_of_info hi) w
             have hlt1 : ¬ (n < 0 ∨ 281474976710656 < (info.bytes : Int) * n) := by rw [Int.mul_comm]; omega
             simp only [not_or] at hlt1
             simp only [execOp, Instr.makeSlice, Sem.run_bind, run_underlying? hu, Result.andThen_ok, hl, hcv, asInt, asIntOf, Sem.run_pure, run_typeInfo hi, hwrap]
             have hno : (decide (n < 0) || decide ((info.bytes : Int) * n > 2 ^ 48)) = false := by simp; omega
             simp only [hno, Bool.false_or, List.length_replicate]
             have hno2 : (decide (n < 0) || decide (n > n)) = false := by simp; omega
             simp only [hno2, Bool.false_eq_true, if_false]
             by_cases hz0 : n.toNat * info.size = 0
             · have hrange : ∀ f : Nat → Value, (Array.range (n.toNat * info.size)).map f = #[] := by intro f; rw [hz0]; exact Array.eq_empty_of_size_eq_zero (by simp)
               simp only [hrange]
               simp [hsz, hz0, newRow]
               congr 2
               exact Array.eq_empty_of_size_eq_zero (by simp)
             · simp [hsz, hz0, hzv, newRow]
           · intro q hq
             rw [List.eq_of_mem_replicate hq]; exact hzl
           · intro i j q d x hi' hj hx
             have hq : q = V.ofVal1 z := List.eq_of_mem_replicate (List.mem_of_getElem? hi')
             subst hq
             have hj' := (List.getElem?_eq_some_iff.1 hj).1
             have hi2 : i < n.toNat := by have := (List.getElem?_eq_some_iff.1 hi').1; simpa using this
             have h1 : (i + 1) * info.size ≤ n.toNat * info.size := Nat.mul_le_mul_right _ (by omega)
             rw [Nat.succ_mul] at h1
             have hlt : i * info.size + j < n.toNat * info.size := by omega
             simp only [Array.getElem?_map, Array.getElem?_range, hlt, if_true, Option.map_some, Option.some.injEq] at hx
             have hmod : (i * info.size + j) % info.size = j := by
               rw [Nat.mul_comm, Nat.mul_add_mod]; exact Nat.mod_eq_of_lt (by omega)
             rw [hzs, hmod] at hx
             have hj2 : j < z.cells.size := by omega
             rw [getElem!_pos z.cells _ hj2] at hx
             subst hx
             exact hz2 j _ d (by simp [hj2]) hj
          obtain ⟨c, et, cap, q1, q2, q3, q4, q5, q6⟩ := hmain
          split at h
          · rename_i ty hty
            split at h
            · rename_i x hx
              split at h
              · rename_i hsz
                simp only [Option.some.injEq] at h
                subst h
                refine ⟨_, c, et, cap, q1, by rw [hsz]; exact q2, q3, q4, by rw [hsz]; exact q5, by rw [hsz]; exact q6, by simp, ?_⟩
                intro i p q hp hq
                simp only [List.map_replicate] at hq
                rw [List.eq_of_mem_replicate (List.mem_of_getElem? hp), List.eq_of_mem_replicate (List.mem_of_getElem? hq)]
                exact dec_cells hx
              · cases h
            · simp only [Option.some.injEq] at h; subst h; exact ⟨c, et, cap, q1, q2, q3, q4, q5, q6⟩
          · simp only [Option.some.injEq] at h; subst h; exact ⟨c, et, cap, q1, q2, q3, q4, q5, q6⟩
        · cases h
      · cases h
    · cases h
  · cases h
end
end Go.Ve

/-
  The evaluator over pure values, part 7: every operation that writes nothing of old.
-/
import Derived.Test.YtggmpbaiijodiaaGreatNvVe6
namespace Go.Ve
open Go

section
variable {Γ : Sig} {P : Program} {G : Nat → Option (List V)} {S : Specs Γ} {e : Env Γ.St} {o : Oper} {a : Act} {w : World} {F : Nat → Prop} {β : Lay} {al : Site → Prop}

theorem callRes_some {St : Type} {view : Bool} {x : Option (St × RV)} {r : R St} (h : callRes view x = some r) : ∃ st' rv, x = some (st', rv) ∧ r = .call st' view rv ∧ (view = true → rv.plain = true) := by
  unfold callRes at h
  split at h
  · rename_i st' rv
    split at h
    · cases h
    · rename_i hc
      simp only [Option.some.injEq] at h
      refine ⟨st', rv, rfl, h.symm, fun hv => ?_⟩
      simpa [hv] using hc
  · cases h

theorem evCall_sim (hS : Table Γ P G S) (hvars : ∀ s cs, e.var s = some cs → al (.v s) → VarRel w F β al (β.vb s) cs) {dst : Option Tmp} {c : Call} {type : TypeId} {pos : String} {after : Array Edge} {guard : Option (Nat × Bool)}
    (hops : ∀ x, x ∈ c.operands → TRel w F β al (a.eval x) (evx G e x)) {r : R Γ.St} (h : evCall P G S e c ⟨dst, .call c, type, pos, after, guard⟩ = some r) :
    OpSim Γ P S ⟨dst, .call c, type, pos, after, guard⟩ a w F β al al e.st r := by
  have hns : ∀ cs b, (⟨dst, .call c, type, pos, after, guard⟩ : Oper).op ≠ .select cs b := fun _ _ hc => by cases hc
  unfold evCall at h
  split at h
  · rename_i hcal
    split at h
    · rename_i x hx
      split at h
      · rename_i r' hr'
        split at h
        · rename_i t ht
          split at h
          · rename_i el hu
            split at h
            · rename_i hsz
              simp only [Option.some.injEq] at h
              subst h
              have hx0 : c.args = #[x] := by
                apply Array.ext
                · simp [hsz]
                · intro i h1 h2
                  simp at h2
                  subst h2
                  rw [Array.getElem?_eq_getElem h1, Option.some.injEq] at hx
                  simpa using hx
              obtain ⟨u, y, rfl, h1, h2⟩ := evLen_sim (P := P) (c := c) (hops x (by simp [Call.operands, hcal, hx0])) hr' hu ht type
              refine ⟨u, ?_, h2⟩
              simp [execOp, resolve, hcal, hx0, invoke, builtin, h1]
            · cases h
          · cases h
        · cases h
      · exact evFlat_sim hns hops h
    · cases h
  · exact evFlat_sim hns hops h
  · cases h
  · rename_i f hcal
    split at h
    · rename_i g caps ds hf hds
      obtain ⟨st', rv, h1, rfl, h2⟩ := callRes_some h
      have hfr := hops f (by simp [Call.operands, hcal])
      rw [hf] at hfr
      obtain ⟨hlen, hargs⟩ := argsV_sim (a := a) hvars c.args.toList ds (fun x hx => hops x (by simp [Call.operands]; right; simpa using hx)) hds
      have hfr' : Rd w F (a.eval f) (.clo g caps) := hfr
      generalize hev : a.eval f = fv at hfr'
      cases hfr' with
      | clo _ cv _ hl hcap =>
        obtain ⟨fn, hfn, hbody, hname⟩ := hS.is g e.st (ds ++ caps) _ h1
        refine ⟨g, c.args.map a.eval ++ cv, ds ++ caps, ?_, ?_, ?_, h1, h2⟩
        · have hb : ¬ fn.body = none := by intro hbb; simp [hbb] at hbody
          have hname' : ¬ fn.name = "runtime.NumGoroutine" := by simpa using hname
          simp [execOp, resolve, hcal, hev, Deferred.ofValue, invoke, callFunc, hfn, hname', hb]
        · simp at hlen; simp [hl, hlen]
        · intro i x d hi hd
          have hsz : (c.args.map a.eval).size = ds.length := by simpa using hlen
          by_cases hlt : i < ds.length
          · rw [List.getElem?_append_left hlt] at hd
            rw [Array.getElem?_append_left (by omega)] at hi
            obtain ⟨h3, h4⟩ := hargs i x d (by rw [← Array.getElem?_toList] at hi; simpa using hi) hd
            split
            · exact h3
            · rename_i hv; exact h4 (by simpa using hv)
          · rw [List.getElem?_append_right (by omega)] at hd
            rw [Array.getElem?_append_right (by omega), hsz] at hi
            have h3 := hcap _ x d hi hd
            split
            · exact h3.mono (fun b hb => .inl hb) (fun _ _ => rfl)
            · exact h3
    · cases h

theorem evQ_sim (hS : Table Γ P G S) (hvars : ∀ s cs, e.var s = some cs → al (.v s) → VarRel w F β al (β.vb s) cs)
    (hops : ∀ x, x ∈ o.op.operands → TRel w F β al (a.eval x) (evx G e x)) {r : R Γ.St} (h : evQ P G S e o = some r) : OpSim Γ P S o a w F β al al e.st r := by
  obtain ⟨dst, op, type, pos, after, guard⟩ := o
  cases op <;> simp only [evQ] at h
  case move x =>
    simp only [Option.some.injEq] at h; subst h
    exact ⟨a.eval x, by simp [execOp], hops x (by simp [Op.operands])⟩
  case assign x =>
    simp only [Option.some.injEq] at h; subst h
    exact ⟨a.eval x, by simp [execOp], hops x (by simp [Op.operands])⟩
  case pick c x y => exact evFlat_sim (fun _ _ hc => by cases hc) hops h
  case makeMap t r0 =>
    cases r0 with
    | some _ => cases h
    | none =>
      simp only [Option.some.injEq] at h; subst h
      show (execOp a.eval ⟨dst, .makeMap t none, type, pos, after, guard⟩).run P w = _
      simp [execOp, Instr.makeMap]
  case lookup t x ix ok =>
    split at h
    · rename_i id es ck hex
      split at h
      · rename_i k hk
        simp only [Option.map_eq_some_iff] at h
        obtain ⟨v, hv, rfl⟩ := h
        have hx := hops x (by simp [Op.operands])
        have hi := flatT_eq (hops ix (by simp [Op.operands])) hk
        rw [hex] at hx
        obtain ⟨_, hxv, hm⟩ := hx
        refine ⟨v, ?_, rd_ofVal _ _ _⟩
        have hrun := pureIn_run hv w
        have : (Instr.lookup t (a.eval x) (a.eval ix) ok).run P w = (lookIn t es k ok).run P w := by
          rw [hxv, hi]
          cases hu : P.underlying t with
          | none =>
            have hh : (underlying t).run P w = .halt (.stuck "no such type") w := by
              show (match P.underlying t with | some d => pure d | none => stuck "no such type" : Sem TypeDesc).run P w = _
              rw [hu]; rfl
            simp only [lookIn, Sem.run_bind, hh] at hrun
            cases hrun
          | some d =>
            have hg : (getObj (β.ob id)).run P w = .ok (.map es.toArray ck) w := by simp [getObj, Sem.run, hm]
            simp only [Instr.lookup, lookIn, Sem.run_bind, run_underlying? hu, Result.andThen_ok]
            cases d <;> simp [hg]
            congr 1
        simp [execOp, this, hrun]
      · cases h
    · cases h
  case alloc t =>
    split at h
    · rename_i z hz
      simp only [Option.bind_eq_some_iff] at hz
      obtain ⟨info, hi, hz⟩ := hz
      simp only [Option.some.injEq] at h; subst h
      have hzv : (zeroValue t).run P w = .ok z w := by simp [zeroValue, run_typeInfo hi, hz]
      obtain ⟨h1, h2⟩ := rd_cells (rd_ofVal1 w F z) (by cases z <;> rfl)
      refine ⟨z.cells, t, ?_, by simpa using h1, ?_⟩
      · simp [execOp, Instr.alloc, hzv, newVar, newRow]
      · intro i x d h3 h4
        simp only [List.getElem?_map, Option.map_eq_some_iff] at h4
        obtain ⟨y, hy, rfl⟩ := h4
        exact h2 i x y h3 hy
    · cases h
  case box t x =>
    have hx := hops x (by simp [Op.operands])
    have hrun : (execOp a.eval ⟨dst, .box t x, type, pos, after, guard⟩).run P w = .ok (.value (.pointer (some ⟨w.heap.size, 0, none⟩))) { w with heap := w.heap.push (.cells (a.eval x).cells t) } := by
      simp [execOp, Instr.box, newVar, newRow]
    have hone : ∀ y : T, TRel w F β al (a.eval x) y → (a.eval x).cells = #[a.eval x] → OpSim Γ P S ⟨dst, .box t x, type, pos, after, guard⟩ a w F β al al e.st (.var [y]) := by
      intro y hy hc
      refine ⟨(a.eval x).cells, t, hrun, by rw [hc]; rfl, ?_⟩
      rw [hc]
      intro i u d h3 h4
      cases i with
      | zero => simp at h3 h4; subst h3 h4; exact hy
      | succ i => simp at h4
    cases hex : evx G e x with
    | p d =>
      simp only [hex] at h hx
      split at h
      · rename_i hleaf
        simp only [Option.some.injEq] at h; subst h
        obtain ⟨h1, h2⟩ := rd_cells hx hleaf
        refine ⟨(a.eval x).cells, t, hrun, by simpa using h1, ?_⟩
        intro i u d' h3 h4
        simp only [List.getElem?_map, Option.map_eq_some_iff] at h4
        obtain ⟨y, hy, rfl⟩ := h4
        exact h2 i u y h3 hy
      · cases h
    | dead => simp [hex] at h
    | ow id k es =>
      simp only [hex, Option.some.injEq] at h hx; subst h
      refine hone _ hx ?_
      obtain ⟨_, cap, hv, _⟩ := hx; rw [hv]; rfl
    | oe id k es i off =>
      simp only [hex, Option.some.injEq] at h hx; subst h
      refine hone _ hx ?_
      obtain ⟨_, _, cap, hv, _⟩ := hx; rw [hv]; rfl
    | lp s off =>
      simp only [hex, Option.some.injEq] at h hx; subst h
      refine hone _ hx ?_
      obtain ⟨_, hv⟩ := hx; rw [hv]; rfl
    | mp id es ck =>
      simp only [hex, Option.some.injEq] at h hx; subst h
      refine hone _ hx ?_
      obtain ⟨_, hv, _⟩ := hx; rw [hv]; rfl
    | ot id t xs =>
      simp only [hex, Option.some.injEq] at h hx; subst h
      refine hone _ hx ?_
      rcases hx with ⟨_, a0, hv⟩ | ⟨_, _, cap, hv, _⟩ <;> (rw [hv]; rfl)
    | oet id t xs i off =>
      simp only [hex, Option.some.injEq] at h hx; subst h
      refine hone _ hx ?_
      obtain ⟨_, _, cap, hv, _⟩ := hx; rw [hv]; rfl
    | emp =>
      simp only [hex, Option.some.injEq] at h hx; subst h
      refine hone _ hx ?_
      obtain ⟨a0, hv⟩ := hx; rw [hv]; rfl
  case build t parts =>
    split at h
    · rename_i ps hps
      obtain ⟨u, y, rfl, h1, h2⟩ := evBuild_sim (a := a) (fun p hp => hops p.2 (by
        simp only [Op.operands]
        simp only [List.mem_toArray, List.mem_map]
        exact ⟨p, hp, rfl⟩)) hps h
      exact ⟨u, by simp [execOp, h1], h2⟩
    · cases h
  case buildSlice t n parts =>
    split at h
    · rename_i ps hps
      exact evBuildSlice_sim (fun p hp => hops p.2 (by
        simp only [Op.operands]
        simp only [List.mem_toArray, List.mem_map]
        exact ⟨p, hp, rfl⟩)) hps h
    · cases h
  case makeSlice t l c =>
    split at h
    · rename_i n m hl hc
      split at h
      · rename_i hnm
        subst hnm
        have h1 := hops l (by simp [Op.operands])
        have h2 := hops c (by simp [Op.operands])
        rw [hl] at h1
        rw [hc] at h2
        exact evMakeSlice_sim (Rd.eq_val h1) (Rd.eq_val h2) h
      · cases h
    · cases h
  case load t x =>
    obtain ⟨u, y, rfl, h1, h2⟩ := evLoad_sim hvars (hops x (by simp [Op.operands])) h
    exact ⟨u, by simp [execOp, h1], h2⟩
  case nilCheck x =>
    have hx := hops x (by simp [Op.operands])
    split at h
    · rename_i cs hex
      simp only [Option.some.injEq] at h; subst h
      rw [hex] at hx
      refine ⟨a.eval x, ?_, hx⟩
      have hx' : Rd w F (a.eval x) (.pp cs) := hx
      generalize hv : a.eval x = v at hx'
      cases hx'
      simp [execOp, hv]
    · rename_i f caps hex
      simp only [Option.some.injEq] at h; subst h
      rw [hex] at hx
      refine ⟨a.eval x, ?_, hx⟩
      have hx' : Rd w F (a.eval x) (.clo f caps) := hx
      generalize hv : a.eval x = v at hx'
      cases hx'
      simp [execOp, hv]
    · rename_i s off hex
      simp only [Option.some.injEq] at h; subst h
      rw [hex] at hx
      obtain ⟨h1, h2⟩ := hx
      exact ⟨a.eval x, by simp [execOp, h2], h1, h2⟩
    · rename_i id k es i off hex
      simp only [Option.some.injEq] at h; subst h
      rw [hex] at hx
      obtain ⟨h1, h2, cap, h3, h4⟩ := hx
      exact ⟨a.eval x, by simp [execOp, h3], h1, h2, cap, h3, h4⟩
    · rename_i id ty xs i off hex
      simp only [Option.some.injEq] at h; subst h
      rw [hex] at hx
      obtain ⟨h1, h2, cap, h3, h4⟩ := hx
      exact ⟨a.eval x, by simp [execOp, h3], h1, h2, cap, h3, h4⟩
    · exact evFlat_sim (fun _ _ hc => by cases hc) hops h
  case binOp op t x y t' =>
    split at h
    · rename_i r' hr'
      simp only [Option.some.injEq] at h
      subst h
      exact evNil_sim (hops x (by simp [Op.operands])) (hops y (by simp [Op.operands])) hr'
    · split at h
      · rename_i r' hr'
        simp only [Option.some.injEq] at h
        subst h
        exact evEq_sim (hops x (by simp [Op.operands])) (hops y (by simp [Op.operands])) hr'
      · exact evFlat_sim (fun _ _ hc => by cases hc) hops h
  case unOp op t x => exact evFlat_sim (fun _ _ hc => by cases hc) hops h
  case convert s d x => exact evFlat_sim (fun _ _ hc => by cases hc) hops h
  case index t x i => exact evFlat_sim (fun _ _ hc => by cases hc) hops h
  case makeFunc fn first captured =>
    cases fn <;> simp only [reduceCtorEq] at h
    rename_i f
    split at h
    · rename_i ds hds
      split at h
      · rename_i hsz
        simp only [Option.some.injEq] at h; subst h
        obtain ⟨h1, h2⟩ := pureArgs_sim (a := a) captured.toList ds (fun x hx => hops x (by simp [Op.operands]; right; simpa using hx)) hds
        have hfirst : first = #[] := Array.eq_empty_of_size_eq_zero hsz
        refine ⟨.func (.func f) #[] (captured.map a.eval), by simp [execOp, Instr.makeFunc, hfirst], ?_⟩
        refine Rd.clo f _ ds (by simpa using h1) ?_
        intro i x d h3 h4
        exact h2 i x d (by rw [← Array.getElem?_toList] at h3; simpa using h3) h4
      · cases h
    · cases h
  case slice t x lo hi mx =>
    split at h
    · rename_i es hex
      have hx := hops x (by simp [Op.operands])
      rw [hex] at hx
      obtain ⟨u, y, rfl, h1, h2⟩ := evSlice_sim (a := a) (G := G) (e := e) (lo := lo) (hi := hi) (mx := mx) hx
        (fun y hy => hops y (by simp [Op.operands, hy])) (fun y hy => hops y (by simp [Op.operands, hy])) (fun y hy => hops y (by simp [Op.operands, hy])) h
      exact ⟨u, by simp [execOp, h1], h2⟩
    · rename_i ty xs hex
      have hx := hops x (by simp [Op.operands])
      rw [hex] at hx
      obtain ⟨u, y, rfl, h1, h2⟩ := evSliceT_sim (a := a) (G := G) (e := e) (lo := lo) (hi := hi) (mx := mx) hx
        (fun y hy => hops y (by simp [Op.operands, hy])) (fun y hy => hops y (by simp [Op.operands, hy])) (fun y hy => hops y (by simp [Op.operands, hy])) h
      exact ⟨u, by simp [execOp, h1], h2⟩
    · exact evFlat_sim (fun _ _ hc => by cases hc) hops h
  case fieldAddr t x i =>
    obtain ⟨u, y, rfl, h1, h2⟩ := evFieldAddr_sim (hops x (by simp [Op.operands])) h
    exact ⟨u, by simp [execOp, h1], h2⟩
  case field t x i =>
    split at h
    · rename_i cs hex
      have hx := hops x (by simp [Op.operands])
      rw [hex] at hx
      unfold evField at h
      split at h
      · rename_i f hf
        obtain ⟨fs, hu, hfi⟩ := fieldOf_some hf
        simp only [Option.map_eq_some_iff] at h
        obtain ⟨d, hd, rfl⟩ := h
        have hx' : Rd w F (a.eval x) (.agg cs) := hx
        generalize hv : a.eval x = v at hx'
        cases hx' with
        | agg c _ hl hr =>
          obtain ⟨u, h1, h2⟩ := partV_sim hl hr hd
          exact ⟨u, by simp [execOp, Instr.field, run_underlying? hu, hfi, hv, asAgg, h1], h2⟩
      · cases h
    · cases h
  case indexAddr t x ix =>
    split at h
    · rename_i k i hix
      have hi := hops ix (by simp [Op.operands])
      rw [hix] at hi
      have hi' := Rd.eq_val hi
      obtain ⟨u, y, rfl, h1, h2⟩ := evIndexAddr_sim (k := k) (hops x (by simp [Op.operands])) h
      exact ⟨u, by simp [execOp, hi', h1], h2⟩
    · cases h
  case extract x i =>
    split at h
    · rename_i vs hex
      have hx := hops x (by simp [Op.operands])
      rw [hex] at hx
      simp only [Option.map_eq_some_iff] at h
      obtain ⟨d, hd, rfl⟩ := h
      have hx' : Rd w F (a.eval x) (.tup vs) := hx
      generalize hv : a.eval x = v at hx'
      cases hx' with
      | tup c _ hl hr =>
        have hlt : i < c.size := by have := (List.getElem?_eq_some_iff.1 hd).1; omega
        exact ⟨c[i], by simp [execOp, Instr.extract, hv, hlt], hr i _ d (by simp [hlt]) hd⟩
    · cases h
  case call c => exact evCall_sim hS hvars hops h
  all_goals (cases h)
end
end Go.Ve

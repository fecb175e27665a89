/-
  The evaluator over pure values, part 10: a region that draws its order.
-/
import Derived.Test.YtggmpbaiijodiaaGreatNvVe9
namespace Go.Ve
open Go

section
variable {St : Type} {P : Look} {G : Nat → Option (List V)} {S : FuncId → St → List V → Option (St × RV)} {e e' : Env St} {o : Oper}

theorem flat_congr (hns : ∀ cs b, o.op ≠ .select cs b) (hx : ∀ x, x ∈ o.op.operands → evx G e x = evx G e' x) : evFlat P G e o = evFlat P G e' o := by
  unfold evFlat
  have h1 : o.op.operands.toList.all (fun x => (flatT (evx G e x)).isSome) = o.op.operands.toList.all (fun x => (flatT (evx G e' x)).isSome) := by
    rw [Bool.eq_iff_iff]
    simp only [List.all_eq_true]
    exact ⟨fun h x hm => by rw [← hx x (by simpa using hm)]; exact h x hm, fun h x hm => by rw [hx x (by simpa using hm)]; exact h x hm⟩
  have h2 : execOp (fun x => (flatT (evx G e x)).getD undef) o = execOp (fun x => (flatT (evx G e' x)).getD undef) o :=
    execOp_congr o hns (fun x hm => by rw [hx x hm])
  rw [h1, h2]

theorem argV_congr {x : T} (hv : ∀ s off, x = .lp s off → e.var s = e'.var s) : argV e x = argV e' x := by
  cases x <;> simp only [argV]
  rw [hv _ _ rfl]

theorem argsV_congr : ∀ (xs : List Operand), (∀ x, x ∈ xs → evx G e x = evx G e' x) → (∀ x, x ∈ xs → ∀ s off, evx G e x = .lp s off → e.var s = e'.var s) →
    argsV G e xs = argsV G e' xs := by
  intro xs
  induction xs with
  | nil => intro _ _; rfl
  | cons x xs ih =>
    intro hx hv
    simp only [argsV]
    rw [← hx x (by simp), argV_congr (hv x (by simp)), ih (fun y hy => hx y (List.mem_cons_of_mem _ hy)) (fun y hy => hv y (List.mem_cons_of_mem _ hy))]

theorem pureArgs_congr : ∀ (xs : List Operand), (∀ x, x ∈ xs → evx G e x = evx G e' x) → pureArgs G e xs = pureArgs G e' xs := by
  intro xs
  induction xs with
  | nil => intro _; rfl
  | cons x xs ih =>
    intro hx
    simp only [pureArgs]
    rw [← hx x (by simp), ih (fun y hy => hx y (List.mem_cons_of_mem _ hy))]

theorem purePairs_congr : ∀ (xs : List (Nat × Operand)), (∀ x, x ∈ xs → evx G e x.2 = evx G e' x.2) → purePairs G e xs = purePairs G e' xs := by
  intro xs
  induction xs with
  | nil => intro _; rfl
  | cons x xs ih =>
    intro hx
    obtain ⟨i, x⟩ := x
    simp only [purePairs]
    rw [← hx (i, x) (by simp), ih (fun y hy => hx y (List.mem_cons_of_mem _ hy))]

theorem any_congr {α : Type} {p q : α → Bool} (l : List α) (h : ∀ x, x ∈ l → p x = q x) : l.any p = l.any q := by
  induction l with
  | nil => rfl
  | cons x l ih => simp only [List.any_cons]; rw [h x (by simp), ih (fun y hy => h y (List.mem_cons_of_mem _ hy))]

theorem evQ_congr (hx : ∀ x, x ∈ o.op.operands → evx G e x = evx G e' x) (hv : ∀ x, x ∈ o.op.operands → ∀ s off, evx G e x = .lp s off → e.var s = e'.var s)
    (hst : e.st = e'.st) : evQ P G S e o = evQ P G S e' o := by
  obtain ⟨dst, op, type, pos, after, guard⟩ := o
  cases op <;> simp only [evQ]
  case move x => rw [hx x (by simp [Op.operands])]
  case assign x => rw [hx x (by simp [Op.operands])]
  case pick c x y => exact flat_congr (fun _ _ hc => by cases hc) hx
  case box t x => rw [hx x (by simp [Op.operands])]
  case build t parts =>
    rw [purePairs_congr parts.toList (fun p hp => hx p.2 (by
      simp only [Op.operands, List.mem_toArray, List.mem_map]
      exact ⟨p, hp, rfl⟩))]
  case buildSlice t n parts =>
    rw [purePairs_congr parts.toList (fun p hp => hx p.2 (by
      simp only [Op.operands, List.mem_toArray, List.mem_map]
      exact ⟨p, hp, rfl⟩))]
  case makeSlice t l c => rw [hx l (by simp [Op.operands]), hx c (by simp [Op.operands])]
  case load t x =>
    have h1 := hx x (by simp [Op.operands])
    have h2 := hv x (by simp [Op.operands])
    rw [← h1]
    cases hex : evx G e x with
    | lp s off => simp only [evLoad, evLoad0]; rw [h2 s off hex]
    | p d => cases d <;> rfl
    | _ => rfl
  case nilCheck x =>
    rw [flat_congr (P := P) (o := ⟨dst, .nilCheck x, type, pos, after, guard⟩) (fun _ _ hc => by cases hc) hx, hx x (by simp [Op.operands])]
  case binOp op t x y t' =>
    rw [flat_congr (P := P) (o := ⟨dst, .binOp op t x y t', type, pos, after, guard⟩) (fun _ _ hc => by cases hc) hx, hx x (by simp [Op.operands]), hx y (by simp [Op.operands])]
  case unOp op t x => exact flat_congr (fun _ _ hc => by cases hc) hx
  case convert s d x => exact flat_congr (fun _ _ hc => by cases hc) hx
  case index t x i => exact flat_congr (fun _ _ hc => by cases hc) hx
  case makeFunc fn first captured =>
    cases fn with
    | func f => simp only; rw [pureArgs_congr captured.toList (fun x hm => hx x (by simp [Op.operands]; right; simpa using hm))]
    | _ => rfl
  case slice t x lo hi mx =>
    rw [flat_congr (P := P) (o := ⟨dst, .slice t x lo hi mx, type, pos, after, guard⟩) (fun _ _ hc => by cases hc) hx, hx x (by simp [Op.operands])]
    have h1 : lo.map (evx G e) = lo.map (evx G e') := by cases lo with
      | none => rfl
      | some y => simp only [Option.map_some]; rw [hx y (by simp [Op.operands])]
    have h2 : hi.map (evx G e) = hi.map (evx G e') := by cases hi with
      | none => rfl
      | some y => simp only [Option.map_some]; rw [hx y (by simp [Op.operands])]
    have h3 : mx.map (evx G e) = mx.map (evx G e') := by cases mx with
      | none => rfl
      | some y => simp only [Option.map_some]; rw [hx y (by simp [Op.operands])]
    rw [h1, h2, h3]
  case fieldAddr t x i => rw [hx x (by simp [Op.operands])]
  case makeMap t r => cases r <;> rfl
  case lookup t x ix ok => rw [hx x (by simp [Op.operands]), hx ix (by simp [Op.operands])]
  case field t x i => rw [hx x (by simp [Op.operands])]
  case indexAddr t x ix => rw [hx x (by simp [Op.operands]), hx ix (by simp [Op.operands])]
  case extract x i => rw [hx x (by simp [Op.operands])]
  case call c =>
    have hf : evFlat P G e ⟨dst, .call c, type, pos, after, guard⟩ = evFlat P G e' ⟨dst, .call c, type, pos, after, guard⟩ := flat_congr (fun _ _ hc => by cases hc) hx
    have ha : ∀ x, x ∈ c.args → evx G e x = evx G e' x := fun x hm => hx x (by simp [Op.operands, Call.operands, hm])
    have hva : ∀ x, x ∈ c.args → ∀ s off, evx G e x = .lp s off → e.var s = e'.var s := fun x hm => hv x (by simp [Op.operands, Call.operands, hm])
    unfold evCall
    rw [hf]
    cases hcal : c.callee with
    | invoke r m => rfl
    | value f =>
      simp only
      rw [hx f (by simp [Op.operands, Call.operands, hcal]), argsV_congr c.args.toList (fun x hm => ha x (by simpa using hm)) (fun x hm => hva x (by simpa using hm)), hst]
      rw [any_congr c.args.toList (fun x hm => by rw [ha x (by simpa using hm)])]
    | builtin b =>
      cases b <;> try rfl
      simp only
      cases h0 : c.args[0]? with
      | none => rfl
      | some x => simp only; rw [ha x (Array.mem_of_getElem? h0)]

def isCall (o : Oper) : Bool :=
  match o.op with
  | .call c => match c.callee with
    | .builtin _ => false
    | _ => true
  | _ => false

theorem evFlat_ret {r : R St} (h : evFlat P G e o = some r) : ∃ x, r = .ret x := by
  unfold evFlat at h
  split at h
  · split at h
    · simp only [Option.some.injEq] at h; exact ⟨_, h.symm⟩
    · cases h
  · cases h

def R.isCall : R St → Bool
  | .call _ _ _ => true
  | _ => false

theorem evLoad0_nc {t : TypeId} {x : T} {r : R St} (h : evLoad0 P e t x = some r) : r.isCall = false := by
  unfold evLoad0 at h
  split at h <;> (try split at h) <;> (try (simp only [Option.map_eq_some_iff] at h; obtain ⟨_, _, rfl⟩ := h; rfl)) <;> cases h

theorem evLoad_nc {t : TypeId} {x : T} {r : R St} (h : evLoad P e t x = some r) : r.isCall = false := by
  unfold evLoad at h
  split at h
  · split at h
    · simp only [Option.map_eq_some_iff] at h; obtain ⟨_, _, rfl⟩ := h; rfl
    · cases h
  · exact evLoad0_nc h

theorem evFieldAddr0_nc {t : TypeId} {i : Nat} {x : T} {r : R St} (h : evFieldAddr0 P t i x = some r) : r.isCall = false := by
  unfold evFieldAddr0 at h
  repeat' split at h
  all_goals (first | (simp only [Option.some.injEq] at h; subst h; rfl) | cases h)

theorem evFieldAddr_nc {t : TypeId} {i : Nat} {x : T} {r : R St} (h : evFieldAddr P t i x = some r) : r.isCall = false := by
  unfold evFieldAddr at h
  split at h
  · repeat' split at h
    all_goals (first | (simp only [Option.some.injEq] at h; subst h; rfl) | cases h)
  · exact evFieldAddr0_nc h

theorem evIndexAddr0_nc {t : TypeId} {i : Int} {x : T} {r : R St} (h : evIndexAddr0 P t x i = some r) : r.isCall = false := by
  unfold evIndexAddr0 at h
  repeat' split at h
  all_goals (first | (simp only [Option.some.injEq] at h; subst h; rfl) | cases h)

theorem evIndexAddr_nc {t : TypeId} {i : Int} {x : T} {r : R St} (h : evIndexAddr P t x i = some r) : r.isCall = false := by
  unfold evIndexAddr at h
  split at h
  · repeat' split at h
    all_goals (first | (simp only [Option.some.injEq] at h; subst h; rfl) | cases h)
  · repeat' split at h
    all_goals (first | (simp only [Option.some.injEq] at h; subst h; rfl) | cases h)
  · repeat' split at h
    all_goals (first | (simp only [Option.some.injEq] at h; subst h; rfl) | cases h)
  · exact evIndexAddr0_nc h

theorem evSliceT_nc {t : TypeId} {ty : Ty} {xs : List ty.El} {lo hi mx : Option T} {r : R St} (h : evSliceT P t ty xs lo hi mx = some r) : r.isCall = false := by
  unfold evSliceT at h
  repeat' split at h
  all_goals (first | (simp only [Option.some.injEq] at h; subst h; rfl) | cases h)

theorem evSlice_nc {t : TypeId} {es : List V} {lo hi mx : Option T} {r : R St} (h : evSlice P t es lo hi mx = some r) : r.isCall = false := by
  unfold evSlice at h
  repeat' split at h
  all_goals (first | (simp only [Option.some.injEq] at h; subst h; rfl) | cases h)

theorem evLen_nc {x : T} {r : R St} (h : evLen x = some r) : r.isCall = false := by
  unfold evLen at h
  repeat' split at h
  all_goals (first | (simp only [Option.some.injEq] at h; subst h; rfl) | cases h)

theorem evBuild_nc {t : TypeId} {ps : List (Nat × V)} {r : R St} (h : evBuild P t ps = some r) : r.isCall = false := by
  unfold evBuild at h
  repeat' split at h
  all_goals (first | (simp only [Option.map_eq_some_iff] at h; obtain ⟨_, _, rfl⟩ := h; rfl) | cases h)

theorem evBuildSlice_nc {t : TypeId} {n : Nat} {ps : List (Nat × V)} {r : R St} (h : evBuildSlice P t n ps = some r) : r.isCall = false := by
  unfold evBuildSlice at h
  repeat' split at h
  all_goals (first | (simp only [Option.some.injEq] at h; subst h; rfl) | (simp only [Option.some.injEq] at h; subst h; split <;> rfl) | cases h)

theorem evNil_nc {op : BinOp} {t : TypeId} {x y : T} {r : R St} (h : evNil P op t x y = some r) : r.isCall = false := by
  unfold evNil at h
  repeat' split at h
  all_goals (first | (simp only [Option.some.injEq] at h; subst h; rfl) | cases h)

theorem evEq_nc {op : BinOp} {t : TypeId} {x y : T} {r : R St} (h : evEq P op t x y = some r) : r.isCall = false := by
  unfold evEq at h
  repeat' split at h
  all_goals (first | (simp only [Option.map_eq_some_iff] at h; obtain ⟨_, _, rfl⟩ := h; rfl) | cases h)

theorem evMakeSlice_nc {t : TypeId} {n : Int} {r : R St} (h : evMakeSlice P t n = some r) : r.isCall = false := by
  unfold evMakeSlice at h
  repeat' split at h
  all_goals (first | (simp only [Option.some.injEq] at h; subst h; rfl) | cases h)

theorem evField_nc {t : TypeId} {cs : List V} {i : Nat} {r : R St} (h : evField P t cs i = some r) : r.isCall = false := by
  unfold evField at h
  split at h
  · simp only [Option.map_eq_some_iff] at h; obtain ⟨_, _, rfl⟩ := h; rfl
  · cases h

theorem evFlat_nc {r : R St} (h : evFlat P G e o = some r) : r.isCall = false := by
  obtain ⟨x, rfl⟩ := evFlat_ret h; rfl

theorem evQ_nc {r : R St} (h : evQ P G S e o = some r) (hc : isCall o = false) : r.isCall = false := by
  obtain ⟨dst, op, type, pos, after, guard⟩ := o
  cases op <;> simp only [evQ] at h
  case call c =>
    unfold evCall at h
    simp only [isCall] at hc
    split at h
    · split at h
      · split at h
        · repeat' split at h
          all_goals (first | (simp only [Option.some.injEq] at h; subst h; exact evLen_nc (by assumption)) | cases h)
        · exact evFlat_nc h
      · cases h
    · exact evFlat_nc h
    · cases h
    · rename_i f hcal; simp [hcal] at hc
  case buildSlice t n parts =>
    split at h
    · exact evBuildSlice_nc h
    · cases h
  case binOp op t x y t' =>
    split at h
    · rename_i r' hr'
      simp only [Option.some.injEq] at h
      subst h
      exact evNil_nc hr'
    · split at h
      · rename_i r' hr'
        simp only [Option.some.injEq] at h
        subst h
        exact evEq_nc hr'
      · exact evFlat_nc h
  case makeSlice t l c =>
    split at h
    · split at h
      · exact evMakeSlice_nc h
      · cases h
    · cases h
  case load t x => exact evLoad_nc h
  case makeMap t r =>
    cases r with
    | none => simp only [Option.some.injEq] at h; subst h; rfl
    | some _ => cases h
  case fieldAddr t x i => exact evFieldAddr_nc h
  case makeFunc fn first captured =>
    cases fn with
    | func f =>
      simp only at h
      split at h
      · split at h
        · simp only [Option.some.injEq] at h; subst h; rfl
        · cases h
      · cases h
    | _ => cases h
  all_goals (first
    | (cases h; done)
    | exact evLoad_nc h
    | exact evFieldAddr_nc h
    | exact evFlat_nc h
    | (simp only [Option.some.injEq] at h; subst h; rfl)
    | (repeat' split at h
       all_goals (first
         | (simp only [Option.some.injEq] at h; subst h; rfl)
         | (simp only [Option.map_eq_some_iff] at h; obtain ⟨_, _, rfl⟩ := h; rfl)
         | exact evIndexAddr_nc h
         | exact evSlice_nc h
         | exact evSliceT_nc h
         | exact evBuild_nc h
         | exact evField_nc h
         | exact evFlat_nc h
         | cases h)))

theorem st_of_nocall {r : R St} (h : r.isCall = false) (st : St) : resSt st r = st := by
  cases r with
  | call st' view rv => cases h
  | _ => rfl
end
end Go.Ve

/-
  Functions out of code, part 4: joins, loops, statements.
  Functions out of code, part 5: soundness; contracts of functions.
  Plain laws, part 1: what partial values come to.
  Plain laws, part 2: loops over lists.
  Plain laws, part 3: loops over lists within loops.
  Plain laws: sorting by insertion.
  The shapes of the program's data.
-/
import Derived.Test.YtggmpbaiijodiaaGreatR8
import Derived.Test.YtggmpbaiijodiaaGreatR1
set_option linter.unusedVariables false
namespace Go.Ve
open Go

/-- The cells of a variable: plain typed data, or an own list. -/
inductive Cell where
  | p (ty : Ty)
  | o (id : Nat) (ty : Ty)

/-- What is carried over a join: a temporary with plain data, one with an own list, a variable. -/
inductive Slot where
  | t (i : Nat) (ty : Ty)
  | o (i id : Nat) (ty : Ty)
  | v (s : Nat) (cs : List Cell)
  | st

@[reducible] def Cell.El : Cell → Type
  | .p ty => ty.El
  | .o _ ty => List ty.El

@[reducible] def CellS : List Cell → Type
  | [] => Unit
  | [c] => c.El
  | c :: c' :: r => c.El × CellS (c' :: r)

@[reducible] def Slot.El (St : Type) : Slot → Type
  | .t _ ty => ty.El
  | .o _ _ ty => List ty.El
  | .v _ cs => CellS cs
  | .st => St

@[reducible] def SlotS (St : Type) : List Slot → Type
  | [] => Unit
  | [c] => c.El St
  | c :: c' :: r => c.El St × SlotS St (c' :: r)

def rdT (ty : Ty) : T → Option ty.El
  | .p d => ty.dec d
  | .emp => ty.dec (.sl [])
  | _ => none

def rdO (id : Nat) (ty : Ty) : T → Option (List ty.El)
  | .p (.val (.slice none 0 0)) => some []
  | .emp => some []
  | .ot i t xs => match Nat.beq i id with
    | true => castL t ty xs
    | false => none
  | _ => none

def takeP : Nat → List T → Option (List V × List T)
  | 0, r => some ([], r)
  | n + 1, .p d :: r => match takeP n r with
    | some (ds, r') => some (d :: ds, r')
    | none => none
  | _ + 1, _ => none

def rdCell : (c : Cell) → List T → Option (c.El × List T)
  | .p ty, ts => match takeP ty.size ts with
    | some (ds, r) => match ty.uncells ds with
      | some (x, []) => some (x, r)
      | _ => none
    | none => none
  | .o id ty, x :: r => match rdO id ty x with
    | some xs => some (xs, r)
    | none => none
  | .o _ _, [] => none

def rdCells : (cs : List Cell) → List T → Option (CellS cs)
  | [], [] => some ()
  | [], _ :: _ => none
  | [c], ts => match rdCell c ts with
    | some (x, []) => some x
    | _ => none
  | c :: c' :: r, ts => match rdCell c ts with
    | some (x, ts') => match rdCells (c' :: r) ts' with
      | some xs => some (x, xs)
      | none => none
    | none => none

def wrCell : (c : Cell) → c.El → List T
  | .p ty, x => (ty.cells x).map .p
  | .o id ty, xs => [.ot id ty xs]

def wrCells : (cs : List Cell) → CellS cs → List T
  | [], _ => []
  | [c], x => wrCell c x
  | c :: c' :: r, x => wrCell c x.1 ++ wrCells (c' :: r) x.2

section
variable {St : Type}

def rdSlot (e : Env St) : (s : Slot) → Option (s.El St)
  | .t i ty => rdT ty (e.get i)
  | .o i id ty => rdO id ty (e.get i)
  | .v s cs => match e.var s with
    | some ts => rdCells cs ts
    | none => none
  | .st => some e.st

def rdS (e : Env St) : (l : List Slot) → Option (SlotS St l)
  | [] => some ()
  | [s] => rdSlot e s
  | s :: s' :: r => match rdSlot e s with
    | some x => match rdS e (s' :: r) with
      | some xs => some (x, xs)
      | none => none
    | none => none

def tmSlot : (s : Slot) → s.El St → List (Nat × T)
  | .t i ty, x => [(i, .p (ty.enc x))]
  | .o i id ty, xs => [(i, .ot id ty xs)]
  | .v _ _, _ => []
  | .st, _ => []

def vSlot : (s : Slot) → s.El St → List (Nat × List T)
  | .v s cs, x => [(s, wrCells cs x)]
  | .t _ _, _ => []
  | .o _ _ _, _ => []
  | .st, _ => []

def tmS : (l : List Slot) → SlotS St l → List (Nat × T)
  | [], _ => []
  | [s], x => tmSlot s x
  | s :: s' :: r, x => tmSlot s x.1 ++ tmS (s' :: r) x.2

def vS : (l : List Slot) → SlotS St l → List (Nat × List T)
  | [], _ => []
  | [s], x => vSlot s x
  | s :: s' :: r, x => vSlot s x.1 ++ vS (s' :: r) x.2

/-- The state, where it is carried. -/
def stSlot : (s : Slot) → s.El St → Option St
  | .st, x => some x
  | .t _ _, _ => none
  | .o _ _ _, _ => none
  | .v _ _, _ => none

def stS : (l : List Slot) → SlotS St l → Option St
  | [], _ => none
  | [s], x => stSlot s x
  | s :: s' :: r, x => match stSlot s x.1 with
    | some y => some y
    | none => stS (s' :: r) x.2

def orSt (x : Option St) (y : St) : St :=
  match x with
  | some z => z
  | none => y

def hasSt : List Slot → Bool
  | [] => false
  | .st :: _ => true
  | .t _ _ :: r => hasSt r
  | .o _ _ _ :: r => hasSt r
  | .v _ _ :: r => hasSt r
end

def lookN {α : Type} : List (Nat × α) → Nat → Option α
  | [], _ => none
  | (j, x) :: r, i => match Nat.beq j i with
    | true => some x
    | false => lookN r i

def allP : List T → Bool
  | [] => true
  | .p _ :: r => allP r
  | _ => false

def keepV (m i : Nat) : Option (List T) → Option (List T)
  | some cs => match Nat.testBit m (2 * i) || Nat.testBit m (2 * i + 1) || !allP cs with
    | true => none
    | false => some cs
  | none => none

def joinVars (m : Nat) (vs : List (Nat × List T)) : Nat → List (Option (List T)) → List (Option (List T))
  | _, [] => []
  | i, x :: r => (match lookN vs i with
    | some y => some y
    | none => keepV m i x) :: joinVars m vs (i + 1) r

def isVar (vars : List (Option (List T))) (s : Nat) : Bool :=
  match vars[s]? with
  | some (some _) => true
  | _ => false

def keepT (m : Nat) (vars : List (Option (List T))) : T → T
  | .p d => .p d
  | .lp s off => match !Nat.testBit m (2 * s) && isVar vars s with
    | true => .lp s off
    | false => .dead
  | _ => .dead

def joinTm (m : Nat) (ts : List (Nat × T)) (vars : List (Option (List T))) : Nat → List T → List T
  | _, [] => []
  | i, x :: r => (match lookN ts i with
    | some y => y
    | none => match Nat.testBit m (2 * i) with
      | true => .dead
      | false => keepT m vars x) :: joinTm m ts vars (i + 1) r

/-- A join: the numbers that may turn; pointers to variables that are made anew; what is carried. -/
structure JA where
  mask : Nat
  lps : List (Nat × Nat × Nat)
  sl : List Slot

def lpT (vars : List (Option (List T))) (s off : Nat) : T :=
  match isVar vars s with
  | true => .lp s off
  | false => .dead

def lpsT (vars : List (Option (List T))) : List (Nat × Nat × Nat) → List (Nat × T)
  | [] => []
  | (i, s, off) :: r => (i, lpT vars s off) :: lpsT vars r

def lpsBits : List (Nat × Nat × Nat) → Nat
  | [] => 0
  | (i, _, _) :: r => 2 ^ (2 * i) ||| lpsBits r

def slotBits : List Slot → Nat
  | [] => 0
  | .t i _ :: r => 2 ^ (2 * i) ||| slotBits r
  | .o i _ _ :: r => 2 ^ (2 * i) ||| slotBits r
  | .v s _ :: r => 2 ^ (2 * s + 1) ||| slotBits r
  | .st :: r => slotBits r

def JA.bits (j : JA) : Nat := j.mask ||| (lpsBits j.lps ||| slotBits j.sl)

def isLp (s off : Nat) : T → Bool
  | .lp s' off' => Nat.beq s' s && Nat.beq off' off
  | _ => false

section
variable {St : Type}

def chkL (e : Env St) : List (Nat × Nat × Nat) → Bool
  | [] => true
  | (i, s, off) :: r => isLp s off (e.get i) && chkL e r

def rdJ (j : JA) (e : Env St) : Option (SlotS St j.sl) :=
  match chkL e j.lps with
  | true => rdS e j.sl
  | false => none

def joinJ (j : JA) (e : Env St) (s : SlotS St j.sl) : Env St :=
  ⟨joinTm j.bits (lpsT (joinVars j.bits (vS j.sl s) 0 e.vars) j.lps ++ tmS j.sl s) (joinVars j.bits (vS j.sl s) 0 e.vars) 0 e.tm, joinVars j.bits (vS j.sl s) 0 e.vars, orSt (stS j.sl s) e.st⟩

def slotHas : List Slot → Nat → Bool
  | [], _ => false
  | .v s _ :: r, i => Nat.beq s i || slotHas r i
  | .t _ _ :: r, i => slotHas r i
  | .o _ _ _ :: r, i => slotHas r i
  | .st :: r, i => slotHas r i

def okTm (j : JA) (e : Env St) : Nat → List T → Bool
  | _, [] => true
  | i, .lp s _ :: r => (Nat.testBit j.bits (2 * i) || Nat.testBit j.bits (2 * s) || (slotHas j.sl s && (e.vars[s]?).isSome) || (keepV j.bits s (e.var s)).isSome) && okTm j e (i + 1) r
  | i, _ :: r => okTm j e (i + 1) r

/-- No pointer to a variable is lost unawares. -/
def okJ (j : JA) (e : Env St) : Bool := okTm j e 0 e.tm

def endJ (j : JA) (e : Env St) (lg : Nat) : Option (SlotS St j.sl) :=
  match Nat.beq (lg ||| j.bits) j.bits with
  | true => rdJ j e
  | false => none
end

/-- Either the rest, or the end already. -/
def cut2 {σ ρ : Type} (m : Option (σ ⊕ ρ)) (K : σ → Option ρ) : Option ρ :=
  match m with
  | none => none
  | some (.inl s) => K s
  | some (.inr r) => some r

def iterX {σ ρ : Type} (f : σ → Option (σ ⊕ ρ)) : Nat → σ → Option ρ
  | 0, _ => none
  | n + 1, s => match f s with
    | none => none
    | some (.inl s') => iterX f n s'
    | some (.inr r) => some r

open Classical in
/-- A loop: rounds until one ends it. -/
noncomputable def loopX {σ ρ : Type} (f : σ → Option (σ ⊕ ρ)) (s : σ) : Option ρ :=
  if h : ∃ n r, iterX f n s = some r then some (Classical.choose (Classical.choose_spec h)) else none

theorem iterX_mono {σ ρ : Type} {f : σ → Option (σ ⊕ ρ)} : ∀ (n m : Nat) (s : σ) (r : ρ), n ≤ m → iterX f n s = some r → iterX f m s = some r := by
  intro n
  induction n with
  | zero => intro m s r _ h; simp [iterX] at h
  | succ n ih =>
    intro m s r hm h
    obtain ⟨m', rfl⟩ : ∃ m', m = m' + 1 := ⟨m - 1, by omega⟩
    simp only [iterX] at h ⊢
    split at h
    · cases h
    · exact ih m' _ r (by omega) h
    · exact h

theorem loopX_iff {σ ρ : Type} {f : σ → Option (σ ⊕ ρ)} {s : σ} {r : ρ} : loopX f s = some r ↔ ∃ n, iterX f n s = some r := by
  unfold loopX
  constructor
  · intro h
    split at h
    · rename_i hex
      simp only [Option.some.injEq] at h
      subst h
      exact ⟨_, Classical.choose_spec (Classical.choose_spec hex)⟩
    · cases h
  · rintro ⟨n, hn⟩
    have hex : ∃ n r, iterX f n s = some r := ⟨n, r, hn⟩
    rw [dif_pos hex]
    have h1 := Classical.choose_spec (Classical.choose_spec hex)
    have h2 := iterX_mono _ (max (Classical.choose hex) n) s _ (by omega) h1
    have h3 := iterX_mono _ (max (Classical.choose hex) n) s _ (by omega) hn
    rw [h2] at h3
    exact h3

theorem loopX_eq {σ ρ : Type} (f : σ → Option (σ ⊕ ρ)) (s : σ) : loopX f s = match f s with
    | none => none
    | some (.inl s') => loopX f s'
    | some (.inr r) => some r := by
  have key : ∀ r, loopX f s = some r ↔ (match f s with
    | none => none
    | some (.inl s') => loopX f s'
    | some (.inr r) => some r) = some r := by
    intro r
    rw [loopX_iff]
    constructor
    · rintro ⟨n, hn⟩
      cases n with
      | zero => simp [iterX] at hn
      | succ n =>
        simp only [iterX] at hn
        split at hn
        · cases hn
        · exact loopX_iff.2 ⟨n, hn⟩
        · exact hn
    · intro h
      split at h
      · cases h
      · obtain ⟨n, hn⟩ := loopX_iff.1 h
        rename_i s' hs
        exact ⟨n + 1, by simp only [iterX, hs]; exact hn⟩
      · rename_i r' hs
        exact ⟨1, by simp only [iterX, hs]; exact h⟩
  cases hl : loopX f s with
  | some r => exact ((key r).1 hl).symm
  | none =>
    generalize hm : (match f s with
      | none => none
      | some (.inl s') => loopX f s'
      | some (.inr r) => some r) = m at key ⊢
    cases m with
    | none => rfl
    | some r => rw [(key r).2 rfl] at hl; cases hl

/-- By an invariant and a measure. -/
theorem loopX_inv {σ ρ : Type} {f : σ → Option (σ ⊕ ρ)} (J : σ → Prop) (m : σ → Nat) (Q : ρ → Prop)
    (step : ∀ s, J s → ∃ o, f s = some o ∧ match o with
      | .inl s' => J s' ∧ m s' < m s
      | .inr r => Q r) {s : σ} (h : J s) : ∃ r, loopX f s = some r ∧ Q r := by
  have key : ∀ (n : Nat) (s : σ), m s = n → J s → ∃ r, loopX f s = some r ∧ Q r := by
    intro n
    induction n using Nat.strongRecOn with
    | _ n ih =>
      intro s hs hj
      obtain ⟨o, ho, h1⟩ := step s hj
      rw [loopX_eq, ho]
      cases o with
      | inl s' => exact ih _ (by rw [← hs]; exact h1.2) s' rfl h1.1
      | inr r => exact ⟨r, rfl, h1⟩
  exact key _ s rfl h

def noJump : List Nat → Code → Bool
  | ids, .exit id => ids.any (Nat.beq id)
  | _, .ret => false
  | ids, .seq a b => noJump ids a && noJump ids b
  | ids, .cond _ a b => noJump ids a && noJump ids b
  | ids, .block id a => noJump (id :: ids) a
  | ids, .loop a => noJump ids a
  | _, _ => true

section
variable {Γ : Sig} (P : Look) (G : Nat → Option (List V)) (S : SpecsX Γ) (A : Nat → Option JA)

def unrollX {ρ : Type} (body : (X → Env Γ.St → Nat → Option ρ) → Env Γ.St → Nat → Option ρ) (K : X → Env Γ.St → Nat → Option ρ) : Nat → Env Γ.St → Nat → Option ρ
  | 0, _, _ => none
  | n + 1, e, lg => body (fun k e1 lg1 => match k with
    | .normal => unrollX body K n e1 lg1
    | k => K k e1 lg1) e lg

def keyA (t : Nat) (c : Code) : Option JA :=
  match keyOf c with
  | some k => A (4 * k + t)
  | none => none

noncomputable def exC : Code → (ρ : Type) → (X → Env Γ.St → Nat → Option ρ) → Env Γ.St → Nat → Option ρ
  | .skip, _, K, e, lg => K .normal e lg
  | .seq x y, ρ, K, e, lg => match keyA A 0 y with
    | some j => match noJump [] x with
      | true => need (okJ j e) (Option.bind (exC x (SlotS Γ.St j.sl) (fun k e1 lg1 => match k with
          | .normal => endJ j e1 lg1
          | _ => none) e 0) (fun s => kEnv (joinJ j e s) (fun e1 => exC y ρ K e1 (lg ||| j.bits))))
      | false => need (okJ j e) (cut2 (exC x (SlotS Γ.St j.sl ⊕ ρ) (fun k e1 lg1 => match k with
          | .normal => (endJ j e1 lg1).map .inl
          | k => (K k e1 (lg ||| lg1)).map .inr) e 0) (fun s => kEnv (joinJ j e s) (fun e1 => exC y ρ K e1 (lg ||| j.bits))))
    | none => exC x ρ (fun k e1 lg1 => match k with
      | .normal => exC y ρ K e1 lg1
      | k => K k e1 lg1) e lg
  | .cond c x y, ρ, K, e, lg => match evx G e c with
    | .p (.val (.bool b)) => cond b (exC x ρ K e lg) (exC y ρ K e lg)
    | _ => none
  | .block id c, ρ, K, e, lg => exC c ρ (fun k e1 lg1 => K (k.out id) e1 lg1) e lg
  | .loop c, ρ, K, e, lg => match keyA A 1 c with
    | some j => need (okJ j e) (Option.bind (rdJ j e) (fun s0 => loopX (fun s => kEnv (joinJ j e s) (fun e0 => exC c (SlotS Γ.St j.sl ⊕ ρ) (fun k e1 lg1 => match k with
        | .normal => (endJ j e1 lg1).map .inl
        | k => (K k e1 (lg ||| (j.bits ||| lg1))).map .inr) e0 0)) s0))
    | none => unrollX (exC c ρ) K 80 e lg
  | .exit id, _, K, e, lg => K (.exit id) e lg
  | .ret, _, K, e, lg => K .ret e lg
  | .region id ops d, _, K, e, lg => match A (4 * id + 2) with
    | some j => need (okJ j e) (Option.bind (regX P G S ops d ((A (4 * id + 3)).map (·.lps)) e 0 (fun e1 lg1 => endJ j e1 lg1)) (fun s => kEnv (joinJ j e s) (fun e1 => K .normal e1 (lg ||| j.bits))))
    | none => regX P G S ops d ((A (4 * id + 3)).map (·.lps)) e lg (fun e1 lg1 => K .normal e1 lg1)
  | _, _, _, _, _ => none
end

/-! ## What a join keeps -/

theorem takeP_sound : ∀ (n : Nat) (ts : List T) (ds : List V) (r : List T), takeP n ts = some (ds, r) → ts = ds.map .p ++ r ∧ ds.length = n := by
  intro n
  induction n with
  | zero => intro ts ds r h; simp only [takeP, Option.some.injEq, Prod.mk.injEq] at h; obtain ⟨rfl, rfl⟩ := h; exact ⟨rfl, rfl⟩
  | succ n ih =>
    intro ts ds r h
    unfold takeP at h
    split at h
    · rename_i heq; cases heq
    · rename_i m d r0 heq
      cases heq
      split at h
      · rename_i ds' r' hr
        simp only [Option.some.injEq, Prod.mk.injEq] at h
        obtain ⟨rfl, rfl⟩ := h
        obtain ⟨h1, h2⟩ := ih _ _ _ hr
        exact ⟨by rw [h1]; rfl, by simp [h2]⟩
      · cases h
    · cases h

theorem WkTs.append : ∀ {xs ys xs' ys' : List T}, WkTs xs ys → WkTs xs' ys' → WkTs (xs ++ xs') (ys ++ ys')
  | [], [], _, _, _, h => h
  | _ :: _, _ :: _, _, _, h, h' => ⟨h.1, WkTs.append h.2 h'⟩
  | [], _ :: _, _, _, h, _ => h.elim
  | _ :: _, [], _, _, h, _ => h.elim

theorem WkTs.ofV : ∀ {xs ys : List V}, WkVs xs ys → WkTs (xs.map .p) (ys.map .p)
  | [], [], _ => trivial
  | _ :: _, _ :: _, h => ⟨fun w F _ _ v hr => h.1 w F v hr, WkTs.ofV h.2⟩
  | [], _ :: _, h => h.elim
  | _ :: _, [], h => h.elim

theorem rdT_sound {ty : Ty} {x : T} {a : ty.El} (h : rdT ty x = some a) : WkT x (.p (ty.enc a)) := by
  unfold rdT at h
  split at h
  · exact fun w F _ _ v hr => dec_sound h w F v hr
  · intro w F β al v hr
    obtain ⟨ad, rfl⟩ := hr
    exact dec_sound h w F _ (.slemp ad 0)
  · cases h

theorem castL_sound {t t' : Ty} {xs : List t.El} {ys : List t'.El} (h : castL t t' xs = some ys) : fitL t t' xs ys := by
  simp only [fitL, h]

theorem rdO_sound {id : Nat} {ty : Ty} {x : T} {xs : List ty.El} (h : rdO id ty x = some xs) : WkT x (.ot id ty xs) := by
  unfold rdO at h
  split at h
  · simp only [Option.some.injEq] at h; subst h
    exact fun w F β al v hh => .inl ⟨rfl, none, Rd.eq_val hh⟩
  · simp only [Option.some.injEq] at h; subst h
    exact fun w F β al v hh => .inl ⟨rfl, hh⟩
  · rename_i i t ys
    split at h
    · rename_i hb
      have hi := Nat.eq_of_beq_eq_true hb
      subst hi
      obtain ⟨ht, h⟩ := fitL_sound (castL_sound h)
      subst ht
      subst h
      exact .refl _
    · cases h
  · cases h

theorem rdCell_sound : ∀ {c : Cell} {ts r : List T} {x : c.El}, rdCell c ts = some (x, r) → ∃ ts1, ts = ts1 ++ r ∧ WkTs ts1 (wrCell c x)
  | .p ty, ts, r, x, h => by
    simp only [rdCell] at h
    split at h
    · rename_i ds r' hr
      split at h
      · rename_i y hy
        simp only [Option.some.injEq, Prod.mk.injEq] at h
        obtain ⟨rfl, rfl⟩ := h
        obtain ⟨h1, h2⟩ := takeP_sound _ _ _ _ hr
        obtain ⟨cs1, h3, h4⟩ := uncells_sound _ _ _ _ hy
        rw [List.append_nil] at h3
        subst h3
        exact ⟨_, h1, WkTs.ofV h4⟩
      · cases h
    · cases h
  | .o id ty, y :: ts, r, x, h => by
    simp only [rdCell] at h
    split at h
    · rename_i xs hx
      simp only [Option.some.injEq, Prod.mk.injEq] at h
      obtain ⟨rfl, rfl⟩ := h
      exact ⟨[y], rfl, rdO_sound hx, trivial⟩
    · cases h
  | .o _ _, [], _, _, h => by simp [rdCell] at h

theorem rdCells_sound : ∀ (cs : List Cell) (ts : List T) (x : CellS cs), rdCells cs ts = some x → WkTs ts (wrCells cs x)
  | [], [], _, _ => trivial
  | [], _ :: _, _, h => by simp [rdCells] at h
  | [c], ts, x, h => by
    simp only [rdCells] at h
    split at h
    · rename_i y hy
      simp only [Option.some.injEq] at h
      subst h
      obtain ⟨ts1, h1, h2⟩ := rdCell_sound hy
      rw [List.append_nil] at h1
      subst h1
      exact h2
    · cases h
  | c :: c' :: r, ts, x, h => by
    simp only [rdCells] at h
    split at h
    · rename_i y ts' hy
      split at h
      · rename_i ys hys
        simp only [Option.some.injEq] at h
        subst h
        obtain ⟨ts1, h1, h2⟩ := rdCell_sound hy
        subst h1
        exact h2.append (rdCells_sound (c' :: r) ts' ys hys)
      · cases h
    · cases h

section
variable {St : Type} {e e1 : Env St}

theorem rdSlot_tm {s : Slot} {x : s.El St} (h : rdSlot e s = some x) : ∀ i y, (i, y) ∈ tmSlot s x → WkT (e.get i) y := by
  intro i y hy
  cases s with
  | t j ty =>
    simp only [tmSlot, List.mem_singleton, Prod.mk.injEq] at hy
    obtain ⟨rfl, rfl⟩ := hy
    exact rdT_sound h
  | o j id ty =>
    simp only [tmSlot, List.mem_singleton, Prod.mk.injEq] at hy
    obtain ⟨rfl, rfl⟩ := hy
    exact rdO_sound h
  | v s cs => simp [tmSlot] at hy
  | st => simp [tmSlot] at hy

theorem rdSlot_v {s : Slot} {x : s.El St} (h : rdSlot e s = some x) : ∀ i cs2, (i, cs2) ∈ vSlot s x → ∃ cs, e.var i = some cs ∧ WkTs cs cs2 := by
  intro i y hy
  cases s with
  | t j ty => simp [vSlot] at hy
  | o j id ty => simp [vSlot] at hy
  | st => simp [vSlot] at hy
  | v s cs =>
    simp only [vSlot, List.mem_singleton, Prod.mk.injEq] at hy
    obtain ⟨rfl, rfl⟩ := hy
    simp only [rdSlot] at h
    split at h
    · rename_i ts hts
      exact ⟨ts, hts, rdCells_sound _ _ _ h⟩
    · cases h

theorem rdS_tm : ∀ {l : List Slot} {x : SlotS St l}, rdS e l = some x → ∀ i y, (i, y) ∈ tmS l x → WkT (e.get i) y
  | [], _, _, i, y, hy => by simp [tmS] at hy
  | [s], x, h, i, y, hy => rdSlot_tm (s := s) h i y hy
  | s :: s' :: r, x, h, i, y, hy => by
    simp only [rdS] at h
    split at h
    · rename_i a ha
      split at h
      · rename_i as has
        simp only [Option.some.injEq] at h
        subst h
        simp only [tmS, List.mem_append] at hy
        rcases hy with hy | hy
        · exact rdSlot_tm ha i y hy
        · exact rdS_tm has i y hy
      · cases h
    · cases h

theorem rdS_v : ∀ {l : List Slot} {x : SlotS St l}, rdS e l = some x → ∀ i cs2, (i, cs2) ∈ vS l x → ∃ cs, e.var i = some cs ∧ WkTs cs cs2
  | [], _, _, i, y, hy => by simp [vS] at hy
  | [s], x, h, i, y, hy => rdSlot_v (s := s) h i y hy
  | s :: s' :: r, x, h, i, y, hy => by
    simp only [rdS] at h
    split at h
    · rename_i a ha
      split at h
      · rename_i as has
        simp only [Option.some.injEq] at h
        subst h
        simp only [vS, List.mem_append] at hy
        rcases hy with hy | hy
        · exact rdSlot_v ha i y hy
        · exact rdS_v has i y hy
      · cases h
    · cases h

theorem rdS_st : ∀ {l : List Slot} {x : SlotS St l}, rdS e l = some x → ∀ y, stS l x = some y → y = e.st
  | [], _, _, y, hy => by simp [stS] at hy
  | [s], x, h, y, hy => by
    cases s <;> simp [stS, stSlot] at hy
    simp only [rdS, rdSlot, Option.some.injEq] at h
    rw [← hy, ← h]
  | s :: s' :: r, x, h, y, hy => by
    simp only [rdS] at h
    split at h
    · rename_i a ha
      split at h
      · rename_i as has
        simp only [Option.some.injEq] at h
        subst h
        simp only [stS] at hy
        split at hy
        · rename_i z hz
          cases s <;> simp [stSlot] at hz
          simp only [rdSlot, Option.some.injEq] at ha
          simp only [Option.some.injEq] at hy
          rw [← hy, ← hz, ← ha]
        · exact rdS_st has y hy
      · cases h
    · cases h

theorem stS_some : ∀ {l : List Slot} (x : SlotS St l), hasSt l = true → ∃ y, stS l x = some y
  | [], _, h => by simp [hasSt] at h
  | [s], x, h => by
    cases s <;> simp [hasSt] at h
    exact ⟨x, rfl⟩
  | s :: s' :: r, x, h => by
    simp only [stS]
    cases hs : stSlot s x.1 with
    | some y => exact ⟨y, rfl⟩
    | none =>
      have h' : hasSt (s' :: r) = true := by
        cases s <;> simp only [hasSt] at h ⊢ <;> first | exact h | simp [stSlot] at hs
      obtain ⟨y, hy⟩ := stS_some (l := s' :: r) x.2 h'
      exact ⟨y, hy⟩

theorem lookN_mem {α : Type} : ∀ {l : List (Nat × α)} {i : Nat} {x : α}, lookN l i = some x → (i, x) ∈ l
  | [], _, _, h => by simp [lookN] at h
  | (j, y) :: r, i, x, h => by
    simp only [lookN] at h
    split at h
    · rename_i hb
      have := Nat.eq_of_beq_eq_true hb
      subst this
      simp only [Option.some.injEq] at h
      subst h
      exact List.mem_cons_self
    · exact List.mem_cons_of_mem _ (lookN_mem h)

theorem joinVars_get (m : Nat) (vs : List (Nat × List T)) : ∀ (l : List (Option (List T))) (n i : Nat), (joinVars m vs n l)[i]? = (l[i]?).map (fun x => match lookN vs (n + i) with
    | some y => some y
    | none => keepV m (n + i) x)
  | [], n, i => by simp [joinVars]
  | x :: r, n, i => by
    cases i with
    | zero => simp [joinVars]
    | succ i => simp only [joinVars, List.getElem?_cons_succ]; rw [joinVars_get m vs r (n + 1) i]; rw [show n + 1 + i = n + (i + 1) by omega]

theorem joinTm_get (m : Nat) (ts : List (Nat × T)) (vars : List (Option (List T))) : ∀ (l : List T) (n i : Nat), (joinTm m ts vars n l)[i]? = (l[i]?).map (fun x => match lookN ts (n + i) with
    | some y => y
    | none => match Nat.testBit m (2 * (n + i)) with
      | true => .dead
      | false => keepT m vars x)
  | [], n, i => by simp [joinTm]
  | x :: r, n, i => by
    cases i with
    | zero => simp [joinTm]
    | succ i => simp only [joinTm, List.getElem?_cons_succ]; rw [joinTm_get m ts vars r (n + 1) i]; rw [show n + 1 + i = n + (i + 1) by omega]

theorem joinVars_len (m : Nat) (vs : List (Nat × List T)) : ∀ (l : List (Option (List T))) (n : Nat), (joinVars m vs n l).length = l.length
  | [], _ => rfl
  | _ :: r, n => by simp [joinVars, joinVars_len m vs r (n + 1)]

theorem joinTm_len (m : Nat) (ts : List (Nat × T)) (vars : List (Option (List T))) : ∀ (l : List T) (n : Nat), (joinTm m ts vars n l).length = l.length
  | [], _ => rfl
  | _ :: r, n => by simp [joinTm, joinTm_len m ts vars r (n + 1)]

theorem allP_eq : ∀ {cs : List T}, allP cs = true → ∃ ds : List V, cs = ds.map .p
  | [], _ => ⟨[], rfl⟩
  | .p d :: r, h => by
    obtain ⟨ds, hds⟩ := allP_eq (cs := r) h
    exact ⟨d :: ds, by rw [hds]; rfl⟩
  | .ow _ _ _ :: _, h => by simp [allP] at h
  | .oe _ _ _ _ _ :: _, h => by simp [allP] at h
  | .lp _ _ :: _, h => by simp [allP] at h
  | .mp _ _ _ :: _, h => by simp [allP] at h
  | .ot _ _ _ :: _, h => by simp [allP] at h
  | .oet _ _ _ _ _ :: _, h => by simp [allP] at h
  | .ov _ _ _ _ _ :: _, h => by simp [allP] at h
  | .emp :: _, h => by simp [allP] at h
  | .dead :: _, h => by simp [allP] at h

theorem keepV_some {m i : Nat} {x : Option (List T)} {cs : List T} (h : keepV m i x = some cs) : x = some cs ∧ m.testBit (2 * i) = false ∧ m.testBit (2 * i + 1) = false ∧ ∃ ds : List V, cs = ds.map .p := by
  unfold keepV at h
  split at h
  · split at h
    · cases h
    · rename_i hb
      simp only [Bool.or_eq_false_iff, Bool.not_eq_false'] at hb
      simp only [Option.some.injEq] at h
      subst h
      exact ⟨rfl, hb.1.1, hb.1.2, allP_eq hb.2⟩
  · cases h

theorem var_of_get {s : Nat} {cs : List T} (h : e.vars[s]? = some (some cs)) : e.var s = some cs := by simp [Env.var, h]

theorem get_of_var {s : Nat} {cs : List T} (h : e.var s = some cs) : e.vars[s]? = some (some cs) := by
  simp only [Env.var] at h
  cases hs : e.vars[s]? with
  | none => rw [hs] at h; cases h
  | some x => rw [hs] at h; simp only [Option.getD_some] at h; rw [h]

theorem joinJ_var {j : JA} {s : SlotS St j.sl} {i : Nat} {cs2 : List T} (h : (joinJ j e s).var i = some cs2) :
    (i, cs2) ∈ vS j.sl s ∨ (e.var i = some cs2 ∧ j.bits.testBit (2 * i) = false ∧ j.bits.testBit (2 * i + 1) = false ∧ ∃ ds : List V, cs2 = ds.map .p) := by
  have h1 := get_of_var h
  simp only [joinJ] at h1
  rw [joinVars_get] at h1
  simp only [Option.map_eq_some_iff, Nat.zero_add] at h1
  obtain ⟨x, hx, h2⟩ := h1
  split at h2
  · rename_i y hy
    simp only [Option.some.injEq] at h2
    subst h2
    exact .inl (lookN_mem hy)
  · obtain ⟨rfl, h3, h4, h5⟩ := keepV_some h2
    exact .inr ⟨var_of_get hx, h3, h4, h5⟩

theorem lpsT_mem {vars : List (Option (List T))} : ∀ {l : List (Nat × Nat × Nat)} {i : Nat} {y : T}, (i, y) ∈ lpsT vars l → ∃ s off, (i, s, off) ∈ l ∧ y = lpT vars s off
  | [], _, _, h => by simp [lpsT] at h
  | (j, s, off) :: r, i, y, h => by
    simp only [lpsT, List.mem_cons, Prod.mk.injEq] at h
    rcases h with ⟨rfl, rfl⟩ | h
    · exact ⟨s, off, List.mem_cons_self, rfl⟩
    · obtain ⟨s', off', h1, h2⟩ := lpsT_mem h
      exact ⟨s', off', List.mem_cons_of_mem _ h1, h2⟩

theorem isLp_eq {s off : Nat} {x : T} (h : isLp s off x = true) : x = .lp s off := by
  unfold isLp at h
  split at h
  · simp only [Bool.and_eq_true] at h
    rw [Nat.eq_of_beq_eq_true h.1, Nat.eq_of_beq_eq_true h.2]
  · cases h

theorem chkL_mem : ∀ {l : List (Nat × Nat × Nat)}, chkL e l = true → ∀ i s off, (i, s, off) ∈ l → e.get i = .lp s off
  | [], _, _, _, _, h => by simp at h
  | (j, s0, off0) :: r, h, i, s, off, hm => by
    simp only [chkL, Bool.and_eq_true] at h
    simp only [List.mem_cons, Prod.mk.injEq] at hm
    rcases hm with ⟨rfl, rfl, rfl⟩ | hm
    · exact isLp_eq h.1
    · exact chkL_mem h.2 i s off hm

theorem lpT_cases (vars : List (Option (List T))) (s off : Nat) : lpT vars s off = .dead ∨ (lpT vars s off = .lp s off ∧ isVar vars s = true) := by
  unfold lpT
  split
  · rename_i h; exact .inr ⟨rfl, h⟩
  · exact .inl rfl

theorem joinJ_get {j : JA} {s : SlotS St j.sl} {i : Nat} (hi : i < e.tm.length) :
    (∃ y, (i, y) ∈ lpsT (joinJ j e s).vars j.lps ++ tmS j.sl s ∧ (joinJ j e s).get i = y) ∨
      ((joinJ j e s).get i = .dead) ∨ (j.bits.testBit (2 * i) = false ∧ (joinJ j e s).get i = keepT j.bits (joinJ j e s).vars (e.get i)) := by
  have h1 : (joinJ j e s).tm[i]? = _ := joinTm_get j.bits (lpsT (joinJ j e s).vars j.lps ++ tmS j.sl s) (joinJ j e s).vars e.tm 0 i
  rw [List.getElem?_eq_getElem hi, Option.map_some, Nat.zero_add] at h1
  have hg : (joinJ j e s).get i = ((joinJ j e s).tm[i]?).getD .dead := by simp [Env.get, List.getD_eq_getElem?_getD]
  have he : e.get i = e.tm[i] := by simp [Env.get, hi]
  rw [hg, h1, he]
  simp only [Option.getD_some]
  split
  · rename_i y hy
    exact .inl ⟨y, lookN_mem hy, rfl⟩
  · split
    · exact .inr (.inl rfl)
    · rename_i hb
      exact .inr (.inr ⟨hb, rfl⟩)

theorem joinJ_len {j : JA} {s : SlotS St j.sl} : (joinJ j e s).tm.length = e.tm.length ∧ (joinJ j e s).vars.length = e.vars.length :=
  ⟨joinTm_len _ _ _ _ _, joinVars_len _ _ _ _⟩

theorem get_ge {i : Nat} (h : e.tm.length ≤ i) : e.get i = .dead := by simp [Env.get, List.getD_eq_getElem?_getD, h]

theorem isVar_iff {s : Nat} : isVar e.vars s = true ↔ ∃ cs, e.var s = some cs := by
  unfold isVar
  constructor
  · intro h
    split at h
    · rename_i cs hcs; exact ⟨cs, var_of_get hcs⟩
    · cases h
  · rintro ⟨cs, hcs⟩
    rw [get_of_var hcs]
end

theorem bits_tm {St : Type} {l : List Slot} {x : SlotS St l} : ∀ {i : Nat} {y : T}, (i, y) ∈ tmS l x → (slotBits l).testBit (2 * i) = true := by
  match l, x with
  | [], _ => intro i y h; simp [tmS] at h
  | [s], x =>
    intro i y h
    cases s <;> simp only [tmS, tmSlot, List.mem_singleton, Prod.mk.injEq, List.not_mem_nil] at h
    all_goals
      obtain ⟨rfl, _⟩ := h
      simp [slotBits, Nat.testBit_two_pow]
  | s :: s' :: r, x =>
    intro i y h
    simp only [tmS, List.mem_append] at h
    rcases h with h | h
    · cases s <;> simp only [tmSlot, List.mem_singleton, Prod.mk.injEq, List.not_mem_nil] at h
      all_goals
        obtain ⟨rfl, _⟩ := h
        simp [slotBits, Nat.testBit_two_pow, Nat.testBit_or]
    · have := bits_tm (l := s' :: r) (x := x.2) h
      cases s <;> simp [slotBits, Nat.testBit_or] at this ⊢ <;> first | exact .inr this | exact this

theorem bits_v {St : Type} {l : List Slot} {x : SlotS St l} : ∀ {i : Nat} {y : List T}, (i, y) ∈ vS l x → (slotBits l).testBit (2 * i + 1) = true := by
  match l, x with
  | [], _ => intro i y h; simp [vS] at h
  | [s], x =>
    intro i y h
    cases s <;> simp only [vS, vSlot, List.mem_singleton, Prod.mk.injEq, List.not_mem_nil] at h
    all_goals
      obtain ⟨rfl, _⟩ := h
      simp [slotBits, Nat.testBit_two_pow]
  | s :: s' :: r, x =>
    intro i y h
    simp only [vS, List.mem_append] at h
    rcases h with h | h
    · cases s <;> simp only [vSlot, List.mem_singleton, Prod.mk.injEq, List.not_mem_nil] at h
      all_goals
        obtain ⟨rfl, _⟩ := h
        simp [slotBits, Nat.testBit_two_pow, Nat.testBit_or]
    · have := bits_v (l := s' :: r) (x := x.2) h
      cases s <;> simp [slotBits, Nat.testBit_or] at this ⊢ <;> first | exact .inr this | exact this

theorem slotHas_look {St : Type} : ∀ {l : List Slot} {x : SlotS St l} {i : Nat}, slotHas l i = true → ∃ cs, lookN (vS l x) i = some cs := by
  have app : ∀ {a b : List (Nat × List T)} {i : Nat}, ((∃ cs, lookN a i = some cs) ∨ ∃ cs, lookN b i = some cs) → ∃ cs, lookN (a ++ b) i = some cs := by
    intro a b i h
    induction a with
    | nil =>
      rcases h with ⟨cs, h⟩ | h
      · simp [lookN] at h
      · exact h
    | cons x a ih =>
      obtain ⟨k, y⟩ := x
      simp only [List.cons_append, lookN] at h ⊢
      split
      · exact ⟨_, rfl⟩
      · rename_i hb
        simp only [hb] at h
        exact ih h
  have one : ∀ {s : Slot} {x : s.El St} {i : Nat}, slotHas [s] i = true → ∃ cs, lookN (vSlot s x) i = some cs := by
    intro s x i h
    cases s <;> simp only [slotHas, Bool.or_false, Bool.false_eq_true] at h
    simp only [vSlot, lookN, h]
    exact ⟨_, rfl⟩
  intro l
  induction l with
  | nil => intro x i h; simp [slotHas] at h
  | cons s r ih =>
    intro x i h
    cases r with
    | nil => exact one (s := s) (x := x) h
    | cons s' r =>
      have h2 : slotHas [s] i = true ∨ slotHas (s' :: r) i = true := by
        cases s <;> simp only [slotHas, Bool.or_eq_true, Bool.or_false] at h ⊢
        · exact .inr h
        · exact .inr h
        · exact h
        · exact .inr h
      simp only [vS]
      rcases h2 with h2 | h2
      · exact app (.inl (one h2))
      · exact app (.inr (ih h2))

theorem bits_lps : ∀ {l : List (Nat × Nat × Nat)} {i s off : Nat}, (i, s, off) ∈ l → (lpsBits l).testBit (2 * i) = true
  | [], _, _, _, h => by simp at h
  | (j, s0, off0) :: r, i, s, off, h => by
    simp only [List.mem_cons, Prod.mk.injEq] at h
    simp only [lpsBits, Nat.testBit_or, Bool.or_eq_true, Nat.testBit_two_pow, decide_eq_true_eq]
    rcases h with ⟨rfl, _⟩ | h
    · exact .inl rfl
    · exact .inr (bits_lps h)
end Go.Ve

namespace Go.Ve
open Go

section
variable {Γ : Sig} {P : Program} {G : Nat → Option (List V)} {e e1 e2 : Env Γ.St}

/-- Whatever is true of a world of state e is true of it as one of state e2. -/
def Fits (G : Nat → Option (List V)) (e e2 : Env Γ.St) : Prop :=
  ∀ (w0 : World) (F0 : Blk → Prop) (O0 : Lent) (a : Act) (w : World), Inv Γ G w0 F0 O0 a w e → Inv Γ G w0 F0 O0 a w e2

theorem fits_of (hl : e2.tm.length = e.tm.length) (hst : e2.st = e.st) (ht2 : ∀ t, WkT (e.get t) (e2.get t))
    (hv2 : ∀ s cs2, e2.var s = some cs2 → ∃ cs, e.var s = some cs ∧ WkTs cs cs2) (hlp : ∀ t, lpOkT e2 (e2.get t) = true)
    (hlv : ∀ s cs2 x, e2.var s = some cs2 → x ∈ cs2 → lpOkT e2 x = true) : Fits G e e2 := by
  intro w0 F0 O0 a w h
  obtain ⟨F, O, β, hc, hG, hsz, hdf, ht, hv⟩ := h
  let al' : Site → Prop := fun x => alive e x ∧ ∀ s, x = .v s → ∃ cs, e2.var s = some cs
  have hon : ∀ v x, TRel w F β (alive e) v x → lpOkT e2 x = true → TRel w F β al' v x := by
    intro v x hx hl
    refine hx.on ?_
    have hs := hx.sites
    cases x with
    | ow i k es => exact ⟨hs, fun s h => by cases h⟩
    | oe i k es j off => exact ⟨hs, fun s h => by cases h⟩
    | mp i es ck => exact ⟨hs, fun s h => by cases h⟩
    | ot i t xs => exact fun h0 => ⟨hs h0, fun s h => by cases h⟩
    | oet i t xs j off => exact ⟨hs, fun s h => by cases h⟩
    | ov i t xs lo hi => exact fun h0 => ⟨hs h0, fun s h => by cases h⟩
    | lp s off =>
      refine ⟨hs, fun s' h => ?_⟩
      simp only [Site.v.injEq] at h
      subst h
      exact Option.isSome_iff_exists.1 hl
    | _ => trivial
  refine Inv.of (al := al') (by rw [hst]; exact hc.anti (fun x hx => hx.1)) hG (by rw [hl]; exact hsz) hdf ?_ ?_ ?_
  · intro t
    exact hon _ _ (ht2 t _ _ _ _ _ (ht t)) (hlp t)
  · intro s cs2 hcs2
    obtain ⟨cs, h1, h3⟩ := hv2 s cs2 hcs2
    obtain ⟨c, et, g1, g2, g3⟩ := hv s cs h1
    refine ⟨⟨⟨cs, h1⟩, fun s' h => by simp only [Site.v.injEq] at h; subst h; exact ⟨cs2, hcs2⟩⟩, c, et, g1, g2.trans h3.len, ?_⟩
    intro i x y hx hy
    have hlt : i < cs.length := by rw [h3.len]; exact (List.getElem?_eq_some_iff.1 hy).1
    exact hon _ _ (h3.get i cs[i] y (by simp [hlt]) hy _ _ _ _ _ (g3 i x cs[i] hx (by simp [hlt]))) (hlv s cs2 y hcs2 (List.mem_of_getElem? hy))
  · rintro s ⟨_, hs⟩
    exact hs s rfl

theorem wrCell_lp {c : Cell} {x : c.El} : ∀ y, y ∈ wrCell c x → lpOkT e y = true := by
  intro y hy
  cases c with
  | p ty =>
    simp only [wrCell, List.mem_map] at hy
    obtain ⟨d, _, rfl⟩ := hy
    rfl
  | o id ty =>
    simp only [wrCell, List.mem_singleton] at hy
    subst hy
    rfl

theorem wrCells_lp : ∀ {cs : List Cell} {x : CellS cs}, ∀ y, y ∈ wrCells cs x → lpOkT e y = true
  | [], _, y, h => by simp [wrCells] at h
  | [c], x, y, h => wrCell_lp (c := c) (x := x) y h
  | c :: c' :: r, x, y, h => by
    simp only [wrCells, List.mem_append] at h
    rcases h with h | h
    · exact wrCell_lp y h
    · exact wrCells_lp y h

theorem vSlot_lp {s : Slot} {x : s.El Γ.St} {i : Nat} {cs : List T} (h : (i, cs) ∈ vSlot s x) : ∀ y, y ∈ cs → lpOkT e y = true := by
  intro y hy
  cases s <;> simp only [vSlot, List.mem_singleton, Prod.mk.injEq, List.not_mem_nil] at h
  obtain ⟨_, rfl⟩ := h
  exact wrCells_lp y hy

theorem vS_lp : ∀ {l : List Slot} {x : SlotS Γ.St l} {i : Nat} {cs : List T}, (i, cs) ∈ vS l x → ∀ y, y ∈ cs → lpOkT e y = true
  | [], _, _, _, h => by simp [vS] at h
  | [s], x, _, _, h => vSlot_lp (s := s) (x := x) h
  | s :: s' :: r, x, _, _, h => by
    simp only [vS, List.mem_append] at h
    rcases h with h | h
    · exact vSlot_lp h
    · exact vS_lp h

theorem tmSlot_lp {s : Slot} {x : s.El Γ.St} {i : Nat} {y : T} (h : (i, y) ∈ tmSlot s x) : lpOkT e y = true := by
  cases s <;> simp only [tmSlot, List.mem_singleton, Prod.mk.injEq, List.not_mem_nil] at h
  all_goals
    obtain ⟨_, rfl⟩ := h
    rfl

theorem tmS_lp : ∀ {l : List Slot} {x : SlotS Γ.St l} {i : Nat} {y : T}, (i, y) ∈ tmS l x → lpOkT e y = true
  | [], _, _, _, h => by simp [tmS] at h
  | [s], x, _, _, h => tmSlot_lp (s := s) (x := x) h
  | s :: s' :: r, x, _, _, h => by
    simp only [tmS, List.mem_append] at h
    rcases h with h | h
    · exact tmSlot_lp h
    · exact tmS_lp h

theorem bits_sub {j : JA} {i : Nat} (h : j.bits.testBit i = false) : (lpsBits j.lps).testBit i = false ∧ (slotBits j.sl).testBit i = false := by
  simp only [JA.bits, bit_or] at h
  exact h.2

theorem join_fits {j : JA} (hst : Subsingleton Γ.St ∨ hasSt j.sl = true) {s : SlotS Γ.St j.sl} (hA : Agree j.bits e e1) (hr : rdJ j e1 = some s) : Fits G e1 (joinJ j e s) := by
  have hchk : chkL e1 j.lps = true ∧ rdS e1 j.sl = some s := by
    unfold rdJ at hr
    split at hr
    · rename_i h; exact ⟨h, hr⟩
    · cases hr
  obtain ⟨hL, hS⟩ := hchk
  have hv : ∀ i cs2, (joinJ j e s).var i = some cs2 → ∃ cs, e1.var i = some cs ∧ WkTs cs cs2 := by
    intro i cs2 h
    rcases joinJ_var h with h | ⟨h1, h2, h3, ds, rfl⟩
    · exact rdS_v hS i cs2 h
    · exact ⟨_, hA.v i ds h2 h3 h1, WkTs.refl _⟩
  have hlp1 : ∀ s' off, isVar (joinJ j e s).vars s' = true → lpOkT (joinJ j e s) (.lp s' off) = true := by
    intro s' off h
    obtain ⟨cs, hcs⟩ := isVar_iff.1 h
    simp only [lpOkT, hcs, Option.isSome_some]
  have hget : ∀ t, WkT (e1.get t) ((joinJ j e s).get t) ∧ lpOkT (joinJ j e s) ((joinJ j e s).get t) = true := by
    intro t
    rcases Nat.lt_or_ge t e.tm.length with hlt | hge
    · rcases joinJ_get (j := j) (s := s) hlt with ⟨y, hy, h1⟩ | h1 | ⟨hb, h1⟩
      · rw [h1]
        rw [List.mem_append] at hy
        rcases hy with hy | hy
        · obtain ⟨s', off, h2, rfl⟩ := lpsT_mem hy
          have h3 := chkL_mem hL t s' off h2
          rcases lpT_cases (joinJ j e s).vars s' off with h4 | ⟨h4, h5⟩
          · rw [h4]; exact ⟨.dead _, rfl⟩
          · rw [h4, h3]; exact ⟨.refl _, hlp1 s' off h5⟩
        · exact ⟨rdS_tm hS t y hy, tmS_lp hy⟩
      · rw [h1]; exact ⟨.dead _, rfl⟩
      · rw [h1]
        cases hx : e.get t with
        | p d => rw [hA.p t d hb hx]; exact ⟨.refl _, rfl⟩
        | lp s' off =>
          simp only [keepT]
          split
          · rename_i hk
            simp only [Bool.and_eq_true, Bool.not_eq_true'] at hk
            rw [hA.lp t s' off hb hk.1 hx]
            exact ⟨.refl _, hlp1 s' off hk.2⟩
          · exact ⟨.dead _, rfl⟩
        | _ => exact ⟨.dead _, rfl⟩
    · rw [get_ge (e := joinJ j e s) (by rw [joinJ_len.1]; exact hge)]
      exact ⟨.dead _, rfl⟩
  have hst' : (joinJ j e s).st = e1.st := by
    rcases hst with hsub | hst
    · exact Subsingleton.elim _ _
    · obtain ⟨y, hy⟩ := stS_some s hst
      have := rdS_st hS y hy
      show orSt (stS j.sl s) e.st = e1.st
      rw [hy]; exact this
  refine fits_of (by rw [joinJ_len.1, hA.tl]) hst' (fun t => (hget t).1) hv (fun t => (hget t).2) ?_
  intro i cs2 x h hx
  rcases joinJ_var h with h | ⟨_, _, _, ds, rfl⟩
  · exact vS_lp h x hx
  · simp only [List.mem_map] at hx
    obtain ⟨d, _, rfl⟩ := hx
    rfl

theorem okTm_get {j : JA} : ∀ (l : List T) (n : Nat), okTm j e n l = true → ∀ i s off, l[i]? = some (.lp s off) → j.bits.testBit (2 * (n + i)) = false → j.bits.testBit (2 * s) = false →
    (slotHas j.sl s = true ∧ (e.vars[s]?).isSome = true) ∨ (keepV j.bits s (e.var s)).isSome = true
  | [], _, _, i, s, off, h, _, _ => by simp at h
  | x :: r, n, hk, i, s, off, h, h1, h2 => by
    have hr : okTm j e (n + 1) r = true := by
      cases x <;> simp only [okTm, Bool.and_eq_true] at hk <;> first | exact hk | exact hk.2
    cases i with
    | zero =>
      simp only [List.getElem?_cons_zero, Option.some.injEq] at h
      subst h
      simp only [okTm, Bool.and_eq_true, Bool.or_eq_true] at hk
      rw [Nat.add_zero] at h1
      rw [h1, h2] at hk
      rcases hk.1 with ((h3 | h3) | h3) | h3
      · cases h3
      · cases h3
      · exact .inl h3
      · exact .inr h3
    | succ i =>
      simp only [List.getElem?_cons_succ] at h
      exact okTm_get r (n + 1) hr i s off h (by rw [show n + 1 + i = n + (i + 1) by omega]; exact h1) h2

theorem join_agree {j : JA} {s : SlotS Γ.St j.sl} (hok : okJ j e = true) : Agree j.bits e (joinJ j e s) := by
  have hlook : ∀ t, j.bits.testBit (2 * t) = false → ∀ y, (t, y) ∉ lpsT (joinJ j e s).vars j.lps ++ tmS j.sl s := by
    intro t ht y hy
    obtain ⟨h1, h2⟩ := bits_sub ht
    rw [List.mem_append] at hy
    rcases hy with hy | hy
    · obtain ⟨s', off, h3, _⟩ := lpsT_mem hy
      rw [bits_lps h3] at h1; cases h1
    · rw [bits_tm hy] at h2; cases h2
  have hget : ∀ t, j.bits.testBit (2 * t) = false → t < e.tm.length → (joinJ j e s).get t = keepT j.bits (joinJ j e s).vars (e.get t) := by
    intro t ht hlt
    have h1 : (joinJ j e s).tm[t]? = _ := joinTm_get j.bits (lpsT (joinJ j e s).vars j.lps ++ tmS j.sl s) (joinJ j e s).vars e.tm 0 t
    rw [List.getElem?_eq_getElem hlt, Option.map_some, Nat.zero_add] at h1
    have hg : (joinJ j e s).get t = ((joinJ j e s).tm[t]?).getD .dead := by simp [Env.get, List.getD_eq_getElem?_getD]
    have he : e.get t = e.tm[t] := by simp [Env.get, hlt]
    rw [hg, h1, he]
    simp only [Option.getD_some]
    split
    · rename_i y hy
      exact absurd (lookN_mem hy) (hlook t ht y)
    · rw [ht]
  have hvar : ∀ i (ds : List V), j.bits.testBit (2 * i) = false → j.bits.testBit (2 * i + 1) = false → e.var i = some (ds.map T.p) → (joinJ j e s).var i = some (ds.map T.p) := by
    intro i ds h1 h2 h3
    apply var_of_get
    show (joinVars _ _ _ _)[i]? = _
    rw [joinVars_get, get_of_var h3, Option.map_some, Nat.zero_add]
    congr 1
    split
    · rename_i y hy
      have := bits_v (lookN_mem hy)
      rw [(bits_sub h2).2] at this; cases this
    · have hall : ∀ l : List V, allP (l.map T.p) = true := by
        intro l
        induction l with
        | nil => rfl
        | cons x l ih => simpa [allP] using ih
      simp [keepV, h1, h2, hall]
  have hlt : ∀ t x, e.get t = x → x ≠ .dead → t < e.tm.length := by
    intro t x hx hne
    rcases Nat.lt_or_ge t e.tm.length with h | h
    · exact h
    · rw [get_ge h] at hx; exact absurd hx.symm hne
  refine ⟨joinJ_len.1, joinJ_len.2, ?_, ?_, hvar⟩
  · intro t d ht hx
    rw [hget t ht (hlt t _ hx (by simp)), hx]; rfl
  · intro t s' off ht hs' hx
    have hl := hlt t _ hx (by simp)
    rw [hget t ht hl, hx]
    have hg : e.tm[t]? = some (.lp s' off) := by
      rw [List.getElem?_eq_getElem hl]
      simp only [Env.get, List.getD_eq_getElem?_getD, List.getElem?_eq_getElem hl, Option.getD_some] at hx
      rw [hx]
    have h3 : isVar (joinJ j e s).vars s' = true := by
      rcases okTm_get e.tm 0 hok t s' off hg (by rw [Nat.zero_add]; exact ht) hs' with ⟨h4, h5⟩ | h4
      · obtain ⟨cs, hcs⟩ := slotHas_look (x := s) h4
        obtain ⟨y, hy⟩ := Option.isSome_iff_exists.1 h5
        rw [isVar_iff]
        refine ⟨cs, var_of_get ?_⟩
        show (joinVars _ _ _ _)[s']? = _
        rw [joinVars_get, hy, Option.map_some, Nat.zero_add, hcs]
      · obtain ⟨cs, hcs⟩ := Option.isSome_iff_exists.1 h4
        obtain ⟨h5, h6, h7, ds, rfl⟩ := keepV_some hcs
        rw [isVar_iff]
        exact ⟨_, hvar s' ds h6 h7 h5⟩
    simp [keepT, hs', h3]

theorem Fits.code {c : Code} {k : X} (h : CodeOk P G c e k e1) (hf : Fits G e1 e2) : CodeOk P G c e k e2 := by
  intro w0 F0 O0 a w hi
  refine wp_mono (h w0 F0 O0 a w hi) ?_
  rintro ex a' w' ⟨rfl, hi'⟩
  exact ⟨rfl, hf _ _ _ _ _ hi'⟩

theorem Fits.loop {c : Code} {k : X} (hf : Fits G e e1) (h : LoopOk P G c e1 k e2) : LoopOk P G c e k e2 :=
  fun w0 F0 O0 a w hi => h w0 F0 O0 a w (hf _ _ _ _ _ hi)

theorem Fits.pre {c : Code} {k : X} (hf : Fits G e e1) (h : CodeOk P G c e1 k e2) : CodeOk P G c e k e2 :=
  fun w0 F0 O0 a w hi => h w0 F0 O0 a w (hf _ _ _ _ _ hi)

theorem endJ_some {j : JA} {lg : Nat} {s : SlotS Γ.St j.sl} (h : endJ j e lg = some s) : rdJ j e = some s ∧ ∀ t, j.bits.testBit t = false → lg.testBit t = false := by
  unfold endJ at h
  split at h
  · rename_i hb
    have hb := Nat.eq_of_beq_eq_true hb
    refine ⟨h, fun t ht => ?_⟩
    rw [← hb, bit_or] at ht
    exact ht.1
  · cases h

theorem sub_or {j : JA} {d : Nat} {t : Nat} (h : (j.bits ||| d).testBit t = false) : j.bits.testBit t = false := ((bit_or _ _ _).1 h).1

theorem keyA_some {A : Nat → Option JA} {t : Nat} {c : Code} {j : JA} (h : keyA A t c = some j) : ∃ k, A k = some j := by
  unfold keyA at h
  split at h
  · exact ⟨_, h⟩
  · cases h

theorem exC_sound {S : SpecsX Γ} {A : Nat → Option JA} (hst : ∀ k j, A k = some j → Subsingleton Γ.St ∨ hasSt j.sl = true) (hmix : P.follows .mixedOrders = true) (hS : Table Γ P G S.toS) : ∀ (c : Code) (ρ : Type) (K : X → Env Γ.St → Nat → Option ρ) (e : Env Γ.St) (lg : Nat) (v : ρ),
    exC P G S A c ρ K e lg = some v → ∃ k e1 d, CodeOk P G c e k e1 ∧ Agree d e e1 ∧ K k e1 (lg ||| d) = some v := by
  intro c
  induction c with
  | skip => intro ρ K e lg v h; exact ⟨_, _, 0, .skip e, Agree.refl e, by rw [Nat.or_zero]; exact h⟩
  | exit id => intro ρ K e lg v h; exact ⟨_, _, 0, .exit id e, Agree.refl e, by rw [Nat.or_zero]; exact h⟩
  | ret => intro ρ K e lg v h; exact ⟨_, _, 0, .ret e, Agree.refl e, by rw [Nat.or_zero]; exact h⟩
  | seq x y ihx ihy =>
    intro ρ K e lg v h
    simp only [exC] at h
    split at h
    · rename_i j hj0
      obtain ⟨jk, hj⟩ := keyA_some hj0
      have hjs := hst jk j hj
      have fin : ∀ (k : X) (e1 : Env Γ.St) (d : Nat) (s : SlotS Γ.St j.sl), CodeOk P G x e .normal e1 → Agree d e e1 → endJ j e1 (0 ||| d) = some s → okJ j e = true → kEnv (joinJ j e s) (fun e1 => exC P G S A y ρ K e1 (lg ||| j.bits)) = some v →
          ∃ k e1 d, CodeOk P G (.seq x y) e k e1 ∧ Agree d e e1 ∧ K k e1 (lg ||| d) = some v := by
        intro k e1 d s h1 h2 h3 hok h4
        rw [kEnv_eq] at h4
        obtain ⟨h5, h6⟩ := endJ_some h3
        have hA : Agree j.bits e e1 := h2.mono (fun t ht => by have := h6 t ht; rw [Nat.zero_or] at this; exact this)
        obtain ⟨k2, e2, d2, h7, h8, h9⟩ := ihy ρ K _ _ v h4
        exact ⟨k2, e2, j.bits ||| d2, (Fits.code h1 (join_fits hjs hA h5)).seqN h7, (join_agree hok).trans h8, by rw [← Nat.or_assoc]; exact h9⟩
      split at h
      · obtain ⟨hok, h⟩ := need_some.1 h
        obtain ⟨s, h1, h2⟩ := bind_some h
        obtain ⟨k, e1, d, h3, h4, h5⟩ := ihx _ _ _ _ _ h1
        cases k with
        | normal => exact fin .normal e1 d s h3 h4 h5 hok h2
        | exit id => cases h5
        | ret => cases h5
      · obtain ⟨hok, h⟩ := need_some.1 h
        have h0 : ∃ o, exC P G S A x (SlotS Γ.St j.sl ⊕ ρ) (fun k e1 lg1 => match k with
          | .normal => (endJ j e1 lg1).map .inl
          | k => (K k e1 (lg ||| lg1)).map .inr) e 0 = some o ∧ match o with
          | .inl s => kEnv (joinJ j e s) (fun e1 => exC P G S A y ρ K e1 (lg ||| j.bits)) = some v
          | .inr r => r = v := by
          unfold cut2 at h
          split at h
          · cases h
          · rename_i s hs; exact ⟨_, hs, h⟩
          · rename_i r hr; exact ⟨_, hr, by simpa using h⟩
        obtain ⟨o, h1, h2⟩ := h0
        obtain ⟨k, e1, d, h3, h4, h5⟩ := ihx _ _ _ _ _ h1
        have other : k ≠ .normal → (K k e1 (lg ||| (0 ||| d))).map (Sum.inr (α := SlotS Γ.St j.sl)) = some o → ∃ k e1 d, CodeOk P G (.seq x y) e k e1 ∧ Agree d e e1 ∧ K k e1 (lg ||| d) = some v := by
          intro hk hm
          rw [Option.map_eq_some_iff] at hm
          obtain ⟨r, hr, rfl⟩ := hm
          simp only at h2
          subst h2
          exact ⟨k, e1, d, h3.seqX hk, h4, by rw [Nat.zero_or] at hr; exact hr⟩
        cases k with
        | normal =>
          simp only [Option.map_eq_some_iff] at h5
          obtain ⟨s, hs, rfl⟩ := h5
          exact fin .normal e1 d s h3 h4 hs hok h2
        | exit id => exact other (by simp) h5
        | ret => exact other (by simp) h5
    · obtain ⟨k, e1, d, h1, h2, h3⟩ := ihx _ _ _ _ _ h
      cases k with
      | normal =>
        obtain ⟨k2, e2, d2, h4, h5, h6⟩ := ihy _ _ _ _ _ h3
        exact ⟨k2, e2, d ||| d2, h1.seqN h4, h2.trans h5, by rw [← Nat.or_assoc]; exact h6⟩
      | exit id => exact ⟨_, e1, d, h1.seqX (by simp), h2, h3⟩
      | ret => exact ⟨_, e1, d, h1.seqX (by simp), h2, h3⟩
  | cond c x y ihx ihy =>
    intro ρ K e lg v h
    simp only [exC] at h
    split at h
    · rename_i b hb
      cases b with
      | true =>
        obtain ⟨k, e1, d, h1, h2, h3⟩ := ihx _ _ _ _ _ h
        exact ⟨k, e1, d, CodeOk.condB hb h1, h2, h3⟩
      | false =>
        obtain ⟨k, e1, d, h1, h2, h3⟩ := ihy _ _ _ _ _ h
        exact ⟨k, e1, d, CodeOk.condB hb h1, h2, h3⟩
    · cases h
  | block id c ih =>
    intro ρ K e lg v h
    simp only [exC] at h
    obtain ⟨k, e1, d, h1, h2, h3⟩ := ih _ _ _ _ _ h
    exact ⟨_, e1, d, h1.block, h2, h3⟩
  | loop c ih =>
    intro ρ K e lg v h
    simp only [exC] at h
    split at h
    · rename_i j hj0
      obtain ⟨jk, hj⟩ := keyA_some hj0
      have hjs := hst jk j hj
      obtain ⟨hok, h⟩ := need_some.1 h
      obtain ⟨s0, h1, h2⟩ := bind_some h
      simp only [kEnv_eq] at h2
      rw [loopX_iff] at h2
      obtain ⟨n, hn⟩ := h2
      have key : ∀ (n : Nat) (s : SlotS Γ.St j.sl), iterX (fun s => exC P G S A c (SlotS Γ.St j.sl ⊕ ρ) (fun k e1 lg1 => match k with
        | .normal => (endJ j e1 lg1).map .inl
        | k => (K k e1 (lg ||| (j.bits ||| lg1))).map .inr) (joinJ j e s) 0) n s = some v → ∃ k e1 d, LoopOk P G c (joinJ j e s) k e1 ∧ Agree (j.bits ||| d) e e1 ∧ K k e1 (lg ||| (j.bits ||| d)) = some v := by
        intro n
        induction n with
        | zero => intro s hs; simp [iterX] at hs
        | succ n ihn =>
          intro s hs
          simp only [iterX] at hs
          have other : ∀ (o : SlotS Γ.St j.sl ⊕ ρ) (k : X) (e1 : Env Γ.St) (d : Nat), k ≠ .normal → CodeOk P G c (joinJ j e s) k e1 → Agree d (joinJ j e s) e1 → (K k e1 (lg ||| (j.bits ||| (0 ||| d)))).map (Sum.inr (α := SlotS Γ.St j.sl)) = some o →
              (∃ r, o = .inr r ∧ K k e1 (lg ||| (j.bits ||| d)) = some r) ∧ LoopOk P G c (joinJ j e s) k e1 ∧ Agree (j.bits ||| d) e e1 := by
            intro o k e1 d hk h3 h4 hm
            rw [Option.map_eq_some_iff] at hm
            obtain ⟨r, hr, rfl⟩ := hm
            rw [Nat.zero_or] at hr
            exact ⟨⟨r, rfl, hr⟩, .last h3 hk, (join_agree hok).trans h4⟩
          split at hs
          · cases hs
          · rename_i s' hs'
            obtain ⟨k, e1, d, h3, h4, h5⟩ := ih _ _ _ _ _ hs'
            cases k with
            | normal =>
              simp only [Option.map_eq_some_iff] at h5
              obtain ⟨s1, hs1, heq⟩ := h5
              simp only [Sum.inl.injEq] at heq
              subst heq
              obtain ⟨h6, h7⟩ := endJ_some hs1
              have hA : Agree j.bits e e1 := (join_agree hok).same (h4.mono (fun t ht => by have := h7 t ht; rw [Nat.zero_or] at this; exact this))
              obtain ⟨k2, e2, d2, h8, h9, h10⟩ := ihn _ hs
              exact ⟨k2, e2, d2, LoopOk.step (Fits.code h3 (join_fits hjs hA h6)) h8, h9, h10⟩
            | exit id => obtain ⟨⟨r, hr, _⟩, _⟩ := other _ _ _ _ (by simp) h3 h4 h5; cases hr
            | ret => obtain ⟨⟨r, hr, _⟩, _⟩ := other _ _ _ _ (by simp) h3 h4 h5; cases hr
          · rename_i r hs'
            simp only [Option.some.injEq] at hs
            subst hs
            obtain ⟨k, e1, d, h3, h4, h5⟩ := ih _ _ _ _ _ hs'
            cases k with
            | normal =>
              simp only [Option.map_eq_some_iff] at h5
              obtain ⟨s1, hs1, heq⟩ := h5
              cases heq
            | exit id =>
              obtain ⟨⟨r', hr, hK⟩, hL, hA⟩ := other _ _ _ _ (by simp) h3 h4 h5
              simp only [Sum.inr.injEq] at hr
              subst hr
              exact ⟨_, e1, d, hL, hA, hK⟩
            | ret =>
              obtain ⟨⟨r', hr, hK⟩, hL, hA⟩ := other _ _ _ _ (by simp) h3 h4 h5
              simp only [Sum.inr.injEq] at hr
              subst hr
              exact ⟨_, e1, d, hL, hA, hK⟩
      obtain ⟨k, e1, d, h3, h4, h5⟩ := key n s0 hn
      exact ⟨k, e1, _, CodeOk.loop (Fits.loop (join_fits hjs ((Agree.refl e).mono (fun t _ => by simp)) h1) h3), h4, h5⟩
    · have key : ∀ (n : Nat) (e : Env Γ.St) (lg : Nat), unrollX (exC P G S A c ρ) K n e lg = some v → ∃ k e1 d, LoopOk P G c e k e1 ∧ Agree d e e1 ∧ K k e1 (lg ||| d) = some v := by
        intro n
        induction n with
        | zero => intro e lg h; simp [unrollX] at h
        | succ n ihn =>
          intro e lg h
          simp only [unrollX] at h
          obtain ⟨k, e1, d, h5, h6, h7⟩ := ih _ _ _ _ _ h
          cases k with
          | normal =>
            obtain ⟨k2, e2, d2, h8, h9, h10⟩ := ihn e1 _ h7
            exact ⟨k2, e2, d ||| d2, LoopOk.step h5 h8, h6.trans h9, by rw [← Nat.or_assoc]; exact h10⟩
          | exit id => exact ⟨_, e1, d, .last h5 (by simp), h6, h7⟩
          | ret => exact ⟨_, e1, d, .last h5 (by simp), h6, h7⟩
      obtain ⟨k, e1, d, h4, h5, h6⟩ := key _ e lg h
      exact ⟨k, e1, d, CodeOk.loop h4, h5, h6⟩
  | region id ops draw =>
    intro ρ K e lg v h
    simp only [exC] at h
    split at h
    · rename_i j hj
      have hjs := hst _ j hj
      obtain ⟨hok, h⟩ := need_some.1 h
      obtain ⟨s, h1, h2⟩ := bind_some h
      obtain ⟨e1, n, h3, h4, h5⟩ := regX_sound hmix hS (id := id) h1
      rw [kEnv_eq] at h2
      obtain ⟨h6, h7⟩ := endJ_some h5
      have hA : Agree j.bits e e1 := h4.mono (fun t ht => by have := h7 t ht; rw [Nat.zero_or] at this; exact this)
      exact ⟨.normal, joinJ j e s, j.bits, Fits.code h3 (join_fits hjs hA h6), join_agree hok, h2⟩
    · obtain ⟨e1, n, h3, h4, h5⟩ := regX_sound hmix hS (id := id) h
      exact ⟨.normal, e1, n, h3, h4, h5⟩
  | _ => intro ρ K e lg v h; simp [exC] at h

/-- The shapes of results. -/
inductive RTy where
  | p (ty : Ty)
  | o (ty : Ty)
  | tu (tys : List Ty)

@[reducible] def RTy.El : RTy → Type
  | .p ty => ty.El
  | .o ty => List ty.El
  | .tu tys => ElS tys

def RTy.get : (R : RTy) → RV → Option R.El
  | .p ty, .p d => ty.dec d
  | .p (.sl ty), .ownT t' xs => castL t' ty xs
  | .p ty, .own [] => ty.dec (.sl [])
  | .p _, _ => none
  | .o ty, .ownT t' xs => castL t' ty xs
  | .o _, .p (.val (.slice none 0 0)) => some []
  | .o _, .own [] => some []
  | .o _, _ => none
  | .tu tys, .p (.tup ds) => decS tys ds
  | .tu _, _ => none

def RTy.res : (R : RTy) → R.El → RV
  | .p ty, x => .p (ty.enc x)
  | .o ty, xs => .ownT ty xs
  | .tu tys, x => .p (.tup (encS tys x))

def RTy.pl : RTy → Bool
  | .p ty => ty.flat
  | .o ty => ty.flat
  | .tu tys => tys.all Ty.flat

theorem RTy.get_sound {N : Nat} {w : World} {F : Blk → Prop} {O : Nat → Prop} {v : Value} {R : RTy} {r : RV} {y : R.El} (h : R.get r = some y) (hr : RetRel N w F O v r) :
    ∃ F' : Blk → Prop, (∀ b, F b → F' b) ∧ (∀ id a n c, F' (.h id a n c) ↔ F (.h id a n c)) ∧ (∀ b : Nat, F' b → F b ∨ (N ≤ b ∧ b < w.heap.size ∧ ¬ O b)) ∧ RetRel N w F' O v (R.res y) := by
  have same : RetRel N w F O v (R.res y) → ∃ F' : Blk → Prop, (∀ b, F b → F' b) ∧ (∀ id a n c, F' (.h id a n c) ↔ F (.h id a n c)) ∧ (∀ b : Nat, F' b → F b ∨ (N ≤ b ∧ b < w.heap.size ∧ ¬ O b)) ∧ RetRel N w F' O v (R.res y) :=
    fun h => ⟨F, fun _ h => h, fun _ _ _ _ => Iff.rfl, fun _ h => .inl h, h⟩
  unfold RTy.get at h
  split at h
  · exact same (dec_sound h _ _ _ hr)
  · rename_i ty t' xs
    exact fitRV_sound (r := .ownT t' xs) (r' := .p (.tl ty y)) (castL_sound h) hr
  · rename_i ty _
    refine same ?_
    rcases hr with ⟨_, a0, rfl⟩ | ⟨h', _⟩
    · exact dec_sound h _ _ _ (.slemp a0 0)
    · exact absurd rfl h'
  · cases h
  · rename_i ty t' xs
    exact fitRV_sound (r := .ownT t' xs) (r' := .ownT ty y) (castL_sound h) hr
  · simp only [Option.some.injEq] at h; subst h
    exact same (.inl ⟨rfl, none, Rd.eq_val hr⟩)
  · simp only [Option.some.injEq] at h; subst h
    exact same hr
  · cases h
  · exact same (WkV.tup (decS_sound _ _ _ h) _ _ _ hr)
  · cases h

/-- What a body comes to, over typed data. -/
noncomputable def exF (L : Look) (G : Nat → Option (List V)) (S : SpecsX Γ) (A : Nat → Option JA) (fn : Func) (c : Code) (R : RTy) (s : Γ.St) (ds : List V) : Option R.El :=
  kEnv (start fn.ntmps s ds) (fun e => exC L G S A c R.El (fun k e1 _ => match k with
    | .exit _ => none
    | _ => match evRet L e1 fn with
      | some r => R.get r
      | none => none) e 0)

/-- A contract by a partial function over typed data. -/
def specG {X : Type} (dec : List V → Option X) (R : RTy) (g : X → Option R.El) : Γ.St → List V → Option (CallX Γ.St) := fun s ds =>
  match dec ds with
  | some x => some ⟨R.El, g x, fun _ => s, R.res, R.pl⟩
  | none => none

def specX (ts : List Ty) (R : RTy) (g : ElS ts → Option R.El) : Γ.St → List V → Option (CallX Γ.St) := specG (decS ts) R g

/-- The shapes of arguments: data; a pointer to what stays; a function value with what it captured (a pointer, where the flag is set). -/
inductive ATy where
  | d (ty : Ty)
  | pp (ty : Ty)
  | clo (f : Nat) (caps : List (Bool × Ty))

@[reducible] def CapS : List (Bool × Ty) → Type
  | [] => Unit
  | c :: r => c.2.El × CapS r

@[reducible] def ATy.El : ATy → Type
  | .d ty => ty.El
  | .pp ty => ty.El
  | .clo _ caps => CapS caps

@[reducible] def ElA : List ATy → Type
  | [] => Unit
  | t :: ts => t.El × ElA ts

def encCap : (l : List (Bool × Ty)) → CapS l → List V
  | [], _ => []
  | (b, t) :: r, x => (match b with
    | true => .pp (t.cells x.1)
    | false => t.enc x.1) :: encCap r x.2

def ATy.enc : (t : ATy) → t.El → V
  | .d ty, x => ty.enc x
  | .pp ty, x => .pp (ty.cells x)
  | .clo f caps, x => .clo f (encCap caps x)

def encA : (ts : List ATy) → ElA ts → List V
  | [], _ => []
  | t :: ts, x => t.enc x.1 :: encA ts x.2

def decPP (t : Ty) : V → Option t.El
  | .pp cs => match t.uncells cs with
    | some (x, []) => some x
    | _ => none
  | _ => none

def decCap : (l : List (Bool × Ty)) → List V → Option (CapS l)
  | [], [] => some ()
  | (b, t) :: r, d :: ds => match b with
    | true => match decPP t d with
      | some x => match decCap r ds with
        | some xs => some (x, xs)
        | none => none
      | none => none
    | false => match t.dec d with
      | some x => match decCap r ds with
        | some xs => some (x, xs)
        | none => none
      | none => none
  | _, _ => none

def ATy.dec : (t : ATy) → V → Option t.El
  | .d ty, v => ty.dec v
  | .pp ty, v => decPP ty v
  | .clo f caps, .clo g ds => match Nat.beq g f with
    | true => decCap caps ds
    | false => none
  | .clo _ _, _ => none

def decA : (ts : List ATy) → List V → Option (ElA ts)
  | [], [] => some ()
  | t :: ts, d :: ds => match t.dec d with
    | some x => match decA ts ds with
      | some xs => some (x, xs)
      | none => none
    | none => none
  | _, _ => none

def specA (ts : List ATy) (R : RTy) (g : ElA ts → Option R.El) : Γ.St → List V → Option (CallX Γ.St) := specG (decA ts) R g

def SpecsX.none (Γ : Sig) : SpecsX Γ := fun _ _ _ => Option.none

def SpecsX.add (S : SpecsX Γ) (f : FuncId) (sp : Γ.St → List V → Option (CallX Γ.St)) : SpecsX Γ := fun g s ds =>
  match Nat.beq g f with
  | true => match isBot ds with
    | true => S g s ds
    | false => match sp s ds with
      | .some c => some c
      | .none => S g s ds
  | false => S g s ds

def callS (sp : Γ.St → List V → Option (CallX Γ.St)) : Γ.St → List V → Option (Γ.St × RV) := fun s ds =>
  match sp s ds with
  | some c => c.m.map (fun y => (c.st y, c.res y))
  | none => none

theorem tableX_none : Table Γ P G (SpecsX.none Γ).toS := by
  have : (SpecsX.none Γ).toS = noSpecs Γ := by funext f s ds; rfl
  rw [this]; exact table_none

theorem tableX_add {S : SpecsX Γ} (hS : Table Γ P G S.toS) {f : FuncId} {sp : Γ.St → List V → Option (CallX Γ.St)} (hi : isFn P f = true) (h : FnOk Γ P G f (callS sp)) : Table Γ P G (S.add f sp).toS := by
  have e0 : ∀ s ds, isBot ds = true → (S.add f sp).toS f s ds = S.toS f s ds := by
    intro s ds hb
    simp only [SpecsX.toS, SpecsX.add, Nat.beq_refl, hb]
  have e1 : ∀ s ds, isBot ds = false → (S.add f sp).toS f s ds = if (sp s ds).isSome then callS sp s ds else S.toS f s ds := by
    intro s ds hb
    simp only [SpecsX.toS, SpecsX.add, callS, Nat.beq_refl, hb]
    cases sp s ds <;> rfl
  have e2 : ∀ g, g ≠ f → (S.add f sp).toS g = S.toS g := by
    intro g hg
    funext s ds
    have : Nat.beq g f = false := by
      cases hb : Nat.beq g f with
      | false => rfl
      | true => exact absurd (Nat.eq_of_beq_eq_true hb) hg
    simp only [SpecsX.toS, SpecsX.add, this]
  have hnf : ∀ k, P.funcs[k]? = none → k ≠ f := by
    rintro k hk rfl
    simp [isFn, hk] at hi
  refine ⟨?_, ?_, fun hno st q t ys bytes st' d h => hS.app hno st q t ys bytes st' d (by rw [← e2 _ (hnf _ hno)]; exact h), ?_⟩
  · intro g
    by_cases hg : g = f
    · subst hg
      intro w F O s args ds s' r a1 a2 a3 a4 a5 a6
      cases hb : isBot ds with
      | true =>
        rw [e0 s ds hb] at a6
        exact hS.ok g w F O s args ds s' r a1 a2 a3 a4 a5 a6
      | false =>
        rw [e1 s ds hb] at a6
        split at a6
        · exact h w F O s args ds s' r a1 a2 a3 a4 a5 a6
        · exact hS.ok g w F O s args ds s' r a1 a2 a3 a4 a5 a6
    · rw [e2 g hg]; exact hS.ok g
  · intro g s ds r hr hbot
    by_cases hg : g = f
    · subst hg
      unfold isFn at hi
      split at hi
      · rename_i fn hfn
        simp only [Bool.and_eq_true, Bool.not_eq_true'] at hi
        exact ⟨fn, hfn, hi.1, hi.2⟩
      · cases hi
    · rw [e2 g hg] at hr; exact hS.is g s ds r hr hbot
  · intro g st t xs ds st' ys d h
    by_cases hg : g = f
    · subst hg; rw [e0 _ _ rfl] at h; exact hS.bor g st t xs ds st' ys d h
    · rw [e2 g hg] at h; exact hS.bor g st t xs ds st' ys d h

/-- A contract of a function to which a list is lent. -/
def SpecsX.addB (S : SpecsX Γ) (f : FuncId) (sp : Γ.St → List V → Option (CallX Γ.St)) : SpecsX Γ := fun g s ds =>
  match Nat.beq g f with
  | true => match ds with
    | .bot :: r => match sp s r with
      | .some c => some c
      | .none => S g s ds
    | _ => S g s ds
  | false => S g s ds

def RTy.val : (R : RTy) → R.El → V
  | .p ty, x => ty.enc x
  | .o ty, xs => .tl ty xs
  | .tu tys, x => .tup (encS tys x)

def specBor (t : Ty) {X : Type} (dec : List V → Option X) (R : RTy) (g : List t.El → X → Option (List t.El × R.El)) : Γ.St → List V → Option (CallX Γ.St) := fun s ds =>
  match ds with
  | .tl t' xs :: r => match castL t' t xs with
    | some ys => match dec r with
      | some x => some ⟨List t.El × R.El, g ys x, fun _ => s, fun y => .p (.tup [.tl t y.1, R.val y.2]), false⟩
      | none => none
    | none => none
  | _ => none

/-- The contract: what becomes of the list that is lent, and what is handed back. -/
def FnOkB (Γ : Sig) (P : Program) (G : Nat → Option (List V)) (f : FuncId) (t : Ty) {X : Type} (dec : List V → Option X) (R : RTy) (g : List t.El → X → Option (List t.El × R.El)) : Prop :=
  ∀ (s : Γ.St) (xs : List t.El) (r : List V) (x : X) (ys : List t.El) (y : R.El), dec r = some x → g xs x = some (ys, y) → BorOk Γ P G f s t xs r s ys (R.val y)

theorem tableX_addB {S : SpecsX Γ} (hS : Table Γ P G S.toS) {f : FuncId} {t : Ty} {X : Type} {dec : List V → Option X} {R : RTy} {g : List t.El → X → Option (List t.El × R.El)} (hi : isFn P f = true)
    (h : FnOkB Γ P G f t dec R g) : Table Γ P G (S.addB f (specBor t dec R g)).toS := by
  have e0 : ∀ s ds, isBot ds = false → (S.addB f (specBor t dec R g)).toS f s ds = S.toS f s ds := by
    intro s ds hb
    simp only [SpecsX.toS, SpecsX.addB, Nat.beq_refl]
    cases ds with
    | nil => rfl
    | cons d r => cases d <;> first | rfl | cases hb
  have e1 : ∀ s r, (S.addB f (specBor t dec R g)).toS f s (.bot :: r) = match specBor (Γ := Γ) t dec R g s r with
      | some c => c.m.map (fun y => (c.st y, c.res y))
      | none => S.toS f s (.bot :: r) := by
    intro s r
    simp only [SpecsX.toS, SpecsX.addB, Nat.beq_refl]
    cases specBor (Γ := Γ) t dec R g s r <;> rfl
  have e2 : ∀ g', g' ≠ f → (S.addB f (specBor t dec R g)).toS g' = S.toS g' := by
    intro g' hg
    funext s ds
    have : Nat.beq g' f = false := by
      cases hb : Nat.beq g' f with
      | false => rfl
      | true => exact absurd (Nat.eq_of_beq_eq_true hb) hg
    simp only [SpecsX.toS, SpecsX.addB, this]
  have hnf : ∀ k, P.funcs[k]? = none → k ≠ f := by
    rintro k hk rfl
    simp [isFn, hk] at hi
  have hisf : ∃ fn, P.funcs[f]? = some fn ∧ fn.body.isSome = true ∧ (fn.name == "runtime.NumGoroutine") = false := by
    unfold isFn at hi
    split at hi
    · rename_i fn hfn
      simp only [Bool.and_eq_true, Bool.not_eq_true'] at hi
      exact ⟨fn, hfn, hi.1, hi.2⟩
    · cases hi
  refine ⟨?_, ?_, fun hno st q t ys bytes st' d h => hS.app hno st q t ys bytes st' d (by rw [← e2 _ (hnf _ hno)]; exact h), ?_⟩
  · intro g'
    by_cases hg : g' = f
    · subst hg
      intro w F O s args ds s' r a1 a2 a3 a4 a5 a6
      cases hb : isBot ds with
      | false =>
        rw [e0 s ds hb] at a6
        exact hS.ok g' w F O s args ds s' r a1 a2 a3 a4 a5 a6
      | true =>
        exfalso
        cases ds with
        | nil => cases hb
        | cons d ds =>
          cases d with
          | bot =>
            have h0 : 0 < args.size := by rw [a4]; simp
            have hnb : ∀ u : Value, ¬ Rd w F u .bot := fun u h => by cases h
            exact hnb _ (a5 0 args[0] .bot (by simp [h0]) rfl)
          | _ => cases hb
    · rw [e2 g' hg]; exact hS.ok g'
  · intro g' s ds r hr hbot
    by_cases hg : g' = f
    · subst hg; exact hisf
    · rw [e2 g' hg] at hr; exact hS.is g' s ds r hr hbot
  · intro g' st t0 xs ds st' ys d h0
    by_cases hg : g' = f
    · subst hg
      rw [e1] at h0
      split at h0
      · rename_i cx hc
        refine ⟨?_, hisf⟩
        simp only [specBor] at hc
        cases hzs : castL t0 t xs with
        | none => rw [hzs] at hc; cases hc
        | some zs =>
          rw [hzs] at hc
          obtain ⟨ht, hz⟩ := fitL_sound (castL_sound hzs)
          subst ht
          subst hz
          cases hx : dec ds with
          | none => rw [hx] at hc; cases hc
          | some x =>
            rw [hx] at hc
            simp only [Option.some.injEq] at hc
            rw [← hc] at h0
            simp only [Option.map_eq_some_iff, Prod.mk.injEq, RV.p.injEq, V.tup.injEq, List.cons.injEq, and_true, V.tl.injEq, true_and] at h0
            obtain ⟨⟨ys', y⟩, h1, rfl, h2, h3⟩ := h0
            have h2 := eq_of_heq h2
            subst h2
            subst h3
            exact h _ _ _ x _ _ hx h1
      · exact hS.bor g' st t0 xs ds st' ys d h0
    · rw [e2 g' hg] at h0; exact hS.bor g' st t0 xs ds st' ys d h0

theorem WkV.pp {xs ys : List V} (h : WkVs xs ys) : WkV (.pp xs) (.pp ys) := by
  intro w F v hr
  cases hr with
  | pp b off cs g hF hg hr0 =>
    refine .pp b off ys g hF (fun m hm => hg m (by rw [h.len]; exact hm)) ?_
    intro m d hd
    have hlt : m < xs.length := by rw [h.len]; exact (List.getElem?_eq_some_iff.1 hd).1
    exact h.get m xs[m] d (by simp [hlt]) hd w F _ (hr0 m xs[m] (by simp [hlt]))

theorem WkV.clo {f : FuncId} {xs ys : List V} (h : WkVs xs ys) : WkV (.clo f xs) (.clo f ys) := by
  intro w F v hr
  cases hr with
  | clo _ cs ds hl h0 =>
    refine .clo f cs ys (hl.trans h.len) ?_
    intro i x d hi hd
    have hlt : i < xs.length := by rw [h.len]; exact (List.getElem?_eq_some_iff.1 hd).1
    exact h.get i xs[i] d (by simp [hlt]) hd w F x (h0 i x xs[i] hi (by simp [hlt]))

theorem decPP_sound {t : Ty} {d : V} {x : t.El} (h : decPP t d = some x) : WkV d (.pp (t.cells x)) := by
  unfold decPP at h
  split at h
  · rename_i cs
    split at h
    · rename_i y hy
      simp only [Option.some.injEq] at h
      subst h
      obtain ⟨c1, h1, h2⟩ := uncells_sound t cs y [] hy
      simp only [List.append_nil] at h1
      subst h1
      exact WkV.pp h2
    · cases h
  · cases h

theorem decCap_sound : ∀ (l : List (Bool × Ty)) (ds : List V) (x : CapS l), decCap l ds = some x → WkVs ds (encCap l x)
  | [], [], _, _ => trivial
  | [], _ :: _, _, h => by simp [decCap] at h
  | _ :: _, [], _, h => by simp [decCap] at h
  | (b, t) :: r, d :: ds, x, h => by
    simp only [decCap] at h
    split at h
    · split at h
      · rename_i y hy
        split at h
        · rename_i ys hys
          simp only [Option.some.injEq] at h
          subst h
          exact ⟨decPP_sound hy, decCap_sound r ds ys hys⟩
        · cases h
      · cases h
    · split at h
      · rename_i y hy
        split at h
        · rename_i ys hys
          simp only [Option.some.injEq] at h
          subst h
          exact ⟨dec_sound hy, decCap_sound r ds ys hys⟩
        · cases h
      · cases h

theorem decA_sound : ∀ (ts : List ATy) (ds : List V) (x : ElA ts), decA ts ds = some x → WkVs ds (encA ts x)
  | [], [], _, _ => trivial
  | [], _ :: _, _, h => by simp [decA] at h
  | _ :: _, [], _, h => by simp [decA] at h
  | t :: ts, d :: ds, x, h => by
    simp only [decA] at h
    split at h
    · rename_i y hy
      split at h
      · rename_i ys hys
        simp only [Option.some.injEq] at h
        subst h
        refine ⟨?_, decA_sound ts ds ys hys⟩
        cases t with
        | d ty => exact dec_sound (t := ty) (x := y) hy
        | pp ty => exact decPP_sound (t := ty) (x := y) hy
        | clo f caps =>
          cases d with
          | clo g ds0 =>
            simp only [ATy.dec] at hy
            split at hy
            · rename_i hb
              have hb := Nat.eq_of_beq_eq_true hb
              subst hb
              exact WkV.clo (decCap_sound _ _ _ hy)
            · cases hy
          | _ => simp [ATy.dec] at hy
      · cases h
    · cases h

theorem fnOk_exG [hsub : Subsingleton Γ.St] {S : SpecsX Γ} {A : Nat → Option JA} (hmix : P.follows .mixedOrders = true) (hS : Table Γ P G S.toS) {f : FuncId} {fn : Func} {c : Code} (hf : P.funcs[f]? = some fn) (hb : fn.body = some c)
    {X : Type} {dec : List V → Option X} {enc : X → List V} (hdec : ∀ ds x, dec ds = some x → WkVs ds (enc x)) {R : RTy} {g : X → Option R.El} (h : ∀ s x, exF (Γ := Γ) P G S A fn c R s (enc x) = g x) : FnOk Γ P G f (callS (specG dec R g)) := by
  intro w F O s args ds s' r hsig hG hF hlen hrd hspec
  simp only [callS, specG] at hspec
  split at hspec
  · rename_i cx hcx
    split at hcx
    · rename_i x hx
      simp only [Option.some.injEq] at hcx
      subst hcx
      simp only [Option.map_eq_some_iff] at hspec
      obtain ⟨y, hy, hsr⟩ := hspec
      simp only [Prod.mk.injEq] at hsr
      obtain ⟨rfl, rfl⟩ := hsr
      have hwk := hdec ds x hx
      have hlen' : args.size = (enc x).length := hlen.trans hwk.len
      have hrd' : ∀ (i : Nat) (u : Value) (d : V), args[i]? = some u → (enc x)[i]? = some d → Rd w F u d := by
        intro i u d hu hd
        have hlt : i < ds.length := by rw [hwk.len]; exact (List.getElem?_eq_some_iff.1 hd).1
        exact hwk.get i ds[i] d (by simp [hlt]) hd w F u (hrd i u ds[i] hu (by simp [hlt]))
      have hex := h s x
      rw [hy] at hex
      unfold exF at hex
      rw [kEnv_eq] at hex
      obtain ⟨k, e', d, hok, _, hend⟩ := exC_sound (fun _ _ _ => .inl hsub) hmix hS c _ _ _ _ _ hex
      have hk : (k = .normal ∨ k = .ret) ∧ (match evRet (Look.of P) e' fn with
        | some r => R.get r
        | none => none) = some y := by
        cases k with
        | normal => exact ⟨.inl rfl, hend⟩
        | ret => exact ⟨.inr rfl, hend⟩
        | exit id => cases hend
      obtain ⟨hk, hend⟩ := hk
      split at hend
      · rename_i r' hr'
        refine calls_of_wp hf hb ?_
        have hget : ∀ t, TRel w F ⟨fun _ => 0, fun _ => 0⟩ (fun _ => False) ((args ++ Array.replicate (fn.ntmps - args.size) undef).getD t undef) ((start fn.ntmps s (enc x)).get t) := by
          intro t
          simp only [start, startTm, Env.get, List.getD_eq_getElem?_getD, Array.getD_eq_getD_getElem?]
          by_cases ht : t < (enc x).length
          · rw [List.getElem?_append_left (by simpa using ht), Array.getElem?_append_left (by omega)]
            rw [List.getElem?_map, List.getElem?_eq_getElem ht, Array.getElem?_eq_getElem (by omega)]
            exact hrd' t _ _ (by simp [show t < args.size by omega]) (by simp [ht])
          · rw [List.getElem?_append_right (by simpa using Nat.le_of_not_lt ht), Array.getElem?_append_right (by omega), hlen']
            simp only [List.length_map]
            by_cases h2 : t - (enc x).length < fn.ntmps - (enc x).length
            · rw [List.getElem?_replicate, if_pos h2, Array.getElem?_replicate, if_pos h2]
              exact Rd.val _
            · rw [List.getElem?_replicate, if_neg h2]
              trivial
        have hnovar : ∀ s0, (start fn.ntmps s (enc x)).var s0 = none := by
          intro s0
          simp only [start, Env.var, List.getElem?_replicate]
          split <;> rfl
        have hinv : Inv Γ G w F O { tmps := args ++ Array.replicate (fn.ntmps - args.size) undef, defers := [] } w (start fn.ntmps s (enc x)) := by
          refine Inv.of (F := F) (O := O) (β := ⟨fun _ => 0, fun _ => 0⟩) (al := fun _ => False) ⟨Keep.refl _ w, hsig, fun b hb => .inl hb, fun b hb => ⟨.inl hb, hF b hb⟩, fun b hb => hb, fun x hx => hx.elim, fun x y hx => hx.elim, fun b n h => by cases h⟩ hG ?_ rfl hget ?_ (fun s h => h.elim)
          · simp [start, startTm, hlen']
          · intro s0 cs hcs; rw [hnovar] at hcs; cases hcs
        refine wp_mono (hok w F O _ w hinv) ?_
        rintro ex a' w' ⟨rfl, hi'⟩
        obtain ⟨v, F', O', h1, h2, h3, h4, h5, h6, h7⟩ := evRet_sim rfl hi' hr'
        have hdf : a'.defers = [] := by obtain ⟨_, _, _, _, _, _, hdf, _⟩ := hi'; exact hdf
        rw [Subsingleton.elim e'.st s] at h2
        obtain ⟨F'', g1, gh, g2, g3⟩ := RTy.get_sound hend h7
        have h2 := Γ.mono h2 gh (fun _ _ => rfl)
        have hF'' : ∀ b : Nat, F'' b → (F b ∨ w.heap.size ≤ b) ∧ b < w'.heap.size ∧ ¬ O' b := by
          intro b hb
          rcases g2 b hb with hb | ⟨h1, h2, h3⟩
          · exact h6 b hb
          · exact ⟨.inr h1, h2, h3⟩
        rcases hk with rfl | rfl
        · exact ⟨hdf, v, h1, v, F'', O', rfl, h2, h3, h4, fun b hb => g1 b (h5 b hb), hF'', g3⟩
        · exact ⟨hdf, v, h1, v, F'', O', rfl, h2, h3, h4, fun b hb => g1 b (h5 b hb), hF'', g3⟩
      · cases hend
    · cases hcx
  · cases hspec

theorem fnOk_exF [hsub : Subsingleton Γ.St] {S : SpecsX Γ} {A : Nat → Option JA} (hmix : P.follows .mixedOrders = true) (hS : Table Γ P G S.toS) {f : FuncId} {fn : Func} {c : Code} (hf : P.funcs[f]? = some fn) (hb : fn.body = some c)
    {ts : List Ty} {R : RTy} {g : ElS ts → Option R.El} (h : ∀ s x, exF (Γ := Γ) P G S A fn c R s (encS ts x) = g x) : FnOk Γ P G f (callS (specX ts R g)) := by
  have := fnOk_exG hmix hS hf hb (decS_sound ts) h
  exact this

theorem fnOk_exA [hsub : Subsingleton Γ.St] {S : SpecsX Γ} {A : Nat → Option JA} (hmix : P.follows .mixedOrders = true) (hS : Table Γ P G S.toS) {f : FuncId} {fn : Func} {c : Code} (hf : P.funcs[f]? = some fn) (hb : fn.body = some c)
    {ts : List ATy} {R : RTy} {g : ElA ts → Option R.El} (h : ∀ s x, exF (Γ := Γ) P G S A fn c R s (encA ts x) = g x) : FnOk Γ P G f (callS (specA ts R g)) :=
  fnOk_exG hmix hS hf hb (decA_sound ts) h
end
end Go.Ve

namespace Go.Ve
open Go

/-- There is a value, and it is so. -/
def Wp {α : Type} (m : Option α) (Q : α → Prop) : Prop := ∃ r, m = some r ∧ Q r

section
variable {α β ρ σ : Type}

theorem Wp.mono {m : Option α} {Q Q' : α → Prop} (h : Wp m Q) (hq : ∀ r, Q r → Q' r) : Wp m Q' := by
  obtain ⟨r, h1, h2⟩ := h; exact ⟨r, h1, hq r h2⟩

theorem wp_some {x : α} {Q : α → Prop} (h : Q x) : Wp (some x) Q := ⟨x, rfl, h⟩

theorem wp_bind {m : Option α} {f : α → Option β} {Q : β → Prop} (h : Wp m (fun y => Wp (f y) Q)) : Wp (Option.bind m f) Q := by
  obtain ⟨y, rfl, h⟩ := h; exact h

/-- A bind of which only the second part matters. -/
theorem wp_bindT {m : Option α} {f : α → Option β} {Q : β → Prop} (h : Wp m (fun _ => True)) (k : ∀ y, m = some y → Wp (f y) Q) : Wp (Option.bind m f) Q := by
  obtain ⟨y, rfl, _⟩ := h; exact k y rfl

theorem wp_bif {c : Bool} {x y : Option α} {Q : α → Prop} (h1 : c = true → Wp x Q) (h2 : c = false → Wp y Q) : Wp (bif c then x else y) Q := by
  cases c
  · exact h2 rfl
  · exact h1 rfl

theorem wp_map {m : Option α} {f : α → β} {Q : β → Prop} (h : Wp m (fun y => Q (f y))) : Wp (Option.map f m) Q := by
  obtain ⟨y, rfl, h⟩ := h; exact ⟨_, rfl, h⟩

/-- What is asked of either end. -/
def Either2 (P : σ → Prop) (Q : ρ → Prop) : σ ⊕ ρ → Prop
  | .inl s => P s
  | .inr r => Q r

theorem e2l {P : σ → Prop} {Q : ρ → Prop} {s : σ} (h : P s) : Either2 P Q (.inl s) := h
theorem e2r {P : σ → Prop} {Q : ρ → Prop} {r : ρ} (h : Q r) : Either2 P Q (.inr r) := h

theorem wp_cut2 {m : Option (σ ⊕ ρ)} {K : σ → Option ρ} {Q : ρ → Prop} (h : Wp m (Either2 (fun s => Wp (K s) Q) Q)) : Wp (cut2 m K) Q := by
  obtain ⟨o, rfl, h⟩ := h
  cases o with
  | inl s => exact h
  | inr r => exact ⟨r, rfl, h⟩

theorem wp_loop {f : σ → Option (σ ⊕ ρ)} {Q : ρ → Prop} (J : σ → Prop) (m : σ → Nat) {s0 : σ} (h0 : J s0)
    (step : ∀ s, J s → Wp (f s) (Either2 (fun s' => J s' ∧ m s' < m s) Q)) : Wp (loopX f s0) Q := by
  refine loopX_inv J m Q ?_ h0
  intro s hs
  obtain ⟨o, h1, h2⟩ := step s hs
  refine ⟨o, h1, ?_⟩
  cases o with
  | inl s' => exact h2
  | inr r => exact h2

/-- A loop that counts. -/
theorem wp_for {n s0 : Int} {body els : Int → Option (Int ⊕ ρ)} {Q : ρ → Prop}
    (step : ∀ s, s0 ≤ s → s < n → Wp (body s) (Either2 (fun s' => s' = s + 1) Q))
    (fin : ∀ s, s0 ≤ s → n ≤ s → Wp (els s) (Either2 (fun _ => False) Q)) : Wp (loopX (fun s => bif decide (s < n) then body s else els s) s0) Q := by
  refine wp_loop (fun s => s0 ≤ s) (fun s => (n - s).toNat) (Int.le_refl _) ?_
  intro s hs
  refine wp_bif ?_ ?_
  · intro hc
    have hc : s < n := by simpa using hc
    refine (step s hs hc).mono ?_
    intro o ho
    cases o with
    | inl s' => have : s' = s + 1 := ho; subst this; exact ⟨by omega, by omega⟩
    | inr r => exact ho
  · intro hc
    have hc : n ≤ s := by simpa using hc
    refine (fin s hs hc).mono ?_
    intro o ho
    cases o with
    | inl s' => exact ho.elim
    | inr r => exact ho

/-- One that counts and carries something of which an invariant holds. -/
theorem wp_for2 {γ : Type} {n s0 : Int} {g0 : γ} {body els : Int × γ → Option ((Int × γ) ⊕ ρ)} {Q : ρ → Prop} (J : Int → γ → Prop) (h0 : J s0 g0)
    (step : ∀ s g, s0 ≤ s → s < n → J s g → Wp (body (s, g)) (Either2 (fun o => o.1 = s + 1 ∧ J (s + 1) o.2) Q))
    (fin : ∀ s g, s0 ≤ s → n ≤ s → J s g → Wp (els (s, g)) (Either2 (fun _ => False) Q)) : Wp (loopX (fun o => bif decide (o.fst < n) then body o else els o) (s0, g0)) Q := by
  refine wp_loop (fun o => s0 ≤ o.1 ∧ J o.1 o.2) (fun o => (n - o.1).toNat) ⟨Int.le_refl _, h0⟩ ?_
  rintro ⟨s, g⟩ ⟨hs, hj⟩
  refine wp_bif ?_ ?_
  · intro hc
    have hc : s < n := by simpa using hc
    refine (step s g hs hc hj).mono ?_
    intro o ho
    cases o with
    | inl s' => obtain ⟨s1, g1⟩ := s'; obtain ⟨h1, h2⟩ := ho; simp only at h1 h2; subst h1; exact ⟨⟨by omega, h2⟩, by simp only; omega⟩
    | inr r => exact ho
  · intro hc
    have hc : n ≤ s := by simpa using hc
    refine (fin s g hs hc hj).mono ?_
    intro o ho
    cases o with
    | inl s' => exact ho.elim
    | inr r => exact ho

theorem wp_idx {xs : List α} {i : Int} {Q : α → Prop} (h0 : 0 ≤ i) (h1 : i < xs.length) (h : ∀ y, y ∈ xs → xs[i.toNat]? = some y → Q y) : Wp (idx xs i) Q := by
  unfold idx
  rw [if_pos h0]
  have hl : i.toNat < xs.length := by omega
  exact ⟨xs[i.toNat], by simp [hl], h _ (List.getElem_mem hl) (by simp [hl])⟩

theorem wp_byteAt {s : ByteArray} {i : Int} {Q : Int → Prop} (h0 : 0 ≤ i) (h1 : i < s.size) (h : ∀ y, 0 ≤ y → y < 256 → Q y) : Wp (byteAt s i) Q := by
  unfold byteAt
  rw [if_pos h0]
  have hl : i.toNat < s.size := by omega
  refine ⟨(s[i.toNat].toNat : Int), by simp [hl], h _ (by omega) ?_⟩
  have := s[i.toNat].toNat_lt
  omega

theorem wp_app {bytes : Nat} {xs ys : List α} {Q : List α → Prop} (h0 : (2 * (xs.length + ys.length) + 1024) * bytes ≤ 140737488355328) (h : Q (xs ++ ys)) : Wp (app bytes xs ys) Q := by
  unfold app
  rw [if_pos h0]
  exact ⟨_, rfl, h⟩

theorem wp_true {m : Option α} {Q : α → Prop} (h : Wp m (fun _ => True)) (hq : ∀ r, m = some r → Q r) : Wp m Q := by
  obtain ⟨r, h1, _⟩ := h; exact ⟨r, h1, hq r h1⟩

theorem wp_call {m : Option α} {P Q : α → Prop} (h : Wp m P) (hq : ∀ r, m = some r → P r → Q r) : Wp m Q := by
  obtain ⟨r, h1, h2⟩ := h; exact ⟨r, h1, hq r h1 h2⟩
end

theorem wrap_i64 {x : Int} (h0 : -9223372036854775808 ≤ x) (h1 : x < 9223372036854775808) : IntKind.wrap .i64 x = x := by
  have e1 : ((2 : Int) ^ IntKind.bits .i64) = 18446744073709551616 := by decide
  have e2 : ((2 : Int) ^ (IntKind.bits .i64 - 1)) = 9223372036854775808 := by decide
  simp only [IntKind.wrap, IntKind.signed, Bool.true_and, decide_eq_true_eq, e1, e2]
  split <;> omega

theorem wrap_u64 {x : Int} (h0 : 0 ≤ x) (h1 : x < 18446744073709551616) : IntKind.wrap .u64 x = x := by
  have e1 : ((2 : Int) ^ IntKind.bits .u64) = 18446744073709551616 := by decide
  simp only [IntKind.wrap, IntKind.signed, Bool.false_and, Bool.false_eq_true, if_false, e1]
  omega

theorem wp_bifd {α : Type} {p : Prop} [Decidable p] {x y : Option α} {Q : α → Prop} (h1 : p → Wp x Q) (h2 : ¬ p → Wp y Q) : Wp (bif decide p then x else y) Q := by
  by_cases h : p
  · simp only [h, decide_true, cond_true]; exact h1 h
  · simp only [h, decide_false, cond_false]; exact h2 h

theorem wp_bifn {α : Type} {p : Prop} [Decidable p] {x y : Option α} {Q : α → Prop} (h1 : ¬ p → Wp x Q) (h2 : p → Wp y Q) : Wp (bif !decide p then x else y) Q := by
  by_cases h : p
  · simp only [h, decide_true, Bool.not_true, cond_false]; exact h2 h
  · simp only [h, decide_false, Bool.not_false, cond_true]; exact h1 h
end Go.Ve

namespace Go.Ve
open Go

theorem idx_nat {α : Type} {xs : List α} {i : Nat} {x : α} (h : xs[i]? = some x) : idx xs (i : Int) = some x := by
  rw [idx, if_pos (by omega), Int.toNat_natCast]; exact h

theorem idx_int {α : Type} {xs : List α} {i : Int} {x : α} (h0 : 0 ≤ i) (h : xs[i.toNat]? = some x) : idx xs i = some x := by
  rw [idx, if_pos h0]; exact h

theorem wp_eq {α : Type} {m : Option α} {x : α} {Q : α → Prop} (h : m = some x) (hq : Q x) : Wp m Q := ⟨x, h, hq⟩

section
variable {α γ ρ : Type}

/-- A loop over a list that carries something. -/
theorem wp_fold {xs : List α} {g0 : γ} {body : Int × γ → Option γ} {Q : γ → Prop} (hl : xs.length < 4611686018427387904) (J : Nat → γ → Prop) (h0 : J 0 g0)
    (step : ∀ i x g, xs[i]? = some x → J i g → Wp (body ((i : Int), g)) (J (i + 1))) (fin : ∀ g, J xs.length g → Q g) :
    Wp (loopX (fun s : Int × γ => bif decide (s.fst < (xs.length : Int)) then Option.bind (body s) (fun g => some (Sum.inl (IntKind.wrap IntKind.i64 (s.fst + (1 : Int)), g))) else some (Sum.inr s.snd)) ((0 : Int), g0)) Q := by
  refine wp_loop (fun (s : Int × γ) => ∃ i : Nat, s.1 = (i : Int) ∧ i ≤ xs.length ∧ J i s.2) (fun (s : Int × γ) => ((xs.length : Int) - s.1).toNat) ⟨(0 : Nat), rfl, Nat.zero_le _, h0⟩ ?_
  rintro ⟨s, g⟩ ⟨i, hi, hle, hj⟩
  simp only at hi
  subst hi
  refine wp_bifd ?_ ?_
  · intro hc
    have hlt : i < xs.length := by simp only at hc; omega
    refine wp_bind ((step i xs[i] g (by simp [hlt]) hj).mono ?_)
    intro g' hg'
    refine wp_some ?_
    refine e2l ⟨⟨i + 1, ?_, hlt, hg'⟩, ?_⟩
    · simp only; rw [wrap_i64 (by omega) (by omega)]; omega
    · simp only; rw [wrap_i64 (by omega) (by omega)]; omega
  · intro hc
    have : i = xs.length := by simp only at hc; omega
    subst this
    exact wp_some (e2r (fin _ hj))

/-- A loop that counts up to a number that what it carries determines. -/
theorem wp_foldN {n : Nat} {c : Int × γ → Int} {g0 : γ} {body : Int × γ → Option γ} {Q : γ → Prop} (hl : n < 4611686018427387904) (J : Nat → γ → Prop) (h0 : J 0 g0) (hc : ∀ i g, J i g → c ((i : Int), g) = n)
    (step : ∀ i g, i < n → J i g → Wp (body ((i : Int), g)) (J (i + 1))) (fin : ∀ g, J n g → Q g) :
    Wp (loopX (fun s : Int × γ => bif decide (s.fst < c s) then Option.bind (body s) (fun g => some (Sum.inl (IntKind.wrap IntKind.i64 (s.fst + (1 : Int)), g))) else some (Sum.inr s.snd)) ((0 : Int), g0)) Q := by
  refine wp_loop (fun (s : Int × γ) => ∃ i : Nat, s.1 = (i : Int) ∧ i ≤ n ∧ J i s.2) (fun (s : Int × γ) => ((n : Int) - s.1).toNat) ⟨(0 : Nat), rfl, Nat.zero_le _, h0⟩ ?_
  rintro ⟨s, g⟩ ⟨i, hi, hle, hj⟩
  simp only at hi
  subst hi
  have hci := hc i g hj
  refine wp_bifd ?_ ?_
  · intro hc'
    simp only [hci] at hc'
    have hlt : i < n := by omega
    refine wp_bind ((step i g hlt hj).mono ?_)
    intro g' hg'
    refine wp_some ?_
    refine e2l ⟨⟨i + 1, ?_, hlt, hg'⟩, ?_⟩
    · simp only; rw [wrap_i64 (by omega) (by omega)]; omega
    · simp only; rw [wrap_i64 (by omega) (by omega)]; omega
  · intro hc'
    simp only [hci] at hc'
    have : i = n := by omega
    subst this
    exact wp_some (e2r (fin _ hj))

/-- A loop over a list that looks for something. -/
theorem wp_find {xs : List α} {body : Int → Option (Int ⊕ (Unit ⊕ ρ))} {K : Unit → Option ρ} {Q : ρ → Prop} (hl : xs.length < 4611686018427387904) (J : Nat → Prop) (h0 : J 0)
    (step : ∀ i x, xs[i]? = some x → J i → Wp (body (i : Int)) (Either2 (fun s' => s' = IntKind.wrap IntKind.i64 ((i : Int) + 1) ∧ J (i + 1)) (Either2 (fun _ => False) Q))) (fin : J xs.length → Wp (K ()) Q) :
    Wp (cut2 (loopX (fun s : Int => bif decide (s < (xs.length : Int)) then body s else some (Sum.inr (Sum.inl ()))) (0 : Int)) K) Q := by
  refine wp_cut2 ?_
  refine wp_loop (fun (s : Int) => ∃ i : Nat, s = (i : Int) ∧ i ≤ xs.length ∧ J i) (fun (s : Int) => ((xs.length : Int) - s).toNat) ⟨(0 : Nat), rfl, Nat.zero_le _, h0⟩ ?_
  rintro s ⟨i, hi, hle, hj⟩
  subst hi
  refine wp_bifd ?_ ?_
  · intro hc
    have hlt : i < xs.length := by omega
    refine (step i xs[i] (by simp [hlt]) hj).mono ?_
    intro o ho
    cases o with
    | inl s' =>
      obtain ⟨rfl, h2⟩ := ho
      rw [wrap_i64 (by omega) (by omega)]
      exact ⟨⟨i + 1, by omega, hlt, h2⟩, by omega⟩
    | inr o =>
      cases o with
      | inl _ => exact ho.elim
      | inr r => exact ho
  · intro hc
    have : i = xs.length := by omega
    subst this
    exact wp_some (e2r (fin hj))
end

/-- The first index at which something holds, or -1. -/
def fidx {α : Type} (p : α → Bool) (xs : List α) : Int :=
  match xs.findIdx? p with
  | some i => i
  | none => -1

theorem fidx_none {α : Type} {p : α → Bool} {xs : List α} (h : ∀ x, x ∈ xs → p x = false) : fidx p xs = -1 := by
  have : xs.findIdx? p = none := by rw [List.findIdx?_eq_none_iff]; exact h
  simp [fidx, this]

theorem fidx_at {α : Type} {p : α → Bool} {xs : List α} {i : Nat} {x : α} (h : xs[i]? = some x) (hp : p x = true) (hn : ∀ j y, j < i → xs[j]? = some y → p y = false) : fidx p xs = i := by
  have hlt := (List.getElem?_eq_some_iff.1 h).1
  have hx := (List.getElem?_eq_some_iff.1 h).2
  have : xs.findIdx? p = some i := by
    rw [List.findIdx?_eq_some_iff_getElem]
    refine ⟨hlt, by rw [hx]; exact hp, ?_⟩
    intro j hj
    have := hn j xs[j] hj (by simp)
    simp [this]
  simp [fidx, this]

theorem fidx_cases {α : Type} (p : α → Bool) (xs : List α) : (fidx p xs = -1 ∧ ∀ x, x ∈ xs → p x = false) ∨ ∃ i x, fidx p xs = (i : Nat) ∧ xs[i]? = some x ∧ p x = true ∧ ∀ j y, j < i → xs[j]? = some y → p y = false := by
  cases h : xs.findIdx? p with
  | none => left; refine ⟨by simp [fidx, h], ?_⟩; rw [List.findIdx?_eq_none_iff] at h; exact h
  | some i =>
    right
    rw [List.findIdx?_eq_some_iff_getElem] at h
    obtain ⟨h1, h2, h3⟩ := h
    have h' : xs.findIdx? p = some i := by rw [List.findIdx?_eq_some_iff_getElem]; exact ⟨h1, h2, h3⟩
    refine ⟨i, xs[i], by simp [fidx, h'], by simp [h1], h2, ?_⟩
    intro j y hj hy
    obtain ⟨hjl, rfl⟩ := List.getElem?_eq_some_iff.1 hy
    have := h3 j hj
    simpa using this

/-- A loop that looks for the first index at which something holds. -/
theorem wp_fidx {α : Type} {xs : List α} {p : α → Bool} {body : Int → Option (Int ⊕ (Unit ⊕ Int))} {Q : Int → Prop} (hl : xs.length < 4611686018427387904)
    (step : ∀ (i : Nat) x, xs[i]? = some x → body (i : Int) = some (bif p x then Sum.inr (Sum.inr (i : Int)) else Sum.inl (IntKind.wrap IntKind.i64 ((i : Int) + 1)))) (fin : Q (fidx p xs)) :
    Wp (cut2 (loopX (fun s : Int => bif decide (s < (xs.length : Int)) then body s else some (Sum.inr (Sum.inl ()))) (0 : Int)) (fun _ => some (-1 : Int))) Q := by
  refine wp_find hl (fun i => ∀ j y, j < i → xs[j]? = some y → p y = false) (fun j y hj => by omega) ?_ ?_
  · intro i x hx hj
    refine wp_eq (step i x hx) ?_
    cases hp : p x with
    | true =>
      simp only [cond_true]
      refine e2r (e2r ?_)
      rw [fidx_at hx hp hj] at fin
      exact fin
    | false =>
      simp only [cond_false]
      refine e2l ⟨rfl, ?_⟩
      intro j y hji hy
      rcases Nat.lt_or_ge j i with h | h
      · exact hj j y h hy
      · have : j = i := by omega
        subst this
        rw [hx] at hy
        cases hy
        exact hp
  · intro hj
    refine wp_some ?_
    rw [fidx_none] at fin
    · exact fin
    · intro x hx
      obtain ⟨j, hjl, rfl⟩ := List.getElem_of_mem hx
      exact hj j _ hjl (by simp [hjl])
end Go.Ve

namespace Go.Ve
open Go

section
variable {α ρ : Type}

/-- A loop over a list that may end early, whose end is looked at elsewhere. -/
theorem wp_findL {xs : List α} {body : Int → Option (Int ⊕ (Unit ⊕ ρ))} {Q : Unit ⊕ ρ → Prop} (hl : xs.length < 4611686018427387904) (J : Nat → Prop) (h0 : J 0)
    (step : ∀ i x, xs[i]? = some x → J i → Wp (body (i : Int)) (Either2 (fun s' => s' = IntKind.wrap IntKind.i64 ((i : Int) + 1) ∧ J (i + 1)) (fun o => (∀ u, o ≠ Sum.inl u) ∧ Q o))) (fin : J xs.length → Q (Sum.inl ())) :
    Wp (loopX (fun s : Int => bif decide (s < (xs.length : Int)) then body s else some (Sum.inr (Sum.inl ()))) (0 : Int)) Q := by
  refine wp_loop (fun (s : Int) => ∃ i : Nat, s = (i : Int) ∧ i ≤ xs.length ∧ J i) (fun (s : Int) => ((xs.length : Int) - s).toNat) ⟨(0 : Nat), rfl, Nat.zero_le _, h0⟩ ?_
  rintro s ⟨i, hi, hle, hj⟩
  subst hi
  refine wp_bifd ?_ ?_
  · intro hc
    have hlt : i < xs.length := by omega
    refine (step i xs[i] (by simp [hlt]) hj).mono ?_
    intro o ho
    cases o with
    | inl s' =>
      obtain ⟨rfl, h2⟩ := ho
      rw [wrap_i64 (by omega) (by omega)]
      exact ⟨⟨i + 1, by omega, hlt, h2⟩, by omega⟩
    | inr o => exact ho.2
  · intro hc
    have : i = xs.length := by omega
    subst this
    exact wp_some (e2r (fin hj))

theorem wp_allL {xs : List α} {P : α → Prop} {body : Int → Option (Int ⊕ (Unit ⊕ ρ))} {Q : Unit ⊕ ρ → Prop} (hl : xs.length < 4611686018427387904)
    (step : ∀ (i : Nat) x, xs[i]? = some x → Wp (body (i : Int)) (Either2 (fun s' => s' = IntKind.wrap IntKind.i64 ((i : Int) + 1) ∧ P x) (fun o => (∀ u, o ≠ Sum.inl u) ∧ Q o))) (fin : (∀ x, x ∈ xs → P x) → Q (Sum.inl ())) :
    Wp (loopX (fun s : Int => bif decide (s < (xs.length : Int)) then body s else some (Sum.inr (Sum.inl ()))) (0 : Int)) Q := by
  refine wp_findL hl (fun i => ∀ j y, j < i → xs[j]? = some y → P y) (fun j y hj => by omega) ?_ (fun h => fin ?_)
  · intro i x hx hj
    refine (step i x hx).mono ?_
    intro o ho
    cases o with
    | inl s' =>
      refine ⟨ho.1, ?_⟩
      intro j y hj' hy
      rcases Nat.lt_or_ge j i with h' | h'
      · exact hj j y h' hy
      · have : j = i := by omega
        subst this
        rw [hx] at hy
        cases hy
        exact ho.2
    | inr o => exact ho
  · intro x hx
    obtain ⟨j, hjl, rfl⟩ := List.getElem_of_mem hx
    exact h j _ hjl (by simp [hjl])

/-- Whether something is among a list: the loop that looks through all of it. -/
theorem wp_any {xs : List α} {body : Int × Bool → Option Bool} {Q : Bool → Prop} {p : α → Prop} (hl : xs.length < 4611686018427387904)
    (step : ∀ (i : Nat) x, xs[i]? = some x → body ((i : Int), true) = some true ∧ Wp (body ((i : Int), false)) (fun b => b = true ↔ p x)) (fin : ∀ b : Bool, (b = true ↔ ∃ x, x ∈ xs ∧ p x) → Q b) :
    Wp (loopX (fun s : Int × Bool => bif decide (s.fst < (xs.length : Int)) then Option.bind (body s) (fun g => some (Sum.inl (IntKind.wrap IntKind.i64 (s.fst + (1 : Int)), g))) else some (Sum.inr s.snd)) ((0 : Int), false)) Q := by
  refine wp_fold hl (fun i b => b = true ↔ ∃ x, x ∈ xs.take i ∧ p x) (by simp) ?_ (fun b hb => fin b (by rw [List.take_length] at hb; exact hb))
  intro i x b hx hb
  obtain ⟨h1, h2⟩ := step i x hx
  have hm : ∀ y, y ∈ xs.take (i + 1) ↔ y ∈ xs.take i ∨ y = x := by
    intro y
    rw [List.take_add_one, hx, Option.toList_some, List.mem_append, List.mem_singleton]
  cases b with
  | true =>
    obtain ⟨y, hy, hp⟩ := hb.1 rfl
    refine wp_eq h1 ⟨fun _ => ⟨y, (hm y).2 (.inl hy), hp⟩, fun _ => rfl⟩
  | false =>
    refine h2.mono (fun c hc => hc.trans ⟨fun hp => ⟨x, (hm x).2 (.inr rfl), hp⟩, ?_⟩)
    rintro ⟨y, hy, hp⟩
    rcases (hm y).1 hy with hy | rfl
    · exact absurd (hb.2 ⟨y, hy, hp⟩) (by simp)
    · exact hp
end
end Go.Ve

namespace Go.Ve
open Go

section
variable {α : Type} {lt : α → α → Prop}

/-- A strict order of which 'not less' is transitive. -/
structure Ord (lt : α → α → Prop) : Prop where
  asym : ∀ x y, lt x y → ¬ lt y x
  tr : ∀ x y z, ¬ lt y x → ¬ lt z y → ¬ lt z x

/-- Sorted up to i, but for the element at j. -/
def SortEx (lt : α → α → Prop) (i j : Nat) (xs : List α) : Prop := ∀ p q x y, p < q → q ≤ i → q ≠ j → xs[p]? = some x → xs[q]? = some y → ¬ lt y x

/-- The first i are sorted. -/
def SortTo (lt : α → α → Prop) (i : Nat) (xs : List α) : Prop := ∀ p q x y, p < q → q < i → xs[p]? = some x → xs[q]? = some y → ¬ lt y x

theorem sort_start {i : Nat} {xs : List α} (h : SortTo lt i xs) : SortEx lt i i xs := fun p q x y h1 h2 h3 hx hy => h p q x y h1 (by omega) hx hy

theorem sort_stop (ho : Ord lt) {i j : Nat} {xs : List α} (h : SortEx lt i j xs) (hj : j ≤ i) (he : j = 0 ∨ ∀ x y, xs[j]? = some x → xs[j - 1]? = some y → ¬ lt x y) : SortTo lt (i + 1) xs := by
  intro p q x y hpq hq hx hy
  by_cases hqj : q = j
  · subst hqj
    rcases he with he | he
    · omega
    · by_cases hp : p = q - 1
      · subst hp
        exact he y x hy hx
      · have hl := (List.getElem?_eq_some_iff.1 hy).1
        have hz : xs[q - 1]? = some (xs[q - 1]'(by omega)) := by simp
        exact ho.tr _ _ _ (h p (q - 1) x _ (by omega) (by omega) (by omega) hx hz) (he y _ hy hz)
  · exact h p q x y hpq (by omega) hqj hx hy

theorem sort_swap (ho : Ord lt) {i j : Nat} {xs : List α} (h : SortEx lt i j xs) (hj : 0 < j) (hji : j ≤ i) (hi : i < xs.length) (hlt : lt (xs[j]'(by omega)) (xs[j - 1]'(by omega))) :
    SortEx lt i (j - 1) ((xs.set j (xs[j - 1]'(by omega))).set (j - 1) (xs[j]'(by omega))) := by
  have hjl : j < xs.length := by omega
  have a1 : xs[j]? = some xs[j] := by simp
  have a2 : xs[j - 1]? = some (xs[j - 1]'(by omega)) := by simp
  have at' : ∀ m z, ((xs.set j (xs[j - 1]'(by omega))).set (j - 1) (xs[j]'(by omega)))[m]? = some z → (m = j - 1 ∧ z = xs[j]) ∨ (m = j ∧ z = xs[j - 1]'(by omega)) ∨ (m ≠ j ∧ m ≠ j - 1 ∧ xs[m]? = some z) := by
    intro m z hm
    rw [List.getElem?_set] at hm
    split at hm
    · split at hm
      · simp only [Option.some.injEq] at hm
        exact .inl ⟨by omega, hm.symm⟩
      · cases hm
    · rw [List.getElem?_set] at hm
      split at hm
      · have hm : some (xs[j - 1]'(by omega)) = some z := by simpa [hjl] using hm
        exact .inr (.inl ⟨by omega, (Option.some.inj hm).symm⟩)
      · exact .inr (.inr ⟨by omega, by omega, hm⟩)
  intro p q x y hpq hq hqj hx hy
  rcases at' q y hy with ⟨g, _⟩ | ⟨rfl, rfl⟩ | ⟨g1, g2, hy2⟩
  · omega
  · rcases at' p x hx with ⟨rfl, rfl⟩ | ⟨g, _⟩ | ⟨g3, g4, hx⟩
    · exact ho.asym _ _ hlt
    · omega
    · exact h p (q - 1) x _ (by omega) (by omega) (by omega) hx a2
  · rcases at' p x hx with ⟨rfl, rfl⟩ | ⟨rfl, rfl⟩ | ⟨g3, g4, hx⟩
    · exact h j q _ y (by omega) hq g1 a1 hy2
    · exact h (p - 1) q _ y (by omega) hq g1 a2 hy2
    · exact h p q x y hpq hq g1 hx hy2

theorem sort_pair {xs : List α} (h : SortTo lt xs.length xs) : xs.Pairwise (fun x y => ¬ lt y x) := by
  rw [List.pairwise_iff_getElem]
  intro p q hp hq hpq
  exact h p q _ _ hpq hq (by simp) (by simp)

/-- Two strictly sorted lists with the same members are one. -/
theorem sorted_eq (ho : Ord lt) : ∀ {xs ys : List α}, xs.Pairwise lt → ys.Pairwise lt → (∀ z, z ∈ xs ↔ z ∈ ys) → xs = ys
  | [], [], _, _, _ => rfl
  | [], y :: ys, _, _, h => by have := (h y).2 (by simp); cases this
  | x :: xs, [], _, _, h => by have := (h x).1 (by simp); cases this
  | x :: xs, y :: ys, hx, hy, h => by
    rw [List.pairwise_cons] at hx hy
    have irr : ∀ z, ¬ lt z z := fun z hz => ho.asym z z hz hz
    have e : x = y := by
      rcases List.mem_cons.1 ((h x).1 (by simp)) with h1 | h1
      · exact h1
      · rcases List.mem_cons.1 ((h y).2 (by simp)) with h2 | h2
        · exact h2.symm
        · exact absurd (hx.1 y h2) (ho.asym _ _ (hy.1 x h1))
    subst e
    have : xs = ys := by
      refine sorted_eq ho hx.2 hy.2 (fun z => ⟨fun hz => ?_, fun hz => ?_⟩)
      · rcases List.mem_cons.1 ((h z).1 (List.mem_cons_of_mem _ hz)) with rfl | h1
        · exact absurd (hx.1 z hz) (irr z)
        · exact h1
      · rcases List.mem_cons.1 ((h z).2 (List.mem_cons_of_mem _ hz)) with rfl | h1
        · exact absurd (hy.1 z hz) (irr z)
        · exact h1
    rw [this]
end
end Go.Ve

namespace Go.Ve
open Go

@[reducible] def Ty.st : List Ty → Ty
  | [] => .unit
  | t :: ts => .pair t (Ty.st ts)

abbrev tI : Ty := .int .i64
abbrev tU : Ty := .int .u32
abbrev tPrefix : Ty := .st [tU, tI]
abbrev tHop : Ty := .st [tI, tU]
abbrev tRoute : Ty := .st [tPrefix, tI, tI, tI, tI, tI, tI, tI, .sl tI, tU, tU, .sl tHop, .bool]
abbrev tIface : Ty := .st [.str, tU, tI, tI, .bool, .bool, tI, tI, .bool, .str, .str, tI]
abbrev tPRule : Ty := .st [.bool, tPrefix, tI, tI]
abbrev tPList : Ty := .st [.str, .sl tPRule]
abbrev tClause : Ty := .st [.bool, .str, tI, tI, tI, tI, tI]
abbrev tRMap : Ty := .st [.str, .sl tClause]
abbrev tWild : Ty := .st [tU, tU]
abbrev tPorts : Ty := .st [tI, tI]
abbrev tRule : Ty := .st [.bool, tI, tWild, tWild, tPorts, tPorts]
abbrev tACL : Ty := .st [.str, .sl tRule]
abbrev tNat : Ty := .st [tI, tU, tU, tI, tI, tI, .str, tU, tU]
abbrev tStatic : Ty := .st [tPrefix, tU, .str, .bool, tI, tI]
abbrev tRedist : Ty := .st [tI, tI, tI, .str, tI]
abbrev tARange : Ty := .st [tI, tPrefix]
abbrev tLS : Ty := .st [.bool, tI, .sl tARange, .sl tRedist]
abbrev tDV : Ty := .st [.bool, tI, .str, .str, .sl tRedist]
abbrev tNeighbor : Ty := .st [tU, tI, .str, .str]
abbrev tAggregate : Ty := .st [tPrefix, .bool]
abbrev tCondition : Ty := .st [tPrefix, tPrefix, .bool]
abbrev tPV : Ty := .st [.bool, tI, tI, .sl tNeighbor, .sl tPrefix, .sl tAggregate, .sl tCondition, .sl tRedist]
abbrev tRouter : Ty := .st [.str, tI, .sl tIface, .sl tPList, .sl tRMap, .sl tACL, .sl tNat, .sl tStatic, tLS, tDV, tPV]
abbrev tNetwork : Ty := .st [.sl tRouter]
abbrev tDomain : Ty := .st [tPrefix, tI, .sl tPorts]
abbrev tDomainR : Ty := .st [tPrefix, tI, .rf]
abbrev tTopoR : Ty := .st [.sl tDomainR, .sl tI]
abbrev tTopo : Ty := .st [.sl tDomain, .sl tI]
abbrev tViewR : Ty := .st [tNetwork, tTopoR, .sl tI]
abbrev tView : Ty := .st [tNetwork, tTopo, .sl tI]
abbrev tPacket : Ty := .st [tU, tU, tI, tI, tI]
abbrev tEdge : Ty := .st [tI, tI, tI, tHop]
abbrev tSession : Ty := .st [tI, tI, tI, tI, .bool]
abbrev tTables : Ty := .st [.sl tRoute, .sl tRoute, .sl tRoute, .sl tRoute]
abbrev tResult : Ty := .st [tI, tI, tI, .sl tTables]
abbrev tEntry : Ty := .st [tI, tI, tPrefix]
abbrev tDStep : Ty := .st [tEntry, tRoute, tI, .sl tI]
abbrev tForward : Ty := .st [tPrefix, .sl tHop, .bool]
abbrev tMove : Ty := .st [tI, tPorts, tPacket]
abbrev tState : Ty := .st [tPorts, tPacket]
abbrev tOutcome : Ty := .st [tI, tPorts]
end Go.Ve

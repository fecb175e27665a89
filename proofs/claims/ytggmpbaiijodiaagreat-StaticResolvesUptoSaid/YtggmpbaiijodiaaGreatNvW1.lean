/-
  Conditions out of code, part 1: operations. What an operation comes to on a state with open data, as a condition on what follows.
-/
import Derived.Test.YtggmpbaiijodiaaGreatNvVe23
namespace Go.Ve
open Go

def ifb (b : Bool) (A B : Prop) : Prop :=
  match b with
  | true => A
  | false => B

theorem ifb_cases {b : Bool} {A B C : Prop} (h : ifb b A B) (ha : b = true → A → C) (hb : b = false → B → C) : C := by
  cases b with
  | true => exact ha rfl h
  | false => exact hb rfl h

/-- Contracts with what they ask: a condition, the state behind, the result. -/
abbrev SpecsW (Γ : Sig) := FuncId → Γ.St → List V → Option (Prop × Γ.St × RV)

open Classical in
noncomputable def SpecsW.toS {Γ : Sig} (S : SpecsW Γ) : Specs Γ := fun f s ds =>
  match S f s ds with
  | some (pre, r) => if pre then some r else none
  | none => none

theorem toS_eq {Γ : Sig} {S : SpecsW Γ} {f : FuncId} {s : Γ.St} {ds : List V} {pre : Prop} {r : Γ.St × RV} (h : S f s ds = some (pre, r)) (hp : pre) : S.toS f s ds = some r := by
  simp only [SpecsW.toS, h, if_pos hp]

def bitsOf : BinOp → (k : IntKind) → Int → Int → Option Int
  | .and, k, a, b => some (k.wrap (BitVec.ofInt k.bits a &&& BitVec.ofInt k.bits b).toNat)
  | .or, k, a, b => some (k.wrap (BitVec.ofInt k.bits a ||| BitVec.ofInt k.bits b).toNat)
  | .xor, k, a, b => some (k.wrap (BitVec.ofInt k.bits a ^^^ BitVec.ofInt k.bits b).toNat)
  | .andNot, k, a, b => some (k.wrap (BitVec.ofInt k.bits a &&& ~~~ BitVec.ofInt k.bits b).toNat)
  | _, _, _, _ => none

section
variable {Γ : Sig} (P : Look) (G : Nat → Option (List V)) (S : SpecsW Γ)

abbrev Kq (Γ : Sig) := (R Γ.St → Prop) → Prop
abbrev Ke (Γ : Sig) := (Env Γ.St → Prop) → Prop

def retI (k : IntKind) (n : Int) : R Γ.St := .ret (.p (.val (.int k n)))
def retB (b : Bool) : R Γ.St := .ret (.p (.val (.bool b)))

/-- Two integers of one kind. -/
def intW (op : BinOp) (k : IntKind) (a b : Int) : Option (Kq Γ) :=
  match op with
  | .add => some (fun K => K (retI k (k.wrap (a + b))))
  | .sub => some (fun K => K (retI k (k.wrap (a - b))))
  | .mul => some (fun K => K (retI k (k.wrap (a * b))))
  | .quo => some (fun K => b ≠ 0 ∧ K (retI k (k.wrap (a.tdiv b))))
  | .rem => some (fun K => b ≠ 0 ∧ K (retI k (a.tmod b)))
  | .eql => some (fun K => K (retB (a == b)))
  | .neq => some (fun K => K (retB (a != b)))
  | .lss => some (fun K => K (retB (decide (a < b))))
  | .leq => some (fun K => K (retB (decide (a ≤ b))))
  | .gtr => some (fun K => K (retB (decide (a > b))))
  | .geq => some (fun K => K (retB (decide (a ≥ b))))
  | op => match bitsOf op k a b with
    | some n => some (fun K => K (retI k n))
    | none => none

def shiftW (op : BinOp) (k : IntKind) (a b : Int) : Option (Kq Γ) :=
  match op with
  | .shl => some (fun K => 0 ≤ b ∧ K (retI k (k.wrap (a * 2 ^ min b.toNat k.bits))))
  | .shr => some (fun K => 0 ≤ b ∧ K (retI k (a.fdiv (2 ^ min b.toNat k.bits))))
  | _ => none

/-- A bound of a slice expression: at most 'top'. -/
def boundW (d : Option T) (dflt : Nat) : Option Nat :=
  match d with
  | none => some dflt
  | some (.p (.val (.int _ i))) => some i.toNat
  | _ => none

def boundP (d : Option T) (top : Nat) : Prop :=
  match d with
  | some (.p (.val (.int _ i))) => 0 ≤ i ∧ i ≤ top
  | _ => True

def qW (e : Env Γ.St) (o : Oper) : Option (Kq Γ) :=
  match o.op with
  | .indexAddr t x ix => match evx G e x, evx G e ix with
    | .p (.tl ty xs), .p (.val (.int _ i)) => match P.und t with
      | some (.slice el) => if size? P el = some ty.size then
          some (fun K => (0 ≤ i ∧ i < xs.length) ∧ ∀ y, xs[i.toNat]? = some y → K (.ret (.p (.pp (ty.cells y))))) else none
      | _ => none
    | .ot id ty xs, .p (.val (.int _ i)) => match P.und t with
      | some (.slice el) => if size? P el = some ty.size then
          some (fun K => (0 ≤ i ∧ i < xs.length) ∧ K (.ret (.oet id ty xs i.toNat 0))) else none
      | _ => none
    | _, _ => none
  | .load t x => match evx G e x with
    | .oet _ ty xs i off => some (fun K => i < xs.length ∧ ∀ y, xs[i]? = some y → match ldV P t ((ty.cells y).drop off) with
      | some d => K (.ret (.p d))
      | none => False)
    | _ => none
  | .slice t x lo hi mx => match evx G e x, mx with
    | .p (.tl ty xs), none => match P.und t with
      | some (.slice el) => if size? P el = some ty.size then
          match boundW (hi.map (evx G e)) xs.length with
          | some h => match boundW (lo.map (evx G e)) 0 with
            | some l => some (fun K => boundP (hi.map (evx G e)) xs.length ∧ boundP (lo.map (evx G e)) h ∧ K (.ret (.p (.tl ty ((xs.take h).drop l)))))
            | none => none
          | none => none
        else none
      | _ => none
    | _, _ => none
  | .index t x ix => match evx G e x, evx G e ix with
    | .p (.val (.string s)), .p (.val (.int _ i)) => match P.und t with
      | some .string => some (fun K => (0 ≤ i ∧ i < s.size) ∧ ∀ b, s[i.toNat]? = some b → K (retI .u8 b.toNat))
      | _ => none
    | _, _ => none
  | .binOp op _ x y _ => match evx G e x, evx G e y with
    | .p (.val (.int k a)), .p (.val (.int k' b)) => match op with
      | .shl => shiftW .shl k a b
      | .shr => shiftW .shr k a b
      | op => if k = k' then intW op k a b else none
    | _, _ => none
  | .pick c x y => match evx G e c, flatT (evx G e x), flatT (evx G e y) with
    | .p (.val (.bool b)), some u, some v => some (fun K => ifb b (K (.ret (.p (V.ofVal u)))) (K (.ret (.p (V.ofVal v)))))
    | _, _, _ => none
  | .call c => match c.callee with
    | .value f => match evx G e f, argsV G e c.args.toList with
      | .p (.clo g caps), some ds => match S g e.st (ds ++ caps) with
        | some (pre, st', r) => if (c.args.toList.any (fun x => (evx G e x).isView)) && !r.plain then none else
            some (fun K => pre ∧ K (.call st' (c.args.toList.any (fun x => (evx G e x).isView)) r))
        | none => none
      | _, _ => none
    | _ => none
  | .makeSlice t l c => match evx G e l, evx G e c with
    | .p (.val (.int .i64 n)), .p (.val (.int .i64 m)) => match P.und t with
      | some (.slice el) => match P.inf el with
        | some info => match info.zero, P.ty el with
          | some z, some ty => match ty.dec (V.ofVal1 z) with
            | some x => if 1 ≤ info.bytes ∧ (V.ofVal1 z).cells.length = info.size ∧ info.size ≠ 0 ∧ ty.size = info.size then
                some (fun K => n = m ∧ (0 ≤ n ∧ n * info.bytes ≤ 140737488355328) ∧ K (.ownT ty (List.replicate n.toNat x))) else none
            | none => none
          | _, _ => none
        | none => none
      | _ => none
    | _, _ => none
  | _ => none

/-- Any operation that only makes: the conditions above, else the evaluation itself. -/
noncomputable def qWs (e : Env Γ.St) (o : Oper) : Option (Kq Γ) :=
  match qW P G S e o with
  | some q => some q
  | none => match evQ P G S.toS e o with
    | some r => some (fun K => K r)
    | none => none

variable {P G S}

theorem boundW_eq {d : Option T} {dflt top h : Nat} (hw : boundW d dflt = some h) (hp : boundP d top) (hd : d = none → dflt ≤ top) : boundV d dflt top = some h := by
  unfold boundW at hw
  split at hw
  · simp only [Option.some.injEq] at hw; subst hw; rfl
  · simp only [Option.some.injEq] at hw; subst hw
    simp only [boundP] at hp
    simp only [boundV, hp, and_self, if_true]
  · cases hw
end

section
variable {Γ : Sig} {P : Program} {G : Nat → Option (List V)} {S : SpecsW Γ} {e : Env Γ.St} {o : Oper}

theorem pureIn_step {α β : Type} {s : Sem α} {a : α} (h : pureIn P s = some a) (f : α → Sem β) : pureIn P (s >>= f) = pureIn P (f a) := by
  change pureIn P (s.bind f) = _
  induction s with
  | pure b => simp only [pureIn, Option.some.injEq] at h; subst h; rfl
  | program k ih => exact ih P h
  | _ => simp [pureIn] at h

theorem pureIn_underlying {t : TypeId} {d : TypeDesc} (h : P.underlying t = some d) : pureIn P (underlying t) = some d := by
  show pureIn P (match P.underlying t with | some d => pure d | none => stuck "no such type" : Sem TypeDesc) = _
  rw [h]; rfl

theorem evFlat_of {v : Value} (h1 : o.op.operands.toList.all (fun x => (flatT (evx G e x)).isSome) = true)
    (h2 : pureIn P (execOp (fun x => (flatT (evx G e x)).getD undef) o) = some (.value v)) : evFlat P G e o = some (.ret (.p (V.ofVal v)) : R Γ.St) := by
  unfold evFlat
  rw [if_pos h1]
  have h3 : pureIn (Look.of P).P (execOp (fun x => (flatT (evx G e x)).getD undef) o) = some (.value v) := h2
  rw [h3]

theorem evBin_int {op : BinOp} {t t' : TypeId} {x y : Operand} {k k' : IntKind} {a b : Int} {v : Value} {dst : Option Tmp} {type : TypeId} {pos : String} {after : Array Edge} {guard : Option (Nat × Bool)}
    (hx : evx G e x = .p (.val (.int k a))) (hy : evx G e y = .p (.val (.int k' b))) (h : pureIn P (binOp op t (.int k a) (.int k' b)) = some v) :
    evQ P G S.toS e ⟨dst, .binOp op t x y t', type, pos, after, guard⟩ = some (.ret (.p (V.ofVal v))) := by
  have h1 : evNil (St := Γ.St) P op t (evx G e x) (evx G e y) = none := by rw [hx]; rfl
  have h2 : evEq (St := Γ.St) P op t (evx G e x) (evx G e y) = none := by rw [hx]; rfl
  simp only [evQ, h1, h2]
  refine evFlat_of ?_ ?_
  · simp [Op.operands, hx, hy, flatT, V.toVal, V.toVal1]
  · have hfx : (flatT (evx G e x)).getD undef = .int k a := by rw [hx]; rfl
    have hfy : (flatT (evx G e y)).getD undef = .int k' b := by rw [hy]; rfl
    simp only [execOp, hfx, hfy]
    have hg : eqGuard op t x y (.int k a) (.int k' b) = pure () := by cases op <;> rfl
    rw [hg]
    have hb : ∀ (s : Sem Value), pureIn P s = some v → pureIn P (do let v ← s; pure (Next.value v)) = some (.value v) := by
      intro s
      induction s with
      | pure c => intro hs; simp only [pureIn, Option.some.injEq] at hs; subst hs; rfl
      | program f ih => intro hs; exact ih P hs
      | _ => intro hs; simp [pureIn] at hs
    exact hb _ h

theorem intW_sound {op : BinOp} {t t' : TypeId} {x y : Operand} {k : IntKind} {a b : Int} {q : Kq Γ} {K : R Γ.St → Prop} {dst : Option Tmp} {type : TypeId} {pos : String} {after : Array Edge} {guard : Option (Nat × Bool)}
    (hx : evx G e x = .p (.val (.int k a))) (hy : evx G e y = .p (.val (.int k b))) (h : intW op k a b = some q) (hK : q K) (h1 : op ≠ .shl) (h2 : op ≠ .shr) :
    ∃ r, evQ P G S.toS e ⟨dst, .binOp op t x y t', type, pos, after, guard⟩ = some r ∧ K r := by
  have fin : ∀ v, pureIn P (binOp op t (.int k a) (.int k b)) = some v → K (.ret (.p (V.ofVal v))) → ∃ r, evQ P G S.toS e ⟨dst, .binOp op t x y t', type, pos, after, guard⟩ = some r ∧ K r :=
    fun v hv hk => ⟨_, evBin_int hx hy hv, hk⟩
  have finI : ∀ n, pureIn P (binOp op t (.int k a) (.int k b)) = some (.int k n) → K (retI k n) → ∃ r, evQ P G S.toS e ⟨dst, .binOp op t x y t', type, pos, after, guard⟩ = some r ∧ K r := fun n hv hk => fin _ hv hk
  have finB : ∀ c, pureIn P (binOp op t (.int k a) (.int k b)) = some (.bool c) → K (retB c) → ∃ r, evQ P G S.toS e ⟨dst, .binOp op t x y t', type, pos, after, guard⟩ = some r ∧ K r := fun n hv hk => fin _ hv hk
  have hkk : ∀ s1 s2 : Sem Value, (if k ≠ k then s1 else s2) = s2 := by intro s1 s2; simp
  cases op <;> simp only [intW, bitsOf, Option.some.injEq, reduceCtorEq] at h <;> first | exact absurd rfl h1 | exact absurd rfl h2 | skip
  case quo =>
    subst h
    refine finI (k.wrap (a.tdiv b)) ?_ hK.2
    simp only [binOp, hkk, Op.intDiv, if_neg hK.1]; rfl
  case rem =>
    subst h
    refine finI (a.tmod b) ?_ hK.2
    simp only [binOp, hkk, Op.intDiv, if_neg hK.1]; rfl
  all_goals
    subst h
    first
      | (refine finI _ ?_ hK; simp only [binOp, hkk]; rfl)
      | (refine finB _ ?_ hK; simp only [binOp, hkk]; rfl)

theorem shiftW_sound {op : BinOp} {t t' : TypeId} {x y : Operand} {k k' : IntKind} {a b : Int} {q : Kq Γ} {K : R Γ.St → Prop} {dst : Option Tmp} {type : TypeId} {pos : String} {after : Array Edge} {guard : Option (Nat × Bool)}
    (hx : evx G e x = .p (.val (.int k a))) (hy : evx G e y = .p (.val (.int k' b))) (h : shiftW op k a b = some q) (hK : q K) :
    ∃ r, evQ P G S.toS e ⟨dst, .binOp op t x y t', type, pos, after, guard⟩ = some r ∧ K r := by
  cases op <;> simp only [shiftW, Option.some.injEq, reduceCtorEq] at h
  case shl =>
    subst h
    refine ⟨_, evBin_int (v := .int k (k.wrap (a * 2 ^ min b.toNat k.bits))) hx hy ?_, hK.2⟩
    simp only [binOp, Op.shift]
    rw [if_neg (by have := hK.1; omega)]; rfl
  case shr =>
    subst h
    refine ⟨_, evBin_int (v := .int k (a.fdiv (2 ^ min b.toNat k.bits))) hx hy ?_, hK.2⟩
    simp only [binOp, Op.shift]
    rw [if_neg (by have := hK.1; omega)]; rfl

theorem qW_sound {q : Kq Γ} {K : R Γ.St → Prop} (h : qW P G S e o = some q) (hK : q K) : ∃ r, evQ P G S.toS e o = some r ∧ K r := by
  obtain ⟨dst, op, type, pos, after, guard⟩ := o
  cases op <;> simp only [qW, reduceCtorEq] at h
  case indexAddr t x ix =>
    split at h
    · rename_i ty xs k0 i hx hix
      split at h
      · rename_i el hu
        split at h
        · rename_i hz
          simp only [Option.some.injEq] at h
          subst h
          obtain ⟨⟨h0, h1⟩, h2⟩ := hK
          have hlt : i.toNat < xs.length := by omega
          have hg : xs[i.toNat]? = some xs[i.toNat] := by simp [hlt]
          refine ⟨_, ?_, h2 _ hg⟩
          have hu' : P.underlying t = some (.slice el) := hu
          simp only [evQ, hx, hix, evIndexAddr, h0, if_true, hu', hz, hg]
        · cases h
      · cases h
    · rename_i id ty xs k0 i hx hix
      split at h
      · rename_i el hu
        split at h
        · rename_i hz
          simp only [Option.some.injEq] at h
          subst h
          obtain ⟨⟨h0, h1⟩, h2⟩ := hK
          have hlt : i.toNat < xs.length := by omega
          refine ⟨_, ?_, h2⟩
          have hu' : P.underlying t = some (.slice el) := hu
          simp only [evQ, hx, hix, evIndexAddr, h0, if_true, hu', hz, hlt]
        · cases h
      · cases h
    · cases h
  case load t x =>
    split at h
    · rename_i id ty xs i off hx
      simp only [Option.some.injEq] at h
      subst h
      obtain ⟨h1, h2⟩ := hK
      have hg : xs[i]? = some xs[i] := by simp [h1]
      have h3 := h2 _ hg
      split at h3
      · rename_i d hd
        refine ⟨_, ?_, h3⟩
        simp only [evQ, hx, evLoad, hg, hd, Option.map_some]
      · exact h3.elim
    · cases h
  case slice t x lo hi mx =>
    split at h
    · rename_i ty xs hx
      split at h
      · rename_i el hu
        split at h
        · rename_i hz
          split at h
          · rename_i hN hbh
            split at h
            · rename_i lN hbl
              simp only [Option.some.injEq] at h
              subst h
              obtain ⟨h1, h2, h3⟩ := hK
              refine ⟨_, ?_, h3⟩
              have hu' : P.underlying t = some (.slice el) := hu
              have hb1 := boundW_eq hbh h1 (fun _ => Nat.le_refl _)
              have hb2 := boundW_eq hbl h2 (fun _ => Nat.zero_le _)
              simp only [evQ, hx, evSliceT, hu', hz, if_true, Option.map_none, hb1, hb2]
            · cases h
          · cases h
        · cases h
      · cases h
    · cases h
  case index t x ix =>
    split at h
    · rename_i s k0 i hx hix
      split at h
      · rename_i hu
        simp only [Option.some.injEq] at h
        subst h
        obtain ⟨⟨h0, h1⟩, h2⟩ := hK
        have hlt : i.toNat < s.size := by omega
        have hg : s[i.toNat]? = some s[i.toNat] := by simp [hlt]
        refine ⟨_, ?_, h2 _ hg⟩
        have hfl : evFlat (St := Γ.St) P G e ⟨dst, .index t x ix, type, pos, after, guard⟩ = some (.ret (.p (V.ofVal (.int .u8 s[i.toNat].toNat)))) := by
          refine evFlat_of ?_ ?_
          · simp [Op.operands, hx, hix, flatT, V.toVal, V.toVal1]
          · have hfx : (flatT (evx G e x)).getD undef = .string s := by rw [hx]; rfl
            have hfy : (flatT (evx G e ix)).getD undef = .int k0 i := by rw [hix]; rfl
            have hu' : P.underlying t = some .string := hu
            simp only [execOp, hfx, hfy, Instr.index, asIntOf]
            have hin : pureIn P (do
                let __x ← pure (k0, i)
                let __do_lift ← underlying t
                match __do_lift, Value.string s with
                  | TypeDesc.array len elem, Value.agg cs =>
                    if 0 ≤ __x.snd ∧ __x.snd < ↑len then do
                      let __do_lift ← sizeOf elem
                      part elem cs (__x.snd.toNat * __do_lift)
                    else boundsPanic __x.fst __x.snd (↑len) BoundsCode.index
                  | TypeDesc.string, Value.string s =>
                    match if 0 ≤ __x.snd then s[__x.snd.toNat]? else none with
                    | some b => pure (Value.int IntKind.u8 ↑b.toNat)
                    | none => boundsPanic __x.fst __x.snd (↑s.size) BoundsCode.index
                  | x, x_1 => stuck "Index: array or string expected") = some (Value.int IntKind.u8 ↑s[i.toNat].toNat) := by
              refine (pureIn_step (s := pure (k0, i)) rfl _).trans ?_
              refine (pureIn_step (pureIn_underlying hu') _).trans ?_
              simp only [h0, if_true, hg]
              rfl
            exact (pureIn_step hin _).trans rfl
        simp only [evQ]
        exact hfl
      · cases h
    · cases h
  case binOp op t x y t' =>
    split at h
    · rename_i k a k' b hx hy
      split at h
      · exact shiftW_sound hx hy h hK
      · exact shiftW_sound hx hy h hK
      · rename_i h1 h2
        split at h
        · rename_i hk
          subst hk
          exact intW_sound hx hy h hK h1 h2
        · cases h
    · cases h
  case pick c x y =>
    split at h
    · rename_i b u v hc hx hy
      simp only [Option.some.injEq] at h
      subst h
      have hall : ((⟨dst, .pick c x y, type, pos, after, guard⟩ : Oper).op.operands.toList.all (fun x => (flatT (evx G e x)).isSome)) = true := by
        simp [Op.operands, hx, hy]; rw [hc]; rfl
      have hfc : (flatT (evx G e c)).getD undef = .bool b := by rw [hc]; rfl
      have hfx : (flatT (evx G e x)).getD undef = u := by rw [hx]; rfl
      have hfy : (flatT (evx G e y)).getD undef = v := by rw [hy]; rfl
      refine ifb_cases hK (fun hb hk => ⟨_, ?_, hk⟩) (fun hb hk => ⟨_, ?_, hk⟩)
      · simp only [evQ]
        refine evFlat_of hall ?_
        simp only [execOp, hfc, hfx, hfy]
        subst hb
        rfl
      · simp only [evQ]
        refine evFlat_of hall ?_
        simp only [execOp, hfc, hfx, hfy]
        subst hb
        rfl
    · cases h
  case call c =>
    split at h
    · rename_i f hcal
      split at h
      · rename_i g caps ds hf hds
        split at h
        · rename_i pre st' r hS
          split at h
          · cases h
          · rename_i hview
            simp only [Option.some.injEq] at h
            subst h
            refine ⟨_, ?_, hK.2⟩
            have hv : (c.args.toList.any (fun x => (evx G e x).isView) && !r.plain) = false := by simpa using hview
            simp only [evQ, evCall, hcal, hf, hds, callRes, toS_eq hS hK.1, hv, Bool.false_eq_true, if_false]
        · cases h
      · cases h
    · cases h
  case makeSlice t l c =>
    split at h
    · rename_i n m hl hc
      split at h
      · rename_i el hu
        split at h
        · rename_i info hi
          split at h
          · rename_i z ty hz hty
            split at h
            · rename_i x hx
              split at h
              · rename_i hcond
                obtain ⟨c1, c2, c3, c4⟩ := hcond
                simp only [Option.some.injEq] at h
                subst h
                obtain ⟨h1, ⟨h2, h3⟩, h4⟩ := hK
                refine ⟨_, ?_, h4⟩
                have hu' : P.underlying t = some (.slice el) := hu
                have hi' : P.info? el = some info := hi
                have hty' : creTy P el = some ty := hty
                have hcc : 0 ≤ n ∧ n * info.bytes ≤ 140737488355328 ∧ 1 ≤ info.bytes ∧ (V.ofVal1 z).cells.length = info.size ∧ info.size ≠ 0 := ⟨h2, h3, c1, c2, c3⟩
                subst h1
                simp only [evQ, hl, hc, evMakeSlice, hu', hi', hz, hty', hx, if_true]
                rw [if_pos hcc, if_pos c4]
              · cases h
            · cases h
          · cases h
        · cases h
      · cases h
    · cases h

theorem qWs_sound {q : Kq Γ} {K : R Γ.St → Prop} (h : qWs P G S e o = some q) (hK : q K) : ∃ r, evQ P G S.toS e o = some r ∧ K r := by
  unfold qWs at h
  split at h
  · rename_i q' hq
    simp only [Option.some.injEq] at h
    subst h
    exact qW_sound hq hK
  · split at h
    · rename_i r hr
      simp only [Option.some.injEq] at h
      subst h
      exact ⟨r, hr, hK⟩
    · cases h
end
end Go.Ve

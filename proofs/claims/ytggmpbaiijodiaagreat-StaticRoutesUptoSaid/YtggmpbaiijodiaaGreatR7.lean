/-
  Functions out of code, part 1: operations. What an operation on open data comes to, as a partial value of what follows.
  Functions out of code, part 2: what stays; writing operations, regions.
  Drawn regions that write, part 1: what an operation does to a state, whatever else the state holds.
  Drawn regions that write, part 2: floating operations; the chain of what writes.
  Drawn regions that write, part 3: in whatever order, they come to what the chain comes to.
-/
import Derived.Test.YtggmpbaiijodiaaGreatR6
set_option linter.unusedVariables false
namespace Go.Ve
open Go

/-- A call by contract: the partial result of a plain function, the state behind it, the result as a datum. -/
structure CallX (St : Type) where
  ρ : Type
  m : Option ρ
  st : ρ → St
  res : ρ → RV
  pl : Bool

abbrev SpecsX (Γ : Sig) := FuncId → Γ.St → List V → Option (CallX Γ.St)

def SpecsX.toS {Γ : Sig} (S : SpecsX Γ) : Specs Γ := fun f s ds =>
  match S f s ds with
  | some c => c.m.map (fun y => (c.st y, c.res y))
  | none => none

theorem toS_eqX {Γ : Sig} {S : SpecsX Γ} {f : FuncId} {s : Γ.St} {ds : List V} {c : CallX Γ.St} {y : c.ρ} (h : S f s ds = some c) (hy : c.m = some y) : S.toS f s ds = some (c.st y, c.res y) := by
  simp only [SpecsX.toS, h, hy, Option.map_some]

/-- Only where it holds. -/
def need {ρ : Type} (c : Bool) (x : Option ρ) : Option ρ :=
  match c with
  | true => x
  | false => none

theorem need_some {ρ : Type} {c : Bool} {x : Option ρ} {v : ρ} : need c x = some v ↔ c = true ∧ x = some v := by
  cases c <;> simp [need]

/-- Element i, where there is one. -/
def idx {α : Type} (xs : List α) (i : Int) : Option α := if 0 ≤ i then xs[i.toNat]? else none

def atN {α : Type} (xs : List α) (i : Nat) : Option α := xs[i]?

def byteAt (s : ByteArray) (i : Int) : Option Int := if 0 ≤ i then (s[i.toNat]?).map (fun b => (b.toNat : Int)) else none

/-- The part from lo to hi. -/
def sub {α : Type} (xs : List α) (lo hi : Int) : Option (List α) :=
  if 0 ≤ lo ∧ lo ≤ hi ∧ hi ≤ xs.length then some ((xs.take hi.toNat).drop lo.toNat) else none

/-- An append, where there is room for it. -/
def app {α : Type} (bytes : Nat) (xs ys : List α) : Option (List α) :=
  if (2 * (xs.length + ys.length) + 1024) * bytes ≤ 140737488355328 then some (xs ++ ys) else none

/-- n new elements, where there is room for them. -/
def news {α : Type} (bytes : Nat) (n : Int) (x : α) : Option (List α) :=
  if 0 ≤ n ∧ n * bytes ≤ 140737488355328 then some (List.replicate n.toNat x) else none

abbrev Kx (Γ : Sig) (ρ : Type) := (R Γ.St → Option ρ) → Option ρ
abbrev Kex (Γ : Sig) (ρ : Type) := (Env Γ.St → Option ρ) → Option ρ

def sameOp : Operand → Operand → Bool
  | .tmp a, .tmp b => Nat.beq a b
  | _, _ => false

theorem sameOp_eq {a b : Operand} (h : sameOp a b = true) : a = b := by
  unfold sameOp at h
  split at h
  · rw [Nat.eq_of_beq_eq_true h]
  · cases h

section
variable {Γ : Sig} {ρ : Type} (P : Look) (G : Nat → Option (List V)) (S : SpecsX Γ)

def intX (op : BinOp) (k : IntKind) (a b : Int) : Option (Kx Γ ρ) :=
  match op with
  | .add => some (fun K => K (retI k (k.wrap (a + b))))
  | .sub => some (fun K => K (retI k (k.wrap (a - b))))
  | .mul => some (fun K => K (retI k (k.wrap (a * b))))
  | .quo => some (fun K => need (b != 0) (K (retI k (k.wrap (a.tdiv b)))))
  | .rem => some (fun K => need (b != 0) (K (retI k (a.tmod b))))
  | .eql => some (fun K => K (retB (a == b)))
  | .neq => some (fun K => K (retB (a != b)))
  | .lss => some (fun K => K (retB (decide (a < b))))
  | .leq => some (fun K => K (retB (decide (a ≤ b))))
  | .gtr => some (fun K => K (retB (decide (a > b))))
  | .geq => some (fun K => K (retB (decide (a ≥ b))))
  | op => match bitsOf op k a b with
    | some n => some (fun K => K (retI k n))
    | none => none

def shiftX (op : BinOp) (k : IntKind) (a b : Int) : Option (Kx Γ ρ) :=
  match op with
  | .shl => some (fun K => need (decide (0 ≤ b)) (K (retI k (k.wrap (a * 2 ^ min b.toNat k.bits)))))
  | .shr => some (fun K => need (decide (0 ≤ b)) (K (retI k (a.fdiv (2 ^ min b.toNat k.bits)))))
  | _ => none

/-- A bound of a slice expression. -/
def boundX (d : Option T) (dflt : Int) : Option Int :=
  match d with
  | none => some dflt
  | some (.p (.val (.int _ i))) => some i
  | _ => none

def pickX (b : Bool) : Value → Value → Option Value
  | .bool x, .bool y => some (.bool (cond b x y))
  | .int k x, .int k' y => if k = k' then some (.int k (cond b x y)) else none
  | _, _ => none

def qX (e : Env Γ.St) (o : Oper) : Option (Kx Γ ρ) :=
  match o.op with
  | .indexAddr t x ix => match evx G e x, evx G e ix with
    | .p (.tl ty xs), .p (.val (.int _ i)) => match P.und t with
      | some (.slice el) => if size? P el = some ty.size then
          some (fun K => Option.bind (idx xs i) fun y => K (.ret (.p (.pp (ty.cells y))))) else none
      | _ => none
    | .ot id ty xs, .p (.val (.int _ i)) => match P.und t with
      | some (.slice el) => if size? P el = some ty.size then
          some (fun K => Option.bind (idx xs i) fun _ => K (.ret (.oet id ty xs i.toNat 0))) else none
      | _ => none
    | _, _ => none
  | .load t x => match evx G e x with
    | .oet _ ty xs i off => some (fun K => Option.bind (atN xs i) fun y => match ldV P t ((ty.cells y).drop off) with
      | some d => K (.ret (.p d))
      | none => none)
    | _ => none
  | .slice t x lo hi mx => match evx G e x, mx with
    | .p (.tl ty xs), none => match P.und t with
      | some (.slice el) => if size? P el = some ty.size then
          match boundX (hi.map (evx G e)) xs.length with
          | some h => match boundX (lo.map (evx G e)) 0 with
            | some l => some (fun K => Option.bind (sub xs l h) fun ys => K (.ret (.p (.tl ty ys))))
            | none => none
          | none => none
        else none
      | _ => none
    | .ot id ty xs, none => match P.und t with
      | some (.slice el) => if size? P el = some ty.size then
          match boundX (hi.map (evx G e)) xs.length with
          | some h => match boundX (lo.map (evx G e)) 0 with
            | some l => some (fun K => need (decide (0 ≤ l) && decide (l ≤ h) && decide (h ≤ xs.length)) (K (.ret (.ov id ty xs l.toNat h.toNat))))
            | none => none
          | none => none
        else none
      | _ => none
    | _, _ => none
  | .index t x ix => match evx G e x, evx G e ix with
    | .p (.val (.string s)), .p (.val (.int _ i)) => match P.und t with
      | some .string => some (fun K => Option.bind (byteAt s i) fun b => K (retI .u8 b))
      | _ => none
    | _, _ => none
  | .binOp op t x y _ => match evx G e x, evx G e y with
    | .p (.val (.int k a)), .p (.val (.int k' b)) => match op with
      | .shl => shiftX .shl k a b
      | .shr => shiftX .shr k a b
      | op => if k = k' then intX op k a b else none
    | .p (.val (.string a)), .p (.val (.string b)) => match op with
      | .eql => some (fun K => K (retB (a == b)))
      | .neq => some (fun K => K (retB (a != b)))
      | _ => none
    | _, _ => none
  | .pick c x y => match evx G e c, flatT (evx G e x), flatT (evx G e y) with
    | .p (.val (.bool b)), some u, some v => match pickX b u v with
      | some z => some (fun K => K (.ret (.p (.val z))))
      | none => some (fun K => cond b (K (.ret (.p (V.ofVal u)))) (K (.ret (.p (V.ofVal v)))))
    | _, _, _ => none
  | .call c => match c.callee with
    | .value f => match evx G e f, argsV G e c.args.toList with
      | .p (.clo g caps), some ds => match S g e.st (ds ++ caps) with
        | some cx => if c.args.toList.any (fun x => (evx G e x).isView) && !cx.pl then none else some (fun K => Option.bind cx.m fun y =>
            match (c.args.toList.any (fun x => (evx G e x).isView)) && !(cx.res y).plain with
            | true => none
            | false => K (.call (cx.st y) (c.args.toList.any (fun x => (evx G e x).isView)) (cx.res y)))
        | none => none
      | _, _ => none
    | .builtin .append => match c.args.toList, c.argTypes.toList with
      | [x0, x1], [t0, t1] => match evx G e x0, evx G e x1 with
        | .p (.rf q), .p (.tl t ys) => match P.fn happId with
          | some _ => none
          | none => match P.und t0, P.und t1 with
            | some (.slice el), some (.slice _) => match P.inf el with
              | some info => match info.zero with
                | some z => if t.size = info.size ∧ 1 ≤ info.bytes ∧ z.cells.size = info.size then
                    match S happId e.st [.bot, .rf q, .tl t ys, .val (.int .i64 info.bytes)] with
                    | some cx => some (fun K => Option.bind cx.m fun y => match cx.res y with
                      | .p d => K (.call (cx.st y) false (.p d))
                      | _ => none)
                    | none => none
                  else none
                | none => none
              | none => none
            | _, _ => none
        | _, _ => none
      | _, _ => none
    | _ => none
  | .makeSlice t l c => match evx G e l, evx G e c with
    | .p (.val (.int .i64 n)), .p (.val (.int .i64 _)) => if sameOp l c then match P.und t with
      | some (.slice el) => match P.inf el with
        | some info => match info.zero, P.ty el with
          | some z, some ty => match ty.dec (V.ofVal1 z) with
            | some x => if 1 ≤ info.bytes ∧ (V.ofVal1 z).cells.length = info.size ∧ info.size ≠ 0 ∧ ty.size = info.size then
                some (fun K => Option.bind (news info.bytes n x) fun xs => K (.ownT ty xs)) else none
            | none => none
          | _, _ => none
        | none => none
      | _ => none
      else none
    | _, _ => none
  | _ => none

/-- Any operation that only makes. -/
def qXs (e : Env Γ.St) (o : Oper) : Option (Kx Γ ρ) :=
  match qX P G S e o with
  | some q => some q
  | none => match isCall o with
    | true => none
    | false => match evQ P G S.toS e o with
      | some r => some (fun K => K r)
      | none => none
end

section
variable {Γ : Sig} {ρ : Type} {P : Program} {G : Nat → Option (List V)} {S : SpecsX Γ} {e : Env Γ.St} {o : Oper}

theorem evBin_intX {op : BinOp} {t t' : TypeId} {x y : Operand} {k k' : IntKind} {a b : Int} {v : Value} {dst : Option Tmp} {type : TypeId} {pos : String} {after : Array Edge} {guard : Option (Nat × Bool)} {S : Specs Γ}
    (hx : evx G e x = .p (.val (.int k a))) (hy : evx G e y = .p (.val (.int k' b))) (h : pureIn P (binOp op t (.int k a) (.int k' b)) = some v) :
    evQ P G S e ⟨dst, .binOp op t x y t', type, pos, after, guard⟩ = some (.ret (.p (V.ofVal v))) := by
  have h1 : evNil (St := Γ.St) P op t (evx G e x) (evx G e y) = none := by rw [hx]; rfl
  have h2 : evEq (St := Γ.St) P op t (evx G e x) (evx G e y) = none := by rw [hx]; rfl
  simp only [evQ, h1, h2]
  refine evFlat_of ?_ ?_
  · simp [Op.operands, hx, hy, flatT, V.toVal, V.toVal1]
  · have hfx : (flatT (evx G e x)).getD undef = .int k a := by rw [hx]; rfl
    have hfy : (flatT (evx G e y)).getD undef = .int k' b := by rw [hy]; rfl
    simp only [execOp, hfx, hfy]
    have hg : eqGuard op t x y (.int k a) (.int k' b) = pure () := by cases op <;> rfl
    rw [hg]
    have hb : ∀ (s : Sem Value), pureIn P s = some v → pureIn P (do let v ← s; pure (Next.value v)) = some (.value v) := by
      intro s
      induction s with
      | pure c => intro hs; simp only [pureIn, Option.some.injEq] at hs; subst hs; rfl
      | program f ih => intro hs; exact ih P hs
      | _ => intro hs; simp [pureIn] at hs
    exact hb _ h

theorem evBin_strX {op : BinOp} {t t' : TypeId} {x y : Operand} {a b : ByteArray} {v : Value} {dst : Option Tmp} {type : TypeId} {pos : String} {after : Array Edge} {guard : Option (Nat × Bool)} {S : Specs Γ}
    (hx : evx G e x = .p (.val (.string a))) (hy : evx G e y = .p (.val (.string b))) (h : pureIn P (binOp op t (.string a) (.string b)) = some v) :
    evQ P G S e ⟨dst, .binOp op t x y t', type, pos, after, guard⟩ = some (.ret (.p (V.ofVal v))) := by
  have h1 : evNil (St := Γ.St) P op t (evx G e x) (evx G e y) = none := by rw [hx]; rfl
  have h2 : evEq (St := Γ.St) P op t (evx G e x) (evx G e y) = none := by rw [hx]; rfl
  simp only [evQ, h1, h2]
  refine evFlat_of ?_ ?_
  · simp [Op.operands, hx, hy, flatT, V.toVal, V.toVal1]
  · have hfx : (flatT (evx G e x)).getD undef = .string a := by rw [hx]; rfl
    have hfy : (flatT (evx G e y)).getD undef = .string b := by rw [hy]; rfl
    simp only [execOp, hfx, hfy]
    have hg : eqGuard op t x y (.string a) (.string b) = pure () := by cases op <;> rfl
    rw [hg]
    have hb : ∀ (s : Sem Value), pureIn P s = some v → pureIn P (do let v ← s; pure (Next.value v)) = some (.value v) := by
      intro s
      induction s with
      | pure c => intro hs; simp only [pureIn, Option.some.injEq] at hs; subst hs; rfl
      | program f ih => intro hs; exact ih P hs
      | _ => intro hs; simp [pureIn] at hs
    exact hb _ h

theorem toList_loop (bs : ByteArray) : ∀ (n i : Nat) (r : List UInt8), bs.size - i = n → ByteArray.toList.loop bs i r = r.reverse ++ bs.data.toList.drop i := by
  intro n
  induction n with
  | zero =>
    intro i r h
    unfold ByteArray.toList.loop
    have hs : bs.size = bs.data.size := rfl
    rw [if_neg (by omega), List.drop_eq_nil_of_le (by simp; omega), List.append_nil]
  | succ n ih =>
    intro i r h
    unfold ByteArray.toList.loop
    have hs : bs.size = bs.data.size := rfl
    rw [if_pos (by omega), ih _ _ (by omega)]
    have hlt : i < bs.data.toList.length := by simp; omega
    rw [List.drop_eq_getElem_cons hlt, List.reverse_cons, List.append_assoc]
    congr 1
    simp only [List.cons_append, List.nil_append]
    congr 1
    show bs.data[i]! = _
    simp only [Array.getElem_toList]
    exact getElem!_pos bs.data i (by omega)

theorem toList_bytes (bs : ByteArray) : bs.toList = bs.data.toList := by
  unfold ByteArray.toList
  rw [toList_loop bs _ 0 [] rfl]; rfl

theorem bytes_beq {a b : ByteArray} : (a == b) = true ↔ a = b := by
  obtain ⟨a⟩ := a
  obtain ⟨b⟩ := b
  show (a == b) = true ↔ _
  rw [beq_iff_eq, ByteArray.mk.injEq]

instance : LawfulBEq ByteArray where
  eq_of_beq h := bytes_beq.1 h
  rfl := bytes_beq.2 rfl

theorem bytes_eq (a b : ByteArray) : (a.toList == b.toList) = (a == b) := by
  rw [toList_bytes, toList_bytes]
  apply Bool.eq_iff_iff.2
  rw [beq_iff_eq, beq_iff_eq]
  constructor
  · intro h; obtain ⟨⟨a⟩⟩ := a; obtain ⟨⟨b⟩⟩ := b; simp only at h; subst h; rfl
  · intro h; rw [h]

theorem intX_sound {op : BinOp} {t t' : TypeId} {x y : Operand} {k : IntKind} {a b : Int} {q : Kx Γ ρ} {K : R Γ.St → Option ρ} {v : ρ} {dst : Option Tmp} {type : TypeId} {pos : String} {after : Array Edge} {guard : Option (Nat × Bool)} {S : Specs Γ}
    (hx : evx G e x = .p (.val (.int k a))) (hy : evx G e y = .p (.val (.int k b))) (h : intX op k a b = some q) (hK : q K = some v) (h1 : op ≠ .shl) (h2 : op ≠ .shr) :
    ∃ r, evQ P G S e ⟨dst, .binOp op t x y t', type, pos, after, guard⟩ = some r ∧ K r = some v := by
  have fin : ∀ u, pureIn P (binOp op t (.int k a) (.int k b)) = some u → K (.ret (.p (V.ofVal u))) = some v → ∃ r, evQ P G S e ⟨dst, .binOp op t x y t', type, pos, after, guard⟩ = some r ∧ K r = some v :=
    fun v hv hk => ⟨_, evBin_intX hx hy hv, hk⟩
  have finI : ∀ n, pureIn P (binOp op t (.int k a) (.int k b)) = some (.int k n) → K (retI k n) = some v → ∃ r, evQ P G S e ⟨dst, .binOp op t x y t', type, pos, after, guard⟩ = some r ∧ K r = some v := fun n hv hk => fin _ hv hk
  have finB : ∀ c, pureIn P (binOp op t (.int k a) (.int k b)) = some (.bool c) → K (retB c) = some v → ∃ r, evQ P G S e ⟨dst, .binOp op t x y t', type, pos, after, guard⟩ = some r ∧ K r = some v := fun n hv hk => fin _ hv hk
  have hkk : ∀ s1 s2 : Sem Value, (if k ≠ k then s1 else s2) = s2 := by intro s1 s2; simp
  cases op <;> simp only [intX, bitsOf, Option.some.injEq, reduceCtorEq] at h <;> first | exact absurd rfl h1 | exact absurd rfl h2 | skip
  case quo =>
    subst h
    obtain ⟨hb, hK⟩ := need_some.1 hK
    have hb : b ≠ 0 := by simpa using hb
    refine finI (k.wrap (a.tdiv b)) ?_ hK
    simp only [binOp, hkk, Op.intDiv, if_neg hb]; rfl
  case rem =>
    subst h
    obtain ⟨hb, hK⟩ := need_some.1 hK
    have hb : b ≠ 0 := by simpa using hb
    refine finI (a.tmod b) ?_ hK
    simp only [binOp, hkk, Op.intDiv, if_neg hb]; rfl
  all_goals
    subst h
    first
      | (refine finI _ ?_ hK; simp only [binOp, hkk]; rfl)
      | (refine finB _ ?_ hK; simp only [binOp, hkk]; rfl)

theorem shiftX_sound {op : BinOp} {t t' : TypeId} {x y : Operand} {k k' : IntKind} {a b : Int} {q : Kx Γ ρ} {K : R Γ.St → Option ρ} {v : ρ} {dst : Option Tmp} {type : TypeId} {pos : String} {after : Array Edge} {guard : Option (Nat × Bool)} {S : Specs Γ}
    (hx : evx G e x = .p (.val (.int k a))) (hy : evx G e y = .p (.val (.int k' b))) (h : shiftX op k a b = some q) (hK : q K = some v) :
    ∃ r, evQ P G S e ⟨dst, .binOp op t x y t', type, pos, after, guard⟩ = some r ∧ K r = some v := by
  cases op <;> simp only [shiftX, Option.some.injEq, reduceCtorEq] at h
  case shl =>
    subst h
    obtain ⟨hb, hK⟩ := need_some.1 hK
    have hb : 0 ≤ b := by simpa using hb
    refine ⟨_, evBin_intX (v := .int k (k.wrap (a * 2 ^ min b.toNat k.bits))) hx hy ?_, hK⟩
    simp only [binOp, Op.shift]
    rw [if_neg (by omega)]; rfl
  case shr =>
    subst h
    obtain ⟨hb, hK⟩ := need_some.1 hK
    have hb : 0 ≤ b := by simpa using hb
    refine ⟨_, evBin_intX (v := .int k (a.fdiv (2 ^ min b.toNat k.bits))) hx hy ?_, hK⟩
    simp only [binOp, Op.shift]
    rw [if_neg (by omega)]; rfl

theorem bind_some {α β : Type} {x : Option α} {f : α → Option β} {v : β} (h : Option.bind x f = some v) : ∃ y, x = some y ∧ f y = some v := by
  cases x with
  | none => simp at h
  | some y => exact ⟨y, rfl, by simpa using h⟩

theorem idx_some {α : Type} {xs : List α} {i : Int} {y : α} (h : idx xs i = some y) : 0 ≤ i ∧ xs[i.toNat]? = some y := by
  unfold idx at h
  split at h
  · exact ⟨by assumption, h⟩
  · cases h

theorem boundX_eq {d : Option T} {dflt top : Nat} {i : Int} (hw : boundX d dflt = some i) (h0 : 0 ≤ i) (h1 : i ≤ top) : boundV d dflt top = some i.toNat := by
  unfold boundX at hw
  split at hw
  · simp only [Option.some.injEq] at hw; subst hw; rfl
  · simp only [Option.some.injEq] at hw; subst hw
    simp only [boundV, h0, h1, and_self, if_true]
  · cases hw

theorem qX_sound {q : Kx Γ ρ} {K : R Γ.St → Option ρ} {v : ρ} (h : qX P G S e o = some q) (hK : q K = some v) : ∃ r, evQ P G S.toS e o = some r ∧ K r = some v := by
  obtain ⟨dst, op, type, pos, after, guard⟩ := o
  cases op <;> simp only [qX, reduceCtorEq] at h
  case indexAddr t x ix =>
    split at h
    · rename_i ty xs k0 i hx hix
      split at h
      · rename_i el hu
        split at h
        · rename_i hz
          simp only [Option.some.injEq] at h
          subst h
          obtain ⟨y, hy, hK⟩ := bind_some hK
          obtain ⟨h0, hg⟩ := idx_some hy
          refine ⟨_, ?_, hK⟩
          have hu' : P.underlying t = some (.slice el) := hu
          simp only [evQ, hx, hix, evIndexAddr, h0, if_true, hu', hz, hg]
        · cases h
      · cases h
    · rename_i id ty xs k0 i hx hix
      split at h
      · rename_i el hu
        split at h
        · rename_i hz
          simp only [Option.some.injEq] at h
          subst h
          obtain ⟨y, hy, hK⟩ := bind_some hK
          obtain ⟨h0, hg⟩ := idx_some hy
          have hlt : i.toNat < xs.length := (List.getElem?_eq_some_iff.1 hg).1
          refine ⟨_, ?_, hK⟩
          have hu' : P.underlying t = some (.slice el) := hu
          simp only [evQ, hx, hix, evIndexAddr, h0, if_true, hu', hz, hlt]
        · cases h
      · cases h
    · cases h
  case load t x =>
    split at h
    · rename_i id ty xs i off hx
      simp only [Option.some.injEq] at h
      subst h
      obtain ⟨y, hg, h3⟩ := bind_some hK
      unfold atN at hg
      split at h3
      · rename_i d hd
        refine ⟨_, ?_, h3⟩
        simp only [evQ, hx, evLoad, hg, hd, Option.map_some]
      · cases h3
    · cases h
  case slice t x lo hi mx =>
    split at h
    · rename_i ty xs hx
      split at h
      · rename_i el hu
        split at h
        · rename_i hz
          split at h
          · rename_i hN hbh
            split at h
            · rename_i lN hbl
              simp only [Option.some.injEq] at h
              subst h
              obtain ⟨ys, hys, hK⟩ := bind_some hK
              unfold sub at hys
              split at hys
              · rename_i hc
                simp only [Option.some.injEq] at hys
                subst hys
                refine ⟨_, ?_, hK⟩
                have hu' : P.underlying t = some (.slice el) := hu
                have hb1 : boundV (hi.map (evx G e)) xs.length xs.length = some hN.toNat := boundX_eq hbh (by omega) hc.2.2
                have hb2 : boundV (lo.map (evx G e)) 0 hN.toNat = some lN.toNat := boundX_eq hbl hc.1 (by omega)
                simp only [evQ, hx, evSliceT, hu', hz, if_true, Option.map_none, hb1, hb2]
              · cases hys
            · cases h
          · cases h
        · cases h
      · cases h
    · rename_i id ty xs hx
      split at h
      · rename_i el hu
        split at h
        · rename_i hz
          split at h
          · rename_i hN hbh
            split at h
            · rename_i lN hbl
              simp only [Option.some.injEq] at h
              subst h
              obtain ⟨hc, hK⟩ := need_some.1 hK
              simp only [Bool.and_eq_true, decide_eq_true_eq] at hc
              refine ⟨_, ?_, hK⟩
              have hu' : P.underlying t = some (.slice el) := hu
              have hb1 : boundV (hi.map (evx G e)) xs.length xs.length = some hN.toNat := boundX_eq hbh (by omega) hc.2
              have hb2 : boundV (lo.map (evx G e)) 0 hN.toNat = some lN.toNat := boundX_eq hbl hc.1.1 (by omega)
              simp only [evQ, hx, evSliceO, hu', hz, if_true, Option.map_none, hb1, hb2]
            · cases h
          · cases h
        · cases h
      · cases h
    · cases h
  case index t x ix =>
    split at h
    · rename_i s k0 i hx hix
      split at h
      · rename_i hu
        simp only [Option.some.injEq] at h
        subst h
        obtain ⟨b, hb, hK⟩ := bind_some hK
        unfold byteAt at hb
        split at hb
        · rename_i h0
          simp only [Option.map_eq_some_iff] at hb
          obtain ⟨b0, hg, rfl⟩ := hb
          refine ⟨_, ?_, hK⟩
          have hfl : evFlat (St := Γ.St) P G e ⟨dst, .index t x ix, type, pos, after, guard⟩ = some (.ret (.p (V.ofVal (.int .u8 b0.toNat)))) := by
            refine evFlat_of ?_ ?_
            · simp [Op.operands, hx, hix, flatT, V.toVal, V.toVal1]
            · have hfx : (flatT (evx G e x)).getD undef = .string s := by rw [hx]; rfl
              have hfy : (flatT (evx G e ix)).getD undef = .int k0 i := by rw [hix]; rfl
              have hu' : P.underlying t = some .string := hu
              simp only [execOp, hfx, hfy, Instr.index, asIntOf]
              have hin : pureIn P (do
                  let __x ← pure (k0, i)
                  let __do_lift ← underlying t
                  match __do_lift, Value.string s with
                    | TypeDesc.array len elem, Value.agg cs =>
                      if 0 ≤ __x.snd ∧ __x.snd < ↑len then do
                        let __do_lift ← sizeOf elem
                        part elem cs (__x.snd.toNat * __do_lift)
                      else boundsPanic __x.fst __x.snd (↑len) BoundsCode.index
                    | TypeDesc.string, Value.string s =>
                      match if 0 ≤ __x.snd then s[__x.snd.toNat]? else none with
                      | some b => pure (Value.int IntKind.u8 ↑b.toNat)
                      | none => boundsPanic __x.fst __x.snd (↑s.size) BoundsCode.index
                    | x, x_1 => stuck "Index: array or string expected") = some (Value.int IntKind.u8 ↑b0.toNat) := by
                refine (pureIn_step (s := pure (k0, i)) rfl _).trans ?_
                refine (pureIn_step (pureIn_underlying hu') _).trans ?_
                simp only [h0, if_true, hg]
                rfl
              exact (pureIn_step hin _).trans rfl
          simp only [evQ]
          exact hfl
        · cases hb
      · cases h
    · cases h
  case binOp op t x y t' =>
    split at h
    · rename_i k a k' b hx hy
      split at h
      · exact shiftX_sound hx hy h hK
      · exact shiftX_sound hx hy h hK
      · rename_i h1 h2
        split at h
        · rename_i hk
          subst hk
          exact intX_sound hx hy h hK h1 h2
        · cases h
    · rename_i a b hx hy
      split at h
      · simp only [Option.some.injEq] at h
        subst h
        refine ⟨_, evBin_strX (v := .bool (a == b)) hx hy ?_, hK⟩
        simp only [binOp]
        rw [← bytes_eq]; rfl
      · simp only [Option.some.injEq] at h
        subst h
        refine ⟨_, evBin_strX (v := .bool (a != b)) hx hy ?_, hK⟩
        simp only [binOp, bne]
        rw [← bytes_eq]; rfl
      · cases h
    · cases h
  case pick c x y =>
    split at h
    · rename_i b u w hc hx hy
      have hall : ((⟨dst, .pick c x y, type, pos, after, guard⟩ : Oper).op.operands.toList.all (fun x => (flatT (evx G e x)).isSome)) = true := by
        simp [Op.operands, hx, hy]; rw [hc]; rfl
      have hfc : (flatT (evx G e c)).getD undef = .bool b := by rw [hc]; rfl
      have hfx : (flatT (evx G e x)).getD undef = u := by rw [hx]; rfl
      have hfy : (flatT (evx G e y)).getD undef = w := by rw [hy]; rfl
      have hev : evQ P G S.toS e ⟨dst, .pick c x y, type, pos, after, guard⟩ = some (.ret (.p (V.ofVal (if b then u else w)))) := by
        simp only [evQ]
        refine evFlat_of hall ?_
        simp only [execOp, hfc, hfx, hfy]
        cases b <;> rfl
      split at h
      · rename_i z hz
        simp only [Option.some.injEq] at h
        subst h
        refine ⟨_, hev, ?_⟩
        have : V.ofVal (if b then u else w) = .val z := by
          unfold pickX at hz
          split at hz
          · simp only [Option.some.injEq] at hz; subst hz; cases b <;> rfl
          · split at hz
            · rename_i hk
              subst hk
              simp only [Option.some.injEq] at hz; subst hz; cases b <;> rfl
            · cases hz
          · cases hz
        rw [this]; exact hK
      · simp only [Option.some.injEq] at h
        subst h
        refine ⟨_, hev, ?_⟩
        cases b <;> exact hK
    · cases h
  case call c =>
    split at h
    · rename_i f hcal
      split at h
      · rename_i g caps ds hf hds
        split at h
        · rename_i cx hS
          split at h
          · cases h
          · simp only [Option.some.injEq] at h
            subst h
            obtain ⟨y, hy, hK⟩ := bind_some hK
            split at hK
            · cases hK
            · rename_i hv
              refine ⟨_, ?_, hK⟩
              simp only [evQ, evCall, hcal, hf, hds, callRes, toS_eqX hS hy, hv, Bool.false_eq_true, if_false]
        · cases h
      · cases h
    · rename_i hcal
      split at h
      · rename_i x0 x1 t0 t1 hargs htys
        split at h
        · rename_i q t ys hx0 hx1
          split at h
          · cases h
          · rename_i hno
            split at h
            · rename_i el el1 hu0 hu1
              split at h
              · rename_i info hinfo
                split at h
                · rename_i z hz
                  split at h
                  · rename_i hok
                    split at h
                    · rename_i cx hS
                      simp only [Option.some.injEq] at h
                      subst h
                      obtain ⟨y, hy, hK⟩ := bind_some hK
                      split at hK
                      · rename_i d hd
                        refine ⟨_, ?_, hK⟩
                        have hno' : P.funcs[happId]? = none := hno
                        have hu0' : P.underlying t0 = some (.slice el) := hu0
                        have hu1' : P.underlying t1 = some (.slice el1) := hu1
                        have hinfo' : P.info? el = some info := hinfo
                        have hsp := toS_eqX hS hy
                        rw [hd] at hsp
                        simp only [evQ, evCall, hcal, evHapp, hargs, htys, hx0, hx1, hno', hu0', hu1', hinfo', hz]
                        rw [if_pos hok]
                        simp only [hsp]
                      · cases hK
                    · cases h
                  · cases h
                · cases h
              · cases h
            · cases h
        · cases h
      · cases h
    · cases h
  case makeSlice t l c =>
    split at h
    · rename_i n m hl hc
      split at h
      · rename_i hsame
        have hlc := sameOp_eq hsame
        subst hlc
        rw [hl] at hc
        simp only [T.p.injEq, V.val.injEq, Value.int.injEq, true_and] at hc
        split at h
        · rename_i el hu
          split at h
          · rename_i info hi
            split at h
            · rename_i z ty hz hty
              split at h
              · rename_i x hx
                split at h
                · rename_i hcond
                  obtain ⟨c1, c2, c3, c4⟩ := hcond
                  simp only [Option.some.injEq] at h
                  subst h
                  obtain ⟨xs, hxs, hK⟩ := bind_some hK
                  unfold news at hxs
                  split at hxs
                  · rename_i hb
                    simp only [Option.some.injEq] at hxs
                    subst hxs
                    refine ⟨_, ?_, hK⟩
                    have hu' : P.underlying t = some (.slice el) := hu
                    have hi' : P.info? el = some info := hi
                    have hty' : creTy P el = some ty := hty
                    have hcc : 0 ≤ n ∧ n * info.bytes ≤ 140737488355328 ∧ 1 ≤ info.bytes ∧ (V.ofVal1 z).cells.length = info.size ∧ info.size ≠ 0 := ⟨hb.1, hb.2, c1, c2, c3⟩
                    simp only [evQ, hl, evMakeSlice, hu', hi', hz, hty', hx, if_true]
                    rw [if_pos hcc, if_pos c4]
                  · cases hxs
                · cases h
              · cases h
            · cases h
          · cases h
        · cases h
      · cases h
    · cases h

theorem qXs_sound {q : Kx Γ ρ} {K : R Γ.St → Option ρ} {v : ρ} (h : qXs P G S e o = some q) (hK : q K = some v) : ∃ r, evQ P G S.toS e o = some r ∧ K r = some v := by
  unfold qXs at h
  split at h
  · rename_i q' hq
    simp only [Option.some.injEq] at h
    subst h
    exact qX_sound hq hK
  · split at h
    · cases h
    · split at h
      · rename_i r hr
        simp only [Option.some.injEq] at h
        subst h
        exact ⟨r, hr, hK⟩
      · cases h
end
end Go.Ve

namespace Go.Ve
open Go

section
variable {β : Type}

def kL {α : Type} (f : α → (α → β) → β) : List α → (List α → β) → β
  | [], k => k []
  | x :: r, k => f x (fun x => kL f r (fun r => k (x :: r)))

def kVal : Value → (Value → β) → β
  | .int q n, k => k (.int q n)
  | .bool b, k => k (.bool b)
  | .string s, k => k (.string s)
  | v, k => k v

def kV : Nat → V → (V → β) → β
  | 0, d, k => k d
  | _ + 1, .val v, k => kVal v (fun v => k (.val v))
  | n + 1, .agg cs, k => kL (kV n) cs (fun cs => k (.agg cs))
  | n + 1, .sl cs, k => kL (kV n) cs (fun cs => k (.sl cs))
  | n + 1, .tup cs, k => kL (kV n) cs (fun cs => k (.tup cs))
  | n + 1, .pp cs, k => kL (kV n) cs (fun cs => k (.pp cs))
  | n + 1, .clo f cs, k => kL (kV n) cs (fun cs => k (.clo f cs))
  | _ + 1, .tl t xs, k => k (.tl t xs)
  | _ + 1, .rf o, k => k (.rf o)
  | _ + 1, .bot, k => k .bot

def kT : T → (T → β) → β
  | .p d, k => kV 6 d (fun d => k (.p d))
  | .ow i q es, k => kL (kV 6) es (fun es => k (.ow i q es))
  | .oe i q es j off, k => kL (kV 6) es (fun es => k (.oe i q es j off))
  | .lp s off, k => k (.lp s off)
  | .mp i es ck, k => k (.mp i es ck)
  | .ot i t xs, k => k (.ot i t xs)
  | .oet i t xs j off, k => k (.oet i t xs j off)
  | .ov i t xs j off, k => k (.ov i t xs j off)
  | .emp, k => k .emp
  | .dead, k => k .dead

def kO : Option (List T) → (Option (List T) → β) → β
  | none, k => k none
  | some cs, k => kL kT cs (fun cs => k (some cs))

def kEnv {St : Type} (e : Env St) (k : Env St → β) : β :=
  match e with
  | ⟨tm, vars, st⟩ => kL kT tm (fun tm => kL kO vars (fun vars => k ⟨tm, vars, st⟩))

def kAt {α : Type} (f : α → (α → β) → β) : Nat → List α → (List α → β) → β
  | _, [], k => k []
  | 0, x :: r, k => f x (fun x => k (x :: r))
  | n + 1, x :: r, k => kAt f n r (fun r => k (x :: r))

def kOne {St : Type} (d : Nat) (e : Env St) (k : Env St → β) : β :=
  match e with
  | ⟨tm, vars, st⟩ => kAt kT d tm (fun tm => k ⟨tm, vars, st⟩)

def kOp {St : Type} (o : Oper) (e : Env St) (k : Env St → β) : β :=
  match o.op with
  | .move _ | .assign _ | .load _ _ | .field _ _ _ | .fieldAddr _ _ _ | .indexAddr _ _ _ | .index _ _ _ | .binOp _ _ _ _ _ | .unOp _ _ _ | .convert _ _ _ | .pick _ _ _ | .extract _ _ | .nilCheck _ => match o.dst with
    | some d => kOne d e k
    | none => kEnv e k
  | .call c => match c.callee, o.dst with
    | .builtin .len, some d => kOne d e k
    | .builtin .min, some d => kOne d e k
    | .builtin .max, some d => kOne d e k
    | _, _ => kEnv e k
  | _ => kEnv e k

theorem kL_eq {α : Type} {f : α → (α → β) → β} (hf : ∀ x k, f x k = k x) : ∀ (l : List α) (k : List α → β), kL f l k = k l := by
  intro l
  induction l with
  | nil => intro k; rfl
  | cons x l ih => intro k; simp only [kL, hf, ih]

theorem kVal_eq (v : Value) (k : Value → β) : kVal v k = k v := by cases v <;> rfl

theorem kV_eq : ∀ (n : Nat) (d : V) (k : V → β), kV n d k = k d := by
  intro n
  induction n with
  | zero => intro d k; rfl
  | succ n ih =>
    intro d k
    cases d <;> simp only [kV]
    · exact kVal_eq _ _
    all_goals (first | exact kL_eq ih _ _ | rfl)

theorem kT_eq (x : T) (k : T → β) : kT x k = k x := by
  cases x <;> simp only [kT]
  · exact kV_eq _ _ _
  · exact kL_eq (kV_eq 6) _ _
  · exact kL_eq (kV_eq 6) _ _

theorem kO_eq (x : Option (List T)) (k : Option (List T) → β) : kO x k = k x := by
  cases x with
  | none => rfl
  | some cs => simp only [kO]; exact kL_eq kT_eq _ _

theorem kEnv_eq {St : Type} (e : Env St) (k : Env St → β) : kEnv e k = k e := by
  obtain ⟨tm, vars, st⟩ := e
  simp only [kEnv]
  rw [kL_eq kT_eq, kL_eq kO_eq]

theorem kAt_eq {α : Type} {f : α → (α → β) → β} (hf : ∀ x k, f x k = k x) : ∀ (n : Nat) (l : List α) (k : List α → β), kAt f n l k = k l := by
  intro n l
  induction l generalizing n with
  | nil => intro k; cases n <;> rfl
  | cons x l ih =>
    intro k
    cases n with
    | zero => simp only [kAt, hf]
    | succ n => simp only [kAt]; exact ih n _

theorem kOne_eq {St : Type} (d : Nat) (e : Env St) (k : Env St → β) : kOne d e k = k e := by
  obtain ⟨tm, vars, st⟩ := e
  simp only [kOne]
  rw [kAt_eq kT_eq]

theorem kOp_eq {St : Type} (o : Oper) (e : Env St) (k : Env St → β) : kOp o e k = k e := by
  unfold kOp
  repeat' split
  all_goals (first | exact kOne_eq _ _ _ | exact kEnv_eq _ _)
end

/-- Two states are alike but for what has the numbers in m. -/
structure Agree {St : Type} (m : Nat) (e e1 : Env St) : Prop where
  tl : e1.tm.length = e.tm.length
  vl : e1.vars.length = e.vars.length
  p : ∀ t d, m.testBit (2 * t) = false → e.get t = .p d → e1.get t = .p d
  lp : ∀ t s off, m.testBit (2 * t) = false → m.testBit (2 * s) = false → e.get t = .lp s off → e1.get t = .lp s off
  v : ∀ s (ds : List V), m.testBit (2 * s) = false → m.testBit (2 * s + 1) = false → e.var s = some (ds.map T.p) → e1.var s = some (ds.map T.p)

section
variable {St : Type} {e e1 e2 : Env St} {m n : Nat}

theorem bit_or (m n t : Nat) : (m ||| n).testBit t = false ↔ m.testBit t = false ∧ n.testBit t = false := by
  rw [Nat.testBit_or, Bool.or_eq_false_iff]

theorem bit_pow (s t : Nat) : (2 ^ s).testBit t = false ↔ t ≠ s := by
  rw [Nat.testBit_two_pow, decide_eq_false_iff_not]
  exact ⟨fun h h' => h h'.symm, fun h h' => h h'.symm⟩

theorem bit_gone (s t : Nat) : (2 ^ (2 * s)).testBit (2 * t) = false ↔ t ≠ s := by
  rw [bit_pow]; omega

theorem bit_turn (s t : Nat) : (2 ^ (2 * s + 1)).testBit (2 * t + 1) = false ↔ t ≠ s := by
  rw [bit_pow]; omega

theorem Agree.refl (e : Env St) : Agree 0 e e := ⟨rfl, rfl, fun _ _ _ h => h, fun _ _ _ _ _ h => h, fun _ _ _ _ h => h⟩

theorem Agree.mono (h : Agree m e e1) (hm : ∀ t, n.testBit t = false → m.testBit t = false) : Agree n e e1 :=
  ⟨h.tl, h.vl, fun t d ht => h.p t d (hm _ ht), fun t s off ht hs => h.lp t s off (hm _ ht) (hm _ hs), fun s ds hs hs' => h.v s ds (hm _ hs) (hm _ hs')⟩

theorem Agree.same (h : Agree m e e1) (k : Agree m e1 e2) : Agree m e e2 :=
  ⟨k.tl.trans h.tl, k.vl.trans h.vl, fun t d ht hd => k.p t d ht (h.p t d ht hd), fun t s off ht hs hd => k.lp t s off ht hs (h.lp t s off ht hs hd), fun s ds hs hs' hd => k.v s ds hs hs' (h.v s ds hs hs' hd)⟩

theorem Agree.trans (h : Agree m e e1) (k : Agree n e1 e2) : Agree (m ||| n) e e2 :=
  (h.mono (fun t ht => ((bit_or m n t).1 ht).1)).same (k.mono (fun t ht => ((bit_or m n t).1 ht).2))

/-- What only turns own data. -/
def Fixes (f : T → T) : Prop := (∀ d, f (.p d) = .p d) ∧ (∀ s off, f (.lp s off) = .lp s off) ∧ f .dead = .dead

theorem agree_mapT {f : T → T} (hf : Fixes f) (e : Env St) : Agree 0 e (e.mapT f) := by
  refine ⟨by simp [Env.mapT], by simp [Env.mapT], ?_, ?_, ?_⟩
  · intro t d _ h; rw [get_mapT hf.2.2, h, hf.1]
  · intro t s off _ _ h; rw [get_mapT hf.2.2, h, hf.2.1]
  · intro s ds _ _ h
    rw [var_mapT, h]
    simp [hf.1, Function.comp_def]

theorem agree_kill (d : Nat) (e : Env St) : Agree (2 ^ (2 * d)) e (e.kill d) := by
  refine ⟨by simp [Env.kill], by simp [Env.kill], ?_, ?_, ?_⟩
  · intro t x _ h; rw [get_map, h]; rfl
  · intro t s off _ hs h
    rw [get_map, h]
    simp only [killT]
    rw [if_neg ((bit_gone d s).1 hs)]
  · intro s ds hs _ h
    rw [var_kill, if_neg ((bit_gone d s).1 hs), h]
    simp [killT, Function.comp_def]

theorem get_tmset (e : Env St) (d t : Nat) (x : T) (h : t ≠ d) : ({ e with tm := e.tm.set d x } : Env St).get t = e.get t := by
  simp only [Env.get, List.getD_eq_getElem?_getD]
  rw [List.getElem?_set_ne (fun h' => h h'.symm)]

theorem agree_set (d : Nat) (x : T) (e : Env St) : Agree (2 ^ (2 * d)) e { e with tm := e.tm.set d x } := by
  refine ⟨by simp, rfl, ?_, ?_, ?_⟩
  · intro t y ht h; rw [get_tmset e d t x ((bit_gone d t).1 ht)]; exact h
  · intro t s off ht _ h; rw [get_tmset e d t x ((bit_gone d t).1 ht)]; exact h
  · intro s ds _ _ h; exact h

theorem agree_st (s : St) (e : Env St) : Agree 0 e { e with st := s } := ⟨rfl, rfl, fun _ _ _ h => h, fun _ _ _ _ _ h => h, fun _ _ _ _ h => h⟩

theorem var_vset (e : Env St) (s t : Nat) (x : Option (List T)) (h : t ≠ s) : ({ e with vars := e.vars.set s x } : Env St).var t = e.var t := by
  simp only [Env.var]
  rw [List.getElem?_set_ne (fun h' => h h'.symm)]

theorem agree_vset (s : Nat) (x : Option (List T)) (e : Env St) : Agree (2 ^ (2 * s + 1)) e { e with vars := e.vars.set s x } := by
  refine ⟨rfl, by simp, fun _ _ _ h => h, fun _ _ _ _ _ h => h, ?_⟩
  intro t ds _ ht h
  rw [var_vset e s t x ((bit_turn s t).1 ht)]; exact h

theorem agree_vsetG (s : Nat) (x : Option (List T)) (e : Env St) : Agree (2 ^ (2 * s)) e { e with vars := e.vars.set s x } := by
  refine ⟨rfl, by simp, fun _ _ _ h => h, fun _ _ _ _ _ h => h, ?_⟩
  intro t ds ht _ h
  rw [var_vset e s t x ((bit_gone s t).1 ht)]; exact h

def bitO : Option Nat → Nat
  | some d => 2 ^ (2 * d)
  | none => 0

theorem agree_setR (e : Env St) (d : Nat) (r : R St) : Agree (2 ^ (2 * d)) e (e.setR d r) := by
  unfold Env.setR
  split
  · rename_i cs
    exact ((agree_vsetG d (some cs) e).same (agree_set d (.lp d 0) _)).mono (fun _ h => h)
  · rename_i st v rv
    exact ((agree_st st e).trans (agree_set d (rvT d rv) _)).mono (fun t h => by rw [bit_or]; exact ⟨by simp, h⟩)
  · exact agree_set d _ e

theorem agree_put (e : Env St) (d : Option Nat) (x : T) : Agree (bitO d) e (e.put d x) := by
  cases d with
  | none => exact Agree.refl e
  | some d => exact agree_set d x e

theorem agree_applyR {dst : Option Tmp} {r : R St} (h : applyR e dst r = some e1) : Agree (bitO dst) e e1 := by
  unfold applyR at h
  split at h
  · rename_i d
    split at h
    · split at h
      · simp only [Option.some.injEq] at h; subst h
        exact (agree_kill d e).same (agree_setR _ d _)
      · cases h
    · simp only [Option.some.injEq] at h; subst h
      exact agree_setR e d r
  · split at h
    · simp only [Option.some.injEq] at h; subst h; exact Agree.refl _
    · simp only [Option.some.injEq] at h; subst h; exact agree_st _ _
    · cases h

theorem agree_applyD {dst : Option Tmp} {r : R St} (h : applyD e dst r = some e1) : Agree (bitO dst) e e1 := by
  unfold applyD at h
  split at h
  · rename_i d
    split at h
    · simp only [Option.some.injEq] at h; subst h
      exact agree_setR e d r
    · cases h
  · split at h
    · simp only [Option.some.injEq] at h; subst h; exact Agree.refl _
    · simp only [Option.some.injEq] at h; subst h; exact agree_st _ _
    · cases h
end

def T.bits : T → Nat
  | .lp s _ => 2 ^ (2 * s)
  | .ow i _ _ => 2 ^ (2 * i)
  | .oe i _ _ _ _ => 2 ^ (2 * i)
  | .mp i _ _ => 2 ^ (2 * i)
  | .ot i _ _ => 2 ^ (2 * i)
  | .oet i _ _ _ _ => 2 ^ (2 * i)
  | .ov i _ _ _ _ => 2 ^ (2 * i)
  | _ => 0

def idBit (i : Nat) : Nat :=
  match Nat.beq i lentId with
  | true => 0
  | false => 2 ^ (2 * i)

/-- The number of what is frozen. -/
def T.fbits : T → Nat
  | .lp s _ => 2 ^ (2 * s)
  | .ow i _ _ => idBit i
  | .oe i _ _ _ _ => idBit i
  | .mp i _ _ => idBit i
  | .ot i _ _ => idBit i
  | .oet i _ _ _ _ => idBit i
  | .ov i _ _ _ _ => idBit i
  | _ => 0

section
variable {Γ : Sig} (G : Nat → Option (List V))

/-- The numbers of what an operation may turn. -/
def touchW (e : Env Γ.St) (o : Oper) : Nat :=
  bitO o.dst ||| match o.op with
  | .store _ ap _ => match evx G e ap with
    | .lp s _ => 2 ^ (2 * s + 1)
    | _ => 0
  | .call c => match c.callee, c.args.toList with
    | .builtin .append, x :: _ => (evx G e x).bits
    | _, _ => 0
  | _ => 0

def touchF : List Operand → Env Γ.St → Nat
  | [], _ => 0
  | x :: r, e => (evx G e x).fbits ||| touchF r (frzT1 (evx G e x) e)
end

section
variable {Γ : Sig} {P : Look} {G : Nat → Option (List V)} {e e1 : Env Γ.St} {o : Oper}

theorem fixes_frz (id : Nat) : Fixes (frzOT id) := ⟨fun _ => rfl, fun _ _ => rfl, rfl⟩

theorem agree_frzOE (id : Nat) (e : Env Γ.St) : Agree 0 e (frzOE id e) := by
  unfold frzOE
  split
  · exact Agree.refl e
  · exact agree_mapT (fixes_frz _) e

theorem agree_frzCells : ∀ (cs : List T) (e : Env Γ.St), Agree 0 e (frzCells e cs) := by
  intro cs
  induction cs with
  | nil => intro e; exact Agree.refl e
  | cons x r ih =>
    intro e
    cases x <;> simp only [frzCells] <;> first | exact ih e | exact (agree_frzOE _ e).same (ih _)

theorem agree_frzV (s : Nat) (ds : List V) (e : Env Γ.St) : Agree (2 ^ (2 * s)) e (e.frzV s ds) := by
  unfold Env.frzV
  refine (agree_vsetG s none e).same ?_
  refine ⟨by simp [Env.mapT], by simp [Env.mapT], ?_, ?_, ?_⟩
  · intro t d _ h; rw [get_mapT rfl, h]; rfl
  · intro t s' off _ hs h
    rw [get_mapT rfl, h]
    simp only [frzVT]
    rw [if_neg ((bit_gone s s').1 hs)]
  · intro s' xs _ _ h
    rw [var_mapT, h]
    simp [frzVT, Function.comp_def]

theorem agree_frzT1 (x : T) (e : Env Γ.St) : Agree x.fbits e (frzT1 x e) := by
  have z : ∀ {m : Nat} {e e1 : Env Γ.St}, Agree 0 e e1 → Agree m e e1 := fun h => h.mono (fun t _ => by simp)
  unfold frzT1
  split
  · exact z (agree_frzOE _ e)
  · exact z (agree_frzOE _ e)
  · exact z (agree_frzOE _ e)
  · rename_i s off
    split
    · split
      · split
        · exact (z (agree_frzCells _ e)).same (agree_frzV s _ _)
        · exact z (agree_frzCells _ e)
      · exact z (agree_frzCells _ e)
    · exact z (Agree.refl e)
  · exact z (Agree.refl e)

theorem agree_frzOps : ∀ (xs : List Operand) (e : Env Γ.St), Agree (touchF G xs e) e (frzOps G xs e) := by
  intro xs
  induction xs with
  | nil => intro e; exact Agree.refl e
  | cons x r ih => intro e; exact (agree_frzT1 _ e).trans (ih _)

theorem agree_evW (h : evW P G e o = some e1) : Agree (touchW G e o) e e1 := by
  have z : ∀ {m : Nat} {e e1 : Env Γ.St}, Agree 0 e e1 → Agree m e e1 := fun h => h.mono (fun t _ => by simp)
  obtain ⟨dst, op, type, pos, after, guard⟩ := o
  cases op <;> simp only [evW, reduceCtorEq] at h
  case store t ap x =>
    split at h
    · cases h
    · split at h
      · rename_i s off hap
        unfold evStoreV at h
        split at h
        · split at h
          · simp only [Option.some.injEq] at h; subst h
            refine (agree_vset s _ e).mono ?_
            intro t ht
            simp only [touchW, bit_or, hap] at ht
            exact ht.2
          · cases h
        · cases h
      · split at h
        · unfold evStoreO at h
          split at h
          · split at h
            · simp only [Option.some.injEq] at h; subst h
              exact z (agree_mapT ⟨fun _ => rfl, fun _ _ => rfl, rfl⟩ e)
            · cases h
          · cases h
        · cases h
      · split at h
        · unfold evStoreT at h
          split at h
          · split at h
            · split at h
              · simp only [Option.some.injEq] at h; subst h
                exact z (agree_mapT ⟨fun _ => rfl, fun _ _ => rfl, rfl⟩ e)
              · cases h
            · cases h
          · cases h
        · cases h
      · cases h
  case call c =>
    have key : ∀ (x0 x1 : Operand) (d id : Nat) (y : T), c.callee = .builtin .append → c.args.toList = [x0, x1] → dst = some d → (id = d ∨ (evx G e x0).bits = 2 ^ (2 * id)) →
        Agree (touchW G e ⟨dst, .call c, type, pos, after, guard⟩) e { (e.kill id) with tm := (e.kill id).tm.set d y } := by
      intro x0 x1 d id y hc ha hd hid
      have hs := (agree_kill id e).trans (agree_set d y (e.kill id))
      refine hs.mono ?_
      intro t ht
      simp only [touchW, hc, ha, hd, bitO, bit_or] at ht
      rw [bit_or]
      refine ⟨?_, ht.1⟩
      rcases hid with rfl | hid
      · exact ht.1
      · rw [← hid]; exact ht.2
    split at h
    · rename_i e2 he2
      simp only [Option.some.injEq] at h; subst h
      unfold evAppendT at he2
      split at he2
      · rename_i x0 x1 t0 t1 d hcal hargs htys
        split at he2
        · split at he2
          · split at he2
            · split at he2
              · rename_i nm xs hdst
                split at he2
                · split at he2
                  · simp only [Option.some.injEq] at he2; subst he2
                    refine key x0 x1 d _ _ hcal hargs rfl ?_
                    unfold dstT at hdst
                    split at hdst
                    · simp only [Option.some.injEq, Prod.mk.injEq] at hdst; rw [← hdst.1]; exact .inl rfl
                    · simp only [Option.some.injEq, Prod.mk.injEq] at hdst; rw [← hdst.1]; exact .inl rfl
                    · rename_i heq
                      split at hdst
                      · simp only [Option.some.injEq, Prod.mk.injEq] at hdst
                        rw [← hdst.1, heq]; exact .inr rfl
                      · cases hdst
                    · cases hdst
                  · cases he2
                · cases he2
              · cases he2
            · cases he2
          · cases he2
        · cases he2
      · cases he2
    · split at h
      · rename_i e2 he2
        simp only [Option.some.injEq] at h; subst h
        unfold evAppendV at he2
        split at he2
        · rename_i p x1 t0 t1 d hcal hargs htys _
          split at he2
          · split at he2
            · split at he2
              · split at he2
                · rename_i id t' xs hi hget
                  split at he2
                  · cases he2
                  · split at he2
                    · split at he2
                      · split at he2
                        · simp only [Option.some.injEq] at he2; subst he2
                          refine key (.tmp p) x1 d _ _ hcal hargs rfl (.inr ?_)
                          have : evx G e (.tmp p) = .ov id t' xs 0 hi := hget
                          rw [this]; rfl
                        · cases he2
                      · cases he2
                    · cases he2
                · cases he2
              · cases he2
            · cases he2
          · cases he2
        · cases he2
      · unfold evAppend evAppendN at h
        split at h
        · rename_i x0 x1 t0 t1 d hcal hargs htys hnone hnone2
          split at h
          · split at h
            · split at h
              · split at h
                · split at h
                  · rename_i id k es heq
                    split at h
                    · simp only [Option.some.injEq] at h; subst h
                      exact key x0 x1 d _ _ hcal hargs rfl (.inr (by rw [heq]; rfl))
                    · cases h
                  · split at h
                    · split at h
                      · cases h
                      · cases h
                      · split at h
                        · simp only [Option.some.injEq] at h; subst h
                          refine (agree_put e (some d) _).mono ?_
                          intro t ht
                          simp only [touchW, bit_or] at ht
                          exact ht.1
                        · split at h
                          · simp only [Option.some.injEq] at h; subst h
                            exact key x0 x1 d d _ hcal hargs rfl (.inl rfl)
                          · cases h
                    · cases h
                · cases h
              · cases h
            · cases h
          · cases h
        · cases h
  case mapUpdate t m k v =>
    split at h
    · cases h
    · split at h
      · unfold evUpd at h
        split at h
        · simp only [Option.some.injEq] at h; subst h
          exact z (agree_mapT ⟨fun _ => rfl, fun _ _ => rfl, rfl⟩ e)
        · cases h
      · cases h
end
end Go.Ve

namespace Go.Ve
open Go

section
variable {St : Type}

/-- The state behind an operation: every temporary turned alike, one set anew. -/
def form (e : Env St) (f : T → T) (V : List (Option (List T))) (dst : Option Nat) (y : T) (st : St) : Env St :=
  ⟨match dst with
    | some d => (e.tm.map f).set d y
    | none => e.tm.map f, V, st⟩

structure Leaves (m : Nat) (f : T → T) : Prop where
  p : ∀ d, f (.p d) = .p d
  dead : f .dead = .dead
  lp : ∀ s off, m.testBit (2 * s) = false → f (.lp s off) = .lp s off

theorem Leaves.id (m : Nat) : Leaves m (fun x => x) := ⟨fun _ => rfl, rfl, fun _ _ _ => rfl⟩

theorem Leaves.mono {m n : Nat} {f : T → T} (h : Leaves m f) (hm : ∀ t, n.testBit t = false → m.testBit t = false) : Leaves n f :=
  ⟨h.p, h.dead, fun s off hs => h.lp s off (hm _ hs)⟩

theorem Leaves.kill (d : Nat) : Leaves (2 ^ (2 * d)) (killT d) :=
  ⟨fun _ => rfl, rfl, fun s off hs => by simp only [killT]; rw [if_neg ((bit_gone d s).1 hs)]⟩

structure Alike (e b : Env St) : Prop where
  vars : e.vars = b.vars
  st : e.st = b.st
  len : e.tm.length = b.tm.length

theorem Alike.var {e b : Env St} (h : Alike e b) (s : Nat) : e.var s = b.var s := by simp only [Env.var, h.vars]

theorem form_id (e b : Env St) (h : Alike e b) (y : T) : form e (fun x => x) b.vars none y b.st = e := by
  obtain ⟨tm, vars, st⟩ := e
  have h1 := h.vars
  have h2 := h.st
  simp only at h1 h2
  subst h1 h2
  simp [form]

theorem applyR_form {b b1 : Env St} {dst : Option Tmp} {r : R St} (h : applyR b dst r = some b1) :
    ∃ f V y st, Leaves (bitO dst) f ∧ ∀ e, Alike e b → applyR e dst r = some (form e f V dst y st) := by
  unfold applyR at h
  split at h
  · rename_i d
    split at h
    · rename_i hn
      split at h
      · rename_i hlt
        have go : ∀ (V : List (Option (List T)) → List (Option (List T))) (y : T) (st : St → St), (∀ e : Env St, (e.kill d).setR d (killR d r) = ⟨(e.tm.map (killT d)).set d y, V e.vars, st e.st⟩) →
            ∃ f V y st, Leaves (bitO (some d)) f ∧ ∀ e, Alike e b → applyR e (some d) r = some (form e f V (some d) y st) := by
          intro V y st hk
          refine ⟨killT d, V b.vars, y, st b.st, Leaves.kill d, ?_⟩
          intro e he
          simp only [applyR, hn, if_true]
          rw [if_pos (by rw [he.vars]; exact hlt), hk e, he.vars, he.st]
          rfl
        cases r with
        | var cs => exact go (fun vs => ((vs.set d none).map (fun c => c.map (List.map (killT d)))).set d (some (cs.map (killT d)))) (.lp d 0) (fun s => s) (fun e => rfl)
        | call st v rv => exact go (fun vs => (vs.set d none).map (fun c => c.map (List.map (killT d)))) (rvT d rv) (fun _ => st) (fun e => rfl)
        | ret x => exact go (fun vs => (vs.set d none).map (fun c => c.map (List.map (killT d)))) _ (fun s => s) (fun e => rfl)
        | own k es => exact go (fun vs => (vs.set d none).map (fun c => c.map (List.map (killT d)))) _ (fun s => s) (fun e => rfl)
        | frz es => exact go (fun vs => (vs.set d none).map (fun c => c.map (List.map (killT d)))) _ (fun s => s) (fun e => rfl)
        | mk => exact go (fun vs => (vs.set d none).map (fun c => c.map (List.map (killT d)))) _ (fun s => s) (fun e => rfl)
        | frzT t xs => exact go (fun vs => (vs.set d none).map (fun c => c.map (List.map (killT d)))) _ (fun s => s) (fun e => rfl)
        | ownT t xs => exact go (fun vs => (vs.set d none).map (fun c => c.map (List.map (killT d)))) _ (fun s => s) (fun e => rfl)
      · cases h
    · rename_i hn
      have go : ∀ (y : T) (st : St → St), (∀ e : Env St, e.setR d r = ⟨e.tm.set d y, e.vars, st e.st⟩) →
          ∃ f V y st, Leaves (bitO (some d)) f ∧ ∀ e, Alike e b → applyR e (some d) r = some (form e f V (some d) y st) := by
        intro y st hk
        refine ⟨fun x => x, b.vars, y, st b.st, Leaves.id _, ?_⟩
        intro e he
        simp only [applyR, hn, if_false]
        rw [hk e, ← he.vars, ← he.st]
        simp [form]
      cases r with
      | ret x => exact go _ (fun s => s) (fun e => rfl)
      | call st v rv => exact go (rvT d rv) (fun _ => st) (fun e => rfl)
      | _ => exact absurd rfl hn
  · split at h
    · exact ⟨fun x => x, b.vars, .dead, b.st, Leaves.id _, fun e he => by simp only [applyR]; rw [form_id e b he]⟩
    · rename_i st v x
      refine ⟨fun x => x, b.vars, .dead, st, Leaves.id _, fun e he => ?_⟩
      simp only [applyR, ← he.vars]
      simp [form]
    · cases h
end

section
variable {Γ : Sig} {P : Look} {G : Nat → Option (List V)} {S : Specs Γ} {b b1 : Env Γ.St} {o : Oper}

structure Same (G : Nat → Option (List V)) (e b : Env Γ.St) (o : Oper) : Prop where
  al : Alike e b
  ops : ∀ x, x ∈ o.op.operands → evx G e x = evx G b x

theorem evQA_form (h : evQA P G S b o = some b1) : ∃ f V y st, Leaves (touchW G b o) f ∧ ∀ e, Same G e b o → evQA P G S e o = some (form e f V o.dst y st) := by
  unfold evQA at h
  split at h
  · rename_i r hr
    obtain ⟨f, V, y, st, h1, h2⟩ := applyR_form h
    refine ⟨f, V, y, st, h1.mono (fun t ht => by simp only [touchW, bit_or] at ht; exact ht.1), fun e he => ?_⟩
    have : evQ P G S e o = some r := by
      rw [← hr]
      exact evQ_congr he.ops (fun x _ s off _ => he.al.var s) he.al.st
    simp only [evQA, this, h2 e he.al]
  · cases h

theorem mapT_form (f : T → T) {e b : Env Γ.St} (h : Alike e b) (y : T) : e.mapT f = form e f (b.vars.map (fun c => c.map (List.map f))) none y b.st := by
  simp only [Env.mapT, form, h.vars, h.st]

theorem killset_form {e b : Env Γ.St} (h : Alike e b) (id d : Nat) (y : T) :
    ({ (e.kill id) with tm := (e.kill id).tm.set d y } : Env Γ.St) = form e (killT id) ((b.vars.set id none).map (fun c => c.map (List.map (killT id)))) (some d) y b.st := by
  simp only [Env.kill, form, h.vars, h.st]

theorem evW_form (h : evW P G b o = some b1) : ∃ f V y st, Leaves (touchW G b o) f ∧ ∀ e, Same G e b o → evW P G e o = some (form e f V o.dst y st) := by
  obtain ⟨dst, op, type, pos, after, guard⟩ := o
  cases op <;> simp only [evW, reduceCtorEq] at h
  case store t ap x =>
    have hap : ∀ e, Same G e b ⟨dst, .store t ap x, type, pos, after, guard⟩ → evx G e ap = evx G b ap := fun e he => he.ops ap (by simp [Op.operands])
    have hx : ∀ e, Same G e b ⟨dst, .store t ap x, type, pos, after, guard⟩ → evx G e x = evx G b x := fun e he => he.ops x (by simp [Op.operands])
    split at h
    · cases h
    · split at h
      · rename_i s off hp
        unfold evStoreV at h
        split at h
        · rename_i cs xs hcs hxs
          split at h
          · rename_i hc
            refine ⟨fun x => x, b.vars.set s (some (spliceT cs off xs)), .dead, b.st, Leaves.id _, fun e he => ?_⟩
            have hv : e.var s = some cs := by rw [he.al.var]; exact hcs
            simp only [evW, hap e he, hp, hx e he, evStoreV, hv, hxs]
            rw [if_pos ⟨hc.1, hc.2.1, by rw [he.al.vars]; exact hc.2.2⟩, he.al.vars, he.al.st]
            simp [form]
          · cases h
        · cases h
      · rename_i id k es i off hp
        split at h
        · rename_i d hd
          unfold evStoreO at h
          split at h
          · rename_i q hq
            split at h
            · rename_i hc
              refine ⟨updT id k i (reElem q (spliceV q.cells off d.cells)), b.vars.map (fun c => c.map (List.map (updT id k i (reElem q (spliceV q.cells off d.cells))))), .dead, b.st, ⟨fun _ => rfl, rfl, fun _ _ _ => rfl⟩, fun e he => ?_⟩
              simp only [evW, hap e he, hp, hx e he, hd, evStoreO, hq]
              rw [if_pos hc, mapT_form (updT id k i _) he.al .dead]
            · cases h
          · cases h
        · cases h
      · rename_i id ty xs i off hp
        split at h
        · rename_i d hd
          unfold evStoreT at h
          split at h
          · rename_i hc
            split at h
            · rename_i x0 hx0
              split at h
              · rename_i y0 hy0
                refine ⟨updTT id ty i y0, b.vars.map (fun c => c.map (List.map (updTT id ty i y0))), .dead, b.st, ⟨fun _ => rfl, rfl, fun _ _ _ => rfl⟩, fun e he => ?_⟩
                simp only [evW, hap e he, hp, hx e he, hd, evStoreT, hx0, hy0]
                rw [if_pos hc, mapT_form (updTT id ty i y0) he.al .dead]
              · cases h
            · cases h
          · cases h
        · cases h
      · cases h
  case call c =>
    have hargs : ∀ e, Same G e b ⟨dst, .call c, type, pos, after, guard⟩ → ∀ x, x ∈ c.args.toList → evx G e x = evx G b x := by
      intro e he x hx
      exact he.ops x (by simp only [Op.operands, Call.operands]; exact Array.mem_append_right _ (by simpa using hx))
    have bits : ∀ (x0 x1 : Operand) (d id : Nat), c.callee = .builtin .append → c.args.toList = [x0, x1] → dst = some d → (id = d ∨ (evx G b x0).bits = 2 ^ (2 * id)) →
        Leaves (touchW G b ⟨dst, .call c, type, pos, after, guard⟩) (killT id) := by
      intro x0 x1 d id hc ha hd hid
      refine (Leaves.kill id).mono ?_
      intro t ht
      simp only [touchW, hc, ha, hd, bitO, bit_or] at ht
      rcases hid with rfl | hid
      · exact ht.1
      · rw [← hid]; exact ht.2
    -- what the three appends look at
    have hT : ∀ e, Same G e b ⟨dst, .call c, type, pos, after, guard⟩ → evAppendT P G b dst c = none → evAppendT P G e dst c = none := by
      intro e he hn
      unfold evAppendT at hn ⊢
      split
      · rename_i x0 x1 t0 t1 d hcal hars htys
        have h0 : evx G e x0 = evx G b x0 := hargs e he x0 (by rw [hars]; simp)
        have h1 : evx G e x1 = evx G b x1 := hargs e he x1 (by rw [hars]; simp)
        simp only [hcal, hars, htys] at hn
        rw [h0, h1]
        repeat' split at hn
        all_goals first | cases hn | skip
        all_goals simp_all
      · rfl
    have hV : ∀ e, Same G e b ⟨dst, .call c, type, pos, after, guard⟩ → evAppendV P G b dst c = none → evAppendV P G e dst c = none := by
      intro e he hn
      unfold evAppendV at hn ⊢
      split
      · rename_i p x1 t0 t1 d hcal hars htys
        have h0 : e.get p = b.get p := hargs e he (.tmp p) (by rw [hars]; simp)
        have h1 : evx G e x1 = evx G b x1 := hargs e he x1 (by rw [hars]; simp)
        simp only [hcal, hars, htys] at hn
        rw [h0, h1]
        repeat' split at hn
        all_goals first | cases hn | skip
        all_goals simp_all
      · rfl
    split at h
    · rename_i e2 he2
      simp only [Option.some.injEq] at h; subst h
      unfold evAppendT at he2
      split at he2
      · rename_i x0 x1 t0 t1 d hcal hars htys
        split at he2
        · rename_i el el1 hu0 hu1
          split at he2
          · rename_i info hinfo
            split at he2
            · rename_i z t ys hz hsrc
              split at he2
              · rename_i nm xs hdst
                split at he2
                · rename_i hok
                  split at he2
                  · rename_i hroom
                    refine ⟨killT (nm.getD d), ((b.vars.set (nm.getD d) none).map (fun c => c.map (List.map (killT (nm.getD d))))), .ot (nm.getD d) t (xs ++ ys), b.st, bits x0 x1 d _ hcal hars rfl ?_, fun e he => ?_⟩
                    · unfold dstT at hdst
                      split at hdst
                      · simp only [Option.some.injEq, Prod.mk.injEq] at hdst; rw [← hdst.1]; exact .inl rfl
                      · simp only [Option.some.injEq, Prod.mk.injEq] at hdst; rw [← hdst.1]; exact .inl rfl
                      · rename_i heq
                        split at hdst
                        · simp only [Option.some.injEq, Prod.mk.injEq] at hdst
                          rw [← hdst.1, heq]; exact .inr rfl
                        · cases hdst
                      · cases hdst
                    · have h0 : evx G e x0 = evx G b x0 := hargs e he x0 (by rw [hars]; simp)
                      have h1 : evx G e x1 = evx G b x1 := hargs e he x1 (by rw [hars]; simp)
                      have : evAppendT P G e (some d) c = some { (e.kill (nm.getD d)) with tm := (e.kill (nm.getD d)).tm.set d (.ot (nm.getD d) t (xs ++ ys)) } := by
                        simp only [evAppendT, hcal, hars, htys, hu0, hu1, hinfo, hz, h0, h1, hsrc, hdst]
                        rw [if_pos hok, if_pos hroom]
                      simp only [evW, this]
                      rw [killset_form he.al]
                  · cases he2
                · cases he2
              · cases he2
            · cases he2
          · cases he2
        · cases he2
      · cases he2
    · rename_i hnoT
      split at h
      · rename_i e2 he2
        simp only [Option.some.injEq] at h; subst h
        unfold evAppendV at he2
        split at he2
        · rename_i p x1 t0 t1 d hcal hars htys
          split at he2
          · rename_i el el1 hu0 hu1
            split at he2
            · rename_i info hinfo
              split at he2
              · rename_i z t y ys hz hsrc
                split at he2
                · rename_i id t' xs hi hget
                  split at he2
                  · cases he2
                  · rename_i hne
                    split at he2
                    · rename_i htt
                      subst htt
                      split at he2
                      · rename_i hok
                        split at he2
                        · rename_i hroom
                          refine ⟨killT id, ((b.vars.set (id) none).map (fun c => c.map (List.map (killT (id))))), .ot id t' (List.take hi xs ++ y :: ys), b.st, bits (.tmp p) x1 d _ hcal hars rfl (.inr ?_), fun e he => ?_⟩
                          · have : evx G b (.tmp p) = .ov id t' xs 0 hi := hget
                            rw [this]; rfl
                          · have h0 : e.get p = b.get p := hargs e he (.tmp p) (by rw [hars]; simp)
                            have h1 : evx G e x1 = evx G b x1 := hargs e he x1 (by rw [hars]; simp)
                            have : evAppendV P G e (some d) c = some { (e.kill id) with tm := (e.kill id).tm.set d (.ot id t' (List.take hi xs ++ y :: ys)) } := by
                              simp only [evAppendV, hcal, hars, htys, hu0, hu1, hinfo, hz, h0, h1, hsrc, hget]
                              rw [if_neg hne, dif_pos trivial, if_pos hok, if_pos hroom]
                            simp only [evW, hT e he hnoT, this]
                            rw [killset_form he.al]
                        · cases he2
                      · cases he2
                    · cases he2
                · cases he2
              · cases he2
            · cases he2
          · cases he2
        · cases he2
      · rename_i hnoV
        unfold evAppend evAppendN at h
        split at h
        · rename_i x0 x1 t0 t1 d hcal hars htys
          split at h
          · rename_i el el1 hu0 hu1
            split at h
            · rename_i info hinfo
              split at h
              · rename_i z es2 hz hes2
                split at h
                · rename_i hok
                  have h0 : ∀ e, Same G e b ⟨some d, .call c, type, pos, after, guard⟩ → evx G e x0 = evx G b x0 := fun e he => hargs e he x0 (by rw [hars]; simp)
                  have h1 : ∀ e, Same G e b ⟨some d, .call c, type, pos, after, guard⟩ → evx G e x1 = evx G b x1 := fun e he => hargs e he x1 (by rw [hars]; simp)
                  split at h
                  · rename_i id k es heq
                    split at h
                    · rename_i hc
                      refine ⟨killT id, ((b.vars.set (id) none).map (fun c => c.map (List.map (killT (id))))), .ow id k (es ++ es2), b.st, bits x0 x1 d _ hcal hars rfl (.inr (by rw [heq]; rfl)), fun e he => ?_⟩
                      have : evAppend P G e (some d) c = some { (e.kill id) with tm := (e.kill id).tm.set d (.ow id k (es ++ es2)) } := by
                        simp only [evAppend, evAppendN, hcal, hars, htys, hu0, hu1, hinfo, hz, h0 e he, h1 e he, hes2, hok, if_true, heq]
                        rw [if_pos hc]
                      simp only [evW, hT e he hnoT, hV e he hnoV, this]
                      rw [killset_form he.al]
                    · cases h
                  · split at h
                    · split at h
                      · cases h
                      · cases h
                      · split at h
                        · refine ⟨fun x => x, b.vars, evx G b x0, b.st, Leaves.id _, fun e he => ?_⟩
                          have : evAppend P G e (some d) c = some (e.put (some d) (evx G b x0)) := by
                            simp only [evAppend, evAppendN, hcal, hars, htys, hu0, hu1, hinfo, hz, h0 e he, h1 e he]
                            simp_all
                          simp only [evW, hT e he hnoT, hV e he hnoV, this]
                          simp only [Env.put, form, ← he.al.vars, ← he.al.st]
                          simp
                        · rename_i q r
                          split at h
                          · rename_i hroom
                            refine ⟨killT d, ((b.vars.set (d) none).map (fun c => c.map (List.map (killT (d))))), .ow d info.size (q :: r), b.st, bits x0 x1 d d hcal hars rfl (.inl rfl), fun e he => ?_⟩
                            have : evAppend P G e (some d) c = some { (e.kill d) with tm := (e.kill d).tm.set d (.ow d info.size (q :: r)) } := by
                              simp only [evAppend, evAppendN, hcal, hars, htys, hu0, hu1, hinfo, hz, h0 e he, h1 e he]
                              simp_all
                            simp only [evW, hT e he hnoT, hV e he hnoV, this]
                            rw [killset_form he.al]
                          · cases h
                    · cases h
                · cases h
              · cases h
            · cases h
          · cases h
        · cases h
  case mapUpdate t m k v =>
    split at h
    · cases h
    · split at h
      · rename_i id es ck k0 v0 hm hk hv
        unfold evUpd at h
        split at h
        · rename_i es' ck' hu
          refine ⟨updM id es' ck', b.vars.map (fun c => c.map (List.map (updM id es' ck'))), .dead, b.st, ⟨fun _ => rfl, rfl, fun _ _ _ => rfl⟩, fun e he => ?_⟩
          have h0 : evx G e m = evx G b m := he.ops m (by simp [Op.operands])
          have h1 : evx G e k = evx G b k := he.ops k (by simp [Op.operands])
          have h2 : evx G e v = evx G b v := he.ops v (by simp [Op.operands])
          simp only [evW, h0, h1, h2, hm, hk, hv, evUpd, hu]
          rw [mapT_form (updM id es' ck') he.al .dead]
        · cases h
      · cases h
end
end Go.Ve

namespace Go.Ve
open Go

/-- What a floating operation leaves: a value; what another temporary holds. -/
inductive FV where
  | c (x : T)
  | a (s : Nat)

structure Fl where
  i : Nat
  d : Nat
  v : FV

section
variable {St : Type}

def Fl.val (q : Fl) (e : Env St) : T :=
  match q.v with
  | .c x => x
  | .a s => e.get s

def putF (e : Env St) (q : Fl) : Env St := { e with tm := e.tm.set q.d (q.val e) }

def putL (e : Env St) (L : List Fl) : Env St := L.foldl putF e

/-- The temporaries of floating operations are all different, and nobody copies one of them. -/
structure FlOk (n : Nat) (L : List Fl) : Prop where
  dist : L.Pairwise (fun p q => p.d ≠ q.d)
  lt : ∀ q, q ∈ L → q.d < n
  src : ∀ q, q ∈ L → ∀ s, q.v = .a s → ∀ p, p ∈ L → s ≠ p.d

theorem FlOk.filter {n : Nat} {L : List Fl} (h : FlOk n L) (p : Fl → Bool) : FlOk n (L.filter p) :=
  ⟨h.dist.filter _, fun q hq => h.lt q (List.mem_filter.1 hq).1, fun q hq s hs p hp => h.src q (List.mem_filter.1 hq).1 s hs p (List.mem_filter.1 hp).1⟩

theorem putF_len (e : Env St) (q : Fl) : (putF e q).tm.length = e.tm.length := by simp [putF]

theorem putL_len : ∀ (L : List Fl) (e : Env St), (putL e L).tm.length = e.tm.length := by
  intro L
  induction L with
  | nil => intro e; rfl
  | cons q L ih => intro e; exact (ih (putF e q)).trans (putF_len e q)

theorem putL_vars : ∀ (L : List Fl) (e : Env St), (putL e L).vars = e.vars ∧ (putL e L).st = e.st := by
  intro L
  induction L with
  | nil => intro e; exact ⟨rfl, rfl⟩
  | cons q L ih => intro e; exact ih (putF e q)

theorem putL_alike (L : List Fl) (e : Env St) : Alike (putL e L) e := ⟨(putL_vars L e).1, (putL_vars L e).2, putL_len L e⟩

theorem get_putF (e : Env St) (q : Fl) (t : Nat) : (putF e q).get t = if t = q.d ∧ q.d < e.tm.length then q.val e else e.get t := get_set e q.d t (q.val e)

theorem putL_get : ∀ (L : List Fl) (e : Env St) (n : Nat), FlOk n L → n ≤ e.tm.length → (∀ t, (∀ q, q ∈ L → t ≠ q.d) → (putL e L).get t = e.get t) ∧ (∀ q, q ∈ L → (putL e L).get q.d = q.val e) := by
  intro L
  induction L with
  | nil => intro e n _ _; exact ⟨fun _ _ => rfl, fun q hq => by simp at hq⟩
  | cons q L ih =>
    intro e n h hn
    have hd := List.pairwise_cons.1 h.dist
    have hL : FlOk n L := ⟨hd.2, fun p hp => h.lt p (List.mem_cons_of_mem _ hp), fun p hp s hs r hr => h.src p (List.mem_cons_of_mem _ hp) s hs r (List.mem_cons_of_mem _ hr)⟩
    obtain ⟨h1, h2⟩ := ih (putF e q) n hL (by rw [putF_len]; exact hn)
    refine ⟨?_, ?_⟩
    · intro t ht
      show (putL (putF e q) L).get t = e.get t
      rw [h1 t (fun p hp => ht p (List.mem_cons_of_mem _ hp)), get_putF, if_neg (fun hh => ht q (by simp) hh.1)]
    · intro p hp
      show (putL (putF e q) L).get p.d = p.val e
      rcases List.mem_cons.1 hp with rfl | hp
      · rw [h1 p.d (fun r hr => hd.1 r hr), get_putF, if_pos ⟨rfl, Nat.lt_of_lt_of_le (h.lt p (by simp)) hn⟩]
      · rw [h2 p hp]
        unfold Fl.val
        cases hv : p.v with
        | c x => rfl
        | a s =>
          simp only
          rw [get_putF, if_neg (fun hh => h.src p (List.mem_cons_of_mem _ hp) s hv q (by simp) hh.1)]

theorem env_ext {e b : Env St} (h : Alike e b) (hg : ∀ t, e.get t = b.get t) : e = b := by
  obtain ⟨tm, vars, st⟩ := e
  obtain ⟨tm', vars', st'⟩ := b
  have h1 := h.vars
  have h2 := h.st
  have h3 := h.len
  simp only at h1 h2 h3
  subst h1 h2
  have : tm = tm' := by
    apply List.ext_getElem h3
    intro i h4 h5
    have := hg i
    simpa [Env.get, List.getD_eq_getElem?_getD, h4, h5] using this
  rw [this]

theorem Alike.trans {e b c : Env St} (h : Alike e b) (k : Alike b c) : Alike e c := ⟨h.vars.trans k.vars, h.st.trans k.st, h.len.trans k.len⟩
theorem Alike.symm {e b : Env St} (h : Alike e b) : Alike b e := ⟨h.vars.symm, h.st.symm, h.len.symm⟩

/-- Values that are put once more. -/
theorem putL_twice {fl : List Fl} {e : Env St} (h : FlOk e.tm.length fl) (p p' : Fl → Bool) (hp : ∀ q, q ∈ fl → p q = true → p' q = true) : putL (putL e (fl.filter p)) (fl.filter p') = putL e (fl.filter p') := by
  refine env_ext ((putL_alike _ _).trans ((putL_alike _ e).trans (putL_alike _ e).symm)) ?_
  intro t
  obtain ⟨a1, a2⟩ := putL_get (fl.filter p) e _ (h.filter p) (Nat.le_refl _)
  obtain ⟨b1, b2⟩ := putL_get (fl.filter p') e _ (h.filter p') (Nat.le_refl _)
  obtain ⟨c1, c2⟩ := putL_get (fl.filter p') (putL e (fl.filter p)) e.tm.length (h.filter p') (by rw [putL_len]; exact Nat.le_refl _)
  by_cases ht : ∃ q, q ∈ fl.filter p' ∧ t = q.d
  · obtain ⟨q, hq, rfl⟩ := ht
    rw [b2 q hq, c2 q hq]
    unfold Fl.val
    cases hv : q.v with
    | c x => rfl
    | a s =>
      simp only
      exact a1 s (fun r hr => h.src q (List.mem_filter.1 hq).1 s hv r (List.mem_filter.1 hr).1)
  · have ht' : ∀ q, q ∈ fl.filter p' → t ≠ q.d := fun q hq hh => ht ⟨q, hq, hh⟩
    rw [b1 t ht', c1 t ht']
    refine a1 t (fun q hq => ht' q ?_)
    obtain ⟨h1, h2⟩ := List.mem_filter.1 hq
    exact List.mem_filter.2 ⟨h1, hp q h1 h2⟩

/-- One more value. -/
theorem putL_more {fl : List Fl} {e : Env St} (h : FlOk e.tm.length fl) (p p' : Fl → Bool) {q : Fl} (hq : q ∈ fl) (hp : ∀ r, r ∈ fl → (p' r = true ↔ p r = true ∨ r.d = q.d)) (hpq : p q = false) :
    putF (putL e (fl.filter p)) q = putL e (fl.filter p') := by
  have hal : Alike (putF (putL e (fl.filter p)) q) e := ⟨(putL_vars _ e).1, (putL_vars _ e).2, by rw [putF_len, putL_len]⟩
  refine env_ext (hal.trans (putL_alike _ e).symm) ?_
  intro t
  obtain ⟨a1, a2⟩ := putL_get (fl.filter p) e _ (h.filter p) (Nat.le_refl _)
  obtain ⟨b1, b2⟩ := putL_get (fl.filter p') e _ (h.filter p') (Nat.le_refl _)
  have hval : q.val (putL e (fl.filter p)) = q.val e := by
    unfold Fl.val
    cases hv : q.v with
    | c x => rfl
    | a s =>
      simp only
      exact a1 s (fun r hr => h.src q hq s hv r (List.mem_filter.1 hr).1)
  rw [get_putF, putL_len]
  by_cases htq : t = q.d
  · subst htq
    rw [if_pos ⟨rfl, h.lt q hq⟩, hval, b2 q (List.mem_filter.2 ⟨hq, (hp q hq).2 (.inr rfl)⟩)]
  · rw [if_neg (fun hh => htq hh.1)]
    by_cases ht : ∃ r, r ∈ fl.filter p ∧ t = r.d
    · obtain ⟨r, hr, rfl⟩ := ht
      obtain ⟨h1, h2⟩ := List.mem_filter.1 hr
      rw [a2 r hr, b2 r (List.mem_filter.2 ⟨h1, (hp r h1).2 (.inl h2)⟩)]
    · have ht' : ∀ r, r ∈ fl.filter p → t ≠ r.d := fun r hr hh => ht ⟨r, hr, hh⟩
      rw [a1 t ht', b1 t ?_]
      intro r hr hh
      obtain ⟨h1, h2⟩ := List.mem_filter.1 hr
      rcases (hp r h1).1 h2 with h3 | h3
      · exact ht' r (List.mem_filter.2 ⟨h1, h3⟩) hh
      · exact htq (hh.trans h3)

/-- What a chain's operation leaves of a floating value. -/
def Stays (m : Nat) (dst : Option Nat) (q : Fl) : Prop :=
  dst ≠ some q.d ∧ match q.v with
    | .c (.p _) => True
    | .c (.lp s _) => m.testBit (2 * s) = false
    | .c _ => False
    | .a s => dst ≠ some s

theorem get_form {e : Env St} {f : T → T} {V : List (Option (List T))} {dst : Option Nat} {y : T} {st : St} (hf : f .dead = .dead) (t : Nat) (ht : dst ≠ some t) : (form e f V dst y st).get t = f (e.get t) := by
  cases dst with
  | none =>
    simp only [form, Env.get, List.getD_eq_getElem?_getD, List.getElem?_map]
    cases e.tm[t]? <;> simp [hf]
  | some d =>
    simp only [form, Env.get, List.getD_eq_getElem?_getD]
    rw [List.getElem?_set_ne (fun h => ht (by rw [h])), List.getElem?_map]
    cases e.tm[t]? <;> simp [hf]

theorem putF_form {e : Env St} {m : Nat} {f : T → T} {V : List (Option (List T))} {dst : Option Nat} {y : T} {st : St} (hf : Leaves m f) {q : Fl} (hq : Stays m dst q) :
    form (putF e q) f V dst y st = putF (form e f V dst y st) q := by
  have hv : f (q.val e) = q.val (form e f V dst y st) := by
    unfold Fl.val
    have h2 := hq.2
    cases hv : q.v with
    | c x =>
      rw [hv] at h2
      cases x with
      | p d => exact hf.p d
      | lp s off => exact hf.lp s off h2
      | _ => exact h2.elim
    | a s =>
      rw [hv] at h2
      exact (get_form hf.dead s h2).symm
  cases dst with
  | none =>
    simp only [form, putF, List.map_set]
    rw [hv]; rfl
  | some d =>
    have hne : d ≠ q.d := fun h => hq.1 (by rw [h])
    simp only [form, putF, List.map_set]
    rw [hv, List.set_comm _ _ (fun h => hne h.symm)]; rfl

theorem putL_form : ∀ (L : List Fl) {e : Env St} {m : Nat} {f : T → T} {V : List (Option (List T))} {dst : Option Nat} {y : T} {st : St}, Leaves m f → (∀ q, q ∈ L → Stays m dst q) →
    form (putL e L) f V dst y st = putL (form e f V dst y st) L := by
  intro L
  induction L with
  | nil => intro e m f V dst y st _ _; rfl
  | cons q L ih =>
    intro e m f V dst y st hf hs
    show form (putL (putF e q) L) f V dst y st = putL (putF (form e f V dst y st) q) L
    rw [ih hf (fun r hr => hs r (List.mem_cons_of_mem _ hr)), putF_form hf (hs q (by simp))]
end

section
variable {Γ : Sig} {P : Program} {G : Nat → Option (List V)} {S : Specs Γ}

/-- Lists of the frame's own among the operands. -/
def otIds (G : Nat → Option (List V)) (e : Env Γ.St) : List Operand → List Nat
  | [] => []
  | x :: r => match evx G e x with
    | .ot id _ _ => id :: otIds G e r
    | _ => otIds G e r

def frzI : List Nat → Env Γ.St → Env Γ.St
  | [], e => e
  | i :: r, e => frzI r (frzOE i e)

/-- What a composite is built of is frozen first. -/
def frzB (G : Nat → Option (List V)) (o : Oper) (e : Env Γ.St) : Env Γ.St := frzI (otIds G e o.op.operands.toList) e

def isBuild (o : Oper) : Bool :=
  match o.op with
  | .build _ _ => true
  | _ => false

theorem frzI_map : ∀ (l : List Nat), ∃ g : T → T, (∀ d, g (.p d) = .p d) ∧ g .dead = .dead ∧ (∀ s off, g (.lp s off) = .lp s off) ∧ ∀ e : Env Γ.St, frzI l e = e.mapT g := by
  intro l
  induction l with
  | nil => exact ⟨fun x => x, fun _ => rfl, rfl, fun _ _ => rfl, fun e => by
      unfold frzI Env.mapT
      cases e with
      | mk tm vr st => simp⟩
  | cons i r ih =>
    obtain ⟨g, h1, h2, h3, h4⟩ := ih
    cases hb : Nat.beq i lentId with
    | true => exact ⟨g, h1, h2, h3, fun e => by simp only [frzI, frzOE, hb, h4]⟩
    | false =>
      refine ⟨fun x => g (frzOT i x), fun d => h1 d, h2, fun s off => h3 s off, fun e => ?_⟩
      simp only [frzI, frzOE, hb, h4]
      unfold Env.mapT
      cases e with
      | mk tm vr st =>
        simp [Function.comp_def]

theorem otIds_same {e b : Env Γ.St} : ∀ (l : List Operand), (∀ x, x ∈ l → evx G e x = evx G b x) → otIds G e l = otIds G b l := by
  intro l
  induction l with
  | nil => intro _; rfl
  | cons x r ih =>
    intro h
    simp only [otIds, h x (by simp), ih (fun y hy => h y (List.mem_cons_of_mem _ hy))]

theorem Inv.frzI {w0 : World} {F0 : Blk → Prop} {O0 : Lent} {a : Act} {w : World} : ∀ (l : List Nat) {e : Env Γ.St}, Inv Γ G w0 F0 O0 a w e → Inv Γ G w0 F0 O0 a w (Ve.frzI l e) := by
  intro l
  induction l with
  | nil => intro e h; exact h
  | cons i r ih => intro e h; exact ih (h.frzOE i)

/-- What an operation may come to. -/
def Route (P : Look) (G : Nat → Option (List V)) (S : Specs Γ) (e : Env Γ.St) (o : Oper) (e1 : Env Γ.St) : Prop :=
  evQA P G S e o = some e1 ∨ evW P G e o = some e1 ∨ (isBuild o = true ∧ evQA P G S (frzB G o e) o = some e1)

theorem touchW_build {e : Env Γ.St} {o : Oper} (h : isBuild o = true) : touchW G e o = bitO o.dst := by
  unfold isBuild at h
  unfold touchW
  split at h
  · rename_i hop; simp [hop]
  · cases h

theorem route_form {L : Look} {b b1 : Env Γ.St} {o : Oper} (h : Route L G S b o b1) : ∃ f V y st, Leaves (touchW G b o) f ∧ b1 = form b f V o.dst y st ∧ ∀ e, Same G e b o → Route L G S e o (form e f V o.dst y st) := by
  have hb : Same G b b o := ⟨⟨rfl, rfl, rfl⟩, fun _ _ => rfl⟩
  rcases h with h | h | ⟨hB, h⟩
  · obtain ⟨f, V, y, st, h1, h2⟩ := evQA_form h
    have := h2 b hb
    rw [h] at this
    exact ⟨f, V, y, st, h1, Option.some.inj this, fun e he => .inl (h2 e he)⟩
  · obtain ⟨f, V, y, st, h1, h2⟩ := evW_form h
    have := h2 b hb
    rw [h] at this
    exact ⟨f, V, y, st, h1, Option.some.inj this, fun e he => .inr (.inl (h2 e he))⟩
  · obtain ⟨g, g1, g2, g3, g4⟩ := frzI_map (Γ := Γ) (otIds G b o.op.operands.toList)
    obtain ⟨f, V, y, st, h1, h2⟩ := evQA_form h
    rw [touchW_build hB] at h1
    have hform : ∀ e : Env Γ.St, form (e.mapT g) f V o.dst y st = form e (fun x => f (g x)) V o.dst y st := by
      intro e
      unfold form Env.mapT
      cases o.dst <;> simp [Function.comp_def]
    have key : ∀ e, Same G e b o → frzB G o e = e.mapT g ∧ evQA L G S (frzB G o e) o = some (form e (fun x => f (g x)) V o.dst y st) := by
      intro e he
      have hids : otIds G e o.op.operands.toList = otIds G b o.op.operands.toList := otIds_same _ (fun x hx => he.2 x (by simpa using hx))
      have hfe : frzB G o e = e.mapT g := by unfold frzB; rw [hids, g4]
      have hfb : frzB G o b = b.mapT g := by unfold frzB; rw [g4]
      refine ⟨hfe, ?_⟩
      rw [hfe, ← hform]
      apply h2
      rw [hfb]
      obtain ⟨⟨e1, e2, e3⟩, e4⟩ := he
      refine ⟨⟨?_, ?_, ?_⟩, ?_⟩
      · simp [Env.mapT, e1]
      · simp [Env.mapT, e2]
      · simp [Env.mapT, e3]
      · intro x hx
        have := e4 x hx
        cases x with
        | tmp t =>
          have ht : e.get t = b.get t := this
          show (e.mapT g).get t = (b.mapT g).get t
          have hg : ∀ c : Env Γ.St, (c.mapT g).get t = g (c.get t) := by
            intro c
            simp only [Env.mapT, Env.get, List.getD_eq_getElem?_getD, List.getElem?_map]
            cases c.tm[t]? <;> simp [g2]
          rw [hg, hg, ht]
        | _ => rfl
    refine ⟨fun x => f (g x), V, y, st, ?_, ?_, fun e he => .inr (.inr ⟨hB, (key e he).2⟩)⟩
    · rw [touchW_build hB]
      exact ⟨fun d => by simp only [g1]; exact h1.p d, by simp only [g2]; exact h1.dead, fun s off hs => by simp only [g3]; exact h1.lp s off hs⟩
    · have := (key b hb).2
      rw [h] at this
      exact Option.some.inj this

theorem Route.op {e e1 : Env Γ.St} {o : Oper} (hS : Table Γ P G S) (h : Route P G S e o e1) : OpOk P G e o e1 := by
  intro w0 F0 O0 a w Q hi
  rcases h with h | h | ⟨_, h⟩
  · exact evQA_sim hS hi h
  · exact evW_sim hi h
  · exact evQA_sim hS (hi.frzI _) h

/-- A chain's operation, whatever floating values are there already. -/
theorem route_put {L : Look} {fl : List Fl} {b b1 : Env Γ.St} {o : Oper} {A p : Fl → Bool} (hfl : FlOk b.tm.length fl) (hA : ∀ q, q ∈ fl → A q = true → p q = true)
    (hops : ∀ q, q ∈ fl → Operand.tmp q.d ∈ o.op.operands → A q = true)
    (h : Route L G S (putL b (fl.filter A)) o b1) (hst : ∀ q, q ∈ fl → Stays (touchW G (putL b (fl.filter A)) o) o.dst q) : Route L G S (putL b (fl.filter p)) o (putL b1 (fl.filter p)) := by
  obtain ⟨f, V, y, st, h1, rfl, h3⟩ := route_form h
  rw [← putL_twice hfl A p hA]
  have hlen : (putL b (fl.filter A)).tm.length = b.tm.length := putL_len _ _
  obtain ⟨c1, c2⟩ := putL_get (fl.filter p) (putL b (fl.filter A)) _ (hfl.filter p) (by rw [hlen]; exact Nat.le_refl _)
  obtain ⟨a1, a2⟩ := putL_get (fl.filter A) b _ (hfl.filter A) (Nat.le_refl _)
  have hsame : Same G (putL (putL b (fl.filter A)) (fl.filter p)) (putL b (fl.filter A)) o := by
    refine ⟨putL_alike _ _, ?_⟩
    intro x hx
    cases x with
    | tmp t =>
      show (putL (putL b (fl.filter A)) (fl.filter p)).get t = (putL b (fl.filter A)).get t
      by_cases ht : ∃ q, q ∈ fl.filter p ∧ t = q.d
      · obtain ⟨q, hq, rfl⟩ := ht
        have hq1 := (List.mem_filter.1 hq).1
        have hqA : q ∈ fl.filter A := List.mem_filter.2 ⟨hq1, hops q hq1 hx⟩
        rw [c2 q hq, a2 q hqA]
        unfold Fl.val
        cases hv : q.v with
        | c x => rfl
        | a s =>
          simp only
          exact a1 s (fun r hr => hfl.src q hq1 s hv r (List.mem_filter.1 hr).1)
      · exact c1 t (fun q hq hh => ht ⟨q, hq, hh⟩)
    | _ => rfl
  have := h3 _ hsame
  rw [putL_form (fl.filter p) h1 (fun q hq => hst q (List.mem_filter.1 hq).1)] at this
  exact this
end
end Go.Ve

namespace Go.Ve
open Go

def nopOp : Oper := ⟨none, .move (.const undef), 0, "", #[], none⟩

/-- The region without its chain. -/
def opsQ (ops : Array Oper) (Cm : Nat) : Array Oper := ops.mapIdx fun i o => match Nat.testBit Cm i with
  | true => nopOp
  | false => o

def chOk (ops : Array Oper) (anc : Array Nat) (Cm Um : Nat) : Bool :=
  ancOk ops anc && drawOk (opsQ ops Cm) &&
  (List.range ops.size).all fun i => match ops[i]? with
    | some o => o.after.all (fun e => !Region.binds .any e || decide (e.on < i)) && (match Nat.testBit Cm i with
      | true => o.guard.isNone && (List.range ops.size).all fun j => match Nat.testBit Cm j with
        | true => decide (i ≤ j) || (anc.getD i 0).testBit j
        | false => Nat.testBit Um j || (decide (j < i) && (anc.getD i 0).testBit j)
      | false => o.after.all (fun e => !Region.binds .any e || !Nat.testBit Cm e.on) && (match o.guard with
          | some (j, _) => !Nat.testBit Cm j
          | none => true) && (!Nat.testBit Um i || (o.guard.isNone && !isCall o)))
    | none => true

section
variable {ops : Array Oper} {anc : Array Nat} {Cm Um : Nat}

def Closed (ops : Array Oper) (listed : Nat → Prop) : Prop := ∀ (i : Nat) (o : Oper) (e : Edge), ops[i]? = some o → listed i → e ∈ o.after → Region.binds .any e = true → listed e.on

structure ChSt (ops : Array Oper) (anc : Array Nat) (Cm Um : Nat) : Prop where
  st : Static (opsQ ops Cm)
  edge : ∀ (i : Nat) (o : Oper) (e : Edge), ops[i]? = some o → e ∈ o.after → Region.binds .any e = true → e.on < i
  noC : ∀ (i : Nat) (o : Oper) (e : Edge), ops[i]? = some o → Cm.testBit i = false → e ∈ o.after → Region.binds .any e = true → Cm.testBit e.on = false
  guardQ : ∀ (i : Nat) (o : Oper) (j : Nat) (w : Bool), ops[i]? = some o → Cm.testBit i = false → o.guard = some (j, w) → Cm.testBit j = false
  guardC : ∀ (i : Nat) (o : Oper), ops[i]? = some o → Cm.testBit i = true ∨ Um.testBit i = true → o.guard = none
  call : ∀ (i : Nat) (o : Oper), ops[i]? = some o → Cm.testBit i = false → Um.testBit i = true → isCall o = false
  up : ∀ (listed : Nat → Prop), Closed ops listed → ∀ (c : Nat) (o : Oper), ops[c]? = some o → (∀ e, e ∈ o.after → Region.binds .any e = true → listed e.on) →
    ∀ j, j < c → (anc.getD c 0).testBit j = true → listed j
  before : ∀ (c : Nat) (o : Oper), ops[c]? = some o → Cm.testBit c = true → ∀ (j : Nat), j < ops.size → (Cm.testBit j = true ∧ j < c) ∨ (Cm.testBit j = false ∧ Um.testBit j = false) → j < c ∧ (anc.getD c 0).testBit j = true

theorem chst_of (h : chOk ops anc Cm Um = true) : ChSt ops anc Cm Um := by
  unfold chOk at h
  simp only [Bool.and_eq_true] at h
  obtain ⟨⟨hanc, hdr⟩, hall⟩ := h
  have hone : ∀ i o, ops[i]? = some o → _ := fun i o ho => by
    have hlt : i < ops.size := (Array.getElem?_eq_some_iff.1 ho).1
    have := List.all_eq_true.1 hall i (List.mem_range.2 hlt)
    simp only [ho] at this
    exact this
  have hedge : ∀ (i : Nat) (o : Oper) (e : Edge), ops[i]? = some o → e ∈ o.after → Region.binds .any e = true → e.on < i := by
    intro i o e ho he hb
    have h1 := hone i o ho
    rw [Bool.and_eq_true] at h1
    have h2 := Array.all_eq_true_iff_forall_mem.1 h1.1 e he
    simpa [hb] using h2
  have hcl : ∀ (listed : Nat → Prop), Closed ops listed →
      ∀ (i : Nat) (o : Oper) (j : Nat), ops[i]? = some o → j < i → (anc.getD i 0).testBit j = true → (∀ e, e ∈ o.after → Region.binds .any e = true → listed e.on) → listed j := by
    intro listed hdown i
    induction i using Nat.strongRecOn with
    | _ i ih =>
      intro o j ho hji hbit hi
      have hlt : i < ops.size := (Array.getElem?_eq_some_iff.1 ho).1
      have h1 := List.all_eq_true.1 hanc i (List.mem_range.2 hlt)
      simp only [ho] at h1
      have h2 := List.all_eq_true.1 h1 j (List.mem_range.2 hji)
      simp only [hbit, Bool.not_true, Bool.false_or, Array.any_eq_true', Bool.and_eq_true, Bool.or_eq_true, decide_eq_true_eq, beq_iff_eq] at h2
      obtain ⟨e, he, ⟨hb, hon⟩, hj⟩ := h2
      have hle := hi e he hb
      rcases hj with rfl | ⟨hjlt, hbit'⟩
      · exact hle
      · have hlt' : e.on < ops.size := by omega
        have ho' : ops[e.on]? = some ops[e.on] := by simp [hlt']
        exact ih e.on hon ops[e.on] j ho' hjlt hbit' (fun e2 he2 hb2 => hdown e.on _ e2 ho' hle he2 hb2)
  refine ⟨static_of hdr, hedge, ?_, ?_, ?_, ?_, fun listed hd c o hc hdeps j hj hb => hcl listed hd c o j hc hj hb hdeps, ?_⟩
  · intro i o e ho hC he hb
    have h1 := hone i o ho
    simp only [hC, Bool.and_eq_true] at h1
    have h2 := Array.all_eq_true_iff_forall_mem.1 h1.2.1.1 e he
    simpa [hb] using h2
  · intro i o j w ho hC hg
    have h1 := hone i o ho
    simp only [hC, hg, Bool.and_eq_true] at h1
    simpa using h1.2.1.2
  · intro i o ho hor
    have h1 := hone i o ho
    cases hC : Cm.testBit i with
    | true =>
      simp only [hC, Bool.and_eq_true] at h1
      exact Option.isNone_iff_eq_none.1 h1.2.1
    | false =>
      rw [hC] at hor
      have hU := hor.resolve_left (by simp)
      simp only [hC, hU, Bool.and_eq_true, Bool.not_true, Bool.false_or] at h1
      exact Option.isNone_iff_eq_none.1 h1.2.2.1
  · intro i o ho hC hU
    have h1 := hone i o ho
    simp only [hC, hU, Bool.and_eq_true, Bool.not_true, Bool.false_or, Bool.not_eq_true'] at h1
    exact h1.2.2.2
  · intro c o ho hC j hj hor
    have h1 := hone c o ho
    simp only [hC, Bool.and_eq_true] at h1
    have h2 := List.all_eq_true.1 h1.2.2 j (List.mem_range.2 hj)
    rcases hor with ⟨hCj, hlt⟩ | ⟨hCj, hUj⟩
    · simp only [hCj, Bool.or_eq_true, decide_eq_true_eq] at h2
      exact ⟨hlt, h2.resolve_left (by omega)⟩
    · simp only [hCj, hUj, Bool.false_or, Bool.and_eq_true, decide_eq_true_eq] at h2
      exact h2

theorem opsQ_get (i : Nat) : (opsQ ops Cm)[i]? = (ops[i]?).map (fun o => match Cm.testBit i with | true => nopOp | false => o) := by
  simp only [opsQ, Array.getElem?_mapIdx]

theorem opsQ_size : (opsQ ops Cm).size = ops.size := by simp [opsQ]

theorem opsQ_some {i : Nat} {o : Oper} (h : ops[i]? = some o) (hC : Cm.testBit i = false) : (opsQ ops Cm)[i]? = some o := by
  rw [opsQ_get, h]; simp [hC]
end

section
variable {Γ : Sig} {P : Program} {G : Nat → Option (List V)} {S : Specs Γ} {w0 : World} {F0 : Blk → Prop} {O0 : Lent} {ops : Array Oper} {anc : Array Nat} {Cm Um : Nat}

/-- A floating operation that has not come up yet may come up. -/
def FloatOk (P : Look) (G : Nat → Option (List V)) (S : Specs Γ) (ops : Array Oper) (fl : List Fl) (b : Env Γ.St) (q : Fl) : Prop :=
  ∀ (o : Oper) (p : Fl → Bool), ops[q.i]? = some o → (∀ r, r ∈ fl → Operand.tmp r.d ∈ o.op.operands → p r = true) → Route P G S (putL b (fl.filter p)) o (putF (putL b (fl.filter p)) q)

/-- The chain. -/
inductive ChainR (P : Look) (G : Nat → Option (List V)) (S : Specs Γ) (ops : Array Oper) (anc : Array Nat) (fl : List Fl) : List Nat → Env Γ.St → Env Γ.St → Prop
  | nil (b : Env Γ.St) : ChainR P G S ops anc fl [] b b
  | cons {c : Nat} {rest : List Nat} {b b1 b' : Env Γ.St} {o : Oper} (ho : ops[c]? = some o)
      (hr : Route P G S (putL b (fl.filter (fun q => (anc.getD c 0).testBit q.i && decide (q.i < c)))) o b1)
      (hops : ∀ q, q ∈ fl → Operand.tmp q.d ∈ o.op.operands → ((anc.getD c 0).testBit q.i && decide (q.i < c)) = true)
      (hst : ∀ q, q ∈ fl → Stays (touchW G (putL b (fl.filter (fun q => (anc.getD c 0).testBit q.i && decide (q.i < c)))) o) o.dst q)
      (hfl : ∀ q, q ∈ fl → ((anc.getD c 0).testBit q.i && decide (q.i < c)) = false → FloatOk P G S ops fl b1 q)
      (hrest : ChainR P G S ops anc fl rest b1 b') : ChainR P G S ops anc fl (c :: rest) b b'

theorem form_len {St : Type} (e : Env St) (f : T → T) (V : List (Option (List T))) (dst : Option Nat) (y : T) (st : St) : (form e f V dst y st).tm.length = e.tm.length := by
  cases dst <;> simp [form]

theorem Route.len {L : Look} {b b1 : Env Γ.St} {o : Oper} (h : Route L G S b o b1) : b1.tm.length = b.tm.length := by
  obtain ⟨f, V, y, st, _, rfl, _⟩ := route_form h
  exact form_len _ _ _ _ _ _

theorem stepRt {e e1 : Env Γ.St} {o : Oper} {a : Act} {w : World} {Q : Exit → Act → World → Prop} {K : Act → World → Prop} {i : Nat} (hS : Table Γ P G S) (hi : ops[i]? = some o) (hg : o.guard = none) (h : Route P G S e o e1)
    (hinv : Inv Γ G w0 F0 O0 a w e) (hK : ∀ a w, Inv Γ G w0 F0 O0 a w e1 → K a w) : wpOp P ops Q i K a w :=
  stepR_op hi (.inl ⟨by simp only [wantedV, hg], h.op hS⟩) hinv hK

theorem wpAny_chain (hch : ChSt ops anc Cm Um) (hS : Table Γ P G S) {fl : List Fl} {n : Nat} (hflok : FlOk n fl)
    (hfi : ∀ i, Um.testBit i = true → Cm.testBit i = false → i < ops.size → ∃ q, q ∈ fl ∧ q.i = i)
    (hfo : ∀ q, q ∈ fl → Cm.testBit q.i = false ∧ Um.testBit q.i = true ∧ ∃ o, ops[q.i]? = some o ∧ o.dst = some q.d)
    {b' : Env Γ.St} {Q : Exit → Act → World → Prop} (hQ : ∀ a w, Inv Γ G w0 F0 O0 a w (putL b' fl) → Q .normal a w) : ∀ (fuel : Nat) (rest : List Nat) (b : Env Γ.St) (listed : Array Bool) (a : Act) (w : World),
    listed.size = ops.size → listed.count false ≤ fuel → Closed ops (fun i => listed.getD i true = true) →
    (∀ i, i < ops.size → Cm.testBit i = false → Um.testBit i = false → listed.getD i true = true) →
    (∀ c, c ∈ rest ↔ c < ops.size ∧ Cm.testBit c = true ∧ listed.getD c true = false) → rest.Pairwise (· < ·) →
    ChainR P G S ops anc fl rest b b' → (∀ q, q ∈ fl → listed.getD q.i true = false → FloatOk P G S ops fl b q) → b.tm.length = n →
    Inv Γ G w0 F0 O0 a w (putL b (fl.filter (fun q => listed.getD q.i true))) → wpAny P .any ops Q fuel listed a w := by
  have hfd : ∀ q r, q ∈ fl → r ∈ fl → (q.d = r.d ↔ q.i = r.i) := by
    intro q r hq hr
    obtain ⟨cq, _, oq, ho1, hd1⟩ := hfo q hq
    obtain ⟨cr, _, or', ho2, hd2⟩ := hfo r hr
    constructor
    · intro h
      exact hch.st.dist q.i r.i oq or' q.d (opsQ_some ho1 cq) (opsQ_some ho2 cr) hd1 (by rw [h]; exact hd2)
    · intro h
      rw [h, ho2] at ho1
      cases ho1
      rw [hd1] at hd2
      exact Option.some.inj hd2
  have hend : ∀ (rest : List Nat) (b : Env Γ.St) (listed : Array Bool) (a : Act) (w : World), (∀ i, listed.getD i true = true) →
      (∀ c, c ∈ rest ↔ c < ops.size ∧ Cm.testBit c = true ∧ listed.getD c true = false) → ChainR P G S ops anc fl rest b b' → Inv Γ G w0 F0 O0 a w (putL b (fl.filter (fun q => listed.getD q.i true))) → Q .normal a w := by
    intro rest b listed a w hall hrest hchain hinv
    have hnil : rest = [] := by
      apply List.eq_nil_iff_forall_not_mem.2
      intro c hc
      have := ((hrest c).1 hc).2.2
      rw [hall c] at this; cases this
    subst hnil
    cases hchain
    rw [List.filter_eq_self.2 (fun q _ => by simp [hall q.i])] at hinv
    exact hQ a w hinv
  have hallof : ∀ (listed : Array Bool), listed.size = ops.size → Region.ready .any ops listed = [] → ∀ i, listed.getD i true = true := by
    intro listed hls hr
    have : ∀ i, i < ops.size → listed.getD i true = true := by
      intro i
      induction i using Nat.strongRecOn with
      | _ i ih =>
        intro hi
        cases hl : listed.getD i true with
        | true => rfl
        | false =>
          exfalso
          have hmem : i ∈ Region.ready .any ops listed := by
            rw [mem_ready]
            refine ⟨hl, ops[i], by simp [hi], ?_⟩
            intro e he hb
            have hon := hch.edge i ops[i] e (by simp [hi]) he hb
            rw [getD_tf (by omega)]
            exact ih e.on hon (by omega)
          rw [hr] at hmem; cases hmem
    intro i
    rcases Nat.lt_or_ge i ops.size with h | h
    · exact this i h
    · simp [Array.getD_eq_getD_getElem?, Array.getElem?_eq_none (by omega : listed.size ≤ i)]
  intro fuel
  induction fuel with
  | zero =>
    intro rest b listed a w hls hcnt hcl hq hrest hsort hchain hfl hlen hinv
    have hall : ∀ i, listed.getD i true = true := by
      intro i
      cases hl : listed.getD i true with
      | true => rfl
      | false =>
        exfalso
        have h0 : listed.count false = 0 := by omega
        rw [Array.count_eq_zero] at h0
        apply h0
        rcases Nat.lt_or_ge i listed.size with h | h
        · simp [Array.getD_eq_getD_getElem?, h] at hl
          rw [← hl]; exact Array.getElem_mem h
        · simp [Array.getD_eq_getD_getElem?, Array.getElem?_eq_none h] at hl
    refine ⟨?_, hend rest b listed a w hall hrest hchain hinv⟩
    apply List.eq_nil_iff_forall_not_mem.2
    intro j hj
    have := (mem_ready.1 hj).1
    rw [hall j] at this; cases this
  | succ fuel ih =>
    intro rest b listed a w hls hcnt hcl hq hrest hsort hchain hfl hlen hinv
    refine ⟨fun hr => hend rest b listed a w (hallof listed hls hr) hrest hchain hinv, ?_⟩
    intro i hi
    obtain ⟨hun, o, ho, hdeps⟩ := mem_ready.1 hi
    have hlt : i < ops.size := (Array.getElem?_eq_some_iff.1 ho).1
    have hin : i < listed.size := by omega
    have hdeps' : ∀ e, e ∈ o.after → Region.binds .any e = true → listed.getD e.on true = true := by
      intro e he hb
      have h1 := hdeps e he hb
      have hon := hch.edge i o e ho he hb
      rw [← getD_tf (by omega)]; exact h1
    have hcl' : Closed ops (fun j => (listed.setIfInBounds i true).getD j true = true) := by
      intro j oj e hj hl he hb
      show (listed.setIfInBounds i true).getD e.on true = true
      have hl : (listed.setIfInBounds i true).getD j true = true := hl
      rw [getD_set _ _ _ hin] at hl ⊢
      split
      · rfl
      · by_cases hji : j = i
        · subst hji; rw [ho] at hj; cases hj; exact hdeps' e he hb
        · rw [if_neg hji] at hl; exact hcl j oj e hj hl he hb
    have hcnt' : (listed.setIfInBounds i true).count false ≤ fuel := by
      have hli : listed[i] = false := by simpa [Array.getD_eq_getD_getElem?, hin] using hun
      rw [Array.setIfInBounds_def, dif_pos hin, Array.count_set hin, hli]
      simp
      omega
    have hq' : ∀ j, j < ops.size → Cm.testBit j = false → Um.testBit j = false → (listed.setIfInBounds i true).getD j true = true := by
      intro j hj h1 h2
      rw [getD_set _ _ _ hin]
      split
      · rfl
      · exact hq j hj h1 h2
    cases hC : Cm.testBit i with
    | false =>
      -- a floating one
      have hU : Um.testBit i = true := by
        cases hU : Um.testBit i with
        | true => rfl
        | false => rw [hq i hlt hC hU] at hun; cases hun
      obtain ⟨q, hqf, hqi⟩ := hfi i hU hC hlt
      subst hqi
      have hg := hch.guardC q.i o ho (.inr hU)
      have hroute := hfl q hqf hun o (fun q => listed.getD q.i true) ho (by
        intro r hr hx
        obtain ⟨cr, _, or', hor, hdr⟩ := hfo r hr
        obtain ⟨e, he, hb, hon⟩ := hch.st.look q.i o r.d r.i or' (opsQ_some ho hC) (List.mem_append_left _ (List.mem_filterMap.2 ⟨.tmp r.d, by simpa using hx, rfl⟩)) (opsQ_some hor cr) hdr
        have := hdeps' e he hb
        rw [hon] at this
        exact this)
      refine stepRt hS ho hg hroute hinv ?_
      intro a' w' hinv'
      refine ih rest b (listed.setIfInBounds q.i true) a' w' (by simpa using hls) hcnt' hcl' hq' ?_ hsort hchain ?_ hlen ?_
      · intro c
        rw [hrest c, getD_set _ _ _ hin]
        constructor
        · rintro ⟨h1, h2, h3⟩
          refine ⟨h1, h2, ?_⟩
          rw [if_neg (fun hh => by rw [hh, hC] at h2; cases h2)]; exact h3
        · rintro ⟨h1, h2, h3⟩
          refine ⟨h1, h2, ?_⟩
          rwa [if_neg (fun hh => by rw [hh, hC] at h2; cases h2)] at h3
      · intro r hr hl
        refine hfl r hr ?_
        rw [getD_set _ _ _ hin] at hl
        split at hl
        · cases hl
        · exact hl
      · have := putL_more (e := b) (fl := fl) (by rw [hlen]; exact hflok) (fun q => listed.getD q.i true) (fun r => (listed.setIfInBounds q.i true).getD r.i true) hqf (by
          intro r hr
          show (listed.setIfInBounds q.i true).getD r.i true = true ↔ _
          rw [getD_set _ _ _ hin]
          split
          · rename_i h; simp only [true_iff]; exact .inr ((hfd r q hr hqf).2 h)
          · rename_i h
            constructor
            · intro h1; exact .inl h1
            · rintro (h1 | h1)
              · exact h1
              · exact absurd ((hfd r q hr hqf).1 h1) h) hun
        rw [← this]; exact hinv'
    | true =>
      -- one of the chain
      have hmem : i ∈ rest := (hrest i).2 ⟨hlt, hC, hun⟩
      cases hchain with
      | nil => cases hmem
      | cons hoc hr hops hst hfl1 hrest1 =>
        rename_i c rest1 b1 oc
        have hcr := (hrest c).1 (by simp)
        have hic : i = c := by
          rcases Nat.lt_trichotomy i c with h | h | h
          · exfalso
            have hs := List.pairwise_cons.1 hsort
            rcases List.mem_cons.1 hmem with hh | hh
            · omega
            · have := hs.1 i hh; omega
          · exact h
          · exfalso
            have hb := hch.before i o ho hC c hcr.1 (.inl ⟨hcr.2.1, h⟩)
            have := hch.up (fun j => listed.getD j true = true) hcl i o ho hdeps' c hb.1 hb.2
            rw [hcr.2.2] at this; cases this
        subst hic
        rw [ho] at hoc
        cases hoc
        have hg := hch.guardC i o ho (.inl hC)
        have hA : ∀ q, q ∈ fl → ((anc.getD i 0).testBit q.i && decide (q.i < i)) = true → listed.getD q.i true = true := by
          intro q hq hb
          simp only [Bool.and_eq_true, decide_eq_true_eq] at hb
          exact hch.up (fun j => listed.getD j true = true) hcl i o ho hdeps' q.i hb.2 hb.1
        have hroute := route_put (p := fun q => listed.getD q.i true) (by rw [hlen]; exact hflok) hA hops hr hst
        refine stepRt hS ho hg hroute hinv ?_
        intro a' w' hinv'
        have hs := List.pairwise_cons.1 hsort
        refine ih rest1 b1 (listed.setIfInBounds i true) a' w' (by simpa using hls) hcnt' hcl' hq' ?_ hs.2 hrest1 ?_ ?_ ?_
        · intro c
          rw [getD_set _ _ _ hin]
          constructor
          · intro hc
            obtain ⟨h1, h2, h3⟩ := (hrest c).1 (List.mem_cons_of_mem _ hc)
            have := hs.1 c hc
            refine ⟨h1, h2, ?_⟩
            rw [if_neg (by omega)]; exact h3
          · rintro ⟨h1, h2, h3⟩
            split at h3
            · cases h3
            · rename_i hne
              rcases List.mem_cons.1 ((hrest c).2 ⟨h1, h2, h3⟩) with hh | hh
              · exact absurd hh hne
              · exact hh
        · intro q hq hl
          rw [getD_set _ _ _ hin] at hl
          split at hl
          · cases hl
          · refine hfl1 q hq ?_
            cases hb : ((anc.getD i 0).testBit q.i && decide (q.i < i)) with
            | false => rfl
            | true => rw [hA q hq hb] at hl; cases hl
        · rw [hr.len, putL_len]; exact hlen
        · have heq : fl.filter (fun q => (listed.setIfInBounds i true).getD q.i true) = fl.filter (fun q => listed.getD q.i true) := by
            apply List.filter_congr
            intro q hq
            rw [getD_set _ _ _ hin]
            rw [if_neg (fun hh => by have := (hfo q hq).1; rw [hh, hC] at this; cases this)]
          rw [heq]; exact hinv'
end
end Go.Ve

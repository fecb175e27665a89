/-
  The evaluator over pure values, part 22: the same evaluation, each state written out before the next step: for the kernel.
  The evaluator over pure values, part 23: the program's tables as trees, for the kernel.
  Conditions out of code, part 1: operations. What an operation comes to on a state with open data, as a condition on what follows.
  Conditions out of code, part 2: writing operations, regions.
  Conditions out of code, part 3: statements, loops, functions.
  Conditions out of code, part 4: contracts over typed data; tables of contracts.
  Functions out of code, part 1: operations. What an operation on open data comes to, as a partial value of what follows.
  Functions out of code, part 2: what stays; writing operations, regions.
  Drawn regions that write, part 1: what an operation does to a state, whatever else the state holds.
-/
import Derived.Test.YthhmapljcdohnaaGreatCs7
set_option linter.unusedVariables false
namespace Go.Ve
open Go

section
variable {β : Type}

def fL {α : Type} (f : α → (α → β) → β) : List α → (List α → β) → β
  | [], k => k []
  | x :: r, k => f x (fun x => fL f r (fun r => k (x :: r)))

def fInt : Int → (Int → β) → β
  | .ofNat m, k => k (.ofNat m)
  | .negSucc m, k => k (.negSucc m)

def fVal : Value → (Value → β) → β
  | .int q n, k => fInt n (fun n => k (.int q n))
  | .bool true, k => k (.bool true)
  | .bool false, k => k (.bool false)
  | v, k => k v

def fV : Nat → V → (V → β) → β
  | 0, d, k => k d
  | _ + 1, .val v, k => fVal v (fun v => k (.val v))
  | n + 1, .agg cs, k => fL (fV n) cs (fun cs => k (.agg cs))
  | n + 1, .sl cs, k => fL (fV n) cs (fun cs => k (.sl cs))
  | n + 1, .tup cs, k => fL (fV n) cs (fun cs => k (.tup cs))
  | n + 1, .pp cs, k => fL (fV n) cs (fun cs => k (.pp cs))
  | n + 1, .clo f cs, k => fL (fV n) cs (fun cs => k (.clo f cs))
  | _ + 1, .tl t xs, k => k (.tl t xs)
  | _ + 1, .rf o, k => k (.rf o)
  | _ + 1, .hd o, k => k (.hd o)
  | _ + 1, .pt t o, k => k (.pt t o)
  | n + 1, .hp cs, k => fL (fV n) cs (fun cs => k (.hp cs))
  | _ + 1, .bot, k => k .bot

def fT : T → (T → β) → β
  | .p d, k => fV 8 d (fun d => k (.p d))
  | .ow i q es, k => fL (fV 8) es (fun es => k (.ow i q es))
  | .oe i q es j off, k => fL (fV 8) es (fun es => k (.oe i q es j off))
  | .lp s off, k => k (.lp s off)
  | .mp i es ck, k => k (.mp i es ck)
  | .ot i t xs, k => k (.ot i t xs)
  | .oet i t xs j off, k => k (.oet i t xs j off)
  | .ov i t xs j off, k => k (.ov i t xs j off)
  | .on n, k => k (.on n)
  | .emp, k => k .emp
  | .dead, k => k .dead

/-- All but one element as they stand. -/
def fAt {α : Type} (f : α → (α → β) → β) : Nat → List α → (List α → β) → β
  | _, [], k => k []
  | 0, x :: r, k => f x (fun x => k (x :: r))
  | n + 1, x :: r, k => fAt f n r (fun r => k (x :: r))

def fO : Option (List T) → (Option (List T) → β) → β
  | none, k => k none
  | some cs, k => fL (fun x k => k x) cs (fun cs => k (some cs))

/-- Element d alone; what stands behind it is as it was. -/
def fEnv {St : Type} (d : Nat) (e : Env St) (k : Env St → β) : β :=
  match e with
  | ⟨tm, vars, st⟩ => fAt (fun x k => fT x k) d tm (fun tm => k ⟨tm, vars, st⟩)

/-- All that may have turned. -/
def fEnvV {St : Type} (e : Env St) (k : Env St → β) : β :=
  match e with
  | ⟨tm, vars, st⟩ => fL (fun x k => fT x k) tm (fun tm => fL fO vars (fun vars => k ⟨tm, vars, st⟩))

theorem fL_eq {α : Type} {f : α → (α → β) → β} (hf : ∀ x k, f x k = k x) : ∀ (l : List α) (k : List α → β), fL f l k = k l := by
  intro l
  induction l with
  | nil => intro k; rfl
  | cons x l ih => grind [fL]

theorem fVal_eq (v : Value) (k : Value → β) : fVal v k = k v := by
  cases v with
  | int q n => cases n <;> rfl
  | bool b => cases b <;> rfl
  | _ => rfl

theorem fV_eq : ∀ (n : Nat) (d : V) (k : V → β), fV n d k = k d := by
  intro n
  induction n with
  | zero => intro d k; rfl
  | succ n ih =>
    intro d k
    cases d <;> simp only [fV]
    · exact fVal_eq _ _
    all_goals grind [fL_eq]

theorem fT_eq (x : T) (k : T → β) : fT x k = k x := by
  cases x <;> simp only [fT]
  all_goals grind [fV_eq, fL_eq]

theorem fAt_eq {α : Type} {f : α → (α → β) → β} (hf : ∀ x k, f x k = k x) : ∀ (n : Nat) (l : List α) (k : List α → β), fAt f n l k = k l := by
  intro n l
  induction l generalizing n with
  | nil => intro k; cases n <;> rfl
  | cons x l ih =>
    intro k
    cases n with
    | zero => grind [fAt]
    | succ n => grind [fAt]

theorem fO_eq (x : Option (List T)) (k : Option (List T) → β) : fO x k = k x := by
  cases x with
  | none => rfl
  | some cs => simp only [fO]; exact fL_eq (fun _ _ => rfl) _ _

theorem fEnv_eq {St : Type} (d : Nat) (e : Env St) (k : Env St → β) : fEnv d e k = k e := by
  simp only [fEnv]
  rw [fAt_eq fT_eq]

theorem fEnvV_eq {St : Type} (e : Env St) (k : Env St → β) : fEnvV e k = k e := by
  simp_all [fL_eq, fT_eq, fO_eq, fEnvV]

/-- By what the operation may turn. -/
def fOp {St : Type} (o : Oper) (e : Env St) (k : Env St → β) : β :=
  match o.op with
  | .box _ _ | .alloc _ | .store _ _ _ | .makeFunc _ _ _ | .makeSlice _ _ _ | .build _ _ | .slice _ _ _ _ _ => fEnvV e k
  | .call c => match c.callee with
    | .builtin .len => fEnv (o.dst.getD 0) e k
    | _ => fEnvV e k
  | _ => fEnv (o.dst.getD 0) e k

theorem fOp_eq {St : Type} (o : Oper) (e : Env St) (k : Env St → β) : fOp o e k = k e := by
  grind [fEnvV_eq, fEnv_eq, fOp]
end

section
variable {Γ : Sig} (P : Look) (G : Nat → Option (List V)) (S : Specs Γ)

def evSeqF (ops : Array Oper) : List Oper → Env Γ.St → Option (Env Γ.St)
  | [], e => some e
  | o :: rest, e => match evStep P G S ops e o with
    | some e1 => fOp o e1 (fun e1 => evSeqF ops rest e1)
    | none => none

def drawGoF (ops : Array Oper) : List Oper → Env Γ.St → Option (Env Γ.St)
  | [], e => some e
  | o :: rest, e => match wantedV ops e o with
    | some true => if pendOk G (dstsOf (o :: rest)) e o then
        match evQ P G S e o with
        | some r => match applyD e o.dst r with
          | some e1 => fOp o e1 (fun e1 => drawGoF ops rest e1)
          | none => none
        | none => none
      else none
    | some false => fEnv (o.dst.getD 0) (e.put o.dst (.p (.val undef))) (fun e1 => drawGoF ops rest e1)
    | none => none

def evDrawF (ops : Array Oper) (e : Env Γ.St) : Option (Env Γ.St) :=
  if drawOk ops then fEnvV (killAll (dstsOf ops.toList) e) (fun e => drawGoF P G S ops ops.toList e) else none

def evDrawKF (ops : Array Oper) (k : Nat) (e : Env Γ.St) : Option (Env Γ.St) :=
  match evDrawF P G S (ops.extract 0 k) e with
  | some e1 => evSeqF P G S ops (ops.toList.drop k) e1
  | none => none

def evDrawTF (ops : Array Oper) (e : Env Γ.St) : Option (Env Γ.St) :=
  if tailAt ops.toList ≤ ops.size && tailOk ops (tailAt ops.toList) && guardOk ops (tailAt ops.toList) then
    match evDrawKF P G S ops (tailAt ops.toList) e with
    | some e1 => some e1
    | none => fEnvV (frzOps G (callOperands ops.toList) e) (fun e => evDrawKF P G S ops (tailAt ops.toList) e)
  else none

def evCodeF : Nat → Code → Env Γ.St → Option (X × Env Γ.St)
  | 0, _, _ => none
  | _ + 1, .skip, e => some (.normal, e)
  | n + 1, .seq x y, e => match evCodeF n x e with
    | some (.normal, e1) => evCodeF n y e1
    | r => r
  | n + 1, .cond c x y, e => match evx G e c with
    | .p (.val (.bool true)) => evCodeF n x e
    | .p (.val (.bool false)) => evCodeF n y e
    | _ => none
  | n + 1, .block id c, e => match evCodeF n c e with
    | some (k, e1) => some (k.out id, e1)
    | none => none
  | n + 1, .loop c, e => match evCodeF n c e with
    | some (.normal, e1) => evCodeF n (.loop c) e1
    | r => r
  | _ + 1, .exit id, e => some (.exit id, e)
  | _ + 1, .ret, e => some (.ret, e)
  | _ + 1, .region _ ops false, e => match evSeqF P G S ops ops.toList e with
    | some e1 => some (.normal, e1)
    | none => none
  | _ + 1, .region _ ops true, e => match evDrawTF P G S ops e with
    | some e1 => some (.normal, e1)
    | none => none
  | _, _, _ => none

def fRV {β : Type} : RV → (RV → β) → β
  | .p d, k => fV 8 d (fun d => k (.p d))
  | .own es, k => fL (fV 8) es (fun es => k (.own es))
  | .ownT t xs, k => k (.ownT t xs)

def retF (fn : Func) (e' : Env Γ.St) : Option (Γ.St × RV) :=
  match evRet P e' fn with
  | some r => fRV r (fun r => some (e'.st, r))
  | none => none

def evFnF (n : Nat) (fn : Func) (s : Γ.St) (ds : List V) : Option (Γ.St × RV) :=
  match fn.body with
  | some c => fEnvV (start fn.ntmps s ds) (fun e => match evCodeF P G S n c e with
    | some (.normal, e') => retF P fn e'
    | some (.ret, e') => retF P fn e'
    | _ => none)
  | none => none

def runF (Xs : Specs Γ) (k : Nat) : Nat → Specs Γ
  | 0 => Xs
  | n + 1 => fun f s ds => match Xs f s ds with
    | some r => some r
    | none => match isBot ds with
      | true => none
      | false => match P.fn f with
        | some fn => evFnF P G (runF Xs k n) k fn s ds
        | none => none

variable {P G S}

theorem evSeqF_eq (ops : Array Oper) : ∀ (l : List Oper) (e : Env Γ.St), evSeqF P G S ops l e = evSeq P G S ops l e := by
  intro l
  induction l with
  | nil => intro e; rfl
  | cons o l ih =>
    grind [fOp_eq, evSeqF, evSeq, evStep]

theorem drawGoF_eq (ops : Array Oper) : ∀ (l : List Oper) (e : Env Γ.St), drawGoF P G S ops l e = drawGo P G S ops l e := by
  intro l
  induction l with
  | nil => intro e; rfl
  | cons o l ih =>
    intro e
    simp [drawGoF, drawGo, fEnv_eq, fOp_eq, ih]
    grind

theorem evDrawTF_eq (ops : Array Oper) (e : Env Γ.St) : evDrawTF P G S ops e = evDrawT P G S ops e := by
  have h1 : ∀ ops (e : Env Γ.St), evDrawF P G S ops e = evDraw P G S ops e := by
    grind [fEnvV_eq, drawGoF_eq, evDrawF, evDraw]
  grind [evSeqF_eq, fEnvV_eq, evDrawKF, evDrawK, evDraw, evDrawTF, evDrawT, tailAt]

theorem evCodeF_eq : ∀ (n : Nat) (c : Code) (e : Env Γ.St), evCodeF P G S n c e = evCode P G S n c e := by
  intro n
  induction n with
  | zero => grind [evCodeF, evCode]
  | succ n ih =>
    intro c e
    cases c with
    | region id ops draw => cases draw <;> (simp only [evCodeF, evCode, evSeqF_eq, evDrawTF_eq]; rfl)
    | seq x y => grind [evCodeF, evCode]
    | cond c x y => grind [evCodeF, evCode]
    | block id c => grind [evCodeF, evCode]
    | loop c => grind [evCodeF, evCode]
    | _ => simp only [evCodeF, evCode]

theorem fRV_eq {β : Type} (r : RV) (k : RV → β) : fRV r k = k r := by
  cases r with
  | p d => exact fV_eq _ _ _
  | own es => exact fL_eq (fV_eq 8) _ _
  | ownT t xs => rfl

theorem evFnF_eq (n : Nat) (fn : Func) (s : Γ.St) (ds : List V) : evFnF P G S n fn s ds = evFn P G S n fn s ds := by
  have hr : ∀ e' : Env Γ.St, retF P fn e' = (evRet P e' fn).map (fun r => (e'.st, r)) := by
    grind [fRV_eq, retF, evRet]
  grind [fEnvV_eq, evCodeF_eq, evFnF, evFn]

theorem runF_eq (Xs : Specs Γ) (k : Nat) : ∀ n, runF P G Xs k n = runN P G Xs k n := by
  intro n
  induction n with
  | zero => rfl
  | succ n ih =>
    funext f s ds
    grind [evFnF_eq, runF, runN, isBot]

end

section
variable {Γ : Sig} {P : Program} {G : Nat → Option (List V)}

theorem table_runF [Calm Γ] (hm : P.follows .mixedOrders = true) (hn : noCount P = true) {Xs : Specs Γ} (hX : Table Γ P G Xs) (k n : Nat) : Table Γ P G (runF P G Xs k n) := by
  grind [runF_eq, table_runN]
end
end Go.Ve

namespace Go.Ve
open Go

inductive Tr (α : Type) where
  | nil
  | node (v : α) (l r : Tr α)

def odds {α : Type} : List α → List α
  | [] => []
  | [_] => []
  | _ :: y :: r => y :: odds r

def evens {α : Type} : List α → List α
  | [] => []
  | [x] => [x]
  | x :: _ :: r => x :: evens r

/-- The head at the root; what stands at odd places behind it to the right, at even places to the left. -/
def Tr.ofList {α : Type} : Nat → List α → Tr α
  | 0, _ => .nil
  | _ + 1, [] => .nil
  | n + 1, x :: r => .node x (Tr.ofList n (evens r)) (Tr.ofList n (odds r))

def Tr.get {α : Type} : Tr α → Nat → Option α
  | .nil, _ => none
  | .node v l r, n => match Nat.beq n 0 with
    | true => some v
    | false => match Nat.beq ((n - 1) % 2) 0 with
      | true => l.get ((n - 1) / 2)
      | false => r.get ((n - 1) / 2)

theorem evens_get {α : Type} : ∀ (l : List α) (i : Nat), (evens l)[i]? = l[2 * i]? := by
  intro l
  induction l using evens.induct with
  | case1 => intro i; simp [evens]
  | case2 x => intro i; cases i with
    | zero => rfl
    | succ i => simp [evens]
  | case3 x y r ih => intro i; cases i with
    | zero => rfl
    | succ i => simp only [evens, List.getElem?_cons_succ, ih]; rw [show 2 * (i + 1) = 2 * i + 1 + 1 by omega]; simp

theorem odds_get {α : Type} : ∀ (l : List α) (i : Nat), (odds l)[i]? = l[2 * i + 1]? := by
  intro l
  induction l using odds.induct with
  | case1 => intro i; simp [odds]
  | case2 x => intro i; simp [odds]
  | case3 x y r ih => intro i; cases i with
    | zero => rfl
    | succ i => simp only [odds, List.getElem?_cons_succ, ih]; rw [show 2 * (i + 1) = 2 * i + 1 + 1 by omega]; simp

theorem evens_len {α : Type} : ∀ (l : List α), (evens l).length ≤ l.length := by
  intro l
  induction l using evens.induct with
  | case1 => simp [evens]
  | case2 x => simp [evens]
  | case3 x y r ih => simp [evens]; omega

theorem odds_len {α : Type} : ∀ (l : List α), (odds l).length ≤ l.length := by
  intro l
  induction l using odds.induct with
  | case1 => simp [odds]
  | case2 x => simp [odds]
  | case3 x y r ih => simp [odds]; omega

theorem Tr.get_ofList {α : Type} : ∀ (n : Nat) (l : List α) (i : Nat), l.length ≤ n → (Tr.ofList n l).get i = l[i]? := by
  intro n
  induction n with
  | zero => intro l i h; cases l with
    | nil => rfl
    | cons x l => simp at h
  | succ n ih =>
    intro l i h
    cases l with
    | nil => simp [Tr.ofList, Tr.get]
    | cons x r =>
      simp only [List.length_cons] at h
      simp only [Tr.ofList, Tr.get]
      cases i with
      | zero => rfl
      | succ i =>
        have h0 : Nat.beq (i + 1) 0 = false := rfl
        simp only [h0, Nat.add_sub_cancel]
        cases hb : Nat.beq (i % 2) 0 with
        | true =>
          have := Nat.eq_of_beq_eq_true hb
          simp only
          rw [ih _ _ (by have := evens_len r; omega), evens_get, List.getElem?_cons_succ, show 2 * (i / 2) = i by omega]
        | false =>
          have := Nat.ne_of_beq_eq_false hb
          simp only
          rw [ih _ _ (by have := odds_len r; omega), odds_get, List.getElem?_cons_succ, show 2 * (i / 2) + 1 = i by omega]

def undTree (P : Program) (n : Nat) : Tr (Option TypeDesc) := Tr.ofList n ((List.range n).map P.underlying)
def infTree (P : Program) (n : Nat) : Tr (Option TypeInfo) := Tr.ofList n ((List.range n).map P.info?)
def tyTree (P : Program) (n : Nat) : Tr (Option Ty) := Tr.ofList n ((List.range n).map (creTy P))
def fnTree (P : Program) (n : Nat) : Tr (Option Func) := Tr.ofList n ((List.range n).map (fun f => P.funcs[f]?))

/-- Out of the tree; behind it as the table itself says. -/
def orElse {β : Type} (x : Option β) (y : β) : β :=
  match x with
  | some d => d
  | none => y

def Look.fast (P : Program) (nt nf : Nat) : Look where
  P := P
  und := fun t => orElse ((undTree P nt).get t) (P.underlying t)
  inf := fun t => orElse ((infTree P nt).get t) (P.info? t)
  fn := fun t => orElse ((fnTree P nf).get t) P.funcs[t]?
  ty := fun t => orElse ((tyTree P nt).get t) (creTy P t)

theorem tree_eq {β : Type} (f : Nat → β) (n t : Nat) : orElse ((Tr.ofList n ((List.range n).map f)).get t) (f t) = f t := by
  rw [Tr.get_ofList n _ t (by simp)]
  by_cases h : t < n
  · simp [h, orElse]
  · rw [List.getElem?_eq_none (by simp; omega)]; rfl

theorem Look.fast_eq (P : Program) (nt nf : Nat) : Look.fast P nt nf = Look.of P := by
  unfold Look.fast Look.of
  congr 1
  · funext t; exact tree_eq P.underlying nt t
  · funext t; exact tree_eq P.info? nt t
  · funext t; exact tree_eq (fun f => P.funcs[f]?) nf t
  · funext t; exact tree_eq (creTy P) nt t

theorem table_fast {Γ : Sig} [Calm Γ] {P : Program} {G : Nat → Option (List V)} (hm : P.follows .mixedOrders = true) (hn : noCount P = true) {Xs : Specs Γ} (hX : Table Γ P G Xs) (nt nf k n : Nat) :
    Table Γ P G (runF (Look.fast P nt nf) G Xs k n) := by
  rw [Look.fast_eq]; exact table_runF hm hn hX k n
end Go.Ve

namespace Go.Ve
open Go

/-- Contracts with what they ask: a condition, the state behind, the result. -/
abbrev SpecsW (Γ : Sig) := FuncId → Γ.St → List V → Option (Prop × Γ.St × RV)

open Classical in
def bitsOf : BinOp → (k : IntKind) → Int → Int → Option Int
  | .and, k, a, b => some (k.wrap (BitVec.ofInt k.bits a &&& BitVec.ofInt k.bits b).toNat)
  | .or, k, a, b => some (k.wrap (BitVec.ofInt k.bits a ||| BitVec.ofInt k.bits b).toNat)
  | .xor, k, a, b => some (k.wrap (BitVec.ofInt k.bits a ^^^ BitVec.ofInt k.bits b).toNat)
  | .andNot, k, a, b => some (k.wrap (BitVec.ofInt k.bits a &&& ~~~ BitVec.ofInt k.bits b).toNat)
  | _, _, _, _ => none

section
variable {Γ : Sig} (P : Look) (G : Nat → Option (List V)) (S : SpecsW Γ)

def retI (k : IntKind) (n : Int) : R Γ.St := .ret (.p (.val (.int k n)))
def retB (b : Bool) : R Γ.St := .ret (.p (.val (.bool b)))

variable {P G S}

end

section
variable {Γ : Sig} {P : Program} {G : Nat → Option (List V)} {S : SpecsW Γ} {e : Env Γ.St} {o : Oper}

theorem pureIn_step {α β : Type} {s : Sem α} {a : α} (h : pureIn P s = some a) (f : α → Sem β) : pureIn P (s >>= f) = pureIn P (f a) := by
  change pureIn P (s.bind f) = _
  induction s with
  | pure b => simp [pureIn] at h; subst h; rfl
  | program k ih => exact ih P h
  | _ => simp [pureIn] at h

theorem pureIn_underlying {t : TypeId} {d : TypeDesc} (h : P.underlying t = some d) : pureIn P (underlying t) = some d := by
  show pureIn P (match P.underlying t with | some d => pure d | none => stuck "no such type" : Sem TypeDesc) = _
  rw [h]; rfl

theorem evFlat_of {v : Value} (h1 : o.op.operands.toList.all (fun x => (flatT (evx G e x)).isSome) = true)
    (h2 : pureIn P (execOp (fun x => (flatT (evx G e x)).getD undef) o) = some (.value v)) : evFlat P G e o = some (.ret (.p (V.ofVal v)) : R Γ.St) := by
  unfold evFlat
  grind

end
end Go.Ve

namespace Go.Ve
open Go

section
variable {β : Type 1}

end

section
variable {Γ : Sig} (P : Look) (G : Nat → Option (List V)) (S : SpecsW Γ)

def Env.lit (e : Env Γ.St) (t : Nat) (b : Bool) : Env Γ.St := { e with tm := e.tm.set t (.p (.val (.bool b))) }

end

section
variable {Γ : Sig} {P : Program} {G : Nat → Option (List V)} {S : SpecsW Γ} {e : Env Γ.St} {o : Oper} {K : Env Γ.St → Prop} {ops : Array Oper}

theorem lit_eq {t : Nat} {b : Bool} (h : e.get t = .p (.val (.bool b))) : e.lit t b = e := by
  obtain ⟨tm, vars, st⟩ := e
  simp [Env.lit]
  refine List.ext_getElem? (fun i => ?_)
  grind [Nat.lt_or_ge, List.getElem?_set_self, List.getElem?_eq_getElem, List.getElem?_eq_none, List.getElem?_set_ne, Env.get]

end
end Go.Ve

namespace Go.Ve
open Go

def castL (t t' : Ty) (xs : List t.El) : Option (List t'.El) := if h : t = t' then some (h ▸ xs) else none

def fitL (t t' : Ty) (xs : List t.El) (ys : List t'.El) : Prop :=
  match castL t t' xs with
  | some zs => zs = ys
  | none => False

def fitLeaf : Value → Value → Prop
  | .int k n, .int k' m => if k = k' then n = m else False
  | .bool a, .bool b => a = b
  | .string a, .string b => a = b
  | a, b => a = b

def fitAll {α : Type} (f : α → α → Prop) : List α → List α → Prop
  | [], [] => True
  | x :: xs, y :: ys => f x y ∧ fitAll f xs ys
  | _, _ => False

/-- y says no more than x: leaf by leaf. -/
def fitV : Nat → V → V → Prop
  | 0, x, y => x = y
  | _ + 1, .val (.slice none 0 0), .tl _ ys => ys = []
  | _ + 1, .sl [], .tl _ ys => ys = []
  | _ + 1, .val a, .val b => fitLeaf a b
  | _ + 1, .tl t xs, .tl t' ys => fitL t t' xs ys
  | n + 1, .agg cs, .agg ds => fitAll (fitV n) cs ds
  | n + 1, .tup cs, .tup ds => fitAll (fitV n) cs ds
  | _ + 1, x, y => x = y

def lpOkT {St : Type} (e : Env St) : T → Bool
  | .lp s _ => (e.var s).isSome
  | _ => true

theorem fitL_sound {t t' : Ty} {xs : List t.El} {ys : List t'.El} (h : fitL t t' xs ys) : ∃ ht : t = t', (ht ▸ xs) = ys := by
  grind [Option.some.injEq, fitL, castL]

theorem fitLeaf_eq {a b : Value} (h : fitLeaf a b) : a = b := by
  unfold fitLeaf at h
  grind

theorem fitAll_vs {f : V → V → Prop} (hf : ∀ x y, f x y → WkV x y) : ∀ (xs ys : List V), fitAll f xs ys → WkVs xs ys
  | [], [], _ => trivial
  | x :: xs, y :: ys, h => ⟨hf x y h.1, fitAll_vs hf xs ys h.2⟩
  | [], _ :: _, h => h.elim
  | _ :: _, [], h => h.elim

theorem WkV.tup {xs ys : List V} (h : WkVs xs ys) : WkV (.tup xs) (.tup ys) := by
  intro w F v hr
  cases hr with
  | tup cs ds hl h0 =>
    refine .tup cs ys (hl.trans h.len) ?_
    intro i x d hi hd
    have hlt : i < xs.length := by grind
    exact h.get i xs[i] d (by simp [hlt]) hd w F x (h0 i x xs[i] hi (by simp [hlt]))

theorem fitV_sound : ∀ (n : Nat) (x y : V), fitV n x y → WkV x y := by
  intro n
  induction n with
  | zero => intro x y h; cases h; exact .refl _
  | succ n ih =>
    intro x y h
    unfold fitV at h
    split at h
    · cases ‹_ = 0›
    · subst h; intro w F v hr; rw [Rd.eq_val hr]; exact .tl _ [] _ (.slemp none 0)
    · subst h; intro w F v hr; exact .tl _ [] _ hr
    · rw [fitLeaf_eq h]; exact .refl _
    · obtain ⟨ht, h⟩ := fitL_sound h; subst ht; subst h; exact .refl _
    · rename_i m cs ds heq
      cases heq
      exact WkV.agg (fitAll_vs ih cs ds h)
    · rename_i m cs ds heq
      cases heq
      exact WkV.tup (fitAll_vs ih cs ds h)
    · subst h; exact .refl _

section
variable {Γ : Sig} {P : Program} {G : Nat → Option (List V)} {w0 : World} {F0 : Blk → Prop} {O0 : Lent} {a : Act} {w : World} {e e2 : Env Γ.St}

end

/-- What is known at a loop's head: the data of a round, read off a state; the state of such data; what holds of them; what falls. -/
structure Head (St : Type) where
  σ : Type
  get : Env St → Option σ
  env : σ → Env St
  inv : σ → Prop
  mes : σ → Nat

/-- The first region in it. -/
def keyOf : Code → Option Nat
  | .region id _ _ => some id
  | .seq a b => match keyOf a with
    | some n => some n
    | none => keyOf b
  | .cond _ a b => match keyOf a with
    | some n => some n
    | none => keyOf b
  | .block _ a => keyOf a
  | .loop a => keyOf a
  | _ => none

section
variable {Γ : Sig} (P : Look) (G : Nat → Option (List V)) (S : SpecsW Γ) (A : Nat → Option (Head Γ.St))

end

section
variable {Γ : Sig} {P : Program} {G : Nat → Option (List V)} {S : SpecsW Γ} {A : Nat → Option (Head Γ.St)}

/-- By the machine: the code takes every world of state e to one of state e1, and ends so. -/
def CodeOk (P : Program) (G : Nat → Option (List V)) (c : Code) (e : Env Γ.St) (k : X) (e1 : Env Γ.St) : Prop :=
  ∀ (w0 : World) (F0 : Blk → Prop) (O0 : Lent) (a : Act) (w : World), Inv Γ G w0 F0 O0 a w e → c.wp P (fun ex a' w' => ex = k.toExit ∧ Inv Γ G w0 F0 O0 a' w' e1) a w

/-- In a loop, at the head of a round. -/
def RoundWp (P : Program) (c : Code) (Q : Exit → Act → World → Prop) (a : Act) (w : World) : Prop :=
  ∀ (b : Frame) (k : List Item) (cs : List Frame), ∃ e a' w', Q e a' w' ∧ Arrives P (lone (b.at a (.code c :: .inLoop c :: k)) cs w) b k cs e a' w'

def LoopOk (P : Program) (G : Nat → Option (List V)) (c : Code) (e : Env Γ.St) (k : X) (e1 : Env Γ.St) : Prop :=
  ∀ (w0 : World) (F0 : Blk → Prop) (O0 : Lent) (a : Act) (w : World), Inv Γ G w0 F0 O0 a w e → RoundWp P c (fun ex a' w' => ex = k.toExit ∧ Inv Γ G w0 F0 O0 a' w' e1) a w

theorem CodeOk.skip (e : Env Γ.St) : CodeOk P G .skip e .normal e := fun _ _ _ _ _ hi => wp_skip ⟨rfl, hi⟩
theorem CodeOk.exit (id : Nat) (e : Env Γ.St) : CodeOk P G (.exit id) e (.exit id) e := fun _ _ _ _ _ hi => wp_exit ⟨rfl, hi⟩
theorem CodeOk.ret (e : Env Γ.St) : CodeOk P G .ret e .ret e := fun _ _ _ _ _ hi => wp_ret ⟨rfl, hi⟩

theorem CodeOk.seqN {x y : Code} {e e1 e2 : Env Γ.St} {k : X} (h1 : CodeOk P G x e .normal e1) (h2 : CodeOk P G y e1 k e2) : CodeOk P G (.seq x y) e k e2 := by
  intro w0 F0 O0 a w hi
  refine wp_seq (wp_mono (h1 w0 F0 O0 a w hi) ?_)
  rintro ex a' w' ⟨rfl, hi'⟩
  exact h2 w0 F0 O0 a' w' hi'

theorem CodeOk.seqX {x y : Code} {e e1 : Env Γ.St} {k : X} (h1 : CodeOk P G x e k e1) (hk : k ≠ .normal) : CodeOk P G (.seq x y) e k e1 := by
  intro w0 F0 O0 a w hi
  refine wp_seq (wp_mono (h1 w0 F0 O0 a w hi) ?_)
  rintro ex a' w' ⟨rfl, hi'⟩
  cases k with
  | normal => grind
  | exit id => exact ⟨rfl, hi'⟩
  | ret => exact ⟨rfl, hi'⟩

theorem CodeOk.condB {c : Operand} {x y : Code} {e e1 : Env Γ.St} {k : X} {b : Bool} (hc : evx G e c = .p (.val (.bool b))) (h : CodeOk P G (if b then x else y) e k e1) : CodeOk P G (.cond c x y) e k e1 := by
  intro w0 F0 O0 a w hi
  have hw := h w0 F0 O0 a w hi
  obtain ⟨F, O, β, hcr, hG, hsz, hdf, ht, hv⟩ := hi
  have h2 := evx_sim (e := e) hG ht c
  rw [hc] at h2
  cases b with
  | true => exact wp_cond_true (Rd.eq_val h2) hw
  | false => exact wp_cond_false (Rd.eq_val h2) hw

theorem CodeOk.block {id : Nat} {c : Code} {e e1 : Env Γ.St} {k : X} (h : CodeOk P G c e k e1) : CodeOk P G (.block id c) e (k.out id) e1 := by
  intro w0 F0 O0 a w hi
  refine wp_block (wp_mono (h w0 F0 O0 a w hi) ?_)
  rintro ex a' w' ⟨rfl, hi'⟩
  cases k with
  | normal => exact ⟨rfl, hi'⟩
  | exit id' =>
    simp [X.toExit, Exit.inBlock, X.out]
    grind
  | ret => exact ⟨rfl, hi'⟩

theorem CodeOk.loop {c : Code} {e e1 : Env Γ.St} {k : X} (h : LoopOk P G c e k e1) : CodeOk P G (.loop c) e k e1 := by
  intro w0 F0 O0 a w hi b k' cs
  obtain ⟨ex, a', w', hq, harr⟩ := h w0 F0 O0 a w hi b k' cs
  exact ⟨ex, a', w', hq, .of_steps (.one step_loop) harr⟩

theorem LoopOk.last {c : Code} {e e1 : Env Γ.St} {k : X} (h : CodeOk P G c e k e1) (hk : k ≠ .normal) : LoopOk P G c e k e1 := by
  intro w0 F0 O0 a w hi b k' cs
  obtain ⟨ex, a', w', ⟨rfl, hi'⟩, harr⟩ := h w0 F0 O0 a w hi b (.inLoop c :: k') cs
  cases k with
  | normal => grind
  | exit id => exact ⟨_, a', w', ⟨rfl, hi'⟩, .pass (x := .inLoop c) rfl (fun _ _ => .inl (by simp [X.toExit])) harr⟩
  | ret => exact ⟨_, a', w', ⟨rfl, hi'⟩, .pass (x := .inLoop c) rfl (fun _ _ => .inl (by simp [X.toExit])) harr⟩

theorem LoopOk.step {c : Code} {e e1 e2 : Env Γ.St} {k : X} (h : CodeOk P G c e .normal e1) (h2 : LoopOk P G c e1 k e2) : LoopOk P G c e k e2 := by
  intro w0 F0 O0 a w hi b k' cs
  obtain ⟨ex, a', w', ⟨rfl, hi'⟩, harr⟩ := h w0 F0 O0 a w hi b (.inLoop c :: k') cs
  obtain ⟨ex2, a2, w2, hq2, harr2⟩ := h2 w0 F0 O0 a' w' hi' b k' cs
  exact ⟨ex2, a2, w2, hq2, .of_steps (Steps.trans harr (.one step_inLoop)) harr2⟩

/-- A result that says no more. -/
def fitRV : RV → RV → Prop
  | .p (.val (.slice none 0 0)), .ownT _ ys => ys = []
  | .own [], .ownT _ ys => ys = []
  | .own [], .p (.tl _ ys) => ys = []
  | .ownT t xs, .ownT t' ys => fitL t t' xs ys
  | .ownT t xs, .p (.tl t' ys) => fitL t t' xs ys
  | .p d, .p d' => fitV 7 d d'
  | _, _ => False

theorem fitRV_sound {N : Nat} {w : World} {F : Blk → Prop} {O : Nat → Prop} {v : Value} {r r' : RV} (h : fitRV r r') (hr : RetRel N w F O v r) :
    ∃ F' : Blk → Prop, (∀ b, F b → F' b) ∧ (∀ x : Blk, x.isB = false → (F' x ↔ F x)) ∧ (∀ b : Nat, F' b → F b ∨ (N ≤ b ∧ b < w.heap.size ∧ ¬ O b)) ∧ RetRel N w F' O v r' := by
  have same : RetRel N w F O v r' → ∃ F' : Blk → Prop, (∀ b, F b → F' b) ∧ (∀ x : Blk, x.isB = false → (F' x ↔ F x)) ∧ (∀ b : Nat, F' b → F b ∨ (N ≤ b ∧ b < w.heap.size ∧ ¬ O b)) ∧ RetRel N w F' O v r' :=
    fun h => ⟨F, fun _ h => h, fun _ _ => Iff.rfl, fun _ h => .inl h, h⟩
  unfold fitRV at h
  split at h
  · subst h; exact same (.inl ⟨rfl, none, Rd.eq_val hr⟩)
  · subst h; exact same hr
  · subst h
    refine same ?_
    rcases hr with ⟨_, a0, rfl⟩ | ⟨h, _⟩
    · exact .tl _ [] _ (.slemp a0 0)
    grind
  · grind [fitL_sound]
  · obtain ⟨ht, h⟩ := fitL_sound h
    subst ht
    subst h
    rename_i t xs
    rcases hr with ⟨h0, a0, rfl⟩ | ⟨hne, b, cap, rfl, h1, h2, h3, h4, k, hrow⟩
    · exact same (.tl _ _ _ (by rw [h0]; exact .slemp a0 0))
    · refine ⟨fun b' => F b' ∨ b' = Blk.b b, fun _ h => .inl h, addB_h, fun b' hb => hb.elim .inl (fun h => by grind), ?_⟩
      exact .tl _ _ _ (Row_rd (hrow.mono (fun _ h => .inl h) (fun _ _ => rfl) rfl) (fun _ h => h) (.inr rfl))
  · exact same (fitV_sound 7 _ _ h _ _ _ hr)
  · exact h.elim

end
end Go.Ve

namespace Go.Ve
open Go

@[reducible] def ElS : List Ty → Type
  | [] => Unit
  | t :: ts => t.El × ElS ts

def encS : (ts : List Ty) → ElS ts → List V
  | [], _ => []
  | t :: ts, x => t.enc x.1 :: encS ts x.2

def decS : (ts : List Ty) → List V → Option (ElS ts)
  | [], [] => some ()
  | t :: ts, d :: ds => match t.dec d with
    | some x => match decS ts ds with
      | some xs => some (x, xs)
      | none => none
    | none => none
  | _, _ => none

theorem decS_sound : ∀ (ts : List Ty) (ds : List V) (x : ElS ts), decS ts ds = some x → WkVs ds (encS ts x)
  | [], [], _, _ => trivial
  | [], _ :: _, _, h => by simp [decS] at h
  | _ :: _, [], _, h => by simp [decS] at h
  | t :: ts, d :: ds, x, h => by
    simp only [decS] at h
    split at h
    · rename_i y hy
      split at h
      · rename_i ys hys
        cases h
        exact ⟨dec_sound hy, decS_sound ts ds ys hys⟩
      · cases h
    · cases h

def isFn (P : Program) (f : FuncId) : Bool :=
  match P.funcs[f]? with
  | some fn => fn.body.isSome && !(fn.name == "runtime.NumGoroutine")
  | none => false

end Go.Ve

namespace Go.Ve
open Go

/-- A call by contract: the partial result of a plain function, the state behind it, the result as a datum. -/
structure CallX (St : Type) where
  ρ : Type
  m : Option ρ
  st : ρ → St
  res : ρ → RV
  pl : Bool

abbrev SpecsX (Γ : Sig) := FuncId → Γ.St → List V → Option (CallX Γ.St)

def SpecsX.toS {Γ : Sig} (S : SpecsX Γ) : Specs Γ := fun f s ds =>
  match S f s ds with
  | some c => c.m.map (fun y => (c.st y, c.res y))
  | none => none

theorem toS_eqX {Γ : Sig} {S : SpecsX Γ} {f : FuncId} {s : Γ.St} {ds : List V} {c : CallX Γ.St} {y : c.ρ} (h : S f s ds = some c) (hy : c.m = some y) : S.toS f s ds = some (c.st y, c.res y) := by
  grind [SpecsX.toS]

/-- Only where it holds. -/
def need {ρ : Type} (c : Bool) (x : Option ρ) : Option ρ :=
  match c with
  | true => x
  | false => none

theorem need_some {ρ : Type} {c : Bool} {x : Option ρ} {v : ρ} : need c x = some v ↔ c = true ∧ x = some v := by
  cases c <;> simp [need]

/-- Element i, where there is one. -/
def idx {α : Type} (xs : List α) (i : Int) : Option α := if 0 ≤ i then xs[i.toNat]? else none

def atN {α : Type} (xs : List α) (i : Nat) : Option α := xs[i]?

def byteAt (s : ByteArray) (i : Int) : Option Int := if 0 ≤ i then (s[i.toNat]?).map (fun b => (b.toNat : Int)) else none

/-- The part from lo to hi. -/
def sub {α : Type} (xs : List α) (lo hi : Int) : Option (List α) :=
  if 0 ≤ lo ∧ lo ≤ hi ∧ hi ≤ xs.length then some ((xs.take hi.toNat).drop lo.toNat) else none

/-- An append, where there is room for it. -/
def app {α : Type} (bytes : Nat) (xs ys : List α) : Option (List α) :=
  if (2 * (xs.length + ys.length) + 1024) * bytes ≤ 140737488355328 then some (xs ++ ys) else none

/-- n new elements, where there is room for them. -/
def news {α : Type} (bytes : Nat) (n : Int) (x : α) : Option (List α) :=
  if 0 ≤ n ∧ n * bytes ≤ 140737488355328 then some (List.replicate n.toNat x) else none

abbrev Kx (Γ : Sig) (ρ : Type) := (R Γ.St → Option ρ) → Option ρ
abbrev Kex (Γ : Sig) (ρ : Type) := (Env Γ.St → Option ρ) → Option ρ

def sameOp : Operand → Operand → Bool
  | .tmp a, .tmp b => Nat.beq a b
  | _, _ => false

theorem sameOp_eq {a b : Operand} (h : sameOp a b = true) : a = b := by
  unfold sameOp at h
  grind [Nat.eq_of_beq_eq_true]

section
variable {Γ : Sig} {ρ : Type} (P : Look) (G : Nat → Option (List V)) (S : SpecsX Γ)

def intX (op : BinOp) (k : IntKind) (a b : Int) : Option (Kx Γ ρ) :=
  match op with
  | .add => some (fun K => K (retI k (k.wrap (a + b))))
  | .sub => some (fun K => K (retI k (k.wrap (a - b))))
  | .mul => some (fun K => K (retI k (k.wrap (a * b))))
  | .quo => some (fun K => need (b != 0) (K (retI k (k.wrap (a.tdiv b)))))
  | .rem => some (fun K => need (b != 0) (K (retI k (a.tmod b))))
  | .eql => some (fun K => K (retB (a == b)))
  | .neq => some (fun K => K (retB (a != b)))
  | .lss => some (fun K => K (retB (decide (a < b))))
  | .leq => some (fun K => K (retB (decide (a ≤ b))))
  | .gtr => some (fun K => K (retB (decide (a > b))))
  | .geq => some (fun K => K (retB (decide (a ≥ b))))
  | op => match bitsOf op k a b with
    | some n => some (fun K => K (retI k n))
    | none => none

def shiftX (op : BinOp) (k : IntKind) (a b : Int) : Option (Kx Γ ρ) :=
  match op with
  | .shl => some (fun K => need (decide (0 ≤ b)) (K (retI k (k.wrap (a * 2 ^ min b.toNat k.bits)))))
  | .shr => some (fun K => need (decide (0 ≤ b)) (K (retI k (a.fdiv (2 ^ min b.toNat k.bits)))))
  | _ => none

/-- A bound of a slice expression. -/
def boundX (d : Option T) (dflt : Int) : Option Int :=
  match d with
  | none => some dflt
  | some (.p (.val (.int _ i))) => some i
  | _ => none

def pickX (b : Bool) : Value → Value → Option Value
  | .bool x, .bool y => some (.bool (cond b x y))
  | .int k x, .int k' y => if k = k' then some (.int k (cond b x y)) else none
  | _, _ => none

def qX (e : Env Γ.St) (o : Oper) : Option (Kx Γ ρ) :=
  match o.op with
  | .indexAddr t x ix => match evx G e x, evx G e ix with
    | .p (.tl ty xs), .p (.val (.int _ i)) => match P.und t with
      | some (.slice el) => if size? P el = some ty.size then
          some (fun K => Option.bind (idx xs i) fun y => K (.ret (.p (.pp (ty.cells y))))) else none
      | _ => none
    | .ot id ty xs, .p (.val (.int _ i)) => match P.und t with
      | some (.slice el) => if size? P el = some ty.size then
          some (fun K => Option.bind (idx xs i) fun _ => K (.ret (.oet id ty xs i.toNat 0))) else none
      | _ => none
    | .on n, .p (.val (.int _ i)) => match P.und t with
      | some (.slice el) => match n with
        | ⟨id, id2, ty, xs, j, ys, .s⟩ => if size? P el = some 1 then some (fun K => Option.bind (idx xs i) fun _ => K (.ret (.on ⟨id, id2, ty, xs, j, ys, .p i.toNat⟩))) else none
        | ⟨id, id2, ty, xs, j, ys, .r⟩ => if size? P el = some ty.size then some (fun K => Option.bind (idx ys i) fun _ => K (.ret (.on ⟨id, id2, ty, xs, j, ys, .q i.toNat 0⟩))) else none
        | _ => none
      | _ => none
    | .p (.hp cs), .p (.val (.int _ i)) => match P.und t with
      | some (.array n el) => match P.ty el with
        | some ty => if size? P el = some ty.size then
            match ty.unxs n cs with
            | some xs => some (fun K => Option.bind (idx xs i) fun y => K (.ret (.p (.hp (ty.cells y)))))
            | none => none
          else none
        | none => none
      | _ => none
    | _, _ => none
  | .fieldAddr t x i => match evx G e x with
    | .p (.pt ty o) => match fieldOf P t i with
      | some f => match size? P f.type with
        | some (_ + 1) => some (fun K => Option.bind o fun y => K (.ret (.p (.hp ((ty.cells y.2).drop f.offset)))))
        | _ => none
      | none => none
    | _ => none
  | .nilCheck x => match evx G e x with
    | .p (.pt ty o) => some (fun K => Option.bind o fun y => K (.ret (.p (.pt ty (some y)))))
    | _ => none
  | .load t x => match evx G e x with
    | .p (.pt ty o) => some (fun K => Option.bind o fun y => match ldV P t (ty.cells y.2) with
      | some d => K (.ret (.p d))
      | none => none)
    | .oet _ ty xs i off => some (fun K => Option.bind (atN xs i) fun y => match ldV P t ((ty.cells y).drop off) with
      | some d => K (.ret (.p d))
      | none => none)
    | .on ⟨id, id2, ty, xs, j, ys, .p i⟩ => if isAgg? P t = some false then some (fun K => need (decide (i = j)) (K (.ret (.on ⟨id, id2, ty, xs, j, ys, .r⟩)))) else none
    | _ => none
  | .slice t x lo hi mx => match evx G e x, mx with
    | .p (.tl ty xs), none => match P.und t with
      | some (.slice el) => if size? P el = some ty.size then
          match boundX (hi.map (evx G e)) xs.length with
          | some h => match boundX (lo.map (evx G e)) 0 with
            | some l => some (fun K => Option.bind (sub xs l h) fun ys => K (.ret (.p (.tl ty ys))))
            | none => none
          | none => none
        else none
      | _ => none
    | .ot id ty xs, none => match P.und t with
      | some (.slice el) => if size? P el = some ty.size then
          match boundX (hi.map (evx G e)) xs.length with
          | some h => match boundX (lo.map (evx G e)) 0 with
            | some l => some (fun K => need (decide (0 ≤ l) && decide (l ≤ h) && decide (h ≤ xs.length)) (K (.ret (.ov id ty xs l.toNat h.toNat))))
            | none => none
          | none => none
        else none
      | _ => none
    | _, _ => none
  | .index t x ix => match evx G e x, evx G e ix with
    | .p (.val (.string s)), .p (.val (.int _ i)) => match P.und t with
      | some .string => some (fun K => Option.bind (byteAt s i) fun b => K (retI .u8 b))
      | _ => none
    | _, _ => none
  | .binOp op t x y _ => match evx G e x, evx G e y with
    | .p (.val (.int k a)), .p (.val (.int k' b)) => match op with
      | .shl => shiftX .shl k a b
      | .shr => shiftX .shr k a b
      | op => if k = k' then intX op k a b else none
    | .p (.val (.string a)), .p (.val (.string b)) => match op with
      | .eql => some (fun K => K (retB (a == b)))
      | .neq => some (fun K => K (retB (a != b)))
      | _ => none
    | _, _ => none
  | .pick c x y => match evx G e c, flatT (evx G e x), flatT (evx G e y) with
    | .p (.val (.bool b)), some u, some v => match pickX b u v with
      | some z => some (fun K => K (.ret (.p (.val z))))
      | none => some (fun K => cond b (K (.ret (.p (V.ofVal u)))) (K (.ret (.p (V.ofVal v)))))
    | _, _, _ => none
  | .call c => match c.callee with
    | .value f => match evx G e f, argsV G e c.args.toList with
      | .p (.clo g caps), some ds => match S g e.st (ds ++ caps) with
        | some cx => if c.args.toList.any (fun x => (evx G e x).isView) && !cx.pl then none else some (fun K => Option.bind cx.m fun y =>
            match c.args.toList.any (fun x => (evx G e x).isView) with
            | false => K (.call (cx.st y) false (cx.res y))
            | true => match (cx.res y).plain with
              | true => K (.call (cx.st y) true (cx.res y))
              | false => none)
        | none => none
      | _, _ => none
    | .builtin .append => match c.args.toList, c.argTypes.toList with
      | [x0, x1], [t0, t1] => match keyE (evx G e x0), evx G e x1 with
        | some q, .p (.tl t ys) => match P.fn happId with
          | some _ => none
          | none => match P.und t0, P.und t1 with
            | some (.slice el), some (.slice _) => match P.inf el with
              | some info => match info.zero with
                | some z => if t.size = info.size ∧ 1 ≤ info.bytes ∧ z.cells.size = info.size then
                    match S happId e.st [.bot, q, .tl t ys, .val (.int .i64 info.bytes)] with
                    | some cx => some (fun K => Option.bind cx.m fun y => match cx.res y with
                      | .p d => K (.call (cx.st y) false (.p d))
                      | _ => none)
                    | none => none
                  else none
                | none => none
              | none => none
            | _, _ => none
        | _, _ => none
      | _, _ => none
    | _ => none
  | .makeSlice t l c => match evx G e l, evx G e c with
    | .p (.val (.int .i64 n)), .p (.val (.int .i64 _)) => if sameOp l c then match P.und t with
      | some (.slice el) => match P.inf el with
        | some info => match info.zero, P.ty el with
          | some z, some ty => match ty.dec (V.ofVal1 z) with
            | some x => if 1 ≤ info.bytes ∧ (V.ofVal1 z).cells.length = info.size ∧ info.size ≠ 0 ∧ ty.size = info.size then
                some (fun K => Option.bind (news info.bytes n x) fun xs => K (.ownT ty xs)) else none
            | none => none
          | _, _ => none
        | none => none
      | _ => none
      else none
    | _, _ => none
  | _ => none

/-- Any operation that only makes. -/
def qXs (e : Env Γ.St) (o : Oper) : Option (Kx Γ ρ) :=
  match qX P G S e o with
  | some q => some q
  | none => match isCall o with
    | true => none
    | false => match evQ P G S.toS e o with
      | some r => some (fun K => K r)
      | none => none
end

section
variable {Γ : Sig} {ρ : Type} {P : Program} {G : Nat → Option (List V)} {S : SpecsX Γ} {e : Env Γ.St} {o : Oper}

theorem evBin_intX {op : BinOp} {t t' : TypeId} {x y : Operand} {k k' : IntKind} {a b : Int} {v : Value} {dst : Option Tmp} {type : TypeId} {pos : String} {after : Array Edge} {guard : Option (Nat × Bool)} {S : Specs Γ}
    (hx : evx G e x = .p (.val (.int k a))) (hy : evx G e y = .p (.val (.int k' b))) (h : pureIn P (binOp op t (.int k a) (.int k' b)) = some v) :
    evQ P G S e ⟨dst, .binOp op t x y t', type, pos, after, guard⟩ = some (.ret (.p (V.ofVal v))) := by
  have h1 : evNil (St := Γ.St) P op t (evx G e x) (evx G e y) = none := by rw [hx]; rfl
  have h2 : evEq (St := Γ.St) P op t (evx G e x) (evx G e y) = none := by rw [hx]; rfl
  have h2' : evEqH (St := Γ.St) P op t (evx G e x) (evx G e y) = none := by rw [hx]; rfl
  simp only [evQ, h1, h2', h2]
  refine evFlat_of ?_ ?_
  · simp [Op.operands, hx, hy, flatT, V.toVal, V.toVal1]
  · have hfx : (flatT (evx G e x)).getD undef = .int k a := by rw [hx]; rfl
    have hfy : (flatT (evx G e y)).getD undef = .int k' b := by rw [hy]; rfl
    simp only [execOp, hfx, hfy]
    have hg : eqGuard op t x y (.int k a) (.int k' b) = pure () := by cases op <;> rfl
    rw [hg]
    have hb : ∀ (s : Sem Value), pureIn P s = some v → pureIn P (do let v ← s; pure (Next.value v)) = some (.value v) := by
      intro s
      induction s with
      | pure c => intro hs; simp only [pureIn, Option.some.injEq] at hs; subst hs; rfl
      | program f ih => intro hs; exact ih P hs
      | _ => intro hs; simp [pureIn] at hs
    exact hb _ h

theorem evBin_strX {op : BinOp} {t t' : TypeId} {x y : Operand} {a b : ByteArray} {v : Value} {dst : Option Tmp} {type : TypeId} {pos : String} {after : Array Edge} {guard : Option (Nat × Bool)} {S : Specs Γ}
    (hx : evx G e x = .p (.val (.string a))) (hy : evx G e y = .p (.val (.string b))) (h : pureIn P (binOp op t (.string a) (.string b)) = some v) :
    evQ P G S e ⟨dst, .binOp op t x y t', type, pos, after, guard⟩ = some (.ret (.p (V.ofVal v))) := by
  have h1 : evNil (St := Γ.St) P op t (evx G e x) (evx G e y) = none := by rw [hx]; rfl
  have h2 : evEq (St := Γ.St) P op t (evx G e x) (evx G e y) = none := by rw [hx]; rfl
  have h2' : evEqH (St := Γ.St) P op t (evx G e x) (evx G e y) = none := by rw [hx]; rfl
  simp only [evQ, h1, h2', h2]
  refine evFlat_of ?_ ?_
  · simp [Op.operands, hx, hy, flatT, V.toVal, V.toVal1]
  · have hfx : (flatT (evx G e x)).getD undef = .string a := by rw [hx]; rfl
    have hfy : (flatT (evx G e y)).getD undef = .string b := by rw [hy]; rfl
    simp only [execOp, hfx, hfy]
    have hg : eqGuard op t x y (.string a) (.string b) = pure () := by cases op <;> rfl
    rw [hg]
    have hb : ∀ (s : Sem Value), pureIn P s = some v → pureIn P (do let v ← s; pure (Next.value v)) = some (.value v) := by
      intro s
      induction s with
      | pure c => intro hs; simp only [pureIn, Option.some.injEq] at hs; subst hs; rfl
      | program f ih => intro hs; exact ih P hs
      | _ => intro hs; simp [pureIn] at hs
    exact hb _ h

theorem toList_loop (bs : ByteArray) : ∀ (n i : Nat) (r : List UInt8), bs.size - i = n → ByteArray.toList.loop bs i r = r.reverse ++ bs.data.toList.drop i := by
  intro n
  induction n with
  | zero =>
    intro i r h
    unfold ByteArray.toList.loop
    have hs : bs.size = bs.data.size := rfl
    rw [if_neg (by omega), List.drop_eq_nil_of_le (by simp; omega), List.append_nil]
  | succ n ih =>
    intro i r h
    unfold ByteArray.toList.loop
    have hs : bs.size = bs.data.size := rfl
    rw [if_pos (by omega), ih _ _ (by omega)]
    have hlt : i < bs.data.toList.length := by simp; omega
    rw [List.drop_eq_getElem_cons hlt, List.reverse_cons, List.append_assoc]
    congr 1
    simp only [List.cons_append, List.nil_append]
    congr 1
    show bs.data[i]! = _
    grind

theorem toList_bytes (bs : ByteArray) : bs.toList = bs.data.toList := by
  unfold ByteArray.toList
  rw [toList_loop bs _ 0 [] rfl]; rfl

theorem bytes_beq {a b : ByteArray} : (a == b) = true ↔ a = b := by
  obtain ⟨a⟩ := a
  obtain ⟨b⟩ := b
  show (a == b) = true ↔ _
  grind

instance : LawfulBEq ByteArray where
  eq_of_beq h := bytes_beq.1 h
  rfl := bytes_beq.2 rfl

theorem bytes_eq (a b : ByteArray) : (a.toList == b.toList) = (a == b) := by
  rw [toList_bytes, toList_bytes]
  apply Bool.eq_iff_iff.2
  rw [beq_iff_eq, beq_iff_eq]
  constructor
  · intro h; obtain ⟨⟨a⟩⟩ := a; simp_all
  grind

theorem intX_sound {op : BinOp} {t t' : TypeId} {x y : Operand} {k : IntKind} {a b : Int} {q : Kx Γ ρ} {K : R Γ.St → Option ρ} {v : ρ} {dst : Option Tmp} {type : TypeId} {pos : String} {after : Array Edge} {guard : Option (Nat × Bool)} {S : Specs Γ}
    (hx : evx G e x = .p (.val (.int k a))) (hy : evx G e y = .p (.val (.int k b))) (h : intX op k a b = some q) (hK : q K = some v) (h1 : op ≠ .shl) (h2 : op ≠ .shr) :
    ∃ r, evQ P G S e ⟨dst, .binOp op t x y t', type, pos, after, guard⟩ = some r ∧ K r = some v := by
  have fin : ∀ u, pureIn P (binOp op t (.int k a) (.int k b)) = some u → K (.ret (.p (V.ofVal u))) = some v → ∃ r, evQ P G S e ⟨dst, .binOp op t x y t', type, pos, after, guard⟩ = some r ∧ K r = some v :=
    fun v hv hk => ⟨_, evBin_intX hx hy hv, hk⟩
  have finI : ∀ n, pureIn P (binOp op t (.int k a) (.int k b)) = some (.int k n) → K (retI k n) = some v → ∃ r, evQ P G S e ⟨dst, .binOp op t x y t', type, pos, after, guard⟩ = some r ∧ K r = some v := fun n hv hk => fin _ hv hk
  have finB : ∀ c, pureIn P (binOp op t (.int k a) (.int k b)) = some (.bool c) → K (retB c) = some v → ∃ r, evQ P G S e ⟨dst, .binOp op t x y t', type, pos, after, guard⟩ = some r ∧ K r = some v := fun n hv hk => fin _ hv hk
  have hkk : ∀ s1 s2 : Sem Value, (if k ≠ k then s1 else s2) = s2 := by intro s1 s2; simp
  cases op <;> simp only [intX, bitsOf, Option.some.injEq, reduceCtorEq] at h <;> first | exact absurd rfl h1 | exact absurd rfl h2 | skip
  case quo =>
    subst h
    obtain ⟨hb, hK⟩ := need_some.1 hK
    have hb : b ≠ 0 := by simpa using hb
    refine finI (k.wrap (a.tdiv b)) ?_ hK
    simp only [binOp, hkk, Op.intDiv, if_neg hb]; rfl
  case rem =>
    subst h
    obtain ⟨hb, hK⟩ := need_some.1 hK
    have hb : b ≠ 0 := by simpa using hb
    refine finI (a.tmod b) ?_ hK
    simp only [binOp, hkk, Op.intDiv, if_neg hb]; rfl
  all_goals
    subst h
    first
      | (refine finI _ ?_ hK; simp only [binOp, hkk]; rfl)
      | (refine finB _ ?_ hK; simp only [binOp, hkk]; rfl)

theorem shiftX_sound {op : BinOp} {t t' : TypeId} {x y : Operand} {k k' : IntKind} {a b : Int} {q : Kx Γ ρ} {K : R Γ.St → Option ρ} {v : ρ} {dst : Option Tmp} {type : TypeId} {pos : String} {after : Array Edge} {guard : Option (Nat × Bool)} {S : Specs Γ}
    (hx : evx G e x = .p (.val (.int k a))) (hy : evx G e y = .p (.val (.int k' b))) (h : shiftX op k a b = some q) (hK : q K = some v) :
    ∃ r, evQ P G S e ⟨dst, .binOp op t x y t', type, pos, after, guard⟩ = some r ∧ K r = some v := by
  cases op <;> simp only [shiftX, Option.some.injEq, reduceCtorEq] at h
  case shl =>
    subst h
    obtain ⟨hb, hK⟩ := need_some.1 hK
    have hb : 0 ≤ b := by simpa using hb
    refine ⟨_, evBin_intX (v := .int k (k.wrap (a * 2 ^ min b.toNat k.bits))) hx hy ?_, hK⟩
    simp only [binOp, Op.shift]
    rw [if_neg (by omega)]; rfl
  case shr =>
    subst h
    obtain ⟨hb, hK⟩ := need_some.1 hK
    have hb : 0 ≤ b := by simpa using hb
    refine ⟨_, evBin_intX (v := .int k (a.fdiv (2 ^ min b.toNat k.bits))) hx hy ?_, hK⟩
    simp only [binOp, Op.shift]
    rw [if_neg (by omega)]; rfl

theorem bind_some {α β : Type} {x : Option α} {f : α → Option β} {v : β} (h : Option.bind x f = some v) : ∃ y, x = some y ∧ f y = some v := by
  cases x with
  | none => simp at h
  | some y => grind

theorem idx_some {α : Type} {xs : List α} {i : Int} {y : α} (h : idx xs i = some y) : 0 ≤ i ∧ xs[i.toNat]? = some y := by
  grind [idx]

theorem boundX_eq {d : Option T} {dflt top : Nat} {i : Int} (hw : boundX d dflt = some i) (h0 : 0 ≤ i) (h1 : i ≤ top) : boundV d dflt top = some i.toNat := by
  unfold boundX at hw
  split at hw
  · simp only [Option.some.injEq] at hw; subst hw; rfl
  all_goals simp_all [boundV]

theorem qX_sound {q : Kx Γ ρ} {K : R Γ.St → Option ρ} {v : ρ} (h : qX P G S e o = some q) (hK : q K = some v) : ∃ r, evQ P G S.toS e o = some r ∧ K r = some v := by
  obtain ⟨dst, op, type, pos, after, guard⟩ := o
  cases op <;> simp only [qX, reduceCtorEq] at h
  case indexAddr t x ix =>
    split at h
    · rename_i ty xs k0 i hx hix
      split at h
      · rename_i el hu
        split at h
        · rename_i hz
          simp only [Option.some.injEq] at h
          subst h
          obtain ⟨y, hy, hK⟩ := bind_some hK
          obtain ⟨h0, hg⟩ := idx_some hy
          simp_all [evQ, evIndexAddr]
        · cases h
      · cases h
    · rename_i id ty xs k0 i hx hix
      split at h
      · rename_i el hu
        split at h
        · rename_i hz
          simp only [Option.some.injEq] at h
          subst h
          obtain ⟨y, hy, hK⟩ := bind_some hK
          obtain ⟨h0, hg⟩ := idx_some hy
          have hlt : i.toNat < xs.length := (List.getElem?_eq_some_iff.1 hg).1
          simp_all [evQ, evIndexAddr]
        · cases h
      · cases h
    · rename_i n k0 i hx hix
      split at h
      · rename_i el hu
        have hu' : P.underlying t = some (.slice el) := hu
        split at h
        · split at h
          · rename_i hz
            simp only [Option.some.injEq] at h
            subst h
            obtain ⟨y, hy, hK⟩ := bind_some hK
            obtain ⟨h0, hg⟩ := idx_some hy
            have hlt := (List.getElem?_eq_some_iff.1 hg).1
            simp_all [evQ, evIndexAddr, evIndexAddrN]
          · cases h
        · split at h
          · rename_i hz
            simp only [Option.some.injEq] at h
            subst h
            obtain ⟨y, hy, hK⟩ := bind_some hK
            obtain ⟨h0, hg⟩ := idx_some hy
            have hlt := (List.getElem?_eq_some_iff.1 hg).1
            simp_all [evQ, evIndexAddr, evIndexAddrN]
          · cases h
        · cases h
      · cases h
    · rename_i cs k0 i hx hix
      split at h
      · rename_i n el hu
        split at h
        · rename_i ty hty
          split at h
          · rename_i hz
            split at h
            · rename_i xs hxs
              simp only [Option.some.injEq] at h
              subst h
              obtain ⟨y, hy, hK⟩ := bind_some hK
              obtain ⟨h0, hg⟩ := idx_some hy
              simp_all [creTy, evQ, evIndexAddr, evIndexAddr0]
            · cases h
          · cases h
        · cases h
      · cases h
    · cases h
  case fieldAddr t x i =>
    split at h
    · rename_i ty o hx
      split at h
      · rename_i f hf
        split at h
        · rename_i z hz
          simp only [Option.some.injEq] at h
          subst h
          obtain ⟨y, hy, hK⟩ := bind_some hK
          grind [evQ, evFieldAddr, evFieldAddr0]
        · cases h
      · cases h
    · cases h
  case nilCheck x =>
    split at h
    · rename_i ty o hx
      simp only [Option.some.injEq] at h
      subst h
      obtain ⟨y, hy, hK⟩ := bind_some hK
      grind [evQ]
    · cases h
  case load t x =>
    split at h
    · rename_i ty o hx
      simp only [Option.some.injEq] at h
      subst h
      obtain ⟨y, hy, hk⟩ := bind_some hK
      grind [evQ, evLoadH]
    · rename_i id ty xs i off hx
      simp only [Option.some.injEq] at h
      subst h
      obtain ⟨y, hg, h3⟩ := bind_some hK
      unfold atN at hg
      split at h3
      all_goals grind [evQ, evLoadH, evLoad]
    · rename_i id id2 ty xs j ys i hx
      split at h
      · rename_i hagg
        simp only [Option.some.injEq] at h
        subst h
        simp_all [need_some, evQ, evLoadH, evLoad, evLoadN]
      · cases h
    · cases h
  case slice t x lo hi mx =>
    split at h
    · rename_i ty xs hx
      split at h
      · rename_i el hu
        split at h
        · rename_i hz
          split at h
          · rename_i hN hbh
            split at h
            · rename_i lN hbl
              simp only [Option.some.injEq] at h
              subst h
              obtain ⟨ys, hys, hK⟩ := bind_some hK
              unfold sub at hys
              split at hys
              · rename_i hc
                simp only [Option.some.injEq] at hys
                subst hys
                refine ⟨_, ?_, hK⟩
                have hu' : P.underlying t = some (.slice el) := hu
                have hb1 : boundV (hi.map (evx G e)) xs.length xs.length = some hN.toNat := boundX_eq hbh (by omega) hc.2.2
                have hb2 : boundV (lo.map (evx G e)) 0 hN.toNat = some lN.toNat := boundX_eq hbl hc.1 (by omega)
                simp_all [evQ, evSliceT]
              · cases hys
            · cases h
          · cases h
        · cases h
      · cases h
    · rename_i id ty xs hx
      split at h
      · rename_i el hu
        split at h
        · rename_i hz
          split at h
          · rename_i hN hbh
            split at h
            · rename_i lN hbl
              simp only [Option.some.injEq] at h
              subst h
              obtain ⟨hc, hK⟩ := need_some.1 hK
              simp only [Bool.and_eq_true, decide_eq_true_eq] at hc
              refine ⟨_, ?_, hK⟩
              have hu' : P.underlying t = some (.slice el) := hu
              have hb1 : boundV (hi.map (evx G e)) xs.length xs.length = some hN.toNat := boundX_eq hbh (by omega) hc.2
              have hb2 : boundV (lo.map (evx G e)) 0 hN.toNat = some lN.toNat := boundX_eq hbl hc.1.1 (by omega)
              simp_all [evQ, evSliceO]
            · cases h
          · cases h
        · cases h
      · cases h
    · cases h
  case index t x ix =>
    split at h
    · rename_i s k0 i hx hix
      split at h
      · rename_i hu
        simp only [Option.some.injEq] at h
        subst h
        obtain ⟨b, hb, hK⟩ := bind_some hK
        unfold byteAt at hb
        split at hb
        · rename_i h0
          simp only [Option.map_eq_some_iff] at hb
          obtain ⟨b0, hg, rfl⟩ := hb
          refine ⟨_, ?_, hK⟩
          have hfl : evFlat (St := Γ.St) P G e ⟨dst, .index t x ix, type, pos, after, guard⟩ = some (.ret (.p (V.ofVal (.int .u8 b0.toNat)))) := by
            refine evFlat_of ?_ ?_
            · grind [Op.operands, flatT, V.toVal, V.toVal1]
            · have hfx : (flatT (evx G e x)).getD undef = .string s := by rw [hx]; rfl
              have hfy : (flatT (evx G e ix)).getD undef = .int k0 i := by rw [hix]; rfl
              have hu' : P.underlying t = some .string := hu
              simp only [execOp, hfx, hfy, Instr.index, asIntOf]
              have hin : pureIn P (do
                  let __x ← pure (k0, i)
                  let __do_lift ← underlying t
                  match __do_lift, Value.string s with
                    | TypeDesc.array len elem, Value.agg cs =>
                      if 0 ≤ __x.snd ∧ __x.snd < ↑len then do
                        let __do_lift ← sizeOf elem
                        part elem cs (__x.snd.toNat * __do_lift)
                      else boundsPanic __x.fst __x.snd (↑len) BoundsCode.index
                    | TypeDesc.string, Value.string s =>
                      match if 0 ≤ __x.snd then s[__x.snd.toNat]? else none with
                      | some b => pure (Value.int IntKind.u8 ↑b.toNat)
                      | none => boundsPanic __x.fst __x.snd (↑s.size) BoundsCode.index
                    | x, x_1 => stuck "Index: array or string expected") = some (Value.int IntKind.u8 ↑b0.toNat) := by
                refine (pureIn_step (s := pure (k0, i)) rfl _).trans ?_
                refine (pureIn_step (pureIn_underlying hu') _).trans ?_
                simp only [h0, if_true, hg]
                rfl
              exact (pureIn_step hin _).trans rfl
          simp only [evQ]
          exact hfl
        · cases hb
      · cases h
    · cases h
  case binOp op t x y t' =>
    split at h
    · rename_i k a k' b hx hy
      split at h
      · exact shiftX_sound hx hy h hK
      · exact shiftX_sound hx hy h hK
      · rename_i h1 h2
        split at h
        · rename_i hk
          subst hk
          exact intX_sound hx hy h hK h1 h2
        · cases h
    · rename_i a b hx hy
      split at h
      · simp only [Option.some.injEq] at h
        subst h
        refine ⟨_, evBin_strX (v := .bool (a == b)) hx hy ?_, hK⟩
        simp only [binOp]
        rw [← bytes_eq]; rfl
      · simp only [Option.some.injEq] at h
        subst h
        refine ⟨_, evBin_strX (v := .bool (a != b)) hx hy ?_, hK⟩
        simp only [binOp, bne]
        rw [← bytes_eq]; rfl
      · cases h
    · cases h
  case pick c x y =>
    split at h
    · rename_i b u w hc hx hy
      have hall : ((⟨dst, .pick c x y, type, pos, after, guard⟩ : Oper).op.operands.toList.all (fun x => (flatT (evx G e x)).isSome)) = true := by
        simp [Op.operands, hx, hy]; rw [hc]; rfl
      have hfc : (flatT (evx G e c)).getD undef = .bool b := by rw [hc]; rfl
      have hfx : (flatT (evx G e x)).getD undef = u := by rw [hx]; rfl
      have hfy : (flatT (evx G e y)).getD undef = w := by rw [hy]; rfl
      have hev : evQ P G S.toS e ⟨dst, .pick c x y, type, pos, after, guard⟩ = some (.ret (.p (V.ofVal (if b then u else w)))) := by
        simp only [evQ]
        refine evFlat_of hall ?_
        simp only [execOp, hfc, hfx, hfy]
        cases b <;> rfl
      split at h
      · rename_i z hz
        simp only [Option.some.injEq] at h
        subst h
        refine ⟨_, hev, ?_⟩
        have : V.ofVal (if b then u else w) = .val z := by
          unfold pickX at hz
          split at hz
          · simp only [Option.some.injEq] at hz; subst hz; cases b <;> rfl
          · split at hz
            · rename_i hk
              subst hk
              simp only [Option.some.injEq] at hz; subst hz; cases b <;> rfl
            · cases hz
          · cases hz
        grind
      grind
    · cases h
  case call c =>
    split at h
    · rename_i f hcal
      split at h
      · rename_i g caps ds hf hds
        split at h
        · rename_i cx hS
          split at h
          · cases h
          · simp only [Option.some.injEq] at h
            subst h
            obtain ⟨y, hy, hK⟩ := bind_some hK
            split at hK
            · rename_i hv
              refine ⟨_, ?_, hK⟩
              simp_all [toS_eqX, evQ, evCall, callRes]
            · rename_i hv
              split at hK
              · rename_i hpl
                refine ⟨_, ?_, hK⟩
                simp_all [toS_eqX, evQ, evCall, callRes]
              · cases hK
        · cases h
      · cases h
    · rename_i hcal
      split at h
      · rename_i x0 x1 t0 t1 hargs htys
        split at h
        · rename_i q t ys hx0 hx1
          split at h
          · cases h
          · rename_i hno
            split at h
            · rename_i el el1 hu0 hu1
              split at h
              · rename_i info hinfo
                split at h
                · rename_i z hz
                  split at h
                  · rename_i hok
                    split at h
                    · rename_i cx hS
                      simp only [Option.some.injEq] at h
                      subst h
                      obtain ⟨y, hy, hK⟩ := bind_some hK
                      split at hK
                      all_goals simp_all [toS_eqX, happId, evQ, evCall, evHapp]
                    · cases h
                  · cases h
                · cases h
              · cases h
            · cases h
        · cases h
      · cases h
    · cases h
  case makeSlice t l c =>
    split at h
    · rename_i n m hl hc
      split at h
      · rename_i hsame
        have hlc := sameOp_eq hsame
        subst hlc
        rw [hl] at hc
        simp only [T.p.injEq, V.val.injEq, Value.int.injEq, true_and] at hc
        split at h
        · rename_i el hu
          split at h
          · rename_i info hi
            split at h
            · rename_i z ty hz hty
              split at h
              · rename_i x hx
                split at h
                · rename_i hcond
                  obtain ⟨c1, c2, c3, c4⟩ := hcond
                  simp only [Option.some.injEq] at h
                  subst h
                  obtain ⟨xs, hxs, hK⟩ := bind_some hK
                  simp_all [news, creTy, V.ofVal1, evQ, evMakeSlice]
                · cases h
              · cases h
            · cases h
          · cases h
        · cases h
      · cases h
    · cases h

theorem qXs_sound {q : Kx Γ ρ} {K : R Γ.St → Option ρ} {v : ρ} (h : qXs P G S e o = some q) (hK : q K = some v) : ∃ r, evQ P G S.toS e o = some r ∧ K r = some v := by
  unfold qXs at h
  split at h
  · simp_all [qX_sound]
  grind
end
end Go.Ve

namespace Go.Ve
open Go

section
variable {β : Type}

def kL {α : Type} (f : α → (α → β) → β) : List α → (List α → β) → β
  | [], k => k []
  | x :: r, k => f x (fun x => kL f r (fun r => k (x :: r)))

def kVal : Value → (Value → β) → β
  | .int q n, k => k (.int q n)
  | .bool b, k => k (.bool b)
  | .string s, k => k (.string s)
  | v, k => k v

def kV : Nat → V → (V → β) → β
  | 0, d, k => k d
  | _ + 1, .val v, k => kVal v (fun v => k (.val v))
  | n + 1, .agg cs, k => kL (kV n) cs (fun cs => k (.agg cs))
  | n + 1, .sl cs, k => kL (kV n) cs (fun cs => k (.sl cs))
  | n + 1, .tup cs, k => kL (kV n) cs (fun cs => k (.tup cs))
  | n + 1, .pp cs, k => kL (kV n) cs (fun cs => k (.pp cs))
  | n + 1, .clo f cs, k => kL (kV n) cs (fun cs => k (.clo f cs))
  | _ + 1, .tl t xs, k => k (.tl t xs)
  | _ + 1, .rf o, k => k (.rf o)
  | _ + 1, .hd o, k => k (.hd o)
  | _ + 1, .pt t o, k => k (.pt t o)
  | n + 1, .hp cs, k => kL (kV n) cs (fun cs => k (.hp cs))
  | _ + 1, .bot, k => k .bot

def kT : T → (T → β) → β
  | .p d, k => kV 6 d (fun d => k (.p d))
  | .ow i q es, k => kL (kV 6) es (fun es => k (.ow i q es))
  | .oe i q es j off, k => kL (kV 6) es (fun es => k (.oe i q es j off))
  | .lp s off, k => k (.lp s off)
  | .mp i es ck, k => k (.mp i es ck)
  | .ot i t xs, k => k (.ot i t xs)
  | .oet i t xs j off, k => k (.oet i t xs j off)
  | .ov i t xs j off, k => k (.ov i t xs j off)
  | .on n, k => k (.on n)
  | .emp, k => k .emp
  | .dead, k => k .dead

def kO : Option (List T) → (Option (List T) → β) → β
  | none, k => k none
  | some cs, k => kL kT cs (fun cs => k (some cs))

def kEnv {St : Type} (e : Env St) (k : Env St → β) : β :=
  match e with
  | ⟨tm, vars, st⟩ => kL kT tm (fun tm => kL kO vars (fun vars => k ⟨tm, vars, st⟩))

def kAt {α : Type} (f : α → (α → β) → β) : Nat → List α → (List α → β) → β
  | _, [], k => k []
  | 0, x :: r, k => f x (fun x => k (x :: r))
  | n + 1, x :: r, k => kAt f n r (fun r => k (x :: r))

def kOne {St : Type} (d : Nat) (e : Env St) (k : Env St → β) : β :=
  match e with
  | ⟨tm, vars, st⟩ => kAt kT d tm (fun tm => k ⟨tm, vars, st⟩)

def kOp {St : Type} (o : Oper) (e : Env St) (k : Env St → β) : β :=
  match o.op with
  | .move _ | .assign _ | .load _ _ | .field _ _ _ | .fieldAddr _ _ _ | .indexAddr _ _ _ | .index _ _ _ | .binOp _ _ _ _ _ | .unOp _ _ _ | .convert _ _ _ | .pick _ _ _ | .extract _ _ | .nilCheck _ => match o.dst with
    | some d => kOne d e k
    | none => kEnv e k
  | .call c => match c.callee, o.dst with
    | .builtin .len, some d => kOne d e k
    | .builtin .min, some d => kOne d e k
    | .builtin .max, some d => kOne d e k
    | _, _ => kEnv e k
  | _ => kEnv e k

theorem kL_eq {α : Type} {f : α → (α → β) → β} (hf : ∀ x k, f x k = k x) : ∀ (l : List α) (k : List α → β), kL f l k = k l := by
  intro l
  induction l with
  | nil => intro k; rfl
  | cons x l ih => grind [kL]

theorem kVal_eq (v : Value) (k : Value → β) : kVal v k = k v := by cases v <;> rfl

theorem kV_eq : ∀ (n : Nat) (d : V) (k : V → β), kV n d k = k d := by
  intro n
  induction n with
  | zero => intro d k; rfl
  | succ n ih =>
    intro d k
    cases d <;> simp only [kV]
    · exact kVal_eq _ _
    all_goals grind [kL_eq]

theorem kT_eq (x : T) (k : T → β) : kT x k = k x := by
  cases x <;> simp only [kT]
  all_goals grind [kV_eq, kL_eq]

theorem kO_eq (x : Option (List T)) (k : Option (List T) → β) : kO x k = k x := by
  cases x with
  | none => rfl
  | some cs => grind [kL_eq, kT_eq, kO]

theorem kEnv_eq {St : Type} (e : Env St) (k : Env St → β) : kEnv e k = k e := by
  simp_all [kL_eq, kT_eq, kO_eq, kEnv]

theorem kAt_eq {α : Type} {f : α → (α → β) → β} (hf : ∀ x k, f x k = k x) : ∀ (n : Nat) (l : List α) (k : List α → β), kAt f n l k = k l := by
  intro n l
  induction l generalizing n with
  | nil => intro k; cases n <;> rfl
  | cons x l ih =>
    intro k
    cases n with
    | zero => grind [kAt]
    | succ n => grind [kAt]

theorem kOne_eq {St : Type} (d : Nat) (e : Env St) (k : Env St → β) : kOne d e k = k e := by
  simp_all [kAt_eq, kT_eq, kOne]

theorem kOp_eq {St : Type} (o : Oper) (e : Env St) (k : Env St → β) : kOp o e k = k e := by
  grind [kOne_eq, kEnv_eq, kOp]
end

/-- Two states are alike but for what has the numbers in m. -/
structure Agree {St : Type} (m : Nat) (e e1 : Env St) : Prop where
  tl : e1.tm.length = e.tm.length
  vl : e1.vars.length = e.vars.length
  p : ∀ t d, m.testBit (2 * t) = false → e.get t = .p d → e1.get t = .p d
  lp : ∀ t s off, m.testBit (2 * t) = false → m.testBit (2 * s) = false → e.get t = .lp s off → e1.get t = .lp s off
  v : ∀ s (ds : List V), m.testBit (2 * s) = false → m.testBit (2 * s + 1) = false → e.var s = some (ds.map T.p) → e1.var s = some (ds.map T.p)

section
variable {St : Type} {e e1 e2 : Env St} {m n : Nat}

theorem bit_or (m n t : Nat) : (m ||| n).testBit t = false ↔ m.testBit t = false ∧ n.testBit t = false := by
  grind

theorem bit_pow (s t : Nat) : (2 ^ s).testBit t = false ↔ t ≠ s := by
  grind

theorem bit_gone (s t : Nat) : (2 ^ (2 * s)).testBit (2 * t) = false ↔ t ≠ s := by
  grind

theorem bit_turn (s t : Nat) : (2 ^ (2 * s + 1)).testBit (2 * t + 1) = false ↔ t ≠ s := by
  grind

theorem Agree.refl (e : Env St) : Agree 0 e e := ⟨rfl, rfl, fun _ _ _ h => h, fun _ _ _ _ _ h => h, fun _ _ _ _ h => h⟩

theorem Agree.mono (h : Agree m e e1) (hm : ∀ t, n.testBit t = false → m.testBit t = false) : Agree n e e1 :=
  ⟨h.tl, h.vl, fun t d ht => h.p t d (hm _ ht), fun t s off ht hs => h.lp t s off (hm _ ht) (hm _ hs), fun s ds hs hs' => h.v s ds (hm _ hs) (hm _ hs')⟩

theorem Agree.same (h : Agree m e e1) (k : Agree m e1 e2) : Agree m e e2 :=
  ⟨k.tl.trans h.tl, k.vl.trans h.vl, fun t d ht hd => k.p t d ht (h.p t d ht hd), fun t s off ht hs hd => k.lp t s off ht hs (h.lp t s off ht hs hd), fun s ds hs hs' hd => k.v s ds hs hs' (h.v s ds hs hs' hd)⟩

theorem Agree.trans (h : Agree m e e1) (k : Agree n e1 e2) : Agree (m ||| n) e e2 :=
  (h.mono (fun t ht => ((bit_or m n t).1 ht).1)).same (k.mono (fun t ht => ((bit_or m n t).1 ht).2))

/-- What only turns own data. -/
def Fixes (f : T → T) : Prop := (∀ d, f (.p d) = .p d) ∧ (∀ s off, f (.lp s off) = .lp s off) ∧ f .dead = .dead

theorem agree_mapT {f : T → T} (hf : Fixes f) (e : Env St) : Agree 0 e (e.mapT f) := by
  refine ⟨by simp [Env.mapT], by simp [Env.mapT], ?_, ?_, ?_⟩
  · intro t d _ h; rw [get_mapT hf.2.2, h, hf.1]
  · intro t s off _ _ h; rw [get_mapT hf.2.2, h, hf.2.1]
  · intro s ds _ _ h
    rw [var_mapT, h]
    simp [hf.1]

theorem agree_kill (d : Nat) (e : Env St) : Agree (2 ^ (2 * d)) e (e.kill d) := by
  refine ⟨by simp [Env.kill], by simp [Env.kill], ?_, ?_, ?_⟩
  all_goals simp_all [get_map, bit_gone, var_kill, Function.comp_def, killT]

theorem get_tmset (e : Env St) (d t : Nat) (x : T) (h : t ≠ d) : ({ e with tm := e.tm.set d x } : Env St).get t = e.get t := by
  grind [List.getElem?_set_ne, Env.get]

theorem agree_set (d : Nat) (x : T) (e : Env St) : Agree (2 ^ (2 * d)) e { e with tm := e.tm.set d x } := by
  refine ⟨by simp, rfl, ?_, ?_, ?_⟩
  · grind [get_tmset, bit_gone]
  · grind [get_tmset, bit_gone]
  · intro s ds _ _ h; exact h

theorem agree_st (s : St) (e : Env St) : Agree 0 e { e with st := s } := ⟨rfl, rfl, fun _ _ _ h => h, fun _ _ _ _ _ h => h, fun _ _ _ _ h => h⟩

theorem var_vset (e : Env St) (s t : Nat) (x : Option (List T)) (h : t ≠ s) : ({ e with vars := e.vars.set s x } : Env St).var t = e.var t := by
  grind [List.getElem?_set_ne, Env.var]

theorem agree_vset (s : Nat) (x : Option (List T)) (e : Env St) : Agree (2 ^ (2 * s + 1)) e { e with vars := e.vars.set s x } := by
  refine ⟨rfl, by simp, fun _ _ _ h => h, fun _ _ _ _ _ h => h, ?_⟩
  grind [var_vset, bit_turn]

theorem agree_vsetG (s : Nat) (x : Option (List T)) (e : Env St) : Agree (2 ^ (2 * s)) e { e with vars := e.vars.set s x } := by
  refine ⟨rfl, by simp, fun _ _ _ h => h, fun _ _ _ _ _ h => h, ?_⟩
  grind [var_vset, bit_gone]

def bitO : Option Nat → Nat
  | some d => 2 ^ (2 * d)
  | none => 0

theorem agree_setR (e : Env St) (d : Nat) (r : R St) : Agree (2 ^ (2 * d)) e (e.setR d r) := by
  unfold Env.setR
  split
  · rename_i cs
    exact ((agree_vsetG d (some cs) e).same (agree_set d (.lp d 0) _)).mono (fun _ h => h)
  · rename_i st v rv
    exact ((agree_st st e).trans (agree_set d (rvT d rv) _)).mono (fun t h => by grind)
  · exact agree_set d _ e

theorem agree_put (e : Env St) (d : Option Nat) (x : T) : Agree (bitO d) e (e.put d x) := by
  cases d with
  | none => exact Agree.refl e
  | some d => exact agree_set d x e

theorem agree_applyR {dst : Option Tmp} {r : R St} (h : applyR e dst r = some e1) : Agree (bitO dst) e e1 := by
  unfold applyR at h
  split at h
  · rename_i d
    split at h
    · split at h
      · cases h
        exact (agree_kill d e).same (agree_setR _ d _)
      · cases h
    · cases h
      exact agree_setR e d r
  · split at h
    · cases h; exact Agree.refl _
    · cases h; exact agree_st _ _
    · cases h

theorem agree_applyD {dst : Option Tmp} {r : R St} (h : applyD e dst r = some e1) : Agree (bitO dst) e e1 := by
  unfold applyD at h
  split at h
  · rename_i d
    split at h
    · cases h
      exact agree_setR e d r
    · cases h
  · split at h
    · cases h; exact Agree.refl _
    · cases h; exact agree_st _ _
    · cases h
end

def T.bits : T → Nat
  | .lp s _ => 2 ^ (2 * s)
  | .ow i _ _ => 2 ^ (2 * i)
  | .oe i _ _ _ _ => 2 ^ (2 * i)
  | .mp i _ _ => 2 ^ (2 * i)
  | .ot i _ _ => 2 ^ (2 * i)
  | .oet i _ _ _ _ => 2 ^ (2 * i)
  | .ov i _ _ _ _ => 2 ^ (2 * i)
  | .on n => 2 ^ (2 * n.id)
  | _ => 0

def idBit (i : Nat) : Nat :=
  match Nat.beq i lentId with
  | true => 0
  | false => 2 ^ (2 * i)

/-- The number of what is frozen. -/
def T.fbits : T → Nat
  | .lp s _ => 2 ^ (2 * s)
  | .ow i _ _ => idBit i
  | .oe i _ _ _ _ => idBit i
  | .mp i _ _ => idBit i
  | .ot i _ _ => idBit i
  | .oet i _ _ _ _ => idBit i
  | .ov i _ _ _ _ => idBit i
  | _ => 0

section
variable {Γ : Sig} (G : Nat → Option (List V))

/-- The numbers of what an operation may turn. -/
def touchW (e : Env Γ.St) (o : Oper) : Nat :=
  bitO o.dst ||| match o.op with
  | .store _ ap _ => match evx G e ap with
    | .lp s _ => 2 ^ (2 * s + 1)
    | _ => 0
  | .call c => match c.callee, c.args.toList with
    | .builtin .append, x :: _ => (evx G e x).bits
    | _, _ => 0
  | _ => 0

def touchF : List Operand → Env Γ.St → Nat
  | [], _ => 0
  | x :: r, e => (evx G e x).fbits ||| touchF r (frzT1 (evx G e x) e)
end

section
variable {Γ : Sig} {P : Look} {G : Nat → Option (List V)} {e e1 : Env Γ.St} {o : Oper}

theorem fixes_frz (id : Nat) : Fixes (frzOT id) := ⟨fun _ => rfl, fun _ _ => rfl, rfl⟩

theorem agree_frzOE (id : Nat) (e : Env Γ.St) : Agree 0 e (frzOE id e) := by
  grind [Agree.refl, agree_mapT, fixes_frz, frzOE]

theorem agree_frzCells : ∀ (cs : List T) (e : Env Γ.St), Agree 0 e (frzCells e cs) := by
  intro cs
  induction cs with
  | nil => intro e; exact Agree.refl e
  | cons x r ih =>
    intro e
    cases x <;> simp only [frzCells] <;> first | exact ih e | exact (agree_frzOE _ e).same (ih _)

theorem agree_frzV (s : Nat) (ds : List V) (e : Env Γ.St) : Agree (2 ^ (2 * s)) e (e.frzV s ds) := by
  unfold Env.frzV
  refine (agree_vsetG s none e).same ?_
  refine ⟨by simp [Env.mapT], by simp [Env.mapT], ?_, ?_, ?_⟩
  · intro t d _ h; rw [get_mapT rfl, h]; rfl
  · intro t s' off _ hs h
    rw [get_mapT rfl, h]
    simp_all [bit_gone, frzVT]
  simp_all [var_mapT, Function.comp_def, frzVT]

theorem agree_frzT1 (x : T) (e : Env Γ.St) : Agree x.fbits e (frzT1 x e) := by
  have z : ∀ {m : Nat} {e e1 : Env Γ.St}, Agree 0 e e1 → Agree m e e1 := fun h => h.mono (fun t _ => by simp)
  unfold frzT1
  split
  · exact z (agree_frzOE _ e)
  · exact z (agree_frzOE _ e)
  · exact z (agree_frzOE _ e)
  · rename_i s off
    split
    · split
      · split
        · exact (z (agree_frzCells _ e)).same (agree_frzV s _ _)
        grind [agree_frzCells]
      grind [agree_frzCells]
    · exact z (Agree.refl e)
  · exact z (Agree.refl e)

theorem agree_frzOps : ∀ (xs : List Operand) (e : Env Γ.St), Agree (touchF G xs e) e (frzOps G xs e) := by
  intro xs
  induction xs with
  | nil => intro e; exact Agree.refl e
  | cons x r ih => intro e; exact (agree_frzT1 _ e).trans (ih _)

theorem agree_evW (h : evW P G e o = some e1) : Agree (touchW G e o) e e1 := by
  have z : ∀ {m : Nat} {e e1 : Env Γ.St}, Agree 0 e e1 → Agree m e e1 := fun h => h.mono (fun t _ => by simp)
  obtain ⟨dst, op, type, pos, after, guard⟩ := o
  cases op <;> simp only [evW, reduceCtorEq] at h
  case store t ap x =>
    split at h
    · cases h
    · split at h
      · rename_i s off hap
        unfold evStoreV at h
        split at h
        · split at h
          · cases h
            refine (agree_vset s _ e).mono ?_
            grind [bit_or, touchW]
          · cases h
        · cases h
      · split at h
        · unfold evStoreO at h
          split at h
          · split at h
            · cases h
              exact z (agree_mapT ⟨fun _ => rfl, fun _ _ => rfl, rfl⟩ e)
            · cases h
          · cases h
        · cases h
      · split at h
        · unfold evStoreT at h
          split at h
          · split at h
            · split at h
              · cases h
                exact z (agree_mapT ⟨fun _ => rfl, fun _ _ => rfl, rfl⟩ e)
              · cases h
            · cases h
          · cases h
        · unfold evStoreIn at h
          split at h
          · split at h
            · cases h
              exact z (agree_mapT ⟨fun _ => rfl, fun _ _ => rfl, rfl⟩ e)
            · cases h
          · cases h
        · cases h
      · split at h
        · unfold evStoreN at h
          split at h
          · split at h
            · split at h
              · split at h
                · cases h
                  exact z (agree_mapT ⟨fun _ => rfl, fun _ _ => rfl, rfl⟩ e)
                · cases h
              · cases h
            · cases h
          · cases h
        · cases h
      · cases h
  case call c =>
    have key : ∀ (x0 x1 : Operand) (d id : Nat) (y : T), c.callee = .builtin .append → c.args.toList = [x0, x1] → dst = some d → (id = d ∨ (evx G e x0).bits = 2 ^ (2 * id)) →
        Agree (touchW G e ⟨dst, .call c, type, pos, after, guard⟩) e { (e.kill id) with tm := (e.kill id).tm.set d y } := by
      intro x0 x1 d id y hc ha hd hid
      have hs := (agree_kill id e).trans (agree_set d y (e.kill id))
      refine hs.mono ?_
      intro t ht
      simp [touchW, hc, ha, hd, bitO] at ht
      grind
    split at h
    · rename_i e2 he2
      simp at h; subst h
      unfold evAppendT at he2
      split at he2
      · rename_i x0 x1 t0 t1 d hcal hargs htys
        split at he2
        · split at he2
          · split at he2
            · split at he2
              · rename_i nm xs hdst
                split at he2
                · split at he2
                  · simp at he2; subst he2
                    refine key x0 x1 d _ _ hcal hargs rfl ?_
                    unfold dstT at hdst
                    split at hdst
                    · grind
                    · grind
                    · rename_i heq
                      split at hdst
                      · simp at hdst
                        rw [← hdst.1, heq]; exact .inr rfl
                      · cases hdst
                    · cases hdst
                  · cases he2
                · cases he2
              · cases he2
            · cases he2
          · cases he2
        · cases he2
      · cases he2
    · split at h
      · rename_i e2 he2
        simp at h; subst h
        unfold evAppendV at he2
        split at he2
        · rename_i p x1 t0 t1 d hcal hargs htys _
          split at he2
          · split at he2
            · split at he2
              · split at he2
                · rename_i id t' xs hi hget
                  split at he2
                  · cases he2
                  · split at he2
                    · split at he2
                      · split at he2
                        · simp at he2; subst he2
                          refine key (.tmp p) x1 d _ _ hcal hargs rfl (.inr ?_)
                          have : evx G e (.tmp p) = .ov id t' xs 0 hi := hget
                          rw [this]; rfl
                        · cases he2
                      · cases he2
                    · cases he2
                · cases he2
              · cases he2
            · cases he2
          · cases he2
        · cases he2
      · unfold evAppend evAppendN at h
        split at h
        · rename_i x0 x1 t0 t1 d hcal hargs htys hnone hnone2
          split at h
          · split at h
            · split at h
              · split at h
                · split at h
                  · rename_i id k es heq
                    split at h
                    · simp at h; subst h
                      exact key x0 x1 d _ _ hcal hargs rfl (.inr (by rw [heq]; rfl))
                    · cases h
                  · split at h
                    · split at h
                      · cases h
                      · cases h
                      · split at h
                        · cases h
                          refine (agree_put e (some d) _).mono ?_
                          grind [bit_or, touchW]
                        grind
                    · cases h
                · cases h
              · cases h
            · cases h
          · cases h
        · cases h
  case mapUpdate t m k v =>
    split at h
    · cases h
    · split at h
      · unfold evUpd at h
        split at h
        · cases h
          exact z (agree_mapT ⟨fun _ => rfl, fun _ _ => rfl, rfl⟩ e)
        · cases h
      · cases h
end
end Go.Ve

namespace Go.Ve
open Go

section
variable {St : Type}

/-- The state behind an operation: every temporary turned alike, one set anew. -/
def form (e : Env St) (f : T → T) (V : List (Option (List T))) (dst : Option Nat) (y : T) (st : St) : Env St :=
  ⟨match dst with
    | some d => (e.tm.map f).set d y
    | none => e.tm.map f, V, st⟩

structure Leaves (m : Nat) (f : T → T) : Prop where
  p : ∀ d, f (.p d) = .p d
  dead : f .dead = .dead
  lp : ∀ s off, m.testBit (2 * s) = false → f (.lp s off) = .lp s off

theorem Leaves.id (m : Nat) : Leaves m (fun x => x) := ⟨fun _ => rfl, rfl, fun _ _ _ => rfl⟩

theorem Leaves.mono {m n : Nat} {f : T → T} (h : Leaves m f) (hm : ∀ t, n.testBit t = false → m.testBit t = false) : Leaves n f :=
  ⟨h.p, h.dead, fun s off hs => h.lp s off (hm _ hs)⟩

theorem Leaves.kill (d : Nat) : Leaves (2 ^ (2 * d)) (killT d) :=
  ⟨fun _ => rfl, rfl, fun s off hs => by simp_all [bit_gone, killT]⟩

structure Alike (e b : Env St) : Prop where
  vars : e.vars = b.vars
  st : e.st = b.st
  len : e.tm.length = b.tm.length

theorem Alike.var {e b : Env St} (h : Alike e b) (s : Nat) : e.var s = b.var s := by simp [Env.var, h.vars]

theorem form_id (e b : Env St) (h : Alike e b) (y : T) : form e (fun x => x) b.vars none y b.st = e := by
  obtain ⟨tm, vars, st⟩ := e
  have h1 := h.vars
  have h2 := h.st
  simp_all [form]

theorem applyR_form {b b1 : Env St} {dst : Option Tmp} {r : R St} (h : applyR b dst r = some b1) :
    ∃ f V y st, Leaves (bitO dst) f ∧ ∀ e, Alike e b → applyR e dst r = some (form e f V dst y st) := by
  unfold applyR at h
  split at h
  · rename_i d
    split at h
    · rename_i hn
      split at h
      · rename_i hlt
        have go : ∀ (V : List (Option (List T)) → List (Option (List T))) (y : T) (st : St → St), (∀ e : Env St, (e.kill d).setR d (killR d r) = ⟨(e.tm.map (killT d)).set d y, V e.vars, st e.st⟩) →
            ∃ f V y st, Leaves (bitO (some d)) f ∧ ∀ e, Alike e b → applyR e (some d) r = some (form e f V (some d) y st) := by
          intro V y st hk
          refine ⟨killT d, V b.vars, y, st b.st, Leaves.kill d, ?_⟩
          intro e he
          simp only [applyR, hn, if_true]
          rw [if_pos (by rw [he.vars]; exact hlt), hk e, he.vars, he.st]
          rfl
        cases r with
        | var cs => exact go (fun vs => ((vs.set d none).map (fun c => c.map (List.map (killT d)))).set d (some (cs.map (killT d)))) (.lp d 0) (fun s => s) (fun e => rfl)
        | call st v rv => exact go (fun vs => (vs.set d none).map (fun c => c.map (List.map (killT d)))) (rvT d rv) (fun _ => st) (fun e => rfl)
        | ret x => exact go (fun vs => (vs.set d none).map (fun c => c.map (List.map (killT d)))) _ (fun s => s) (fun e => rfl)
        | own k es => exact go (fun vs => (vs.set d none).map (fun c => c.map (List.map (killT d)))) _ (fun s => s) (fun e => rfl)
        | frz es => exact go (fun vs => (vs.set d none).map (fun c => c.map (List.map (killT d)))) _ (fun s => s) (fun e => rfl)
        | mk => exact go (fun vs => (vs.set d none).map (fun c => c.map (List.map (killT d)))) _ (fun s => s) (fun e => rfl)
        | frzT t xs => exact go (fun vs => (vs.set d none).map (fun c => c.map (List.map (killT d)))) _ (fun s => s) (fun e => rfl)
        | ownT t xs => exact go (fun vs => (vs.set d none).map (fun c => c.map (List.map (killT d)))) _ (fun s => s) (fun e => rfl)
      · cases h
    · rename_i hn
      have go : ∀ (y : T) (st : St → St), (∀ e : Env St, e.setR d r = ⟨e.tm.set d y, e.vars, st e.st⟩) →
          ∃ f V y st, Leaves (bitO (some d)) f ∧ ∀ e, Alike e b → applyR e (some d) r = some (form e f V (some d) y st) := by
        intro y st hk
        refine ⟨fun x => x, b.vars, y, st b.st, Leaves.id _, ?_⟩
        intro e he
        simp only [applyR, hn]
        rw [hk e, ← he.vars, ← he.st]
        simp [form]
      cases r with
      | ret x => exact go _ (fun s => s) (fun e => rfl)
      | call st v rv => exact go (rvT d rv) (fun _ => st) (fun e => rfl)
      | _ => exact absurd rfl hn
  · split at h
    · exact ⟨fun x => x, b.vars, .dead, b.st, Leaves.id _, fun e he => by grind [form_id, applyR]⟩
    · rename_i st v x
      refine ⟨fun x => x, b.vars, .dead, st, Leaves.id _, fun e he => ?_⟩
      simp only [applyR, ← he.vars]
      simp [form]
    · cases h
end

section
variable {Γ : Sig} {P : Look} {G : Nat → Option (List V)} {S : Specs Γ} {b b1 : Env Γ.St} {o : Oper}

structure Same (G : Nat → Option (List V)) (e b : Env Γ.St) (o : Oper) : Prop where
  al : Alike e b
  ops : ∀ x, x ∈ o.op.operands → evx G e x = evx G b x

theorem evQA_form (h : evQA P G S b o = some b1) : ∃ f V y st, Leaves (touchW G b o) f ∧ ∀ e, Same G e b o → evQA P G S e o = some (form e f V o.dst y st) := by
  unfold evQA at h
  split at h
  · rename_i r hr
    obtain ⟨f, V, y, st, h1, h2⟩ := applyR_form h
    refine ⟨f, V, y, st, h1.mono (fun t ht => by grind [bit_or, touchW]), fun e he => ?_⟩
    have : evQ P G S e o = some r := by
      rw [← hr]
      exact evQ_congr he.ops (fun x _ s off _ => he.al.var s) he.al.st
    simp [evQA, this, h2 e he.al]
  · cases h

theorem mapT_form (f : T → T) {e b : Env Γ.St} (h : Alike e b) (y : T) : e.mapT f = form e f (b.vars.map (fun c => c.map (List.map f))) none y b.st := by
  simp [Env.mapT, form, h.vars, h.st]

theorem killset_form {e b : Env Γ.St} (h : Alike e b) (id d : Nat) (y : T) :
    ({ (e.kill id) with tm := (e.kill id).tm.set d y } : Env Γ.St) = form e (killT id) ((b.vars.set id none).map (fun c => c.map (List.map (killT id)))) (some d) y b.st := by
  simp [Env.kill, form, h.vars, h.st]

theorem evW_form (h : evW P G b o = some b1) : ∃ f V y st, Leaves (touchW G b o) f ∧ ∀ e, Same G e b o → evW P G e o = some (form e f V o.dst y st) := by
  obtain ⟨dst, op, type, pos, after, guard⟩ := o
  cases op <;> simp only [evW, reduceCtorEq] at h
  case store t ap x =>
    have hap : ∀ e, Same G e b ⟨dst, .store t ap x, type, pos, after, guard⟩ → evx G e ap = evx G b ap := fun e he => he.ops ap (by simp [Op.operands])
    have hx : ∀ e, Same G e b ⟨dst, .store t ap x, type, pos, after, guard⟩ → evx G e x = evx G b x := fun e he => he.ops x (by simp [Op.operands])
    split at h
    · cases h
    · split at h
      · rename_i s off hp
        unfold evStoreV at h
        split at h
        · rename_i cs xs hcs hxs
          split at h
          · rename_i hc
            refine ⟨fun x => x, b.vars.set s (some (spliceT cs off xs)), .dead, b.st, Leaves.id _, fun e he => ?_⟩
            have hv : e.var s = some cs := by rw [he.al.var]; exact hcs
            simp only [evW, hap e he, hp, hx e he, evStoreV, hv, hxs]
            rw [if_pos ⟨hc.1, hc.2.1, by rw [he.al.vars]; exact hc.2.2⟩, he.al.vars, he.al.st]
            simp [form]
          · cases h
        · cases h
      · rename_i id k es i off hp
        split at h
        · rename_i d hd
          unfold evStoreO at h
          split at h
          · rename_i q hq
            split at h
            · rename_i hc
              refine ⟨updT id k i (reElem q (spliceV q.cells off d.cells)), b.vars.map (fun c => c.map (List.map (updT id k i (reElem q (spliceV q.cells off d.cells))))), .dead, b.st, ⟨fun _ => rfl, rfl, fun _ _ _ => rfl⟩, fun e he => ?_⟩
              simp only [evW, hap e he, hp, hx e he, hd, evStoreO, hq]
              rw [if_pos hc, mapT_form (updT id k i _) he.al .dead]
            · cases h
          · cases h
        · cases h
      · rename_i id ty xs i off hp
        split at h
        · rename_i d hd
          unfold evStoreT at h
          split at h
          · rename_i hc
            split at h
            · rename_i x0 hx0
              split at h
              · rename_i y0 hy0
                refine ⟨updTT id ty i y0, b.vars.map (fun c => c.map (List.map (updTT id ty i y0))), .dead, b.st, ⟨fun _ => rfl, rfl, fun _ _ _ => rfl⟩, fun e he => ?_⟩
                simp only [evW, hap e he, hp, hx e he, hd, evStoreT, hx0, hy0]
                rw [if_pos hc, mapT_form (updTT id ty i y0) he.al .dead]
              · cases h
            · cases h
          · cases h
        · rename_i id2 t2 ys hd
          unfold evStoreIn at h
          split at h
          · rename_i t3
            split at h
            · rename_i hc
              refine ⟨updJ id id2 t2 i ys, b.vars.map (fun c => c.map (List.map (updJ id id2 t2 i ys))), .dead, b.st, ⟨fun _ => rfl, rfl, fun _ _ _ => rfl⟩, fun e he => ?_⟩
              simp only [evW, hap e he, hp, hx e he, hd, evStoreIn]
              rw [if_pos hc, mapT_form (updJ id id2 t2 i ys) he.al .dead]
            · cases h
          · cases h
        · cases h
      · rename_i n hp
        split at h
        · rename_i d hd
          obtain ⟨id, id2, ty, xs, j, ys, mm⟩ := n
          cases mm with
          | q k off =>
            simp only [evStoreN] at h
            split at h
            · rename_i hc
              split at h
              · rename_i x0 hx0
                split at h
                · rename_i y0 hy0
                  refine ⟨updF id id2 ty k y0, b.vars.map (fun c => c.map (List.map (updF id id2 ty k y0))), .dead, b.st, ⟨fun _ => rfl, rfl, fun _ _ _ => rfl⟩, fun e he => ?_⟩
                  simp only [evW, hap e he, hp, hx e he, hd, evStoreN, hx0, hy0]
                  rw [if_pos hc, mapT_form (updF id id2 ty k y0) he.al .dead]
                · cases h
              · cases h
            · cases h
          | _ => simp [evStoreN] at h
        · cases h
      · cases h
  case call c =>
    have hargs : ∀ e, Same G e b ⟨dst, .call c, type, pos, after, guard⟩ → ∀ x, x ∈ c.args.toList → evx G e x = evx G b x := by
      intro e he x hx
      exact he.ops x (by grind [Array.mem_append_right, Op.operands, Call.operands])
    have bits : ∀ (x0 x1 : Operand) (d id : Nat), c.callee = .builtin .append → c.args.toList = [x0, x1] → dst = some d → (id = d ∨ (evx G b x0).bits = 2 ^ (2 * id)) →
        Leaves (touchW G b ⟨dst, .call c, type, pos, after, guard⟩) (killT id) := by
      intro x0 x1 d id hc ha hd hid
      refine (Leaves.kill id).mono ?_
      intro t ht
      simp [touchW, hc, ha, hd, bitO] at ht
      grind
    -- what the three appends look at
    have hT : ∀ e, Same G e b ⟨dst, .call c, type, pos, after, guard⟩ → evAppendT P G b dst c = none → evAppendT P G e dst c = none := by
      intro e he hn
      unfold evAppendT at hn ⊢
      split
      · rename_i x0 x1 t0 t1 d hcal hars htys
        have h0 : evx G e x0 = evx G b x0 := hargs e he x0 (by rw [hars]; simp)
        have h1 : evx G e x1 = evx G b x1 := hargs e he x1 (by rw [hars]; simp)
        simp only [hcal, hars, htys] at hn
        rw [h0, h1]
        repeat' split at hn
        all_goals first | cases hn | skip
        all_goals simp_all
      · rfl
    have hV : ∀ e, Same G e b ⟨dst, .call c, type, pos, after, guard⟩ → evAppendV P G b dst c = none → evAppendV P G e dst c = none := by
      intro e he hn
      unfold evAppendV at hn ⊢
      split
      · rename_i p x1 t0 t1 d hcal hars htys
        have h0 : e.get p = b.get p := hargs e he (.tmp p) (by rw [hars]; simp)
        have h1 : evx G e x1 = evx G b x1 := hargs e he x1 (by rw [hars]; simp)
        simp only [hcal, hars, htys] at hn
        rw [h0, h1]
        repeat' split at hn
        all_goals first | cases hn | skip
        all_goals simp_all
      · rfl
    split at h
    · rename_i e2 he2
      simp at h; subst h
      unfold evAppendT at he2
      split at he2
      · rename_i x0 x1 t0 t1 d hcal hars htys
        split at he2
        · rename_i el el1 hu0 hu1
          split at he2
          · rename_i info hinfo
            split at he2
            · rename_i z t ys hz hsrc
              split at he2
              · rename_i nm xs hdst
                split at he2
                · rename_i hok
                  split at he2
                  · rename_i hroom
                    refine ⟨killT (nm.getD d), ((b.vars.set (nm.getD d) none).map (fun c => c.map (List.map (killT (nm.getD d))))), .ot (nm.getD d) t (xs ++ ys), b.st, bits x0 x1 d _ hcal hars rfl ?_, fun e he => ?_⟩
                    · unfold dstT at hdst
                      split at hdst
                      · grind
                      · grind
                      · rename_i heq
                        split at hdst
                        · simp at hdst
                          rw [← hdst.1, heq]; exact .inr rfl
                        · cases hdst
                      · cases hdst
                    · have h0 : evx G e x0 = evx G b x0 := hargs e he x0 (by rw [hars]; simp)
                      have h1 : evx G e x1 = evx G b x1 := hargs e he x1 (by rw [hars]; simp)
                      have : evAppendT P G e (some d) c = some { (e.kill (nm.getD d)) with tm := (e.kill (nm.getD d)).tm.set d (.ot (nm.getD d) t (xs ++ ys)) } := by
                        simp_all [evAppendT]
                      simp only [evW, this]
                      rw [killset_form he.al]
                  · cases he2
                · cases he2
              · cases he2
            · cases he2
          · cases he2
        · cases he2
      · cases he2
    · rename_i hnoT
      split at h
      · rename_i e2 he2
        simp at h; subst h
        unfold evAppendV at he2
        split at he2
        · rename_i p x1 t0 t1 d hcal hars htys
          split at he2
          · rename_i el el1 hu0 hu1
            split at he2
            · rename_i info hinfo
              split at he2
              · rename_i z t y ys hz hsrc
                split at he2
                · rename_i id t' xs hi hget
                  split at he2
                  · cases he2
                  · rename_i hne
                    split at he2
                    · rename_i htt
                      subst htt
                      split at he2
                      · rename_i hok
                        split at he2
                        · rename_i hroom
                          refine ⟨killT id, ((b.vars.set (id) none).map (fun c => c.map (List.map (killT (id))))), .ot id t' (List.take hi xs ++ y :: ys), b.st, bits (.tmp p) x1 d _ hcal hars rfl (.inr ?_), fun e he => ?_⟩
                          · have : evx G b (.tmp p) = .ov id t' xs 0 hi := hget
                            rw [this]; rfl
                          · have h0 : e.get p = b.get p := hargs e he (.tmp p) (by rw [hars]; simp)
                            have h1 : evx G e x1 = evx G b x1 := hargs e he x1 (by rw [hars]; simp)
                            have : evAppendV P G e (some d) c = some { (e.kill id) with tm := (e.kill id).tm.set d (.ot id t' (List.take hi xs ++ y :: ys)) } := by
                              simp only [evAppendV, hcal, hars, htys, hu0, hu1, hinfo, hz, h0, h1, hsrc, hget]
                              grind
                            simp only [evW, hT e he hnoT, this]
                            rw [killset_form he.al]
                        · cases he2
                      · cases he2
                    · cases he2
                · cases he2
              · cases he2
            · cases he2
          · cases he2
        · cases he2
      · rename_i hnoV
        unfold evAppend evAppendN at h
        split at h
        · rename_i x0 x1 t0 t1 d hcal hars htys
          split at h
          · rename_i el el1 hu0 hu1
            split at h
            · rename_i info hinfo
              split at h
              · rename_i z es2 hz hes2
                split at h
                · rename_i hok
                  have h0 : ∀ e, Same G e b ⟨some d, .call c, type, pos, after, guard⟩ → evx G e x0 = evx G b x0 := fun e he => hargs e he x0 (by rw [hars]; simp)
                  have h1 : ∀ e, Same G e b ⟨some d, .call c, type, pos, after, guard⟩ → evx G e x1 = evx G b x1 := fun e he => hargs e he x1 (by rw [hars]; simp)
                  split at h
                  · rename_i id k es heq
                    split at h
                    · rename_i hc
                      refine ⟨killT id, ((b.vars.set (id) none).map (fun c => c.map (List.map (killT (id))))), .ow id k (es ++ es2), b.st, bits x0 x1 d _ hcal hars rfl (.inr (by rw [heq]; rfl)), fun e he => ?_⟩
                      have : evAppend P G e (some d) c = some { (e.kill id) with tm := (e.kill id).tm.set d (.ow id k (es ++ es2)) } := by
                        simp_all [evAppend, evAppendN]
                      simp only [evW, hT e he hnoT, hV e he hnoV, this]
                      rw [killset_form he.al]
                    · cases h
                  · split at h
                    · split at h
                      · cases h
                      · cases h
                      · split at h
                        · refine ⟨fun x => x, b.vars, evx G b x0, b.st, Leaves.id _, fun e he => ?_⟩
                          have : evAppend P G e (some d) c = some (e.put (some d) (evx G b x0)) := by
                            simp_all [evAppend, evAppendN]
                          simp only [evW, hT e he hnoT, hV e he hnoV, this]
                          simp only [Env.put, form, ← he.al.vars, ← he.al.st]
                          simp
                        · rename_i q r
                          split at h
                          · rename_i hroom
                            refine ⟨killT d, ((b.vars.set (d) none).map (fun c => c.map (List.map (killT (d))))), .ow d info.size (q :: r), b.st, bits x0 x1 d d hcal hars rfl (.inl rfl), fun e he => ?_⟩
                            have : evAppend P G e (some d) c = some { (e.kill d) with tm := (e.kill d).tm.set d (.ow d info.size (q :: r)) } := by
                              simp_all [evAppend, evAppendN]
                            simp only [evW, hT e he hnoT, hV e he hnoV, this]
                            rw [killset_form he.al]
                          · cases h
                    · cases h
                · cases h
              · cases h
            · cases h
          · cases h
        · cases h
  case mapUpdate t m k v =>
    split at h
    · cases h
    · split at h
      · rename_i id es ck k0 v0 hm hk hv
        unfold evUpd at h
        split at h
        · rename_i es' ck' hu
          refine ⟨updM id es' ck', b.vars.map (fun c => c.map (List.map (updM id es' ck'))), .dead, b.st, ⟨fun _ => rfl, rfl, fun _ _ _ => rfl⟩, fun e he => ?_⟩
          have h0 : evx G e m = evx G b m := he.ops m (by simp [Op.operands])
          have h1 : evx G e k = evx G b k := he.ops k (by simp [Op.operands])
          have h2 : evx G e v = evx G b v := he.ops v (by simp [Op.operands])
          simp only [evW, h0, h1, h2, hm, hk, hv, evUpd, hu]
          rw [mapT_form (updM id es' ck') he.al .dead]
        · cases h
      · cases h
end
end Go.Ve

/-
  The evaluator over pure values, part 22: the same evaluation, each state written out before the next step: for the kernel.
  The evaluator over pure values, part 23: the program's tables as trees, for the kernel.
  Conditions out of code, part 1: operations. What an operation comes to on a state with open data, as a condition on what follows.
  Conditions out of code, part 2: writing operations, regions.
  Conditions out of code, part 3: statements, loops, functions.
  Conditions out of code, part 4: contracts over typed data; tables of contracts.
-/
import Derived.Test.YtggmpbaiijodiaaGreatR5
set_option linter.unusedVariables false
namespace Go.Ve
open Go

section
variable {β : Type}

def fL {α : Type} (f : α → (α → β) → β) : List α → (List α → β) → β
  | [], k => k []
  | x :: r, k => f x (fun x => fL f r (fun r => k (x :: r)))

def fInt : Int → (Int → β) → β
  | .ofNat m, k => k (.ofNat m)
  | .negSucc m, k => k (.negSucc m)

def fVal : Value → (Value → β) → β
  | .int q n, k => fInt n (fun n => k (.int q n))
  | .bool true, k => k (.bool true)
  | .bool false, k => k (.bool false)
  | v, k => k v

def fV : Nat → V → (V → β) → β
  | 0, d, k => k d
  | _ + 1, .val v, k => fVal v (fun v => k (.val v))
  | n + 1, .agg cs, k => fL (fV n) cs (fun cs => k (.agg cs))
  | n + 1, .sl cs, k => fL (fV n) cs (fun cs => k (.sl cs))
  | n + 1, .tup cs, k => fL (fV n) cs (fun cs => k (.tup cs))
  | n + 1, .pp cs, k => fL (fV n) cs (fun cs => k (.pp cs))
  | n + 1, .clo f cs, k => fL (fV n) cs (fun cs => k (.clo f cs))
  | _ + 1, .tl t xs, k => k (.tl t xs)
  | _ + 1, .rf o, k => k (.rf o)
  | _ + 1, .bot, k => k .bot

def fT : T → (T → β) → β
  | .p d, k => fV 8 d (fun d => k (.p d))
  | .ow i q es, k => fL (fV 8) es (fun es => k (.ow i q es))
  | .oe i q es j off, k => fL (fV 8) es (fun es => k (.oe i q es j off))
  | .lp s off, k => k (.lp s off)
  | .mp i es ck, k => k (.mp i es ck)
  | .ot i t xs, k => k (.ot i t xs)
  | .oet i t xs j off, k => k (.oet i t xs j off)
  | .ov i t xs j off, k => k (.ov i t xs j off)
  | .emp, k => k .emp
  | .dead, k => k .dead

/-- All but one element as they stand. -/
def fAt {α : Type} (f : α → (α → β) → β) : Nat → List α → (List α → β) → β
  | _, [], k => k []
  | 0, x :: r, k => f x (fun x => k (x :: r))
  | n + 1, x :: r, k => fAt f n r (fun r => k (x :: r))

def fO : Option (List T) → (Option (List T) → β) → β
  | none, k => k none
  | some cs, k => fL (fun x k => k x) cs (fun cs => k (some cs))

/-- Element d alone; what stands behind it is as it was. -/
def fEnv {St : Type} (d : Nat) (e : Env St) (k : Env St → β) : β :=
  match e with
  | ⟨tm, vars, st⟩ => fAt (fun x k => fT x k) d tm (fun tm => k ⟨tm, vars, st⟩)

/-- All that may have turned. -/
def fEnvV {St : Type} (e : Env St) (k : Env St → β) : β :=
  match e with
  | ⟨tm, vars, st⟩ => fL (fun x k => fT x k) tm (fun tm => fL fO vars (fun vars => k ⟨tm, vars, st⟩))

theorem fL_eq {α : Type} {f : α → (α → β) → β} (hf : ∀ x k, f x k = k x) : ∀ (l : List α) (k : List α → β), fL f l k = k l := by
  intro l
  induction l with
  | nil => intro k; rfl
  | cons x l ih => intro k; simp only [fL, hf, ih]

theorem fVal_eq (v : Value) (k : Value → β) : fVal v k = k v := by
  cases v with
  | int q n => cases n <;> rfl
  | bool b => cases b <;> rfl
  | _ => rfl

theorem fV_eq : ∀ (n : Nat) (d : V) (k : V → β), fV n d k = k d := by
  intro n
  induction n with
  | zero => intro d k; rfl
  | succ n ih =>
    intro d k
    cases d <;> simp only [fV]
    · exact fVal_eq _ _
    all_goals (first | exact fL_eq ih _ _ | rfl)

theorem fT_eq (x : T) (k : T → β) : fT x k = k x := by
  cases x <;> simp only [fT]
  · exact fV_eq _ _ _
  · exact fL_eq (fV_eq 8) _ _
  · exact fL_eq (fV_eq 8) _ _

theorem fAt_eq {α : Type} {f : α → (α → β) → β} (hf : ∀ x k, f x k = k x) : ∀ (n : Nat) (l : List α) (k : List α → β), fAt f n l k = k l := by
  intro n l
  induction l generalizing n with
  | nil => intro k; cases n <;> rfl
  | cons x l ih =>
    intro k
    cases n with
    | zero => simp only [fAt, hf]
    | succ n => simp only [fAt]; exact ih n _

theorem fO_eq (x : Option (List T)) (k : Option (List T) → β) : fO x k = k x := by
  cases x with
  | none => rfl
  | some cs => simp only [fO]; exact fL_eq (fun _ _ => rfl) _ _

theorem fEnv_eq {St : Type} (d : Nat) (e : Env St) (k : Env St → β) : fEnv d e k = k e := by
  simp only [fEnv]
  rw [fAt_eq fT_eq]

theorem fEnvV_eq {St : Type} (e : Env St) (k : Env St → β) : fEnvV e k = k e := by
  simp only [fEnvV]
  rw [fL_eq fT_eq, fL_eq fO_eq]

/-- By what the operation may turn. -/
def fOp {St : Type} (o : Oper) (e : Env St) (k : Env St → β) : β :=
  match o.op with
  | .box _ _ | .alloc _ | .store _ _ _ | .makeFunc _ _ _ | .makeSlice _ _ _ | .build _ _ | .slice _ _ _ _ _ => fEnvV e k
  | .call c => match c.callee with
    | .builtin .len => fEnv (o.dst.getD 0) e k
    | _ => fEnvV e k
  | _ => fEnv (o.dst.getD 0) e k

theorem fOp_eq {St : Type} (o : Oper) (e : Env St) (k : Env St → β) : fOp o e k = k e := by
  unfold fOp
  split <;> (try split) <;> first | exact fEnvV_eq _ _ | exact fEnv_eq _ _ _
end

section
variable {Γ : Sig} (P : Look) (G : Nat → Option (List V)) (S : Specs Γ)

def evSeqF (ops : Array Oper) : List Oper → Env Γ.St → Option (Env Γ.St)
  | [], e => some e
  | o :: rest, e => match evStep P G S ops e o with
    | some e1 => fOp o e1 (fun e1 => evSeqF ops rest e1)
    | none => none

def drawGoF (ops : Array Oper) : List Oper → Env Γ.St → Option (Env Γ.St)
  | [], e => some e
  | o :: rest, e => match wantedV ops e o with
    | some true => if pendOk G (dstsOf (o :: rest)) e o then
        match evQ P G S e o with
        | some r => match applyD e o.dst r with
          | some e1 => fOp o e1 (fun e1 => drawGoF ops rest e1)
          | none => none
        | none => none
      else none
    | some false => fEnv (o.dst.getD 0) (e.put o.dst (.p (.val undef))) (fun e1 => drawGoF ops rest e1)
    | none => none

def evDrawF (ops : Array Oper) (e : Env Γ.St) : Option (Env Γ.St) :=
  if drawOk ops then fEnvV (killAll (dstsOf ops.toList) e) (fun e => drawGoF P G S ops ops.toList e) else none

def evDrawKF (ops : Array Oper) (k : Nat) (e : Env Γ.St) : Option (Env Γ.St) :=
  match evDrawF P G S (ops.extract 0 k) e with
  | some e1 => evSeqF P G S ops (ops.toList.drop k) e1
  | none => none

def evDrawTF (ops : Array Oper) (e : Env Γ.St) : Option (Env Γ.St) :=
  if tailAt ops.toList ≤ ops.size && tailOk ops (tailAt ops.toList) && guardOk ops (tailAt ops.toList) then
    match evDrawKF P G S ops (tailAt ops.toList) e with
    | some e1 => some e1
    | none => fEnvV (frzOps G (callOperands ops.toList) e) (fun e => evDrawKF P G S ops (tailAt ops.toList) e)
  else none

def evCodeF : Nat → Code → Env Γ.St → Option (X × Env Γ.St)
  | 0, _, _ => none
  | _ + 1, .skip, e => some (.normal, e)
  | n + 1, .seq x y, e => match evCodeF n x e with
    | some (.normal, e1) => evCodeF n y e1
    | r => r
  | n + 1, .cond c x y, e => match evx G e c with
    | .p (.val (.bool true)) => evCodeF n x e
    | .p (.val (.bool false)) => evCodeF n y e
    | _ => none
  | n + 1, .block id c, e => match evCodeF n c e with
    | some (k, e1) => some (k.out id, e1)
    | none => none
  | n + 1, .loop c, e => match evCodeF n c e with
    | some (.normal, e1) => evCodeF n (.loop c) e1
    | r => r
  | _ + 1, .exit id, e => some (.exit id, e)
  | _ + 1, .ret, e => some (.ret, e)
  | _ + 1, .region _ ops false, e => match evSeqF P G S ops ops.toList e with
    | some e1 => some (.normal, e1)
    | none => none
  | _ + 1, .region _ ops true, e => match evDrawTF P G S ops e with
    | some e1 => some (.normal, e1)
    | none => none
  | _, _, _ => none

def fRV {β : Type} : RV → (RV → β) → β
  | .p d, k => fV 8 d (fun d => k (.p d))
  | .own es, k => fL (fV 8) es (fun es => k (.own es))
  | .ownT t xs, k => k (.ownT t xs)

def retF (fn : Func) (e' : Env Γ.St) : Option (Γ.St × RV) :=
  match evRet P e' fn with
  | some r => fRV r (fun r => some (e'.st, r))
  | none => none

def evFnF (n : Nat) (fn : Func) (s : Γ.St) (ds : List V) : Option (Γ.St × RV) :=
  match fn.body with
  | some c => fEnvV (start fn.ntmps s ds) (fun e => match evCodeF P G S n c e with
    | some (.normal, e') => retF P fn e'
    | some (.ret, e') => retF P fn e'
    | _ => none)
  | none => none

def runF (Xs : Specs Γ) (k : Nat) : Nat → Specs Γ
  | 0 => Xs
  | n + 1 => fun f s ds => match Xs f s ds with
    | some r => some r
    | none => match isBot ds with
      | true => none
      | false => match P.fn f with
        | some fn => evFnF P G (runF Xs k n) k fn s ds
        | none => none

variable {P G S}

theorem evSeqF_eq (ops : Array Oper) : ∀ (l : List Oper) (e : Env Γ.St), evSeqF P G S ops l e = evSeq P G S ops l e := by
  intro l
  induction l with
  | nil => intro e; rfl
  | cons o l ih =>
    intro e
    simp only [evSeqF, evSeq, fOp_eq]
    cases evStep P G S ops e o with
    | none => rfl
    | some e1 => exact ih e1

theorem drawGoF_eq (ops : Array Oper) : ∀ (l : List Oper) (e : Env Γ.St), drawGoF P G S ops l e = drawGo P G S ops l e := by
  intro l
  induction l with
  | nil => intro e; rfl
  | cons o l ih =>
    intro e
    simp only [drawGoF, drawGo, fEnv_eq, fOp_eq, ih]
    cases wantedV ops e o with
    | none => rfl
    | some b =>
      cases b with
      | false => rfl
      | true =>
        simp only
        split
        · cases evQ P G S e o with
          | none => rfl
          | some r => simp only; cases applyD e o.dst r <;> rfl
        · rfl

theorem evDrawTF_eq (ops : Array Oper) (e : Env Γ.St) : evDrawTF P G S ops e = evDrawT P G S ops e := by
  have h1 : ∀ ops (e : Env Γ.St), evDrawF P G S ops e = evDraw P G S ops e := by
    intro ops e; simp only [evDrawF, evDraw, fEnvV_eq, drawGoF_eq]
  have h2 : ∀ ops k (e : Env Γ.St), evDrawKF P G S ops k e = evDrawK P G S ops k e := by
    intro ops k e; simp only [evDrawKF, evDrawK, h1, evSeqF_eq]; cases evDraw P G S (ops.extract 0 k) e <;> rfl
  simp only [evDrawTF, evDrawT, h2, fEnvV_eq]
  split
  · cases evDrawK P G S ops (tailAt ops.toList) e <;> rfl
  · rfl

theorem evCodeF_eq : ∀ (n : Nat) (c : Code) (e : Env Γ.St), evCodeF P G S n c e = evCode P G S n c e := by
  intro n
  induction n with
  | zero => intro c e; simp [evCodeF, evCode]
  | succ n ih =>
    intro c e
    cases c with
    | region id ops draw => cases draw <;> (simp only [evCodeF, evCode, evSeqF_eq, evDrawTF_eq]; rfl)
    | seq x y => simp only [evCodeF, evCode, ih]; rfl
    | cond c x y => simp only [evCodeF, evCode, ih]; rfl
    | block id c => simp only [evCodeF, evCode, ih]; rfl
    | loop c => simp only [evCodeF, evCode, ih]; rfl
    | _ => simp only [evCodeF, evCode]

theorem fRV_eq {β : Type} (r : RV) (k : RV → β) : fRV r k = k r := by
  cases r with
  | p d => exact fV_eq _ _ _
  | own es => exact fL_eq (fV_eq 8) _ _
  | ownT t xs => rfl

theorem evFnF_eq (n : Nat) (fn : Func) (s : Γ.St) (ds : List V) : evFnF P G S n fn s ds = evFn P G S n fn s ds := by
  have hr : ∀ e' : Env Γ.St, retF P fn e' = (evRet P e' fn).map (fun r => (e'.st, r)) := by
    intro e'
    simp only [retF, fRV_eq]
    cases evRet P e' fn <;> rfl
  simp only [evFnF, evFn, fEnvV_eq, evCodeF_eq, hr]
  rfl

theorem runF_eq (Xs : Specs Γ) (k : Nat) : ∀ n, runF P G Xs k n = runN P G Xs k n := by
  intro n
  induction n with
  | zero => rfl
  | succ n ih =>
    funext f s ds
    simp only [runF, runN, evFnF_eq, ih]
    cases Xs f s ds with
    | some r => rfl
    | none => cases isBot ds with
      | true => rfl
      | false => cases P.fn f <;> rfl

end

section
variable {Γ : Sig} {P : Program} {G : Nat → Option (List V)}

theorem table_runF (hm : P.follows .mixedOrders = true) (hn : noCount P = true) {Xs : Specs Γ} (hX : Table Γ P G Xs) (k n : Nat) : Table Γ P G (runF P G Xs k n) := by
  rw [runF_eq]; exact table_runN hm hn hX k n
end
end Go.Ve

namespace Go.Ve
open Go

inductive Tr (α : Type) where
  | nil
  | node (v : α) (l r : Tr α)

def odds {α : Type} : List α → List α
  | [] => []
  | [_] => []
  | _ :: y :: r => y :: odds r

def evens {α : Type} : List α → List α
  | [] => []
  | [x] => [x]
  | x :: _ :: r => x :: evens r

/-- The head at the root; what stands at odd places behind it to the right, at even places to the left. -/
def Tr.ofList {α : Type} : Nat → List α → Tr α
  | 0, _ => .nil
  | _ + 1, [] => .nil
  | n + 1, x :: r => .node x (Tr.ofList n (evens r)) (Tr.ofList n (odds r))

def Tr.get {α : Type} : Tr α → Nat → Option α
  | .nil, _ => none
  | .node v l r, n => match Nat.beq n 0 with
    | true => some v
    | false => match Nat.beq ((n - 1) % 2) 0 with
      | true => l.get ((n - 1) / 2)
      | false => r.get ((n - 1) / 2)

theorem evens_get {α : Type} : ∀ (l : List α) (i : Nat), (evens l)[i]? = l[2 * i]? := by
  intro l
  induction l using evens.induct with
  | case1 => intro i; simp [evens]
  | case2 x => intro i; cases i with
    | zero => rfl
    | succ i => simp [evens]
  | case3 x y r ih => intro i; cases i with
    | zero => rfl
    | succ i => simp only [evens, List.getElem?_cons_succ, ih]; rw [show 2 * (i + 1) = 2 * i + 1 + 1 by omega]; simp

theorem odds_get {α : Type} : ∀ (l : List α) (i : Nat), (odds l)[i]? = l[2 * i + 1]? := by
  intro l
  induction l using odds.induct with
  | case1 => intro i; simp [odds]
  | case2 x => intro i; simp [odds]
  | case3 x y r ih => intro i; cases i with
    | zero => rfl
    | succ i => simp only [odds, List.getElem?_cons_succ, ih]; rw [show 2 * (i + 1) = 2 * i + 1 + 1 by omega]; simp

theorem evens_len {α : Type} : ∀ (l : List α), (evens l).length ≤ l.length := by
  intro l
  induction l using evens.induct with
  | case1 => simp [evens]
  | case2 x => simp [evens]
  | case3 x y r ih => simp [evens]; omega

theorem odds_len {α : Type} : ∀ (l : List α), (odds l).length ≤ l.length := by
  intro l
  induction l using odds.induct with
  | case1 => simp [odds]
  | case2 x => simp [odds]
  | case3 x y r ih => simp [odds]; omega

theorem Tr.get_ofList {α : Type} : ∀ (n : Nat) (l : List α) (i : Nat), l.length ≤ n → (Tr.ofList n l).get i = l[i]? := by
  intro n
  induction n with
  | zero => intro l i h; cases l with
    | nil => rfl
    | cons x l => simp at h
  | succ n ih =>
    intro l i h
    cases l with
    | nil => simp [Tr.ofList, Tr.get]
    | cons x r =>
      simp only [List.length_cons] at h
      simp only [Tr.ofList, Tr.get]
      cases i with
      | zero => rfl
      | succ i =>
        have h0 : Nat.beq (i + 1) 0 = false := rfl
        simp only [h0, Nat.add_sub_cancel]
        cases hb : Nat.beq (i % 2) 0 with
        | true =>
          have := Nat.eq_of_beq_eq_true hb
          simp only
          rw [ih _ _ (by have := evens_len r; omega), evens_get, List.getElem?_cons_succ, show 2 * (i / 2) = i by omega]
        | false =>
          have := Nat.ne_of_beq_eq_false hb
          simp only
          rw [ih _ _ (by have := odds_len r; omega), odds_get, List.getElem?_cons_succ, show 2 * (i / 2) + 1 = i by omega]

def undTree (P : Program) (n : Nat) : Tr (Option TypeDesc) := Tr.ofList n ((List.range n).map P.underlying)
def infTree (P : Program) (n : Nat) : Tr (Option TypeInfo) := Tr.ofList n ((List.range n).map P.info?)
def tyTree (P : Program) (n : Nat) : Tr (Option Ty) := Tr.ofList n ((List.range n).map (creTy P))
def fnTree (P : Program) (n : Nat) : Tr (Option Func) := Tr.ofList n ((List.range n).map (fun f => P.funcs[f]?))

/-- Out of the tree; behind it as the table itself says. -/
def orElse {β : Type} (x : Option β) (y : β) : β :=
  match x with
  | some d => d
  | none => y

def Look.fast (P : Program) (nt nf : Nat) : Look where
  P := P
  und := fun t => orElse ((undTree P nt).get t) (P.underlying t)
  inf := fun t => orElse ((infTree P nt).get t) (P.info? t)
  fn := fun t => orElse ((fnTree P nf).get t) P.funcs[t]?
  ty := fun t => orElse ((tyTree P nt).get t) (creTy P t)

theorem tree_eq {β : Type} (f : Nat → β) (n t : Nat) : orElse ((Tr.ofList n ((List.range n).map f)).get t) (f t) = f t := by
  rw [Tr.get_ofList n _ t (by simp)]
  by_cases h : t < n
  · simp [h, orElse]
  · rw [List.getElem?_eq_none (by simp; omega)]; rfl

theorem Look.fast_eq (P : Program) (nt nf : Nat) : Look.fast P nt nf = Look.of P := by
  unfold Look.fast Look.of
  congr 1
  · funext t; exact tree_eq P.underlying nt t
  · funext t; exact tree_eq P.info? nt t
  · funext t; exact tree_eq (fun f => P.funcs[f]?) nf t
  · funext t; exact tree_eq (creTy P) nt t

theorem table_fast {Γ : Sig} {P : Program} {G : Nat → Option (List V)} (hm : P.follows .mixedOrders = true) (hn : noCount P = true) {Xs : Specs Γ} (hX : Table Γ P G Xs) (nt nf k n : Nat) :
    Table Γ P G (runF (Look.fast P nt nf) G Xs k n) := by
  rw [Look.fast_eq]; exact table_runF hm hn hX k n
end Go.Ve

namespace Go.Ve
open Go

def ifb (b : Bool) (A B : Prop) : Prop :=
  match b with
  | true => A
  | false => B

theorem ifb_cases {b : Bool} {A B C : Prop} (h : ifb b A B) (ha : b = true → A → C) (hb : b = false → B → C) : C := by
  cases b with
  | true => exact ha rfl h
  | false => exact hb rfl h

/-- Contracts with what they ask: a condition, the state behind, the result. -/
abbrev SpecsW (Γ : Sig) := FuncId → Γ.St → List V → Option (Prop × Γ.St × RV)

open Classical in
noncomputable def SpecsW.toS {Γ : Sig} (S : SpecsW Γ) : Specs Γ := fun f s ds =>
  match S f s ds with
  | some (pre, r) => if pre then some r else none
  | none => none

theorem toS_eq {Γ : Sig} {S : SpecsW Γ} {f : FuncId} {s : Γ.St} {ds : List V} {pre : Prop} {r : Γ.St × RV} (h : S f s ds = some (pre, r)) (hp : pre) : S.toS f s ds = some r := by
  simp only [SpecsW.toS, h, if_pos hp]

def bitsOf : BinOp → (k : IntKind) → Int → Int → Option Int
  | .and, k, a, b => some (k.wrap (BitVec.ofInt k.bits a &&& BitVec.ofInt k.bits b).toNat)
  | .or, k, a, b => some (k.wrap (BitVec.ofInt k.bits a ||| BitVec.ofInt k.bits b).toNat)
  | .xor, k, a, b => some (k.wrap (BitVec.ofInt k.bits a ^^^ BitVec.ofInt k.bits b).toNat)
  | .andNot, k, a, b => some (k.wrap (BitVec.ofInt k.bits a &&& ~~~ BitVec.ofInt k.bits b).toNat)
  | _, _, _, _ => none

section
variable {Γ : Sig} (P : Look) (G : Nat → Option (List V)) (S : SpecsW Γ)

abbrev Kq (Γ : Sig) := (R Γ.St → Prop) → Prop
abbrev Ke (Γ : Sig) := (Env Γ.St → Prop) → Prop

def retI (k : IntKind) (n : Int) : R Γ.St := .ret (.p (.val (.int k n)))
def retB (b : Bool) : R Γ.St := .ret (.p (.val (.bool b)))

/-- Two integers of one kind. -/
def intW (op : BinOp) (k : IntKind) (a b : Int) : Option (Kq Γ) :=
  match op with
  | .add => some (fun K => K (retI k (k.wrap (a + b))))
  | .sub => some (fun K => K (retI k (k.wrap (a - b))))
  | .mul => some (fun K => K (retI k (k.wrap (a * b))))
  | .quo => some (fun K => b ≠ 0 ∧ K (retI k (k.wrap (a.tdiv b))))
  | .rem => some (fun K => b ≠ 0 ∧ K (retI k (a.tmod b)))
  | .eql => some (fun K => K (retB (a == b)))
  | .neq => some (fun K => K (retB (a != b)))
  | .lss => some (fun K => K (retB (decide (a < b))))
  | .leq => some (fun K => K (retB (decide (a ≤ b))))
  | .gtr => some (fun K => K (retB (decide (a > b))))
  | .geq => some (fun K => K (retB (decide (a ≥ b))))
  | op => match bitsOf op k a b with
    | some n => some (fun K => K (retI k n))
    | none => none

def shiftW (op : BinOp) (k : IntKind) (a b : Int) : Option (Kq Γ) :=
  match op with
  | .shl => some (fun K => 0 ≤ b ∧ K (retI k (k.wrap (a * 2 ^ min b.toNat k.bits))))
  | .shr => some (fun K => 0 ≤ b ∧ K (retI k (a.fdiv (2 ^ min b.toNat k.bits))))
  | _ => none

/-- A bound of a slice expression: at most 'top'. -/
def boundW (d : Option T) (dflt : Nat) : Option Nat :=
  match d with
  | none => some dflt
  | some (.p (.val (.int _ i))) => some i.toNat
  | _ => none

def boundP (d : Option T) (top : Nat) : Prop :=
  match d with
  | some (.p (.val (.int _ i))) => 0 ≤ i ∧ i ≤ top
  | _ => True

def qW (e : Env Γ.St) (o : Oper) : Option (Kq Γ) :=
  match o.op with
  | .indexAddr t x ix => match evx G e x, evx G e ix with
    | .p (.tl ty xs), .p (.val (.int _ i)) => match P.und t with
      | some (.slice el) => if size? P el = some ty.size then
          some (fun K => (0 ≤ i ∧ i < xs.length) ∧ ∀ y, xs[i.toNat]? = some y → K (.ret (.p (.pp (ty.cells y))))) else none
      | _ => none
    | .ot id ty xs, .p (.val (.int _ i)) => match P.und t with
      | some (.slice el) => if size? P el = some ty.size then
          some (fun K => (0 ≤ i ∧ i < xs.length) ∧ K (.ret (.oet id ty xs i.toNat 0))) else none
      | _ => none
    | _, _ => none
  | .load t x => match evx G e x with
    | .oet _ ty xs i off => some (fun K => i < xs.length ∧ ∀ y, xs[i]? = some y → match ldV P t ((ty.cells y).drop off) with
      | some d => K (.ret (.p d))
      | none => False)
    | _ => none
  | .slice t x lo hi mx => match evx G e x, mx with
    | .p (.tl ty xs), none => match P.und t with
      | some (.slice el) => if size? P el = some ty.size then
          match boundW (hi.map (evx G e)) xs.length with
          | some h => match boundW (lo.map (evx G e)) 0 with
            | some l => some (fun K => boundP (hi.map (evx G e)) xs.length ∧ boundP (lo.map (evx G e)) h ∧ K (.ret (.p (.tl ty ((xs.take h).drop l)))))
            | none => none
          | none => none
        else none
      | _ => none
    | _, _ => none
  | .index t x ix => match evx G e x, evx G e ix with
    | .p (.val (.string s)), .p (.val (.int _ i)) => match P.und t with
      | some .string => some (fun K => (0 ≤ i ∧ i < s.size) ∧ ∀ b, s[i.toNat]? = some b → K (retI .u8 b.toNat))
      | _ => none
    | _, _ => none
  | .binOp op _ x y _ => match evx G e x, evx G e y with
    | .p (.val (.int k a)), .p (.val (.int k' b)) => match op with
      | .shl => shiftW .shl k a b
      | .shr => shiftW .shr k a b
      | op => if k = k' then intW op k a b else none
    | _, _ => none
  | .pick c x y => match evx G e c, flatT (evx G e x), flatT (evx G e y) with
    | .p (.val (.bool b)), some u, some v => some (fun K => ifb b (K (.ret (.p (V.ofVal u)))) (K (.ret (.p (V.ofVal v)))))
    | _, _, _ => none
  | .call c => match c.callee with
    | .value f => match evx G e f, argsV G e c.args.toList with
      | .p (.clo g caps), some ds => match S g e.st (ds ++ caps) with
        | some (pre, st', r) => if (c.args.toList.any (fun x => (evx G e x).isView)) && !r.plain then none else
            some (fun K => pre ∧ K (.call st' (c.args.toList.any (fun x => (evx G e x).isView)) r))
        | none => none
      | _, _ => none
    | _ => none
  | .makeSlice t l c => match evx G e l, evx G e c with
    | .p (.val (.int .i64 n)), .p (.val (.int .i64 m)) => match P.und t with
      | some (.slice el) => match P.inf el with
        | some info => match info.zero, P.ty el with
          | some z, some ty => match ty.dec (V.ofVal1 z) with
            | some x => if 1 ≤ info.bytes ∧ (V.ofVal1 z).cells.length = info.size ∧ info.size ≠ 0 ∧ ty.size = info.size then
                some (fun K => n = m ∧ (0 ≤ n ∧ n * info.bytes ≤ 140737488355328) ∧ K (.ownT ty (List.replicate n.toNat x))) else none
            | none => none
          | _, _ => none
        | none => none
      | _ => none
    | _, _ => none
  | _ => none

/-- Any operation that only makes: the conditions above, else the evaluation itself. -/
noncomputable def qWs (e : Env Γ.St) (o : Oper) : Option (Kq Γ) :=
  match qW P G S e o with
  | some q => some q
  | none => match evQ P G S.toS e o with
    | some r => some (fun K => K r)
    | none => none

variable {P G S}

theorem boundW_eq {d : Option T} {dflt top h : Nat} (hw : boundW d dflt = some h) (hp : boundP d top) (hd : d = none → dflt ≤ top) : boundV d dflt top = some h := by
  unfold boundW at hw
  split at hw
  · simp only [Option.some.injEq] at hw; subst hw; rfl
  · simp only [Option.some.injEq] at hw; subst hw
    simp only [boundP] at hp
    simp only [boundV, hp, and_self, if_true]
  · cases hw
end

section
variable {Γ : Sig} {P : Program} {G : Nat → Option (List V)} {S : SpecsW Γ} {e : Env Γ.St} {o : Oper}

theorem pureIn_step {α β : Type} {s : Sem α} {a : α} (h : pureIn P s = some a) (f : α → Sem β) : pureIn P (s >>= f) = pureIn P (f a) := by
  change pureIn P (s.bind f) = _
  induction s with
  | pure b => simp only [pureIn, Option.some.injEq] at h; subst h; rfl
  | program k ih => exact ih P h
  | _ => simp [pureIn] at h

theorem pureIn_underlying {t : TypeId} {d : TypeDesc} (h : P.underlying t = some d) : pureIn P (underlying t) = some d := by
  show pureIn P (match P.underlying t with | some d => pure d | none => stuck "no such type" : Sem TypeDesc) = _
  rw [h]; rfl

theorem evFlat_of {v : Value} (h1 : o.op.operands.toList.all (fun x => (flatT (evx G e x)).isSome) = true)
    (h2 : pureIn P (execOp (fun x => (flatT (evx G e x)).getD undef) o) = some (.value v)) : evFlat P G e o = some (.ret (.p (V.ofVal v)) : R Γ.St) := by
  unfold evFlat
  rw [if_pos h1]
  have h3 : pureIn (Look.of P).P (execOp (fun x => (flatT (evx G e x)).getD undef) o) = some (.value v) := h2
  rw [h3]

theorem evBin_int {op : BinOp} {t t' : TypeId} {x y : Operand} {k k' : IntKind} {a b : Int} {v : Value} {dst : Option Tmp} {type : TypeId} {pos : String} {after : Array Edge} {guard : Option (Nat × Bool)}
    (hx : evx G e x = .p (.val (.int k a))) (hy : evx G e y = .p (.val (.int k' b))) (h : pureIn P (binOp op t (.int k a) (.int k' b)) = some v) :
    evQ P G S.toS e ⟨dst, .binOp op t x y t', type, pos, after, guard⟩ = some (.ret (.p (V.ofVal v))) := by
  have h1 : evNil (St := Γ.St) P op t (evx G e x) (evx G e y) = none := by rw [hx]; rfl
  have h2 : evEq (St := Γ.St) P op t (evx G e x) (evx G e y) = none := by rw [hx]; rfl
  simp only [evQ, h1, h2]
  refine evFlat_of ?_ ?_
  · simp [Op.operands, hx, hy, flatT, V.toVal, V.toVal1]
  · have hfx : (flatT (evx G e x)).getD undef = .int k a := by rw [hx]; rfl
    have hfy : (flatT (evx G e y)).getD undef = .int k' b := by rw [hy]; rfl
    simp only [execOp, hfx, hfy]
    have hg : eqGuard op t x y (.int k a) (.int k' b) = pure () := by cases op <;> rfl
    rw [hg]
    have hb : ∀ (s : Sem Value), pureIn P s = some v → pureIn P (do let v ← s; pure (Next.value v)) = some (.value v) := by
      intro s
      induction s with
      | pure c => intro hs; simp only [pureIn, Option.some.injEq] at hs; subst hs; rfl
      | program f ih => intro hs; exact ih P hs
      | _ => intro hs; simp [pureIn] at hs
    exact hb _ h

theorem intW_sound {op : BinOp} {t t' : TypeId} {x y : Operand} {k : IntKind} {a b : Int} {q : Kq Γ} {K : R Γ.St → Prop} {dst : Option Tmp} {type : TypeId} {pos : String} {after : Array Edge} {guard : Option (Nat × Bool)}
    (hx : evx G e x = .p (.val (.int k a))) (hy : evx G e y = .p (.val (.int k b))) (h : intW op k a b = some q) (hK : q K) (h1 : op ≠ .shl) (h2 : op ≠ .shr) :
    ∃ r, evQ P G S.toS e ⟨dst, .binOp op t x y t', type, pos, after, guard⟩ = some r ∧ K r := by
  have fin : ∀ v, pureIn P (binOp op t (.int k a) (.int k b)) = some v → K (.ret (.p (V.ofVal v))) → ∃ r, evQ P G S.toS e ⟨dst, .binOp op t x y t', type, pos, after, guard⟩ = some r ∧ K r :=
    fun v hv hk => ⟨_, evBin_int hx hy hv, hk⟩
  have finI : ∀ n, pureIn P (binOp op t (.int k a) (.int k b)) = some (.int k n) → K (retI k n) → ∃ r, evQ P G S.toS e ⟨dst, .binOp op t x y t', type, pos, after, guard⟩ = some r ∧ K r := fun n hv hk => fin _ hv hk
  have finB : ∀ c, pureIn P (binOp op t (.int k a) (.int k b)) = some (.bool c) → K (retB c) → ∃ r, evQ P G S.toS e ⟨dst, .binOp op t x y t', type, pos, after, guard⟩ = some r ∧ K r := fun n hv hk => fin _ hv hk
  have hkk : ∀ s1 s2 : Sem Value, (if k ≠ k then s1 else s2) = s2 := by intro s1 s2; simp
  cases op <;> simp only [intW, bitsOf, Option.some.injEq, reduceCtorEq] at h <;> first | exact absurd rfl h1 | exact absurd rfl h2 | skip
  case quo =>
    subst h
    refine finI (k.wrap (a.tdiv b)) ?_ hK.2
    simp only [binOp, hkk, Op.intDiv, if_neg hK.1]; rfl
  case rem =>
    subst h
    refine finI (a.tmod b) ?_ hK.2
    simp only [binOp, hkk, Op.intDiv, if_neg hK.1]; rfl
  all_goals
    subst h
    first
      | (refine finI _ ?_ hK; simp only [binOp, hkk]; rfl)
      | (refine finB _ ?_ hK; simp only [binOp, hkk]; rfl)

theorem shiftW_sound {op : BinOp} {t t' : TypeId} {x y : Operand} {k k' : IntKind} {a b : Int} {q : Kq Γ} {K : R Γ.St → Prop} {dst : Option Tmp} {type : TypeId} {pos : String} {after : Array Edge} {guard : Option (Nat × Bool)}
    (hx : evx G e x = .p (.val (.int k a))) (hy : evx G e y = .p (.val (.int k' b))) (h : shiftW op k a b = some q) (hK : q K) :
    ∃ r, evQ P G S.toS e ⟨dst, .binOp op t x y t', type, pos, after, guard⟩ = some r ∧ K r := by
  cases op <;> simp only [shiftW, Option.some.injEq, reduceCtorEq] at h
  case shl =>
    subst h
    refine ⟨_, evBin_int (v := .int k (k.wrap (a * 2 ^ min b.toNat k.bits))) hx hy ?_, hK.2⟩
    simp only [binOp, Op.shift]
    rw [if_neg (by have := hK.1; omega)]; rfl
  case shr =>
    subst h
    refine ⟨_, evBin_int (v := .int k (a.fdiv (2 ^ min b.toNat k.bits))) hx hy ?_, hK.2⟩
    simp only [binOp, Op.shift]
    rw [if_neg (by have := hK.1; omega)]; rfl

theorem qW_sound {q : Kq Γ} {K : R Γ.St → Prop} (h : qW P G S e o = some q) (hK : q K) : ∃ r, evQ P G S.toS e o = some r ∧ K r := by
  obtain ⟨dst, op, type, pos, after, guard⟩ := o
  cases op <;> simp only [qW, reduceCtorEq] at h
  case indexAddr t x ix =>
    split at h
    · rename_i ty xs k0 i hx hix
      split at h
      · rename_i el hu
        split at h
        · rename_i hz
          simp only [Option.some.injEq] at h
          subst h
          obtain ⟨⟨h0, h1⟩, h2⟩ := hK
          have hlt : i.toNat < xs.length := by omega
          have hg : xs[i.toNat]? = some xs[i.toNat] := by simp [hlt]
          refine ⟨_, ?_, h2 _ hg⟩
          have hu' : P.underlying t = some (.slice el) := hu
          simp only [evQ, hx, hix, evIndexAddr, h0, if_true, hu', hz, hg]
        · cases h
      · cases h
    · rename_i id ty xs k0 i hx hix
      split at h
      · rename_i el hu
        split at h
        · rename_i hz
          simp only [Option.some.injEq] at h
          subst h
          obtain ⟨⟨h0, h1⟩, h2⟩ := hK
          have hlt : i.toNat < xs.length := by omega
          refine ⟨_, ?_, h2⟩
          have hu' : P.underlying t = some (.slice el) := hu
          simp only [evQ, hx, hix, evIndexAddr, h0, if_true, hu', hz, hlt]
        · cases h
      · cases h
    · cases h
  case load t x =>
    split at h
    · rename_i id ty xs i off hx
      simp only [Option.some.injEq] at h
      subst h
      obtain ⟨h1, h2⟩ := hK
      have hg : xs[i]? = some xs[i] := by simp [h1]
      have h3 := h2 _ hg
      split at h3
      · rename_i d hd
        refine ⟨_, ?_, h3⟩
        simp only [evQ, hx, evLoad, hg, hd, Option.map_some]
      · exact h3.elim
    · cases h
  case slice t x lo hi mx =>
    split at h
    · rename_i ty xs hx
      split at h
      · rename_i el hu
        split at h
        · rename_i hz
          split at h
          · rename_i hN hbh
            split at h
            · rename_i lN hbl
              simp only [Option.some.injEq] at h
              subst h
              obtain ⟨h1, h2, h3⟩ := hK
              refine ⟨_, ?_, h3⟩
              have hu' : P.underlying t = some (.slice el) := hu
              have hb1 := boundW_eq hbh h1 (fun _ => Nat.le_refl _)
              have hb2 := boundW_eq hbl h2 (fun _ => Nat.zero_le _)
              simp only [evQ, hx, evSliceT, hu', hz, if_true, Option.map_none, hb1, hb2]
            · cases h
          · cases h
        · cases h
      · cases h
    · cases h
  case index t x ix =>
    split at h
    · rename_i s k0 i hx hix
      split at h
      · rename_i hu
        simp only [Option.some.injEq] at h
        subst h
        obtain ⟨⟨h0, h1⟩, h2⟩ := hK
        have hlt : i.toNat < s.size := by omega
        have hg : s[i.toNat]? = some s[i.toNat] := by simp [hlt]
        refine ⟨_, ?_, h2 _ hg⟩
        have hfl : evFlat (St := Γ.St) P G e ⟨dst, .index t x ix, type, pos, after, guard⟩ = some (.ret (.p (V.ofVal (.int .u8 s[i.toNat].toNat)))) := by
          refine evFlat_of ?_ ?_
          · simp [Op.operands, hx, hix, flatT, V.toVal, V.toVal1]
          · have hfx : (flatT (evx G e x)).getD undef = .string s := by rw [hx]; rfl
            have hfy : (flatT (evx G e ix)).getD undef = .int k0 i := by rw [hix]; rfl
            have hu' : P.underlying t = some .string := hu
            simp only [execOp, hfx, hfy, Instr.index, asIntOf]
            have hin : pureIn P (do
                let __x ← pure (k0, i)
                let __do_lift ← underlying t
                match __do_lift, Value.string s with
                  | TypeDesc.array len elem, Value.agg cs =>
                    if 0 ≤ __x.snd ∧ __x.snd < ↑len then do
                      let __do_lift ← sizeOf elem
                      part elem cs (__x.snd.toNat * __do_lift)
                    else boundsPanic __x.fst __x.snd (↑len) BoundsCode.index
                  | TypeDesc.string, Value.string s =>
                    match if 0 ≤ __x.snd then s[__x.snd.toNat]? else none with
                    | some b => pure (Value.int IntKind.u8 ↑b.toNat)
                    | none => boundsPanic __x.fst __x.snd (↑s.size) BoundsCode.index
                  | x, x_1 => stuck "Index: array or string expected") = some (Value.int IntKind.u8 ↑s[i.toNat].toNat) := by
              refine (pureIn_step (s := pure (k0, i)) rfl _).trans ?_
              refine (pureIn_step (pureIn_underlying hu') _).trans ?_
              simp only [h0, if_true, hg]
              rfl
            exact (pureIn_step hin _).trans rfl
        simp only [evQ]
        exact hfl
      · cases h
    · cases h
  case binOp op t x y t' =>
    split at h
    · rename_i k a k' b hx hy
      split at h
      · exact shiftW_sound hx hy h hK
      · exact shiftW_sound hx hy h hK
      · rename_i h1 h2
        split at h
        · rename_i hk
          subst hk
          exact intW_sound hx hy h hK h1 h2
        · cases h
    · cases h
  case pick c x y =>
    split at h
    · rename_i b u v hc hx hy
      simp only [Option.some.injEq] at h
      subst h
      have hall : ((⟨dst, .pick c x y, type, pos, after, guard⟩ : Oper).op.operands.toList.all (fun x => (flatT (evx G e x)).isSome)) = true := by
        simp [Op.operands, hx, hy]; rw [hc]; rfl
      have hfc : (flatT (evx G e c)).getD undef = .bool b := by rw [hc]; rfl
      have hfx : (flatT (evx G e x)).getD undef = u := by rw [hx]; rfl
      have hfy : (flatT (evx G e y)).getD undef = v := by rw [hy]; rfl
      refine ifb_cases hK (fun hb hk => ⟨_, ?_, hk⟩) (fun hb hk => ⟨_, ?_, hk⟩)
      · simp only [evQ]
        refine evFlat_of hall ?_
        simp only [execOp, hfc, hfx, hfy]
        subst hb
        rfl
      · simp only [evQ]
        refine evFlat_of hall ?_
        simp only [execOp, hfc, hfx, hfy]
        subst hb
        rfl
    · cases h
  case call c =>
    split at h
    · rename_i f hcal
      split at h
      · rename_i g caps ds hf hds
        split at h
        · rename_i pre st' r hS
          split at h
          · cases h
          · rename_i hview
            simp only [Option.some.injEq] at h
            subst h
            refine ⟨_, ?_, hK.2⟩
            have hv : (c.args.toList.any (fun x => (evx G e x).isView) && !r.plain) = false := by simpa using hview
            simp only [evQ, evCall, hcal, hf, hds, callRes, toS_eq hS hK.1, hv, Bool.false_eq_true, if_false]
        · cases h
      · cases h
    · cases h
  case makeSlice t l c =>
    split at h
    · rename_i n m hl hc
      split at h
      · rename_i el hu
        split at h
        · rename_i info hi
          split at h
          · rename_i z ty hz hty
            split at h
            · rename_i x hx
              split at h
              · rename_i hcond
                obtain ⟨c1, c2, c3, c4⟩ := hcond
                simp only [Option.some.injEq] at h
                subst h
                obtain ⟨h1, ⟨h2, h3⟩, h4⟩ := hK
                refine ⟨_, ?_, h4⟩
                have hu' : P.underlying t = some (.slice el) := hu
                have hi' : P.info? el = some info := hi
                have hty' : creTy P el = some ty := hty
                have hcc : 0 ≤ n ∧ n * info.bytes ≤ 140737488355328 ∧ 1 ≤ info.bytes ∧ (V.ofVal1 z).cells.length = info.size ∧ info.size ≠ 0 := ⟨h2, h3, c1, c2, c3⟩
                subst h1
                simp only [evQ, hl, hc, evMakeSlice, hu', hi', hz, hty', hx, if_true]
                rw [if_pos hcc, if_pos c4]
              · cases h
            · cases h
          · cases h
        · cases h
      · cases h
    · cases h

theorem qWs_sound {q : Kq Γ} {K : R Γ.St → Prop} (h : qWs P G S e o = some q) (hK : q K) : ∃ r, evQ P G S.toS e o = some r ∧ K r := by
  unfold qWs at h
  split at h
  · rename_i q' hq
    simp only [Option.some.injEq] at h
    subst h
    exact qW_sound hq hK
  · split at h
    · rename_i r hr
      simp only [Option.some.injEq] at h
      subst h
      exact ⟨r, hr, hK⟩
    · cases h
end
end Go.Ve

namespace Go.Ve
open Go

section
variable {β : Type 1}

/-- The constructors of a value written out; its leaves as they stand. -/
def gL {α : Type} (f : α → (α → Prop) → Prop) : List α → (List α → Prop) → Prop
  | [], k => k []
  | x :: r, k => f x (fun x => gL f r (fun r => k (x :: r)))

def gVal : Value → (Value → Prop) → Prop
  | .int q n, k => k (.int q n)
  | .bool b, k => k (.bool b)
  | .string s, k => k (.string s)
  | v, k => k v

def gV : Nat → V → (V → Prop) → Prop
  | 0, d, k => k d
  | _ + 1, .val v, k => gVal v (fun v => k (.val v))
  | n + 1, .agg cs, k => gL (gV n) cs (fun cs => k (.agg cs))
  | n + 1, .sl cs, k => gL (gV n) cs (fun cs => k (.sl cs))
  | n + 1, .tup cs, k => gL (gV n) cs (fun cs => k (.tup cs))
  | n + 1, .pp cs, k => gL (gV n) cs (fun cs => k (.pp cs))
  | n + 1, .clo f cs, k => gL (gV n) cs (fun cs => k (.clo f cs))
  | _ + 1, .tl t xs, k => k (.tl t xs)
  | _ + 1, .rf o, k => k (.rf o)
  | _ + 1, .bot, k => k .bot

def gT : T → (T → Prop) → Prop
  | .p d, k => gV 6 d (fun d => k (.p d))
  | .ow i q es, k => gL (gV 6) es (fun es => k (.ow i q es))
  | .oe i q es j off, k => gL (gV 6) es (fun es => k (.oe i q es j off))
  | .lp s off, k => k (.lp s off)
  | .mp i es ck, k => k (.mp i es ck)
  | .ot i t xs, k => k (.ot i t xs)
  | .oet i t xs j off, k => k (.oet i t xs j off)
  | .ov i t xs j off, k => k (.ov i t xs j off)
  | .emp, k => k .emp
  | .dead, k => k .dead

def gO : Option (List T) → (Option (List T) → Prop) → Prop
  | none, k => k none
  | some cs, k => gL gT cs (fun cs => k (some cs))

def gEnv {St : Type} (e : Env St) (k : Env St → Prop) : Prop :=
  match e with
  | ⟨tm, vars, st⟩ => gL gT tm (fun tm => gL gO vars (fun vars => k ⟨tm, vars, st⟩))

/-- Element d alone; what stands behind it is as it was. -/
def gAt {α : Type} (f : α → (α → Prop) → Prop) : Nat → List α → (List α → Prop) → Prop
  | _, [], k => k []
  | 0, x :: r, k => f x (fun x => k (x :: r))
  | n + 1, x :: r, k => gAt f n r (fun r => k (x :: r))

def gOne {St : Type} (d : Nat) (e : Env St) (k : Env St → Prop) : Prop :=
  match e with
  | ⟨tm, vars, st⟩ => gAt gT d tm (fun tm => k ⟨tm, vars, st⟩)

/-- By what the operation may turn. -/
def gOp {St : Type} (o : Oper) (e : Env St) (k : Env St → Prop) : Prop :=
  match o.op with
  | .move _ | .assign _ | .load _ _ | .field _ _ _ | .fieldAddr _ _ _ | .indexAddr _ _ _ | .index _ _ _ | .binOp _ _ _ _ _ | .unOp _ _ _ | .convert _ _ _ | .pick _ _ _ | .extract _ _ | .nilCheck _ => match o.dst with
    | some d => gOne d e k
    | none => gEnv e k
  | .call c => match c.callee, o.dst with
    | .builtin .len, some d => gOne d e k
    | .builtin .min, some d => gOne d e k
    | .builtin .max, some d => gOne d e k
    | _, _ => gEnv e k
  | _ => gEnv e k

theorem gL_eq {α : Type} {f : α → (α → Prop) → Prop} (hf : ∀ x k, f x k = k x) : ∀ (l : List α) (k : List α → Prop), gL f l k = k l := by
  intro l
  induction l with
  | nil => intro k; rfl
  | cons x l ih => intro k; simp only [gL, hf, ih]

theorem gVal_eq (v : Value) (k : Value → Prop) : gVal v k = k v := by cases v <;> rfl

theorem gV_eq : ∀ (n : Nat) (d : V) (k : V → Prop), gV n d k = k d := by
  intro n
  induction n with
  | zero => intro d k; rfl
  | succ n ih =>
    intro d k
    cases d <;> simp only [gV]
    · exact gVal_eq _ _
    all_goals (first | exact gL_eq ih _ _ | rfl)

theorem gT_eq (x : T) (k : T → Prop) : gT x k = k x := by
  cases x <;> simp only [gT]
  · exact gV_eq _ _ _
  · exact gL_eq (gV_eq 6) _ _
  · exact gL_eq (gV_eq 6) _ _

theorem gO_eq (x : Option (List T)) (k : Option (List T) → Prop) : gO x k = k x := by
  cases x with
  | none => rfl
  | some cs => simp only [gO]; exact gL_eq gT_eq _ _

theorem gEnv_eq {St : Type} (e : Env St) (k : Env St → Prop) : gEnv e k = k e := by
  obtain ⟨tm, vars, st⟩ := e
  simp only [gEnv]
  rw [gL_eq gT_eq, gL_eq gO_eq]

theorem gAt_eq {α : Type} {f : α → (α → Prop) → Prop} (hf : ∀ x k, f x k = k x) : ∀ (n : Nat) (l : List α) (k : List α → Prop), gAt f n l k = k l := by
  intro n l
  induction l generalizing n with
  | nil => intro k; cases n <;> rfl
  | cons x l ih =>
    intro k
    cases n with
    | zero => simp only [gAt, hf]
    | succ n => simp only [gAt]; exact ih n _

theorem gOne_eq {St : Type} (d : Nat) (e : Env St) (k : Env St → Prop) : gOne d e k = k e := by
  obtain ⟨tm, vars, st⟩ := e
  simp only [gOne]
  rw [gAt_eq gT_eq]

theorem gOp_eq {St : Type} (o : Oper) (e : Env St) (k : Env St → Prop) : gOp o e k = k e := by
  unfold gOp
  repeat' split
  all_goals (first | exact gOne_eq _ _ _ | exact gEnv_eq _ _)
end

section
variable {Γ : Sig} (P : Look) (G : Nat → Option (List V)) (S : SpecsW Γ)

/-- Writing operations on typed data. -/
def wW (e : Env Γ.St) (o : Oper) : Option (Ke Γ) :=
  match o.op with
  | .store t ap x => match o.dst with
    | some _ => none
    | none => match evx G e ap, evx G e x with
      | .oet id ty xs i off, .p d =>
        if size? P t = some d.cells.length ∧ off + d.cells.length ≤ ty.size ∧ d.cells.all V.one = true ∧ (ty.aggT = false → d.cells.length = 1 ∧ ty.size = 1) then
          some (fun K => i < xs.length ∧ ∀ y, xs[i]? = some y → match newEl ty y off d with
            | some z => K (e.mapT (updTT id ty i z))
            | none => False)
        else none
      | _, _ => none
  | .call c => match c.callee, c.args.toList, c.argTypes.toList, o.dst with
    | .builtin .append, [x0, x1], [t0, t1], some d => match P.und t0, P.und t1 with
      | some (.slice el), some (.slice _) => match P.inf el with
        | some info => match info.zero, srcT (evx G e x1) with
          | some z, some ⟨t, ys⟩ => match dstT t (evx G e x0) with
            | some (nm, xs) =>
              if t.size = info.size ∧ 1 ≤ info.bytes ∧ zcells z = info.size ∧ nm.getD d ≠ lentId then
                some (fun K => (2 * (xs.length + ys.length) + 1024) * info.bytes ≤ 140737488355328 ∧
                  K { (e.kill (nm.getD d)) with tm := (e.kill (nm.getD d)).tm.set d (.ot (nm.getD d) t (xs ++ ys)) })
              else none
            | none => none
          | _, _ => none
        | none => none
      | _, _ => none
    | _, _, _, _ => none
  | _ => none

noncomputable def wWs (e : Env Γ.St) (o : Oper) : Option (Ke Γ) :=
  match wW P G e o with
  | some q => some q
  | none => match evW P G e o with
    | some e1 => some (fun K => K e1)
    | none => none

/-- One route: what only makes, then what writes. -/
noncomputable def routeW (e : Env Γ.St) (o : Oper) : Option (Ke Γ) :=
  match qWs P G S e o with
  | some q => some (fun K => q (fun r => match applyR e o.dst r with
    | some e1 => K e1
    | none => False))
  | none => wWs P G e o

noncomputable def anyW (e : Env Γ.St) (o : Oper) (K : Env Γ.St → Prop) : Prop :=
  match routeW P G S e o with
  | some q => q K
  | none => match routeW P G S (frzOps G (frzSel o) e) o with
    | some q => q K
    | none => False

def Env.lit (e : Env Γ.St) (t : Nat) (b : Bool) : Env Γ.St := { e with tm := e.tm.set t (.p (.val (.bool b))) }

/-- With its guard: where the guard is open, both ways. -/
noncomputable def stepW (ops : Array Oper) (e : Env Γ.St) (o : Oper) (K : Env Γ.St → Prop) : Prop :=
  match o.guard with
  | none => anyW P G S e o K
  | some (j, want) => match (ops[j]?).bind (·.dst) with
    | none => K (e.put o.dst (.p (.val undef)))
    | some t => match e.get t with
      | .p (.val (.bool b)) => if t < e.tm.length then
          ifb b (match want with
            | true => gOne t (e.lit t true) (fun e => anyW P G S e o K)
            | false => K ((e.lit t true).put o.dst (.p (.val undef))))
          (match want with
            | true => K ((e.lit t false).put o.dst (.p (.val undef)))
            | false => gOne t (e.lit t false) (fun e => anyW P G S e o K))
        else False
      | .p (.val (.tuple _)) => K (e.put o.dst (.p (.val undef)))
      | _ => False

noncomputable def seqW (ops : Array Oper) : List Oper → Env Γ.St → (Env Γ.St → Prop) → Prop
  | [], e, K => K e
  | o :: rest, e, K => stepW P G S ops e o (fun e1 => gOp o e1 (fun e1 => seqW ops rest e1 K))

noncomputable def drawStepW (e : Env Γ.St) (o : Oper) (K : Env Γ.St → Prop) : Prop :=
  match qWs P G S e o with
  | some q => q (fun r => match applyD e o.dst r with
    | some e1 => K e1
    | none => False)
  | none => False

noncomputable def drawGoW (ops : Array Oper) : List Oper → Env Γ.St → (Env Γ.St → Prop) → Prop
  | [], e, K => K e
  | o :: rest, e, K =>
    match o.guard with
    | none => if pendOk G (dstsOf (o :: rest)) e o then drawStepW P G S e o (fun e1 => gOp o e1 (fun e1 => drawGoW ops rest e1 K)) else False
    | some (j, want) => match (ops[j]?).bind (·.dst) with
      | none => gOne (o.dst.getD 0) (e.put o.dst (.p (.val undef))) (fun e1 => drawGoW ops rest e1 K)
      | some t => match e.get t with
        | .p (.val (.bool b)) => if t < e.tm.length then
            ifb b (match want with
              | true => gOne t (e.lit t true) (fun e => if pendOk G (dstsOf (o :: rest)) e o then drawStepW P G S e o (fun e1 => gOp o e1 (fun e1 => drawGoW ops rest e1 K)) else False)
              | false => gOne (o.dst.getD 0) ((e.lit t true).put o.dst (.p (.val undef))) (fun e1 => drawGoW ops rest e1 K))
            (match want with
              | true => gOne (o.dst.getD 0) ((e.lit t false).put o.dst (.p (.val undef))) (fun e1 => drawGoW ops rest e1 K)
              | false => gOne t (e.lit t false) (fun e => if pendOk G (dstsOf (o :: rest)) e o then drawStepW P G S e o (fun e1 => gOp o e1 (fun e1 => drawGoW ops rest e1 K)) else False))
          else False
        | .p (.val (.tuple _)) => gOne (o.dst.getD 0) (e.put o.dst (.p (.val undef))) (fun e1 => drawGoW ops rest e1 K)
        | _ => False

noncomputable def drawW (ops : Array Oper) (e : Env Γ.St) (K : Env Γ.St → Prop) : Prop :=
  if tailAt ops.toList ≤ ops.size && tailOk ops (tailAt ops.toList) && guardOk ops (tailAt ops.toList) && drawOk (ops.extract 0 (tailAt ops.toList)) then
    gEnv (killAll (dstsOf (ops.extract 0 (tailAt ops.toList)).toList) e) (fun e => drawGoW P G S (ops.extract 0 (tailAt ops.toList)) (ops.extract 0 (tailAt ops.toList)).toList e
      (fun e1 => seqW P G S ops (ops.toList.drop (tailAt ops.toList)) e1 K))
  else False
end

section
variable {Γ : Sig} {P : Program} {G : Nat → Option (List V)} {S : SpecsW Γ} {e : Env Γ.St} {o : Oper} {K : Env Γ.St → Prop} {ops : Array Oper}

theorem wW_sound {q : Ke Γ} (h : wW P G e o = some q) (hK : q K) : ∃ e1, evW P G e o = some e1 ∧ K e1 := by
  obtain ⟨dst, op, type, pos, after, guard⟩ := o
  cases op <;> simp only [wW, reduceCtorEq] at h
  case store t ap x =>
    split at h
    · cases h
    · rename_i hd
      split at h
      · rename_i id ty xs i off d hp hx
        split at h
        · rename_i hcond
          simp only [Option.some.injEq] at h
          subst h
          obtain ⟨h1, h2⟩ := hK
          have hg : xs[i]? = some xs[i] := by simp [h1]
          have h3 := h2 _ hg
          split at h3
          · rename_i z hz
            refine ⟨_, ?_, h3⟩
            simp only [evW, hp, hx, evStoreT]
            rw [if_pos hcond]
            simp only [hg, hz]
          · exact h3.elim
        · cases h
      · cases h
  case call c =>
    split at h
    · rename_i x0 x1 t0 t1 d hcal hargs htys
      split at h
      · rename_i el el1 hu0 hu1
        split at h
        · rename_i info hinfo
          split at h
          · rename_i z t ys hz hsrc
            split at h
            · rename_i nm xs hdst
              split at h
              · rename_i hok
                simp only [Option.some.injEq] at h
                subst h
                refine ⟨_, ?_, hK.2⟩
                have hu0' : P.underlying t0 = some (.slice el) := hu0
                have hu1' : P.underlying t1 = some (.slice el1) := hu1
                have hinfo' : P.info? el = some info := hinfo
                simp only [evW, evAppendT, hcal, hargs, htys, hu0', hu1', hinfo', hz, hsrc, hdst]
                rw [if_pos hok, if_pos hK.1]
              · cases h
            · cases h
          · cases h
        · cases h
      · cases h
    · cases h

theorem wWs_sound {q : Ke Γ} (h : wWs P G e o = some q) (hK : q K) : ∃ e1, evW P G e o = some e1 ∧ K e1 := by
  unfold wWs at h
  split at h
  · rename_i q' hq
    simp only [Option.some.injEq] at h; subst h
    exact wW_sound hq hK
  · split at h
    · rename_i r hr
      simp only [Option.some.injEq] at h; subst h
      exact ⟨r, hr, hK⟩
    · cases h

theorem routeW_sound (hS : Table Γ P G S.toS) {q : Ke Γ} (h : routeW P G S e o = some q) (hK : q K) : ∃ e1, OpOk P G e o e1 ∧ K e1 := by
  unfold routeW at h
  split at h
  · rename_i q' hq
    simp only [Option.some.injEq] at h; subst h
    obtain ⟨r, hr, hk⟩ := qWs_sound hq hK
    split at hk
    · rename_i e1 he1
      refine ⟨e1, fun w0 F0 O0 a w Q hi => evQA_sim (P := P) hS hi ?_, hk⟩
      simp only [evQA, hr, he1]
    · exact hk.elim
  · obtain ⟨e1, h1, h2⟩ := wWs_sound h hK
    exact ⟨e1, fun w0 F0 O0 a w Q hi => evW_sim hi h1, h2⟩

theorem anyW_sound (hS : Table Γ P G S.toS) (h : anyW P G S e o K) : ∃ e1, OpOk P G e o e1 ∧ K e1 := by
  unfold anyW at h
  split at h
  · rename_i q hq; exact routeW_sound hS hq h
  · split at h
    · rename_i q hq
      obtain ⟨e1, h1, h2⟩ := routeW_sound hS hq h
      exact ⟨e1, fun w0 F0 O0 a w Q hi => h1 w0 F0 O0 a w Q (Inv.frzOps _ _ hi), h2⟩
    · exact h.elim

theorem lit_eq {t : Nat} {b : Bool} (h : e.get t = .p (.val (.bool b))) : e.lit t b = e := by
  obtain ⟨tm, vars, st⟩ := e
  simp only [Env.lit, Env.mk.injEq, and_true]
  refine List.ext_getElem? (fun i => ?_)
  simp only [Env.get, List.getD_eq_getElem?_getD] at h
  by_cases hi : t = i
  · subst hi
    rcases Nat.lt_or_ge t tm.length with hl | hl
    · rw [List.getElem?_set_self hl]
      rw [List.getElem?_eq_getElem hl, Option.getD_some] at h
      rw [List.getElem?_eq_getElem hl, h]
    · rw [List.getElem?_eq_none (by simpa using hl), List.getElem?_eq_none hl]
  · rw [List.getElem?_set_ne hi]

theorem stepW_sound (hS : Table Γ P G S.toS) (h : stepW P G S ops e o K) : ∃ e1, StepR P G ops e o e1 ∧ K e1 := by
  unfold stepW at h
  split at h
  · rename_i hg
    obtain ⟨e1, h1, h2⟩ := anyW_sound hS h
    exact ⟨e1, .inl ⟨by simp only [wantedV, hg], h1⟩, h2⟩
  · rename_i j want hg
    split at h
    · rename_i hj
      exact ⟨_, .inr ⟨by simp only [wantedV, hg, hj], rfl⟩, h⟩
    · rename_i t hj
      split at h
      · rename_i b hb
        split at h
        · rename_i hlt
          have hw : wantedV ops e o = some (b == want) := by simp only [wantedV, hg, hj, hb, hlt, if_true]
          refine ifb_cases h (fun hbt hh => ?_) (fun hbt hh => ?_)
          · subst hbt
            split at hh
            · rw [gOne_eq, lit_eq hb] at hh
              obtain ⟨e1, h1, h2⟩ := anyW_sound hS hh
              exact ⟨e1, .inl ⟨hw, h1⟩, h2⟩
            · rw [lit_eq hb] at hh
              exact ⟨_, .inr ⟨hw, rfl⟩, hh⟩
          · subst hbt
            split at hh
            · rw [lit_eq hb] at hh
              exact ⟨_, .inr ⟨hw, rfl⟩, hh⟩
            · rw [gOne_eq, lit_eq hb] at hh
              obtain ⟨e1, h1, h2⟩ := anyW_sound hS hh
              exact ⟨e1, .inl ⟨hw, h1⟩, h2⟩
        · exact h.elim
      · rename_i vs hb
        exact ⟨_, .inr ⟨by simp only [wantedV, hg, hj, hb], rfl⟩, h⟩
      · exact h.elim

theorem seqW_sound (hS : Table Γ P G S.toS) : ∀ (l : List Oper) (e : Env Γ.St), seqW P G S ops l e K → ∃ e', SeqR P G ops l e e' ∧ K e' := by
  intro l
  induction l with
  | nil => intro e h; exact ⟨e, .nil e, h⟩
  | cons o rest ih =>
    intro e h
    simp only [seqW] at h
    obtain ⟨e1, h1, h2⟩ := stepW_sound hS h
    rw [gOp_eq] at h2
    obtain ⟨e', h3, h4⟩ := ih e1 h2
    exact ⟨e', .cons h1 h3, h4⟩

theorem drawStepW_sound (h : drawStepW P G S e o K) : ∃ r e1, evQ P G S.toS e o = some r ∧ applyD e o.dst r = some e1 ∧ K e1 := by
  unfold drawStepW at h
  split at h
  · rename_i q hq
    obtain ⟨r, hr, hk⟩ := qWs_sound hq h
    split at hk
    · rename_i e1 he1; exact ⟨r, e1, hr, he1, hk⟩
    · exact hk.elim
  · exact h.elim

theorem drawGoW_sound : ∀ (l : List Oper) (e : Env Γ.St), drawGoW P G S ops l e K → ∃ e', drawGo P G S.toS ops l e = some e' ∧ K e' := by
  intro l
  induction l with
  | nil => intro e h; exact ⟨e, rfl, h⟩
  | cons o rest ih =>
    intro e h
    have run : ∀ e0 : Env Γ.St, e0 = e → wantedV ops e o = some true → (if pendOk G (dstsOf (o :: rest)) e0 o then drawStepW P G S e0 o (fun e1 => gOp o e1 (fun e1 => drawGoW P G S ops rest e1 K)) else False) →
        ∃ e', drawGo P G S.toS ops (o :: rest) e = some e' ∧ K e' := by
      intro e0 he0 hw hh
      subst he0
      split at hh
      · rename_i hp
        obtain ⟨r, e1, h1, h2, h3⟩ := drawStepW_sound hh
        rw [gOp_eq] at h3
        obtain ⟨e', h4, h5⟩ := ih e1 h3
        refine ⟨e', ?_, h5⟩
        simp only [drawGo, hw, hp, if_true, h1, h2, h4]
      · exact hh.elim
    have skip : ∀ e0 : Env Γ.St, e0 = e → wantedV ops e o = some false → gOne (o.dst.getD 0) (e0.put o.dst (.p (.val undef))) (fun e1 => drawGoW P G S ops rest e1 K) → ∃ e', drawGo P G S.toS ops (o :: rest) e = some e' ∧ K e' := by
      intro e0 he0 hw hh
      subst he0
      rw [gOne_eq] at hh
      obtain ⟨e', h4, h5⟩ := ih _ hh
      refine ⟨e', ?_, h5⟩
      simp only [drawGo, hw, h4]
    unfold drawGoW at h
    split at h
    · rename_i hg; exact run e rfl (by simp only [wantedV, hg]) h
    · rename_i j want hg
      split at h
      · rename_i hj; exact skip e rfl (by simp only [wantedV, hg, hj]) h
      · rename_i t hj
        split at h
        · rename_i b hb
          split at h
          · rename_i hlt
            have hw : wantedV ops e o = some (b == want) := by simp only [wantedV, hg, hj, hb, hlt, if_true]
            refine ifb_cases h (fun hbt hh => ?_) (fun hbt hh => ?_)
            · subst hbt
              split at hh
              · rw [gOne_eq] at hh; exact run _ (lit_eq hb) hw hh
              · exact skip _ (lit_eq hb) hw hh
            · subst hbt
              split at hh
              · exact skip _ (lit_eq hb) hw hh
              · rw [gOne_eq] at hh; exact run _ (lit_eq hb) hw hh
          · exact h.elim
        · rename_i vs hb; exact skip e rfl (by simp only [wantedV, hg, hj, hb]) h
        · exact h.elim

theorem drawW_sound (hmix : P.follows .mixedOrders = true) (hS : Table Γ P G S.toS) (h : drawW P G S ops e K) : ∃ e', (∀ (id : Nat) (w0 : World) (F0 : Blk → Prop) (O0 : Lent) (a : Act) (w : World) (Q : Exit → Act → World → Prop),
    Inv Γ G w0 F0 O0 a w e → (∀ a w, Inv Γ G w0 F0 O0 a w e' → Q .normal a w) → (Code.region id ops true).wp P Q a w) ∧ K e' := by
  unfold drawW at h
  split at h
  · rename_i hc
    simp only [Bool.and_eq_true, decide_eq_true_eq] at hc
    obtain ⟨⟨⟨h1, h2⟩, h3⟩, h4⟩ := hc
    rw [gEnv_eq] at h
    obtain ⟨e1, h5, h6⟩ := drawGoW_sound _ _ h
    obtain ⟨e', h7, h8⟩ := seqW_sound hS _ _ h6
    refine ⟨e', fun id w0 F0 O0 a w Q hi hQ => drawR_sim hmix hS hi h1 h2 h3 (e1 := e1) ?_ h7 hQ, h8⟩
    unfold evDraw
    rw [if_pos h4]
    exact h5
  · exact h.elim
end
end Go.Ve

namespace Go.Ve
open Go

def castL (t t' : Ty) (xs : List t.El) : Option (List t'.El) := if h : t = t' then some (h ▸ xs) else none

def fitL (t t' : Ty) (xs : List t.El) (ys : List t'.El) : Prop :=
  match castL t t' xs with
  | some zs => zs = ys
  | none => False

def fitLeaf : Value → Value → Prop
  | .int k n, .int k' m => if k = k' then n = m else False
  | .bool a, .bool b => a = b
  | .string a, .string b => a = b
  | a, b => a = b

def fitAll {α : Type} (f : α → α → Prop) : List α → List α → Prop
  | [], [] => True
  | x :: xs, y :: ys => f x y ∧ fitAll f xs ys
  | _, _ => False

/-- y says no more than x: leaf by leaf. -/
def fitV : Nat → V → V → Prop
  | 0, x, y => x = y
  | _ + 1, .val (.slice none 0 0), .tl _ ys => ys = []
  | _ + 1, .sl [], .tl _ ys => ys = []
  | _ + 1, .val a, .val b => fitLeaf a b
  | _ + 1, .tl t xs, .tl t' ys => fitL t t' xs ys
  | n + 1, .agg cs, .agg ds => fitAll (fitV n) cs ds
  | n + 1, .tup cs, .tup ds => fitAll (fitV n) cs ds
  | _ + 1, x, y => x = y

def fitT : T → T → Prop
  | _, .dead => True
  | .p (.val (.slice none 0 0)), .ot _ _ ys => ys = []
  | .emp, .ot _ _ ys => ys = []
  | .ot i t xs, .ot j t' ys => if i = j then fitL t t' xs ys else False
  | .p d, .p d' => fitV 6 d d'
  | .lp s off, .lp s' off' => if s = s' ∧ off = off' then True else False
  | x, y => x = y

def fitO : Option (List T) → Option (List T) → Prop
  | _, none => True
  | some cs, some ds => fitAll fitT cs ds
  | none, some _ => False

def lpOkT {St : Type} (e : Env St) : T → Bool
  | .lp s _ => (e.var s).isSome
  | _ => true

def lpOk {St : Type} (e : Env St) : Bool :=
  e.tm.all (lpOkT e) && e.vars.all (fun o => match o with | some cs => cs.all (lpOkT e) | none => true)

/-- All temporaries, then K. -/
def fitTs : List T → List T → Prop → Prop
  | [], [], K => K
  | _ :: xs, .dead :: ys, K => fitTs xs ys K
  | x :: xs, y :: ys, K => fitT x y ∧ fitTs xs ys K
  | _, _, _ => False

def fitOs : List (Option (List T)) → List (Option (List T)) → Prop → Prop
  | [], [], K => K
  | _ :: xs, none :: ys, K => fitOs xs ys K
  | some cs :: xs, some ds :: ys, K => fitTs cs ds (fitOs xs ys K)
  | _, _, _ => False

def fitE {St : Type} (e e2 : Env St) (K : Prop) : Prop :=
  if lpOk e2 then fitTs e.tm e2.tm (fitOs e.vars e2.vars (e.st = e2.st ∧ K)) else False

theorem fitTs_sound : ∀ (xs ys : List T) (K : Prop), fitTs xs ys K → fitAll fitT xs ys ∧ K
  | [], [], K, h => ⟨trivial, h⟩
  | [], _ :: _, _, h => by simp [fitTs] at h
  | _ :: _, [], _, h => by simp [fitTs] at h
  | x :: xs, y :: ys, K, h => by
    unfold fitTs at h
    split at h
    · rename_i heq; cases heq
    · rename_i h1 h2
      simp only [List.cons.injEq] at h1 h2
      obtain ⟨rfl, rfl⟩ := h1
      obtain ⟨rfl, rfl⟩ := h2
      obtain ⟨g1, g2⟩ := fitTs_sound _ _ _ h
      exact ⟨⟨by simp [fitT], g1⟩, g2⟩
    · rename_i h1 h2
      simp only [List.cons.injEq] at h1 h2
      obtain ⟨rfl, rfl⟩ := h1
      obtain ⟨rfl, rfl⟩ := h2
      obtain ⟨g1, g2⟩ := fitTs_sound _ _ _ h.2
      exact ⟨⟨h.1, g1⟩, g2⟩
    · exact h.elim

theorem fitOs_sound : ∀ (xs ys : List (Option (List T))) (K : Prop), fitOs xs ys K → fitAll fitO xs ys ∧ K
  | [], [], K, h => ⟨trivial, h⟩
  | [], _ :: _, _, h => by simp [fitOs] at h
  | _ :: _, [], _, h => by simp [fitOs] at h
  | x :: xs, none :: ys, K, h => by
    simp only [fitOs] at h
    obtain ⟨g1, g2⟩ := fitOs_sound _ _ _ h
    exact ⟨⟨by cases x <;> trivial, g1⟩, g2⟩
  | none :: xs, some ds :: ys, K, h => by simp [fitOs] at h
  | some cs :: xs, some ds :: ys, K, h => by
    simp only [fitOs] at h
    obtain ⟨g0, h⟩ := fitTs_sound _ _ _ h
    obtain ⟨g1, g2⟩ := fitOs_sound _ _ _ h
    exact ⟨⟨g0, g1⟩, g2⟩

theorem fitL_sound {t t' : Ty} {xs : List t.El} {ys : List t'.El} (h : fitL t t' xs ys) : ∃ ht : t = t', (ht ▸ xs) = ys := by
  unfold fitL castL at h
  split at h
  · rename_i zs hz
    split at hz
    · rename_i ht
      simp only [Option.some.injEq] at hz
      exact ⟨ht, hz.trans h⟩
    · cases hz
  · exact h.elim

theorem fitLeaf_eq {a b : Value} (h : fitLeaf a b) : a = b := by
  unfold fitLeaf at h
  split at h
  · split at h
    · rename_i hk; rw [hk, h]
    · exact h.elim
  · rw [h]
  · rw [h]
  · exact h

theorem fitAll_vs {f : V → V → Prop} (hf : ∀ x y, f x y → WkV x y) : ∀ (xs ys : List V), fitAll f xs ys → WkVs xs ys
  | [], [], _ => trivial
  | x :: xs, y :: ys, h => ⟨hf x y h.1, fitAll_vs hf xs ys h.2⟩
  | [], _ :: _, h => h.elim
  | _ :: _, [], h => h.elim

theorem WkV.tup {xs ys : List V} (h : WkVs xs ys) : WkV (.tup xs) (.tup ys) := by
  intro w F v hr
  cases hr with
  | tup cs ds hl h0 =>
    refine .tup cs ys (hl.trans h.len) ?_
    intro i x d hi hd
    have hlt : i < xs.length := by rw [h.len]; exact (List.getElem?_eq_some_iff.1 hd).1
    exact h.get i xs[i] d (by simp [hlt]) hd w F x (h0 i x xs[i] hi (by simp [hlt]))

theorem fitV_sound : ∀ (n : Nat) (x y : V), fitV n x y → WkV x y := by
  intro n
  induction n with
  | zero => intro x y h; simp only [fitV] at h; subst h; exact .refl _
  | succ n ih =>
    intro x y h
    unfold fitV at h
    split at h
    · cases ‹_ = 0›
    · subst h; intro w F v hr; rw [Rd.eq_val hr]; exact .tl _ [] _ (.slemp none 0)
    · subst h; intro w F v hr; exact .tl _ [] _ hr
    · rw [fitLeaf_eq h]; exact .refl _
    · obtain ⟨ht, h⟩ := fitL_sound h; subst ht; subst h; exact .refl _
    · rename_i m cs ds heq
      simp only [Nat.succ_eq_add_one, Nat.add_right_cancel_iff] at heq
      subst heq
      exact WkV.agg (fitAll_vs ih cs ds h)
    · rename_i m cs ds heq
      simp only [Nat.succ_eq_add_one, Nat.add_right_cancel_iff] at heq
      subst heq
      exact WkV.tup (fitAll_vs ih cs ds h)
    · subst h; exact .refl _

theorem fitT_sound {x y : T} (h : fitT x y) : WkT x y := by
  unfold fitT at h
  split at h
  · exact .dead _
  · subst h; exact fun w F β al v hh => .inl ⟨rfl, none, Rd.eq_val hh⟩
  · subst h; exact fun w F β al v hh => .inl ⟨rfl, hh⟩
  · split at h
    · rename_i hij
      subst hij
      obtain ⟨ht, h⟩ := fitL_sound h
      subst ht
      subst h
      exact .refl _
    · exact h.elim
  · exact fun w F β al v hh => fitV_sound 6 _ _ h w F v hh
  · split at h
    · rename_i hc; rw [hc.1, hc.2]; exact .refl _
    · exact h.elim
  · subst h; exact .refl _

theorem fitAll_ts : ∀ (xs ys : List T), fitAll fitT xs ys → WkTs xs ys
  | [], [], _ => trivial
  | x :: xs, y :: ys, h => ⟨fitT_sound h.1, fitAll_ts xs ys h.2⟩
  | [], _ :: _, h => h.elim
  | _ :: _, [], h => h.elim

theorem fitAll_len {α : Type} {f : α → α → Prop} : ∀ (xs ys : List α), fitAll f xs ys → xs.length = ys.length
  | [], [], _ => rfl
  | x :: xs, y :: ys, h => by simp [fitAll_len xs ys h.2]
  | [], _ :: _, h => h.elim
  | _ :: _, [], h => h.elim

theorem fitAll_get {α : Type} {f : α → α → Prop} : ∀ (xs ys : List α), fitAll f xs ys → ∀ (i : Nat) (x y : α), xs[i]? = some x → ys[i]? = some y → f x y
  | [], [], _, i, x, y, h1, _ => by simp at h1
  | a :: xs, b :: ys, h, i, x, y, h1, h2 => by
    cases i with
    | zero => simp at h1 h2; subst h1 h2; exact h.1
    | succ i => exact fitAll_get xs ys h.2 i x y (by simpa using h1) (by simpa using h2)
  | [], _ :: _, h, _, _, _, _, _ => h.elim
  | _ :: _, [], h, _, _, _, _, _ => h.elim

section
variable {Γ : Sig} {P : Program} {G : Nat → Option (List V)} {w0 : World} {F0 : Blk → Prop} {O0 : Lent} {a : Act} {w : World} {e e2 : Env Γ.St}

theorem Inv.fit {K : Prop} (h : Inv Γ G w0 F0 O0 a w e) (hf : fitE e e2 K) : Inv Γ G w0 F0 O0 a w e2 ∧ K := by
  unfold fitE at hf
  split at hf
  · rename_i hlp
    obtain ⟨f1, hf⟩ := fitTs_sound _ _ _ hf
    obtain ⟨f2, f3, fK⟩ := fitOs_sound _ _ _ hf
    refine ⟨?_, fK⟩
    simp only [lpOk, Bool.and_eq_true, List.all_eq_true] at hlp
    obtain ⟨hl1, hl2⟩ := hlp
    obtain ⟨F, O, β, hc, hG, hsz, hdf, ht, hv⟩ := h
    let al' : Site → Prop := fun x => alive e x ∧ ∀ s, x = .v s → ∃ cs, e2.var s = some cs
    have hon : ∀ v x, TRel w F β (alive e) v x → lpOkT e2 x = true → TRel w F β al' v x := by
      intro v x hx hl
      refine hx.on ?_
      have hs := hx.sites
      cases x with
      | ow i k es => exact ⟨hs, fun s h => by cases h⟩
      | oe i k es j off => exact ⟨hs, fun s h => by cases h⟩
      | mp i es ck => exact ⟨hs, fun s h => by cases h⟩
      | ot i t xs => exact fun h0 => ⟨hs h0, fun s h => by cases h⟩
      | oet i t xs j off => exact ⟨hs, fun s h => by cases h⟩
      | ov i t xs lo hi => exact fun h0 => ⟨hs h0, fun s h => by cases h⟩
      | lp s off =>
        refine ⟨hs, fun s' h => ?_⟩
        simp only [Site.v.injEq] at h
        subst h
        exact Option.isSome_iff_exists.1 hl
      | _ => trivial
    have hvar : ∀ s, (∃ cs2, e2.var s = some cs2) → ∃ cs cs2, e.var s = some cs ∧ e2.var s = some cs2 ∧ WkTs cs cs2 ∧ ∀ x, x ∈ cs2 → lpOkT e2 x = true := by
      rintro s ⟨cs2, hcs2⟩
      have hlt : s < e2.vars.length := by
        rcases Nat.lt_or_ge s e2.vars.length with h | h
        · exact h
        · simp [Env.var, List.getElem?_eq_none h] at hcs2
      have hlt' : s < e.vars.length := by rw [fitAll_len _ _ f2]; exact hlt
      have h2 : e2.vars[s]? = some (some cs2) := by
        simp only [Env.var, List.getElem?_eq_getElem hlt, Option.getD_some] at hcs2
        rw [List.getElem?_eq_getElem hlt, hcs2]
      have h1 := fitAll_get _ _ f2 s e.vars[s] (some cs2) (by simp [hlt']) h2
      cases hcs : e.vars[s] with
      | none => rw [hcs] at h1; exact h1.elim
      | some cs =>
        rw [hcs] at h1
        refine ⟨cs, cs2, by simp [Env.var, hlt', hcs], hcs2, fitAll_ts cs cs2 h1, ?_⟩
        have := hl2 (some cs2) (List.mem_of_getElem? h2)
        simpa using this
    refine Inv.of (al := al') (by rw [← f3]; exact hc.anti (fun x hx => hx.1)) hG (by rw [← fitAll_len _ _ f1]; exact hsz) hdf ?_ ?_ ?_
    · intro t
      rcases Nat.lt_or_ge t e2.tm.length with hlt | hlt
      · have hlt' : t < e.tm.length := by rw [fitAll_len _ _ f1]; exact hlt
        have h1 := fitAll_get _ _ f1 t e.tm[t] e2.tm[t] (by simp [hlt']) (by simp [hlt])
        have hg : e.get t = e.tm[t] := by simp [Env.get, hlt']
        have hg2 : e2.get t = e2.tm[t] := by simp [Env.get, hlt]
        rw [hg2]
        have h2 := ht t
        rw [hg] at h2
        exact hon _ _ (fitT_sound h1 _ _ _ _ _ h2) (hl1 _ (List.getElem_mem hlt))
      · have hg2 : e2.get t = .dead := by simp [Env.get, hlt]
        rw [hg2]; trivial
    · intro s cs2 hcs2
      obtain ⟨cs, cs2', h1, h2, h3, h4⟩ := hvar s ⟨cs2, hcs2⟩
      rw [hcs2] at h2
      simp only [Option.some.injEq] at h2
      subst h2
      obtain ⟨c, et, g1, g2, g3⟩ := hv s cs h1
      refine ⟨⟨⟨cs, h1⟩, fun s' h => by simp only [Site.v.injEq] at h; subst h; exact ⟨cs2, hcs2⟩⟩, c, et, g1, g2.trans h3.len, ?_⟩
      intro i x y hx hy
      have hlt : i < cs.length := by rw [h3.len]; exact (List.getElem?_eq_some_iff.1 hy).1
      exact hon _ _ (h3.get i cs[i] y (by simp [hlt]) hy _ _ _ _ _ (g3 i x cs[i] hx (by simp [hlt]))) (h4 y (List.mem_of_getElem? hy))
    · rintro s ⟨_, hs⟩
      exact hs s rfl
  · exact hf.elim

end

/-- What is known at a loop's head: the data of a round, read off a state; the state of such data; what holds of them; what falls. -/
structure Head (St : Type) where
  σ : Type
  get : Env St → Option σ
  env : σ → Env St
  inv : σ → Prop
  mes : σ → Nat

/-- The first region in it. -/
def keyOf : Code → Option Nat
  | .region id _ _ => some id
  | .seq a b => match keyOf a with
    | some n => some n
    | none => keyOf b
  | .cond _ a b => match keyOf a with
    | some n => some n
    | none => keyOf b
  | .block _ a => keyOf a
  | .loop a => keyOf a
  | _ => none

section
variable {Γ : Sig} (P : Look) (G : Nat → Option (List V)) (S : SpecsW Γ) (A : Nat → Option (Head Γ.St))

def unroll (body : (X → Env Γ.St → Prop) → Env Γ.St → Prop) (Q : X → Env Γ.St → Prop) : Nat → Env Γ.St → Prop
  | 0, _ => False
  | n + 1, e => body (fun k e1 => match k with
    | .normal => unroll body Q n e1
    | k => Q k e1) e

noncomputable def regW (ops : Array Oper) (d : Bool) (e : Env Γ.St) (K : Env Γ.St → Prop) : Prop :=
  match d with
  | false => seqW P G S ops ops.toList e K
  | true => drawW P G S ops e K

noncomputable def wpC : Code → (X → Env Γ.St → Prop) → Env Γ.St → Prop
  | .skip, Q, e => Q .normal e
  | .seq x y, Q, e => wpC x (fun k e1 => match k with
    | .normal => wpC y Q e1
    | k => Q k e1) e
  | .cond c x y, Q, e => match evx G e c with
    | .p (.val (.bool b)) => ifb b (wpC x Q e) (wpC y Q e)
    | _ => False
  | .block id c, Q, e => wpC c (fun k e1 => Q (k.out id) e1) e
  | .loop c, Q, e => match (keyOf c).bind A with
    | some h => (match h.get e with
      | some s0 => fitE e (h.env s0) (h.inv s0)
      | none => False) ∧ ∀ s, h.inv s → gEnv (h.env s) (fun e0 => wpC c (fun k e1 => match k with
      | .normal => (match h.get e1 with
        | some s1 => fitE e1 (h.env s1) (h.inv s1 ∧ h.mes s1 < h.mes s)
        | none => False)
      | k => Q k e1) e0)
    | none => unroll (wpC c) Q 80 e
  | .exit id, Q, e => Q (.exit id) e
  | .ret, Q, e => Q .ret e
  | .region id ops d, Q, e => match A (id + 100000) with
    | some h => regW P G S ops d e (fun e1 => match h.get e1 with
        | some s1 => fitE e1 (h.env s1) (h.inv s1)
        | none => False) ∧ ∀ s, h.inv s → gEnv (h.env s) (fun e0 => Q .normal e0)
    | none => regW P G S ops d e (fun e1 => Q .normal e1)
  | _, _, _ => False
end

section
variable {Γ : Sig} {P : Program} {G : Nat → Option (List V)} {S : SpecsW Γ} {A : Nat → Option (Head Γ.St)}

/-- By the machine: the code takes every world of state e to one of state e1, and ends so. -/
def CodeOk (P : Program) (G : Nat → Option (List V)) (c : Code) (e : Env Γ.St) (k : X) (e1 : Env Γ.St) : Prop :=
  ∀ (w0 : World) (F0 : Blk → Prop) (O0 : Lent) (a : Act) (w : World), Inv Γ G w0 F0 O0 a w e → c.wp P (fun ex a' w' => ex = k.toExit ∧ Inv Γ G w0 F0 O0 a' w' e1) a w

/-- In a loop, at the head of a round. -/
def RoundWp (P : Program) (c : Code) (Q : Exit → Act → World → Prop) (a : Act) (w : World) : Prop :=
  ∀ (b : Frame) (k : List Item) (cs : List Frame), ∃ e a' w', Q e a' w' ∧ Arrives P (lone (b.at a (.code c :: .inLoop c :: k)) cs w) b k cs e a' w'

def LoopOk (P : Program) (G : Nat → Option (List V)) (c : Code) (e : Env Γ.St) (k : X) (e1 : Env Γ.St) : Prop :=
  ∀ (w0 : World) (F0 : Blk → Prop) (O0 : Lent) (a : Act) (w : World), Inv Γ G w0 F0 O0 a w e → RoundWp P c (fun ex a' w' => ex = k.toExit ∧ Inv Γ G w0 F0 O0 a' w' e1) a w

theorem CodeOk.skip (e : Env Γ.St) : CodeOk P G .skip e .normal e := fun _ _ _ _ _ hi => wp_skip ⟨rfl, hi⟩
theorem CodeOk.exit (id : Nat) (e : Env Γ.St) : CodeOk P G (.exit id) e (.exit id) e := fun _ _ _ _ _ hi => wp_exit ⟨rfl, hi⟩
theorem CodeOk.ret (e : Env Γ.St) : CodeOk P G .ret e .ret e := fun _ _ _ _ _ hi => wp_ret ⟨rfl, hi⟩

theorem CodeOk.seqN {x y : Code} {e e1 e2 : Env Γ.St} {k : X} (h1 : CodeOk P G x e .normal e1) (h2 : CodeOk P G y e1 k e2) : CodeOk P G (.seq x y) e k e2 := by
  intro w0 F0 O0 a w hi
  refine wp_seq (wp_mono (h1 w0 F0 O0 a w hi) ?_)
  rintro ex a' w' ⟨rfl, hi'⟩
  exact h2 w0 F0 O0 a' w' hi'

theorem CodeOk.seqX {x y : Code} {e e1 : Env Γ.St} {k : X} (h1 : CodeOk P G x e k e1) (hk : k ≠ .normal) : CodeOk P G (.seq x y) e k e1 := by
  intro w0 F0 O0 a w hi
  refine wp_seq (wp_mono (h1 w0 F0 O0 a w hi) ?_)
  rintro ex a' w' ⟨rfl, hi'⟩
  cases k with
  | normal => exact absurd rfl hk
  | exit id => exact ⟨rfl, hi'⟩
  | ret => exact ⟨rfl, hi'⟩

theorem CodeOk.condB {c : Operand} {x y : Code} {e e1 : Env Γ.St} {k : X} {b : Bool} (hc : evx G e c = .p (.val (.bool b))) (h : CodeOk P G (if b then x else y) e k e1) : CodeOk P G (.cond c x y) e k e1 := by
  intro w0 F0 O0 a w hi
  have hw := h w0 F0 O0 a w hi
  obtain ⟨F, O, β, hcr, hG, hsz, hdf, ht, hv⟩ := hi
  have h2 := evx_sim (e := e) hG ht c
  rw [hc] at h2
  cases b with
  | true => exact wp_cond_true (Rd.eq_val h2) hw
  | false => exact wp_cond_false (Rd.eq_val h2) hw

theorem CodeOk.block {id : Nat} {c : Code} {e e1 : Env Γ.St} {k : X} (h : CodeOk P G c e k e1) : CodeOk P G (.block id c) e (k.out id) e1 := by
  intro w0 F0 O0 a w hi
  refine wp_block (wp_mono (h w0 F0 O0 a w hi) ?_)
  rintro ex a' w' ⟨rfl, hi'⟩
  cases k with
  | normal => exact ⟨rfl, hi'⟩
  | exit id' =>
    simp only [X.toExit, Exit.inBlock, X.out]
    split
    · exact ⟨rfl, hi'⟩
    · exact ⟨rfl, hi'⟩
  | ret => exact ⟨rfl, hi'⟩

theorem CodeOk.loop {c : Code} {e e1 : Env Γ.St} {k : X} (h : LoopOk P G c e k e1) : CodeOk P G (.loop c) e k e1 := by
  intro w0 F0 O0 a w hi b k' cs
  obtain ⟨ex, a', w', hq, harr⟩ := h w0 F0 O0 a w hi b k' cs
  exact ⟨ex, a', w', hq, .of_steps (.one step_loop) harr⟩

theorem LoopOk.last {c : Code} {e e1 : Env Γ.St} {k : X} (h : CodeOk P G c e k e1) (hk : k ≠ .normal) : LoopOk P G c e k e1 := by
  intro w0 F0 O0 a w hi b k' cs
  obtain ⟨ex, a', w', ⟨rfl, hi'⟩, harr⟩ := h w0 F0 O0 a w hi b (.inLoop c :: k') cs
  cases k with
  | normal => exact absurd rfl hk
  | exit id => exact ⟨_, a', w', ⟨rfl, hi'⟩, .pass (x := .inLoop c) rfl (fun _ _ => .inl (by simp [X.toExit])) harr⟩
  | ret => exact ⟨_, a', w', ⟨rfl, hi'⟩, .pass (x := .inLoop c) rfl (fun _ _ => .inl (by simp [X.toExit])) harr⟩

theorem LoopOk.step {c : Code} {e e1 e2 : Env Γ.St} {k : X} (h : CodeOk P G c e .normal e1) (h2 : LoopOk P G c e1 k e2) : LoopOk P G c e k e2 := by
  intro w0 F0 O0 a w hi b k' cs
  obtain ⟨ex, a', w', ⟨rfl, hi'⟩, harr⟩ := h w0 F0 O0 a w hi b (.inLoop c :: k') cs
  obtain ⟨ex2, a2, w2, hq2, harr2⟩ := h2 w0 F0 O0 a' w' hi' b k' cs
  exact ⟨ex2, a2, w2, hq2, .of_steps (Steps.trans harr (.one step_inLoop)) harr2⟩

theorem LoopOk.fit {c : Code} {e e' e2 : Env Γ.St} {k : X} {K : Prop} (hf : fitE e e' K) (h : LoopOk P G c e' k e2) : LoopOk P G c e k e2 :=
  fun w0 F0 O0 a w hi => h w0 F0 O0 a w (hi.fit hf).1

theorem CodeOk.fitN {c : Code} {e e1 e2 : Env Γ.St} {k : X} {K : Prop} (h : CodeOk P G c e k e1) (hf : fitE e1 e2 K) : CodeOk P G c e k e2 := by
  intro w0 F0 O0 a w hi
  refine wp_mono (h w0 F0 O0 a w hi) ?_
  rintro ex a' w' ⟨rfl, hi'⟩
  exact ⟨rfl, (hi'.fit hf).1⟩

theorem fitE_K {St : Type} {e e2 : Env St} {K : Prop} (hf : fitE e e2 K) : K := by
  unfold fitE at hf
  split at hf
  · exact (fitOs_sound _ _ _ (fitTs_sound _ _ _ hf).2).2.2
  · exact hf.elim

theorem wpC_sound (hmix : P.follows .mixedOrders = true) (hS : Table Γ P G S.toS) : ∀ (c : Code) (Q : X → Env Γ.St → Prop) (e : Env Γ.St), wpC P G S A c Q e → ∃ k e1, CodeOk P G c e k e1 ∧ Q k e1 := by
  intro c
  induction c with
  | skip => intro Q e h; exact ⟨_, _, .skip e, h⟩
  | exit id => intro Q e h; exact ⟨_, _, .exit id e, h⟩
  | ret => intro Q e h; exact ⟨_, _, .ret e, h⟩
  | seq x y ihx ihy =>
    intro Q e h
    simp only [wpC] at h
    obtain ⟨k, e1, h1, h2⟩ := ihx _ _ h
    cases k with
    | normal =>
      obtain ⟨k2, e2, h3, h4⟩ := ihy _ _ h2
      exact ⟨k2, e2, h1.seqN h3, h4⟩
    | exit id => exact ⟨_, e1, h1.seqX (by simp), h2⟩
    | ret => exact ⟨_, e1, h1.seqX (by simp), h2⟩
  | cond c x y ihx ihy =>
    intro Q e h
    simp only [wpC] at h
    split at h
    · rename_i b hb
      refine ifb_cases h (fun hbt hh => ?_) (fun hbt hh => ?_)
      · subst hbt
        obtain ⟨k, e1, h1, h2⟩ := ihx _ _ hh
        exact ⟨k, e1, CodeOk.condB hb h1, h2⟩
      · subst hbt
        obtain ⟨k, e1, h1, h2⟩ := ihy _ _ hh
        exact ⟨k, e1, CodeOk.condB hb h1, h2⟩
    · exact h.elim
  | block id c ih =>
    intro Q e h
    simp only [wpC] at h
    obtain ⟨k, e1, h1, h2⟩ := ih _ _ h
    exact ⟨_, e1, h1.block, h2⟩
  | loop c ih =>
    intro Q e h
    simp only [wpC] at h
    split at h
    · rename_i hd _
      obtain ⟨h1, h3⟩ := h
      have key : ∀ (n : Nat) (s : hd.σ), hd.mes s = n → hd.inv s → ∃ k e1, LoopOk P G c (hd.env s) k e1 ∧ Q k e1 := by
        intro n
        induction n using Nat.strongRecOn with
        | _ n ihn =>
          intro s hs hinv
          have h4 := h3 s hinv
          rw [gEnv_eq] at h4
          obtain ⟨k, e1, h5, h6⟩ := ih _ _ h4
          cases k with
          | normal =>
            simp only at h6
            split at h6
            · rename_i s1 _
              obtain ⟨f2, f3⟩ := fitE_K h6
              obtain ⟨k2, e2, h7, h8⟩ := ihn _ (by omega) s1 rfl f2
              exact ⟨k2, e2, LoopOk.step h5 (h7.fit h6), h8⟩
            · exact h6.elim
          | exit id => exact ⟨_, e1, .last h5 (by simp), h6⟩
          | ret => exact ⟨_, e1, .last h5 (by simp), h6⟩
      split at h1
      · rename_i s0 _
        obtain ⟨k, e1, h4, h5⟩ := key _ s0 rfl (fitE_K h1)
        exact ⟨k, e1, CodeOk.loop (h4.fit h1), h5⟩
      · exact h1.elim
    · have key : ∀ (n : Nat) (e : Env Γ.St), unroll (wpC P G S A c) Q n e → ∃ k e1, LoopOk P G c e k e1 ∧ Q k e1 := by
        intro n
        induction n with
        | zero => intro e h; exact h.elim
        | succ n ihn =>
          intro e h
          simp only [unroll] at h
          obtain ⟨k, e1, h5, h6⟩ := ih _ _ h
          cases k with
          | normal =>
            obtain ⟨k2, e2, h7, h8⟩ := ihn e1 h6
            exact ⟨k2, e2, LoopOk.step h5 h7, h8⟩
          | exit id => exact ⟨_, e1, .last h5 (by simp), h6⟩
          | ret => exact ⟨_, e1, .last h5 (by simp), h6⟩
      obtain ⟨k, e1, h4, h5⟩ := key _ e h
      exact ⟨k, e1, CodeOk.loop h4, h5⟩
  | region id ops draw =>
    intro Q e h
    have hreg : ∀ K : Env Γ.St → Prop, regW P G S ops draw e K → ∃ e1, CodeOk P G (.region id ops draw) e .normal e1 ∧ K e1 := by
      intro K h
      cases draw with
      | false =>
        simp only [regW] at h
        obtain ⟨e1, h1, h2⟩ := seqW_sound hS _ _ h
        refine ⟨e1, ?_, h2⟩
        intro w0 F0 O0 a w hi
        refine wp_region ?_
        have := seq_ops (Q := fun ex a' w' => ex = X.toExit .normal ∧ Inv Γ G w0 F0 O0 a' w' e1) ops 0 ops.toList e e1 a w (by simp) h1 hi (fun a w h => ⟨rfl, h⟩)
        simpa [List.range_eq_range'] using this
      | true =>
        simp only [regW] at h
        obtain ⟨e1, h1, h2⟩ := drawW_sound hmix hS h
        exact ⟨e1, fun w0 F0 O0 a w hi => h1 id w0 F0 O0 a w _ hi (fun a w h => ⟨rfl, h⟩), h2⟩
    simp only [wpC] at h
    split at h
    · rename_i hd _
      obtain ⟨h1, h2⟩ := h
      obtain ⟨e1, h3, h4⟩ := hreg _ h1
      split at h4
      · rename_i s1 _
        have h5 := h2 s1 (fitE_K h4)
        rw [gEnv_eq] at h5
        exact ⟨.normal, hd.env s1, h3.fitN h4, h5⟩
      · exact h4.elim
    · obtain ⟨e1, h3, h4⟩ := hreg _ h
      exact ⟨.normal, e1, h3, h4⟩
  | _ => intro Q e h; simp only [wpC] at h

/-- A result that says no more. -/
def fitRV : RV → RV → Prop
  | .p (.val (.slice none 0 0)), .ownT _ ys => ys = []
  | .own [], .ownT _ ys => ys = []
  | .own [], .p (.tl _ ys) => ys = []
  | .ownT t xs, .ownT t' ys => fitL t t' xs ys
  | .ownT t xs, .p (.tl t' ys) => fitL t t' xs ys
  | .p d, .p d' => fitV 7 d d'
  | _, _ => False

theorem fitRV_sound {N : Nat} {w : World} {F : Blk → Prop} {O : Nat → Prop} {v : Value} {r r' : RV} (h : fitRV r r') (hr : RetRel N w F O v r) :
    ∃ F' : Blk → Prop, (∀ b, F b → F' b) ∧ (∀ id a n c, F' (.h id a n c) ↔ F (.h id a n c)) ∧ (∀ b : Nat, F' b → F b ∨ (N ≤ b ∧ b < w.heap.size ∧ ¬ O b)) ∧ RetRel N w F' O v r' := by
  have same : RetRel N w F O v r' → ∃ F' : Blk → Prop, (∀ b, F b → F' b) ∧ (∀ id a n c, F' (.h id a n c) ↔ F (.h id a n c)) ∧ (∀ b : Nat, F' b → F b ∨ (N ≤ b ∧ b < w.heap.size ∧ ¬ O b)) ∧ RetRel N w F' O v r' :=
    fun h => ⟨F, fun _ h => h, fun _ _ _ _ => Iff.rfl, fun _ h => .inl h, h⟩
  unfold fitRV at h
  split at h
  · subst h; exact same (.inl ⟨rfl, none, Rd.eq_val hr⟩)
  · subst h; exact same hr
  · subst h
    refine same ?_
    rcases hr with ⟨_, a0, rfl⟩ | ⟨h, _⟩
    · exact .tl _ [] _ (.slemp a0 0)
    · exact absurd rfl h
  · obtain ⟨ht, h⟩ := fitL_sound h; subst ht; subst h; exact same hr
  · obtain ⟨ht, h⟩ := fitL_sound h
    subst ht
    subst h
    rename_i t xs
    rcases hr with ⟨h0, a0, rfl⟩ | ⟨hne, b, cap, rfl, h1, h2, h3, h4, k, hrow⟩
    · exact same (.tl _ _ _ (by rw [h0]; exact .slemp a0 0))
    · refine ⟨fun b' => F b' ∨ b' = Blk.b b, fun _ h => .inl h, addB_h, fun b' hb => hb.elim .inl (fun h => by have h := blk_eq h; subst h; exact .inr ⟨h1, h2, h4⟩), ?_⟩
      exact .tl _ _ _ (Row_rd (hrow.mono (fun _ h => .inl h) (fun _ _ => rfl) rfl) (fun _ h => h) (.inr rfl))
  · exact same (fitV_sound 7 _ _ h _ _ _ hr)
  · exact h.elim

/-- The end of a function's body. -/
def endW (P : Look) (fn : Func) (s' : Γ.St) (r : RV) : X → Env Γ.St → Prop
  | .exit _, _ => False
  | _, e => e.st = s' ∧ match evRet P e fn with
    | some r' => fitRV r' r
    | none => False

theorem fnOk_of_wpC (hmix : P.follows .mixedOrders = true) (hS : Table Γ P G S.toS) {f : FuncId} {fn : Func} {c : Code} (hf : P.funcs[f]? = some fn) (hb : fn.body = some c)
    {spec : Γ.St → List V → Option (Γ.St × RV)}
    (h : ∀ s ds s' r, spec s ds = some (s', r) → wpC P G S A c (endW P fn s' r) (start fn.ntmps s ds)) : FnOk Γ P G f spec := by
  intro w F O s args ds s' r hsig hG hF hlen hrd hspec
  obtain ⟨k, e', hok, hend⟩ := wpC_sound hmix hS c _ _ (h s ds s' r hspec)
  have hk : k = .normal ∨ k = .ret := by
    cases k with
    | normal => exact .inl rfl
    | ret => exact .inr rfl
    | exit id => exact hend.elim
  have hend' : e'.st = s' ∧ match evRet P e' fn with | some r' => fitRV r' r | none => False := by
    rcases hk with rfl | rfl <;> exact hend
  obtain ⟨hst, hret⟩ := hend'
  split at hret
  · rename_i r' hr'
    refine calls_of_wp hf hb ?_
    have hget : ∀ t, TRel w F ⟨fun _ => 0, fun _ => 0⟩ (fun _ => False) ((args ++ Array.replicate (fn.ntmps - args.size) undef).getD t undef) ((start fn.ntmps s ds).get t) := by
      intro t
      simp only [start, startTm, Env.get, List.getD_eq_getElem?_getD, Array.getD_eq_getD_getElem?]
      by_cases ht : t < ds.length
      · rw [List.getElem?_append_left (by simpa using ht), Array.getElem?_append_left (by omega)]
        rw [List.getElem?_map, List.getElem?_eq_getElem ht, Array.getElem?_eq_getElem (by omega)]
        exact hrd t _ _ (by simp [show t < args.size by omega]) (by simp [ht])
      · rw [List.getElem?_append_right (by simpa using Nat.le_of_not_lt ht), Array.getElem?_append_right (by omega), hlen]
        simp only [List.length_map]
        by_cases h2 : t - ds.length < fn.ntmps - ds.length
        · rw [List.getElem?_replicate, if_pos h2, Array.getElem?_replicate, if_pos h2]
          exact Rd.val _
        · rw [List.getElem?_replicate, if_neg h2]
          trivial
    have hnovar : ∀ s0, (start fn.ntmps s ds).var s0 = none := by
      intro s0
      simp only [start, Env.var, List.getElem?_replicate]
      split <;> rfl
    have hinv : Inv Γ G w F O { tmps := args ++ Array.replicate (fn.ntmps - args.size) undef, defers := [] } w (start fn.ntmps s ds) := by
      refine Inv.of (F := F) (O := O) (β := ⟨fun _ => 0, fun _ => 0⟩) (al := fun _ => False) ⟨Keep.refl _ w, hsig, fun b hb => .inl hb, fun b hb => ⟨.inl hb, hF b hb⟩, fun b hb => hb, fun x hx => hx.elim, fun x y hx => hx.elim, fun b n h => by cases h⟩ hG ?_ rfl hget ?_ (fun s h => h.elim)
      · simp [start, startTm, hlen]
      · intro s0 cs hcs; rw [hnovar] at hcs; cases hcs
    refine wp_mono (hok w F O _ w hinv) ?_
    rintro ex a' w' ⟨rfl, hi'⟩
    obtain ⟨v, F', O', h1, h2, h3, h4, h5, h6, h7⟩ := evRet_sim rfl hi' hr'
    have hdf : a'.defers = [] := by obtain ⟨_, _, _, _, _, _, hdf, _⟩ := hi'; exact hdf
    rw [hst] at h2
    obtain ⟨F'', g1, gh, g2, g3⟩ := fitRV_sound hret h7
    have h2 := Γ.mono h2 gh (fun _ _ => rfl)
    have hF'' : ∀ b : Nat, F'' b → (F b ∨ w.heap.size ≤ b) ∧ b < w'.heap.size ∧ ¬ O' b := by
      intro b hb
      rcases g2 b hb with hb | ⟨h1, h2, h3⟩
      · exact h6 b hb
      · exact ⟨.inr h1, h2, h3⟩
    rcases hk with rfl | rfl
    · exact ⟨hdf, v, h1, v, F'', O', rfl, h2, h3, h4, fun b hb => g1 b (h5 b hb), hF'', g3⟩
    · exact ⟨hdf, v, h1, v, F'', O', rfl, h2, h3, h4, fun b hb => g1 b (h5 b hb), hF'', g3⟩
  · exact hret.elim
end
end Go.Ve

namespace Go.Ve
open Go

@[reducible] def ElS : List Ty → Type
  | [] => Unit
  | t :: ts => t.El × ElS ts

def encS : (ts : List Ty) → ElS ts → List V
  | [], _ => []
  | t :: ts, x => t.enc x.1 :: encS ts x.2

def decS : (ts : List Ty) → List V → Option (ElS ts)
  | [], [] => some ()
  | t :: ts, d :: ds => match t.dec d with
    | some x => match decS ts ds with
      | some xs => some (x, xs)
      | none => none
    | none => none
  | _, _ => none

theorem decS_sound : ∀ (ts : List Ty) (ds : List V) (x : ElS ts), decS ts ds = some x → WkVs ds (encS ts x)
  | [], [], _, _ => trivial
  | [], _ :: _, _, h => by simp [decS] at h
  | _ :: _, [], _, h => by simp [decS] at h
  | t :: ts, d :: ds, x, h => by
    simp only [decS] at h
    split at h
    · rename_i y hy
      split at h
      · rename_i ys hys
        simp only [Option.some.injEq] at h
        subst h
        exact ⟨dec_sound hy, decS_sound ts ds ys hys⟩
      · cases h
    · cases h

def isFn (P : Program) (f : FuncId) : Bool :=
  match P.funcs[f]? with
  | some fn => fn.body.isSome && !(fn.name == "runtime.NumGoroutine")
  | none => false

end Go.Ve

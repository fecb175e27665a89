/-
  The evaluator over pure values, part 22: the same evaluation, each state written out before the next step: for the kernel.
-/
import Derived.Test.YtggmpbaiijodiaaGreatNvVe16
namespace Go.Ve
open Go

section
variable {β : Type}

def fL {α : Type} (f : α → (α → β) → β) : List α → (List α → β) → β
  | [], k => k []
  | x :: r, k => f x (fun x => fL f r (fun r => k (x :: r)))

def fInt : Int → (Int → β) → β
  | .ofNat m, k => k (.ofNat m)
  | .negSucc m, k => k (.negSucc m)

def fVal : Value → (Value → β) → β
  | .int q n, k => fInt n (fun n => k (.int q n))
  | .bool true, k => k (.bool true)
  | .bool false, k => k (.bool false)
  | v, k => k v

def fV : Nat → V → (V → β) → β
  | 0, d, k => k d
  | _ + 1, .val v, k => fVal v (fun v => k (.val v))
  | n + 1, .agg cs, k => fL (fV n) cs (fun cs => k (.agg cs))
  | n + 1, .sl cs, k => fL (fV n) cs (fun cs => k (.sl cs))
  | n + 1, .tup cs, k => fL (fV n) cs (fun cs => k (.tup cs))
  | n + 1, .pp cs, k => fL (fV n) cs (fun cs => k (.pp cs))
  | n + 1, .clo f cs, k => fL (fV n) cs (fun cs => k (.clo f cs))
  | _ + 1, .tl t xs, k => k (.tl t xs)

def fT : T → (T → β) → β
  | .p d, k => fV 8 d (fun d => k (.p d))
  | .ow i q es, k => fL (fV 8) es (fun es => k (.ow i q es))
  | .oe i q es j off, k => fL (fV 8) es (fun es => k (.oe i q es j off))
  | .lp s off, k => k (.lp s off)
  | .mp i es ck, k => k (.mp i es ck)
  | .ot i t xs, k => k (.ot i t xs)
  | .oet i t xs j off, k => k (.oet i t xs j off)
  | .emp, k => k .emp
  | .dead, k => k .dead

/-- All but one element as they stand. -/
def fAt {α : Type} (f : α → (α → β) → β) : Nat → List α → (List α → β) → β
  | _, [], k => k []
  | 0, x :: r, k => f x (fun x => k (x :: r))
  | n + 1, x :: r, k => fAt f n r (fun r => k (x :: r))

def fO : Option (List T) → (Option (List T) → β) → β
  | none, k => k none
  | some cs, k => fL (fun x k => k x) cs (fun cs => k (some cs))

/-- Element d alone; what stands behind it is as it was. -/
def fEnv {St : Type} (d : Nat) (e : Env St) (k : Env St → β) : β :=
  match e with
  | ⟨tm, vars, st⟩ => fAt (fun x k => fT x k) d tm (fun tm => k ⟨tm, vars, st⟩)

/-- All that may have turned. -/
def fEnvV {St : Type} (e : Env St) (k : Env St → β) : β :=
  match e with
  | ⟨tm, vars, st⟩ => fL (fun x k => fT x k) tm (fun tm => fL fO vars (fun vars => k ⟨tm, vars, st⟩))

theorem fL_eq {α : Type} {f : α → (α → β) → β} (hf : ∀ x k, f x k = k x) : ∀ (l : List α) (k : List α → β), fL f l k = k l := by
  intro l
  induction l with
  | nil => intro k; rfl
  | cons x l ih => intro k; simp only [fL, hf, ih]

theorem fVal_eq (v : Value) (k : Value → β) : fVal v k = k v := by
  cases v with
  | int q n => cases n <;> rfl
  | bool b => cases b <;> rfl
  | _ => rfl

theorem fV_eq : ∀ (n : Nat) (d : V) (k : V → β), fV n d k = k d := by
  intro n
  induction n with
  | zero => intro d k; rfl
  | succ n ih =>
    intro d k
    cases d <;> simp only [fV]
    · exact fVal_eq _ _
    all_goals (first | exact fL_eq ih _ _ | rfl)

theorem fT_eq (x : T) (k : T → β) : fT x k = k x := by
  cases x <;> simp only [fT]
  · exact fV_eq _ _ _
  · exact fL_eq (fV_eq 8) _ _
  · exact fL_eq (fV_eq 8) _ _

theorem fAt_eq {α : Type} {f : α → (α → β) → β} (hf : ∀ x k, f x k = k x) : ∀ (n : Nat) (l : List α) (k : List α → β), fAt f n l k = k l := by
  intro n l
  induction l generalizing n with
  | nil => intro k; cases n <;> rfl
  | cons x l ih =>
    intro k
    cases n with
    | zero => simp only [fAt, hf]
    | succ n => simp only [fAt]; exact ih n _

theorem fO_eq (x : Option (List T)) (k : Option (List T) → β) : fO x k = k x := by
  cases x with
  | none => rfl
  | some cs => simp only [fO]; exact fL_eq (fun _ _ => rfl) _ _

theorem fEnv_eq {St : Type} (d : Nat) (e : Env St) (k : Env St → β) : fEnv d e k = k e := by
  simp only [fEnv]
  rw [fAt_eq fT_eq]

theorem fEnvV_eq {St : Type} (e : Env St) (k : Env St → β) : fEnvV e k = k e := by
  simp only [fEnvV]
  rw [fL_eq fT_eq, fL_eq fO_eq]

/-- By what the operation may turn. -/
def fOp {St : Type} (o : Oper) (e : Env St) (k : Env St → β) : β :=
  match o.op with
  | .box _ _ | .alloc _ | .store _ _ _ | .makeFunc _ _ _ | .makeSlice _ _ _ | .build _ _ | .slice _ _ _ _ _ => fEnvV e k
  | .call c => match c.callee with
    | .builtin .len => fEnv (o.dst.getD 0) e k
    | _ => fEnvV e k
  | _ => fEnv (o.dst.getD 0) e k

theorem fOp_eq {St : Type} (o : Oper) (e : Env St) (k : Env St → β) : fOp o e k = k e := by
  unfold fOp
  split <;> (try split) <;> first | exact fEnvV_eq _ _ | exact fEnv_eq _ _ _
end

section
variable {Γ : Sig} (P : Look) (G : Nat → Option (List V)) (S : Specs Γ)

def evSeqF (ops : Array Oper) : List Oper → Env Γ.St → Option (Env Γ.St)
  | [], e => some e
  | o :: rest, e => match evStep P G S ops e o with
    | some e1 => fOp o e1 (fun e1 => evSeqF ops rest e1)
    | none => none

def drawGoF (ops : Array Oper) : List Oper → Env Γ.St → Option (Env Γ.St)
  | [], e => some e
  | o :: rest, e => match wantedV ops e o with
    | some true => if pendOk G (dstsOf (o :: rest)) e o then
        match evQ P G S e o with
        | some r => match applyD e o.dst r with
          | some e1 => fOp o e1 (fun e1 => drawGoF ops rest e1)
          | none => none
        | none => none
      else none
    | some false => fEnv (o.dst.getD 0) (e.put o.dst (.p (.val undef))) (fun e1 => drawGoF ops rest e1)
    | none => none

def evDrawF (ops : Array Oper) (e : Env Γ.St) : Option (Env Γ.St) :=
  if drawOk ops then fEnvV (killAll (dstsOf ops.toList) e) (fun e => drawGoF P G S ops ops.toList e) else none

def evDrawKF (ops : Array Oper) (k : Nat) (e : Env Γ.St) : Option (Env Γ.St) :=
  match evDrawF P G S (ops.extract 0 k) e with
  | some e1 => evSeqF P G S ops (ops.toList.drop k) e1
  | none => none

def evDrawTF (ops : Array Oper) (e : Env Γ.St) : Option (Env Γ.St) :=
  if tailAt ops.toList ≤ ops.size && tailOk ops (tailAt ops.toList) && guardOk ops (tailAt ops.toList) then
    match evDrawKF P G S ops (tailAt ops.toList) e with
    | some e1 => some e1
    | none => fEnvV (frzOps G (callOperands ops.toList) e) (fun e => evDrawKF P G S ops (tailAt ops.toList) e)
  else none

def evCodeF : Nat → Code → Env Γ.St → Option (X × Env Γ.St)
  | 0, _, _ => none
  | _ + 1, .skip, e => some (.normal, e)
  | n + 1, .seq x y, e => match evCodeF n x e with
    | some (.normal, e1) => evCodeF n y e1
    | r => r
  | n + 1, .cond c x y, e => match evx G e c with
    | .p (.val (.bool true)) => evCodeF n x e
    | .p (.val (.bool false)) => evCodeF n y e
    | _ => none
  | n + 1, .block id c, e => match evCodeF n c e with
    | some (k, e1) => some (k.out id, e1)
    | none => none
  | n + 1, .loop c, e => match evCodeF n c e with
    | some (.normal, e1) => evCodeF n (.loop c) e1
    | r => r
  | _ + 1, .exit id, e => some (.exit id, e)
  | _ + 1, .ret, e => some (.ret, e)
  | _ + 1, .region _ ops false, e => match evSeqF P G S ops ops.toList e with
    | some e1 => some (.normal, e1)
    | none => none
  | _ + 1, .region _ ops true, e => match evDrawTF P G S ops e with
    | some e1 => some (.normal, e1)
    | none => none
  | _, _, _ => none

def fRV {β : Type} : RV → (RV → β) → β
  | .p d, k => fV 8 d (fun d => k (.p d))
  | .own es, k => fL (fV 8) es (fun es => k (.own es))
  | .ownT t xs, k => k (.ownT t xs)

def retF (fn : Func) (e' : Env Γ.St) : Option (Γ.St × RV) :=
  match evRet P e' fn with
  | some r => fRV r (fun r => some (e'.st, r))
  | none => none

def evFnF (n : Nat) (fn : Func) (s : Γ.St) (ds : List V) : Option (Γ.St × RV) :=
  match fn.body with
  | some c => fEnvV (start fn.ntmps s ds) (fun e => match evCodeF P G S n c e with
    | some (.normal, e') => retF P fn e'
    | some (.ret, e') => retF P fn e'
    | _ => none)
  | none => none

def runF (Xs : Specs Γ) (k : Nat) : Nat → Specs Γ
  | 0 => Xs
  | n + 1 => fun f s ds => match Xs f s ds with
    | some r => some r
    | none => match P.fn f with
      | some fn => evFnF P G (runF Xs k n) k fn s ds
      | none => none

variable {P G S}

theorem evSeqF_eq (ops : Array Oper) : ∀ (l : List Oper) (e : Env Γ.St), evSeqF P G S ops l e = evSeq P G S ops l e := by
  intro l
  induction l with
  | nil => intro e; rfl
  | cons o l ih =>
    intro e
    simp only [evSeqF, evSeq, fOp_eq]
    cases evStep P G S ops e o with
    | none => rfl
    | some e1 => exact ih e1

theorem drawGoF_eq (ops : Array Oper) : ∀ (l : List Oper) (e : Env Γ.St), drawGoF P G S ops l e = drawGo P G S ops l e := by
  intro l
  induction l with
  | nil => intro e; rfl
  | cons o l ih =>
    intro e
    simp only [drawGoF, drawGo, fEnv_eq, fOp_eq, ih]
    cases wantedV ops e o with
    | none => rfl
    | some b =>
      cases b with
      | false => rfl
      | true =>
        simp only
        split
        · cases evQ P G S e o with
          | none => rfl
          | some r => simp only; cases applyD e o.dst r <;> rfl
        · rfl

theorem evDrawTF_eq (ops : Array Oper) (e : Env Γ.St) : evDrawTF P G S ops e = evDrawT P G S ops e := by
  have h1 : ∀ ops (e : Env Γ.St), evDrawF P G S ops e = evDraw P G S ops e := by
    intro ops e; simp only [evDrawF, evDraw, fEnvV_eq, drawGoF_eq]
  have h2 : ∀ ops k (e : Env Γ.St), evDrawKF P G S ops k e = evDrawK P G S ops k e := by
    intro ops k e; simp only [evDrawKF, evDrawK, h1, evSeqF_eq]; cases evDraw P G S (ops.extract 0 k) e <;> rfl
  simp only [evDrawTF, evDrawT, h2, fEnvV_eq]
  split
  · cases evDrawK P G S ops (tailAt ops.toList) e <;> rfl
  · rfl

theorem evCodeF_eq : ∀ (n : Nat) (c : Code) (e : Env Γ.St), evCodeF P G S n c e = evCode P G S n c e := by
  intro n
  induction n with
  | zero => intro c e; simp [evCodeF, evCode]
  | succ n ih =>
    intro c e
    cases c with
    | region id ops draw => cases draw <;> (simp only [evCodeF, evCode, evSeqF_eq, evDrawTF_eq]; rfl)
    | seq x y => simp only [evCodeF, evCode, ih]; rfl
    | cond c x y => simp only [evCodeF, evCode, ih]; rfl
    | block id c => simp only [evCodeF, evCode, ih]; rfl
    | loop c => simp only [evCodeF, evCode, ih]; rfl
    | _ => simp only [evCodeF, evCode]

theorem fRV_eq {β : Type} (r : RV) (k : RV → β) : fRV r k = k r := by
  cases r with
  | p d => exact fV_eq _ _ _
  | own es => exact fL_eq (fV_eq 8) _ _
  | ownT t xs => rfl

theorem evFnF_eq (n : Nat) (fn : Func) (s : Γ.St) (ds : List V) : evFnF P G S n fn s ds = evFn P G S n fn s ds := by
  have hr : ∀ e' : Env Γ.St, retF P fn e' = (evRet P e' fn).map (fun r => (e'.st, r)) := by
    intro e'
    simp only [retF, fRV_eq]
    cases evRet P e' fn <;> rfl
  simp only [evFnF, evFn, fEnvV_eq, evCodeF_eq, hr]
  rfl

theorem runF_eq (Xs : Specs Γ) (k : Nat) : ∀ n, runF P G Xs k n = runN P G Xs k n := by
  intro n
  induction n with
  | zero => rfl
  | succ n ih =>
    funext f s ds
    simp only [runF, runN, evFnF_eq, ih]
    rfl

end

section
variable {Γ : Sig} {P : Program} {G : Nat → Option (List V)}

theorem table_runF (hm : P.follows .mixedOrders = true) (hn : noCount P = true) {Xs : Specs Γ} (hX : Table Γ P G Xs) (k n : Nat) : Table Γ P G (runF P G Xs k n) := by
  rw [runF_eq]; exact table_runN hm hn hX k n
end
end Go.Ve

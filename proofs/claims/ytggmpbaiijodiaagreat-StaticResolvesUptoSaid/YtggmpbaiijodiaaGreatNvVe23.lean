/-
  The evaluator over pure values, part 23: the program's tables as trees, for the kernel.
-/
import Derived.Test.YtggmpbaiijodiaaGreatNvVe22
namespace Go.Ve
open Go

inductive Tr (α : Type) where
  | nil
  | node (v : α) (l r : Tr α)

def odds {α : Type} : List α → List α
  | [] => []
  | [_] => []
  | _ :: y :: r => y :: odds r

def evens {α : Type} : List α → List α
  | [] => []
  | [x] => [x]
  | x :: _ :: r => x :: evens r

/-- The head at the root; what stands at odd places behind it to the right, at even places to the left. -/
def Tr.ofList {α : Type} : Nat → List α → Tr α
  | 0, _ => .nil
  | _ + 1, [] => .nil
  | n + 1, x :: r => .node x (Tr.ofList n (evens r)) (Tr.ofList n (odds r))

def Tr.get {α : Type} : Tr α → Nat → Option α
  | .nil, _ => none
  | .node v l r, n => match Nat.beq n 0 with
    | true => some v
    | false => match Nat.beq ((n - 1) % 2) 0 with
      | true => l.get ((n - 1) / 2)
      | false => r.get ((n - 1) / 2)

theorem evens_get {α : Type} : ∀ (l : List α) (i : Nat), (evens l)[i]? = l[2 * i]? := by
  intro l
  induction l using evens.induct with
  | case1 => intro i; simp [evens]
  | case2 x => intro i; cases i with
    | zero => rfl
    | succ i => simp [evens]
  | case3 x y r ih => intro i; cases i with
    | zero => rfl
    | succ i => simp only [evens, List.getElem?_cons_succ, ih]; rw [show 2 * (i + 1) = 2 * i + 1 + 1 by omega]; simp

theorem odds_get {α : Type} : ∀ (l : List α) (i : Nat), (odds l)[i]? = l[2 * i + 1]? := by
  intro l
  induction l using odds.induct with
  | case1 => intro i; simp [odds]
  | case2 x => intro i; simp [odds]
  | case3 x y r ih => intro i; cases i with
    | zero => rfl
    | succ i => simp only [odds, List.getElem?_cons_succ, ih]; rw [show 2 * (i + 1) = 2 * i + 1 + 1 by omega]; simp

theorem evens_len {α : Type} : ∀ (l : List α), (evens l).length ≤ l.length := by
  intro l
  induction l using evens.induct with
  | case1 => simp [evens]
  | case2 x => simp [evens]
  | case3 x y r ih => simp [evens]; omega

theorem odds_len {α : Type} : ∀ (l : List α), (odds l).length ≤ l.length := by
  intro l
  induction l using odds.induct with
  | case1 => simp [odds]
  | case2 x => simp [odds]
  | case3 x y r ih => simp [odds]; omega

theorem Tr.get_ofList {α : Type} : ∀ (n : Nat) (l : List α) (i : Nat), l.length ≤ n → (Tr.ofList n l).get i = l[i]? := by
  intro n
  induction n with
  | zero => intro l i h; cases l with
    | nil => rfl
    | cons x l => simp at h
  | succ n ih =>
    intro l i h
    cases l with
    | nil => simp [Tr.ofList, Tr.get]
    | cons x r =>
      simp only [List.length_cons] at h
      simp only [Tr.ofList, Tr.get]
      cases i with
      | zero => rfl
      | succ i =>
        have h0 : Nat.beq (i + 1) 0 = false := rfl
        simp only [h0, Nat.add_sub_cancel]
        cases hb : Nat.beq (i % 2) 0 with
        | true =>
          have := Nat.eq_of_beq_eq_true hb
          simp only
          rw [ih _ _ (by have := evens_len r; omega), evens_get, List.getElem?_cons_succ, show 2 * (i / 2) = i by omega]
        | false =>
          have := Nat.ne_of_beq_eq_false hb
          simp only
          rw [ih _ _ (by have := odds_len r; omega), odds_get, List.getElem?_cons_succ, show 2 * (i / 2) + 1 = i by omega]

def undTree (P : Program) (n : Nat) : Tr (Option TypeDesc) := Tr.ofList n ((List.range n).map P.underlying)
def infTree (P : Program) (n : Nat) : Tr (Option TypeInfo) := Tr.ofList n ((List.range n).map P.info?)
def tyTree (P : Program) (n : Nat) : Tr (Option Ty) := Tr.ofList n ((List.range n).map (creTy P))
def fnTree (P : Program) (n : Nat) : Tr (Option Func) := Tr.ofList n ((List.range n).map (fun f => P.funcs[f]?))

/-- Out of the tree; behind it as the table itself says. -/
def orElse {β : Type} (x : Option β) (y : β) : β :=
  match x with
  | some d => d
  | none => y

def Look.fast (P : Program) (nt nf : Nat) : Look where
  P := P
  und := fun t => orElse ((undTree P nt).get t) (P.underlying t)
  inf := fun t => orElse ((infTree P nt).get t) (P.info? t)
  fn := fun t => orElse ((fnTree P nf).get t) P.funcs[t]?
  ty := fun t => orElse ((tyTree P nt).get t) (creTy P t)

theorem tree_eq {β : Type} (f : Nat → β) (n t : Nat) : orElse ((Tr.ofList n ((List.range n).map f)).get t) (f t) = f t := by
  rw [Tr.get_ofList n _ t (by simp)]
  by_cases h : t < n
  · simp [h, orElse]
  · rw [List.getElem?_eq_none (by simp; omega)]; rfl

theorem Look.fast_eq (P : Program) (nt nf : Nat) : Look.fast P nt nf = Look.of P := by
  unfold Look.fast Look.of
  congr 1
  · funext t; exact tree_eq P.underlying nt t
  · funext t; exact tree_eq P.info? nt t
  · funext t; exact tree_eq (fun f => P.funcs[f]?) nf t
  · funext t; exact tree_eq (creTy P) nt t

theorem table_fast {Γ : Sig} {P : Program} {G : Nat → Option (List V)} (hm : P.follows .mixedOrders = true) (hn : noCount P = true) {Xs : Specs Γ} (hX : Table Γ P G Xs) (nt nf k n : Nat) :
    Table Γ P G (runF (Look.fast P nt nf) G Xs k n) := by
  rw [Look.fast_eq]; exact table_runF hm hn hX k n
end Go.Ve

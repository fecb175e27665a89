/-
  law18: the program's tables; the shapes of its data.
-/
import Derived.Test.YtggmpbaiijodiaaGreatNvW4
import Derived.Test.YtggmpbaiijodiaaGreatProg
namespace Go.Ve
open Go Go.Proofs

noncomputable abbrev LF : Look := Look.fast Tryz.prog 210 210
def G0 : Nat → Option (List V) := fun _ => none
abbrev U := unitSig
abbrev SW := SpecsW U
abbrev A0 {α : Type} : Unit → α → Nat → Option (Head Unit) := fun _ _ _ => none
abbrev bodyOf (f : Func) : Code := match f.body with | some c => c | none => .skip

theorem ifb_intro {b : Bool} {A B : Prop} (ha : b = true → A) (hb : b = false → B) : ifb b A B := by
  cases b with
  | true => exact ha rfl
  | false => exact hb rfl

theorem wrap64 {n : Int} (h1 : -9223372036854775808 ≤ n) (h2 : n < 9223372036854775808) : IntKind.i64.wrap n = n := by
  exact IntWalk.i64_in n (by omega)

theorem mixed : Tryz.prog.follows .mixedOrders = true := by kernel_rfl

@[reducible] def Ty.st : List Ty → Ty
  | [] => .unit
  | t :: ts => .pair t (Ty.st ts)

abbrev tI : Ty := .int .i64
abbrev tU : Ty := .int .u32
abbrev tPrefix : Ty := .st [tU, tI]
abbrev tHop : Ty := .st [tI, tU]
abbrev tRoute : Ty := .st [tPrefix, tI, tI, tI, tI, tI, tI, tI, .sl tI, tU, tU, .sl tHop, .bool]
abbrev Prefix := tPrefix.El
abbrev Hop := tHop.El
abbrev Route := tRoute.El

section
variable {St : Type}
def tI? : T → Option Int
  | .p (.val (.int _ n)) => some n
  | _ => none
def tB? : T → Option Bool
  | .p (.val (.bool b)) => some b
  | _ => none
def tL? (ty : Ty) : T → Option (List ty.El)
  | .p (.tl t' xs) => castL t' ty xs
  | .ot _ t' xs => castL t' ty xs
  | .p (.val (.slice none 0 0)) => some []
  | .emp => some []
  | _ => none
def both {α β : Type} (x : Option α) (y : Option β) : Option (α × β) := match x with
  | some a => match y with
    | some b => some (a, b)
    | none => none
  | none => none

/-- Temporaries by their numbers, ascending; the others are forgotten. -/
def mkTm : Nat → Nat → List (Nat × T) → List T
  | 0, _, _ => []
  | n + 1, i, [] => .dead :: mkTm n (i + 1) []
  | n + 1, i, (j, x) :: r => match Nat.beq i j with
    | true => x :: mkTm n (i + 1) r
    | false => .dead :: mkTm n (i + 1) ((j, x) :: r)

def mkVars : Nat → Nat → List (Nat × List T) → List (Option (List T))
  | 0, _, _ => []
  | n + 1, i, [] => none :: mkVars n (i + 1) []
  | n + 1, i, (j, x) :: r => match Nat.beq i j with
    | true => some x :: mkVars n (i + 1) r
    | false => none :: mkVars n (i + 1) ((j, x) :: r)

def mkEnv (n : Nat) (st : St) (tm : List (Nat × T)) (vars : List (Nat × List T)) : Env St := ⟨mkTm n 0 tm, mkVars n 0 vars, st⟩
end

abbrev vI (n : Int) : T := .p (.val (.int .i64 n))
abbrev vU (n : Int) : T := .p (.val (.int .u32 n))
abbrev vB (b : Bool) : T := .p (.val (.bool b))
abbrev vL (t : Ty) (xs : List t.El) : T := .p (.tl t xs)

/-- A contract without conditions, of one result. -/
abbrev pureT (ts : List Ty) (F : ElS ts → V) : Unit → ElS ts → Prop × Unit × RV := fun _ x => (True, (), .p (F x))

def clamp (n : Int) : Int := if (if 32 < n then 32 else n) > 0 then if 32 < n then 32 else n else 0
def mask (n : Int) : Int := IntKind.u32.wrap (4294967295 * 2 ^ min (32 - clamp n).toNat 32)
def band (a b : Int) : Int := IntKind.u32.wrap (BitVec.ofInt 32 a &&& BitVec.ofInt 32 b).toNat
def contains (p : Prefix) (a : Int) : Bool := band a (mask p.2.1) == p.1

def F52 := pureT [tI] fun x => .val (.int .i64 (clamp x.1))
def F51 := pureT [tI] fun x => .val (.int .u32 (mask x.1))
def F35 := pureT [tPrefix, tU] fun x => .val (.bool (contains x.1 x.2.1))
def S1 : SW := (SpecsW.none U).add 52 (specT [tI] F52)
def S2 : SW := S1.add 51 (specT [tI] F51)
def S3 : SW := S2.add 35 (specT [tPrefix, tU] F35)

def resolvesGo (own : Prefix) (a : Int) (t : List Route) : List Route → Int → Int → Int
  | [], _, best => best
  | x :: r, i, best =>
    if (x.1.1 == own.1 && (x.1.2.1 == own.2.1)) || !contains x.1 a then resolvesGo own a t r (i + 1) best
    else if best < 0 || decide (x.1.2.1 > ((t[best.toNat]?).getD x).1.2.1) then resolvesGo own a t r (i + 1) i
    else resolvesGo own a t r (i + 1) best

def resolves (t : List Route) (own : Prefix) (a : Int) : Int := resolvesGo own a t t 0 (-1)

structure J15 (t : List Route) (own : Prefix) (a : Int) (s : Int × Int) : Prop where
  lo : 0 ≤ s.2
  hi : s.2 ≤ t.length
  lt : s.1 < s.2
  eq : resolvesGo own a t (t.drop s.2.toNat) s.2 s.1 = resolves t own a

def hd15 (t : List Route) (own : Prefix) (a : Int) : Head Unit where
  σ := Int × Int
  get := fun e => both (tI? (e.get 7)) (tI? (e.get 12))
  env := fun s => mkEnv 45 () [(0, vL tRoute t), (2, vU a), (4, .lp 4 0), (7, vI s.1), (10, vL tRoute t), (11, vI t.length), (12, vI s.2)] [(4, [vU own.1, vI own.2.1])]
  inv := J15 t own a
  mes := fun s => (t.length - s.2).toNat

def F15 : Unit → ElS [.sl tRoute, tPrefix, tU] → Prop × Unit × RV := fun _ x => (x.1.length ≤ 1048576, (), .p (.val (.int .i64 (resolves x.1 x.2.1 x.2.2.1))))
def A15 : Unit → ElS [.sl tRoute, tPrefix, tU] → Nat → Option (Head Unit) := fun _ x k => match k with
  | 3 => some (hd15 x.1 x.2.1 x.2.2.1)
  | _ => none
end Go.Ve

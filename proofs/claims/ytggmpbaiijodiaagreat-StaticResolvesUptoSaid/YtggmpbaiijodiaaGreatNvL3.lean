/-
  law18: what the functions of the reference compute: prefixes, hops, routes, tables.
-/
import Derived.Test.YtggmpbaiijodiaaGreatNvL2
namespace Go.Ve
open Go Go.Proofs

abbrev Route.pre (x : Route) : Prefix := x.1
abbrev Route.proto (x : Route) : Int := x.2.1
abbrev Route.cls (x : Route) : Int := x.2.2.1
abbrev Route.admin (x : Route) : Int := x.2.2.2.1
abbrev Route.metric (x : Route) : Int := x.2.2.2.2.1
abbrev Route.inner (x : Route) : Int := x.2.2.2.2.2.1
abbrev Route.tag (x : Route) : Int := x.2.2.2.2.2.2.1
abbrev Route.pref (x : Route) : Int := x.2.2.2.2.2.2.2.1
abbrev Route.path (x : Route) : List Int := x.2.2.2.2.2.2.2.2.1
abbrev Route.src (x : Route) : Int := x.2.2.2.2.2.2.2.2.2.1
abbrev Route.next (x : Route) : Int := x.2.2.2.2.2.2.2.2.2.2.1
abbrev Route.hops (x : Route) : List Hop := x.2.2.2.2.2.2.2.2.2.2.2.1
abbrev Route.discard (x : Route) : Bool := x.2.2.2.2.2.2.2.2.2.2.2.2.1

def bandn (a b : Int) : Int := IntKind.u32.wrap (BitVec.ofInt 32 a &&& ~~~ BitVec.ofInt 32 b).toNat
def pvalid (p : Prefix) : Bool := decide (p.2.1 ≥ 0) && decide (p.2.1 ≤ 32) && (bandn p.1 (mask p.2.1) == 0)
def peq (p q : Prefix) : Bool := p.1 == q.1 && p.2.1 == q.2.1
def cmpP (p q : Prefix) : Int := if decide (p.1 < q.1) || (p.1 == q.1 && decide (p.2.1 < q.2.1)) then -1 else if peq p q then 0 else 1
def within (n lo hi : Int) : Bool := decide (lo ≤ n) && decide (n ≤ hi)
def lessHop (a b : Hop) : Bool := decide (a.1 < b.1) || (a.1 == b.1 && decide (a.2.1 < b.2.1))
def hopsGo (direct : Bool) (l : List Hop) : List Hop → Int → Bool
  | [], _ => true
  | x :: r, i => if decide (x.1 < 0) || (decide (i > 0) && !lessHop ((l[(i - 1).toNat]?).getD x) x) || ((x.2.1 == 0) != direct) then false else hopsGo direct l r (i + 1)
def hopsOk (l : List Hop) (direct : Bool) : Bool := hopsGo direct l l 0
def plain (x : Route) (inner path next : Bool) : Bool :=
  (inner || x.inner == 0) && (path || (x.pref == 0 && (x.path.length : Int) == 0 && x.src == 0)) && (next || x.next == 0)

def F36 := pureT [tI] fun x => .val (.int .u32 (mask x.1))
def F37 := pureT [tPrefix] fun x => .val (.bool (pvalid x.1))
def F17 := pureT [tPrefix, tU] fun x => .val (.bool (contains x.1 x.2.1))
def F22 := pureT [tPrefix, tPrefix] fun x => .val (.int .i64 (cmpP x.1 x.2.1))
def F38 := pureT [tI, tI, tI] fun x => .val (.bool (within x.1 x.2.1 x.2.2.1))
def F67 := pureT [tHop, tHop] fun x => .val (.bool (lessHop x.1 x.2.1))
def F40 : Unit → ElS [.sl tHop, .bool] → Prop × Unit × RV := fun _ x => (x.1.length ≤ 1048576, (), .p (.val (.bool (hopsOk x.1 x.2.1))))
def F39 := pureT [tRoute, .bool, .bool, .bool] fun x => .val (.bool (plain x.1 x.2.1 x.2.2.1 x.2.2.2.1))

def S4 : SW := S3.add 15 (specT [.sl tRoute, tPrefix, tU] F15)
def S5 : SW := S4.add 36 (specT [tI] F36)
def S6 : SW := (((S5.add 37 (specT [tPrefix] F37)).add 17 (specT [tPrefix, tU] F17)).add 22 (specT [tPrefix, tPrefix] F22)).add 38 (specT [tI, tI, tI] F38)
def S7 : SW := (S6.add 67 (specT [tHop, tHop] F67)).add 39 (specT [tRoute, .bool, .bool, .bool] F39)

/-- The number whose first k bits are 1. -/
def maskI (k : Int) : Int := 4294967296 - 2 ^ (32 - k).toNat

structure J36_3 (n : Int) (s : Int × Int) : Prop where
  lo : 0 ≤ s.2
  hi : s.2 ≤ 32
  eq : s.1 = maskI (if clamp n < s.2 then clamp n else s.2)
def M36_3 (_ : Int) (s : Int × Int) : Nat := (32 - s.2).toNat
def hd36_3 (a1 : Int) : Head Unit where
  σ := Int × Int
  get := fun e => (both (tI? (e.get 3)) (tI? (e.get 4)))
  env := fun s => mkEnv 19 () [(0, T.p (V.val (Value.int IntKind.i64 a1))),
    (3, .p (.val (.int IntKind.u32 s.1))),
    (4, .p (.val (.int IntKind.i64 s.2)))]
    []
  inv := J36_3 a1
  mes := M36_3 a1
def A36 : Unit → ElS [tI] → Nat → Option (Head Unit) := fun _ x k => match k with
  | 3 => some (hd36_3 x.1)
  | _ => none
end Go.Ve

/-
  law18: what the functions of the reference compute: valid routes, tables.
-/
import Derived.Test.YtggmpbaiijodiaaGreatNvL4
namespace Go.Ve
open Go Go.Proofs

def Rok (x : Route) : Prop := x.path.length ≤ 1048576 ∧ x.hops.length ≤ 1048576

def validStatic (x : Route) : Bool :=
  if x.cls != 0 || x.metric != 0 || !within x.admin 1 255 || !plain x false false true then false
  else if x.next != 0 then (x.hops.length : Int) == 0 && !x.discard
  else if x.discard then (x.hops.length : Int) == 0
  else (x.hops.length : Int) == 1 && hopsOk x.hops true

def validLinkState (x : Route) : Bool :=
  if !within x.cls 1 4 || !within x.admin 1 255 || !within x.metric 0 1073741824 || !plain x true false false then false
  else if !within x.inner 0 1073741824 || (x.cls != 4 && x.inner != 0) then false
  else if x.discard then x.cls == 1 && x.metric == 0 && x.tag == 0 && (x.hops.length : Int) == 0
  else decide ((x.hops.length : Int) > 0) && hopsOk x.hops false

def validDistance (x : Route) : Bool :=
  if !within x.admin 1 255 || !within x.metric 1 15 || !plain x false false false || x.discard then false
  else if x.cls == 1 then x.metric == 1 && x.tag == 0 && (x.hops.length : Int) == 1 && hopsOk x.hops true
  else if x.cls == 2 then (x.hops.length : Int) == 0
  else if x.cls == 3 then decide ((x.hops.length : Int) > 0) && hopsOk x.hops false
  else false

def validPath (x : Route) : Bool :=
  if !within x.admin 1 255 || !within x.metric 0 16777215 || !within x.pref 0 1000000 || !plain x false true false then false
  else if x.cls == 1 || x.cls == 2 then
    (x.path.length : Int) == 0 && x.src == 0 && (x.hops.length : Int) == 0 && x.discard == (x.cls == 2)
  else if x.cls == 3 || x.cls == 4 then
    (x.cls == 4 || decide ((x.path.length : Int) > 0)) && x.src != 0 && (x.hops.length : Int) == 1 && hopsOk x.hops false &&
      ((x.hops[0]?).map (fun h => h.2.1 == x.src)).getD true && !x.discard
  else false

def pathOk (l : List Int) : Bool := l.all (fun n => within n 1 65535)

def validR (x : Route) : Bool :=
  if !pvalid x.pre || !within x.tag 0 65535 || decide ((x.path.length : Int) > 64) then false
  else if !pathOk x.path then false
  else if x.proto == 1 then x.cls == 0 && x.admin == 0 && x.metric == 0 && x.tag == 0 && plain x false false false && !x.discard && (x.hops.length : Int) == 1 && hopsOk x.hops true
  else if x.proto == 2 then validStatic x
  else if x.proto == 3 then validLinkState x
  else if x.proto == 4 then validDistance x
  else if x.proto == 5 then validPath x
  else false

def tableGo (proto : Int) (l : List Route) : List Route → Int → Bool
  | [], _ => true
  | x :: r, i => if !validR x || (proto != 0 && x.proto != proto) || (decide (i > 0) && decide (cmpP ((l[(i - 1).toNat]?).getD x).pre x.pre ≥ 0)) then false else tableGo proto l r (i + 1)
def tableOk (l : List Route) (proto : Int) : Bool := tableGo proto l l 0

structure J40_2 (l : List Hop) (d : Bool) (s : Int) : Prop where
  lo : 0 ≤ s
  hi : s ≤ l.length
  eq : hopsGo d l (l.drop s.toNat) s = hopsOk l d
def M40_2 (l : List Hop) (_ : Bool) (s : Int) : Nat := (l.length - s).toNat
def hd40_2 (a1 : List (Ty.El tHop)) (a2 : Bool) : Head Unit where
  σ := Int
  get := fun e => (tI? (e.get 5))
  env := fun s => mkEnv 45 () [(0, T.p (V.tl tHop a1)),
    (1, T.p (V.val (Value.bool a2))),
    (5, .p (.val (.int IntKind.i64 s)))]
    []
  inv := J40_2 a1 a2
  mes := M40_2 a1 a2
def A40 : Unit → ElS [.sl tHop, .bool] → Nat → Option (Head Unit) := fun _ x k => match k with
  | 2 => some (hd40_2 x.1 x.2.1)
  | _ => none

abbrev boolR (F : Route → Bool) : Unit → ElS [tRoute] → Prop × Unit × RV := fun _ x => (Rok x.1, (), .p (.val (.bool (F x.1))))
def F41 := boolR validStatic
def F42 := boolR validLinkState
def F43 := boolR validDistance
def F44 := boolR validPath
def F19 := boolR validR
def F8 : Unit → ElS [.sl tRoute, tI] → Prop × Unit × RV := fun _ x => (x.1.length ≤ 1048576 ∧ (∀ y ∈ x.1, Rok y), (), .p (.val (.bool (tableOk x.1 x.2.1))))

def S8 : SW := S7.add 40 (specT [.sl tHop, .bool] F40)
def S9 : SW := (((S8.add 41 (specT [tRoute] F41)).add 42 (specT [tRoute] F42)).add 43 (specT [tRoute] F43)).add 44 (specT [tRoute] F44)
def S10 : SW := S9.add 19 (specT [tRoute] F19)
end Go.Ve

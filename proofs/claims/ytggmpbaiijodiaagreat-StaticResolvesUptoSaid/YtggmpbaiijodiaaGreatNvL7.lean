/-
  law18: heads and contracts of Valid, Table, the reference's Resolves, the law StaticResolves.
-/
import Derived.Test.YtggmpbaiijodiaaGreatNvL5
namespace Go.Ve
open Go Go.Proofs

structure J19_4 (x : Route) (s : Int) : Prop where
  lo : 0 ≤ s
  hi : s ≤ x.path.length
  eq : pathOk (x.path.drop s.toNat) = pathOk x.path
def M19_4 (x : Route) (s : Int) : Nat := (x.path.length - s).toNat
def hd19_4 (a1 : Route) : Head Unit where
  σ := Int
  get := fun e => (tI? (e.get 3))
  env := fun s => mkEnv 92 () [(1, T.lp 1 0),
    (3, .p (.val (.int IntKind.i64 s)))]
    [(1, [T.p (V.val (Value.int IntKind.u32 a1.fst.fst)), T.p (V.val (Value.int IntKind.i64 a1.fst.snd.fst)), T.p (V.val (Value.int IntKind.i64 a1.snd.fst)), T.p (V.val (Value.int IntKind.i64 a1.snd.snd.fst)), T.p (V.val (Value.int IntKind.i64 a1.snd.snd.snd.fst)), T.p (V.val (Value.int IntKind.i64 a1.snd.snd.snd.snd.fst)), T.p (V.val (Value.int IntKind.i64 a1.snd.snd.snd.snd.snd.fst)), T.p (V.val (Value.int IntKind.i64 a1.snd.snd.snd.snd.snd.snd.fst)), T.p (V.val (Value.int IntKind.i64 a1.snd.snd.snd.snd.snd.snd.snd.fst)), T.p (V.tl tI a1.snd.snd.snd.snd.snd.snd.snd.snd.fst), T.p (V.val (Value.int IntKind.u32 a1.snd.snd.snd.snd.snd.snd.snd.snd.snd.fst)), T.p (V.val (Value.int IntKind.u32 a1.snd.snd.snd.snd.snd.snd.snd.snd.snd.snd.fst)), T.p (V.tl tHop a1.snd.snd.snd.snd.snd.snd.snd.snd.snd.snd.snd.fst), T.p (V.val (Value.bool a1.snd.snd.snd.snd.snd.snd.snd.snd.snd.snd.snd.snd.fst))])]
  inv := J19_4 a1
  mes := M19_4 a1
def A19 : Unit → ElS [tRoute] → Nat → Option (Head Unit) := fun _ x k => match k with
  | 4 => some (hd19_4 x.1)
  | _ => none

structure J8_2 (l : List Route) (p : Int) (s : Int) : Prop where
  lo : 0 ≤ s
  hi : s ≤ l.length
  eq : tableGo p l (l.drop s.toNat) s = tableOk l p
def M8_2 (l : List Route) (_ : Int) (s : Int) : Nat := (l.length - s).toNat
def hd8_2 (a1 : List (Ty.El tRoute)) (a2 : Int) : Head Unit where
  σ := Int
  get := fun e => (tI? (e.get 5))
  env := fun s => mkEnv 50 () [(0, T.p (V.tl tRoute a1)),
    (1, T.p (V.val (Value.int IntKind.i64 a2))),
    (5, .p (.val (.int IntKind.i64 s)))]
    []
  inv := J8_2 a1 a2
  mes := M8_2 a1 a2
def A8 : Unit → ElS [.sl tRoute, tI] → Nat → Option (Head Unit) := fun _ x k => match k with
  | 2 => some (hd8_2 x.1 x.2.1)
  | _ => none

def M16_3 (t : List Route) (_ : Prefix) (_ : Int) (s : Int × Int) : Nat := (t.length - s.2).toNat
def hd16_3 (a1 : List (Ty.El tRoute)) (a2 : Prefix) (a3 : Int) : Head Unit where
  σ := Int × Int
  get := fun e => (both (tI? (e.get 7)) (tI? (e.get 8)))
  env := fun s => mkEnv 52 () [(0, T.p (V.tl tRoute a1)),
    (2, T.p (V.val (Value.int IntKind.u32 a3))),
    (4, T.lp 4 0),
    (7, .p (.val (.int IntKind.i64 s.1))),
    (8, .p (.val (.int IntKind.i64 s.2)))]
    [(4, [T.p (V.val (Value.int IntKind.u32 a2.fst)), T.p (V.val (Value.int IntKind.i64 a2.snd.fst))])]
  inv := J15 a1 a2 a3
  mes := M16_3 a1 a2 a3
def A16 : Unit → ElS [.sl tRoute, tPrefix, tU] → Nat → Option (Head Unit) := fun _ x k => match k with
  | 3 => some (hd16_3 x.1 x.2.1 x.2.2.1)
  | _ => none

def F14 : Unit → ElS [] → Prop × Unit × RV := fun _ _ => (True, (), .p (.val (.bool true)))
def S11 : SW := S10.add 8 (specT [.sl tRoute, tI] F8)
def S12 : SW := (S11.add 16 (specT [.sl tRoute, tPrefix, tU] F15)).add 14 (specT [] F14)
def F4 : Unit → ElS [.sl tRoute, tPrefix, tU] → Prop × Unit × RV := fun _ x => (x.1.length ≤ 1048576 ∧ (∀ y ∈ x.1, Rok y), (), .p (.val (.bool true)))
end Go.Ve

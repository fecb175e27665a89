/-
  Sorting by the kit's contract: the contract over typed data.
  Functions out of code: merging of routes, tables of distance-vector routing.
  Functions out of code: redistribution, the routes that a router originates, tables of path-vector routing.
  law21, law23: validity and sameness of routes, hazards (printed by xgen.py).
  Plain laws: equal states.
  Plain laws: comparisons put together; the order of hops; preference of routes of one protocol.
  Plain laws: what is valid in the program is valid in the document, and the other way.
  Plain laws: valid routes: the program's check is the document's.
  Plain laws: valid routes by protocol.
  Plain laws: valid routes: the program's check and the document's are one.
  Plain laws: valid routes and tables: the program's check and the document's are one.
-/
import Derived.Shelf.SlSortCmp.WholeK
import Derived.Test.YthhmapljcdohnaaGreatCs14
import Derived.Test.YthhmapljcdohnaaGreatCs12
import Derived.Test.YthhmapljcdohnaaGreatCs13
set_option linter.unusedVariables false
set_option linter.unusedSimpArgs false


namespace Go.Ve
open Go
set_option maxRecDepth 1000000
instance : Inhabited (Ty.El tHop) := ⟨((0 : Int), (0 : Int), ())⟩
/-- The order of hops, as a comparison. -/
def hopC (a b : Ty.El tHop) : Int := cmpI a.1 a.2.1 b.1 b.2.1
noncomputable def slices_Concat_Route : ElS [(.sl (.sl tRoute))] → Option (RTy.El (.p (.sl tRoute))) := fun x => if (2 * x.1.flatten.length + 1024) * 136 ≤ 140737488355328 ∧ x.1.length ≤ 1048576 then some x.1.flatten else none
noncomputable def slices_Clone_Route : ElS [(.sl tRoute)] → Option (RTy.El (.o tRoute)) := fun x => match x with | (a1, ()) => Option.bind (app (136 : Nat) [] a1) fun (z : List (Ty.El tRoute)) => some z
noncomputable def cmp_Or_int : ElS [(.sl tI)] → Option (RTy.El (.p tI)) := fun x => match x with | (a1, ()) => cut2 (loopX (fun (s4 : Int) => bif decide (s4 < (↑(List.length a1) : Int)) then Option.bind (idx a1 s4) fun (y5 : Int) => bif y5 != (0 : Int) then some (Sum.inr (Sum.inr y5)) else some (Sum.inl (IntKind.wrap IntKind.i64 (s4 + (1 : Int)))) else some (Sum.inr (Sum.inl ()))) (0 : Int)) fun (s6 : Unit) => some (0 : Int)
noncomputable def route_compareHops : ElS [tHop, tHop] → Option (RTy.El (.p tI)) := fun x => match x with | (a1, a2, ()) => Option.bind (cmp_Compare_int (a1.fst, a2.fst, ())) fun (y3 : Int) => Option.bind (cmp_Compare_uint32 (a1.snd.fst, a2.snd.fst, ())) fun (y4 : Int) => Option.bind (cmp_Or_int ([y3, y4], ())) fun (y5 : Int) => some y5
end Go.Ve

namespace Go.Ve
open Go
set_option maxRecDepth 1000000
noncomputable def ref24_Valid : ElS [tView, (.sl tTables)] → Option (RTy.El (.p .bool)) := fun x => match x with | (a1, a2, ()) => bif (↑(List.length a2) : Int) != (↑(List.length a1.fst.fst) : Int) then some false else cut2 (loopX (fun (s28 : Int) => bif decide (s28 < (↑(List.length a2) : Int)) then Option.bind (Option.bind (idx a2 s28) fun (y29 : Ty.El tTables) => Option.bind (ref15_Table (y29.fst, (3 : Int), ())) fun (y30 : Bool) => bif !y30 then some true else Option.bind (idx a2 s28) fun (y31 : Ty.El tTables) => Option.bind (ref15_Table (y31.snd.fst, (4 : Int), ())) fun (y32 : Bool) => bif !y32 then some true else Option.bind (idx a2 s28) fun (y33 : Ty.El tTables) => Option.bind (ref15_Table (y33.snd.snd.fst, (5 : Int), ())) fun (y34 : Bool) => bif !y34 then some true else Option.bind (idx a2 s28) fun (y35 : Ty.El tTables) => Option.bind (ref15_Table (y35.snd.snd.snd.fst, (0 : Int), ())) fun (y36 : Bool) => some !y36) fun (s37 : Bool) => bif s37 then some (Sum.inr (Sum.inr false)) else some (Sum.inl (IntKind.wrap IntKind.i64 (s28 + (1 : Int)))) else some (Sum.inr (Sum.inl ()))) (0 : Int)) fun (s38 : Unit) => some true
end Go.Ve

namespace Go.Ve
open Go
set_option maxRecDepth 1000000
set_option maxHeartbeats 0
noncomputable def law21_sane : ElS [] → Option (RTy.El (.p .bool)) := fun _ => some true
noncomputable def addr_Valid : ElS [tPrefix] → Option (RTy.El (.p .bool)) := fun x => match x with
  | (a1, ()) =>
    Option.bind
      (bif decide (a1.snd.fst ≥ (0 : Int)) then
        bif decide (a1.snd.fst ≤ (32 : Int)) then
          Option.bind (addr_Mask (a1.snd.fst, ())) fun (y2 : Int) =>
            some (IntKind.wrap IntKind.u32 (↑(BitVec.toNat (BitVec.ofInt (IntKind.bits IntKind.u32) a1.fst &&& ~~~BitVec.ofInt (IntKind.bits IntKind.u32) y2)) : Int) == (0 : Int))
        else some false
      else some false)
      fun (s3 : Bool) => some s3
noncomputable def route_common : ElS [tRoute] → Option (RTy.El (.p .bool)) := fun x => match x with
  | (a1, ()) =>
    Option.bind
      (Option.bind (addr_Valid (a1.fst, ())) fun (y1 : Bool) =>
        bif !y1 then some true
        else
          bif decide (a1.snd.snd.snd.snd.snd.snd.fst < (0 : Int)) then some true
          else
            bif decide (a1.snd.snd.snd.snd.snd.snd.fst > (65535 : Int)) then some true else some (decide ((↑(List.length a1.snd.snd.snd.snd.snd.snd.snd.snd.fst) : Int) > (64 : Int))))
      fun (s2 : Bool) =>
      bif s2 then some false
      else
        cut2
          (loopX
            (fun (s17 : Int) =>
              bif decide (s17 < (↑(List.length a1.snd.snd.snd.snd.snd.snd.snd.snd.snd.snd.snd.fst) : Int)) then
                Option.bind (idx a1.snd.snd.snd.snd.snd.snd.snd.snd.snd.snd.snd.fst s17) fun (y18 : Ty.El tHop) =>
                  Option.bind
                    (bif decide (y18.fst < (0 : Int)) then some true
                    else
                      bif decide (s17 > (0 : Int)) then
                        Option.bind (idx a1.snd.snd.snd.snd.snd.snd.snd.snd.snd.snd.snd.fst (IntKind.wrap IntKind.i64 (s17 - (1 : Int)))) fun (y19 : Ty.El tHop) =>
                          Option.bind (route_compareHops (y19, y18, ())) fun (y20 : Int) => some (decide (y20 ≥ (0 : Int)))
                      else some false)
                    fun (s21 : Bool) => bif s21 then some (Sum.inr (Sum.inr false)) else some (Sum.inl (IntKind.wrap IntKind.i64 (s17 + (1 : Int))))
              else some (Sum.inr (Sum.inl ())))
            (0 : Int))
          fun (s22 : Unit) =>
          cut2
            (loopX
              (fun (s29 : Int) =>
                bif decide (s29 < (↑(List.length a1.snd.snd.snd.snd.snd.snd.snd.snd.fst) : Int)) then
                  Option.bind (idx a1.snd.snd.snd.snd.snd.snd.snd.snd.fst s29) fun (y30 : Int) =>
                    Option.bind (bif decide (y30 < (1 : Int)) then some true else some (decide (y30 > (65535 : Int)))) fun (s31 : Bool) =>
                      bif s31 then some (Sum.inr (Sum.inr false)) else some (Sum.inl (IntKind.wrap IntKind.i64 (s29 + (1 : Int))))
                else some (Sum.inr (Sum.inl ())))
              (0 : Int))
            fun (s32 : Unit) => some true
noncomputable def route_direct : ElS [(.sl tHop)] → Option (RTy.El (.p .bool)) := fun x => match x with
  | (a1, ()) =>
    Option.bind (bif (↑(List.length a1) : Int) == (1 : Int) then Option.bind (idx a1 (0 : Int)) fun (y1 : Ty.El tHop) => some (y1.snd.fst == (0 : Int)) else some false)
      fun (s2 : Bool) => some s2
noncomputable def route_bare : ElS [tRoute] → Option (RTy.El (.p .bool)) := fun x => match x with
  | (a1, ()) =>
    Option.bind
      (bif a1.snd.snd.snd.snd.fst == (0 : Int) then
        bif a1.snd.snd.snd.snd.snd.fst == (0 : Int) then
          bif a1.snd.snd.snd.snd.snd.snd.snd.fst == (0 : Int) then
            bif a1.snd.snd.snd.snd.snd.snd.snd.snd.snd.fst == (0 : Int) then
              bif a1.snd.snd.snd.snd.snd.snd.snd.snd.snd.snd.fst == (0 : Int) then
                bif (↑(List.length a1.snd.snd.snd.snd.snd.snd.snd.snd.fst) : Int) == (0 : Int) then
                  bif (↑(List.length a1.snd.snd.snd.snd.snd.snd.snd.snd.snd.snd.snd.fst) : Int) == (0 : Int) then some !a1.snd.snd.snd.snd.snd.snd.snd.snd.snd.snd.snd.snd.fst
                  else some false
                else some false
              else some false
            else some false
          else some false
        else some false
      else some false)
      fun (s0 : Bool) => some s0
noncomputable def route_validStatic : ElS [tRoute] → Option (RTy.El (.p .bool)) := fun x => match x with
  | (a1, ()) =>
    Option.bind (bif a1.snd.snd.snd.snd.snd.snd.snd.snd.snd.snd.fst != (0 : Int) then some (IntKind.wrap IntKind.i64 ((0 : Int) + (1 : Int))) else some (0 : Int)) fun (s0 : Int) =>
      Option.bind
        (Option.bind (route_direct (a1.snd.snd.snd.snd.snd.snd.snd.snd.snd.snd.snd.fst, ())) fun (y2 : Bool) =>
          bif y2 then
            some
              (IntKind.wrap IntKind.i64 (s0 + (1 : Int)), a1.fst, a1.snd.fst, a1.snd.snd.fst, a1.snd.snd.snd.fst, a1.snd.snd.snd.snd.fst, a1.snd.snd.snd.snd.snd.fst,
                a1.snd.snd.snd.snd.snd.snd.fst, a1.snd.snd.snd.snd.snd.snd.snd.fst, a1.snd.snd.snd.snd.snd.snd.snd.snd.fst, a1.snd.snd.snd.snd.snd.snd.snd.snd.snd.fst,
                a1.snd.snd.snd.snd.snd.snd.snd.snd.snd.snd.fst, [], a1.snd.snd.snd.snd.snd.snd.snd.snd.snd.snd.snd.snd)
          else some (s0, a1))
        fun (s3 : Int × Ty.El tRoute) =>
        Option.bind (bif s3.snd.snd.snd.snd.snd.snd.snd.snd.snd.snd.snd.snd.snd.fst then some (IntKind.wrap IntKind.i64 (s3.fst + (1 : Int))) else some s3.fst) fun (s4 : Int) =>
          Option.bind
            (bif s3.snd.snd.snd.fst == (0 : Int) then
              bif s4 == (1 : Int) then
                Option.bind
                  (route_bare
                    ((s3.snd.fst, s3.snd.snd.fst, s3.snd.snd.snd.fst, s3.snd.snd.snd.snd.fst, s3.snd.snd.snd.snd.snd.fst, s3.snd.snd.snd.snd.snd.snd.fst,
                        s3.snd.snd.snd.snd.snd.snd.snd.fst, s3.snd.snd.snd.snd.snd.snd.snd.snd.fst, s3.snd.snd.snd.snd.snd.snd.snd.snd.snd.fst,
                        s3.snd.snd.snd.snd.snd.snd.snd.snd.snd.snd.fst, (0 : Int), s3.snd.snd.snd.snd.snd.snd.snd.snd.snd.snd.snd.snd.fst, false, ()),
                      ()))
                  fun (y6 : Bool) => some y6
              else some false
            else some false)
            fun (s7 : Bool) => some s7
noncomputable def route_within : ElS [tI, tI, tI] → Option (RTy.El (.p .bool)) := fun x => match x with
  | (a1, a2, a3, ()) =>
    Option.bind (bif decide (a2 ≤ a1) then some (decide (a1 ≤ a3)) else some false) fun (s0 : Bool) => some s0
noncomputable def route_indirect : ElS [(.sl tHop)] → Option (RTy.El (.p .bool)) := fun x => match x with
  | (a1, ()) =>
    cut2
      (loopX
        (fun (s4 : Int) =>
          bif decide (s4 < (↑(List.length a1) : Int)) then
            Option.bind (idx a1 s4) fun (y5 : Ty.El tHop) =>
              bif y5.snd.fst == (0 : Int) then some (Sum.inr (Sum.inr false)) else some (Sum.inl (IntKind.wrap IntKind.i64 (s4 + (1 : Int))))
          else some (Sum.inr (Sum.inl ())))
        (0 : Int))
      fun (s6 : Unit) => some (decide ((↑(List.length a1) : Int) > (0 : Int)))
noncomputable def route_validLinkState : ElS [tRoute] → Option (RTy.El (.p .bool)) := fun x => match x with
  | (a1, ()) =>
    bif a1.snd.snd.snd.snd.snd.snd.snd.snd.snd.snd.snd.snd.fst then
      Option.bind
        (bif a1.snd.snd.fst == (1 : Int) then
          bif a1.snd.snd.snd.snd.snd.snd.fst == (0 : Int) then
            Option.bind
              (route_bare
                ((a1.fst, a1.snd.fst, a1.snd.snd.fst, a1.snd.snd.snd.fst, a1.snd.snd.snd.snd.fst, a1.snd.snd.snd.snd.snd.fst, a1.snd.snd.snd.snd.snd.snd.fst,
                    a1.snd.snd.snd.snd.snd.snd.snd.fst, a1.snd.snd.snd.snd.snd.snd.snd.snd.fst, a1.snd.snd.snd.snd.snd.snd.snd.snd.snd.fst,
                    a1.snd.snd.snd.snd.snd.snd.snd.snd.snd.snd.fst, a1.snd.snd.snd.snd.snd.snd.snd.snd.snd.snd.snd.fst, false, ()),
                  ()))
              fun (y1 : Bool) => some y1
          else some false
        else some false)
        fun (s2 : Bool) => some s2
    else
      Option.bind
        (Option.bind (route_within (a1.snd.snd.fst, (1 : Int), (4 : Int), ())) fun (y6 : Bool) =>
          bif !y6 then some true
          else
            Option.bind (route_within (a1.snd.snd.snd.snd.fst, (0 : Int), (1073741824 : Int), ())) fun (y7 : Bool) =>
              bif !y7 then some true else Option.bind (route_indirect (a1.snd.snd.snd.snd.snd.snd.snd.snd.snd.snd.snd.fst, ())) fun (y8 : Bool) => some !y8)
        fun (s9 : Bool) =>
        bif s9 then some false
        else
          Option.bind
            (Option.bind
              (bif a1.snd.snd.fst == (4 : Int) then Option.bind (route_within (a1.snd.snd.snd.snd.snd.fst, (0 : Int), (1073741824 : Int), ())) fun (y13 : Bool) => some y13
              else some false)
              fun (s14 : Bool) =>
              bif s14 then
                some
                  (a1.fst, a1.snd.fst, a1.snd.snd.fst, a1.snd.snd.snd.fst, (0 : Int), (0 : Int), a1.snd.snd.snd.snd.snd.snd.fst, a1.snd.snd.snd.snd.snd.snd.snd.fst,
                    a1.snd.snd.snd.snd.snd.snd.snd.snd.fst, a1.snd.snd.snd.snd.snd.snd.snd.snd.snd.fst, a1.snd.snd.snd.snd.snd.snd.snd.snd.snd.snd.fst, [],
                    a1.snd.snd.snd.snd.snd.snd.snd.snd.snd.snd.snd.snd)
              else
                some
                  (a1.fst, a1.snd.fst, a1.snd.snd.fst, a1.snd.snd.snd.fst, (0 : Int), a1.snd.snd.snd.snd.snd.fst, a1.snd.snd.snd.snd.snd.snd.fst, a1.snd.snd.snd.snd.snd.snd.snd.fst,
                    a1.snd.snd.snd.snd.snd.snd.snd.snd.fst, a1.snd.snd.snd.snd.snd.snd.snd.snd.snd.fst, a1.snd.snd.snd.snd.snd.snd.snd.snd.snd.snd.fst, [],
                    a1.snd.snd.snd.snd.snd.snd.snd.snd.snd.snd.snd.snd))
            fun (s15 : Ty.El tRoute) => Option.bind (route_bare (s15, ())) fun (y16 : Bool) => some y16
noncomputable def route_validDistance : ElS [tRoute] → Option (RTy.El (.p .bool)) := fun x => match x with
  | (a1, ()) =>
    Option.bind (route_within (a1.snd.snd.snd.snd.fst, (1 : Int), (15 : Int), ())) fun (y0 : Bool) =>
      Option.bind
        (bif a1.snd.snd.fst == (1 : Int) then
          Option.bind
            (bif a1.snd.snd.snd.snd.fst == (1 : Int) then
              bif a1.snd.snd.snd.snd.snd.snd.fst == (0 : Int) then Option.bind (route_direct (a1.snd.snd.snd.snd.snd.snd.snd.snd.snd.snd.snd.fst, ())) fun (y7 : Bool) => some y7
              else some false
            else some false)
            fun (s8 : Bool) =>
            some
              (s8, a1.fst, a1.snd.fst, a1.snd.snd.fst, a1.snd.snd.snd.fst, a1.snd.snd.snd.snd.fst, a1.snd.snd.snd.snd.snd.fst, a1.snd.snd.snd.snd.snd.snd.fst,
                a1.snd.snd.snd.snd.snd.snd.snd.fst, a1.snd.snd.snd.snd.snd.snd.snd.snd.fst, a1.snd.snd.snd.snd.snd.snd.snd.snd.snd.fst, a1.snd.snd.snd.snd.snd.snd.snd.snd.snd.snd.fst,
                [], a1.snd.snd.snd.snd.snd.snd.snd.snd.snd.snd.snd.snd)
        else
          bif a1.snd.snd.fst == (2 : Int) then some (y0, a1)
          else
            bif a1.snd.snd.fst == (3 : Int) then
              Option.bind (bif y0 then Option.bind (route_indirect (a1.snd.snd.snd.snd.snd.snd.snd.snd.snd.snd.snd.fst, ())) fun (y9 : Bool) => some y9 else some false)
                fun (s10 : Bool) =>
                some
                  (s10, a1.fst, a1.snd.fst, a1.snd.snd.fst, a1.snd.snd.snd.fst, a1.snd.snd.snd.snd.fst, a1.snd.snd.snd.snd.snd.fst, a1.snd.snd.snd.snd.snd.snd.fst,
                    a1.snd.snd.snd.snd.snd.snd.snd.fst, a1.snd.snd.snd.snd.snd.snd.snd.snd.fst, a1.snd.snd.snd.snd.snd.snd.snd.snd.snd.fst,
                    a1.snd.snd.snd.snd.snd.snd.snd.snd.snd.snd.fst, [], a1.snd.snd.snd.snd.snd.snd.snd.snd.snd.snd.snd.snd)
            else some (false, a1))
        fun (s11 : Bool × Ty.El tRoute) =>
        Option.bind
          (bif s11.fst then
            Option.bind (route_bare ((s11.snd.fst, s11.snd.snd.fst, s11.snd.snd.snd.fst, s11.snd.snd.snd.snd.fst, (0 : Int), s11.snd.snd.snd.snd.snd.snd), ())) fun (y13 : Bool) =>
              some y13
          else some false)
          fun (s14 : Bool) => some s14
noncomputable def route_validPathVector : ElS [tRoute] → Option (RTy.El (.p .bool)) := fun x => match x with
  | (a1, ()) =>
    Option.bind
      (Option.bind (route_within (a1.snd.snd.snd.snd.fst, (0 : Int), (16777215 : Int), ())) fun (y2 : Bool) =>
        bif y2 then Option.bind (route_within (a1.snd.snd.snd.snd.snd.snd.snd.fst, (0 : Int), (1000000 : Int), ())) fun (y3 : Bool) => some y3 else some false)
      fun (s4 : Bool) =>
      Option.bind
        (bif a1.snd.snd.fst == (1 : Int) then
          some
            (s4, a1.fst, a1.snd.fst, a1.snd.snd.fst, a1.snd.snd.snd.fst, (0 : Int), a1.snd.snd.snd.snd.snd.fst, a1.snd.snd.snd.snd.snd.snd.fst, (0 : Int),
              a1.snd.snd.snd.snd.snd.snd.snd.snd)
        else
          bif a1.snd.snd.fst == (2 : Int) then
            Option.bind (bif s4 then some a1.snd.snd.snd.snd.snd.snd.snd.snd.snd.snd.snd.snd.fst else some false) fun (s12 : Bool) =>
              some
                (s12, a1.fst, a1.snd.fst, a1.snd.snd.fst, a1.snd.snd.snd.fst, (0 : Int), a1.snd.snd.snd.snd.snd.fst, a1.snd.snd.snd.snd.snd.snd.fst, (0 : Int),
                  a1.snd.snd.snd.snd.snd.snd.snd.snd.fst, a1.snd.snd.snd.snd.snd.snd.snd.snd.snd.fst, a1.snd.snd.snd.snd.snd.snd.snd.snd.snd.snd.fst,
                  a1.snd.snd.snd.snd.snd.snd.snd.snd.snd.snd.snd.fst, false, ())
          else
            Option.bind (bif a1.snd.snd.fst == (3 : Int) then some (a1.snd.snd.fst == (3 : Int)) else some (a1.snd.snd.fst == (4 : Int))) fun (s13 : Bool) =>
              bif s13 then
                Option.bind
                  (bif s4 then
                    bif a1.snd.snd.snd.snd.snd.snd.snd.snd.snd.fst != (0 : Int) then
                      bif (↑(List.length a1.snd.snd.snd.snd.snd.snd.snd.snd.snd.snd.snd.fst) : Int) == (1 : Int) then
                        Option.bind (idx a1.snd.snd.snd.snd.snd.snd.snd.snd.snd.snd.snd.fst (0 : Int)) fun (y14 : Ty.El tHop) =>
                          some (y14.snd.fst == a1.snd.snd.snd.snd.snd.snd.snd.snd.snd.fst)
                      else some false
                    else some false
                  else some false)
                  fun (s15 : Bool) =>
                  Option.bind
                    (bif s15 then bif a1.snd.snd.fst == (4 : Int) then some true else some (decide ((↑(List.length a1.snd.snd.snd.snd.snd.snd.snd.snd.fst) : Int) > (0 : Int)))
                    else some false)
                    fun (s16 : Bool) =>
                    some
                      (s16, a1.fst, a1.snd.fst, a1.snd.snd.fst, a1.snd.snd.snd.fst, (0 : Int), a1.snd.snd.snd.snd.snd.fst, a1.snd.snd.snd.snd.snd.snd.fst, (0 : Int), [], (0 : Int),
                        a1.snd.snd.snd.snd.snd.snd.snd.snd.snd.snd.fst, [], a1.snd.snd.snd.snd.snd.snd.snd.snd.snd.snd.snd.snd)
              else
                some
                  (false, a1.fst, a1.snd.fst, a1.snd.snd.fst, a1.snd.snd.snd.fst, (0 : Int), a1.snd.snd.snd.snd.snd.fst, a1.snd.snd.snd.snd.snd.snd.fst, (0 : Int),
                    a1.snd.snd.snd.snd.snd.snd.snd.snd))
        fun (s17 : Bool × Ty.El tRoute) =>
        Option.bind (bif s17.fst then Option.bind (route_bare (s17.snd, ())) fun (y19 : Bool) => some y19 else some false) fun (s20 : Bool) => some s20
noncomputable def route_Valid : ElS [tRoute] → Option (RTy.El (.p .bool)) := fun x => match x with
  | (a1, ()) =>
    Option.bind (route_common (a1, ())) fun (y0 : Bool) =>
      bif !y0 then some false
      else
        bif a1.snd.fst == (1 : Int) then
          Option.bind
            (bif a1.snd.snd.fst == (0 : Int) then
              bif a1.snd.snd.snd.fst == (0 : Int) then
                bif a1.snd.snd.snd.snd.snd.snd.fst == (0 : Int) then Option.bind (route_direct (a1.snd.snd.snd.snd.snd.snd.snd.snd.snd.snd.snd.fst, ())) fun (y2 : Bool) => some y2
                else some false
              else some false
            else some false)
            fun (s3 : Bool) =>
            Option.bind
              (bif s3 then
                Option.bind
                  (route_bare
                    ((a1.fst, a1.snd.fst, a1.snd.snd.fst, a1.snd.snd.snd.fst, a1.snd.snd.snd.snd.fst, a1.snd.snd.snd.snd.snd.fst, a1.snd.snd.snd.snd.snd.snd.fst,
                        a1.snd.snd.snd.snd.snd.snd.snd.fst, a1.snd.snd.snd.snd.snd.snd.snd.snd.fst, a1.snd.snd.snd.snd.snd.snd.snd.snd.snd.fst,
                        a1.snd.snd.snd.snd.snd.snd.snd.snd.snd.snd.fst, [], a1.snd.snd.snd.snd.snd.snd.snd.snd.snd.snd.snd.snd),
                      ()))
                  fun (y5 : Bool) => some y5
              else some false)
              fun (s6 : Bool) => some s6
        else
          Option.bind (bif decide (a1.snd.snd.snd.fst < (1 : Int)) then some true else some (decide (a1.snd.snd.snd.fst > (255 : Int)))) fun (s7 : Bool) =>
            bif s7 then some false
            else
              bif a1.snd.fst == (2 : Int) then Option.bind (route_validStatic (a1, ())) fun (y8 : Bool) => some y8
              else
                bif a1.snd.fst == (3 : Int) then Option.bind (route_validLinkState (a1, ())) fun (y9 : Bool) => some y9
                else
                  bif a1.snd.fst == (4 : Int) then Option.bind (route_validDistance (a1, ())) fun (y10 : Bool) => some y10
                  else bif a1.snd.fst == (5 : Int) then Option.bind (route_validPathVector (a1, ())) fun (y11 : Bool) => some y11 else some false
noncomputable def route_Table : ElS [(.sl tRoute), tI] → Option (RTy.El (.p .bool)) := fun x => match x with
  | (a1, a2, ()) =>
    cut2
      (loopX
        (fun (s19 : Int) =>
          bif decide (s19 < (↑(List.length a1) : Int)) then
            Option.bind (idx a1 s19) fun (y20 : Ty.El tRoute) =>
              Option.bind (Option.bind (route_Valid (y20, ())) fun (y21 : Bool) => bif !y21 then some true else bif a2 != (0 : Int) then some (y20.snd.fst != a2) else some false)
                fun (s22 : Bool) =>
                bif s22 then some (Sum.inr (Sum.inr false))
                else
                  Option.bind
                    (bif decide (s19 > (0 : Int)) then
                      Option.bind (idx a1 (IntKind.wrap IntKind.i64 (s19 - (1 : Int)))) fun (y23 : Ty.El tRoute) =>
                        Option.bind (addr_Compare (y23.fst, y20.fst, ())) fun (y24 : Int) => some (decide (y24 ≥ (0 : Int)))
                    else some false)
                    fun (s25 : Bool) => bif s25 then some (Sum.inr (Sum.inr false)) else some (Sum.inl (IntKind.wrap IntKind.i64 (s19 + (1 : Int))))
          else some (Sum.inr (Sum.inl ())))
        (0 : Int))
      fun (s26 : Unit) => some true
noncomputable def control_Valid : ElS [tView, (.sl tTables)] → Option (RTy.El (.p .bool)) := fun x => match x with
  | (a1, a2, ()) =>
    bif (↑(List.length a2) : Int) != (↑(List.length a1.fst.fst) : Int) then some false
    else
      cut2
        (loopX
          (fun (s18 : Int) =>
            bif decide (s18 < (↑(List.length a2) : Int)) then
              Option.bind (idx a2 s18) fun (y19 : Ty.El tTables) =>
                Option.bind
                  (Option.bind (route_Table (y19.fst, (3 : Int), ())) fun (y20 : Bool) =>
                    bif !y20 then some true
                    else
                      Option.bind (route_Table (y19.snd.fst, (4 : Int), ())) fun (y21 : Bool) =>
                        bif !y21 then some true
                        else
                          Option.bind (route_Table (y19.snd.snd.fst, (5 : Int), ())) fun (y22 : Bool) =>
                            bif !y22 then some true else Option.bind (route_Table (y19.snd.snd.snd.fst, (0 : Int), ())) fun (y23 : Bool) => some !y23)
                  fun (s24 : Bool) => bif s24 then some (Sum.inr (Sum.inr false)) else some (Sum.inl (IntKind.wrap IntKind.i64 (s18 + (1 : Int))))
            else some (Sum.inr (Sum.inl ())))
          (0 : Int))
        fun (s25 : Unit) => some true
noncomputable def control_Empty : ElS [tView] → Option (RTy.El (.p (.sl tTables))) := fun x => match x with
  | (a1, ()) =>
    Option.bind (news (96 : Nat) (↑(List.length a1.fst.fst) : Int) ([], [], [], [], ())) fun (y0 : List (Ty.El tTables)) => some y0
noncomputable def slices_Equal_int : ElS [(.sl tI), (.sl tI)] → Option (RTy.El (.p .bool)) := fun x => match x with
  | (a1, a2, ()) =>
    bif (↑(List.length a1) : Int) != (↑(List.length a2) : Int) then some false
    else
      cut2
        (loopX
          (fun (s8 : Int) =>
            bif decide (s8 < (↑(List.length a1) : Int)) then
              Option.bind (idx a1 s8) fun (y9 : Int) =>
                Option.bind (idx a2 s8) fun (y10 : Int) => bif y9 != y10 then some (Sum.inr (Sum.inr false)) else some (Sum.inl (IntKind.wrap IntKind.i64 (s8 + (1 : Int))))
            else some (Sum.inr (Sum.inl ())))
          (0 : Int))
        fun (s11 : Unit) => some true
noncomputable def slices_Equal_Hop : ElS [(.sl tHop), (.sl tHop)] → Option (RTy.El (.p .bool)) := fun x => match x with
  | (a1, a2, ()) =>
    bif (↑(List.length a1) : Int) != (↑(List.length a2) : Int) then some false
    else
      cut2
        (loopX
          (fun (s8 : Int) =>
            bif decide (s8 < (↑(List.length a1) : Int)) then
              Option.bind (idx a1 s8) fun (y9 : Ty.El tHop) =>
                Option.bind (idx a2 s8) fun (y10 : Ty.El tHop) =>
                  bif !(y9.fst == y10.fst && (y9.snd.fst == y10.snd.fst && true)) then some (Sum.inr (Sum.inr false)) else some (Sum.inl (IntKind.wrap IntKind.i64 (s8 + (1 : Int))))
            else some (Sum.inr (Sum.inl ())))
          (0 : Int))
        fun (s11 : Unit) => some true
noncomputable def route_Same : ElS [tRoute, tRoute] → Option (RTy.El (.p .bool)) := fun x => match x with
  | (a1, a2, ()) =>
    Option.bind
      (bif a1.fst.fst == a2.fst.fst && (a1.fst.snd.fst == a2.fst.snd.fst && true) then
        bif a1.snd.fst == a2.snd.fst then
          bif a1.snd.snd.fst == a2.snd.snd.fst then
            bif a1.snd.snd.snd.fst == a2.snd.snd.snd.fst then
              bif a1.snd.snd.snd.snd.fst == a2.snd.snd.snd.snd.fst then
                bif a1.snd.snd.snd.snd.snd.fst == a2.snd.snd.snd.snd.snd.fst then
                  bif a1.snd.snd.snd.snd.snd.snd.fst == a2.snd.snd.snd.snd.snd.snd.fst then
                    bif a1.snd.snd.snd.snd.snd.snd.snd.fst == a2.snd.snd.snd.snd.snd.snd.snd.fst then
                      Option.bind (slices_Equal_int (a1.snd.snd.snd.snd.snd.snd.snd.snd.fst, a2.snd.snd.snd.snd.snd.snd.snd.snd.fst, ())) fun (y2 : Bool) =>
                        bif y2 then
                          bif a1.snd.snd.snd.snd.snd.snd.snd.snd.snd.fst == a2.snd.snd.snd.snd.snd.snd.snd.snd.snd.fst then
                            bif a1.snd.snd.snd.snd.snd.snd.snd.snd.snd.snd.fst == a2.snd.snd.snd.snd.snd.snd.snd.snd.snd.snd.fst then
                              Option.bind (slices_Equal_Hop (a1.snd.snd.snd.snd.snd.snd.snd.snd.snd.snd.snd.fst, a2.snd.snd.snd.snd.snd.snd.snd.snd.snd.snd.snd.fst, ()))
                                fun (y3 : Bool) =>
                                bif y3 then some (a1.snd.snd.snd.snd.snd.snd.snd.snd.snd.snd.snd.snd.fst == a2.snd.snd.snd.snd.snd.snd.snd.snd.snd.snd.snd.snd.fst) else some false
                            else some false
                          else some false
                        else some false
                    else some false
                  else some false
                else some false
              else some false
            else some false
          else some false
        else some false
      else some false)
      fun (s4 : Bool) => some s4
noncomputable def slices_EqualFunc_Route : ElA [.d (.sl tRoute), .d (.sl tRoute), .clo 62 []] → Option (RTy.El (.p .bool)) := fun x => match x with
  | (a1, a2, (), ()) =>
    bif (↑(List.length a1) : Int) != (↑(List.length a2) : Int) then some false
    else
      cut2
        (loopX
          (fun (s8 : Int) =>
            bif decide (s8 < (↑(List.length a1) : Int)) then
              Option.bind (idx a1 s8) fun (y9 : Ty.El tRoute) =>
                Option.bind (idx a2 s8) fun (y10 : Ty.El tRoute) =>
                  Option.bind (route_Same (y9, y10, ())) fun (y11 : Bool) =>
                    bif !y11 then some (Sum.inr (Sum.inr false)) else some (Sum.inl (IntKind.wrap IntKind.i64 (s8 + (1 : Int))))
            else some (Sum.inr (Sum.inl ())))
          (0 : Int))
        fun (s12 : Unit) => some true
noncomputable def route_SameAll : ElS [(.sl tRoute), (.sl tRoute)] → Option (RTy.El (.p .bool)) := fun x => match x with
  | (a1, a2, ()) =>
    Option.bind (slices_EqualFunc_Route (a1, a2, (), ())) fun (y0 : Bool) => some y0
noncomputable def control_Same_c1 : ElS [tTables, tTables] → Option (RTy.El (.p .bool)) := fun x => match x with
  | (a1, a2, ()) =>
    Option.bind
      (Option.bind (route_SameAll (a1.fst, a2.fst, ())) fun (y4 : Bool) =>
        bif y4 then
          Option.bind (route_SameAll (a1.snd.fst, a2.snd.fst, ())) fun (y5 : Bool) =>
            bif y5 then
              Option.bind (route_SameAll (a1.snd.snd.fst, a2.snd.snd.fst, ())) fun (y6 : Bool) =>
                bif y6 then Option.bind (route_SameAll (a1.snd.snd.snd.fst, a2.snd.snd.snd.fst, ())) fun (y7 : Bool) => some y7 else some false
            else some false
        else some false)
      fun (s8 : Bool) => some s8
noncomputable def slices_EqualFunc_Tables : ElA [.d (.sl tTables), .d (.sl tTables), .clo 30 []] → Option (RTy.El (.p .bool)) := fun x => match x with
  | (a1, a2, (), ()) =>
    bif (↑(List.length a1) : Int) != (↑(List.length a2) : Int) then some false
    else
      cut2
        (loopX
          (fun (s8 : Int) =>
            bif decide (s8 < (↑(List.length a1) : Int)) then
              Option.bind (idx a1 s8) fun (y9 : Ty.El tTables) =>
                Option.bind (idx a2 s8) fun (y10 : Ty.El tTables) =>
                  Option.bind (control_Same_c1 (y9, y10, ())) fun (y11 : Bool) =>
                    bif !y11 then some (Sum.inr (Sum.inr false)) else some (Sum.inl (IntKind.wrap IntKind.i64 (s8 + (1 : Int))))
            else some (Sum.inr (Sum.inl ())))
          (0 : Int))
        fun (s12 : Unit) => some true
noncomputable def control_Same : ElS [(.sl tTables), (.sl tTables)] → Option (RTy.El (.p .bool)) := fun x => match x with
  | (a1, a2, ()) =>
    Option.bind (slices_EqualFunc_Tables (a1, a2, (), ())) fun (y0 : Bool) => some y0
noncomputable def ref24_SameTables : ElS [tTables, tTables] → Option (RTy.El (.p .bool)) := fun x => match x with
  | (a1, a2, ()) =>
    Option.bind
      (Option.bind (ref15_SameAll (a1.fst, a2.fst, ())) fun (y4 : Bool) =>
        bif y4 then
          Option.bind (ref15_SameAll (a1.snd.fst, a2.snd.fst, ())) fun (y5 : Bool) =>
            bif y5 then
              Option.bind (ref15_SameAll (a1.snd.snd.fst, a2.snd.snd.fst, ())) fun (y6 : Bool) =>
                bif y6 then Option.bind (ref15_SameAll (a1.snd.snd.snd.fst, a2.snd.snd.snd.fst, ())) fun (y7 : Bool) => some y7 else some false
            else some false
        else some false)
      fun (s8 : Bool) => some s8
noncomputable def ref24_Same : ElS [(.sl tTables), (.sl tTables)] → Option (RTy.El (.p .bool)) := fun x => match x with
  | (a1, a2, ()) =>
    bif (↑(List.length a1) : Int) != (↑(List.length a2) : Int) then some false
    else
      cut2
        (loopX
          (fun (s11 : Int) =>
            bif decide (s11 < (↑(List.length a1) : Int)) then
              Option.bind (idx a1 s11) fun (y12 : Ty.El tTables) =>
                Option.bind (idx a2 s11) fun (y13 : Ty.El tTables) =>
                  Option.bind (ref24_SameTables (y12, y13, ())) fun (y14 : Bool) =>
                    bif !y14 then some (Sum.inr (Sum.inr false)) else some (Sum.inl (IntKind.wrap IntKind.i64 (s11 + (1 : Int))))
            else some (Sum.inr (Sum.inl ())))
          (0 : Int))
        fun (s15 : Unit) => some true
noncomputable def law21_ControlStates : ElS [tNetwork, (.sl tI), (.sl tTables), (.sl tTables)] → Option (RTy.El (.p .bool)) := fun x => match x with
  | (a1, a2, a3, a4, ()) =>
    Option.bind (law13_View (a1, a2, ())) fun (y0 : Ty.El tView × Bool × Unit) =>
      Option.bind (bif !y0.snd.fst then some true else bif decide ((↑(List.length a3) : Int) > (10 : Int)) then some true else some (decide ((↑(List.length a4) : Int) > (10 : Int))))
        fun (s1 : Bool) =>
        bif s1 then some true
        else
          cut2
            (loopX
              (fun (s18 : Int) =>
                bif decide (s18 < (↑(List.length a3) : Int)) then
                  Option.bind
                    (Option.bind (idx a3 s18) fun (y19 : Ty.El tTables) =>
                      bif decide ((↑(List.length y19.fst) : Int) > (12 : Int)) then some true
                      else
                        Option.bind (idx a3 s18) fun (y20 : Ty.El tTables) =>
                          bif decide ((↑(List.length y20.snd.fst) : Int) > (12 : Int)) then some true
                          else
                            Option.bind (idx a3 s18) fun (y21 : Ty.El tTables) =>
                              bif decide ((↑(List.length y21.snd.snd.fst) : Int) > (12 : Int)) then some true
                              else Option.bind (idx a3 s18) fun (y22 : Ty.El tTables) => some (decide ((↑(List.length y22.snd.snd.snd.fst) : Int) > (16 : Int))))
                    fun (s23 : Bool) => bif s23 then some (Sum.inr (Sum.inr true)) else some (Sum.inl (IntKind.wrap IntKind.i64 (s18 + (1 : Int))))
                else some (Sum.inr (Sum.inl ())))
              (0 : Int))
            fun (s24 : Unit) =>
            Option.bind
              (Option.bind (control_Valid (y0.fst, a3, ())) fun (y43 : Bool) =>
                Option.bind (ref24_Valid (y0.fst, a3, ())) fun (y44 : Bool) =>
                  bif y43 == y44 then
                    Option.bind (control_Empty (y0.fst, ())) fun (y45 : List (Ty.El tTables)) =>
                      Option.bind (control_Valid (y0.fst, y45, ())) fun (y46 : Bool) =>
                        bif y46 then
                          Option.bind (control_Empty (y0.fst, ())) fun (y47 : List (Ty.El tTables)) =>
                            bif (↑(List.length y47) : Int) == (↑(List.length a1.fst) : Int) then
                              Option.bind (control_Same (a3, a4, ())) fun (y48 : Bool) =>
                                Option.bind (ref24_Same (a3, a4, ())) fun (y49 : Bool) =>
                                  bif y48 == y49 then
                                    Option.bind (control_Same (a3, a3, ())) fun (y50 : Bool) => bif y50 then Option.bind (law21_sane ()) fun (y51 : Bool) => some y51 else some false
                                  else some false
                            else some false
                        else some false
                  else some false)
              fun (s52 : Bool) => some s52
end Go.Ve

namespace Go.Ve
open Go
set_option maxRecDepth 1000000
set_option maxHeartbeats 4000000

/-- Two lists compared side by side. -/
theorem wp_eqf {α : Type} {xs ys : List α} {body : Int → Option (Int ⊕ (Unit ⊕ Bool))} (hl : xs.length < 4611686018427387904)
    (hb : ∀ (i : Nat) x y, xs[i]? = some x → ys[i]? = some y → Wp (body (i : Int)) (fun o => (x = y ∧ o = .inl (IntKind.wrap IntKind.i64 ((i : Int) + 1))) ∨ (x ≠ y ∧ o = .inr (.inr false)))) :
    Wp (bif (↑(List.length xs) : Int) != (↑(List.length ys) : Int) then some false else
      cut2 (loopX (fun s : Int => bif decide (s < (xs.length : Int)) then body s else some (Sum.inr (Sum.inl ()))) (0 : Int)) (fun _ => some true)) (fun r => r = true ↔ xs = ys) := by
  refine wp_bif (fun h => wp_some ?_) (fun h => ?_)
  · constructor
    · intro h; cases h
    · intro e; subst e; simp at h
  have he : xs.length = ys.length := by
    have h : ((xs.length : Nat) : Int) = (ys.length : Nat) := by simpa using h
    omega
  refine wp_zip hl he (fun i x y hx hy => (hb i x y hx hy).mono ?_) (fun e => wp_some ⟨fun _ => e, fun _ => rfl⟩)
  rintro o (⟨e, rfl⟩ | ⟨hne, rfl⟩)
  · exact e2l ⟨rfl, e⟩
  · refine e2r (e2r ⟨fun h => (by cases h), fun e => ?_⟩)
    subst e
    rw [hx] at hy
    cases hy
    exact absurd rfl hne

theorem eq_ints (a b : List Int) (hl : a.length < 4611686018427387904) : Wp (slices_Equal_int (a, b, ())) (fun r => r = true ↔ a = b) := by
  unfold slices_Equal_int
  refine wp_eqf hl (fun i x y hx hy => ?_)
  simp only [idx_nat hx, idx_nat hy, Option.bind_some]
  refine wp_bif (fun h => wp_some (.inr ⟨by simpa using h, rfl⟩)) (fun h => wp_some (.inl ⟨by simpa using h, rfl⟩))

theorem eq_hops (a b : List (Ty.El tHop)) (hl : a.length < 4611686018427387904) : Wp (slices_Equal_Hop (a, b, ())) (fun r => r = true ↔ a = b) := by
  unfold slices_Equal_Hop
  refine wp_eqf hl (fun i x y hx hy => ?_)
  simp only [idx_nat hx, idx_nat hy, Option.bind_some]
  obtain ⟨x1, x2, ⟨⟩⟩ := x
  obtain ⟨y1, y2, ⟨⟩⟩ := y
  refine wp_bif (fun h => wp_some (.inr ⟨?_, rfl⟩)) (fun h => wp_some (.inl ⟨?_, rfl⟩))
  · intro e; cases e; simp at h
  · simp at h; rw [h.1, h.2]

theorem rsame_iff (a b : Ty.El tRoute) (ha : RtB a) : Wp (route_Same (a, b, ())) (fun r => r = true ↔ a = b) := by
  obtain ⟨hp, hh⟩ := ha
  obtain ⟨⟨pa, pl, ⟨⟩⟩, pr, cl, ad, me, inn, tg, pf, path, fr, nx, hops, dc, ⟨⟩⟩ := a
  obtain ⟨⟨pa', pl', ⟨⟩⟩, pr', cl', ad', me', inn', tg', pf', path', fr', nx', hops', dc', ⟨⟩⟩ := b
  simp only at hp hh
  unfold route_Same
  dsimp only
  refine wp_bind ?_
  have no : ∀ {q : Bool} {P : Prop}, q = false → (q = true → P) := fun h h' => by rw [h] at h'; cases h'
  iterate 8 (refine wp_bif (fun _ => ?_) (fun h => wp_some (wp_some ⟨fun h => (by cases h), fun e => by simp only [Prod.mk.injEq] at e; simp_all⟩)))
  refine wp_bind ((eq_ints path path' (by omega)).mono (fun r hr => ?_))
  refine wp_bif (fun h1 => ?_) (fun h => wp_some (wp_some ⟨fun h => (by cases h), fun e => by simp only [Prod.mk.injEq] at e; simp_all⟩))
  iterate 2 (refine wp_bif (fun _ => ?_) (fun h => wp_some (wp_some ⟨fun h => (by cases h), fun e => by simp only [Prod.mk.injEq] at e; simp_all⟩)))
  refine wp_bind ((eq_hops hops hops' (by omega)).mono (fun r2 hr2 => ?_))
  refine wp_bif (fun h2 => wp_some (wp_some ⟨fun h => ?_, fun e => ?_⟩)) (fun h => wp_some (wp_some ⟨fun h => (by cases h), fun e => by simp only [Prod.mk.injEq] at e; simp_all⟩))
  · have e1 := hr.1 h1
    have e2 := hr2.1 h2
    simp_all
  · simp only [Prod.mk.injEq] at e
    simp_all

def LtB (l : List (Ty.El tRoute)) : Prop := l.length < 4611686018427387904 ∧ ∀ x, x ∈ l → RtB x

theorem rall_iff (a b : List (Ty.El tRoute)) (ha : LtB a) : Wp (route_SameAll (a, b, ())) (fun r => r = true ↔ a = b) := by
  unfold route_SameAll slices_EqualFunc_Route
  dsimp only
  refine wp_bind ((wp_eqf ha.1 (fun i x y hx hy => ?_)).mono (fun r hr => wp_some hr))
  simp only [idx_nat hx, idx_nat hy, Option.bind_some]
  refine wp_bind ((rsame_iff x y (ha.2 x (List.mem_of_getElem? hx))).mono (fun r hr => ?_))
  cases r with
  | true => exact wp_some (.inl ⟨hr.1 rfl, rfl⟩)
  | false => exact wp_some (.inr ⟨fun e => (by cases hr.2 e), rfl⟩)

theorem dall_iff (a b : List (Ty.El tRoute)) (ha : LtB a) : Wp (ref15_SameAll (a, b, ())) (fun r => r = true ↔ a = b) := by
  unfold ref15_SameAll
  dsimp only
  refine wp_eqf ha.1 (fun i x y hx hy => ?_)
  simp only [idx_nat hx, idx_nat hy, Option.bind_some]
  refine wp_bind ((same_iffB x y (ha.2 x (List.mem_of_getElem? hx))).mono (fun r hr => ?_))
  cases r with
  | true => exact wp_some (.inl ⟨hr.1 rfl, rfl⟩)
  | false => exact wp_some (.inr ⟨fun e => (by cases hr.2 e), rfl⟩)

structure TbB (t : Ty.El tTables) : Prop where
  a : LtB t.1
  b : LtB t.2.1
  c : LtB t.2.2.1
  d : LtB t.2.2.2.1

theorem four {f : ElS [(.sl tRoute), (.sl tRoute)] → Option Bool} (hf : ∀ l m, LtB l → Wp (f (l, m, ())) (fun r => r = true ↔ l = m)) (a b : Ty.El tTables) (ha : TbB a) :
    Wp (Option.bind (Option.bind (f (a.fst, b.fst, ())) fun (y4 : Bool) =>
        bif y4 then
          Option.bind (f (a.snd.fst, b.snd.fst, ())) fun (y5 : Bool) =>
            bif y5 then
              Option.bind (f (a.snd.snd.fst, b.snd.snd.fst, ())) fun (y6 : Bool) =>
                bif y6 then Option.bind (f (a.snd.snd.snd.fst, b.snd.snd.snd.fst, ())) fun (y7 : Bool) => some y7 else some false
            else some false
        else some false)
      fun (s8 : Bool) => some s8) (fun r => r = true ↔ a = b) := by
  obtain ⟨a1, a2, a3, a4, ⟨⟩⟩ := a
  obtain ⟨b1, b2, b3, b4, ⟨⟩⟩ := b
  have no : ∀ {Q : Prop}, ¬ Q → Wp (some false : Option Bool) (fun r => Wp (some r) (fun r => r = true ↔ Q)) := fun h => wp_some (wp_some ⟨fun h => (by cases h), fun q => absurd q h⟩)
  refine wp_bind (wp_bind ((hf _ _ ha.a).mono (fun r1 h1 => ?_)))
  refine wp_bif (fun e1 => ?_) (fun e1 => no (fun e => by cases e; rw [h1.2 rfl] at e1; cases e1))
  refine wp_bind ((hf _ _ ha.b).mono (fun r2 h2 => ?_))
  refine wp_bif (fun e2 => ?_) (fun e1 => no (fun e => by cases e; rw [h2.2 rfl] at e1; cases e1))
  refine wp_bind ((hf _ _ ha.c).mono (fun r3 h3 => ?_))
  refine wp_bif (fun e3 => ?_) (fun e1 => no (fun e => by cases e; rw [h3.2 rfl] at e1; cases e1))
  refine wp_bind ((hf _ _ ha.d).mono (fun r4 h4 => wp_some (wp_some ?_)))
  have := h1.1 e1
  have := h2.1 e2
  have := h3.1 e3
  simp_all

theorem csame_iff (s t : List (Ty.El tTables)) (hl : s.length < 4611686018427387904) (hs : ∀ x, x ∈ s → TbB x) : Wp (control_Same (s, t, ())) (fun r => r = true ↔ s = t) := by
  unfold control_Same slices_EqualFunc_Tables
  dsimp only
  refine wp_bind ((wp_eqf hl (fun i x y hx hy => ?_)).mono (fun r hr => wp_some hr))
  simp only [idx_nat hx, idx_nat hy, Option.bind_some]
  refine wp_bind ((show Wp (control_Same_c1 (x, y, ())) (fun r => r = true ↔ x = y) from four rall_iff x y (hs x (List.mem_of_getElem? hx))).mono (fun r hr => ?_))
  cases r with
  | true => exact wp_some (.inl ⟨hr.1 rfl, rfl⟩)
  | false => exact wp_some (.inr ⟨fun e => (by cases hr.2 e), rfl⟩)

theorem dsame_iff (s t : List (Ty.El tTables)) (hl : s.length < 4611686018427387904) (hs : ∀ x, x ∈ s → TbB x) : Wp (ref24_Same (s, t, ())) (fun r => r = true ↔ s = t) := by
  unfold ref24_Same
  dsimp only
  refine wp_eqf hl (fun i x y hx hy => ?_)
  simp only [idx_nat hx, idx_nat hy, Option.bind_some]
  refine wp_bind ((show Wp (ref24_SameTables (x, y, ())) (fun r => r = true ↔ x = y) from four dall_iff x y (hs x (List.mem_of_getElem? hx))).mono (fun r hr => ?_))
  cases r with
  | true => exact wp_some (.inl ⟨hr.1 rfl, rfl⟩)
  | false => exact wp_some (.inr ⟨fun e => (by cases hr.2 e), rfl⟩)
end Go.Ve

namespace Go.Ve
open Go
set_option maxRecDepth 1000000
set_option maxHeartbeats 4000000

/-- The first that is not zero. -/
def orL : List Int → Int
  | [] => 0
  | a :: r => if a = 0 then orL r else a

theorem spec_cmp_Or (l : List Int) (hl : l.length < 1000) : cmp_Or_int (l, ()) = some (orL l) := by
  refine wp_val ?_
  unfold cmp_Or_int
  dsimp only
  refine wp_find (xs := l) (by omega) (fun i => orL l = orL (l.drop i)) rfl ?_ (fun h => wp_some ?_)
  · intro i x hx hj
    have hi := (List.getElem?_eq_some_iff.1 hx).1
    have hd : l.drop i = x :: l.drop (i + 1) := by
      grind [List.drop_eq_getElem_cons, List.getElem?_eq_some_iff]
    rw [hd] at hj
    simp [idx_nat hx]
    refine wp_bif (fun h => wp_some (e2r (e2r ?_))) (fun h => wp_some (e2l ⟨rfl, ?_⟩))
    all_goals simp_all [orL]
  · rw [h, List.drop_length]
    rfl

/-- The comparison of two numbers. -/
def cmpZ (a b : Int) : Int := if a < b then -1 else if b < a then 1 else 0

theorem orL_cmp : ∀ (l : List (Int × Int)), orL (l.map (fun p => cmpZ p.1 p.2)) = cmpL l
  | [] => rfl
  | (a, b) :: r => by
    have ih := orL_cmp r
    grind [orL, cmpL, cmpZ]

theorem spec_route_compareHops (a b : Ty.El tHop) : route_compareHops (a, b, ()) = some (hopC a b) := by
  refine wp_val ?_
  unfold route_compareHops
  dsimp only
  refine wp_bind (wp_eq (spec_cmp_i _ _) (wp_bind (wp_eq (spec_cmp_u _ _) (wp_bind (wp_eq (spec_cmp_Or _ (by simp)) (wp_some ?_))))))
  have := orL_cmp [(a.1, b.1), (a.2.1, b.2.1)]
  refine this.trans ?_
  simp [cmpL, hopC, cmpI]

end Go.Ve

namespace Go.Ve
open Go
set_option maxRecDepth 1000000
set_option maxHeartbeats 4000000

/-- Hops that ascend, none over a negative interface. -/
def HO (l : List (Ty.El tHop)) : Prop := ∀ (i : Nat) h, l[i]? = some h → 0 ≤ h.1 ∧ ∀ g, 0 < i → l[i - 1]? = some g → hltB g h = true
def PO (l : List Int) : Prop := ∀ a, a ∈ l → 1 ≤ a ∧ a ≤ 65535
noncomputable def dec (p : Prop) : Bool := @decide p (Classical.propDecidable p)
theorem dec_iff {p : Prop} : dec p = true ↔ p := by simp [dec]
theorem s_addr_Valid (p : Ty.El tPrefix) : addr_Valid (p, ()) = some (validB p) := by
  refine wp_val ?_
  unfold addr_Valid validB
  dsimp only
  refine wp_bind (wp_bif (fun h => wp_bif (fun h' => wp_bind (wp_eq (spec_addr_Mask _) (wp_some (wp_some ?_)))) (fun h' => wp_some (wp_some ?_))) (fun h => wp_some (wp_some ?_)))
  · rw [h, h']
    simp only [Bool.true_and]
    change (IntKind.wrap .u32 (((BitVec.ofInt 32 p.1 &&& ~~~ BitVec.ofInt 32 ((maskB (clampN p.2.1)).toNat : Int)).toNat : Nat) : Int) == (0 : Int)) = _
    rw [ofInt_bv, wrap_bv, Bool.eq_iff_iff, beq_iff_eq, beq_iff_eq]
    constructor
    · intro h
      apply BitVec.eq_of_toNat_eq
      grind
    grind
  all_goals grind

theorem s_within (a b c : Int) : route_within (a, b, c, ()) = some (decide (b ≤ a) && decide (a ≤ c)) := by
  unfold route_within
  by_cases h : b ≤ a <;> simp [h]
theorem d_within (a b c : Int) : ref15_within (a, b, c, ()) = some (decide (b ≤ a) && decide (a ≤ c)) := by
  unfold ref15_within
  by_cases h : b ≤ a <;> simp [h]

def drB : List (Ty.El tHop) → Bool
  | [h] => h.2.1 == 0
  | _ => false

theorem s_direct (l : List (Ty.El tHop)) : route_direct (l, ()) = some (drB l) := by
  unfold route_direct
  match l with
  | [] => rfl
  | [h] => simp [idx, drB]
  | a :: b :: r =>
    have : (((r.length : Int) + 1 + 1) == 1) = false := by rw [beq_eq_false_iff_ne]; omega
    simp [drB, this]

theorem s_indirect (l : List (Ty.El tHop)) (hl : l.length ≤ 1152921504606846976) : route_indirect (l, ()) = some (l.all (fun h => !(h.2.1 == 0)) && decide (0 < l.length)) := by
  refine wp_val ?_
  unfold route_indirect
  refine wp_find (by omega) (fun i => ∀ j x, j < i → l[j]? = some x → (!(x.2.1 == 0)) = true) (fun j x hj => by omega) ?_ (fun h => wp_some ?_)
  · intro i x hx hj
    simp only [idx_nat hx, Option.bind_some]
    refine wp_bif (fun h => wp_some (e2r (e2r ?_))) (fun h => wp_some (e2l ⟨rfl, fun j y hjy hy => ?_⟩))
    · have : l.all (fun h => !(h.2.1 == 0)) = false := List.all_eq_false.2 ⟨x, List.mem_of_getElem? hx, by simp [h]⟩
      rw [this]; rfl
    · rcases Nat.lt_or_ge j i with h' | h'
      · exact hj j y h' hy
      · obtain rfl : j = i := by omega
        rw [hx] at hy; cases hy; simp [h]
  · have : l.all (fun h => !(h.2.1 == 0)) = true := List.all_eq_true.2 (fun x hx => by
      obtain ⟨i, hi⟩ := List.mem_iff_getElem?.1 hx
      exact h i x (List.getElem?_eq_some_iff.1 hi).1 hi)
    rw [this]
    simp

theorem ho_step {l : List (Ty.El tHop)} {i : Nat} {x : Ty.El tHop} (hx : l[i]? = some x) (h : ∀ j y, j < i → l[j]? = some y → 0 ≤ y.1 ∧ ∀ g, 0 < j → l[j - 1]? = some g → hltB g y = true) (h0 : 0 ≤ x.1) (h1 : ∀ g, 0 < i → l[i - 1]? = some g → hltB g x = true) :
    ∀ j y, j < i + 1 → l[j]? = some y → 0 ≤ y.1 ∧ ∀ g, 0 < j → l[j - 1]? = some g → hltB g y = true := by
  intro j y hj hy
  rcases Nat.lt_or_ge j i with h' | h'
  · exact h j y h' hy
  · obtain rfl : j = i := by omega
    rw [hx] at hy; cases hy; exact ⟨h0, h1⟩

theorem prev {l : List (Ty.El tHop)} {i : Nat} {x : Ty.El tHop} (hx : l[i]? = some x) (hi : 0 < i) (hl : l.length ≤ 1152921504606846976) : ∃ g, l[i - 1]? = some g ∧ idx l (IntKind.wrap IntKind.i64 ((i : Int) - 1)) = some g := by
  have h := (List.getElem?_eq_some_iff.1 hx).1
  refine ⟨l[i - 1], by simp, ?_⟩
  rw [wrap_i64 (by omega) (by omega), show ((i : Int) - 1) = ((i - 1 : Nat) : Int) by omega]
  exact idx_nat (by simp)

theorem nb1 {a d : Bool} (h : (!(a == d)) = true) : (a == d) = false := by cases a <;> cases d <;> simp_all
theorem nb2 {a d : Bool} (h : (!(a == d)) = false) : (a == d) = true := by cases a <;> cases d <;> simp_all

theorem s_hops (l : List (Ty.El tHop)) (d : Bool) (hl : l.length ≤ 1152921504606846976) : ref15_hops (l, d, ()) = some (dec (HO l) && l.all (fun h => (h.2.1 == 0) == d)) := by
  refine wp_val ?_
  unfold ref15_hops
  refine wp_find (by omega) (fun i => (∀ j y, j < i → l[j]? = some y → 0 ≤ y.1 ∧ ∀ g, 0 < j → l[j - 1]? = some g → hltB g y = true) ∧ ∀ j x, j < i → l[j]? = some x → ((x.2.1 == 0) == d) = true) ⟨fun j x hj => by omega, fun j x hj => by omega⟩ ?_ (fun h => wp_some ?_)
  · intro i x hx ⟨hj, hk⟩
    simp only [idx_nat hx, Option.bind_some]
    have bad1 : ¬ HO l → (false = (dec (HO l) && l.all (fun h => (h.2.1 == 0) == d))) := fun h => by
      rw [show dec (HO l) = false from by simpa [dec] using h]; rfl
    have bad2 : ((x.2.1 == 0) == d) = false → (false = (dec (HO l) && l.all (fun h => (h.2.1 == 0) == d))) := fun h => by
      rw [List.all_eq_false.2 ⟨x, List.mem_of_getElem? hx, by simp [h]⟩, Bool.and_false]
    have fin : ∀ b : Bool, (b = true → ¬ HO l ∨ ((x.2.1 == 0) == d) = false) → (b = false → (0 ≤ x.1 ∧ ∀ g, 0 < i → l[i - 1]? = some g → hltB g x = true) ∧ ((x.2.1 == 0) == d) = true) →
        Wp (bif b then some (Sum.inr (Sum.inr false)) else some (Sum.inl (IntKind.wrap IntKind.i64 ((i : Int) + (1 : Int)))) : Option (Int ⊕ (Unit ⊕ Bool))) (Either2 (fun s' => s' = IntKind.wrap IntKind.i64 ((i : Int) + 1) ∧ (∀ j y, j < i + 1 → l[j]? = some y → 0 ≤ y.1 ∧ ∀ g, 0 < j → l[j - 1]? = some g → hltB g y = true) ∧ ∀ j x, j < i + 1 → l[j]? = some x → ((x.2.1 == 0) == d) = true) (Either2 (fun _ => False) (fun r => r = (dec (HO l) && l.all (fun h => (h.2.1 == 0) == d))))) := by
      intro b hb1 hb2
      refine wp_bif (fun h => wp_some (e2r (e2r ((hb1 h).elim bad1 bad2)))) (fun h => wp_some (e2l ⟨rfl, ho_step hx hj (hb2 h).1.1 (hb2 h).1.2, fun j y hjy hy => ?_⟩))
      rcases Nat.lt_or_ge j i with h' | h'
      · exact hk j y h' hy
      · obtain rfl : j = i := by omega
        rw [hx] at hy; cases hy; exact (hb2 h).2
    refine wp_bind ((show Wp _ (fun b : Bool => (b = true → ¬ HO l ∨ ((x.2.1 == 0) == d) = false) ∧ (b = false → (0 ≤ x.1 ∧ ∀ g, 0 < i → l[i - 1]? = some g → hltB g x = true) ∧ ((x.2.1 == 0) == d) = true)) from ?_).mono (fun b hb => fin b hb.1 hb.2))
    refine wp_bifd (fun h => wp_some ⟨fun _ => .inl (fun ho => ?_), fun h => by cases h⟩) (fun h => ?_)
    · exact absurd h (Int.not_lt.2 (ho i x hx).1)
    refine wp_bifd (fun h1 => ?_) (fun h1 => ?_)
    · obtain ⟨g, hg, hgi⟩ := prev hx (by omega) hl
      rw [hgi, Option.bind_some, spec_ref15_lessHop, Option.bind_some]
      refine wp_bif (fun h2 => wp_some ⟨fun _ => .inl (fun ho => ?_), fun h => by cases h⟩) (fun h2 => wp_some ⟨fun h3 => .inr (nb1 h3), fun h3 => ⟨⟨Int.not_lt.1 h, fun g' _ hg' => ?_⟩, nb2 h3⟩⟩)
      · have := (ho i x hx).2 g (by omega) hg; simp [this] at h2
      · rw [hg] at hg'; cases hg'; simpa using h2
    · exact wp_some ⟨fun h3 => .inr (nb1 h3), fun h3 => ⟨⟨Int.not_lt.1 h, fun g hi => absurd (by omega) h1⟩, nb2 h3⟩⟩
  · have h1 : dec (HO l) = true := dec_iff.2 (fun i y hy => h.1 i y (List.getElem?_eq_some_iff.1 hy).1 hy)
    have h2 : l.all (fun h => (h.2.1 == 0) == d) = true := List.all_eq_true.2 (fun x hx => by
      obtain ⟨i, hi⟩ := List.mem_iff_getElem?.1 hx
      exact h.2 i x (List.getElem?_eq_some_iff.1 hi).1 hi)
    rw [h1, h2]; rfl
end Go.Ve

namespace Go.Ve
open Go
set_option maxRecDepth 1000000
set_option maxHeartbeats 4000000

theorem hop_ge (g h : Ty.El tHop) : decide (hopC g h ≥ 0) = !hltB g h := by
  unfold hltB hopC
  cases hd : decide (cmpI g.1 g.2.1 h.1 h.2.1 < 0) with
  | true => simp at hd ⊢; omega
  | false => simp at hd ⊢; omega

theorem s_common (x : Ty.El tRoute) (hx : RtB x) : route_common (x, ()) =
    some (((validB x.1 && decide (0 ≤ x.2.2.2.2.2.2.1)) && (decide (x.2.2.2.2.2.2.1 ≤ 65535) && decide (x.2.2.2.2.2.2.2.2.1.length ≤ 64))) && (dec (HO x.2.2.2.2.2.2.2.2.2.2.2.1) && dec (PO x.2.2.2.2.2.2.2.2.1))) := by
  obtain ⟨hp, hh⟩ := hx
  obtain ⟨pf, pr, cl, ad, me, inn, tg, prf, path, fr, nx, hops, dc, ⟨⟩⟩ := x
  simp only at hp hh ⊢
  refine wp_val ?_
  unfold route_common
  dsimp only
  refine wp_bind ((show Wp _ (fun b : Bool => b = !((validB pf && decide (0 ≤ tg)) && (decide (tg ≤ 65535) && decide (path.length ≤ 64)))) from ?_).mono (fun b hb => ?_))
  · refine wp_bind (wp_eq (s_addr_Valid _) ?_)
    cases hv : validB pf with
    | false => exact wp_some rfl
    | true =>
      by_cases h1 : tg < 0
      · simp only [h1, decide_true, cond_true, Bool.not_true, cond_false]
        refine wp_some ?_
        rw [show decide (0 ≤ tg) = false from decide_eq_false (Int.not_le.2 h1)]
        rfl
      · by_cases h2 : tg > 65535
        · simp only [h1, h2, decide_true, decide_false, cond_true, Bool.not_true, cond_false]
          refine wp_some ?_
          rw [show decide (tg ≤ 65535) = false from decide_eq_false (Int.not_le.2 h2)]
          simp
        · simp only [h1, h2, decide_false, Bool.not_true, cond_false]
          refine wp_some ?_
          rw [show decide (tg ≤ 65535) = true from decide_eq_true (Int.not_lt.1 h2), show decide (0 ≤ tg) = true from decide_eq_true (Int.not_lt.1 h1)]
          by_cases h3 : path.length ≤ 64
          · simp [h3]; omega
          · simp [h3]; omega
  · cases hc : ((validB pf && decide (0 ≤ tg)) && (decide (tg ≤ 65535) && decide (path.length ≤ 64))) with
    | false =>
      rw [hc] at hb; subst hb
      exact wp_some rfl
    | true =>
      rw [hc] at hb; subst hb
      simp only [Bool.not_true, cond_false, Bool.true_and]
      refine wp_find (xs := hops) (by omega) (fun i => ∀ j y, j < i → hops[j]? = some y → 0 ≤ y.1 ∧ ∀ g, 0 < j → hops[j - 1]? = some g → hltB g y = true) (fun j y hj => by omega) ?_ (fun h => ?_)
      · intro i x hx hj
        simp only [idx_nat hx, Option.bind_some]
        have bad : ¬ HO hops → (false = (dec (HO hops) && dec (PO path))) := fun h => by
          rw [show dec (HO hops) = false from by simpa [dec] using h]; rfl
        refine wp_bind ((show Wp _ (fun b : Bool => (b = true → ¬ HO hops) ∧ (b = false → 0 ≤ x.1 ∧ ∀ g, 0 < i → hops[i - 1]? = some g → hltB g x = true)) from ?_).mono (fun b hb => ?_))
        · refine wp_bifd (fun h => wp_some ⟨fun _ ho => absurd h (Int.not_lt.2 (ho i x hx).1), fun h => by cases h⟩) (fun h => ?_)
          refine wp_bifd (fun h1 => ?_) (fun h1 => ?_)
          · obtain ⟨g, hg, hgi⟩ := prev hx (by omega) hh
            rw [hgi, Option.bind_some, spec_route_compareHops, Option.bind_some]
            refine wp_some ?_
            rw [hop_ge]
            refine ⟨fun h2 ho => ?_, fun h2 => ⟨Int.not_lt.1 h, fun g' _ hg' => ?_⟩⟩
            · have := (ho i x hx).2 g (by omega) hg; simp [this] at h2
            · rw [hg] at hg'; cases hg'; simpa using h2
          · exact wp_some ⟨fun h => (by cases h), fun _ => ⟨Int.not_lt.1 h, fun g hi => absurd (by omega) h1⟩⟩
        · exact wp_bif (fun h => wp_some (e2r (e2r (bad (hb.1 h))))) (fun h => wp_some (e2l ⟨rfl, ho_step hx hj (hb.2 h).1 (hb.2 h).2⟩))
      · have h1 : dec (HO hops) = true := dec_iff.2 (fun i y hy => h i y (List.getElem?_eq_some_iff.1 hy).1 hy)
        rw [h1, Bool.true_and]
        refine wp_find (xs := path) (by omega) (fun i => ∀ j a, j < i → path[j]? = some a → 1 ≤ a ∧ a ≤ 65535) (fun j a hj => by omega) ?_ (fun h => wp_some ?_)
        · intro i a ha hj
          simp only [idx_nat ha, Option.bind_some]
          have bad : ¬ PO path → (false = dec (PO path)) := fun h => by
            rw [show dec (PO path) = false from by simpa [dec] using h]
          have hm := List.mem_of_getElem? ha
          have nxt : 1 ≤ a → a ≤ 65535 → ∀ j b, j < i + 1 → path[j]? = some b → 1 ≤ b ∧ b ≤ 65535 := fun h1 h2 j b hjb hb => by
            rcases Nat.lt_or_ge j i with h' | h'
            · exact hj j b h' hb
            · obtain rfl : j = i := by omega
              rw [ha] at hb; cases hb; exact ⟨h1, h2⟩
          refine wp_bind (wp_bifd (fun h => wp_some (wp_some (e2r (e2r (bad (fun hp => absurd h (Int.not_lt.2 (hp a hm).1))))))) (fun h => wp_some ?_))
          by_cases h2 : a > 65535
          · rw [show decide (a > 65535) = true from decide_eq_true h2]
            exact wp_some (e2r (e2r (bad (fun hp => absurd h2 (Int.not_lt.2 (hp a hm).2)))))
          · rw [show decide (a > 65535) = false from decide_eq_false h2]
            exact wp_some (e2l ⟨rfl, nxt (Int.not_lt.1 h) (Int.not_lt.1 h2)⟩)
        · exact (dec_iff.2 (fun a ha => by
            obtain ⟨i, hi⟩ := List.mem_iff_getElem?.1 ha
            exact h i a (List.getElem?_eq_some_iff.1 hi).1 hi)).symm
end Go.Ve

namespace Go.Ve
open Go
set_option maxRecDepth 1000000
set_option maxHeartbeats 4000000

theorem HO_nil : dec (HO []) = true := dec_iff.2 (fun i h hi => by simp at hi)
def hd (l : List (Ty.El tHop)) : Ty.El tHop := l.getD 0 (0, 0, ())
theorem s_idx0 (l : List (Ty.El tHop)) (h : ((l.length : Int) == 1) = true) : idx l 0 = some (hd l) := by
  match l, h with
  | [], h => cases h
  | a :: r, _ => rfl
def z0 (n : Int) : Bool := n == 0
def l0 {α : Type} (l : List α) : Bool := (l.length : Int) == 0
def wi (a b c : Int) : Bool := decide (b ≤ a) && decide (a ≤ c)
def ndB (l : List (Ty.El tHop)) : Bool := l.all (fun h => !(h.2.1 == 0)) && decide (0 < l.length)
def l1 {α : Type} (l : List α) : Bool := (l.length : Int) == 1

theorem s_bare (pf : Ty.El tPrefix) (pr cl ad me inn tg prf : Int) (path : List Int) (fr nx : Int) (hops : List (Ty.El tHop)) (dc : Bool) (u : Unit) : route_bare ((pf, pr, cl, ad, me, inn, tg, prf, path, fr, nx, hops, dc, u), ()) =
    some (z0 me && (z0 inn && (z0 prf && (z0 fr && (z0 nx && (l0 path && (l0 hops && !dc))))))) := by
  refine wp_val ?_
  unfold route_bare z0 l0
  dsimp only
  repeat' (with_reducible first
    | refine wp_bind ?_
    | refine wp_bif (fun _ => ?_) (fun _ => ?_)
    | refine wp_some ?_)
  all_goals try dsimp only at *
  all_goals simp only [*, Bool.and_true, Bool.true_and, Bool.and_false, Bool.false_and, Bool.not_true, Bool.not_false, Bool.or_true, Bool.true_or, Bool.or_false, Bool.false_or, cond_true, cond_false, bne, show IntKind.wrap IntKind.i64 ((0 : Int) + 1) = 1 from rfl, show IntKind.wrap IntKind.i64 ((1 : Int) + 1) = 2 from rfl, show IntKind.wrap IntKind.i64 ((2 : Int) + 1) = 3 from rfl, show ((1 : Int) == 1) = true from rfl, show ((2 : Int) == 1) = false from rfl, show ((3 : Int) == 1) = false from rfl, show ((0 : Int) == 1) = false from rfl, show ((0 : Int) == 0) = true from rfl, List.length_nil, show (((0 : Nat) : Int) == 0) = true from rfl]

theorem s_plain (x : Ty.El tRoute) (a b c : Bool) : ref15_plain (x, a, b, c, ()) = some ((a || z0 x.2.2.2.2.2.1) && ((b || (z0 x.2.2.2.2.2.2.2.1 && (l0 x.2.2.2.2.2.2.2.2.1 && z0 x.2.2.2.2.2.2.2.2.2.1))) && (c || z0 x.2.2.2.2.2.2.2.2.2.2.1))) := by
  refine wp_val ?_
  unfold ref15_plain z0 l0
  dsimp only
  repeat' (with_reducible first
    | refine wp_bind ?_
    | refine wp_bif (fun _ => ?_) (fun _ => ?_)
    | refine wp_some ?_)
  all_goals try dsimp only at *
  all_goals simp only [*, Bool.and_true, Bool.true_and, Bool.and_false, Bool.false_and, Bool.not_true, Bool.not_false, Bool.or_true, Bool.true_or, Bool.or_false, Bool.false_or, cond_true, cond_false, bne, show IntKind.wrap IntKind.i64 ((0 : Int) + 1) = 1 from rfl, show IntKind.wrap IntKind.i64 ((1 : Int) + 1) = 2 from rfl, show IntKind.wrap IntKind.i64 ((2 : Int) + 1) = 3 from rfl, show ((1 : Int) == 1) = true from rfl, show ((2 : Int) == 1) = false from rfl, show ((3 : Int) == 1) = false from rfl, show ((0 : Int) == 1) = false from rfl, show ((0 : Int) == 0) = true from rfl, List.length_nil, show (((0 : Nat) : Int) == 0) = true from rfl]

theorem s_static (pf : Ty.El tPrefix) (pr cl ad me inn tg prf : Int) (path : List Int) (fr nx : Int) (hops : List (Ty.El tHop)) (dc : Bool) (hh : hops.length ≤ 1152921504606846976) : route_validStatic ((pf, pr, cl, ad, me, inn, tg, prf, path, fr, nx, hops, dc, ()), ()) = some (z0 cl && ((bif z0 nx then (bif drB hops then !dc else dc) else (!drB hops && !dc)) && (z0 me && (z0 inn && (z0 prf && (z0 fr && (l0 path && (drB hops || l0 hops)))))))) := by
  refine wp_val ?_
  unfold route_validStatic
  dsimp only
  repeat' (with_reducible first
    | refine wp_bind ?_
    | refine wp_eq (s_direct _) ?_
    | refine wp_eq (s_bare _ _ _ _ _ _ _ _ _ _ _ _ _ _) ?_
    | refine wp_eq (s_bareT _) ?_
    | refine wp_eq (s_within _ _ _) ?_
    | refine wp_eq (d_within _ _ _) ?_
    | refine wp_eq (s_indirect _ hh) ?_
    | refine wp_eq (s_hops _ _ hh) ?_
    | refine wp_eq (s_plain _ _ _ _) ?_
    | refine wp_eq (s_idx0 _ (by assumption)) ?_
    | refine wp_bif (fun _ => ?_) (fun _ => ?_)
    | refine wp_some ?_)
  all_goals unfold z0 l0
  all_goals try dsimp only at *
  all_goals try simp only [bne, Bool.not_eq_true', Bool.not_eq_false', Bool.false_or, Bool.true_or, Bool.or_true, Bool.or_false, Bool.and_true, Bool.true_and, show IntKind.wrap IntKind.i64 ((0 : Int) + 1) = 1 from rfl, show IntKind.wrap IntKind.i64 ((1 : Int) + 1) = 2 from rfl, show IntKind.wrap IntKind.i64 ((2 : Int) + 1) = 3 from rfl, show ((1 : Int) == 1) = true from rfl, show ((2 : Int) == 1) = false from rfl, show ((3 : Int) == 1) = false from rfl, show ((0 : Int) == 1) = false from rfl, show ((0 : Int) == 0) = true from rfl, List.length_nil, show (((0 : Nat) : Int) == 0) = true from rfl] at *
  all_goals try simp only [*, Bool.and_true, Bool.true_and, Bool.and_false, Bool.false_and, Bool.not_true, Bool.not_false, Bool.or_true, Bool.true_or, Bool.or_false, Bool.false_or, cond_true, cond_false, bne, show IntKind.wrap IntKind.i64 ((0 : Int) + 1) = 1 from rfl, show IntKind.wrap IntKind.i64 ((1 : Int) + 1) = 2 from rfl, show IntKind.wrap IntKind.i64 ((2 : Int) + 1) = 3 from rfl, show ((1 : Int) == 1) = true from rfl, show ((2 : Int) == 1) = false from rfl, show ((3 : Int) == 1) = false from rfl, show ((0 : Int) == 1) = false from rfl, show ((0 : Int) == 0) = true from rfl, List.length_nil, show (((0 : Nat) : Int) == 0) = true from rfl]
  all_goals first | contradiction | rfl | (simp_all only [Bool.and_true, Bool.true_and, Bool.and_false, Bool.false_and, Bool.not_true, Bool.not_false, cond_true, cond_false, Bool.false_eq_true, Bool.true_eq_false]; done)

theorem s_ls (pf : Ty.El tPrefix) (pr cl ad me inn tg prf : Int) (path : List Int) (fr nx : Int) (hops : List (Ty.El tHop)) (dc : Bool) (hh : hops.length ≤ 1152921504606846976) : route_validLinkState ((pf, pr, cl, ad, me, inn, tg, prf, path, fr, nx, hops, dc, ()), ()) = some (bif dc then (cl == 1) && (z0 tg && (z0 me && (z0 inn && (z0 prf && (z0 fr && (z0 nx && (l0 path && l0 hops))))))) else (wi cl 1 4 && (wi me 0 1073741824 && ndB hops)) && ((bif (cl == 4) && wi inn 0 1073741824 then true else z0 inn) && (z0 prf && (z0 fr && (z0 nx && l0 path))))) := by
  refine wp_val ?_
  unfold route_validLinkState
  dsimp only
  repeat' (with_reducible first
    | refine wp_bind ?_
    | refine wp_eq (s_direct _) ?_
    | refine wp_eq (s_bare _ _ _ _ _ _ _ _ _ _ _ _ _ _) ?_
    | refine wp_eq (s_bareT _) ?_
    | refine wp_eq (s_within _ _ _) ?_
    | refine wp_eq (d_within _ _ _) ?_
    | refine wp_eq (s_indirect _ hh) ?_
    | refine wp_eq (s_hops _ _ hh) ?_
    | refine wp_eq (s_plain _ _ _ _) ?_
    | refine wp_eq (s_idx0 _ (by assumption)) ?_
    | refine wp_bif (fun _ => ?_) (fun _ => ?_)
    | refine wp_some ?_)
  all_goals try simp only [z0, l0, wi, l1, ndB] at *
  all_goals try dsimp only at *
  all_goals try simp only [bne, Bool.not_eq_true', Bool.not_eq_false', Bool.false_or, Bool.true_or, Bool.or_true, Bool.or_false, Bool.and_true, Bool.true_and, show IntKind.wrap IntKind.i64 ((0 : Int) + 1) = 1 from rfl, show IntKind.wrap IntKind.i64 ((1 : Int) + 1) = 2 from rfl, show IntKind.wrap IntKind.i64 ((2 : Int) + 1) = 3 from rfl, show ((1 : Int) == 1) = true from rfl, show ((2 : Int) == 1) = false from rfl, show ((3 : Int) == 1) = false from rfl, show ((0 : Int) == 1) = false from rfl, show ((0 : Int) == 0) = true from rfl, List.length_nil, show (((0 : Nat) : Int) == 0) = true from rfl] at *
  all_goals try simp only [*, Bool.and_true, Bool.true_and, Bool.and_false, Bool.false_and, Bool.not_true, Bool.not_false, Bool.or_true, Bool.true_or, Bool.or_false, Bool.false_or, cond_true, cond_false, bne, show IntKind.wrap IntKind.i64 ((0 : Int) + 1) = 1 from rfl, show IntKind.wrap IntKind.i64 ((1 : Int) + 1) = 2 from rfl, show IntKind.wrap IntKind.i64 ((2 : Int) + 1) = 3 from rfl, show ((1 : Int) == 1) = true from rfl, show ((2 : Int) == 1) = false from rfl, show ((3 : Int) == 1) = false from rfl, show ((0 : Int) == 1) = false from rfl, show ((0 : Int) == 0) = true from rfl, List.length_nil, show (((0 : Nat) : Int) == 0) = true from rfl]
  all_goals first | contradiction | rfl | (simp_all only [Bool.and_true, Bool.true_and, Bool.and_false, Bool.false_and, Bool.not_true, Bool.not_false, cond_true, cond_false, Bool.false_eq_true, Bool.true_eq_false]; done)

theorem s_dv (pf : Ty.El tPrefix) (pr cl ad me inn tg prf : Int) (path : List Int) (fr nx : Int) (hops : List (Ty.El tHop)) (dc : Bool) (hh : hops.length ≤ 1152921504606846976) : route_validDistance ((pf, pr, cl, ad, me, inn, tg, prf, path, fr, nx, hops, dc, ()), ()) = some (bif cl == 1 then ((me == 1) && (z0 tg && drB hops)) && (z0 inn && (z0 prf && (z0 fr && (z0 nx && (l0 path && !dc))))) else bif cl == 2 then wi me 1 15 && (z0 inn && (z0 prf && (z0 fr && (z0 nx && (l0 path && (l0 hops && !dc)))))) else bif cl == 3 then (wi me 1 15 && ndB hops) && (z0 inn && (z0 prf && (z0 fr && (z0 nx && (l0 path && !dc))))) else false) := by
  refine wp_val ?_
  unfold route_validDistance
  dsimp only
  repeat' (with_reducible first
    | refine wp_bind ?_
    | refine wp_eq (s_direct _) ?_
    | refine wp_eq (s_bare _ _ _ _ _ _ _ _ _ _ _ _ _ _) ?_
    | refine wp_eq (s_bareT _) ?_
    | refine wp_eq (s_within _ _ _) ?_
    | refine wp_eq (d_within _ _ _) ?_
    | refine wp_eq (s_indirect _ hh) ?_
    | refine wp_eq (s_hops _ _ hh) ?_
    | refine wp_eq (s_plain _ _ _ _) ?_
    | refine wp_eq (s_idx0 _ (by assumption)) ?_
    | refine wp_bif (fun _ => ?_) (fun _ => ?_)
    | refine wp_some ?_)
  all_goals try simp only [z0, l0, wi, l1, ndB] at *
  all_goals try dsimp only at *
  all_goals try simp only [bne, Bool.not_eq_true', Bool.not_eq_false', Bool.false_or, Bool.true_or, Bool.or_true, Bool.or_false, Bool.and_true, Bool.true_and, show IntKind.wrap IntKind.i64 ((0 : Int) + 1) = 1 from rfl, show IntKind.wrap IntKind.i64 ((1 : Int) + 1) = 2 from rfl, show IntKind.wrap IntKind.i64 ((2 : Int) + 1) = 3 from rfl, show ((1 : Int) == 1) = true from rfl, show ((2 : Int) == 1) = false from rfl, show ((3 : Int) == 1) = false from rfl, show ((0 : Int) == 1) = false from rfl, show ((0 : Int) == 0) = true from rfl, List.length_nil, show (((0 : Nat) : Int) == 0) = true from rfl] at *
  all_goals try simp only [*, Bool.and_true, Bool.true_and, Bool.and_false, Bool.false_and, Bool.not_true, Bool.not_false, Bool.or_true, Bool.true_or, Bool.or_false, Bool.false_or, cond_true, cond_false, bne, show IntKind.wrap IntKind.i64 ((0 : Int) + 1) = 1 from rfl, show IntKind.wrap IntKind.i64 ((1 : Int) + 1) = 2 from rfl, show IntKind.wrap IntKind.i64 ((2 : Int) + 1) = 3 from rfl, show ((1 : Int) == 1) = true from rfl, show ((2 : Int) == 1) = false from rfl, show ((3 : Int) == 1) = false from rfl, show ((0 : Int) == 1) = false from rfl, show ((0 : Int) == 0) = true from rfl, List.length_nil, show (((0 : Nat) : Int) == 0) = true from rfl]
  all_goals first | contradiction | rfl | (simp_all only [Bool.and_true, Bool.true_and, Bool.and_false, Bool.false_and, Bool.not_true, Bool.not_false, cond_true, cond_false, Bool.false_eq_true, Bool.true_eq_false]; done)

theorem d_static (pf : Ty.El tPrefix) (pr cl ad me inn tg prf : Int) (path : List Int) (fr nx : Int) (hops : List (Ty.El tHop)) (dc : Bool) (hh : hops.length ≤ 1152921504606846976) : ref15_validStatic ((pf, pr, cl, ad, me, inn, tg, prf, path, fr, nx, hops, dc, ()), ()) = some ((z0 cl && (z0 me && (wi ad 1 255 && (z0 inn && (z0 prf && (l0 path && z0 fr)))))) && (bif z0 nx then (bif dc then l0 hops else l1 hops && (dec (HO hops) && hops.all (fun h => (h.2.1 == 0) == true))) else l0 hops && !dc)) := by
  refine wp_val ?_
  unfold ref15_validStatic
  dsimp only
  repeat' (with_reducible first
    | refine wp_bind ?_
    | refine wp_eq (s_direct _) ?_
    | refine wp_eq (s_bare _ _ _ _ _ _ _ _ _ _ _ _ _ _) ?_
    | refine wp_eq (s_bareT _) ?_
    | refine wp_eq (s_within _ _ _) ?_
    | refine wp_eq (d_within _ _ _) ?_
    | refine wp_eq (s_indirect _ hh) ?_
    | refine wp_eq (s_hops _ _ hh) ?_
    | refine wp_eq (s_plain _ _ _ _) ?_
    | refine wp_eq (s_idx0 _ (by assumption)) ?_
    | refine wp_bif (fun _ => ?_) (fun _ => ?_)
    | refine wp_some ?_)
  all_goals try simp only [z0, l0, wi, l1, ndB] at *
  all_goals try dsimp only at *
  all_goals try simp only [bne, Bool.not_eq_true', Bool.not_eq_false', Bool.false_or, Bool.true_or, Bool.or_true, Bool.or_false, Bool.and_true, Bool.true_and, show IntKind.wrap IntKind.i64 ((0 : Int) + 1) = 1 from rfl, show IntKind.wrap IntKind.i64 ((1 : Int) + 1) = 2 from rfl, show IntKind.wrap IntKind.i64 ((2 : Int) + 1) = 3 from rfl, show ((1 : Int) == 1) = true from rfl, show ((2 : Int) == 1) = false from rfl, show ((3 : Int) == 1) = false from rfl, show ((0 : Int) == 1) = false from rfl, show ((0 : Int) == 0) = true from rfl, List.length_nil, show (((0 : Nat) : Int) == 0) = true from rfl] at *
  all_goals try simp only [*, Bool.and_true, Bool.true_and, Bool.and_false, Bool.false_and, Bool.not_true, Bool.not_false, Bool.or_true, Bool.true_or, Bool.or_false, Bool.false_or, cond_true, cond_false, bne, show IntKind.wrap IntKind.i64 ((0 : Int) + 1) = 1 from rfl, show IntKind.wrap IntKind.i64 ((1 : Int) + 1) = 2 from rfl, show IntKind.wrap IntKind.i64 ((2 : Int) + 1) = 3 from rfl, show ((1 : Int) == 1) = true from rfl, show ((2 : Int) == 1) = false from rfl, show ((3 : Int) == 1) = false from rfl, show ((0 : Int) == 1) = false from rfl, show ((0 : Int) == 0) = true from rfl, List.length_nil, show (((0 : Nat) : Int) == 0) = true from rfl]
  all_goals first | contradiction | rfl | (simp_all only [Bool.and_true, Bool.true_and, Bool.and_false, Bool.false_and, Bool.not_true, Bool.not_false, cond_true, cond_false, Bool.false_eq_true, Bool.true_eq_false]; done)

theorem d_ls (pf : Ty.El tPrefix) (pr cl ad me inn tg prf : Int) (path : List Int) (fr nx : Int) (hops : List (Ty.El tHop)) (dc : Bool) (hh : hops.length ≤ 1152921504606846976) : ref15_validLinkState ((pf, pr, cl, ad, me, inn, tg, prf, path, fr, nx, hops, dc, ()), ()) = some ((wi cl 1 4 && (wi ad 1 255 && (wi me 0 1073741824 && (((z0 prf && (l0 path && z0 fr))) && z0 nx)))) && ((wi inn 0 1073741824 && ((cl == 4) || z0 inn)) && (bif dc then (cl == 1) && (z0 me && (z0 tg && l0 hops)) else decide ((hops.length : Int) > 0) && (dec (HO hops) && hops.all (fun h => (h.2.1 == 0) == false))))) := by
  refine wp_val ?_
  unfold ref15_validLinkState
  dsimp only
  repeat' (with_reducible first
    | refine wp_bind ?_
    | refine wp_eq (s_direct _) ?_
    | refine wp_eq (s_bare _ _ _ _ _ _ _ _ _ _ _ _ _ _) ?_
    | refine wp_eq (s_bareT _) ?_
    | refine wp_eq (s_within _ _ _) ?_
    | refine wp_eq (d_within _ _ _) ?_
    | refine wp_eq (s_indirect _ hh) ?_
    | refine wp_eq (s_hops _ _ hh) ?_
    | refine wp_eq (s_plain _ _ _ _) ?_
    | refine wp_eq (s_idx0 _ (by assumption)) ?_
    | refine wp_bif (fun _ => ?_) (fun _ => ?_)
    | refine wp_some ?_)
  all_goals try simp only [z0, l0, wi, l1, ndB] at *
  all_goals try dsimp only at *
  all_goals try simp only [bne, Bool.not_eq_true', Bool.not_eq_false', Bool.false_or, Bool.true_or, Bool.or_true, Bool.or_false, Bool.and_true, Bool.true_and, show IntKind.wrap IntKind.i64 ((0 : Int) + 1) = 1 from rfl, show IntKind.wrap IntKind.i64 ((1 : Int) + 1) = 2 from rfl, show IntKind.wrap IntKind.i64 ((2 : Int) + 1) = 3 from rfl, show ((1 : Int) == 1) = true from rfl, show ((2 : Int) == 1) = false from rfl, show ((3 : Int) == 1) = false from rfl, show ((0 : Int) == 1) = false from rfl, show ((0 : Int) == 0) = true from rfl, List.length_nil, show (((0 : Nat) : Int) == 0) = true from rfl] at *
  all_goals try simp only [*, Bool.and_true, Bool.true_and, Bool.and_false, Bool.false_and, Bool.not_true, Bool.not_false, Bool.or_true, Bool.true_or, Bool.or_false, Bool.false_or, cond_true, cond_false, bne, show IntKind.wrap IntKind.i64 ((0 : Int) + 1) = 1 from rfl, show IntKind.wrap IntKind.i64 ((1 : Int) + 1) = 2 from rfl, show IntKind.wrap IntKind.i64 ((2 : Int) + 1) = 3 from rfl, show ((1 : Int) == 1) = true from rfl, show ((2 : Int) == 1) = false from rfl, show ((3 : Int) == 1) = false from rfl, show ((0 : Int) == 1) = false from rfl, show ((0 : Int) == 0) = true from rfl, List.length_nil, show (((0 : Nat) : Int) == 0) = true from rfl]
  all_goals first | contradiction | rfl | (simp_all only [Bool.and_true, Bool.true_and, Bool.and_false, Bool.false_and, Bool.not_true, Bool.not_false, cond_true, cond_false, Bool.false_eq_true, Bool.true_eq_false]; done)

theorem d_dv (pf : Ty.El tPrefix) (pr cl ad me inn tg prf : Int) (path : List Int) (fr nx : Int) (hops : List (Ty.El tHop)) (dc : Bool) (hh : hops.length ≤ 1152921504606846976) : ref15_validDistance ((pf, pr, cl, ad, me, inn, tg, prf, path, fr, nx, hops, dc, ()), ()) = some ((wi ad 1 255 && (wi me 1 15 && ((z0 inn && ((z0 prf && (l0 path && z0 fr)) && z0 nx)) && !dc))) && (bif cl == 1 then (me == 1) && (z0 tg && (l1 hops && (dec (HO hops) && hops.all (fun h => (h.2.1 == 0) == true)))) else bif cl == 2 then l0 hops else bif cl == 3 then decide ((hops.length : Int) > 0) && (dec (HO hops) && hops.all (fun h => (h.2.1 == 0) == false)) else false)) := by
  refine wp_val ?_
  unfold ref15_validDistance
  dsimp only
  repeat' (with_reducible first
    | refine wp_bind ?_
    | refine wp_eq (s_direct _) ?_
    | refine wp_eq (s_bare _ _ _ _ _ _ _ _ _ _ _ _ _ _) ?_
    | refine wp_eq (s_bareT _) ?_
    | refine wp_eq (s_within _ _ _) ?_
    | refine wp_eq (d_within _ _ _) ?_
    | refine wp_eq (s_indirect _ hh) ?_
    | refine wp_eq (s_hops _ _ hh) ?_
    | refine wp_eq (s_plain _ _ _ _) ?_
    | refine wp_eq (s_idx0 _ (by assumption)) ?_
    | refine wp_bif (fun _ => ?_) (fun _ => ?_)
    | refine wp_some ?_)
  all_goals try simp only [z0, l0, wi, l1, ndB] at *
  all_goals try dsimp only at *
  all_goals try simp only [bne, Bool.not_eq_true', Bool.not_eq_false', Bool.false_or, Bool.true_or, Bool.or_true, Bool.or_false, Bool.and_true, Bool.true_and, show IntKind.wrap IntKind.i64 ((0 : Int) + 1) = 1 from rfl, show IntKind.wrap IntKind.i64 ((1 : Int) + 1) = 2 from rfl, show IntKind.wrap IntKind.i64 ((2 : Int) + 1) = 3 from rfl, show ((1 : Int) == 1) = true from rfl, show ((2 : Int) == 1) = false from rfl, show ((3 : Int) == 1) = false from rfl, show ((0 : Int) == 1) = false from rfl, show ((0 : Int) == 0) = true from rfl, List.length_nil, show (((0 : Nat) : Int) == 0) = true from rfl] at *
  all_goals try simp only [*, Bool.and_true, Bool.true_and, Bool.and_false, Bool.false_and, Bool.not_true, Bool.not_false, Bool.or_true, Bool.true_or, Bool.or_false, Bool.false_or, cond_true, cond_false, bne, show IntKind.wrap IntKind.i64 ((0 : Int) + 1) = 1 from rfl, show IntKind.wrap IntKind.i64 ((1 : Int) + 1) = 2 from rfl, show IntKind.wrap IntKind.i64 ((2 : Int) + 1) = 3 from rfl, show ((1 : Int) == 1) = true from rfl, show ((2 : Int) == 1) = false from rfl, show ((3 : Int) == 1) = false from rfl, show ((0 : Int) == 1) = false from rfl, show ((0 : Int) == 0) = true from rfl, List.length_nil, show (((0 : Nat) : Int) == 0) = true from rfl]
  all_goals first | contradiction | rfl | (simp_all only [Bool.and_true, Bool.true_and, Bool.and_false, Bool.false_and, Bool.not_true, Bool.not_false, cond_true, cond_false, Bool.false_eq_true, Bool.true_eq_false]; done)

theorem s_pv (pf : Ty.El tPrefix) (pr cl ad me inn tg prf : Int) (path : List Int) (fr nx : Int) (hops : List (Ty.El tHop)) (dc : Bool) (hh : hops.length ≤ 1152921504606846976) : route_validPathVector ((pf, pr, cl, ad, me, inn, tg, prf, path, fr, nx, hops, dc, ()), ()) = some (bif cl == 1 then (wi me 0 16777215 && wi prf 0 1000000) && (z0 inn && (z0 fr && (z0 nx && (l0 path && (l0 hops && !dc))))) else bif cl == 2 then ((wi me 0 16777215 && wi prf 0 1000000) && dc) && (z0 inn && (z0 fr && (z0 nx && (l0 path && l0 hops)))) else bif (cl == 3) || (cl == 4) then (((wi me 0 16777215 && wi prf 0 1000000) && (!z0 fr && (l1 hops && ((hd hops).2.1 == fr)))) && ((cl == 4) || decide ((path.length : Int) > 0))) && (z0 inn && (z0 nx && !dc)) else false) := by
  refine wp_val ?_
  unfold route_validPathVector
  dsimp only
  repeat' (with_reducible first
    | refine wp_bind ?_
    | refine wp_eq (s_direct _) ?_
    | refine wp_eq (s_bare _ _ _ _ _ _ _ _ _ _ _ _ _ _) ?_
    | refine wp_eq (s_bareT _) ?_
    | refine wp_eq (s_within _ _ _) ?_
    | refine wp_eq (d_within _ _ _) ?_
    | refine wp_eq (s_indirect _ hh) ?_
    | refine wp_eq (s_hops _ _ hh) ?_
    | refine wp_eq (s_plain _ _ _ _) ?_
    | refine wp_eq (s_idx0 _ (by assumption)) ?_
    | refine wp_bif (fun _ => ?_) (fun _ => ?_)
    | refine wp_some ?_)
  all_goals try simp only [z0, l0, wi, l1, ndB] at *
  all_goals try dsimp only at *
  all_goals try simp only [bne, Bool.not_eq_true', Bool.not_eq_false', Bool.false_or, Bool.true_or, Bool.or_true, Bool.or_false, Bool.and_true, Bool.true_and, show IntKind.wrap IntKind.i64 ((0 : Int) + 1) = 1 from rfl, show IntKind.wrap IntKind.i64 ((1 : Int) + 1) = 2 from rfl, show IntKind.wrap IntKind.i64 ((2 : Int) + 1) = 3 from rfl, show ((1 : Int) == 1) = true from rfl, show ((2 : Int) == 1) = false from rfl, show ((3 : Int) == 1) = false from rfl, show ((0 : Int) == 1) = false from rfl, show ((0 : Int) == 0) = true from rfl, List.length_nil, show (((0 : Nat) : Int) == 0) = true from rfl] at *
  all_goals try simp only [*, Bool.and_true, Bool.true_and, Bool.and_false, Bool.false_and, Bool.not_true, Bool.not_false, Bool.or_true, Bool.true_or, Bool.or_false, Bool.false_or, cond_true, cond_false, bne, show IntKind.wrap IntKind.i64 ((0 : Int) + 1) = 1 from rfl, show IntKind.wrap IntKind.i64 ((1 : Int) + 1) = 2 from rfl, show IntKind.wrap IntKind.i64 ((2 : Int) + 1) = 3 from rfl, show ((1 : Int) == 1) = true from rfl, show ((2 : Int) == 1) = false from rfl, show ((3 : Int) == 1) = false from rfl, show ((0 : Int) == 1) = false from rfl, show ((0 : Int) == 0) = true from rfl, List.length_nil, show (((0 : Nat) : Int) == 0) = true from rfl]
  all_goals first | contradiction | rfl | (simp_all only [Bool.and_true, Bool.true_and, Bool.and_false, Bool.false_and, Bool.not_true, Bool.not_false, cond_true, cond_false, Bool.false_eq_true, Bool.true_eq_false]; done)

theorem d_pv (pf : Ty.El tPrefix) (pr cl ad me inn tg prf : Int) (path : List Int) (fr nx : Int) (hops : List (Ty.El tHop)) (dc : Bool) (hh : hops.length ≤ 1152921504606846976) : ref15_validPath ((pf, pr, cl, ad, me, inn, tg, prf, path, fr, nx, hops, dc, ()), ()) = some ((wi ad 1 255 && (wi me 0 16777215 && (wi prf 0 1000000 && (z0 inn && z0 nx)))) && (bif (cl == 1) || (cl == 2) then l0 path && (z0 fr && (l0 hops && (dc == (cl == 2)))) else bif (cl == 3) || (cl == 4) then ((cl == 4) || decide ((path.length : Int) > 0)) && (!z0 fr && (l1 hops && ((dec (HO hops) && hops.all (fun h => (h.2.1 == 0) == false)) && (((hd hops).2.1 == fr) && !dc)))) else false)) := by
  refine wp_val ?_
  unfold ref15_validPath
  dsimp only
  repeat' (with_reducible first
    | refine wp_bind ?_
    | refine wp_eq (s_direct _) ?_
    | refine wp_eq (s_bare _ _ _ _ _ _ _ _ _ _ _ _ _ _) ?_
    | refine wp_eq (s_bareT _) ?_
    | refine wp_eq (s_within _ _ _) ?_
    | refine wp_eq (d_within _ _ _) ?_
    | refine wp_eq (s_indirect _ hh) ?_
    | refine wp_eq (s_hops _ _ hh) ?_
    | refine wp_eq (s_plain _ _ _ _) ?_
    | refine wp_eq (s_idx0 _ (by assumption)) ?_
    | refine wp_bif (fun _ => ?_) (fun _ => ?_)
    | refine wp_some ?_)
  all_goals try simp only [z0, l0, wi, l1, ndB] at *
  all_goals try dsimp only at *
  all_goals try simp only [bne, Bool.not_eq_true', Bool.not_eq_false', Bool.false_or, Bool.true_or, Bool.or_true, Bool.or_false, Bool.and_true, Bool.true_and, show IntKind.wrap IntKind.i64 ((0 : Int) + 1) = 1 from rfl, show IntKind.wrap IntKind.i64 ((1 : Int) + 1) = 2 from rfl, show IntKind.wrap IntKind.i64 ((2 : Int) + 1) = 3 from rfl, show ((1 : Int) == 1) = true from rfl, show ((2 : Int) == 1) = false from rfl, show ((3 : Int) == 1) = false from rfl, show ((0 : Int) == 1) = false from rfl, show ((0 : Int) == 0) = true from rfl, List.length_nil, show (((0 : Nat) : Int) == 0) = true from rfl] at *
  all_goals try simp only [*, Bool.and_true, Bool.true_and, Bool.and_false, Bool.false_and, Bool.not_true, Bool.not_false, Bool.or_true, Bool.true_or, Bool.or_false, Bool.false_or, cond_true, cond_false, bne, show IntKind.wrap IntKind.i64 ((0 : Int) + 1) = 1 from rfl, show IntKind.wrap IntKind.i64 ((1 : Int) + 1) = 2 from rfl, show IntKind.wrap IntKind.i64 ((2 : Int) + 1) = 3 from rfl, show ((1 : Int) == 1) = true from rfl, show ((2 : Int) == 1) = false from rfl, show ((3 : Int) == 1) = false from rfl, show ((0 : Int) == 1) = false from rfl, show ((0 : Int) == 0) = true from rfl, List.length_nil, show (((0 : Nat) : Int) == 0) = true from rfl]
  all_goals first | contradiction | rfl | (simp_all only [Bool.and_true, Bool.true_and, Bool.and_false, Bool.false_and, Bool.not_true, Bool.not_false, cond_true, cond_false, Bool.false_eq_true, Bool.true_eq_false]; done)
end Go.Ve

namespace Go.Ve
open Go
set_option maxRecDepth 1000000
set_option maxHeartbeats 4000000

theorem f_dr (l : List (Ty.El tHop)) : drB l = (l1 l && l.all (fun h => (h.2.1 == 0) == true)) := by
  match l with
  | [] => rfl
  | [h] => simp [drB, l1]
  | a :: b :: r =>
    have : l1 (a :: b :: r) = false := by unfold l1; rw [beq_eq_false_iff_ne]; simp; omega
    rw [this]; rfl

theorem f_nd (l : List (Ty.El tHop)) : ndB l = (decide ((l.length : Int) > 0) && l.all (fun h => (h.2.1 == 0) == false)) := by
  unfold ndB
  rw [Bool.and_comm]
  congr 1
  · simp
  · congr 1
    funext h
    cases (h.2.1 == 0) <;> rfl

theorem f_ho (l : List (Ty.El tHop)) (h : l0 l = true) : dec (HO l) = true := by
  match l, h with
  | [], _ => exact HO_nil
  | a :: r, h => unfold l0 at h; simp at h; omega

theorem f_01 (l : List (Ty.El tHop)) (h : l1 l = true) : l0 l = false := by
  unfold l1 at h; unfold l0
  have h : (l.length : Int) = 1 := by simpa using h
  rw [h]; rfl

theorem f_hd (l : List (Ty.El tHop)) (fr : Int) (h : l1 l = true) (h2 : ((hd l).2.1 == fr) = true) (h3 : z0 fr = false) : l.all (fun h => (h.2.1 == 0) == false) = true := by
  match l, h with
  | [a], _ =>
    unfold hd at h2
    simp [z0] at h2 h3 ⊢
    rw [h2]; exact h3
  | [], h => cases h
  | a :: b :: r, h => unfold l1 at h; simp at h; omega

theorem e_static (cl ad me inn tg prf : Int) (path : List Int) (fr nx : Int) (hops : List (Ty.El tHop)) (dc : Bool) : (dec (HO hops) && (wi ad 1 255 && (z0 cl && ((bif z0 nx then (bif drB hops then !dc else dc) else (!drB hops && !dc)) && (z0 me && (z0 inn && (z0 prf && (z0 fr && (l0 path && (drB hops || l0 hops)))))))))) = ((z0 cl && (z0 me && (wi ad 1 255 && (z0 inn && (z0 prf && (l0 path && z0 fr)))))) && (bif z0 nx then (bif dc then l0 hops else l1 hops && (dec (HO hops) && hops.all (fun h => (h.2.1 == 0) == true))) else l0 hops && !dc)) := by
  have h1 := f_ho hops
  have h2 := f_01 hops
  have h3 := f_hd hops fr
  have h4 : (cl == 1) = true → wi cl 1 4 = true := fun h => by rw [show cl = 1 from by simpa using h]; rfl
  have h5 : z0 inn = true → wi inn 0 1073741824 = true := fun h => by rw [show inn = 0 from by simpa [z0] using h]; rfl
  have h6 : z0 me = true → wi me 0 1073741824 = true := fun h => by rw [show me = 0 from by simpa [z0] using h]; rfl
  have h7 : (me == 1) = true → wi me 1 15 = true := fun h => by rw [show me = 1 from by simpa using h]; rfl
  have h8 : (cl == 1) = true → (cl == 2) = false := fun h => by rw [show cl = 1 from by simpa using h]; rfl
  have h9 : (cl == 1) = true → (cl == 4) = false := fun h => by rw [show cl = 1 from by simpa using h]; rfl
  have h10 : (cl == 1) = true → (cl == 3) = false := fun h => by rw [show cl = 1 from by simpa using h]; rfl
  have h11 : (cl == 2) = true → (cl == 4) = false := fun h => by rw [show cl = 2 from by simpa using h]; rfl
  try simp only [f_dr, f_nd]
  generalize dec (HO hops) = a1 at *
  generalize wi ad 1 255 = a2 at *
  generalize z0 cl = a3 at *
  generalize wi inn 0 1073741824 = a4 at *
  generalize z0 inn = a5 at *
  generalize wi me 0 1073741824 = a6 at *
  generalize wi me 0 16777215 = a6' at *
  generalize wi me 1 15 = a7 at *
  generalize z0 me = a8 at *
  generalize z0 tg = a9 at *
  generalize z0 prf = b1 at *
  generalize wi prf 0 1000000 = b1' at *
  generalize l0 path = b2 at *
  generalize decide ((path.length : Int) > 0) = b3 at *
  generalize z0 fr = b4 at *
  generalize z0 nx = b5 at *
  generalize l0 hops = b6 at *
  generalize l1 hops = b7 at *
  generalize (hops.all (fun h => (h.2.1 == 0) == true)) = b8 at *
  generalize (hops.all (fun h => (h.2.1 == 0) == false)) = b9 at *
  generalize (decide ((hops.length : Int) > 0)) = c1 at *
  generalize ((hd hops).2.1 == fr) = c2 at *
  generalize wi cl 1 4 = c3 at *
  generalize (cl == 1) = c4 at *
  generalize (cl == 2) = c5 at *
  generalize (cl == 3) = c6 at *
  generalize (cl == 4) = c7 at *
  generalize (me == 1) = c8 at *
  grind

theorem e_ls (cl ad me inn tg prf : Int) (path : List Int) (fr nx : Int) (hops : List (Ty.El tHop)) (dc : Bool) : (dec (HO hops) && (wi ad 1 255 && (bif dc then (cl == 1) && (z0 tg && (z0 me && (z0 inn && (z0 prf && (z0 fr && (z0 nx && (l0 path && l0 hops))))))) else (wi cl 1 4 && (wi me 0 1073741824 && ndB hops)) && ((bif (cl == 4) && wi inn 0 1073741824 then true else z0 inn) && (z0 prf && (z0 fr && (z0 nx && l0 path))))))) = ((wi cl 1 4 && (wi ad 1 255 && (wi me 0 1073741824 && (((z0 prf && (l0 path && z0 fr))) && z0 nx)))) && ((wi inn 0 1073741824 && ((cl == 4) || z0 inn)) && (bif dc then (cl == 1) && (z0 me && (z0 tg && l0 hops)) else decide ((hops.length : Int) > 0) && (dec (HO hops) && hops.all (fun h => (h.2.1 == 0) == false))))) := by
  have h1 := f_ho hops
  have h2 := f_01 hops
  have h3 := f_hd hops fr
  have h4 : (cl == 1) = true → wi cl 1 4 = true := fun h => by rw [show cl = 1 from by simpa using h]; rfl
  have h5 : z0 inn = true → wi inn 0 1073741824 = true := fun h => by rw [show inn = 0 from by simpa [z0] using h]; rfl
  have h6 : z0 me = true → wi me 0 1073741824 = true := fun h => by rw [show me = 0 from by simpa [z0] using h]; rfl
  have h7 : (me == 1) = true → wi me 1 15 = true := fun h => by rw [show me = 1 from by simpa using h]; rfl
  have h8 : (cl == 1) = true → (cl == 2) = false := fun h => by rw [show cl = 1 from by simpa using h]; rfl
  have h9 : (cl == 1) = true → (cl == 4) = false := fun h => by rw [show cl = 1 from by simpa using h]; rfl
  have h10 : (cl == 1) = true → (cl == 3) = false := fun h => by rw [show cl = 1 from by simpa using h]; rfl
  have h11 : (cl == 2) = true → (cl == 4) = false := fun h => by rw [show cl = 2 from by simpa using h]; rfl
  try simp only [f_dr, f_nd]
  generalize dec (HO hops) = a1 at *
  generalize wi ad 1 255 = a2 at *
  generalize z0 cl = a3 at *
  generalize wi inn 0 1073741824 = a4 at *
  generalize z0 inn = a5 at *
  generalize wi me 0 1073741824 = a6 at *
  generalize wi me 0 16777215 = a6' at *
  generalize wi me 1 15 = a7 at *
  generalize z0 me = a8 at *
  generalize z0 tg = a9 at *
  generalize z0 prf = b1 at *
  generalize wi prf 0 1000000 = b1' at *
  generalize l0 path = b2 at *
  generalize decide ((path.length : Int) > 0) = b3 at *
  generalize z0 fr = b4 at *
  generalize z0 nx = b5 at *
  generalize l0 hops = b6 at *
  generalize l1 hops = b7 at *
  generalize (hops.all (fun h => (h.2.1 == 0) == true)) = b8 at *
  generalize (hops.all (fun h => (h.2.1 == 0) == false)) = b9 at *
  generalize (decide ((hops.length : Int) > 0)) = c1 at *
  generalize ((hd hops).2.1 == fr) = c2 at *
  generalize wi cl 1 4 = c3 at *
  generalize (cl == 1) = c4 at *
  generalize (cl == 2) = c5 at *
  generalize (cl == 3) = c6 at *
  generalize (cl == 4) = c7 at *
  generalize (me == 1) = c8 at *
  grind

theorem e_dv (cl ad me inn tg prf : Int) (path : List Int) (fr nx : Int) (hops : List (Ty.El tHop)) (dc : Bool) : (dec (HO hops) && (wi ad 1 255 && (bif cl == 1 then ((me == 1) && (z0 tg && drB hops)) && (z0 inn && (z0 prf && (z0 fr && (z0 nx && (l0 path && !dc))))) else bif cl == 2 then wi me 1 15 && (z0 inn && (z0 prf && (z0 fr && (z0 nx && (l0 path && (l0 hops && !dc)))))) else bif cl == 3 then (wi me 1 15 && ndB hops) && (z0 inn && (z0 prf && (z0 fr && (z0 nx && (l0 path && !dc))))) else false))) = ((wi ad 1 255 && (wi me 1 15 && ((z0 inn && ((z0 prf && (l0 path && z0 fr)) && z0 nx)) && !dc))) && (bif cl == 1 then (me == 1) && (z0 tg && (l1 hops && (dec (HO hops) && hops.all (fun h => (h.2.1 == 0) == true)))) else bif cl == 2 then l0 hops else bif cl == 3 then decide ((hops.length : Int) > 0) && (dec (HO hops) && hops.all (fun h => (h.2.1 == 0) == false)) else false)) := by
  have h1 := f_ho hops
  have h2 := f_01 hops
  have h3 := f_hd hops fr
  have h4 : (cl == 1) = true → wi cl 1 4 = true := fun h => by rw [show cl = 1 from by simpa using h]; rfl
  have h5 : z0 inn = true → wi inn 0 1073741824 = true := fun h => by rw [show inn = 0 from by simpa [z0] using h]; rfl
  have h6 : z0 me = true → wi me 0 1073741824 = true := fun h => by rw [show me = 0 from by simpa [z0] using h]; rfl
  have h7 : (me == 1) = true → wi me 1 15 = true := fun h => by rw [show me = 1 from by simpa using h]; rfl
  have h8 : (cl == 1) = true → (cl == 2) = false := fun h => by rw [show cl = 1 from by simpa using h]; rfl
  have h9 : (cl == 1) = true → (cl == 4) = false := fun h => by rw [show cl = 1 from by simpa using h]; rfl
  have h10 : (cl == 1) = true → (cl == 3) = false := fun h => by rw [show cl = 1 from by simpa using h]; rfl
  have h11 : (cl == 2) = true → (cl == 4) = false := fun h => by rw [show cl = 2 from by simpa using h]; rfl
  try simp only [f_dr, f_nd]
  generalize dec (HO hops) = a1 at *
  generalize wi ad 1 255 = a2 at *
  generalize z0 cl = a3 at *
  generalize wi inn 0 1073741824 = a4 at *
  generalize z0 inn = a5 at *
  generalize wi me 0 1073741824 = a6 at *
  generalize wi me 0 16777215 = a6' at *
  generalize wi me 1 15 = a7 at *
  generalize z0 me = a8 at *
  generalize z0 tg = a9 at *
  generalize z0 prf = b1 at *
  generalize wi prf 0 1000000 = b1' at *
  generalize l0 path = b2 at *
  generalize decide ((path.length : Int) > 0) = b3 at *
  generalize z0 fr = b4 at *
  generalize z0 nx = b5 at *
  generalize l0 hops = b6 at *
  generalize l1 hops = b7 at *
  generalize (hops.all (fun h => (h.2.1 == 0) == true)) = b8 at *
  generalize (hops.all (fun h => (h.2.1 == 0) == false)) = b9 at *
  generalize (decide ((hops.length : Int) > 0)) = c1 at *
  generalize ((hd hops).2.1 == fr) = c2 at *
  generalize wi cl 1 4 = c3 at *
  generalize (cl == 1) = c4 at *
  generalize (cl == 2) = c5 at *
  generalize (cl == 3) = c6 at *
  generalize (cl == 4) = c7 at *
  generalize (me == 1) = c8 at *
  grind

theorem e_pv (cl ad me inn tg prf : Int) (path : List Int) (fr nx : Int) (hops : List (Ty.El tHop)) (dc : Bool) : (dec (HO hops) && (wi ad 1 255 && (bif cl == 1 then (wi me 0 16777215 && wi prf 0 1000000) && (z0 inn && (z0 fr && (z0 nx && (l0 path && (l0 hops && !dc))))) else bif cl == 2 then ((wi me 0 16777215 && wi prf 0 1000000) && dc) && (z0 inn && (z0 fr && (z0 nx && (l0 path && l0 hops)))) else bif (cl == 3) || (cl == 4) then (((wi me 0 16777215 && wi prf 0 1000000) && (!z0 fr && (l1 hops && ((hd hops).2.1 == fr)))) && ((cl == 4) || decide ((path.length : Int) > 0))) && (z0 inn && (z0 nx && !dc)) else false))) = ((wi ad 1 255 && (wi me 0 16777215 && (wi prf 0 1000000 && (z0 inn && z0 nx)))) && (bif (cl == 1) || (cl == 2) then l0 path && (z0 fr && (l0 hops && (dc == (cl == 2)))) else bif (cl == 3) || (cl == 4) then ((cl == 4) || decide ((path.length : Int) > 0)) && (!z0 fr && (l1 hops && ((dec (HO hops) && hops.all (fun h => (h.2.1 == 0) == false)) && (((hd hops).2.1 == fr) && !dc)))) else false)) := by
  have h1 := f_ho hops
  have h2 := f_01 hops
  have h3 := f_hd hops fr
  have h4 : (cl == 1) = true → wi cl 1 4 = true := fun h => by rw [show cl = 1 from by simpa using h]; rfl
  have h5 : z0 inn = true → wi inn 0 1073741824 = true := fun h => by rw [show inn = 0 from by simpa [z0] using h]; rfl
  have h6 : z0 me = true → wi me 0 1073741824 = true := fun h => by rw [show me = 0 from by simpa [z0] using h]; rfl
  have h7 : (me == 1) = true → wi me 1 15 = true := fun h => by rw [show me = 1 from by simpa using h]; rfl
  have h8 : (cl == 1) = true → (cl == 2) = false := fun h => by rw [show cl = 1 from by simpa using h]; rfl
  have h9 : (cl == 1) = true → (cl == 4) = false := fun h => by rw [show cl = 1 from by simpa using h]; rfl
  have h10 : (cl == 1) = true → (cl == 3) = false := fun h => by rw [show cl = 1 from by simpa using h]; rfl
  have h11 : (cl == 2) = true → (cl == 4) = false := fun h => by rw [show cl = 2 from by simpa using h]; rfl
  try simp only [f_dr, f_nd]
  generalize dec (HO hops) = a1 at *
  generalize wi ad 1 255 = a2 at *
  generalize z0 cl = a3 at *
  generalize wi inn 0 1073741824 = a4 at *
  generalize z0 inn = a5 at *
  generalize wi me 0 1073741824 = a6 at *
  generalize wi me 0 16777215 = a6' at *
  generalize wi me 1 15 = a7 at *
  generalize z0 me = a8 at *
  generalize z0 tg = a9 at *
  generalize z0 prf = b1 at *
  generalize wi prf 0 1000000 = b1' at *
  generalize l0 path = b2 at *
  generalize decide ((path.length : Int) > 0) = b3 at *
  generalize z0 fr = b4 at *
  generalize z0 nx = b5 at *
  generalize l0 hops = b6 at *
  generalize l1 hops = b7 at *
  generalize (hops.all (fun h => (h.2.1 == 0) == true)) = b8 at *
  generalize (hops.all (fun h => (h.2.1 == 0) == false)) = b9 at *
  generalize (decide ((hops.length : Int) > 0)) = c1 at *
  generalize ((hd hops).2.1 == fr) = c2 at *
  generalize wi cl 1 4 = c3 at *
  generalize (cl == 1) = c4 at *
  generalize (cl == 2) = c5 at *
  generalize (cl == 3) = c6 at *
  generalize (cl == 4) = c7 at *
  generalize (me == 1) = c8 at *
  grind

end Go.Ve

namespace Go.Ve
open Go
set_option maxRecDepth 1000000
set_option maxHeartbeats 4000000

theorem s_Valid (pf : Ty.El tPrefix) (pr cl ad me inn tg prf : Int) (path : List Int) (fr nx : Int) (hops : List (Ty.El tHop)) (dc : Bool) (hx : RtB (pf, pr, cl, ad, me, inn, tg, prf, path, fr, nx, hops, dc, ())) : route_Valid ((pf, pr, cl, ad, me, inn, tg, prf, path, fr, nx, hops, dc, ()), ()) = some ((((validB pf && decide (0 ≤ tg)) && (decide (tg ≤ 65535) && decide (path.length ≤ 64))) && (dec (HO hops) && dec (PO path))) && (bif pr == 1 then (z0 cl && (z0 ad && (z0 tg && drB hops))) && (z0 me && (z0 inn && (z0 prf && (z0 fr && (z0 nx && (l0 path && !dc)))))) else (!decide (ad < 1) && !decide (ad > 255)) && (bif pr == 2 then (z0 cl && ((bif z0 nx then (bif drB hops then !dc else dc) else (!drB hops && !dc)) && (z0 me && (z0 inn && (z0 prf && (z0 fr && (l0 path && (drB hops || l0 hops)))))))) else bif pr == 3 then (bif dc then (cl == 1) && (z0 tg && (z0 me && (z0 inn && (z0 prf && (z0 fr && (z0 nx && (l0 path && l0 hops))))))) else (wi cl 1 4 && (wi me 0 1073741824 && ndB hops)) && ((bif (cl == 4) && wi inn 0 1073741824 then true else z0 inn) && (z0 prf && (z0 fr && (z0 nx && l0 path))))) else bif pr == 4 then (bif cl == 1 then ((me == 1) && (z0 tg && drB hops)) && (z0 inn && (z0 prf && (z0 fr && (z0 nx && (l0 path && !dc))))) else bif cl == 2 then wi me 1 15 && (z0 inn && (z0 prf && (z0 fr && (z0 nx && (l0 path && (l0 hops && !dc)))))) else bif cl == 3 then (wi me 1 15 && ndB hops) && (z0 inn && (z0 prf && (z0 fr && (z0 nx && (l0 path && !dc))))) else false) else bif pr == 5 then (bif cl == 1 then (wi me 0 16777215 && wi prf 0 1000000) && (z0 inn && (z0 fr && (z0 nx && (l0 path && (l0 hops && !dc))))) else bif cl == 2 then ((wi me 0 16777215 && wi prf 0 1000000) && dc) && (z0 inn && (z0 fr && (z0 nx && (l0 path && l0 hops)))) else bif (cl == 3) || (cl == 4) then (((wi me 0 16777215 && wi prf 0 1000000) && (!z0 fr && (l1 hops && ((hd hops).2.1 == fr)))) && ((cl == 4) || decide ((path.length : Int) > 0))) && (z0 inn && (z0 nx && !dc)) else false) else false))) := by
  have hh := hx.hops
  simp only at hh
  refine wp_val ?_
  unfold route_Valid
  dsimp only
  refine wp_bind (wp_eq (s_common _ hx) ?_)
  dsimp only
  generalize (((validB pf && decide (0 ≤ tg)) && (decide (tg ≤ 65535) && decide (path.length ≤ 64))) && (dec (HO hops) && dec (PO path))) = c
  cases c with
  | false => exact wp_some rfl
  | true =>
  simp only [Bool.not_true, cond_false, Bool.true_and]
  repeat' (with_reducible first
    | refine wp_bind ?_
    | refine wp_eq (s_direct _) ?_
    | refine wp_eq (s_bare _ _ _ _ _ _ _ _ _ _ _ _ _ _) ?_
    | refine wp_eq (s_static _ _ _ _ _ _ _ _ _ _ _ _ _ hh) ?_
    | refine wp_eq (s_ls _ _ _ _ _ _ _ _ _ _ _ _ _ hh) ?_
    | refine wp_eq (s_dv _ _ _ _ _ _ _ _ _ _ _ _ _ hh) ?_
    | refine wp_eq (s_pv _ _ _ _ _ _ _ _ _ _ _ _ _ hh) ?_
    | refine wp_eq (d_static _ _ _ _ _ _ _ _ _ _ _ _ _ hh) ?_
    | refine wp_eq (d_ls _ _ _ _ _ _ _ _ _ _ _ _ _ hh) ?_
    | refine wp_eq (d_dv _ _ _ _ _ _ _ _ _ _ _ _ _ hh) ?_
    | refine wp_eq (d_pv _ _ _ _ _ _ _ _ _ _ _ _ _ hh) ?_
    | refine wp_eq (s_hops _ _ hh) ?_
    | refine wp_eq (s_plain _ _ _ _) ?_
    | refine wp_bif (fun _ => ?_) (fun _ => ?_)
    | refine wp_some ?_)
  all_goals try dsimp only at *
  all_goals try simp only [z0, l0, l1] at *
  all_goals try simp only [bne, Bool.not_eq_true', Bool.not_eq_false', Bool.false_or, Bool.true_or, Bool.or_true, Bool.or_false, Bool.and_true, Bool.true_and] at *
  all_goals try simp only [*, Bool.and_true, Bool.true_and, Bool.and_false, Bool.false_and, Bool.not_true, Bool.not_false, Bool.or_true, Bool.true_or, Bool.or_false, Bool.false_or, cond_true, cond_false, bne, List.length_nil, show (((0 : Nat) : Int) == 0) = true from rfl]
  all_goals first | contradiction | rfl | (simp_all only [Bool.and_true, Bool.true_and, Bool.and_false, Bool.false_and, Bool.not_true, Bool.not_false, cond_true, cond_false, Bool.false_eq_true, Bool.true_eq_false]; done)

theorem d_Valid (pf : Ty.El tPrefix) (pr cl ad me inn tg prf : Int) (path : List Int) (fr nx : Int) (hops : List (Ty.El tHop)) (dc : Bool) (hx : RtB (pf, pr, cl, ad, me, inn, tg, prf, path, fr, nx, hops, dc, ())) : ref15_Valid ((pf, pr, cl, ad, me, inn, tg, prf, path, fr, nx, hops, dc, ()), ()) = some (((validB pf && decide (0 ≤ tg)) && (decide (tg ≤ 65535) && decide (path.length ≤ 64))) && (dec (PO path) && (bif pr == 1 then z0 cl && (z0 ad && (z0 me && (z0 tg && ((z0 inn && ((z0 prf && (l0 path && z0 fr)) && z0 nx)) && (!dc && (l1 hops && (dec (HO hops) && hops.all (fun h => (h.2.1 == 0) == true)))))))) else bif pr == 2 then ((z0 cl && (z0 me && (wi ad 1 255 && (z0 inn && (z0 prf && (l0 path && z0 fr)))))) && (bif z0 nx then (bif dc then l0 hops else l1 hops && (dec (HO hops) && hops.all (fun h => (h.2.1 == 0) == true))) else l0 hops && !dc)) else bif pr == 3 then ((wi cl 1 4 && (wi ad 1 255 && (wi me 0 1073741824 && (((z0 prf && (l0 path && z0 fr))) && z0 nx)))) && ((wi inn 0 1073741824 && ((cl == 4) || z0 inn)) && (bif dc then (cl == 1) && (z0 me && (z0 tg && l0 hops)) else decide ((hops.length : Int) > 0) && (dec (HO hops) && hops.all (fun h => (h.2.1 == 0) == false))))) else bif pr == 4 then ((wi ad 1 255 && (wi me 1 15 && ((z0 inn && ((z0 prf && (l0 path && z0 fr)) && z0 nx)) && !dc))) && (bif cl == 1 then (me == 1) && (z0 tg && (l1 hops && (dec (HO hops) && hops.all (fun h => (h.2.1 == 0) == true)))) else bif cl == 2 then l0 hops else bif cl == 3 then decide ((hops.length : Int) > 0) && (dec (HO hops) && hops.all (fun h => (h.2.1 == 0) == false)) else false)) else bif pr == 5 then ((wi ad 1 255 && (wi me 0 16777215 && (wi prf 0 1000000 && (z0 inn && z0 nx)))) && (bif (cl == 1) || (cl == 2) then l0 path && (z0 fr && (l0 hops && (dc == (cl == 2)))) else bif (cl == 3) || (cl == 4) then ((cl == 4) || decide ((path.length : Int) > 0)) && (!z0 fr && (l1 hops && ((dec (HO hops) && hops.all (fun h => (h.2.1 == 0) == false)) && (((hd hops).2.1 == fr) && !dc)))) else false)) else false))) := by
  have hh := hx.hops
  have hp := hx.path
  simp only at hh hp
  refine wp_val ?_
  unfold ref15_Valid
  dsimp only
  refine wp_bind ((show Wp _ (fun b : Bool => b = !((validB pf && decide (0 ≤ tg)) && (decide (tg ≤ 65535) && decide (path.length ≤ 64)))) from ?_).mono (fun b hb => ?_))
  · refine wp_bind (wp_eq (spec_ref4_Valid _) ?_)
    cases hv : validB pf with
    | false => exact wp_some rfl
    | true =>
      simp only [Bool.not_true, cond_false, Bool.true_and]
      refine wp_bind (wp_eq (d_within _ _ _) ?_)
      cases h1 : (decide (0 ≤ tg) && decide (tg ≤ 65535)) with
      | false =>
        refine wp_some ?_
        cases h2 : decide (0 ≤ tg) <;> cases h3 : decide (tg ≤ 65535) <;> simp_all
      | true =>
        refine wp_some ?_
        simp only [Bool.and_eq_true] at h1
        rw [h1.1, h1.2, Bool.true_and, Bool.true_and]
        by_cases h3 : path.length ≤ 64
        · simp [h3]; omega
        · simp [h3]; omega
  · generalize ((validB pf && decide (0 ≤ tg)) && (decide (tg ≤ 65535) && decide (path.length ≤ 64))) = c at *
    subst hb
    cases c with
    | false => exact wp_some rfl
    | true =>
      simp only [Bool.not_true, cond_false, Bool.true_and]
      refine wp_find (xs := path) (by omega) (fun i => ∀ j a, j < i → path[j]? = some a → 1 ≤ a ∧ a ≤ 65535) (fun j a hj => by omega) ?_ (fun h => ?_)
      · intro i a ha hj
        simp only [idx_nat ha, Option.bind_some]
        have hm := List.mem_of_getElem? ha
        have bad : ∀ (q : Bool), ¬ PO path → (false = (dec (PO path) && q)) := fun q h => by
          rw [show dec (PO path) = false from by simpa [dec] using h]; rfl
        refine wp_bind (wp_eq (d_within _ _ _) (wp_bif (fun h => wp_some (e2r (e2r (bad _ (fun hq => ?_))))) (fun h => wp_some (e2l ⟨rfl, fun j b hjb hb => ?_⟩))))
        · rw [decide_eq_true (hq a hm).1, decide_eq_true (hq a hm).2] at h
          cases h
        · rcases Nat.lt_or_ge j i with h' | h'
          · exact hj j b h' hb
          · obtain rfl : j = i := by omega
            rw [ha] at hb; cases hb
            have h : (decide (1 ≤ a) && decide (a ≤ 65535)) = true := by simpa using h
            simp only [Bool.and_eq_true] at h
            exact ⟨of_decide_eq_true h.1, of_decide_eq_true h.2⟩
      · rw [show dec (PO path) = true from dec_iff.2 (fun a ha => by
            obtain ⟨i, hi⟩ := List.mem_iff_getElem?.1 ha
            exact h i a (List.getElem?_eq_some_iff.1 hi).1 hi), Bool.true_and]
        clear h
        repeat' (with_reducible first
          | refine wp_bind ?_
          | refine wp_eq (s_direct _) ?_
          | refine wp_eq (s_bare _ _ _ _ _ _ _ _ _ _ _ _ _ _) ?_
          | refine wp_eq (s_static _ _ _ _ _ _ _ _ _ _ _ _ _ hh) ?_
          | refine wp_eq (s_ls _ _ _ _ _ _ _ _ _ _ _ _ _ hh) ?_
          | refine wp_eq (s_dv _ _ _ _ _ _ _ _ _ _ _ _ _ hh) ?_
          | refine wp_eq (s_pv _ _ _ _ _ _ _ _ _ _ _ _ _ hh) ?_
          | refine wp_eq (d_static _ _ _ _ _ _ _ _ _ _ _ _ _ hh) ?_
          | refine wp_eq (d_ls _ _ _ _ _ _ _ _ _ _ _ _ _ hh) ?_
          | refine wp_eq (d_dv _ _ _ _ _ _ _ _ _ _ _ _ _ hh) ?_
          | refine wp_eq (d_pv _ _ _ _ _ _ _ _ _ _ _ _ _ hh) ?_
          | refine wp_eq (s_hops _ _ hh) ?_
          | refine wp_eq (s_plain _ _ _ _) ?_
          | refine wp_bif (fun _ => ?_) (fun _ => ?_)
          | refine wp_some ?_)
        all_goals try dsimp only at *
        all_goals try simp only [z0, l0, l1] at *
        all_goals try simp only [bne, Bool.not_eq_true', Bool.not_eq_false', Bool.false_or, Bool.true_or, Bool.or_true, Bool.or_false, Bool.and_true, Bool.true_and] at *
        all_goals try simp only [*, Bool.and_true, Bool.true_and, Bool.and_false, Bool.false_and, Bool.not_true, Bool.not_false, Bool.or_true, Bool.true_or, Bool.or_false, Bool.false_or, cond_true, cond_false, bne, List.length_nil, show (((0 : Nat) : Int) == 0) = true from rfl]
        all_goals first | contradiction | rfl | (simp_all only [Bool.and_true, Bool.true_and, Bool.and_false, Bool.false_and, Bool.not_true, Bool.not_false, cond_true, cond_false, Bool.false_eq_true, Bool.true_eq_false]; done)

theorem wi_ad (ad : Int) : (!decide (ad < 1) && !decide (ad > 255)) = wi ad 1 255 := by
  unfold wi
  by_cases h1 : ad < 1 <;> by_cases h2 : ad > 255 <;> simp [h1, h2] <;> omega

theorem e_conn (pf : Ty.El tPrefix) (pr cl ad me inn tg prf : Int) (path : List Int) (fr nx : Int) (hops : List (Ty.El tHop)) (dc : Bool) : (dec (HO hops) && ((z0 cl && (z0 ad && (z0 tg && drB hops))) && (z0 me && (z0 inn && (z0 prf && (z0 fr && (z0 nx && (l0 path && !dc)))))))) = (z0 cl && (z0 ad && (z0 me && (z0 tg && ((z0 inn && ((z0 prf && (l0 path && z0 fr)) && z0 nx)) && (!dc && (l1 hops && (dec (HO hops) && hops.all (fun h => (h.2.1 == 0) == true)))))))))  := by
  rw [f_dr]
  cases dec (HO hops) <;> cases l1 hops <;> cases z0 cl <;> cases z0 ad <;> cases z0 tg <;> cases z0 me <;> simp only [Bool.false_and, Bool.and_false, Bool.true_and, Bool.and_true]
  all_goals cases z0 inn <;> cases z0 prf <;> cases z0 fr <;> cases z0 nx <;> cases l0 path <;> cases dc <;> simp

theorem valid_eq (x : Ty.El tRoute) (hx : RtB x) : route_Valid (x, ()) = ref15_Valid (x, ()) := by
  obtain ⟨pf, pr, cl, ad, me, inn, tg, prf, path, fr, nx, hops, dc, ⟨⟩⟩ := x
  rw [s_Valid _ _ _ _ _ _ _ _ _ _ _ _ _ hx, d_Valid _ _ _ _ _ _ _ _ _ _ _ _ _ hx]
  rw [wi_ad]
  have e1 := e_conn pf pr cl ad me inn tg prf path fr nx hops dc
  have e2 := e_static cl ad me inn tg prf path fr nx hops dc
  have e3 := e_ls cl ad me inn tg prf path fr nx hops dc
  have e4 := e_dv cl ad me inn tg prf path fr nx hops dc
  have e5 := e_pv cl ad me inn tg prf path fr nx hops dc
  congr 1
  rw [Bool.and_assoc]
  congr 1
  rw [← e1, ← e2, ← e3, ← e4, ← e5]
  clear e1 e2 e3 e4 e5
  cases pr == 1 <;> cases pr == 2 <;> cases pr == 3 <;> cases pr == 4 <;> cases pr == 5 <;> cases dec (HO hops) <;> cases dec (PO path) <;> cases wi ad 1 255 <;> simp only [cond_true, cond_false, Bool.true_and, Bool.false_and, Bool.and_false, Bool.and_true]
end Go.Ve

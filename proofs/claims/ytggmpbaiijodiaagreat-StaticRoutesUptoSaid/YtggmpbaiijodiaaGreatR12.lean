/-
  Functions out of code: views, tables, static routes.
  Plain laws: the topology of a network is built, and what it is made of.
  Plain laws: the topology of a network is built: the walk.
  Plain laws: views.
  Plain laws: the checks of routes and tables always answer.
-/
import Derived.Test.YtggmpbaiijodiaaGreatR10
import Derived.Test.YtggmpbaiijodiaaGreatR11
import Derived.Test.YtggmpbaiijodiaaGreatR9
set_option linter.unusedVariables false
namespace Go.Ve
open Go
set_option maxRecDepth 1000000
noncomputable def law5_Small : ElS [tRouter] → Option (RTy.El (.p .bool)) := fun x => match x with | (a1, ()) => Option.bind (bif decide ((↑(List.length a1.snd.snd.fst) : Int) > (12 : Int)) then some true else bif decide ((↑(List.length a1.snd.snd.snd.fst) : Int) > (12 : Int)) then some true else bif decide ((↑(List.length a1.snd.snd.snd.snd.fst) : Int) > (12 : Int)) then some true else bif decide ((↑(List.length a1.snd.snd.snd.snd.snd.fst) : Int) > (12 : Int)) then some true else bif decide ((↑(List.length a1.snd.snd.snd.snd.snd.snd.fst) : Int) > (12 : Int)) then some true else bif decide ((↑(List.length a1.snd.snd.snd.snd.snd.snd.snd.fst) : Int) > (20 : Int)) then some true else bif decide ((↑(List.length a1.snd.snd.snd.snd.snd.snd.snd.snd.fst.snd.snd.fst) : Int) > (8 : Int)) then some true else bif decide ((↑(List.length a1.snd.snd.snd.snd.snd.snd.snd.snd.fst.snd.snd.snd.fst) : Int) > (8 : Int)) then some true else bif decide ((↑(List.length a1.snd.snd.snd.snd.snd.snd.snd.snd.snd.fst.snd.snd.snd.snd.fst) : Int) > (8 : Int)) then some true else bif decide ((↑(List.length a1.snd.snd.snd.snd.snd.snd.snd.snd.snd.snd.fst.snd.snd.snd.snd.snd.snd.snd.fst) : Int) > (8 : Int)) then some true else bif decide ((↑(List.length a1.snd.snd.snd.snd.snd.snd.snd.snd.snd.snd.fst.snd.snd.snd.fst) : Int) > (12 : Int)) then some true else bif decide ((↑(List.length a1.snd.snd.snd.snd.snd.snd.snd.snd.snd.snd.fst.snd.snd.snd.snd.fst) : Int) > (12 : Int)) then some true else bif decide ((↑(List.length a1.snd.snd.snd.snd.snd.snd.snd.snd.snd.snd.fst.snd.snd.snd.snd.snd.fst) : Int) > (12 : Int)) then some true else some (decide ((↑(List.length a1.snd.snd.snd.snd.snd.snd.snd.snd.snd.snd.fst.snd.snd.snd.snd.snd.snd.fst) : Int) > (12 : Int)))) fun (s0 : Bool) => bif s0 then some false else cut2 (loopX (fun (s5 : Int) => bif decide (s5 < (↑(List.length a1.snd.snd.snd.fst) : Int)) then Option.bind (idx a1.snd.snd.snd.fst s5) fun (y6 : Ty.El tPList) => bif decide ((↑(List.length y6.snd.fst) : Int) > (20 : Int)) then some (Sum.inr (Sum.inr false)) else some (Sum.inl (IntKind.wrap IntKind.i64 (s5 + (1 : Int)))) else some (Sum.inr (Sum.inl ()))) (0 : Int)) fun (s7 : Unit) => cut2 (loopX (fun (s12 : Int) => bif decide (s12 < (↑(List.length a1.snd.snd.snd.snd.fst) : Int)) then Option.bind (idx a1.snd.snd.snd.snd.fst s12) fun (y13 : Ty.El tRMap) => bif decide ((↑(List.length y13.snd.fst) : Int) > (12 : Int)) then some (Sum.inr (Sum.inr false)) else some (Sum.inl (IntKind.wrap IntKind.i64 (s12 + (1 : Int)))) else some (Sum.inr (Sum.inl ()))) (0 : Int)) fun (s14 : Unit) => cut2 (loopX (fun (s19 : Int) => bif decide (s19 < (↑(List.length a1.snd.snd.snd.snd.snd.fst) : Int)) then Option.bind (idx a1.snd.snd.snd.snd.snd.fst s19) fun (y20 : Ty.El tACL) => bif decide ((↑(List.length y20.snd.fst) : Int) > (20 : Int)) then some (Sum.inr (Sum.inr false)) else some (Sum.inl (IntKind.wrap IntKind.i64 (s19 + (1 : Int)))) else some (Sum.inr (Sum.inl ()))) (0 : Int)) fun (s21 : Unit) => some true
noncomputable def law13_Small : ElS [tNetwork] → Option (RTy.El (.p .bool)) := fun x => match x with | (a1, ()) => bif decide ((↑(List.length a1.fst) : Int) > (9 : Int)) then some false else cut2 (loopX (fun (s6 : Int) => bif decide (s6 < (↑(List.length a1.fst) : Int)) then Option.bind (idx a1.fst s6) fun (y7 : Ty.El tRouter) => Option.bind (law5_Small (y7, ())) fun (y8 : Bool) => bif !y8 then some (Sum.inr (Sum.inr false)) else some (Sum.inl (IntKind.wrap IntKind.i64 (s6 + (1 : Int)))) else some (Sum.inr (Sum.inl ()))) (0 : Int)) fun (s9 : Unit) => some true
noncomputable def ref4_Compare : ElS [tPrefix, tPrefix] → Option (RTy.El (.p tI)) := fun x => match x with | (a1, a2, ()) => Option.bind (bif decide (a1.fst < a2.fst) then some true else bif a1.fst == a2.fst then some (decide (a1.snd.fst < a2.snd.fst)) else some false) fun (s0 : Bool) => bif s0 then some (-1 : Int) else bif a1.fst == a2.fst && (a1.snd.fst == a2.snd.fst && true) then some (0 : Int) else some (1 : Int)
noncomputable def ref15_Build_H : HSt tPorts → ElS [tNetwork] → Option (HSt tPorts × RTy.El (.tu [tTopoR, tI])) := fun st0 x => match x with | (a1, ()) => Option.bind (ref8_Check (a1, ())) fun (y0 : Int) => bif y0 != (0 : Int) then some (st0, ([], [], ()), y0, ()) else Option.bind (loopX (fun (s1 : Int × (List (Ty.El tDomainR) × List Int) × HSt tPorts) => bif decide (s1.fst < (↑(List.length a1.fst) : Int)) then Option.bind (loopX (fun (s2 : Int × (List (Ty.El tDomainR) × List Int) × HSt tPorts) => Option.bind (idx a1.fst s1.fst) fun (y3 : Ty.El tRouter) => bif decide (s2.fst < (↑(List.length y3.snd.snd.fst) : Int)) then Option.bind (Option.bind (idx a1.fst s1.fst) fun (y4 : Ty.El tRouter) => Option.bind (idx y4.snd.snd.fst s2.fst) fun (y5 : Ty.El tIface) => Option.bind (bif y5.snd.snd.fst == (0 : Int) then some (true, s2.snd) else some (y5.snd.snd.snd.snd.fst, s2.snd)) fun (s6 : Bool × (List (Ty.El tDomainR) × List Int) × HSt tPorts) => bif s6.fst then some s6.snd else Option.bind (ref4_Network (y5.snd.fst, y5.snd.snd.fst, ())) fun (y7 : Int × Int × Unit) => Option.bind (loopX (fun (s8 : Int × (List (Ty.El tDomainR) × List Int) × HSt tPorts) => Option.bind (bif decide (s8.fst < (↑(List.length s8.snd.fst.fst) : Int)) then Option.bind (idx s8.snd.fst.fst s8.fst) fun (y16 : Ty.El tDomainR) => Option.bind (atN s8.snd.fst.fst (Int.toNat s8.fst)) fun (y17 : Ty.El tDomainR) => Option.bind (ref4_Compare (y17.fst, y7, ())) fun (y18 : Int) => bif decide (y18 < (0 : Int)) then some (true, s8.snd) else Option.bind (idx s8.snd.fst.fst s8.fst) fun (y19 : Ty.El tDomainR) => Option.bind (atN s8.snd.fst.fst (Int.toNat s8.fst)) fun (y20 : Ty.El tDomainR) => bif y20.fst.fst == y7.fst && (y20.fst.snd.fst == y7.snd.fst && true) then Option.bind (idx s8.snd.fst.fst s8.fst) fun (y21 : Ty.El tDomainR) => Option.bind (atN s8.snd.fst.fst (Int.toNat s8.fst)) fun (y22 : Ty.El tDomainR) => some (decide (y22.snd.fst < y5.snd.snd.snd.fst), s8.snd) else some (false, s8.snd) else some (false, s8.snd)) fun (s23 : Bool × (List (Ty.El tDomainR) × List Int) × HSt tPorts) => bif s23.fst then some (Sum.inl (IntKind.wrap IntKind.i64 (s8.fst + (1 : Int)), s23.snd)) else some (Sum.inr (s8.fst, s23.snd))) ((0 : Int), s6.snd)) fun (s24 : Int × (List (Ty.El tDomainR) × List Int) × HSt tPorts) => Option.bind (Option.bind (bif s24.fst == (↑(List.length s24.snd.fst.fst) : Int) then some (true, s24.snd) else Option.bind (idx s24.snd.fst.fst s24.fst) fun (y29 : Ty.El tDomainR) => Option.bind (atN s24.snd.fst.fst (Int.toNat s24.fst)) fun (y30 : Ty.El tDomainR) => bif !(y30.fst.fst == y7.fst && (y30.fst.snd.fst == y7.snd.fst && true)) then some (true, s24.snd) else Option.bind (idx s24.snd.fst.fst s24.fst) fun (y31 : Ty.El tDomainR) => Option.bind (atN s24.snd.fst.fst (Int.toNat s24.fst)) fun (y32 : Ty.El tDomainR) => some (y32.snd.fst != y5.snd.snd.snd.fst, s24.snd)) fun (s33 : Bool × (List (Ty.El tDomainR) × List Int) × HSt tPorts) => bif s33.fst then bif decide ((0 : Int) ≤ s24.fst) && decide (s24.fst ≤ (↑(List.length s33.snd.fst.fst) : Int)) && decide ((↑(List.length s33.snd.fst.fst) : Int) ≤ (↑(List.length s33.snd.fst.fst) : Int)) then Option.bind (app (48 : Nat) [] (List.drop (Int.toNat s24.fst) (List.take (Int.toNat (↑(List.length s33.snd.fst.fst) : Int)) s33.snd.fst.fst))) fun (y34 : List (Ty.El tDomainR)) => bif decide ((0 : Int) ≤ (0 : Int)) && decide ((0 : Int) ≤ s24.fst) && decide (s24.fst ≤ (↑(List.length s33.snd.fst.fst) : Int)) then Option.bind (app (48 : Nat) (List.take (Int.toNat s24.fst) s33.snd.fst.fst) [(y7, y5.snd.snd.snd.fst, none, ())]) fun (y35 : List (Ty.El tDomainR)) => Option.bind (app (48 : Nat) y35 y34) fun (y36 : List (Ty.El tDomainR)) => some ((y36, s33.snd.fst.snd), s33.snd.snd) else none else none else some s33.snd) fun (s37 : (List (Ty.El tDomainR) × List Int) × HSt tPorts) => Option.bind (idx s37.fst.fst s24.fst) fun (y38 : Ty.El tDomainR) => Option.bind (atN s37.fst.fst (Int.toNat s24.fst)) fun (y39 : Ty.El tDomainR) => Option.bind (happ (16 : Nat) s37.snd y39.snd.snd.fst [(s1.fst, s2.fst, ())]) fun (y40 : List (Option (List (Ty.El tPorts))) × Option (Nat × Nat)) => Option.bind (idx s37.fst.fst s24.fst) fun (y41 : Ty.El tDomainR) => Option.bind (atN s37.fst.fst (Int.toNat s24.fst)) fun (y42 : Ty.El tDomainR) => some ((List.set s37.fst.fst (Int.toNat s24.fst) (y42.fst, y42.snd.fst, y40.snd, ()), s37.fst.snd), y40.fst)) fun (s43 : (List (Ty.El tDomainR) × List Int) × HSt tPorts) => some (Sum.inl (IntKind.wrap IntKind.i64 (s2.fst + (1 : Int)), s43)) else some (Sum.inr s2.snd)) ((0 : Int), s1.snd)) fun (s44 : (List (Ty.El tDomainR) × List Int) × HSt tPorts) => some (Sum.inl (IntKind.wrap IntKind.i64 (s1.fst + (1 : Int)), s44)) else some (Sum.inr s1.snd)) ((0 : Int), ([], []), st0)) fun (s45 : (List (Ty.El tDomainR) × List Int) × HSt tPorts) => Option.bind (loopX (fun (s67 : Int × (List (Ty.El tDomainR) × List Int) × HSt tPorts) => bif decide (s67.fst < (↑(List.length s67.snd.fst.fst) : Int)) then Option.bind (Option.bind (idx s67.snd.fst.fst s67.fst) fun (y68 : Ty.El tDomainR) => Option.bind (atN s67.snd.fst.fst (Int.toNat s67.fst)) fun (y69 : Ty.El tDomainR) => bif decide ((↑(rfLen y69.snd.snd.fst) : Int) > (1 : Int)) then Option.bind (app (8 : Nat) s67.snd.fst.snd [s67.fst]) fun (y70 : List Int) => some ((s67.snd.fst.fst, y70), s67.snd.snd) else some s67.snd) fun (s71 : (List (Ty.El tDomainR) × List Int) × HSt tPorts) => some (Sum.inl (IntKind.wrap IntKind.i64 (s67.fst + (1 : Int)), s71)) else some (Sum.inr s67.snd)) ((0 : Int), s45)) fun (s72 : (List (Ty.El tDomainR) × List Int) × HSt tPorts) => bif decide ((↑(List.length s72.fst.snd) : Int) > (12 : Int)) then some (s72.snd, ([], [], ()), (7 : Int), ()) else some (s72.snd, (s72.fst.fst, s72.fst.snd, ()), (0 : Int), ())
noncomputable def ref15_Build : ElS [tNetwork] → Option (RTy.El (.tu [tTopo, tI])) := unheap (.tu [tTopoR, tI]) ref15_Build_H
noncomputable def ref15_Ascending : ElS [(.sl tI), tI] → Option (RTy.El (.p .bool)) := fun x => match x with | (a1, a2, ()) => bif decide ((↑(List.length a1) : Int) > (2 : Int)) then some false else cut2 (loopX (fun (s20 : Int) => bif decide (s20 < (↑(List.length a1) : Int)) then Option.bind (Option.bind (idx a1 s20) fun (y21 : Int) => bif decide (y21 < (0 : Int)) then some true else Option.bind (idx a1 s20) fun (y22 : Int) => bif decide (y22 ≥ a2) then some true else bif decide (s20 > (0 : Int)) then Option.bind (idx a1 s20) fun (y23 : Int) => Option.bind (idx a1 (IntKind.wrap IntKind.i64 (s20 - (1 : Int)))) fun (y24 : Int) => some (decide (y23 ≤ y24)) else some false) fun (s25 : Bool) => bif s25 then some (Sum.inr (Sum.inr false)) else some (Sum.inl (IntKind.wrap IntKind.i64 (s20 + (1 : Int)))) else some (Sum.inr (Sum.inl ()))) (0 : Int)) fun (s26 : Unit) => some true
noncomputable def ref15_Make : ElS [tNetwork, (.sl tI)] → Option (RTy.El (.tu [tView, tI])) := fun x => match x with | (a1, a2, ()) => Option.bind (ref15_Build (a1, ())) fun (y0 : Ty.El tTopo × Int × Unit) => bif y0.snd.fst != (0 : Int) then some ((([], ()), ([], [], ()), [], ()), y0.snd.fst, ()) else Option.bind (ref15_Ascending (a2, (↑(List.length y0.fst.snd.fst) : Int), ())) fun (y1 : Bool) => bif !y1 then some ((([], ()), ([], [], ()), [], ()), (1 : Int), ()) else Option.bind (app (8 : Nat) [] a2) fun (y3 : List Int) => some ((a1, y0.fst, y3, ()), (0 : Int), ())
noncomputable def law13_View : ElS [tNetwork, (.sl tI)] → Option (RTy.El (.tu [tView, .bool])) := fun x => match x with | (a1, a2, ()) => Option.bind (Option.bind (law13_Small (a1, ())) fun (y1 : Bool) => bif !y1 then some true else some (decide ((↑(List.length a2) : Int) > (2 : Int)))) fun (s2 : Bool) => bif s2 then some ((([], ()), ([], [], ()), [], ()), false, ()) else Option.bind (ref15_Make (a1, a2, ())) fun (y3 : Ty.El tView × Int × Unit) => some (y3.fst, y3.snd.fst == (0 : Int), ())
noncomputable def ref15_within : ElS [tI, tI, tI] → Option (RTy.El (.p .bool)) := fun x => match x with | (a1, a2, a3, ()) => Option.bind (bif decide (a2 ≤ a1) then some (decide (a1 ≤ a3)) else some false) fun (s0 : Bool) => some s0
noncomputable def ref15_plain : ElS [tRoute, .bool, .bool, .bool] → Option (RTy.El (.p .bool)) := fun x => match x with | (a1, a2, a3, a4, ()) => Option.bind (bif a2 then bif a3 then bif a4 then some true else some (a1.snd.snd.snd.snd.snd.snd.snd.snd.snd.snd.fst == (0 : Int)) else bif a1.snd.snd.snd.snd.snd.snd.snd.fst == (0 : Int) then bif (↑(List.length a1.snd.snd.snd.snd.snd.snd.snd.snd.fst) : Int) == (0 : Int) then bif a1.snd.snd.snd.snd.snd.snd.snd.snd.snd.fst == (0 : Int) then bif a4 then some true else some (a1.snd.snd.snd.snd.snd.snd.snd.snd.snd.snd.fst == (0 : Int)) else some false else some false else some false else bif a1.snd.snd.snd.snd.snd.fst == (0 : Int) then bif a3 then bif a4 then some true else some (a1.snd.snd.snd.snd.snd.snd.snd.snd.snd.snd.fst == (0 : Int)) else bif a1.snd.snd.snd.snd.snd.snd.snd.fst == (0 : Int) then bif (↑(List.length a1.snd.snd.snd.snd.snd.snd.snd.snd.fst) : Int) == (0 : Int) then bif a1.snd.snd.snd.snd.snd.snd.snd.snd.snd.fst == (0 : Int) then bif a4 then some true else some (a1.snd.snd.snd.snd.snd.snd.snd.snd.snd.snd.fst == (0 : Int)) else some false else some false else some false else some false) fun (s0 : Bool) => some s0
noncomputable def ref15_lessHop : ElS [tHop, tHop] → Option (RTy.El (.p .bool)) := fun x => match x with | (a1, a2, ()) => Option.bind (bif decide (a1.fst < a2.fst) then some true else bif a1.fst == a2.fst then some (decide (a1.snd.fst < a2.snd.fst)) else some false) fun (s0 : Bool) => some s0
noncomputable def ref15_hops : ElS [(.sl tHop), .bool] → Option (RTy.El (.p .bool)) := fun x => match x with | (a1, a2, ()) => cut2 (loopX (fun (s28 : Int) => bif decide (s28 < (↑(List.length a1) : Int)) then Option.bind (Option.bind (idx a1 s28) fun (y29 : Ty.El tHop) => bif decide (y29.fst < (0 : Int)) then some true else bif decide (s28 > (0 : Int)) then Option.bind (idx a1 (IntKind.wrap IntKind.i64 (s28 - (1 : Int)))) fun (y30 : Ty.El tHop) => Option.bind (idx a1 s28) fun (y31 : Ty.El tHop) => Option.bind (ref15_lessHop (y30, y31, ())) fun (y32 : Bool) => bif !y32 then some true else Option.bind (idx a1 s28) fun (y33 : Ty.El tHop) => some !(y33.snd.fst == (0 : Int)) == a2 else Option.bind (idx a1 s28) fun (y34 : Ty.El tHop) => some !(y34.snd.fst == (0 : Int)) == a2) fun (s35 : Bool) => bif s35 then some (Sum.inr (Sum.inr false)) else some (Sum.inl (IntKind.wrap IntKind.i64 (s28 + (1 : Int)))) else some (Sum.inr (Sum.inl ()))) (0 : Int)) fun (s36 : Unit) => some true
noncomputable def ref15_validStatic : ElS [tRoute] → Option (RTy.El (.p .bool)) := fun x => match x with | (a1, ()) => Option.bind (bif a1.snd.snd.fst != (0 : Int) then some true else bif a1.snd.snd.snd.snd.fst != (0 : Int) then some true else Option.bind (ref15_within (a1.snd.snd.snd.fst, (1 : Int), (255 : Int), ())) fun (y2 : Bool) => bif !y2 then some true else Option.bind (ref15_plain (a1, false, false, true, ())) fun (y3 : Bool) => some !y3) fun (s4 : Bool) => bif s4 then some false else bif a1.snd.snd.snd.snd.snd.snd.snd.snd.snd.snd.fst != (0 : Int) then Option.bind (bif (↑(List.length a1.snd.snd.snd.snd.snd.snd.snd.snd.snd.snd.snd.fst) : Int) == (0 : Int) then some !a1.snd.snd.snd.snd.snd.snd.snd.snd.snd.snd.snd.snd.fst else some false) fun (s5 : Bool) => some s5 else bif a1.snd.snd.snd.snd.snd.snd.snd.snd.snd.snd.snd.snd.fst then some ((↑(List.length a1.snd.snd.snd.snd.snd.snd.snd.snd.snd.snd.snd.fst) : Int) == (0 : Int)) else Option.bind (bif (↑(List.length a1.snd.snd.snd.snd.snd.snd.snd.snd.snd.snd.snd.fst) : Int) == (1 : Int) then Option.bind (ref15_hops (a1.snd.snd.snd.snd.snd.snd.snd.snd.snd.snd.snd.fst, true, ())) fun (y7 : Bool) => some y7 else some false) fun (s8 : Bool) => some s8
noncomputable def ref15_validLinkState : ElS [tRoute] → Option (RTy.El (.p .bool)) := fun x => match x with | (a1, ()) => Option.bind (Option.bind (ref15_within (a1.snd.snd.fst, (1 : Int), (4 : Int), ())) fun (y4 : Bool) => bif !y4 then some true else Option.bind (ref15_within (a1.snd.snd.snd.fst, (1 : Int), (255 : Int), ())) fun (y5 : Bool) => bif !y5 then some true else Option.bind (ref15_within (a1.snd.snd.snd.snd.fst, (0 : Int), (1073741824 : Int), ())) fun (y6 : Bool) => bif !y6 then some true else Option.bind (ref15_plain (a1, true, false, false, ())) fun (y7 : Bool) => some !y7) fun (s8 : Bool) => bif s8 then some false else Option.bind (Option.bind (ref15_within (a1.snd.snd.snd.snd.snd.fst, (0 : Int), (1073741824 : Int), ())) fun (y10 : Bool) => bif !y10 then some true else bif a1.snd.snd.fst != (4 : Int) then some (a1.snd.snd.snd.snd.snd.fst != (0 : Int)) else some false) fun (s11 : Bool) => bif s11 then some false else bif a1.snd.snd.snd.snd.snd.snd.snd.snd.snd.snd.snd.snd.fst then Option.bind (bif a1.snd.snd.fst == (1 : Int) then bif a1.snd.snd.snd.snd.fst == (0 : Int) then bif a1.snd.snd.snd.snd.snd.snd.fst == (0 : Int) then some ((↑(List.length a1.snd.snd.snd.snd.snd.snd.snd.snd.snd.snd.snd.fst) : Int) == (0 : Int)) else some false else some false else some false) fun (s12 : Bool) => some s12 else Option.bind (bif decide ((↑(List.length a1.snd.snd.snd.snd.snd.snd.snd.snd.snd.snd.snd.fst) : Int) > (0 : Int)) then Option.bind (ref15_hops (a1.snd.snd.snd.snd.snd.snd.snd.snd.snd.snd.snd.fst, false, ())) fun (y14 : Bool) => some y14 else some false) fun (s15 : Bool) => some s15
noncomputable def ref15_validDistance : ElS [tRoute] → Option (RTy.El (.p .bool)) := fun x => match x with | (a1, ()) => Option.bind (Option.bind (ref15_within (a1.snd.snd.snd.fst, (1 : Int), (255 : Int), ())) fun (y3 : Bool) => bif !y3 then some true else Option.bind (ref15_within (a1.snd.snd.snd.snd.fst, (1 : Int), (15 : Int), ())) fun (y4 : Bool) => bif !y4 then some true else Option.bind (ref15_plain (a1, false, false, false, ())) fun (y5 : Bool) => bif !y5 then some true else some a1.snd.snd.snd.snd.snd.snd.snd.snd.snd.snd.snd.snd.fst) fun (s6 : Bool) => bif s6 then some false else bif a1.snd.snd.fst == (1 : Int) then Option.bind (bif a1.snd.snd.snd.snd.fst == (1 : Int) then bif a1.snd.snd.snd.snd.snd.snd.fst == (0 : Int) then bif (↑(List.length a1.snd.snd.snd.snd.snd.snd.snd.snd.snd.snd.snd.fst) : Int) == (1 : Int) then Option.bind (ref15_hops (a1.snd.snd.snd.snd.snd.snd.snd.snd.snd.snd.snd.fst, true, ())) fun (y8 : Bool) => some y8 else some false else some false else some false) fun (s9 : Bool) => some s9 else bif a1.snd.snd.fst == (2 : Int) then some ((↑(List.length a1.snd.snd.snd.snd.snd.snd.snd.snd.snd.snd.snd.fst) : Int) == (0 : Int)) else bif a1.snd.snd.fst == (3 : Int) then Option.bind (bif decide ((↑(List.length a1.snd.snd.snd.snd.snd.snd.snd.snd.snd.snd.snd.fst) : Int) > (0 : Int)) then Option.bind (ref15_hops (a1.snd.snd.snd.snd.snd.snd.snd.snd.snd.snd.snd.fst, false, ())) fun (y11 : Bool) => some y11 else some false) fun (s12 : Bool) => some s12 else some false
noncomputable def ref15_validPath : ElS [tRoute] → Option (RTy.El (.p .bool)) := fun x => match x with | (a1, ()) => Option.bind (Option.bind (ref15_within (a1.snd.snd.snd.fst, (1 : Int), (255 : Int), ())) fun (y4 : Bool) => bif !y4 then some true else Option.bind (ref15_within (a1.snd.snd.snd.snd.fst, (0 : Int), (16777215 : Int), ())) fun (y5 : Bool) => bif !y5 then some true else Option.bind (ref15_within (a1.snd.snd.snd.snd.snd.snd.snd.fst, (0 : Int), (1000000 : Int), ())) fun (y6 : Bool) => bif !y6 then some true else Option.bind (ref15_plain (a1, false, true, false, ())) fun (y7 : Bool) => some !y7) fun (s8 : Bool) => bif s8 then some false else Option.bind (bif a1.snd.snd.fst == (1 : Int) then some (a1.snd.snd.fst == (1 : Int)) else some (a1.snd.snd.fst == (2 : Int))) fun (s9 : Bool) => bif s9 then Option.bind (bif (↑(List.length a1.snd.snd.snd.snd.snd.snd.snd.snd.fst) : Int) == (0 : Int) then bif a1.snd.snd.snd.snd.snd.snd.snd.snd.snd.fst == (0 : Int) then bif (↑(List.length a1.snd.snd.snd.snd.snd.snd.snd.snd.snd.snd.snd.fst) : Int) == (0 : Int) then some (a1.snd.snd.snd.snd.snd.snd.snd.snd.snd.snd.snd.snd.fst == (a1.snd.snd.fst == (2 : Int))) else some false else some false else some false) fun (s10 : Bool) => some s10 else Option.bind (bif a1.snd.snd.fst == (3 : Int) then some (a1.snd.snd.fst == (3 : Int)) else some (a1.snd.snd.fst == (4 : Int))) fun (s11 : Bool) => bif s11 then Option.bind (bif a1.snd.snd.fst == (4 : Int) then bif a1.snd.snd.snd.snd.snd.snd.snd.snd.snd.fst != (0 : Int) then bif (↑(List.length a1.snd.snd.snd.snd.snd.snd.snd.snd.snd.snd.snd.fst) : Int) == (1 : Int) then Option.bind (ref15_hops (a1.snd.snd.snd.snd.snd.snd.snd.snd.snd.snd.snd.fst, false, ())) fun (y20 : Bool) => bif y20 then Option.bind (idx a1.snd.snd.snd.snd.snd.snd.snd.snd.snd.snd.snd.fst (0 : Int)) fun (y21 : Ty.El tHop) => bif y21.snd.fst == a1.snd.snd.snd.snd.snd.snd.snd.snd.snd.fst then some !a1.snd.snd.snd.snd.snd.snd.snd.snd.snd.snd.snd.snd.fst else some false else some false else some false else some false else bif decide ((↑(List.length a1.snd.snd.snd.snd.snd.snd.snd.snd.fst) : Int) > (0 : Int)) then bif a1.snd.snd.snd.snd.snd.snd.snd.snd.snd.fst != (0 : Int) then bif (↑(List.length a1.snd.snd.snd.snd.snd.snd.snd.snd.snd.snd.snd.fst) : Int) == (1 : Int) then Option.bind (ref15_hops (a1.snd.snd.snd.snd.snd.snd.snd.snd.snd.snd.snd.fst, false, ())) fun (y22 : Bool) => bif y22 then Option.bind (idx a1.snd.snd.snd.snd.snd.snd.snd.snd.snd.snd.snd.fst (0 : Int)) fun (y23 : Ty.El tHop) => bif y23.snd.fst == a1.snd.snd.snd.snd.snd.snd.snd.snd.snd.fst then some !a1.snd.snd.snd.snd.snd.snd.snd.snd.snd.snd.snd.snd.fst else some false else some false else some false else some false else some false) fun (s24 : Bool) => some s24 else some false
noncomputable def ref15_Valid : ElS [tRoute] → Option (RTy.El (.p .bool)) := fun x => match x with | (a1, ()) => Option.bind (Option.bind (ref4_Valid (a1.fst, ())) fun (y2 : Bool) => bif !y2 then some true else Option.bind (ref15_within (a1.snd.snd.snd.snd.snd.snd.fst, (0 : Int), (65535 : Int), ())) fun (y3 : Bool) => bif !y3 then some true else some (decide ((↑(List.length a1.snd.snd.snd.snd.snd.snd.snd.snd.fst) : Int) > (64 : Int)))) fun (s4 : Bool) => bif s4 then some false else cut2 (loopX (fun (s11 : Int) => bif decide (s11 < (↑(List.length a1.snd.snd.snd.snd.snd.snd.snd.snd.fst) : Int)) then Option.bind (idx a1.snd.snd.snd.snd.snd.snd.snd.snd.fst s11) fun (y12 : Int) => Option.bind (ref15_within (y12, (1 : Int), (65535 : Int), ())) fun (y13 : Bool) => bif !y13 then some (Sum.inr (Sum.inr false)) else some (Sum.inl (IntKind.wrap IntKind.i64 (s11 + (1 : Int)))) else some (Sum.inr (Sum.inl ()))) (0 : Int)) fun (s14 : Unit) => bif a1.snd.fst == (1 : Int) then Option.bind (bif a1.snd.snd.fst == (0 : Int) then bif a1.snd.snd.snd.fst == (0 : Int) then bif a1.snd.snd.snd.snd.fst == (0 : Int) then bif a1.snd.snd.snd.snd.snd.snd.fst == (0 : Int) then Option.bind (ref15_plain (a1, false, false, false, ())) fun (y17 : Bool) => bif y17 then bif !a1.snd.snd.snd.snd.snd.snd.snd.snd.snd.snd.snd.snd.fst then bif (↑(List.length a1.snd.snd.snd.snd.snd.snd.snd.snd.snd.snd.snd.fst) : Int) == (1 : Int) then Option.bind (ref15_hops (a1.snd.snd.snd.snd.snd.snd.snd.snd.snd.snd.snd.fst, true, ())) fun (y18 : Bool) => some y18 else some false else some false else some false else some false else some false else some false else some false) fun (s19 : Bool) => some s19 else bif a1.snd.fst == (2 : Int) then Option.bind (ref15_validStatic (a1, ())) fun (y20 : Bool) => some y20 else bif a1.snd.fst == (3 : Int) then Option.bind (ref15_validLinkState (a1, ())) fun (y21 : Bool) => some y21 else bif a1.snd.fst == (4 : Int) then Option.bind (ref15_validDistance (a1, ())) fun (y22 : Bool) => some y22 else bif a1.snd.fst == (5 : Int) then Option.bind (ref15_validPath (a1, ())) fun (y23 : Bool) => some y23 else some false
noncomputable def ref15_Table : ElS [(.sl tRoute), tI] → Option (RTy.El (.p .bool)) := fun x => match x with | (a1, a2, ()) => cut2 (loopX (fun (s40 : Int) => bif decide (s40 < (↑(List.length a1) : Int)) then Option.bind (Option.bind (idx a1 s40) fun (y41 : Ty.El tRoute) => Option.bind (ref15_Valid (y41, ())) fun (y42 : Bool) => bif !y42 then some true else bif a2 != (0 : Int) then Option.bind (idx a1 s40) fun (y43 : Ty.El tRoute) => bif y43.snd.fst != a2 then some true else bif decide (s40 > (0 : Int)) then Option.bind (idx a1 (IntKind.wrap IntKind.i64 (s40 - (1 : Int)))) fun (y44 : Ty.El tRoute) => Option.bind (idx a1 s40) fun (y45 : Ty.El tRoute) => Option.bind (ref4_Compare (y44.fst, y45.fst, ())) fun (y46 : Int) => some (decide (y46 ≥ (0 : Int))) else some false else bif decide (s40 > (0 : Int)) then Option.bind (idx a1 (IntKind.wrap IntKind.i64 (s40 - (1 : Int)))) fun (y47 : Ty.El tRoute) => Option.bind (idx a1 s40) fun (y48 : Ty.El tRoute) => Option.bind (ref4_Compare (y47.fst, y48.fst, ())) fun (y49 : Int) => some (decide (y49 ≥ (0 : Int))) else some false) fun (s50 : Bool) => bif s50 then some (Sum.inr (Sum.inr false)) else some (Sum.inl (IntKind.wrap IntKind.i64 (s40 + (1 : Int)))) else some (Sum.inr (Sum.inl ()))) (0 : Int)) fun (s51 : Unit) => some true
noncomputable def addr_clamp : ElS [tI] → Option (RTy.El (.p tI)) := fun x => match x with | (a1, ()) => some (if (if (32 : Int) < a1 then (32 : Int) else a1) > (0 : Int) then if (32 : Int) < a1 then (32 : Int) else a1 else (0 : Int))
noncomputable def addr_Mask : ElS [tI] → Option (RTy.El (.p tU)) := fun x => match x with | (a1, ()) => Option.bind (addr_clamp (a1, ())) fun (y0 : Int) => bif decide ((0 : Int) ≤ IntKind.wrap IntKind.i64 ((32 : Int) - y0)) then some (IntKind.wrap IntKind.u32 ((4294967295 : Int) * (2 : Int) ^ min (Int.toNat (IntKind.wrap IntKind.i64 ((32 : Int) - y0))) (IntKind.bits IntKind.u32))) else none
noncomputable def addr_Contains : ElS [tPrefix, tU] → Option (RTy.El (.p .bool)) := fun x => match x with | (a1, a2, ()) => Option.bind (addr_Mask (a1.snd.fst, ())) fun (y1 : Int) => some (IntKind.wrap IntKind.u32 (↑(BitVec.toNat (BitVec.ofInt (IntKind.bits IntKind.u32) a2 &&& BitVec.ofInt (IntKind.bits IntKind.u32) y1)) : Int) == a1.fst)
noncomputable def static_Resolves : ElS [(.sl tRoute), tPrefix, tU] → Option (RTy.El (.p tI)) := fun x => match x with | (a1, a2, a3, ()) => Option.bind (loopX (fun (s36 : Int × Int) => bif decide (s36.fst < (↑(List.length a1) : Int)) then Option.bind (Option.bind (idx a1 s36.fst) fun (y37 : Ty.El tRoute) => Option.bind (bif y37.fst.fst == a2.fst && (y37.fst.snd.fst == a2.snd.fst && true) then some true else Option.bind (addr_Contains (y37.fst, a3, ())) fun (y38 : Bool) => some !y38) fun (s39 : Bool) => bif s39 then some s36.snd else Option.bind (bif decide (s36.snd < (0 : Int)) then some true else Option.bind (idx a1 s36.snd) fun (y40 : Ty.El tRoute) => some (decide (y37.fst.snd.fst > y40.fst.snd.fst))) fun (s41 : Bool) => bif s41 then some s36.fst else some s36.snd) fun (s42 : Int) => some (Sum.inl (IntKind.wrap IntKind.i64 (s36.fst + (1 : Int)), s42)) else some (Sum.inr s36.snd)) ((0 : Int), (-1 : Int))) fun (s43 : Int) => some s43
noncomputable def model_Interface_c1 : ElA [.d tIface, .pp .str] → Option (RTy.El (.p .bool)) := fun x => match x with | (a1, a2, ()) => some (a1.fst == a2)
noncomputable def slices_IndexFunc_Interface__c63 : ElA [.d (.sl tIface), .clo 63 [(true, .str)]] → Option (RTy.El (.p tI)) := fun x => match x with | (a1, (a2, ()), ()) => cut2 (loopX (fun (s6 : Int) => bif decide (s6 < (↑(List.length a1) : Int)) then Option.bind (idx a1 s6) fun (y7 : Ty.El tIface) => Option.bind (model_Interface_c1 (y7, a2, ())) fun (y8 : Bool) => bif y8 then some (Sum.inr (Sum.inr s6)) else some (Sum.inl (IntKind.wrap IntKind.i64 (s6 + (1 : Int)))) else some (Sum.inr (Sum.inl ()))) (0 : Int)) fun (s9 : Unit) => some (-1 : Int)
noncomputable def model_Interface : ElS [tRouter, .str] → Option (RTy.El (.p tI)) := fun x => match x with | (a1, a2, ()) => Option.bind (slices_IndexFunc_Interface__c63 (a1.snd.snd.fst, (a2, ()), ())) fun (y0 : Int) => some y0
noncomputable def slices_Index_End : ElS [(.sl tPorts), tPorts] → Option (RTy.El (.p tI)) := fun x => match x with | (a1, a2, ()) => cut2 (loopX (fun (s5 : Int) => bif decide (s5 < (↑(List.length a1) : Int)) then Option.bind (idx a1 s5) fun (y6 : Ty.El tPorts) => bif a2.fst == y6.fst && (a2.snd.fst == y6.snd.fst && true) then some (Sum.inr (Sum.inr s5)) else some (Sum.inl (IntKind.wrap IntKind.i64 (s5 + (1 : Int)))) else some (Sum.inr (Sum.inl ()))) (0 : Int)) fun (s7 : Unit) => some (-1 : Int)
noncomputable def slices_Contains_End : ElS [(.sl tPorts), tPorts] → Option (RTy.El (.p .bool)) := fun x => match x with | (a1, a2, ()) => Option.bind (slices_Index_End (a1, a2, ())) fun (y0 : Int) => some (decide (y0 ≥ (0 : Int)))
noncomputable def topo_Domain : ElS [tView, tI, tI] → Option (RTy.El (.p tI)) := fun x => match x with | (a1, a2, a3, ()) => cut2 (loopX (fun (s9 : Int) => bif decide (s9 < (↑(List.length a1.snd.fst.fst) : Int)) then Option.bind (idx a1.snd.fst.fst s9) fun (y10 : Ty.El tDomain) => Option.bind (slices_Contains_End (y10.snd.snd.fst, (a2, a3, ()), ())) fun (y11 : Bool) => bif y11 then some (Sum.inr (Sum.inr s9)) else some (Sum.inl (IntKind.wrap IntKind.i64 (s9 + (1 : Int)))) else some (Sum.inr (Sum.inl ()))) (0 : Int)) fun (s12 : Unit) => some (-1 : Int)
noncomputable def slices_Index_int : ElS [(.sl tI), tI] → Option (RTy.El (.p tI)) := fun x => match x with | (a1, a2, ()) => cut2 (loopX (fun (s4 : Int) => bif decide (s4 < (↑(List.length a1) : Int)) then Option.bind (idx a1 s4) fun (y5 : Int) => bif a2 == y5 then some (Sum.inr (Sum.inr s4)) else some (Sum.inl (IntKind.wrap IntKind.i64 (s4 + (1 : Int)))) else some (Sum.inr (Sum.inl ()))) (0 : Int)) fun (s6 : Unit) => some (-1 : Int)
noncomputable def topo_Link : ElS [tView, tI, tI] → Option (RTy.El (.p tI)) := fun x => match x with | (a1, a2, a3, ()) => Option.bind (topo_Domain (a1, a2, a3, ())) fun (y0 : Int) => bif decide (y0 < (0 : Int)) then some (-1 : Int) else Option.bind (slices_Index_int (a1.snd.fst.snd.fst, y0, ())) fun (y1 : Int) => some y1
noncomputable def slices_Contains_int : ElS [(.sl tI), tI] → Option (RTy.El (.p .bool)) := fun x => match x with | (a1, a2, ()) => Option.bind (slices_Index_int (a1, a2, ())) fun (y0 : Int) => some (decide (y0 ≥ (0 : Int)))
noncomputable def topo_Up : ElS [tView, tI, tI] → Option (RTy.El (.p .bool)) := fun x => match x with | (a1, a2, a3, ()) => Option.bind (topo_Domain (a1, a2, a3, ())) fun (y0 : Int) => bif decide (y0 < (0 : Int)) then some false else Option.bind (topo_Link (a1, a2, a3, ())) fun (y1 : Int) => Option.bind (bif decide (y1 < (0 : Int)) then some true else Option.bind (slices_Contains_int (a1.snd.snd.fst, y1, ())) fun (y3 : Bool) => some !y3) fun (s4 : Bool) => some s4
noncomputable def static_Active : ElS [tView, (.sl tRoute), tI] → Option (RTy.El (.p (.sl tRoute))) := fun x => match x with | (a1, a2, a3, ()) => Option.bind (bif decide (a3 < (0 : Int)) then some true else some (decide (a3 ≥ (↑(List.length a1.fst.fst) : Int)))) fun (s0 : Bool) => bif s0 then some [] else Option.bind (idx a1.fst.fst a3) fun (y1 : Ty.El tRouter) => Option.bind (loopX (fun (s60 : Int × List (Ty.El tRoute)) => bif decide (s60.fst < (↑(List.length y1.snd.snd.snd.snd.snd.snd.snd.fst) : Int)) then Option.bind (Option.bind (idx y1.snd.snd.snd.snd.snd.snd.snd.fst s60.fst) fun (y61 : Ty.El tStatic) => cut2 (bif y61.snd.fst != (0 : Int) then Option.bind (static_Resolves (a2, y61.fst, y61.snd.fst, ())) fun (y62 : Int) => Option.bind (bif decide (y62 < (0 : Int)) then some (true, s60.snd) else Option.bind (idx a2 y62) fun (y63 : Ty.El tRoute) => some (y63.snd.snd.snd.snd.snd.snd.snd.snd.snd.snd.snd.snd.fst, s60.snd)) fun (s64 : Bool × List (Ty.El tRoute)) => bif s64.fst then some (Sum.inr s64.snd) else some (Sum.inl (s64.snd, y61.fst, (2 : Int), (0 : Int), y61.snd.snd.snd.snd.fst, (0 : Int), (0 : Int), y61.snd.snd.snd.snd.snd.fst, (0 : Int), [], (0 : Int), y61.snd.fst, [], false, ())) else bif y61.snd.snd.fst != { data := #[] } then Option.bind (model_Interface (y1, y61.snd.snd.fst, ())) fun (y65 : Int) => Option.bind (topo_Up (a1, a3, y65, ())) fun (y66 : Bool) => bif !y66 then some (Sum.inr s60.snd) else some (Sum.inl (s60.snd, y61.fst, (2 : Int), (0 : Int), y61.snd.snd.snd.snd.fst, (0 : Int), (0 : Int), y61.snd.snd.snd.snd.snd.fst, (0 : Int), [], (0 : Int), (0 : Int), [(y65, (0 : Int), ())], false, ())) else bif y61.snd.snd.snd.fst then some (Sum.inl (s60.snd, y61.fst, (2 : Int), (0 : Int), y61.snd.snd.snd.snd.fst, (0 : Int), (0 : Int), y61.snd.snd.snd.snd.snd.fst, (0 : Int), [], (0 : Int), (0 : Int), [], true, ())) else some (Sum.inr s60.snd)) fun (s67 : List (Ty.El tRoute) × Ty.El tRoute) => Option.bind (app (136 : Nat) s67.fst [s67.snd]) fun (y68 : List (Ty.El tRoute)) => some y68) fun (s69 : List (Ty.El tRoute)) => some (Sum.inl (IntKind.wrap IntKind.i64 (s60.fst + (1 : Int)), s69)) else some (Sum.inr s60.snd)) ((0 : Int), [])) fun (s70 : List (Ty.El tRoute)) => some s70
noncomputable def ref15_Same : ElS [tRoute, tRoute] → Option (RTy.El (.p .bool)) := fun x => match x with | (a1, a2, ()) => Option.bind (bif !(a1.fst.fst == a2.fst.fst && (a1.fst.snd.fst == a2.fst.snd.fst && true)) then some true else bif a1.snd.fst != a2.snd.fst then some true else bif a1.snd.snd.fst != a2.snd.snd.fst then some true else bif a1.snd.snd.snd.fst != a2.snd.snd.snd.fst then some true else bif a1.snd.snd.snd.snd.fst != a2.snd.snd.snd.snd.fst then some true else bif a1.snd.snd.snd.snd.snd.fst != a2.snd.snd.snd.snd.snd.fst then some true else bif a1.snd.snd.snd.snd.snd.snd.fst != a2.snd.snd.snd.snd.snd.snd.fst then some true else bif a1.snd.snd.snd.snd.snd.snd.snd.fst != a2.snd.snd.snd.snd.snd.snd.snd.fst then some true else bif a1.snd.snd.snd.snd.snd.snd.snd.snd.snd.fst != a2.snd.snd.snd.snd.snd.snd.snd.snd.snd.fst then some true else bif a1.snd.snd.snd.snd.snd.snd.snd.snd.snd.snd.fst != a2.snd.snd.snd.snd.snd.snd.snd.snd.snd.snd.fst then some true else bif !a1.snd.snd.snd.snd.snd.snd.snd.snd.snd.snd.snd.snd.fst == a2.snd.snd.snd.snd.snd.snd.snd.snd.snd.snd.snd.snd.fst then some true else bif (↑(List.length a1.snd.snd.snd.snd.snd.snd.snd.snd.fst) : Int) != (↑(List.length a2.snd.snd.snd.snd.snd.snd.snd.snd.fst) : Int) then some true else some ((↑(List.length a1.snd.snd.snd.snd.snd.snd.snd.snd.snd.snd.snd.fst) : Int) != (↑(List.length a2.snd.snd.snd.snd.snd.snd.snd.snd.snd.snd.snd.fst) : Int))) fun (s0 : Bool) => bif s0 then some false else cut2 (loopX (fun (s9 : Int) => bif decide (s9 < (↑(List.length a1.snd.snd.snd.snd.snd.snd.snd.snd.fst) : Int)) then Option.bind (idx a1.snd.snd.snd.snd.snd.snd.snd.snd.fst s9) fun (y10 : Int) => Option.bind (idx a2.snd.snd.snd.snd.snd.snd.snd.snd.fst s9) fun (y11 : Int) => bif y10 != y11 then some (Sum.inr (Sum.inr false)) else some (Sum.inl (IntKind.wrap IntKind.i64 (s9 + (1 : Int)))) else some (Sum.inr (Sum.inl ()))) (0 : Int)) fun (s12 : Unit) => cut2 (loopX (fun (s21 : Int) => bif decide (s21 < (↑(List.length a1.snd.snd.snd.snd.snd.snd.snd.snd.snd.snd.snd.fst) : Int)) then Option.bind (idx a1.snd.snd.snd.snd.snd.snd.snd.snd.snd.snd.snd.fst s21) fun (y22 : Ty.El tHop) => Option.bind (idx a2.snd.snd.snd.snd.snd.snd.snd.snd.snd.snd.snd.fst s21) fun (y23 : Ty.El tHop) => bif !(y22.fst == y23.fst && (y22.snd.fst == y23.snd.fst && true)) then some (Sum.inr (Sum.inr false)) else some (Sum.inl (IntKind.wrap IntKind.i64 (s21 + (1 : Int)))) else some (Sum.inr (Sum.inl ()))) (0 : Int)) fun (s24 : Unit) => some true
noncomputable def addr_Network : ElS [tU, tI] → Option (RTy.El (.p tPrefix)) := fun x => match x with | (a1, a2, ()) => Option.bind (addr_Mask (a2, ())) fun (y0 : Int) => Option.bind (addr_clamp (a2, ())) fun (y1 : Int) => some (IntKind.wrap IntKind.u32 (↑(BitVec.toNat (BitVec.ofInt (IntKind.bits IntKind.u32) a1 &&& BitVec.ofInt (IntKind.bits IntKind.u32) y0)) : Int), y1, ())
noncomputable def cmp_isNaN_uint32 : ElS [tU] → Option (RTy.El (.p .bool)) := fun x => match x with | (a1, ()) => some (a1 != a1)
noncomputable def cmp_Compare_uint32 : ElS [tU, tU] → Option (RTy.El (.p tI)) := fun x => match x with | (a1, a2, ()) => Option.bind (cmp_isNaN_uint32 (a1, ())) fun (y0 : Bool) => Option.bind (cmp_isNaN_uint32 (a2, ())) fun (y1 : Bool) => bif y0 then bif y1 then some (0 : Int) else some (-1 : Int) else bif y1 then some (1 : Int) else bif decide (a1 < a2) then some (-1 : Int) else bif decide (a1 > a2) then some (1 : Int) else some (0 : Int)
noncomputable def cmp_isNaN_int : ElS [tI] → Option (RTy.El (.p .bool)) := fun x => match x with | (a1, ()) => some (a1 != a1)
noncomputable def cmp_Compare_int : ElS [tI, tI] → Option (RTy.El (.p tI)) := fun x => match x with | (a1, a2, ()) => Option.bind (cmp_isNaN_int (a1, ())) fun (y0 : Bool) => Option.bind (cmp_isNaN_int (a2, ())) fun (y1 : Bool) => bif y0 then bif y1 then some (0 : Int) else some (-1 : Int) else bif y1 then some (1 : Int) else bif decide (a1 < a2) then some (-1 : Int) else bif decide (a1 > a2) then some (1 : Int) else some (0 : Int)
noncomputable def addr_Compare : ElS [tPrefix, tPrefix] → Option (RTy.El (.p tI)) := fun x => match x with | (a1, a2, ()) => Option.bind (cmp_Compare_uint32 (a1.fst, a2.fst, ())) fun (y0 : Int) => bif y0 != (0 : Int) then some y0 else Option.bind (cmp_Compare_int (a1.snd.fst, a2.snd.fst, ())) fun (y1 : Int) => some y1
noncomputable def static_Connected_c1 : ElS [tRoute, tRoute] → Option (RTy.El (.p tI)) := fun x => match x with | (a1, a2, ()) => Option.bind (addr_Compare (a1.fst, a2.fst, ())) fun (y0 : Int) => some y0
noncomputable def slices_insertionSortCmpFunc_Route : List (Ty.El tRoute) → ElA [.d tI, .d tI, .clo 26 []] → Option (List (Ty.El tRoute) × RTy.El (.tu [])) := fun a0 x => match x with | (a1, a2, (), ()) => loopX (fun (s157 : Int × List (Ty.El tRoute)) => bif decide (s157.fst < a2) then Option.bind (loopX (fun (s158 : Int × List (Ty.El tRoute)) => Option.bind (bif decide (s158.fst > a1) then Option.bind (idx s158.snd s158.fst) fun (y159 : Ty.El tRoute) => Option.bind (atN s158.snd (Int.toNat s158.fst)) fun (y160 : Ty.El tRoute) => Option.bind (idx s158.snd (IntKind.wrap IntKind.i64 (s158.fst - (1 : Int)))) fun (y161 : Ty.El tRoute) => Option.bind (atN s158.snd (Int.toNat (IntKind.wrap IntKind.i64 (s158.fst - (1 : Int))))) fun (y162 : Ty.El tRoute) => Option.bind (static_Connected_c1 (y160, y162, ())) fun (y163 : Int) => some (decide (y163 < (0 : Int)), s158.snd) else some (false, s158.snd)) fun (s164 : Bool × List (Ty.El tRoute)) => bif s164.fst then Option.bind (idx s164.snd (IntKind.wrap IntKind.i64 (s158.fst - (1 : Int)))) fun (y165 : Ty.El tRoute) => Option.bind (atN s164.snd (Int.toNat (IntKind.wrap IntKind.i64 (s158.fst - (1 : Int))))) fun (y166 : Ty.El tRoute) => Option.bind (idx s164.snd s158.fst) fun (y167 : Ty.El tRoute) => Option.bind (atN s164.snd (Int.toNat s158.fst)) fun (y168 : Ty.El tRoute) => Option.bind (idx s164.snd s158.fst) fun (y169 : Ty.El tRoute) => Option.bind (atN s164.snd (Int.toNat s158.fst)) fun (y170 : Ty.El tRoute) => Option.bind (idx (List.set s164.snd (Int.toNat s158.fst) y166) (IntKind.wrap IntKind.i64 (s158.fst - (1 : Int)))) fun (y171 : Ty.El tRoute) => Option.bind (atN (List.set s164.snd (Int.toNat s158.fst) y166) (Int.toNat (IntKind.wrap IntKind.i64 (s158.fst - (1 : Int))))) fun (y172 : Ty.El tRoute) => some (Sum.inl (IntKind.wrap IntKind.i64 (s158.fst - (1 : Int)), List.set (List.set s164.snd (Int.toNat s158.fst) y166) (Int.toNat (IntKind.wrap IntKind.i64 (s158.fst - (1 : Int)))) y168)) else some (Sum.inr s164.snd)) s157) fun (s173 : List (Ty.El tRoute)) => some (Sum.inl (IntKind.wrap IntKind.i64 (s157.fst + (1 : Int)), s173)) else Option.map (fun (r : List (Ty.El tRoute) × Unit) => Sum.inr r) (bif Nat.beq (List.length s157.snd) (List.length a0) then some (s157.snd, ()) else none)) (IntKind.wrap IntKind.i64 (a1 + (1 : Int)), a0)
noncomputable def slices_symMergeCmpFunc_Route : List (Ty.El tRoute) → ElA [.d tI, .d tI, .d tI, .clo 26 []] → Option (List (Ty.El tRoute) × RTy.El (.tu [])) := fun _ _ => none
noncomputable def slices_stableCmpFunc_Route : List (Ty.El tRoute) → ElA [.d tI, .clo 26 []] → Option (List (Ty.El tRoute) × RTy.El (.tu [])) := fun a0 x => match x with | (a1, (), ()) => Option.bind (loopX (fun (s4 : Int × List (Ty.El tRoute) × Int) => bif decide (s4.fst ≤ a1) then bif Nat.beq (List.length s4.snd.fst) (List.length s4.snd.fst) then Option.bind (slices_insertionSortCmpFunc_Route s4.snd.fst (s4.snd.snd, s4.fst, (), ())) fun (y5 : List (Ty.El tRoute) × Unit) => some (Sum.inl (IntKind.wrap IntKind.i64 (s4.fst + (20 : Int)), y5.fst, s4.fst)) else none else some (Sum.inr s4.snd)) ((20 : Int), a0, (0 : Int))) fun (s6 : List (Ty.El tRoute) × Int) => bif Nat.beq (List.length s6.fst) (List.length s6.fst) then Option.bind (slices_insertionSortCmpFunc_Route s6.fst (s6.snd, a1, (), ())) fun (y7 : List (Ty.El tRoute) × Unit) => loopX (fun (s30 : Int × List (Ty.El tRoute)) => bif decide (s30.fst < a1) then Option.bind (loopX (fun (s31 : Int × List (Ty.El tRoute) × Int) => bif decide (s31.fst ≤ a1) then bif Nat.beq (List.length s31.snd.fst) (List.length s31.snd.fst) then Option.bind (slices_symMergeCmpFunc_Route s31.snd.fst (s31.snd.snd, IntKind.wrap IntKind.i64 (s31.snd.snd + s30.fst), s31.fst, (), ())) fun (y32 : List (Ty.El tRoute) × Unit) => some (Sum.inl (IntKind.wrap IntKind.i64 (s31.fst + IntKind.wrap IntKind.i64 ((2 : Int) * s30.fst)), y32.fst, s31.fst)) else none else some (Sum.inr (s31.snd.snd, s31.snd.fst))) (IntKind.wrap IntKind.i64 ((2 : Int) * s30.fst), s30.snd, (0 : Int))) fun (s33 : Int × List (Ty.El tRoute)) => Option.bind (bif decide (IntKind.wrap IntKind.i64 (s33.fst + s30.fst) < a1) then bif Nat.beq (List.length s33.snd) (List.length s33.snd) then Option.bind (slices_symMergeCmpFunc_Route s33.snd (s33.fst, IntKind.wrap IntKind.i64 (s33.fst + s30.fst), a1, (), ())) fun (y34 : List (Ty.El tRoute) × Unit) => some y34.fst else none else some s33.snd) fun (s35 : List (Ty.El tRoute)) => some (Sum.inl (IntKind.wrap IntKind.i64 (s30.fst * (2 : Int)), s35)) else Option.map (fun (r : List (Ty.El tRoute) × Unit) => Sum.inr r) (bif Nat.beq (List.length s30.snd) (List.length a0) then some (s30.snd, ()) else none)) ((20 : Int), y7.fst) else none
noncomputable def slices_SortStableFunc_Route : List (Ty.El tRoute) → ElA [.clo 26 []] → Option (List (Ty.El tRoute) × RTy.El (.tu [])) := fun a0 x => match x with | ((), ()) => bif Nat.beq (List.length a0) (List.length a0) && Nat.beq (List.length a0) (List.length a0) then Option.bind (slices_stableCmpFunc_Route a0 ((↑(List.length a0) : Int), (), ())) fun (y0 : List (Ty.El tRoute) × Unit) => bif Nat.beq (List.length y0.fst) (List.length a0) then some (y0.fst, ()) else none else none
noncomputable def static_Connected : ElS [tView, tI] → Option (RTy.El (.p (.sl tRoute))) := fun x => match x with | (a1, a2, ()) => Option.bind (bif decide (a2 < (0 : Int)) then some true else some (decide (a2 ≥ (↑(List.length a1.fst.fst) : Int)))) fun (s0 : Bool) => bif s0 then some [] else Option.bind (Option.bind (idx a1.fst.fst a2) fun (y18 : Ty.El tRouter) => loopX (fun (s19 : Int × List (Ty.El tRoute)) => bif decide (s19.fst < (↑(List.length y18.snd.snd.fst) : Int)) then Option.bind (Option.bind (idx y18.snd.snd.fst s19.fst) fun (y20 : Ty.El tIface) => Option.bind (topo_Up (a1, a2, s19.fst, ())) fun (y21 : Bool) => bif y21 then Option.bind (addr_Network (y20.snd.fst, y20.snd.snd.fst, ())) fun (y22 : Int × Int × Unit) => Option.bind (app (136 : Nat) s19.snd [(y22, (1 : Int), (0 : Int), (0 : Int), (0 : Int), (0 : Int), (0 : Int), (0 : Int), [], (0 : Int), (0 : Int), [(s19.fst, (0 : Int), ())], false, ())]) fun (y23 : List (Ty.El tRoute)) => some y23 else some s19.snd) fun (s24 : List (Ty.El tRoute)) => some (Sum.inl (IntKind.wrap IntKind.i64 (s19.fst + (1 : Int)), s24)) else some (Sum.inr s19.snd)) ((0 : Int), [])) fun (s25 : List (Ty.El tRoute)) => bif Nat.beq (List.length s25) (List.length s25) then Option.bind (slices_SortStableFunc_Route s25 ((), ())) fun (y26 : List (Ty.El tRoute) × Unit) => some y26.fst else none
noncomputable def ref20_router : ElS [tView, tI] → Option (RTy.El (.p .bool)) := fun x => match x with | (a1, a2, ()) => Option.bind (bif decide (a2 ≥ (0 : Int)) then some (decide (a2 < (↑(List.length a1.fst.fst) : Int))) else some false) fun (s0 : Bool) => some s0
noncomputable def ref15_Domain : ElS [tView, tI, tI] → Option (RTy.El (.p tI)) := fun x => match x with | (a1, a2, a3, ()) => cut2 (loopX (fun (s20 : Int) => bif decide (s20 < (↑(List.length a1.snd.fst.fst) : Int)) then cut2 (loopX (fun (s21 : Int) => Option.bind (idx a1.snd.fst.fst s20) fun (y22 : Ty.El tDomain) => bif decide (s21 < (↑(List.length y22.snd.snd.fst) : Int)) then Option.bind (idx a1.snd.fst.fst s20) fun (y23 : Ty.El tDomain) => Option.bind (idx y23.snd.snd.fst s21) fun (y24 : Ty.El tPorts) => bif y24.fst == a2 && (y24.snd.fst == a3 && true) then some (Sum.inr (Sum.inr (Sum.inr (Sum.inr s20)))) else some (Sum.inl (IntKind.wrap IntKind.i64 (s21 + (1 : Int)))) else some (Sum.inr (Sum.inl ()))) (0 : Int)) fun (s25 : Unit) => some (Sum.inl (IntKind.wrap IntKind.i64 (s20 + (1 : Int)))) else some (Sum.inr (Sum.inl ()))) (0 : Int)) fun (s26 : Unit) => some (-1 : Int)
noncomputable def ref15_Link : ElS [tView, tI, tI] → Option (RTy.El (.p tI)) := fun x => match x with | (a1, a2, a3, ()) => Option.bind (ref15_Domain (a1, a2, a3, ())) fun (y0 : Int) => cut2 (loopX (fun (s8 : Int) => bif decide (s8 < (↑(List.length a1.snd.fst.snd.fst) : Int)) then Option.bind (bif decide (y0 ≥ (0 : Int)) then Option.bind (idx a1.snd.fst.snd.fst s8) fun (y9 : Int) => some (y9 == y0) else some false) fun (s10 : Bool) => bif s10 then some (Sum.inr (Sum.inr s8)) else some (Sum.inl (IntKind.wrap IntKind.i64 (s8 + (1 : Int)))) else some (Sum.inr (Sum.inl ()))) (0 : Int)) fun (s11 : Unit) => some (-1 : Int)
noncomputable def ref15_Up : ElS [tView, tI, tI] → Option (RTy.El (.p .bool)) := fun x => match x with | (a1, a2, a3, ()) => Option.bind (ref15_Domain (a1, a2, a3, ())) fun (y0 : Int) => bif decide (y0 < (0 : Int)) then some false else Option.bind (ref15_Link (a1, a2, a3, ())) fun (y1 : Int) => cut2 (loopX (fun (s6 : Int) => bif decide (s6 < (↑(List.length a1.snd.snd.fst) : Int)) then Option.bind (idx a1.snd.snd.fst s6) fun (y7 : Int) => bif y7 == y1 then some (Sum.inr (Sum.inr false)) else some (Sum.inl (IntKind.wrap IntKind.i64 (s6 + (1 : Int)))) else some (Sum.inr (Sum.inl ()))) (0 : Int)) fun (s8 : Unit) => some true
noncomputable def ref20_network : ElS [tView, tI, tI] → Option (RTy.El (.p tPrefix)) := fun x => match x with | (a1, a2, a3, ()) => Option.bind (idx a1.fst.fst a2) fun (y0 : Ty.El tRouter) => Option.bind (idx y0.snd.snd.fst a3) fun (y1 : Ty.El tIface) => Option.bind (ref4_Network (y1.snd.fst, y1.snd.snd.fst, ())) fun (y2 : Int × Int × Unit) => some y2
noncomputable def ref15_prefixes : ElS [(.sl tRoute)] → Option (RTy.El (.p (.sl tPrefix))) := fun x => match x with | (a1, ()) => Option.bind (loopX (fun (s98 : Int × List (Ty.El tPrefix)) => bif decide (s98.fst < (↑(List.length a1) : Int)) then Option.bind (Option.bind (loopX (fun (s99 : Int × List (Ty.El tPrefix)) => Option.bind (bif decide (s99.fst < (↑(List.length s99.snd) : Int)) then Option.bind (idx s99.snd s99.fst) fun (y100 : Ty.El tPrefix) => Option.bind (atN s99.snd (Int.toNat s99.fst)) fun (y101 : Ty.El tPrefix) => Option.bind (idx a1 s98.fst) fun (y102 : Ty.El tRoute) => Option.bind (ref4_Compare (y101, y102.fst, ())) fun (y103 : Int) => some (decide (y103 < (0 : Int)), s99.snd) else some (false, s99.snd)) fun (s104 : Bool × List (Ty.El tPrefix)) => bif s104.fst then some (Sum.inl (IntKind.wrap IntKind.i64 (s99.fst + (1 : Int)), s104.snd)) else some (Sum.inr (s99.fst, s104.snd))) ((0 : Int), s98.snd)) fun (s105 : Int × List (Ty.El tPrefix)) => Option.bind (bif s105.fst == (↑(List.length s105.snd) : Int) then some (true, s105.snd) else Option.bind (idx s105.snd s105.fst) fun (y106 : Ty.El tPrefix) => Option.bind (atN s105.snd (Int.toNat s105.fst)) fun (y107 : Ty.El tPrefix) => Option.bind (idx a1 s98.fst) fun (y108 : Ty.El tRoute) => some (!(y107.fst == y108.fst.fst && (y107.snd.fst == y108.fst.snd.fst && true)), s105.snd)) fun (s109 : Bool × List (Ty.El tPrefix)) => bif s109.fst then Option.bind (sub s109.snd (0 : Int) s105.fst) fun (y110 : List (Ty.El tPrefix)) => Option.bind (idx a1 s98.fst) fun (y111 : Ty.El tRoute) => Option.bind (sub s109.snd s105.fst (↑(List.length s109.snd) : Int)) fun (y112 : List (Ty.El tPrefix)) => Option.bind (app (16 : Nat) [] y110) fun (y113 : List (Ty.El tPrefix)) => Option.bind (app (16 : Nat) y113 [y111.fst]) fun (y114 : List (Ty.El tPrefix)) => Option.bind (app (16 : Nat) y114 y112) fun (y115 : List (Ty.El tPrefix)) => some y115 else some s109.snd) fun (s116 : List (Ty.El tPrefix)) => some (Sum.inl (IntKind.wrap IntKind.i64 (s98.fst + (1 : Int)), s116)) else some (Sum.inr s98.snd)) ((0 : Int), [])) fun (s117 : List (Ty.El tPrefix)) => some s117
noncomputable def ref15_rank : ElS [tRoute] → Option (RTy.El (.p (.pair tI (.pair tI (.pair tI (.pair tI (.pair tI tPorts))))))) := fun x => match x with | (a1, ()) => bif a1.snd.fst == (3 : Int) then some (a1.snd.snd.fst, a1.snd.snd.snd.snd.fst, a1.snd.snd.snd.snd.snd.fst, a1.snd.snd.snd.snd.snd.snd.fst, (0 : Int), (0 : Int), (0 : Int), ()) else bif a1.snd.fst == (4 : Int) then some (a1.snd.snd.snd.snd.fst, a1.snd.snd.fst, a1.snd.snd.snd.snd.snd.snd.fst, (0 : Int), (0 : Int), (0 : Int), (0 : Int), ()) else bif a1.snd.fst == (5 : Int) then some (if (3 : Int) < a1.snd.snd.fst then (3 : Int) else a1.snd.snd.fst, IntKind.wrap IntKind.i64 ((1000000 : Int) - a1.snd.snd.snd.snd.snd.snd.snd.fst), (↑(List.length a1.snd.snd.snd.snd.snd.snd.snd.snd.fst) : Int), a1.snd.snd.snd.snd.fst, a1.snd.snd.fst, IntKind.wrap IntKind.i64 a1.snd.snd.snd.snd.snd.snd.snd.snd.snd.fst, (0 : Int), ()) else some (a1.snd.snd.snd.fst, (0 : Int), (0 : Int), (0 : Int), (0 : Int), (0 : Int), (0 : Int), ())
noncomputable def ref15_Prefer : ElS [tRoute, tRoute] → Option (RTy.El (.p tI)) := fun x => match x with | (a1, a2, ()) => Option.bind (ref15_rank (a1, ())) fun (y2 : Int × Int × Int × Int × Int × Ty.El tPorts) => Option.bind (ref15_rank (a2, ())) fun (y3 : Int × Int × Int × Int × Int × Ty.El tPorts) => cut2 (bif decide (y2.fst < y3.fst) then some (Sum.inr (-1 : Int)) else bif decide (y2.fst > y3.fst) then some (Sum.inr (1 : Int)) else bif decide (y2.snd.fst < y3.snd.fst) then some (Sum.inr (-1 : Int)) else bif decide (y2.snd.fst > y3.snd.fst) then some (Sum.inr (1 : Int)) else bif decide (y2.snd.snd.fst < y3.snd.snd.fst) then some (Sum.inr (-1 : Int)) else bif decide (y2.snd.snd.fst > y3.snd.snd.fst) then some (Sum.inr (1 : Int)) else bif decide (y2.snd.snd.snd.fst < y3.snd.snd.snd.fst) then some (Sum.inr (-1 : Int)) else bif decide (y2.snd.snd.snd.fst > y3.snd.snd.snd.fst) then some (Sum.inr (1 : Int)) else bif decide (y2.snd.snd.snd.snd.fst < y3.snd.snd.snd.snd.fst) then some (Sum.inr (-1 : Int)) else bif decide (y2.snd.snd.snd.snd.fst > y3.snd.snd.snd.snd.fst) then some (Sum.inr (1 : Int)) else bif decide (y2.snd.snd.snd.snd.snd.fst < y3.snd.snd.snd.snd.snd.fst) then some (Sum.inr (-1 : Int)) else bif decide (y2.snd.snd.snd.snd.snd.fst > y3.snd.snd.snd.snd.snd.fst) then some (Sum.inr (1 : Int)) else bif decide (y2.snd.snd.snd.snd.snd.snd.fst < y3.snd.snd.snd.snd.snd.snd.fst) then some (Sum.inr (-1 : Int)) else bif decide (y2.snd.snd.snd.snd.snd.snd.fst > y3.snd.snd.snd.snd.snd.snd.fst) then some (Sum.inr (1 : Int)) else some (Sum.inl ())) fun (s4 : Unit) => some (0 : Int)
noncomputable def ref15_addHop : ElS [(.sl tHop), tHop] → Option (RTy.El (.p (.sl tHop))) := fun x => match x with | (a1, a2, ()) => Option.bind (loopX (fun (s12 : Int) => Option.bind (bif decide (s12 < (↑(List.length a1) : Int)) then Option.bind (idx a1 s12) fun (y13 : Ty.El tHop) => Option.bind (ref15_lessHop (y13, a2, ())) fun (y14 : Bool) => some y14 else some false) fun (s15 : Bool) => bif s15 then some (Sum.inl (IntKind.wrap IntKind.i64 (s12 + (1 : Int)))) else some (Sum.inr s12)) (0 : Int)) fun (s16 : Int) => Option.bind (bif decide (s16 < (↑(List.length a1) : Int)) then Option.bind (idx a1 s16) fun (y19 : Ty.El tHop) => some (y19.fst == a2.fst && (y19.snd.fst == a2.snd.fst && true)) else some false) fun (s20 : Bool) => bif s20 then some a1 else Option.bind (sub a1 (0 : Int) s16) fun (y26 : List (Ty.El tHop)) => Option.bind (sub a1 s16 (↑(List.length a1) : Int)) fun (y27 : List (Ty.El tHop)) => Option.bind (app (16 : Nat) [] y26) fun (y28 : List (Ty.El tHop)) => Option.bind (app (16 : Nat) y28 [a2]) fun (y29 : List (Ty.El tHop)) => Option.bind (app (16 : Nat) y29 y27) fun (y30 : List (Ty.El tHop)) => some y30
noncomputable def ref15_AddHops : ElS [(.sl tHop), (.sl tHop)] → Option (RTy.El (.p (.sl tHop))) := fun x => match x with | (a1, a2, ()) => Option.bind (loopX (fun (s6 : Int × List (Ty.El tHop)) => bif decide (s6.fst < (↑(List.length a2) : Int)) then Option.bind (idx a2 s6.fst) fun (y7 : Ty.El tHop) => Option.bind (ref15_addHop (s6.snd, y7, ())) fun (y8 : List (Ty.El tHop)) => some (Sum.inl (IntKind.wrap IntKind.i64 (s6.fst + (1 : Int)), y8)) else some (Sum.inr s6.snd)) ((0 : Int), a1)) fun (s9 : List (Ty.El tHop)) => some s9
noncomputable def ref15_Merge : ElS [(.sl tRoute)] → Option (RTy.El (.p (.sl tRoute))) := fun x => match x with | (a1, ()) => Option.bind (ref15_prefixes (a1, ())) fun (y0 : List (Ty.El tPrefix)) => Option.bind (loopX (fun (s338 : Int × List (Ty.El tRoute)) => bif decide (s338.fst < (↑(List.length y0) : Int)) then Option.bind (Option.bind (loopX (fun (s339 : Int × Int × List (Ty.El tRoute)) => bif decide (s339.fst < (↑(List.length a1) : Int)) then Option.bind (Option.bind (Option.bind (idx a1 s339.fst) fun (y340 : Ty.El tRoute) => Option.bind (idx y0 s338.fst) fun (y341 : Ty.El tPrefix) => bif y340.fst.fst == y341.fst && (y340.fst.snd.fst == y341.snd.fst && true) then bif decide (s339.snd.fst < (0 : Int)) then some (true, s339.snd.snd) else Option.bind (idx a1 s339.fst) fun (y342 : Ty.El tRoute) => Option.bind (idx a1 s339.snd.fst) fun (y343 : Ty.El tRoute) => Option.bind (ref15_Prefer (y342, y343, ())) fun (y344 : Int) => some (decide (y344 < (0 : Int)), s339.snd.snd) else some (false, s339.snd.snd)) fun (s345 : Bool × List (Ty.El tRoute)) => bif s345.fst then some (s339.fst, s345.snd) else some (s339.snd.fst, s345.snd)) fun (s346 : Int × List (Ty.El tRoute)) => some (Sum.inl (IntKind.wrap IntKind.i64 (s339.fst + (1 : Int)), s346)) else some (Sum.inr s339.snd)) ((0 : Int), (-1 : Int), s338.snd)) fun (s347 : Int × List (Ty.El tRoute)) => Option.bind (idx a1 s347.fst) fun (y348 : Ty.El tRoute) => Option.bind (app (8 : Nat) [] y348.snd.snd.snd.snd.snd.snd.snd.snd.fst) fun (y349 : List Int) => Option.bind (loopX (fun (s350 : Int × List (Ty.El tRoute) × Int × Int × Int × Int × Int × Int × Int × Int × Int × List Int × Int × Int × List (Ty.El tHop) × Bool) => bif decide (s350.fst < (↑(List.length a1) : Int)) then Option.bind (Option.bind (Option.bind (idx a1 s350.fst) fun (y351 : Ty.El tRoute) => Option.bind (idx y0 s338.fst) fun (y352 : Ty.El tPrefix) => bif y351.fst.fst == y352.fst && (y351.fst.snd.fst == y352.snd.fst && true) then Option.bind (idx a1 s350.fst) fun (y353 : Ty.El tRoute) => Option.bind (idx a1 s347.fst) fun (y354 : Ty.El tRoute) => Option.bind (ref15_Prefer (y353, y354, ())) fun (y355 : Int) => some (y355 == (0 : Int), s350.snd) else some (false, s350.snd)) fun (s356 : Bool × List (Ty.El tRoute) × Int × Int × Int × Int × Int × Int × Int × Int × Int × List Int × Int × Int × List (Ty.El tHop) × Bool) => bif s356.fst then Option.bind (idx a1 s350.fst) fun (y357 : Ty.El tRoute) => Option.bind (ref15_AddHops (s356.snd.snd.snd.snd.snd.snd.snd.snd.snd.snd.snd.snd.snd.snd.fst, y357.snd.snd.snd.snd.snd.snd.snd.snd.snd.snd.snd.fst, ())) fun (y358 : List (Ty.El tHop)) => some (s356.snd.fst, s356.snd.snd.fst, s356.snd.snd.snd.fst, s356.snd.snd.snd.snd.fst, s356.snd.snd.snd.snd.snd.fst, s356.snd.snd.snd.snd.snd.snd.fst, s356.snd.snd.snd.snd.snd.snd.snd.fst, s356.snd.snd.snd.snd.snd.snd.snd.snd.fst, s356.snd.snd.snd.snd.snd.snd.snd.snd.snd.fst, s356.snd.snd.snd.snd.snd.snd.snd.snd.snd.snd.fst, s356.snd.snd.snd.snd.snd.snd.snd.snd.snd.snd.snd.fst, s356.snd.snd.snd.snd.snd.snd.snd.snd.snd.snd.snd.snd.fst, s356.snd.snd.snd.snd.snd.snd.snd.snd.snd.snd.snd.snd.snd.fst, y358, s356.snd.snd.snd.snd.snd.snd.snd.snd.snd.snd.snd.snd.snd.snd.snd) else some s356.snd) fun (s359 : List (Ty.El tRoute) × Int × Int × Int × Int × Int × Int × Int × Int × Int × List Int × Int × Int × List (Ty.El tHop) × Bool) => some (Sum.inl (IntKind.wrap IntKind.i64 (s350.fst + (1 : Int)), s359)) else some (Sum.inr s350.snd)) ((0 : Int), s347.snd, y348.fst.fst, y348.fst.snd.fst, y348.snd.fst, y348.snd.snd.fst, y348.snd.snd.snd.fst, y348.snd.snd.snd.snd.fst, y348.snd.snd.snd.snd.snd.fst, y348.snd.snd.snd.snd.snd.snd.fst, y348.snd.snd.snd.snd.snd.snd.snd.fst, y349, y348.snd.snd.snd.snd.snd.snd.snd.snd.snd.fst, y348.snd.snd.snd.snd.snd.snd.snd.snd.snd.snd.fst, [], y348.snd.snd.snd.snd.snd.snd.snd.snd.snd.snd.snd.snd.fst)) fun (s360 : List (Ty.El tRoute) × Int × Int × Int × Int × Int × Int × Int × Int × Int × List Int × Int × Int × List (Ty.El tHop) × Bool) => Option.bind (app (136 : Nat) s360.fst [((s360.snd.fst, s360.snd.snd.fst, ()), s360.snd.snd.snd.fst, s360.snd.snd.snd.snd.fst, s360.snd.snd.snd.snd.snd.fst, s360.snd.snd.snd.snd.snd.snd.fst, s360.snd.snd.snd.snd.snd.snd.snd.fst, s360.snd.snd.snd.snd.snd.snd.snd.snd.fst, s360.snd.snd.snd.snd.snd.snd.snd.snd.snd.fst, s360.snd.snd.snd.snd.snd.snd.snd.snd.snd.snd.fst, s360.snd.snd.snd.snd.snd.snd.snd.snd.snd.snd.snd.fst, s360.snd.snd.snd.snd.snd.snd.snd.snd.snd.snd.snd.snd.fst, s360.snd.snd.snd.snd.snd.snd.snd.snd.snd.snd.snd.snd.snd.fst, s360.snd.snd.snd.snd.snd.snd.snd.snd.snd.snd.snd.snd.snd.snd, ())]) fun (y361 : List (Ty.El tRoute)) => some y361) fun (s362 : List (Ty.El tRoute)) => some (Sum.inl (IntKind.wrap IntKind.i64 (s338.fst + (1 : Int)), s362)) else some (Sum.inr s338.snd)) ((0 : Int), [])) fun (s363 : List (Ty.El tRoute)) => some s363
noncomputable def ref20_Connected : ElS [tView, tI] → Option (RTy.El (.p (.sl tRoute))) := fun x => match x with | (a1, a2, ()) => Option.bind (loopX (fun (s21 : Int × List (Ty.El tRoute)) => Option.bind (Option.bind (ref20_router (a1, a2, ())) fun (y22 : Bool) => bif y22 then Option.bind (idx a1.fst.fst a2) fun (y23 : Ty.El tRouter) => some (decide (s21.fst < (↑(List.length y23.snd.snd.fst) : Int)), s21.snd) else some (false, s21.snd)) fun (s24 : Bool × List (Ty.El tRoute)) => bif s24.fst then Option.bind (Option.bind (ref15_Up (a1, a2, s21.fst, ())) fun (y25 : Bool) => bif y25 then Option.bind (ref20_network (a1, a2, s21.fst, ())) fun (y26 : Int × Int × Unit) => Option.bind (app (136 : Nat) s24.snd [(y26, (1 : Int), (0 : Int), (0 : Int), (0 : Int), (0 : Int), (0 : Int), (0 : Int), [], (0 : Int), (0 : Int), [(s21.fst, (0 : Int), ())], false, ())]) fun (y27 : List (Ty.El tRoute)) => some y27 else some s24.snd) fun (s28 : List (Ty.El tRoute)) => some (Sum.inl (IntKind.wrap IntKind.i64 (s21.fst + (1 : Int)), s28)) else some (Sum.inr s24.snd)) ((0 : Int), [])) fun (s29 : List (Ty.El tRoute)) => Option.bind (ref15_Merge (s29, ())) fun (y30 : List (Ty.El tRoute)) => some y30
noncomputable def ref15_SameAll : ElS [(.sl tRoute), (.sl tRoute)] → Option (RTy.El (.p .bool)) := fun x => match x with | (a1, a2, ()) => bif (↑(List.length a1) : Int) != (↑(List.length a2) : Int) then some false else cut2 (loopX (fun (s11 : Int) => bif decide (s11 < (↑(List.length a1) : Int)) then Option.bind (idx a1 s11) fun (y12 : Ty.El tRoute) => Option.bind (idx a2 s11) fun (y13 : Ty.El tRoute) => Option.bind (ref15_Same (y12, y13, ())) fun (y14 : Bool) => bif !y14 then some (Sum.inr (Sum.inr false)) else some (Sum.inl (IntKind.wrap IntKind.i64 (s11 + (1 : Int)))) else some (Sum.inr (Sum.inl ()))) (0 : Int)) fun (s15 : Unit) => some true
noncomputable def ref20_Resolves : ElS [(.sl tRoute), tPrefix, tU] → Option (RTy.El (.p tI)) := fun x => match x with | (a1, a2, a3, ()) => Option.bind (loopX (fun (s32 : Int × Int) => bif decide (s32.fst < (↑(List.length a1) : Int)) then Option.bind (Option.bind (Option.bind (idx a1 s32.fst) fun (y33 : Ty.El tRoute) => bif !(y33.fst.fst == a2.fst && (y33.fst.snd.fst == a2.snd.fst && true)) then Option.bind (idx a1 s32.fst) fun (y34 : Ty.El tRoute) => Option.bind (ref4_Contains (y34.fst, a3, ())) fun (y35 : Bool) => bif y35 then bif decide (s32.snd < (0 : Int)) then some true else Option.bind (idx a1 s32.fst) fun (y36 : Ty.El tRoute) => Option.bind (idx a1 s32.snd) fun (y37 : Ty.El tRoute) => some (decide (y36.fst.snd.fst > y37.fst.snd.fst)) else some false else some false) fun (s38 : Bool) => bif s38 then some s32.fst else some s32.snd) fun (s39 : Int) => some (Sum.inl (IntKind.wrap IntKind.i64 (s32.fst + (1 : Int)), s39)) else some (Sum.inr s32.snd)) ((0 : Int), (-1 : Int))) fun (s40 : Int) => some s40
noncomputable def ref20_Active : ElS [tView, (.sl tRoute), tI] → Option (RTy.El (.p (.sl tRoute))) := fun x => match x with | (a1, a2, a3, ()) => Option.bind (ref20_router (a1, a3, ())) fun (y0 : Bool) => bif !y0 then some [] else Option.bind (idx a1.fst.fst a3) fun (y1 : Ty.El tRouter) => Option.bind (loopX (fun (s65 : Int × List (Ty.El tRoute)) => bif decide (s65.fst < (↑(List.length y1.snd.snd.snd.snd.snd.snd.snd.fst) : Int)) then Option.bind (Option.bind (idx y1.snd.snd.snd.snd.snd.snd.snd.fst s65.fst) fun (y66 : Ty.El tStatic) => cut2 (bif y66.snd.fst != (0 : Int) then Option.bind (ref20_Resolves (a2, y66.fst, y66.snd.fst, ())) fun (y67 : Int) => Option.bind (bif decide (y67 < (0 : Int)) then some (true, s65.snd) else Option.bind (idx a2 y67) fun (y68 : Ty.El tRoute) => some (y68.snd.snd.snd.snd.snd.snd.snd.snd.snd.snd.snd.snd.fst, s65.snd)) fun (s69 : Bool × List (Ty.El tRoute)) => bif s69.fst then some (Sum.inr s69.snd) else some (Sum.inl s69.snd) else some (Sum.inl s65.snd)) fun (s70 : List (Ty.El tRoute)) => cut2 (bif y66.snd.snd.fst != { data := #[] } then Option.bind (ref8_Interface (y1, y66.snd.snd.fst, ())) fun (y71 : Int) => Option.bind (ref15_Up (a1, a3, y71, ())) fun (y72 : Bool) => bif !y72 then some (Sum.inr s70) else some (Sum.inl (s70, y66.fst, (2 : Int), (0 : Int), y66.snd.snd.snd.snd.fst, (0 : Int), (0 : Int), y66.snd.snd.snd.snd.snd.fst, (0 : Int), [], (0 : Int), y66.snd.fst, [(y71, (0 : Int), ())], y66.snd.snd.snd.fst, ())) else some (Sum.inl (s70, y66.fst, (2 : Int), (0 : Int), y66.snd.snd.snd.snd.fst, (0 : Int), (0 : Int), y66.snd.snd.snd.snd.snd.fst, (0 : Int), [], (0 : Int), y66.snd.fst, [], y66.snd.snd.snd.fst, ()))) fun (s73 : List (Ty.El tRoute) × Ty.El tRoute) => Option.bind (app (136 : Nat) s73.fst [s73.snd]) fun (y74 : List (Ty.El tRoute)) => some y74) fun (s75 : List (Ty.El tRoute)) => some (Sum.inl (IntKind.wrap IntKind.i64 (s65.fst + (1 : Int)), s75)) else some (Sum.inr s65.snd)) ((0 : Int), [])) fun (s76 : List (Ty.El tRoute)) => some s76
end Go.Ve

namespace Go.Ve
open Go
set_option maxRecDepth 1000000
set_option maxHeartbeats 4000000

/-- The end of an interface of the network, with this prefix and number. -/
def EndOk (n : Ty.El tNetwork) (p : Ty.El tPrefix) (vl : Int) (e : Ty.El tPorts) : Prop :=
  0 ≤ e.1 ∧ 0 ≤ e.2.1 ∧ ∃ r x, n.1[e.1.toNat]? = some r ∧ r.2.2.1[e.2.1.toNat]? = some x ∧ x.2.2.1 ≠ 0 ∧ x.2.2.2.2.1 = false ∧ ref4_Network (x.2.1, x.2.2.1, ()) = some p ∧ x.2.2.2.1 = vl

def rfOk (st : HSt tPorts) (B : Nat) (E : Ty.El tPorts → Prop) (q : Option (Nat × Nat)) : Prop :=
  ∀ id m, q = some (id, m) → ∃ xs, st[id]? = some (some xs) ∧ xs.length = m ∧ xs.length ≤ B ∧ ∀ e, e ∈ xs → E e

def Apart (d d' : Ty.El tDomainR) : Prop := ∀ id m m', d.2.2.1 = some (id, m) → d'.2.2.1 = some (id, m') → False

theorem Apart.symm {d d' : Ty.El tDomainR} (h : Apart d d') : Apart d' d := fun id m m' h1 h2 => h id m' m h2 h1

/-- Domains under way. -/
structure Bld (n : Ty.El tNetwork) (B : Nat) (D : List (Ty.El tDomainR)) (st : HSt tPorts) : Prop where
  len : D.length ≤ B
  ok : ∀ d, d ∈ D → rfOk st B (EndOk n d.1 d.2.1) d.2.2.1
  ap : D.Pairwise Apart

theorem bld_mono {n : Ty.El tNetwork} {B B' : Nat} {D : List (Ty.El tDomainR)} {st : HSt tPorts} (h : Bld n B D st) (hb : B ≤ B') : Bld n B' D st := by
  refine ⟨Nat.le_trans h.len hb, ?_, h.ap⟩
  intro d hd id m hq
  obtain ⟨xs, h1, h2, h3, h4⟩ := h.ok d hd id m hq
  exact ⟨xs, h1, h2, Nat.le_trans h3 hb, h4⟩

theorem bld_nil {n : Ty.El tNetwork} {B : Nat} {st : HSt tPorts} : Bld n B [] st := ⟨Nat.zero_le _, (fun d hd => by cases hd), List.Pairwise.nil⟩

theorem bld_ins {n : Ty.El tNetwork} {B : Nat} {D : List (Ty.El tDomainR)} {st : HSt tPorts} (h : Bld n B D st) (k : Nat) (p : Ty.El tPrefix) (v : Int) :
    Bld n (B + 1) (D.take k ++ [((p, v, none, ()) : Ty.El tDomainR)] ++ D.drop k) st := by
  have h' := bld_mono h (Nat.le_succ B)
  have hnew : ∀ d : Ty.El tDomainR, Apart d ((p, v, none, ()) : Ty.El tDomainR) := fun d id m m' _ h2 => by cases h2
  refine ⟨?_, ?_, ?_⟩
  · have := h.len; simp only [List.length_append, List.length_take, List.length_drop, List.length_singleton]; omega
  · intro d hd
    simp only [List.mem_append, List.mem_singleton] at hd
    rcases hd with (hd | rfl) | hd
    · exact h'.ok d (List.mem_of_mem_take hd)
    · intro id m hq; cases hq
    · exact h'.ok d (List.mem_of_mem_drop hd)
  · have hp := h.ap
    rw [← List.take_append_drop k D, List.pairwise_append] at hp
    obtain ⟨h1, h2, h3⟩ := hp
    rw [List.pairwise_append, List.pairwise_append]
    refine ⟨⟨h1, List.pairwise_singleton _ _, ?_⟩, h2, ?_⟩
    · intro a _ b hb
      simp only [List.mem_singleton] at hb
      subst hb
      exact hnew a
    · intro a ha b hb
      simp only [List.mem_append, List.mem_singleton] at ha
      rcases ha with ha | rfl
      · exact h3 a ha b hb
      · exact (hnew b).symm

theorem bld_set {n : Ty.El tNetwork} {B : Nat} {D : List (Ty.El tDomainR)} {st st' : HSt tPorts} (h : Bld n B D st) {k : Nat} {d : Ty.El tDomainR} (hd : D[k]? = some d) {id m : Nat} {xs : List (Ty.El tPorts)}
    (hnew : st'[id]? = some (some xs)) (hm : xs.length = m) (hB : xs.length ≤ B + 1) (hE : ∀ e, e ∈ xs → EndOk n d.1 d.2.1 e) (hid : st.length ≤ id)
    (hkeep : ∀ j ys, st[j]? = some (some ys) → (∀ m', d.2.2.1 ≠ some (j, m')) → st'[j]? = some (some ys)) :
    Bld n (B + 1) (D.set k ((d.1, d.2.1, some (id, m), ()) : Ty.El tDomainR)) st' := by
  have hlt : k < D.length := (List.getElem?_eq_some_iff.1 hd).1
  have hdk : D[k] = d := (List.getElem?_eq_some_iff.1 hd).2
  have hap := List.pairwise_iff_getElem.1 h.ap
  have hother : ∀ j (hj : j < D.length), j ≠ k → Apart d D[j] := by
    intro j hj hne
    rcases Nat.lt_or_ge j k with hh | hh
    · have := hap j k hj hlt hh; rw [hdk] at this; exact this.symm
    · have := hap k j hlt hj (by omega); rw [hdk] at this; exact this
  have hold : ∀ j (hj : j < D.length), Apart D[j] ((d.1, d.2.1, some (id, m), ()) : Ty.El tDomainR) := by
    intro j hj i m1 m2 h1 h2
    obtain ⟨ys, g1, _⟩ := h.ok D[j] (List.getElem_mem hj) i m1 h1
    simp only [Option.some.injEq, Prod.mk.injEq] at h2
    obtain ⟨rfl, _⟩ := h2
    have := (List.getElem?_eq_some_iff.1 g1).1
    omega
  refine ⟨by rw [List.length_set]; have := h.len; omega, ?_, ?_⟩
  · intro x hx
    obtain ⟨j, hj, rfl⟩ := List.getElem_of_mem hx
    rw [List.length_set] at hj
    rw [List.getElem_set]
    split
    · intro i m1 h1
      simp only [Option.some.injEq, Prod.mk.injEq] at h1
      obtain ⟨rfl, rfl⟩ := h1
      exact ⟨xs, hnew, hm, hB, hE⟩
    · rename_i hne
      intro i m1 h1
      obtain ⟨ys, g1, g2, g3, g4⟩ := h.ok D[j] (List.getElem_mem hj) i m1 h1
      exact ⟨ys, hkeep i ys g1 (fun m' hq => hother j hj (fun hh => hne hh.symm) i m' m1 hq h1), g2, by omega, g4⟩
  · rw [List.pairwise_iff_getElem]
    intro i j hi hj hij
    rw [List.length_set] at hi hj
    rw [List.getElem_set, List.getElem_set]
    split
    · split
      · omega
      · exact (hold j hj).symm
    · split
      · exact hold i hi
      · exact hap i j hi hj hij

theorem bld_app {n : Ty.El tNetwork} {B : Nat} {D : List (Ty.El tDomainR)} {st : HSt tPorts} (h : Bld n B D st) (hb : B ≤ 1000) {k : Nat} {d : Ty.El tDomainR} (hd : D[k]? = some d) {e : Ty.El tPorts} (he : EndOk n d.1 d.2.1 e) :
    Wp (happ 16 st d.2.2.1 [e]) (fun r => Bld n (B + 1) (D.set k ((d.1, d.2.1, r.2, ()) : Ty.El tDomainR)) r.1) := by
  have hmem : d ∈ D := List.mem_of_getElem? hd
  cases hq : d.2.2.1 with
  | none =>
    refine ⟨(st ++ [some [e]], some (st.length, 1)), ?_, ?_⟩
    · simp only [happ, List.length_singleton]
      rw [if_pos (by omega)]
    · refine bld_set h hd (xs := [e]) ?_ rfl (by simp) (fun e' h' => by simp only [List.mem_singleton] at h'; subst h'; exact he) (Nat.le_refl _) ?_
      · simp
      · intro j ys hj _
        rw [List.getElem?_append_left (List.getElem?_eq_some_iff.1 hj).1]
        exact hj
  | some q =>
    obtain ⟨id, m⟩ := q
    obtain ⟨xs, h1, h2, h3, h4⟩ := h.ok d hmem id m hq
    have hlt := (List.getElem?_eq_some_iff.1 h1).1
    refine ⟨(st.set id none ++ [some (xs ++ [e])], some (st.length, (xs ++ [e]).length)), ?_, ?_⟩
    · simp only [happ, h1, List.length_singleton]
      rw [if_pos (by omega)]
    · refine bld_set h hd (xs := xs ++ [e]) ?_ rfl (by simp; omega) ?_ (Nat.le_refl _) ?_
      · rw [List.getElem?_append_right (by simp)]
        simp
      · intro e' h'
        simp only [List.mem_append, List.mem_singleton] at h'
        rcases h' with h' | rfl
        · exact h4 e' h'
        · exact he
      · intro j ys hj hne
        have hjl := (List.getElem?_eq_some_iff.1 hj).1
        rw [List.getElem?_append_left (by rw [List.length_set]; exact hjl), List.getElem?_set_ne]
        · exact hj
        · intro hh
          subst hh
          exact hne m hq

/-- What a topology is made of. -/
structure TopoOk (n : Ty.El tNetwork) (t : Ty.El tTopo) : Prop where
  doms : t.1.length ≤ 360
  ends : ∀ d, d ∈ t.1 → d.2.2.1.length ≤ 360 ∧ ∀ e, e ∈ d.2.2.1 → EndOk n d.1 d.2.1 e
  links : t.2.1.length ≤ 12
  link : ∀ l, l ∈ t.2.1 → 0 ≤ l ∧ l < (t.1.length : Int)

theorem mapO_all {α β : Type} {f : α → Option β} {P : β → Prop} : ∀ {xs : List α}, (∀ x, x ∈ xs → Wp (f x) P) → Wp (mapO f xs) (fun ys => ys.length = xs.length ∧ ∀ y, y ∈ ys → P y)
  | [], _ => ⟨[], rfl, rfl, fun y h => by cases h⟩
  | x :: r, h => by
    obtain ⟨y, h1, h2⟩ := h x (by simp)
    obtain ⟨ys, h3, h4, h5⟩ := mapO_all (xs := r) (fun z hz => h z (List.mem_cons_of_mem _ hz))
    refine ⟨y :: ys, by simp only [mapO, h1, h3], by simp [h4], ?_⟩
    intro z hz
    rcases List.mem_cons.1 hz with rfl | hz
    · exact h2
    · exact h5 z hz

theorem bld_unrf {n : Ty.El tNetwork} {B : Nat} {D : List (Ty.El tDomainR)} {st : HSt tPorts} (h : Bld n B D st) :
    Wp (mapO (unrfV st tDomainR) D) (fun ys => ys.length = D.length ∧ ∀ d : Ty.El tDomain, d ∈ ys → d.2.2.1.length ≤ B ∧ ∀ e, e ∈ d.2.2.1 → EndOk n d.1 d.2.1 e) := by
  refine mapO_all ?_
  intro d hd
  obtain ⟨⟨p1, p2, ⟨⟩⟩, v, q, ⟨⟩⟩ := d
  cases q with
  | none => exact ⟨((p1, p2, ()), v, [], ()), rfl, Nat.zero_le _, fun e he => by cases he⟩
  | some q =>
    obtain ⟨id, m⟩ := q
    obtain ⟨xs, h1, h2, h3, h4⟩ := h.ok _ hd id m rfl
    refine ⟨((p1, p2, ()), v, xs, ()), ?_, h3, h4⟩
    simp only [unrfV, h1]
end Go.Ve

namespace Go.Ve
open Go
set_option maxRecDepth 1000000
set_option maxHeartbeats 4000000

theorem atN_of {α : Type} {xs : List α} {i : Nat} {x : α} (h : xs[i]? = some x) : atN xs i = some x := h

theorem compare_ref4 (a b : Ty.El tPrefix) : Wp (ref4_Compare (a, b, ())) (fun _ => True) := by
  unfold ref4_Compare
  try dsimp only
  repeat' (first
    | with_reducible exact trivial
    | with_reducible refine wp_some ?_
    | with_reducible refine wp_bifn (fun _ => ?_) (fun _ => ?_)
    | with_reducible refine wp_bifd (fun _ => ?_) (fun _ => ?_)
    | with_reducible refine wp_bif (fun _ => ?_) (fun _ => ?_)
    | with_reducible refine wp_bind ?_)

theorem pre_eq {p q : Ty.El tPrefix} (h : (p.fst == q.fst && (p.snd.fst == q.snd.fst && true)) = true) : p = q := by
  obtain ⟨a, b, ⟨⟩⟩ := p
  obtain ⟨c, d, ⟨⟩⟩ := q
  simp only [Bool.and_true, Bool.and_eq_true, beq_iff_eq] at h
  obtain ⟨rfl, rfl⟩ := h
  rfl

abbrev BSt := (List (Ty.El tDomainR) × List Int) × HSt tPorts

theorem tot_ref15_Build_H (a1 : Ty.El tNetwork) (hn : a1.1.length ≤ 9) (hs : ∀ y, y ∈ a1.fst → SmR y) :
    Wp (ref15_Build_H [] (a1, ())) (fun r => (r.2.2.1 = 0 → Bld a1 360 r.2.1.1 r.1 ∧ r.2.1.2.1.length ≤ 12 ∧ (∀ l, l ∈ r.2.1.2.1 → 0 ≤ l ∧ l < (r.2.1.1.length : Int)) ∧ ref8_Check (a1, ()) = some 0) ∧ (r.2.2.1 ≠ 0 → r.2.1 = ([], [], ()))) := by
  unfold ref15_Build_H
  dsimp only
  refine wp_bindT ((tot_ref8_Check a1 hs).mono (fun _ _ => trivial)) (fun y0 hy0 => ?_)
  refine wp_bif (fun hc => ?_) (fun hc => ?_)
  · refine wp_some ⟨fun h => ?_, fun _ => rfl⟩
    simp only at h
    subst h
    cases hc
  have hy : y0 = 0 := by simpa using hc
  subst hy
  refine wp_bind ((wp_fold (xs := a1.fst) (by omega) (fun i (g : BSt) => g.1.2 = [] ∧ Bld a1 (40 * i) g.1.1 g.2) ⟨rfl, bld_nil⟩ ?_ (Q := fun g => g.1.2 = [] ∧ Bld a1 360 g.1.1 g.2) (fun g hg => ⟨hg.1, bld_mono hg.2 (by omega)⟩)).mono ?_)
  · intro i x g hx hj
    have hi : i < 9 := by have := (List.getElem?_eq_some_iff.1 hx).1; omega
    have hsx := (hs x (List.mem_of_getElem? hx)).i1
    simp only [idx_nat hx, Option.bind_some]
    refine (wp_fold (xs := x.snd.snd.fst) (by omega) (fun j (g : BSt) => g.1.2 = [] ∧ Bld a1 (40 * i + 2 * j) g.1.1 g.2) hj ?_ (fun g hg => ⟨hg.1, bld_mono hg.2 (by omega)⟩))
    intro j f g hf hj
    have hjl : j < 20 := by have := (List.getElem?_eq_some_iff.1 hf).1; omega
    obtain ⟨⟨D, L⟩, st⟩ := g
    obtain ⟨rfl, hD⟩ := hj
    simp only [idx_nat hf, Option.bind_some]
    refine wp_bind ((show Wp _ (fun s : Bool × BSt => s.2 = ((D, []), st) ∧ (s.1 = false → f.snd.snd.fst ≠ 0 ∧ f.snd.snd.snd.snd.fst = false)) from ?_).mono ?_)
    · refine wp_bif (fun h => wp_some ⟨rfl, fun h => by cases h⟩) (fun h => wp_some ⟨rfl, fun h' => ⟨by simpa using h, h'⟩⟩)
    rintro ⟨b, g⟩ ⟨hg, hb⟩
    simp only at hg hb
    subst hg
    refine wp_bif (fun _ => wp_some ⟨rfl, bld_mono hD (by omega)⟩) (fun hb' => ?_)
    obtain ⟨hlen, hdown⟩ := hb hb'
    refine wp_bindT (tot_ref4_Network _ _) (fun p hp => ?_)
    -- the place of the domain
    refine wp_bind ((show Wp _ (fun s : Int × BSt => ∃ k : Nat, s.1 = (k : Int) ∧ k ≤ D.length ∧ s.2 = ((D, []), st)) from ?_).mono ?_)
    · refine wp_loop (fun s : Int × BSt => ∃ k : Nat, s.1 = (k : Int) ∧ k ≤ D.length ∧ s.2 = ((D, []), st)) (fun s => ((D.length : Int) - s.1).toNat) ⟨(0 : Nat), rfl, Nat.zero_le _, rfl⟩ ?_
      rintro ⟨s, g⟩ ⟨k, hk, hkl, hg⟩
      simp only at hk hg
      subst hk hg
      have hDl : D.length ≤ _ := hD.len
      refine wp_bind ((show Wp _ (fun s : Bool × BSt => s.2 = ((D, []), st) ∧ (s.1 = true → k < D.length)) from ?_).mono ?_)
      · refine wp_bifd (fun hlt => ?_) (fun _ => wp_some ⟨rfl, fun h => by cases h⟩)
        have hlt : k < D.length := by simp only at hlt; omega
        have hk : D[k]? = some D[k] := by simp [hlt]
        simp only [idx_nat hk, Int.toNat_natCast, atN_of hk, Option.bind_some]
        refine wp_bind ((compare_ref4 _ _).mono (fun c _ => ?_))
        refine wp_bifd (fun _ => wp_some ⟨rfl, fun _ => hlt⟩) (fun _ => ?_)
        refine wp_bif (fun _ => wp_some ⟨rfl, fun _ => hlt⟩) (fun _ => wp_some ⟨rfl, fun _ => hlt⟩)
      · rintro ⟨b, g⟩ ⟨hg, hb⟩
        simp only at hg hb
        subst hg
        refine wp_bif (fun h => ?_) (fun h => ?_)
        · have hlt := hb h
          refine wp_some (e2l ⟨⟨k + 1, ?_, hlt, rfl⟩, ?_⟩)
          · simp only; rw [wrap_i64 (by omega) (by omega)]; omega
          · simp only; rw [wrap_i64 (by omega) (by omega)]; omega
        · exact wp_some (e2r ⟨k, rfl, hkl, rfl⟩)
    rintro ⟨s, g⟩ ⟨k, hk, hkl, hg⟩
    simp only at hk hg
    subst hk hg
    have hDl : D.length ≤ _ := hD.len
    -- a new domain, where there is none
    refine wp_bind ((show Wp _ (fun g : BSt => g.1.2 = [] ∧ Bld a1 (40 * i + 2 * j + 1) g.1.1 g.2 ∧ ∃ d, g.1.1[k]? = some d ∧ d.1 = p ∧ d.2.1 = f.snd.snd.snd.fst) from ?_).mono ?_)
    · refine wp_bind ((show Wp _ (fun s : Bool × BSt => s.2 = ((D, []), st) ∧ (s.1 = false → ∃ d, D[k]? = some d ∧ d.1 = p ∧ d.2.1 = f.snd.snd.snd.fst)) from ?_).mono ?_)
      · refine wp_bif (fun _ => wp_some ⟨rfl, fun h => by cases h⟩) (fun hne => ?_)
        have hlt : k < D.length := by
          have : ¬ ((k : Int) = (D.length : Int)) := by simpa using hne
          omega
        have hk : D[k]? = some D[k] := by simp [hlt]
        simp only [idx_nat hk, Int.toNat_natCast, atN_of hk, Option.bind_some]
        refine wp_bif (fun _ => wp_some ⟨rfl, fun h => by cases h⟩) (fun he => ?_)
        have hpe := pre_eq (by simpa using he)
        refine wp_some ⟨rfl, fun hv => ⟨D[k], hk, hpe, by simpa using hv⟩⟩
      · rintro ⟨b, g⟩ ⟨hg, hb⟩
        simp only at hg hb
        subst hg
        refine wp_bif (fun _ => ?_) (fun hf' => wp_some ⟨rfl, bld_mono hD (by omega), hb hf'⟩)
        refine wp_bif (fun _ => ?_) (fun h => ?_)
        · simp only [Int.toNat_natCast, List.take_length]
          refine wp_bind (wp_app (by simp only [List.length_nil, List.length_drop]; omega) ?_)
          refine wp_bif (fun _ => ?_) (fun h => ?_)
          · refine wp_bind (wp_app (by simp only [List.length_take, List.length_singleton]; omega) ?_)
            refine wp_bind (wp_app (by simp only [List.length_append, List.length_nil, List.length_take, List.length_drop, List.length_singleton]; omega) ?_)
            rw [List.nil_append]
            refine wp_some ⟨rfl, bld_ins hD k p _, ⟨(p, f.snd.snd.snd.fst, none, ()), ?_, rfl, rfl⟩⟩
            simp only
            rw [List.append_assoc, List.getElem?_append_right (by simp only [List.length_take]; omega)]
            simp only [List.length_take]
            rw [show k - min k D.length = 0 by omega]
            rfl
          · exfalso
            simp only [Bool.and_eq_false_iff, decide_eq_false_iff_not] at h
            omega
        · exfalso
          simp only [Bool.and_eq_false_iff, decide_eq_false_iff_not] at h
          omega
    rintro ⟨⟨D', L'⟩, st'⟩ ⟨hL, hD', d, hk, hd1, hd2⟩
    simp only at hL hD' hk
    subst hL
    have hD'l : D'.length ≤ _ := hD'.len
    simp only [idx_nat hk, Int.toNat_natCast, atN_of hk, Option.bind_some]
    refine wp_bind ((bld_app hD' (by omega) hk (e := (↑i, ↑j, ())) ⟨(show (0 : Int) ≤ (i : Int) by omega), (show (0 : Int) ≤ (j : Int) by omega), x, f, by simpa using hx, by simpa using hf, hlen, hdown, ?_, ?_⟩).mono ?_)
    · rw [hp, hd1]
    · exact hd2.symm
    · rintro ⟨st2, q2⟩ hB
      exact wp_some ⟨rfl, bld_mono hB (by omega)⟩
  · rintro ⟨⟨D, L⟩, st⟩ ⟨hL, hD⟩
    simp only at hL hD
    subst hL
    have hDl : D.length ≤ _ := hD.len
    refine wp_bind ((wp_foldN (n := D.length) (by omega) (fun i (g : BSt) => g.1.1 = D ∧ g.2 = st ∧ g.1.2.length ≤ i ∧ ∀ l, l ∈ g.1.2 → 0 ≤ l ∧ l < (D.length : Int)) ⟨rfl, rfl, Nat.le_refl _, (fun l hl => by cases hl)⟩ (fun i g hg => by simp only [hg.1]) ?_
      (Q := fun g : BSt => g.1.1 = D ∧ g.2 = st ∧ ∀ l, l ∈ g.1.2 → 0 ≤ l ∧ l < (D.length : Int)) (fun g hg => ⟨hg.1, hg.2.1, hg.2.2.2⟩)).mono ?_)
    · rintro i ⟨⟨D', L⟩, st'⟩ hi ⟨rfl, rfl, hL, hl⟩
      simp only at hi hL hl
      have hDl2 : D'.length ≤ 360 := hD.len
      have hk : D'[i]? = some D'[i] := by simp [hi]
      simp only [idx_nat hk, Int.toNat_natCast, atN_of hk, Option.bind_some]
      refine wp_bifd (fun _ => ?_) (fun _ => wp_some ⟨rfl, rfl, by simp only; omega, hl⟩)
      refine wp_bind (wp_app (by simp only [List.length_singleton]; omega) (wp_some ⟨rfl, rfl, by simp only [List.length_append, List.length_singleton]; omega, ?_⟩))
      intro l hl'
      simp only [List.mem_append, List.mem_singleton] at hl'
      rcases hl' with hl' | rfl
      · exact hl l hl'
      · omega
    · rintro ⟨⟨D', L⟩, st'⟩ ⟨rfl, rfl, hl⟩
      simp only at hl
      refine wp_bifd (fun _ => wp_some ⟨(fun h => by cases h), fun _ => rfl⟩) (fun h => wp_some ⟨fun _ => ⟨hD, ?_, hl, hy0⟩, fun h => absurd rfl h⟩)
      simp only at h ⊢
      omega
end Go.Ve

namespace Go.Ve
open Go
set_option maxRecDepth 1000000
set_option maxHeartbeats 4000000

theorem unrf_pair {tE a b : Ty} {st : HSt tE} {x : a.El} {y : b.El} {x' : (unrfT tE a).El} {y' : (unrfT tE b).El} (h1 : unrfV st a x = some x') (h2 : unrfV st b y = some y') : unrfV st (.pair a b) (x, y) = some (x', y') := by
  simp only [unrfV, h1, h2]

theorem unrfS_cons {tE a : Ty} {r : List Ty} {st : HSt tE} {x : a.El} {y : ElS r} {x' : (unrfT tE a).El} {y' : ElS (unrfTs tE r)} (h1 : unrfV st a x = some x') (h2 : unrfS st r y = some y') : unrfS st (a :: r) (x, y) = some (x', y') := by
  simp only [unrfS, h1, h2]

theorem mapO_some {α : Type} {f : α → Option α} (hf : ∀ x, f x = some x) : ∀ l : List α, mapO f l = some l
  | [] => rfl
  | x :: l => by simp only [mapO, hf x, mapO_some hf l]

theorem tot_ref15_Build (a1 : Ty.El tNetwork) (hn : a1.1.length ≤ 9) (hs : ∀ y, y ∈ a1.fst → SmR y) :
    Wp (ref15_Build (a1, ())) (fun r => r.2.1 = 0 → TopoOk a1 r.1 ∧ ref8_Check (a1, ()) = some 0) := by
  obtain ⟨⟨st, ⟨D, L, ⟨⟩⟩, e, ⟨⟩⟩, h1, h2, h3⟩ := tot_ref15_Build_H a1 hn hs
  unfold ref15_Build unheap
  rw [h1]
  simp only at h2 h3
  by_cases he : e = 0
  · subst he
    obtain ⟨hB, hL, hl, hc⟩ := h2 rfl
    obtain ⟨ys, g1, g2, g3⟩ := bld_unrf hB
    refine ⟨((ys, L, ()), 0, ()), ?_, fun _ => ⟨⟨?_, g3, hL, ?_⟩, hc⟩⟩
    · have e1 : unrfV st (.sl tDomainR) D = some ys := g1
      have e2 : unrfV st (.sl tI) L = some L := mapO_some (fun _ => rfl) L
      exact unrfS_cons (r := [tI]) (unrf_pair e1 (unrf_pair e2 rfl)) rfl
    · simp only; have : D.length ≤ 360 := hB.len; omega
    · intro l hh; simp only; rw [g2]; exact hl l hh
  · have := h3 he
    simp only [Prod.mk.injEq] at this
    obtain ⟨rfl, rfl, _⟩ := this
    exact ⟨(([], [], ()), e, ()), rfl, fun h => absurd h he⟩

/-- The failed links ascend. -/
structure DownOk (d : List Int) (m : Int) : Prop where
  len : d.length ≤ 2
  lo : ∀ x, x ∈ d → 0 ≤ x ∧ x < m

theorem tot_ref15_Ascending (d : List Int) (m : Int) : Wp (ref15_Ascending (d, m, ())) (fun b => b = true → DownOk d m) := by
  unfold ref15_Ascending
  dsimp only
  refine wp_bifd (fun _ => wp_some (fun h => by cases h)) (fun h => ?_)
  refine wp_find (by omega) (fun i => ∀ (j : Nat) (y : Int), j < i → d[j]? = some y → 0 ≤ y ∧ y < m) (fun j y hj => by omega) ?_ ?_
  · intro i (x : Int) hx hj
    have hi := (List.getElem?_eq_some_iff.1 hx).1
    simp only [idx_nat hx, Option.bind_some]
    refine wp_bind ((show Wp _ (fun b : Bool => b = false → 0 ≤ x ∧ x < m) from ?_).mono ?_)
    · refine wp_bifd (fun _ => wp_some (fun h => by cases h)) (fun h1 => ?_)
      refine wp_bifd (fun _ => wp_some (fun h => by cases h)) (fun h2 => ?_)
      refine wp_bifd (fun h3 => ?_) (fun _ => wp_some (fun _ => ⟨by omega, by omega⟩))
      refine wp_bind (wp_idx (by rw [wrap_i64 (by omega) (by omega)]; omega) (by rw [wrap_i64 (by omega) (by omega)]; omega) (fun y _ _ => wp_some (fun _ => ⟨by omega, by omega⟩)))
    · intro b hb
      refine wp_bif (fun _ => wp_some (e2r (e2r (fun h => by cases h)))) (fun h => wp_some (e2l ⟨rfl, ?_⟩))
      intro j y hj' hy
      rcases Nat.lt_or_ge j i with h' | h'
      · exact hj j y h' hy
      · have : j = i := by omega
        subst this
        rw [hx] at hy
        cases hy
        exact hb h
  · intro hj
    refine wp_some (fun _ => ⟨by omega, ?_⟩)
    intro x hx
    obtain ⟨j, hjl, rfl⟩ := List.getElem_of_mem hx
    exact hj j _ hjl (by simp [hjl])

theorem all_of {α : Type} {xs : List α} {P : α → Prop} (h : ∀ j y, j < xs.length → xs[j]? = some y → P y) : ∀ y, y ∈ xs → P y := by
  intro x hx
  obtain ⟨j, hjl, rfl⟩ := List.getElem_of_mem hx
  exact h j _ hjl (by simp [hjl])

/-- A loop that looks whether all are so. -/
theorem wp_all {α ρ : Type} {xs : List α} {P : α → Prop} {body : Int → Option (Int ⊕ (Unit ⊕ ρ))} {K : Unit → Option ρ} {Q : ρ → Prop} (hl : xs.length < 4611686018427387904)
    (step : ∀ (i : Nat) x, xs[i]? = some x → Wp (body (i : Int)) (Either2 (fun s' => s' = IntKind.wrap IntKind.i64 ((i : Int) + 1) ∧ P x) (Either2 (fun _ => False) Q))) (fin : (∀ x, x ∈ xs → P x) → Wp (K ()) Q) :
    Wp (cut2 (loopX (fun s : Int => bif decide (s < (xs.length : Int)) then body s else some (Sum.inr (Sum.inl ()))) (0 : Int)) K) Q := by
  refine wp_find hl (fun i => ∀ j y, j < i → xs[j]? = some y → P y) (fun j y hj => by omega) ?_ (fun h => fin (all_of h))
  intro i x hx hj
  refine (step i x hx).mono ?_
  intro o ho
  cases o with
  | inl s' =>
    refine ⟨ho.1, ?_⟩
    intro j y hj' hy
    rcases Nat.lt_or_ge j i with h' | h'
    · exact hj j y h' hy
    · have : j = i := by omega
      subst this
      rw [hx] at hy
      cases hy
      exact ho.2
  | inr o => exact ho

theorem tot_law5_Small (a1 : Ty.El tRouter) : Wp (law5_Small (a1, ())) (fun b => b = true → SmR a1) := by
  unfold law5_Small
  dsimp only
  refine wp_bind ((show Wp _ (fun b : Bool => b = false → List.length a1.snd.snd.fst ≤ 12 ∧ List.length a1.snd.snd.snd.fst ≤ 12 ∧ List.length a1.snd.snd.snd.snd.fst ≤ 12 ∧ List.length a1.snd.snd.snd.snd.snd.fst ≤ 12 ∧ List.length a1.snd.snd.snd.snd.snd.snd.fst ≤ 12 ∧
    List.length a1.snd.snd.snd.snd.snd.snd.snd.fst ≤ 20 ∧ List.length a1.snd.snd.snd.snd.snd.snd.snd.snd.fst.snd.snd.fst ≤ 8 ∧ List.length a1.snd.snd.snd.snd.snd.snd.snd.snd.fst.snd.snd.snd.fst ≤ 8 ∧ List.length a1.snd.snd.snd.snd.snd.snd.snd.snd.snd.fst.snd.snd.snd.snd.fst ≤ 8 ∧
    List.length a1.snd.snd.snd.snd.snd.snd.snd.snd.snd.snd.fst.snd.snd.snd.snd.snd.snd.snd.fst ≤ 8 ∧ List.length a1.snd.snd.snd.snd.snd.snd.snd.snd.snd.snd.fst.snd.snd.snd.fst ≤ 12 ∧ List.length a1.snd.snd.snd.snd.snd.snd.snd.snd.snd.snd.fst.snd.snd.snd.snd.fst ≤ 12 ∧
    List.length a1.snd.snd.snd.snd.snd.snd.snd.snd.snd.snd.fst.snd.snd.snd.snd.snd.fst ≤ 12 ∧ List.length a1.snd.snd.snd.snd.snd.snd.snd.snd.snd.snd.fst.snd.snd.snd.snd.snd.snd.fst ≤ 12) from ?_).mono ?_)
  · iterate 13 (refine wp_bifd (fun _ => wp_some (fun h => by cases h)) (fun _ => ?_))
    refine wp_some (fun h => ?_)
    have h := of_decide_eq_false h
    refine ⟨?_, ?_, ?_, ?_, ?_, ?_, ?_, ?_, ?_, ?_, ?_, ?_, ?_, ?_⟩ <;> omega
  intro b hb
  refine wp_bif (fun _ => wp_some (fun h => by cases h)) (fun h => ?_)
  obtain ⟨i1, i2, i3, i4, i5, i6, i7, i8, i9, i10, i11, i12, i13, i14⟩ := hb h
  refine wp_all (P := fun y => List.length y.snd.fst ≤ 20) (by omega) ?_ (fun n1 => ?_)
  · intro i x hx
    simp only [idx_nat hx, Option.bind_some]
    exact wp_bifd (fun _ => wp_some (e2r (e2r (fun h => by cases h)))) (fun _ => wp_some (e2l ⟨rfl, by omega⟩))
  refine wp_all (P := fun y => List.length y.snd.fst ≤ 20) (by omega) ?_ (fun n2 => ?_)
  · intro i x hx
    simp only [idx_nat hx, Option.bind_some]
    exact wp_bifd (fun _ => wp_some (e2r (e2r (fun h => by cases h)))) (fun _ => wp_some (e2l ⟨rfl, by omega⟩))
  refine wp_all (P := fun y => List.length y.snd.fst ≤ 20) (by omega) ?_ (fun n3 => ?_)
  · intro i x hx
    simp only [idx_nat hx, Option.bind_some]
    exact wp_bifd (fun _ => wp_some (e2r (e2r (fun h => by cases h)))) (fun _ => wp_some (e2l ⟨rfl, by omega⟩))
  refine wp_some (fun _ => ?_)
  constructor <;> first | assumption | omega

theorem tot_law13_Small (a1 : Ty.El tNetwork) : Wp (law13_Small (a1, ())) (fun b => b = true → a1.1.length ≤ 9 ∧ ∀ y, y ∈ a1.1 → SmR y) := by
  unfold law13_Small
  dsimp only
  refine wp_bifd (fun _ => wp_some (fun h => by cases h)) (fun hn => ?_)
  refine wp_all (P := SmR) (by omega) ?_ (fun h => wp_some (fun _ => ⟨by omega, h⟩))
  intro i x hx
  simp only [idx_nat hx, Option.bind_some]
  refine wp_bind ((tot_law5_Small x).mono (fun b hb => ?_))
  refine wp_bif (fun _ => wp_some (e2r (e2r (fun h => by cases h)))) (fun h => wp_some (e2l ⟨rfl, hb (by simpa using h)⟩))

/-- What a view is made of. -/
structure ViewOk (n : Ty.El tNetwork) (d : List Int) (v : Ty.El tView) : Prop where
  net : v.1 = n
  rs : n.1.length ≤ 9
  sm : ∀ y, y ∈ n.1 → SmR y
  chk : ref8_Check (n, ()) = some 0
  topo : TopoOk n v.2.1
  dn : v.2.2.1 = d
  down : DownOk d v.2.1.2.1.length

theorem tot_ref15_Make (n : Ty.El tNetwork) (d : List Int) (hn : n.1.length ≤ 9) (hs : ∀ y, y ∈ n.fst → SmR y) :
    Wp (ref15_Make (n, d, ())) (fun r => r.2.1 = 0 → ViewOk n d r.1) := by
  unfold ref15_Make
  dsimp only
  refine wp_bind ((tot_ref15_Build n hn hs).mono (fun y0 hy => ?_))
  refine wp_bif (fun h => wp_some (fun h' => ?_)) (fun h => ?_)
  · simp only at h'
    rw [h'] at h
    cases h
  have he : y0.2.1 = 0 := by simpa using h
  obtain ⟨ht, hc⟩ := hy he
  refine wp_bind ((tot_ref15_Ascending _ _).mono (fun b hb => ?_))
  refine wp_bif (fun _ => wp_some (fun h' => by cases h')) (fun hb' => ?_)
  have hd := hb (by simpa using hb')
  refine wp_bind (wp_app (by have := hd.len; simp only [List.length_nil]; omega) ?_)
  refine wp_some (fun _ => ⟨rfl, hn, hs, hc, ht, rfl, ?_⟩)
  exact hd

theorem tot_law13_View (n : Ty.El tNetwork) (d : List Int) : Wp (law13_View (n, d, ())) (fun r => r.2.1 = true → ViewOk n d r.1) := by
  unfold law13_View
  dsimp only
  refine wp_bind (wp_bind ((tot_law13_Small n).mono (fun b hb => ?_)))
  refine wp_bif (fun _ => wp_some ?_) (fun h => wp_some ?_)
  · exact wp_some (fun h => by cases h)
  · obtain ⟨hn, hs⟩ := hb (by simpa using h)
    refine wp_bif (fun _ => wp_some (fun h => by cases h)) (fun _ => ?_)
    refine wp_bind ((tot_ref15_Make n d hn hs).mono (fun r hr => wp_some (fun h => hr ?_)))
    simpa using h
end Go.Ve

namespace Go.Ve
open Go
set_option maxRecDepth 1000000
set_option maxHeartbeats 4000000

/-- A route whose lists are no longer than the bulk. -/
structure RtS (x : Ty.El tRoute) : Prop where
  path : List.length x.snd.snd.snd.snd.snd.snd.snd.snd.fst ≤ 1048576
  hops : List.length x.snd.snd.snd.snd.snd.snd.snd.snd.snd.snd.snd.fst ≤ 1048576

theorem tot_ref4_Compare (a b : Ty.El tPrefix) : Wp (ref4_Compare (a, b, ())) (fun _ => True) := compare_ref4 a b

theorem tot_ref15_within (a1 : Ty.El (tI)) (a2 : Ty.El (tI)) (a3 : Ty.El (tI))  : Wp (ref15_within (a1, a2, a3, ())) (fun _ => True) := by
  unfold ref15_within
  try dsimp only
  repeat' (first
    | with_reducible exact trivial
    | assumption
    | contradiction
    | with_reducible refine wp_some ?_
    | with_reducible refine wp_byteAt ?_ ?_ (fun y _ _ => ?_)
    | with_reducible refine wp_idx ?_ ?_ (fun y _ _ => ?_)
    | with_reducible refine wp_bifn (fun _ => ?_) (fun _ => ?_)
    | with_reducible refine wp_bifd (fun _ => ?_) (fun _ => ?_)
    | with_reducible refine wp_bif (fun _ => ?_) (fun _ => ?_)
    | with_reducible refine wp_cut2 ?_
    | with_reducible refine wp_for (fun s _ _ => ?_) (fun s _ _ => ?_)
    | simp only [idx_of ‹_[_]? = some _›, Option.bind_some]
    | with_reducible refine wp_map ?_
    | with_reducible refine wp_bind ?_
    | with_reducible refine e2l ?_
    | with_reducible refine e2r ?_
    | exact wrap_i64 (by omega) (by omega)
    | omega
    | (rw [wrap_i64 (by omega) (by omega)]; omega)
    | (simp only [beq_iff_eq] at *; omega)
    | (simp only [List.length_cons, List.length_nil] at *; exact wrap_i64 (by omega) (by omega)))

theorem tot_ref15_plain (a1 : Ty.El (tRoute)) (a2 : Ty.El (.bool)) (a3 : Ty.El (.bool)) (a4 : Ty.El (.bool)) (h0 : RtS a1) : Wp (ref15_plain (a1, a2, a3, a4, ())) (fun _ => True) := by
  have hh0 := h0
  obtain ⟨p01, p02⟩ := hh0
  unfold ref15_plain
  try dsimp only
  repeat' (first
    | with_reducible exact trivial
    | assumption
    | contradiction
    | with_reducible refine wp_some ?_
    | with_reducible refine wp_byteAt ?_ ?_ (fun y _ _ => ?_)
    | with_reducible refine wp_idx ?_ ?_ (fun y _ _ => ?_)
    | with_reducible refine wp_bifn (fun _ => ?_) (fun _ => ?_)
    | with_reducible refine wp_bifd (fun _ => ?_) (fun _ => ?_)
    | with_reducible refine wp_bif (fun _ => ?_) (fun _ => ?_)
    | with_reducible refine wp_cut2 ?_
    | with_reducible refine wp_for (fun s _ _ => ?_) (fun s _ _ => ?_)
    | simp only [idx_of ‹_[_]? = some _›, Option.bind_some]
    | with_reducible refine wp_map ?_
    | with_reducible refine wp_bind ?_
    | with_reducible refine e2l ?_
    | with_reducible refine e2r ?_
    | exact wrap_i64 (by omega) (by omega)
    | omega
    | (rw [wrap_i64 (by omega) (by omega)]; omega)
    | (simp only [beq_iff_eq] at *; omega)
    | (simp only [List.length_cons, List.length_nil] at *; exact wrap_i64 (by omega) (by omega)))

theorem tot_ref15_lessHop (a1 : Ty.El (tHop)) (a2 : Ty.El (tHop))  : Wp (ref15_lessHop (a1, a2, ())) (fun _ => True) := by
  unfold ref15_lessHop
  try dsimp only
  repeat' (first
    | with_reducible exact trivial
    | assumption
    | contradiction
    | with_reducible refine wp_some ?_
    | with_reducible refine wp_byteAt ?_ ?_ (fun y _ _ => ?_)
    | with_reducible refine wp_idx ?_ ?_ (fun y _ _ => ?_)
    | with_reducible refine wp_bifn (fun _ => ?_) (fun _ => ?_)
    | with_reducible refine wp_bifd (fun _ => ?_) (fun _ => ?_)
    | with_reducible refine wp_bif (fun _ => ?_) (fun _ => ?_)
    | with_reducible refine wp_cut2 ?_
    | with_reducible refine wp_for (fun s _ _ => ?_) (fun s _ _ => ?_)
    | simp only [idx_of ‹_[_]? = some _›, Option.bind_some]
    | with_reducible refine wp_map ?_
    | with_reducible refine wp_bind ?_
    | with_reducible refine e2l ?_
    | with_reducible refine e2r ?_
    | exact wrap_i64 (by omega) (by omega)
    | omega
    | (rw [wrap_i64 (by omega) (by omega)]; omega)
    | (simp only [beq_iff_eq] at *; omega)
    | (simp only [List.length_cons, List.length_nil] at *; exact wrap_i64 (by omega) (by omega)))

theorem tot_ref15_hops (a1 : Ty.El (.sl tHop)) (a2 : Ty.El (.bool)) (h0 : List.length a1 ≤ 1048576) : Wp (ref15_hops (a1, a2, ())) (fun _ => True) := by
  unfold ref15_hops
  try dsimp only
  repeat' (first
    | with_reducible exact trivial
    | assumption
    | contradiction
    | with_reducible refine wp_some ?_
    | with_reducible refine (tot_ref15_lessHop _ _).mono (fun r _ => ?_)
    | with_reducible refine wp_byteAt ?_ ?_ (fun y _ _ => ?_)
    | with_reducible refine wp_idx ?_ ?_ (fun y _ _ => ?_)
    | with_reducible refine wp_bifn (fun _ => ?_) (fun _ => ?_)
    | with_reducible refine wp_bifd (fun _ => ?_) (fun _ => ?_)
    | with_reducible refine wp_bif (fun _ => ?_) (fun _ => ?_)
    | with_reducible refine wp_cut2 ?_
    | with_reducible refine wp_for (fun s _ _ => ?_) (fun s _ _ => ?_)
    | simp only [idx_of ‹_[_]? = some _›, Option.bind_some]
    | with_reducible refine wp_map ?_
    | with_reducible refine wp_bind ?_
    | with_reducible refine e2l ?_
    | with_reducible refine e2r ?_
    | exact wrap_i64 (by omega) (by omega)
    | omega
    | (rw [wrap_i64 (by omega) (by omega)]; omega)
    | (simp only [beq_iff_eq] at *; omega)
    | (simp only [List.length_cons, List.length_nil] at *; exact wrap_i64 (by omega) (by omega)))

theorem tot_ref15_validStatic (a1 : Ty.El (tRoute)) (h0 : RtS a1) : Wp (ref15_validStatic (a1, ())) (fun _ => True) := by
  have hh0 := h0
  obtain ⟨p01, p02⟩ := hh0
  unfold ref15_validStatic
  try dsimp only
  repeat' (first
    | with_reducible exact trivial
    | assumption
    | contradiction
    | with_reducible refine wp_some ?_
    | with_reducible refine (tot_ref15_within _ _ _).mono (fun r _ => ?_)
    | with_reducible refine (tot_ref15_plain _ _ _ _ ?_).mono (fun r _ => ?_)
    | with_reducible refine (tot_ref15_hops _ _ ?_).mono (fun r _ => ?_)
    | with_reducible refine wp_byteAt ?_ ?_ (fun y _ _ => ?_)
    | with_reducible refine wp_idx ?_ ?_ (fun y _ _ => ?_)
    | with_reducible refine wp_bifn (fun _ => ?_) (fun _ => ?_)
    | with_reducible refine wp_bifd (fun _ => ?_) (fun _ => ?_)
    | with_reducible refine wp_bif (fun _ => ?_) (fun _ => ?_)
    | with_reducible refine wp_cut2 ?_
    | with_reducible refine wp_for (fun s _ _ => ?_) (fun s _ _ => ?_)
    | simp only [idx_of ‹_[_]? = some _›, Option.bind_some]
    | with_reducible refine wp_map ?_
    | with_reducible refine wp_bind ?_
    | with_reducible refine e2l ?_
    | with_reducible refine e2r ?_
    | exact wrap_i64 (by omega) (by omega)
    | omega
    | (rw [wrap_i64 (by omega) (by omega)]; omega)
    | (simp only [beq_iff_eq] at *; omega)
    | (simp only [List.length_cons, List.length_nil] at *; exact wrap_i64 (by omega) (by omega)))

theorem tot_ref15_validLinkState (a1 : Ty.El (tRoute)) (h0 : RtS a1) : Wp (ref15_validLinkState (a1, ())) (fun _ => True) := by
  have hh0 := h0
  obtain ⟨p01, p02⟩ := hh0
  unfold ref15_validLinkState
  try dsimp only
  repeat' (first
    | with_reducible exact trivial
    | assumption
    | contradiction
    | with_reducible refine wp_some ?_
    | with_reducible refine (tot_ref15_within _ _ _).mono (fun r _ => ?_)
    | with_reducible refine (tot_ref15_plain _ _ _ _ ?_).mono (fun r _ => ?_)
    | with_reducible refine (tot_ref15_hops _ _ ?_).mono (fun r _ => ?_)
    | with_reducible refine wp_byteAt ?_ ?_ (fun y _ _ => ?_)
    | with_reducible refine wp_idx ?_ ?_ (fun y _ _ => ?_)
    | with_reducible refine wp_bifn (fun _ => ?_) (fun _ => ?_)
    | with_reducible refine wp_bifd (fun _ => ?_) (fun _ => ?_)
    | with_reducible refine wp_bif (fun _ => ?_) (fun _ => ?_)
    | with_reducible refine wp_cut2 ?_
    | with_reducible refine wp_for (fun s _ _ => ?_) (fun s _ _ => ?_)
    | simp only [idx_of ‹_[_]? = some _›, Option.bind_some]
    | with_reducible refine wp_map ?_
    | with_reducible refine wp_bind ?_
    | with_reducible refine e2l ?_
    | with_reducible refine e2r ?_
    | exact wrap_i64 (by omega) (by omega)
    | omega
    | (rw [wrap_i64 (by omega) (by omega)]; omega)
    | (simp only [beq_iff_eq] at *; omega)
    | (simp only [List.length_cons, List.length_nil] at *; exact wrap_i64 (by omega) (by omega)))

theorem tot_ref15_validDistance (a1 : Ty.El (tRoute)) (h0 : RtS a1) : Wp (ref15_validDistance (a1, ())) (fun _ => True) := by
  have hh0 := h0
  obtain ⟨p01, p02⟩ := hh0
  unfold ref15_validDistance
  try dsimp only
  repeat' (first
    | with_reducible exact trivial
    | assumption
    | contradiction
    | with_reducible refine wp_some ?_
    | with_reducible refine (tot_ref15_within _ _ _).mono (fun r _ => ?_)
    | with_reducible refine (tot_ref15_plain _ _ _ _ ?_).mono (fun r _ => ?_)
    | with_reducible refine (tot_ref15_hops _ _ ?_).mono (fun r _ => ?_)
    | with_reducible refine wp_byteAt ?_ ?_ (fun y _ _ => ?_)
    | with_reducible refine wp_idx ?_ ?_ (fun y _ _ => ?_)
    | with_reducible refine wp_bifn (fun _ => ?_) (fun _ => ?_)
    | with_reducible refine wp_bifd (fun _ => ?_) (fun _ => ?_)
    | with_reducible refine wp_bif (fun _ => ?_) (fun _ => ?_)
    | with_reducible refine wp_cut2 ?_
    | with_reducible refine wp_for (fun s _ _ => ?_) (fun s _ _ => ?_)
    | simp only [idx_of ‹_[_]? = some _›, Option.bind_some]
    | with_reducible refine wp_map ?_
    | with_reducible refine wp_bind ?_
    | with_reducible refine e2l ?_
    | with_reducible refine e2r ?_
    | exact wrap_i64 (by omega) (by omega)
    | omega
    | (rw [wrap_i64 (by omega) (by omega)]; omega)
    | (simp only [beq_iff_eq] at *; omega)
    | (simp only [List.length_cons, List.length_nil] at *; exact wrap_i64 (by omega) (by omega)))

theorem tot_ref15_validPath (a1 : Ty.El (tRoute)) (h0 : RtS a1) : Wp (ref15_validPath (a1, ())) (fun _ => True) := by
  have hh0 := h0
  obtain ⟨p01, p02⟩ := hh0
  unfold ref15_validPath
  try dsimp only
  repeat' (first
    | with_reducible exact trivial
    | assumption
    | contradiction
    | with_reducible refine wp_some ?_
    | with_reducible refine (tot_ref15_within _ _ _).mono (fun r _ => ?_)
    | with_reducible refine (tot_ref15_plain _ _ _ _ ?_).mono (fun r _ => ?_)
    | with_reducible refine (tot_ref15_hops _ _ ?_).mono (fun r _ => ?_)
    | with_reducible refine wp_byteAt ?_ ?_ (fun y _ _ => ?_)
    | with_reducible refine wp_idx ?_ ?_ (fun y _ _ => ?_)
    | with_reducible refine wp_bifn (fun _ => ?_) (fun _ => ?_)
    | with_reducible refine wp_bifd (fun _ => ?_) (fun _ => ?_)
    | with_reducible refine wp_bif (fun _ => ?_) (fun _ => ?_)
    | with_reducible refine wp_cut2 ?_
    | with_reducible refine wp_for (fun s _ _ => ?_) (fun s _ _ => ?_)
    | simp only [idx_of ‹_[_]? = some _›, Option.bind_some]
    | with_reducible refine wp_map ?_
    | with_reducible refine wp_bind ?_
    | with_reducible refine e2l ?_
    | with_reducible refine e2r ?_
    | exact wrap_i64 (by omega) (by omega)
    | omega
    | (rw [wrap_i64 (by omega) (by omega)]; omega)
    | (simp only [beq_iff_eq] at *; omega)
    | (simp only [List.length_cons, List.length_nil] at *; exact wrap_i64 (by omega) (by omega)))

theorem tot_ref15_Valid (a1 : Ty.El (tRoute)) (h0 : RtS a1) : Wp (ref15_Valid (a1, ())) (fun _ => True) := by
  have hh0 := h0
  obtain ⟨p01, p02⟩ := hh0
  unfold ref15_Valid
  try dsimp only
  repeat' (first
    | with_reducible exact trivial
    | assumption
    | contradiction
    | with_reducible refine wp_some ?_
    | with_reducible refine (tot_ref4_Valid _).mono (fun r _ => ?_)
    | with_reducible refine (tot_ref15_within _ _ _).mono (fun r _ => ?_)
    | with_reducible refine (tot_ref15_plain _ _ _ _ ?_).mono (fun r _ => ?_)
    | with_reducible refine (tot_ref15_hops _ _ ?_).mono (fun r _ => ?_)
    | with_reducible refine (tot_ref15_validStatic _ ?_).mono (fun r _ => ?_)
    | with_reducible refine (tot_ref15_validLinkState _ ?_).mono (fun r _ => ?_)
    | with_reducible refine (tot_ref15_validDistance _ ?_).mono (fun r _ => ?_)
    | with_reducible refine (tot_ref15_validPath _ ?_).mono (fun r _ => ?_)
    | with_reducible refine wp_byteAt ?_ ?_ (fun y _ _ => ?_)
    | with_reducible refine wp_idx ?_ ?_ (fun y _ _ => ?_)
    | with_reducible refine wp_bifn (fun _ => ?_) (fun _ => ?_)
    | with_reducible refine wp_bifd (fun _ => ?_) (fun _ => ?_)
    | with_reducible refine wp_bif (fun _ => ?_) (fun _ => ?_)
    | with_reducible refine wp_cut2 ?_
    | with_reducible refine wp_for (fun s _ _ => ?_) (fun s _ _ => ?_)
    | simp only [idx_of ‹_[_]? = some _›, Option.bind_some]
    | with_reducible refine wp_map ?_
    | with_reducible refine wp_bind ?_
    | with_reducible refine e2l ?_
    | with_reducible refine e2r ?_
    | exact wrap_i64 (by omega) (by omega)
    | omega
    | (rw [wrap_i64 (by omega) (by omega)]; omega)
    | (simp only [beq_iff_eq] at *; omega)
    | (simp only [List.length_cons, List.length_nil] at *; exact wrap_i64 (by omega) (by omega)))

theorem tot_ref15_Table (a1 : Ty.El (.sl tRoute)) (a2 : Ty.El (tI)) (h0 : List.length a1 ≤ 1048576) (h1 : ∀ y, y ∈ a1 → RtS y) : Wp (ref15_Table (a1, a2, ())) (fun _ => True) := by
  unfold ref15_Table
  try dsimp only
  repeat' (first
    | with_reducible exact trivial
    | assumption
    | contradiction
    | with_reducible refine wp_some ?_
    | with_reducible refine (tot_ref15_Valid _ ?_).mono (fun r _ => ?_)
    | with_reducible refine (tot_ref4_Compare _ _).mono (fun r _ => ?_)
    | with_reducible refine wp_byteAt ?_ ?_ (fun y _ _ => ?_)
    | with_reducible refine wp_idxA h1 ?_ ?_ (fun y _ _ => ?_)
    | with_reducible refine wp_idx ?_ ?_ (fun y _ _ => ?_)
    | with_reducible refine wp_bifn (fun _ => ?_) (fun _ => ?_)
    | with_reducible refine wp_bifd (fun _ => ?_) (fun _ => ?_)
    | with_reducible refine wp_bif (fun _ => ?_) (fun _ => ?_)
    | with_reducible refine wp_cut2 ?_
    | with_reducible refine wp_for (fun s _ _ => ?_) (fun s _ _ => ?_)
    | simp only [idx_of ‹_[_]? = some _›, Option.bind_some]
    | with_reducible refine wp_map ?_
    | with_reducible refine wp_bind ?_
    | with_reducible refine e2l ?_
    | with_reducible refine e2r ?_
    | exact wrap_i64 (by omega) (by omega)
    | omega
    | (rw [wrap_i64 (by omega) (by omega)]; omega)
    | (simp only [beq_iff_eq] at *; omega)
    | (simp only [List.length_cons, List.length_nil] at *; exact wrap_i64 (by omega) (by omega)))

end Go.Ve

/-
  Functions out of code: views, tables, static routes.
  Functions out of code: distance-vector and path-vector routing.
  Plain laws, part 1: what partial values come to.
  Plain laws, part 2: loops over lists.
  Plain laws, part 3: loops over lists within loops.
  Plain laws: sorting by insertion.
  Plain laws: prefixes in order; domains in order.
-/
import Derived.Test.YtcnlcmbchljpgaaGreatQt10
import Derived.Test.YtcnlcmbchljpgaaGreatQt11
set_option linter.unusedVariables false
namespace Go.Ve
open Go
set_option maxRecDepth 1000000
noncomputable def zEE : ElS [zH] → Option (RTy.El (.p .bool)) := fun x => match x with | (a1, ()) => Option.bind (bif decide ((↑(List.length a1.2.2.1) : Int) > (12 : Int)) then some true else bif decide ((↑(List.length a1.2.2.2.1) : Int) > (12 : Int)) then some true else bif decide ((↑(List.length a1.2.2.2.2.1) : Int) > (12 : Int)) then some true else bif decide ((↑(List.length a1.2.2.2.2.2.1) : Int) > (12 : Int)) then some true else bif decide ((↑(List.length a1.2.2.2.2.2.2.1) : Int) > (12 : Int)) then some true else bif decide ((↑(List.length a1.2.2.2.2.2.2.2.1) : Int) > (20 : Int)) then some true else bif decide ((↑(List.length a1.2.2.2.2.2.2.2.2.1.2.2.1) : Int) > (8 : Int)) then some true else bif decide ((↑(List.length a1.2.2.2.2.2.2.2.2.1.2.2.2.1) : Int) > (8 : Int)) then some true else bif decide ((↑(List.length a1.2.2.2.2.2.2.2.2.2.1.2.2.2.2.1) : Int) > (8 : Int)) then some true else bif decide ((↑(List.length a1.2.2.2.2.2.2.2.2.2.2.1.2.2.2.2.2.2.2.1) : Int) > (8 : Int)) then some true else bif decide ((↑(List.length a1.2.2.2.2.2.2.2.2.2.2.1.2.2.2.1) : Int) > (12 : Int)) then some true else bif decide ((↑(List.length a1.2.2.2.2.2.2.2.2.2.2.1.2.2.2.2.1) : Int) > (12 : Int)) then some true else bif decide ((↑(List.length a1.2.2.2.2.2.2.2.2.2.2.1.2.2.2.2.2.1) : Int) > (12 : Int)) then some true else some (decide ((↑(List.length a1.2.2.2.2.2.2.2.2.2.2.1.2.2.2.2.2.2.1) : Int) > (12 : Int)))) fun (s0 : Bool) => bif s0 then some false else qV (zN (fun (s5 : Int) => bif decide (s5 < (↑(List.length a1.2.2.2.1) : Int)) then Option.bind (idx a1.2.2.2.1 s5) fun (y6 : Ty.El jJ) => bif decide ((↑(List.length y6.2.1) : Int) > (20 : Int)) then some (Sum.inr (Sum.inr false)) else some (Sum.inl (IntKind.wrap IntKind.i64 (s5 + (1 : Int)))) else some (Sum.inr (Sum.inl ()))) (0 : Int)) fun (s7 : Unit) => qV (zN (fun (s12 : Int) => bif decide (s12 < (↑(List.length a1.2.2.2.2.1) : Int)) then Option.bind (idx a1.2.2.2.2.1 s12) fun (y13 : Ty.El zHk) => bif decide ((↑(List.length y13.2.1) : Int) > (12 : Int)) then some (Sum.inr (Sum.inr false)) else some (Sum.inl (IntKind.wrap IntKind.i64 (s12 + (1 : Int)))) else some (Sum.inr (Sum.inl ()))) (0 : Int)) fun (s14 : Unit) => qV (zN (fun (s19 : Int) => bif decide (s19 < (↑(List.length a1.2.2.2.2.2.1) : Int)) then Option.bind (idx a1.2.2.2.2.2.1 s19) fun (y20 : Ty.El zKa) => bif decide ((↑(List.length y20.2.1) : Int) > (20 : Int)) then some (Sum.inr (Sum.inr false)) else some (Sum.inl (IntKind.wrap IntKind.i64 (s19 + (1 : Int)))) else some (Sum.inr (Sum.inl ()))) (0 : Int)) fun (s21 : Unit) => some true
noncomputable def zDq : ElS [zT] → Option (RTy.El (.p .bool)) := fun x => match x with | (a1, ()) => bif decide ((↑(List.length a1.1) : Int) > (9 : Int)) then some false else qV (zN (fun (s6 : Int) => bif decide (s6 < (↑(List.length a1.1) : Int)) then Option.bind (idx a1.1 s6) fun (y7 : Ty.El zH) => Option.bind (zEE (y7, ())) fun (y8 : Bool) => bif !y8 then some (Sum.inr (Sum.inr false)) else some (Sum.inl (IntKind.wrap IntKind.i64 (s6 + (1 : Int)))) else some (Sum.inr (Sum.inl ()))) (0 : Int)) fun (s9 : Unit) => some true
noncomputable def wV : ElS [zF, zF] → Option (RTy.El (.p tI)) := fun x => match x with | (a1, a2, ()) => Option.bind (bif decide (a1.1 < a2.1) then some true else bif a1.1 == a2.1 then some (decide (a1.2.1 < a2.2.1)) else some false) fun (s0 : Bool) => bif s0 then some (-1 : Int) else bif a1.1 == a2.1 && (a1.2.1 == a2.2.1 && true) then some (0 : Int) else some (1 : Int)
noncomputable def zBJ : HSt zK → ElS [zT] → Option (HSt zK × RTy.El (.tu [zFK, tI])) := fun st0 x => match x with | (a1, ()) => Option.bind (kD (a1, ())) fun (y0 : Int) => bif y0 != (0 : Int) then some (st0, ([], [], ()), y0, ()) else Option.bind (zN (fun (s1 : Int × (List (Ty.El zO) × List Int) × HSt zK) => bif decide (s1.1 < (↑(List.length a1.1) : Int)) then Option.bind (zN (fun (s2 : Int × (List (Ty.El zO) × List Int) × HSt zK) => Option.bind (idx a1.1 s1.1) fun (y3 : Ty.El zH) => bif decide (s2.1 < (↑(List.length y3.2.2.1) : Int)) then Option.bind (Option.bind (idx a1.1 s1.1) fun (y4 : Ty.El zH) => Option.bind (idx y4.2.2.1 s2.1) fun (y5 : Ty.El qA) => Option.bind (bif y5.2.2.1 == (0 : Int) then some (true, s2.2) else some (y5.2.2.2.2.1, s2.2)) fun (s6 : Bool × (List (Ty.El zO) × List Int) × HSt zK) => bif s6.1 then some s6.2 else Option.bind (j5 (y5.2.1, y5.2.2.1, ())) fun (y7 : Int × Int × Unit) => Option.bind (zN (fun (s8 : Int × (List (Ty.El zO) × List Int) × HSt zK) => Option.bind (bif decide (s8.1 < (↑(List.length s8.2.1.1) : Int)) then Option.bind (idx s8.2.1.1 s8.1) fun (y16 : Ty.El zO) => Option.bind (atN s8.2.1.1 (Int.toNat s8.1)) fun (y17 : Ty.El zO) => Option.bind (wV (y17.1, y7, ())) fun (y18 : Int) => bif decide (y18 < (0 : Int)) then some (true, s8.2) else Option.bind (idx s8.2.1.1 s8.1) fun (y19 : Ty.El zO) => Option.bind (atN s8.2.1.1 (Int.toNat s8.1)) fun (y20 : Ty.El zO) => bif y20.1.1 == y7.1 && (y20.1.2.1 == y7.2.1 && true) then Option.bind (idx s8.2.1.1 s8.1) fun (y21 : Ty.El zO) => Option.bind (atN s8.2.1.1 (Int.toNat s8.1)) fun (y22 : Ty.El zO) => some (decide (y22.2.1 < y5.2.2.2.1), s8.2) else some (false, s8.2) else some (false, s8.2)) fun (s23 : Bool × (List (Ty.El zO) × List Int) × HSt zK) => bif s23.1 then some (Sum.inl (IntKind.wrap IntKind.i64 (s8.1 + (1 : Int)), s23.2)) else some (Sum.inr (s8.1, s23.2))) ((0 : Int), s6.2)) fun (s24 : Int × (List (Ty.El zO) × List Int) × HSt zK) => Option.bind (Option.bind (bif s24.1 == (↑(List.length s24.2.1.1) : Int) then some (true, s24.2) else Option.bind (idx s24.2.1.1 s24.1) fun (y29 : Ty.El zO) => Option.bind (atN s24.2.1.1 (Int.toNat s24.1)) fun (y30 : Ty.El zO) => bif !(y30.1.1 == y7.1 && (y30.1.2.1 == y7.2.1 && true)) then some (true, s24.2) else Option.bind (idx s24.2.1.1 s24.1) fun (y31 : Ty.El zO) => Option.bind (atN s24.2.1.1 (Int.toNat s24.1)) fun (y32 : Ty.El zO) => some (y32.2.1 != y5.2.2.2.1, s24.2)) fun (s33 : Bool × (List (Ty.El zO) × List Int) × HSt zK) => bif s33.1 then bif decide ((0 : Int) ≤ s24.1) && decide (s24.1 ≤ (↑(List.length s33.2.1.1) : Int)) && decide ((↑(List.length s33.2.1.1) : Int) ≤ (↑(List.length s33.2.1.1) : Int)) then Option.bind (app (48 : Nat) [] (List.drop (Int.toNat s24.1) (List.take (Int.toNat (↑(List.length s33.2.1.1) : Int)) s33.2.1.1))) fun (y34 : List (Ty.El zO)) => bif decide ((0 : Int) ≤ (0 : Int)) && decide ((0 : Int) ≤ s24.1) && decide (s24.1 ≤ (↑(List.length s33.2.1.1) : Int)) then Option.bind (app (48 : Nat) (List.take (Int.toNat s24.1) s33.2.1.1) [(y7, y5.2.2.2.1, none, ())]) fun (y35 : List (Ty.El zO)) => Option.bind (app (48 : Nat) y35 y34) fun (y36 : List (Ty.El zO)) => some ((y36, s33.2.1.2), s33.2.2) else none else none else some s33.2) fun (s37 : (List (Ty.El zO) × List Int) × HSt zK) => Option.bind (idx s37.1.1 s24.1) fun (y38 : Ty.El zO) => Option.bind (atN s37.1.1 (Int.toNat s24.1)) fun (y39 : Ty.El zO) => Option.bind (zOC (16 : Nat) s37.2 y39.2.2.1 [(s1.1, s2.1, ())]) fun (y40 : List (Option (List (Ty.El zK))) × Option (Nat × Nat)) => Option.bind (idx s37.1.1 s24.1) fun (y41 : Ty.El zO) => Option.bind (atN s37.1.1 (Int.toNat s24.1)) fun (y42 : Ty.El zO) => some ((List.set s37.1.1 (Int.toNat s24.1) (y42.1, y42.2.1, y40.2, ()), s37.1.2), y40.1)) fun (s43 : (List (Ty.El zO) × List Int) × HSt zK) => some (Sum.inl (IntKind.wrap IntKind.i64 (s2.1 + (1 : Int)), s43)) else some (Sum.inr s2.2)) ((0 : Int), s1.2)) fun (s44 : (List (Ty.El zO) × List Int) × HSt zK) => some (Sum.inl (IntKind.wrap IntKind.i64 (s1.1 + (1 : Int)), s44)) else some (Sum.inr s1.2)) ((0 : Int), ([], []), st0)) fun (s45 : (List (Ty.El zO) × List Int) × HSt zK) => Option.bind (zN (fun (s67 : Int × (List (Ty.El zO) × List Int) × HSt zK) => bif decide (s67.1 < (↑(List.length s67.2.1.1) : Int)) then Option.bind (Option.bind (idx s67.2.1.1 s67.1) fun (y68 : Ty.El zO) => Option.bind (atN s67.2.1.1 (Int.toNat s67.1)) fun (y69 : Ty.El zO) => bif decide ((↑(zT5 y69.2.2.1) : Int) > (1 : Int)) then Option.bind (app (8 : Nat) s67.2.1.2 [s67.1]) fun (y70 : List Int) => some ((s67.2.1.1, y70), s67.2.2) else some s67.2) fun (s71 : (List (Ty.El zO) × List Int) × HSt zK) => some (Sum.inl (IntKind.wrap IntKind.i64 (s67.1 + (1 : Int)), s71)) else some (Sum.inr s67.2)) ((0 : Int), s45)) fun (s72 : (List (Ty.El zO) × List Int) × HSt zK) => bif decide ((↑(List.length s72.1.2) : Int) > (12 : Int)) then some (s72.2, ([], [], ()), (7 : Int), ()) else some (s72.2, (s72.1.1, s72.1.2, ()), (0 : Int), ())
noncomputable def zDj : ElS [zT] → Option (RTy.El (.tu [zIK, tI])) := zMt (.tu [zFK, tI]) zBJ
noncomputable def zAt : ElS [(.sl tI), tI] → Option (RTy.El (.p .bool)) := fun x => match x with | (a1, a2, ()) => bif decide ((↑(List.length a1) : Int) > (2 : Int)) then some false else qV (zN (fun (s20 : Int) => bif decide (s20 < (↑(List.length a1) : Int)) then Option.bind (Option.bind (idx a1 s20) fun (y21 : Int) => bif decide (y21 < (0 : Int)) then some true else Option.bind (idx a1 s20) fun (y22 : Int) => bif decide (y22 ≥ a2) then some true else bif decide (s20 > (0 : Int)) then Option.bind (idx a1 s20) fun (y23 : Int) => Option.bind (idx a1 (IntKind.wrap IntKind.i64 (s20 - (1 : Int)))) fun (y24 : Int) => some (decide (y23 ≤ y24)) else some false) fun (s25 : Bool) => bif s25 then some (Sum.inr (Sum.inr false)) else some (Sum.inl (IntKind.wrap IntKind.i64 (s20 + (1 : Int)))) else some (Sum.inr (Sum.inl ()))) (0 : Int)) fun (s26 : Unit) => some true
noncomputable def zEt : ElS [zT, (.sl tI)] → Option (RTy.El (.tu [zS, tI])) := fun x => match x with | (a1, a2, ()) => Option.bind (zDj (a1, ())) fun (y0 : Ty.El zIK × Int × Unit) => bif y0.2.1 != (0 : Int) then some ((([], ()), ([], [], ()), [], ()), y0.2.1, ()) else Option.bind (zAt (a2, (↑(List.length y0.1.2.1) : Int), ())) fun (y1 : Bool) => bif !y1 then some ((([], ()), ([], [], ()), [], ()), (1 : Int), ()) else Option.bind (app (8 : Nat) [] a2) fun (y3 : List Int) => some ((a1, y0.1, y3, ()), (0 : Int), ())
noncomputable def zEF : ElS [zT, (.sl tI)] → Option (RTy.El (.tu [zS, .bool])) := fun x => match x with | (a1, a2, ()) => Option.bind (Option.bind (zDq (a1, ())) fun (y1 : Bool) => bif !y1 then some true else some (decide ((↑(List.length a2) : Int) > (2 : Int)))) fun (s2 : Bool) => bif s2 then some ((([], ()), ([], [], ()), [], ()), false, ()) else Option.bind (zEt (a1, a2, ())) fun (y3 : Ty.El zS × Int × Unit) => some (y3.1, y3.2.1 == (0 : Int), ())
noncomputable def qO : ElS [tI, tI, tI] → Option (RTy.El (.p .bool)) := fun x => match x with | (a1, a2, a3, ()) => Option.bind (bif decide (a2 ≤ a1) then some (decide (a1 ≤ a3)) else some false) fun (s0 : Bool) => some s0
noncomputable def w6 : ElS [zA, .bool, .bool, .bool] → Option (RTy.El (.p .bool)) := fun x => match x with | (a1, a2, a3, a4, ()) => Option.bind (bif a2 then bif a3 then bif a4 then some true else some (a1.2.2.2.2.2.2.2.2.2.2.1 == (0 : Int)) else bif a1.2.2.2.2.2.2.2.1 == (0 : Int) then bif (↑(List.length a1.2.2.2.2.2.2.2.2.1) : Int) == (0 : Int) then bif a1.2.2.2.2.2.2.2.2.2.1 == (0 : Int) then bif a4 then some true else some (a1.2.2.2.2.2.2.2.2.2.2.1 == (0 : Int)) else some false else some false else some false else bif a1.2.2.2.2.2.1 == (0 : Int) then bif a3 then bif a4 then some true else some (a1.2.2.2.2.2.2.2.2.2.2.1 == (0 : Int)) else bif a1.2.2.2.2.2.2.2.1 == (0 : Int) then bif (↑(List.length a1.2.2.2.2.2.2.2.2.1) : Int) == (0 : Int) then bif a1.2.2.2.2.2.2.2.2.2.1 == (0 : Int) then bif a4 then some true else some (a1.2.2.2.2.2.2.2.2.2.2.1 == (0 : Int)) else some false else some false else some false else some false) fun (s0 : Bool) => some s0
noncomputable def kF : ElS [z1, z1] → Option (RTy.El (.p .bool)) := fun x => match x with | (a1, a2, ()) => Option.bind (bif decide (a1.1 < a2.1) then some true else bif a1.1 == a2.1 then some (decide (a1.2.1 < a2.2.1)) else some false) fun (s0 : Bool) => some s0
noncomputable def vG : ElS [(.sl z1), .bool] → Option (RTy.El (.p .bool)) := fun x => match x with | (a1, a2, ()) => qV (zN (fun (s28 : Int) => bif decide (s28 < (↑(List.length a1) : Int)) then Option.bind (Option.bind (idx a1 s28) fun (y29 : Ty.El z1) => bif decide (y29.1 < (0 : Int)) then some true else bif decide (s28 > (0 : Int)) then Option.bind (idx a1 (IntKind.wrap IntKind.i64 (s28 - (1 : Int)))) fun (y30 : Ty.El z1) => Option.bind (idx a1 s28) fun (y31 : Ty.El z1) => Option.bind (kF (y30, y31, ())) fun (y32 : Bool) => bif !y32 then some true else Option.bind (idx a1 s28) fun (y33 : Ty.El z1) => some !(y33.2.1 == (0 : Int)) == a2 else Option.bind (idx a1 s28) fun (y34 : Ty.El z1) => some !(y34.2.1 == (0 : Int)) == a2) fun (s35 : Bool) => bif s35 then some (Sum.inr (Sum.inr false)) else some (Sum.inl (IntKind.wrap IntKind.i64 (s28 + (1 : Int)))) else some (Sum.inr (Sum.inl ()))) (0 : Int)) fun (s36 : Unit) => some true
noncomputable def yL : ElS [zA] → Option (RTy.El (.p .bool)) := fun x => match x with | (a1, ()) => Option.bind (bif a1.2.2.1 != (0 : Int) then some true else bif a1.2.2.2.2.1 != (0 : Int) then some true else Option.bind (qO (a1.2.2.2.1, (1 : Int), (255 : Int), ())) fun (y2 : Bool) => bif !y2 then some true else Option.bind (w6 (a1, false, false, true, ())) fun (y3 : Bool) => some !y3) fun (s4 : Bool) => bif s4 then some false else bif a1.2.2.2.2.2.2.2.2.2.2.1 != (0 : Int) then Option.bind (bif (↑(List.length a1.2.2.2.2.2.2.2.2.2.2.2.1) : Int) == (0 : Int) then some !a1.2.2.2.2.2.2.2.2.2.2.2.2.1 else some false) fun (s5 : Bool) => some s5 else bif a1.2.2.2.2.2.2.2.2.2.2.2.2.1 then some ((↑(List.length a1.2.2.2.2.2.2.2.2.2.2.2.1) : Int) == (0 : Int)) else Option.bind (bif (↑(List.length a1.2.2.2.2.2.2.2.2.2.2.2.1) : Int) == (1 : Int) then Option.bind (vG (a1.2.2.2.2.2.2.2.2.2.2.2.1, true, ())) fun (y7 : Bool) => some y7 else some false) fun (s8 : Bool) => some s8
noncomputable def v2 : ElS [zA] → Option (RTy.El (.p .bool)) := fun x => match x with | (a1, ()) => Option.bind (Option.bind (qO (a1.2.2.1, (1 : Int), (4 : Int), ())) fun (y4 : Bool) => bif !y4 then some true else Option.bind (qO (a1.2.2.2.1, (1 : Int), (255 : Int), ())) fun (y5 : Bool) => bif !y5 then some true else Option.bind (qO (a1.2.2.2.2.1, (0 : Int), (1073741824 : Int), ())) fun (y6 : Bool) => bif !y6 then some true else Option.bind (w6 (a1, true, false, false, ())) fun (y7 : Bool) => some !y7) fun (s8 : Bool) => bif s8 then some false else Option.bind (Option.bind (qO (a1.2.2.2.2.2.1, (0 : Int), (1073741824 : Int), ())) fun (y10 : Bool) => bif !y10 then some true else bif a1.2.2.1 != (4 : Int) then some (a1.2.2.2.2.2.1 != (0 : Int)) else some false) fun (s11 : Bool) => bif s11 then some false else bif a1.2.2.2.2.2.2.2.2.2.2.2.2.1 then Option.bind (bif a1.2.2.1 == (1 : Int) then bif a1.2.2.2.2.1 == (0 : Int) then bif a1.2.2.2.2.2.2.1 == (0 : Int) then some ((↑(List.length a1.2.2.2.2.2.2.2.2.2.2.2.1) : Int) == (0 : Int)) else some false else some false else some false) fun (s12 : Bool) => some s12 else Option.bind (bif decide ((↑(List.length a1.2.2.2.2.2.2.2.2.2.2.2.1) : Int) > (0 : Int)) then Option.bind (vG (a1.2.2.2.2.2.2.2.2.2.2.2.1, false, ())) fun (y14 : Bool) => some y14 else some false) fun (s15 : Bool) => some s15
noncomputable def wS : ElS [zA] → Option (RTy.El (.p .bool)) := fun x => match x with | (a1, ()) => Option.bind (Option.bind (qO (a1.2.2.2.1, (1 : Int), (255 : Int), ())) fun (y3 : Bool) => bif !y3 then some true else Option.bind (qO (a1.2.2.2.2.1, (1 : Int), (15 : Int), ())) fun (y4 : Bool) => bif !y4 then some true else Option.bind (w6 (a1, false, false, false, ())) fun (y5 : Bool) => bif !y5 then some true else some a1.2.2.2.2.2.2.2.2.2.2.2.2.1) fun (s6 : Bool) => bif s6 then some false else bif a1.2.2.1 == (1 : Int) then Option.bind (bif a1.2.2.2.2.1 == (1 : Int) then bif a1.2.2.2.2.2.2.1 == (0 : Int) then bif (↑(List.length a1.2.2.2.2.2.2.2.2.2.2.2.1) : Int) == (1 : Int) then Option.bind (vG (a1.2.2.2.2.2.2.2.2.2.2.2.1, true, ())) fun (y8 : Bool) => some y8 else some false else some false else some false) fun (s9 : Bool) => some s9 else bif a1.2.2.1 == (2 : Int) then some ((↑(List.length a1.2.2.2.2.2.2.2.2.2.2.2.1) : Int) == (0 : Int)) else bif a1.2.2.1 == (3 : Int) then Option.bind (bif decide ((↑(List.length a1.2.2.2.2.2.2.2.2.2.2.2.1) : Int) > (0 : Int)) then Option.bind (vG (a1.2.2.2.2.2.2.2.2.2.2.2.1, false, ())) fun (y11 : Bool) => some y11 else some false) fun (s12 : Bool) => some s12 else some false
noncomputable def zAr : ElS [zA] → Option (RTy.El (.p .bool)) := fun x => match x with | (a1, ()) => Option.bind (Option.bind (qO (a1.2.2.2.1, (1 : Int), (255 : Int), ())) fun (y4 : Bool) => bif !y4 then some true else Option.bind (qO (a1.2.2.2.2.1, (0 : Int), (16777215 : Int), ())) fun (y5 : Bool) => bif !y5 then some true else Option.bind (qO (a1.2.2.2.2.2.2.2.1, (0 : Int), (1000000 : Int), ())) fun (y6 : Bool) => bif !y6 then some true else Option.bind (w6 (a1, false, true, false, ())) fun (y7 : Bool) => some !y7) fun (s8 : Bool) => bif s8 then some false else Option.bind (bif a1.2.2.1 == (1 : Int) then some (a1.2.2.1 == (1 : Int)) else some (a1.2.2.1 == (2 : Int))) fun (s9 : Bool) => bif s9 then Option.bind (bif (↑(List.length a1.2.2.2.2.2.2.2.2.1) : Int) == (0 : Int) then bif a1.2.2.2.2.2.2.2.2.2.1 == (0 : Int) then bif (↑(List.length a1.2.2.2.2.2.2.2.2.2.2.2.1) : Int) == (0 : Int) then some (a1.2.2.2.2.2.2.2.2.2.2.2.2.1 == (a1.2.2.1 == (2 : Int))) else some false else some false else some false) fun (s10 : Bool) => some s10 else Option.bind (bif a1.2.2.1 == (3 : Int) then some (a1.2.2.1 == (3 : Int)) else some (a1.2.2.1 == (4 : Int))) fun (s11 : Bool) => bif s11 then Option.bind (bif a1.2.2.1 == (4 : Int) then bif a1.2.2.2.2.2.2.2.2.2.1 != (0 : Int) then bif (↑(List.length a1.2.2.2.2.2.2.2.2.2.2.2.1) : Int) == (1 : Int) then Option.bind (vG (a1.2.2.2.2.2.2.2.2.2.2.2.1, false, ())) fun (y20 : Bool) => bif y20 then Option.bind (idx a1.2.2.2.2.2.2.2.2.2.2.2.1 (0 : Int)) fun (y21 : Ty.El z1) => bif y21.2.1 == a1.2.2.2.2.2.2.2.2.2.1 then some !a1.2.2.2.2.2.2.2.2.2.2.2.2.1 else some false else some false else some false else some false else bif decide ((↑(List.length a1.2.2.2.2.2.2.2.2.1) : Int) > (0 : Int)) then bif a1.2.2.2.2.2.2.2.2.2.1 != (0 : Int) then bif (↑(List.length a1.2.2.2.2.2.2.2.2.2.2.2.1) : Int) == (1 : Int) then Option.bind (vG (a1.2.2.2.2.2.2.2.2.2.2.2.1, false, ())) fun (y22 : Bool) => bif y22 then Option.bind (idx a1.2.2.2.2.2.2.2.2.2.2.2.1 (0 : Int)) fun (y23 : Ty.El z1) => bif y23.2.1 == a1.2.2.2.2.2.2.2.2.2.1 then some !a1.2.2.2.2.2.2.2.2.2.2.2.2.1 else some false else some false else some false else some false else some false) fun (s24 : Bool) => some s24 else some false
noncomputable def w7 : ElS [zA] → Option (RTy.El (.p .bool)) := fun x => match x with | (a1, ()) => Option.bind (Option.bind (wF (a1.1, ())) fun (y2 : Bool) => bif !y2 then some true else Option.bind (qO (a1.2.2.2.2.2.2.1, (0 : Int), (65535 : Int), ())) fun (y3 : Bool) => bif !y3 then some true else some (decide ((↑(List.length a1.2.2.2.2.2.2.2.2.1) : Int) > (64 : Int)))) fun (s4 : Bool) => bif s4 then some false else qV (zN (fun (s11 : Int) => bif decide (s11 < (↑(List.length a1.2.2.2.2.2.2.2.2.1) : Int)) then Option.bind (idx a1.2.2.2.2.2.2.2.2.1 s11) fun (y12 : Int) => Option.bind (qO (y12, (1 : Int), (65535 : Int), ())) fun (y13 : Bool) => bif !y13 then some (Sum.inr (Sum.inr false)) else some (Sum.inl (IntKind.wrap IntKind.i64 (s11 + (1 : Int)))) else some (Sum.inr (Sum.inl ()))) (0 : Int)) fun (s14 : Unit) => bif a1.2.1 == (1 : Int) then Option.bind (bif a1.2.2.1 == (0 : Int) then bif a1.2.2.2.1 == (0 : Int) then bif a1.2.2.2.2.1 == (0 : Int) then bif a1.2.2.2.2.2.2.1 == (0 : Int) then Option.bind (w6 (a1, false, false, false, ())) fun (y17 : Bool) => bif y17 then bif !a1.2.2.2.2.2.2.2.2.2.2.2.2.1 then bif (↑(List.length a1.2.2.2.2.2.2.2.2.2.2.2.1) : Int) == (1 : Int) then Option.bind (vG (a1.2.2.2.2.2.2.2.2.2.2.2.1, true, ())) fun (y18 : Bool) => some y18 else some false else some false else some false else some false else some false else some false else some false) fun (s19 : Bool) => some s19 else bif a1.2.1 == (2 : Int) then Option.bind (yL (a1, ())) fun (y20 : Bool) => some y20 else bif a1.2.1 == (3 : Int) then Option.bind (v2 (a1, ())) fun (y21 : Bool) => some y21 else bif a1.2.1 == (4 : Int) then Option.bind (wS (a1, ())) fun (y22 : Bool) => some y22 else bif a1.2.1 == (5 : Int) then Option.bind (zAr (a1, ())) fun (y23 : Bool) => some y23 else some false
noncomputable def zBQ : ElS [(.sl zA), tI] → Option (RTy.El (.p .bool)) := fun x => match x with | (a1, a2, ()) => qV (zN (fun (s40 : Int) => bif decide (s40 < (↑(List.length a1) : Int)) then Option.bind (Option.bind (idx a1 s40) fun (y41 : Ty.El zA) => Option.bind (w7 (y41, ())) fun (y42 : Bool) => bif !y42 then some true else bif a2 != (0 : Int) then Option.bind (idx a1 s40) fun (y43 : Ty.El zA) => bif y43.2.1 != a2 then some true else bif decide (s40 > (0 : Int)) then Option.bind (idx a1 (IntKind.wrap IntKind.i64 (s40 - (1 : Int)))) fun (y44 : Ty.El zA) => Option.bind (idx a1 s40) fun (y45 : Ty.El zA) => Option.bind (wV (y44.1, y45.1, ())) fun (y46 : Int) => some (decide (y46 ≥ (0 : Int))) else some false else bif decide (s40 > (0 : Int)) then Option.bind (idx a1 (IntKind.wrap IntKind.i64 (s40 - (1 : Int)))) fun (y47 : Ty.El zA) => Option.bind (idx a1 s40) fun (y48 : Ty.El zA) => Option.bind (wV (y47.1, y48.1, ())) fun (y49 : Int) => some (decide (y49 ≥ (0 : Int))) else some false) fun (s50 : Bool) => bif s50 then some (Sum.inr (Sum.inr false)) else some (Sum.inl (IntKind.wrap IntKind.i64 (s40 + (1 : Int)))) else some (Sum.inr (Sum.inl ()))) (0 : Int)) fun (s51 : Unit) => some true
noncomputable def zC4 : ElS [tI] → Option (RTy.El (.p tI)) := fun x => match x with | (a1, ()) => some (if (if (32 : Int) < a1 then (32 : Int) else a1) > (0 : Int) then if (32 : Int) < a1 then (32 : Int) else a1 else (0 : Int))
noncomputable def zEc : ElS [tI] → Option (RTy.El (.p tU)) := fun x => match x with | (a1, ()) => Option.bind (zC4 (a1, ())) fun (y0 : Int) => bif decide ((0 : Int) ≤ IntKind.wrap IntKind.i64 ((32 : Int) - y0)) then some (IntKind.wrap IntKind.u32 ((4294967295 : Int) * (2 : Int) ^ min (Int.toNat (IntKind.wrap IntKind.i64 ((32 : Int) - y0))) (IntKind.bits IntKind.u32))) else none
noncomputable def zAo : ElS [zF, tU] → Option (RTy.El (.p .bool)) := fun x => match x with | (a1, a2, ()) => Option.bind (zEc (a1.2.1, ())) fun (y1 : Int) => some (IntKind.wrap IntKind.u32 (↑(BitVec.toNat (BitVec.ofInt (IntKind.bits IntKind.u32) a2 &&& BitVec.ofInt (IntKind.bits IntKind.u32) y1)) : Int) == a1.1)
noncomputable def xK : ElS [(.sl zK), zK] → Option (RTy.El (.p tI)) := fun x => match x with | (a1, a2, ()) => qV (zN (fun (s5 : Int) => bif decide (s5 < (↑(List.length a1) : Int)) then Option.bind (idx a1 s5) fun (y6 : Ty.El zK) => bif a2.1 == y6.1 && (a2.2.1 == y6.2.1 && true) then some (Sum.inr (Sum.inr s5)) else some (Sum.inl (IntKind.wrap IntKind.i64 (s5 + (1 : Int)))) else some (Sum.inr (Sum.inl ()))) (0 : Int)) fun (s7 : Unit) => some (-1 : Int)
noncomputable def kR : ElS [(.sl zK), zK] → Option (RTy.El (.p .bool)) := fun x => match x with | (a1, a2, ()) => Option.bind (xK (a1, a2, ())) fun (y0 : Int) => some (decide (y0 ≥ (0 : Int)))
noncomputable def zAA : ElS [zS, tI, tI] → Option (RTy.El (.p tI)) := fun x => match x with | (a1, a2, a3, ()) => qV (zN (fun (s9 : Int) => bif decide (s9 < (↑(List.length a1.2.1.1) : Int)) then Option.bind (idx a1.2.1.1 s9) fun (y10 : Ty.El kM) => Option.bind (kR (y10.2.2.1, (a2, a3, ()), ())) fun (y11 : Bool) => bif y11 then some (Sum.inr (Sum.inr s9)) else some (Sum.inl (IntKind.wrap IntKind.i64 (s9 + (1 : Int)))) else some (Sum.inr (Sum.inl ()))) (0 : Int)) fun (s12 : Unit) => some (-1 : Int)
noncomputable def k9 : ElS [(.sl tI), tI] → Option (RTy.El (.p tI)) := fun x => match x with | (a1, a2, ()) => qV (zN (fun (s4 : Int) => bif decide (s4 < (↑(List.length a1) : Int)) then Option.bind (idx a1 s4) fun (y5 : Int) => bif a2 == y5 then some (Sum.inr (Sum.inr s4)) else some (Sum.inl (IntKind.wrap IntKind.i64 (s4 + (1 : Int)))) else some (Sum.inr (Sum.inl ()))) (0 : Int)) fun (s6 : Unit) => some (-1 : Int)
noncomputable def zGC : ElS [zS, tI, tI] → Option (RTy.El (.p tI)) := fun x => match x with | (a1, a2, a3, ()) => Option.bind (zAA (a1, a2, a3, ())) fun (y0 : Int) => bif decide (y0 < (0 : Int)) then some (-1 : Int) else Option.bind (k9 (a1.2.1.2.1, y0, ())) fun (y1 : Int) => some y1
noncomputable def kQ : ElS [(.sl tI), tI] → Option (RTy.El (.p .bool)) := fun x => match x with | (a1, a2, ()) => Option.bind (k9 (a1, a2, ())) fun (y0 : Int) => some (decide (y0 ≥ (0 : Int)))
noncomputable def zGB : ElS [zS, tI, tI] → Option (RTy.El (.p .bool)) := fun x => match x with | (a1, a2, a3, ()) => Option.bind (zAA (a1, a2, a3, ())) fun (y0 : Int) => bif decide (y0 < (0 : Int)) then some false else Option.bind (zGC (a1, a2, a3, ())) fun (y1 : Int) => Option.bind (bif decide (y1 < (0 : Int)) then some true else Option.bind (kQ (a1.2.2.1, y1, ())) fun (y3 : Bool) => some !y3) fun (s4 : Bool) => some s4
noncomputable def zEs : ElS [zA, zA] → Option (RTy.El (.p .bool)) := fun x => match x with | (a1, a2, ()) => Option.bind (bif !(a1.1.1 == a2.1.1 && (a1.1.2.1 == a2.1.2.1 && true)) then some true else bif a1.2.1 != a2.2.1 then some true else bif a1.2.2.1 != a2.2.2.1 then some true else bif a1.2.2.2.1 != a2.2.2.2.1 then some true else bif a1.2.2.2.2.1 != a2.2.2.2.2.1 then some true else bif a1.2.2.2.2.2.1 != a2.2.2.2.2.2.1 then some true else bif a1.2.2.2.2.2.2.1 != a2.2.2.2.2.2.2.1 then some true else bif a1.2.2.2.2.2.2.2.1 != a2.2.2.2.2.2.2.2.1 then some true else bif a1.2.2.2.2.2.2.2.2.2.1 != a2.2.2.2.2.2.2.2.2.2.1 then some true else bif a1.2.2.2.2.2.2.2.2.2.2.1 != a2.2.2.2.2.2.2.2.2.2.2.1 then some true else bif !a1.2.2.2.2.2.2.2.2.2.2.2.2.1 == a2.2.2.2.2.2.2.2.2.2.2.2.2.1 then some true else bif (↑(List.length a1.2.2.2.2.2.2.2.2.1) : Int) != (↑(List.length a2.2.2.2.2.2.2.2.2.1) : Int) then some true else some ((↑(List.length a1.2.2.2.2.2.2.2.2.2.2.2.1) : Int) != (↑(List.length a2.2.2.2.2.2.2.2.2.2.2.2.1) : Int))) fun (s0 : Bool) => bif s0 then some false else qV (zN (fun (s9 : Int) => bif decide (s9 < (↑(List.length a1.2.2.2.2.2.2.2.2.1) : Int)) then Option.bind (idx a1.2.2.2.2.2.2.2.2.1 s9) fun (y10 : Int) => Option.bind (idx a2.2.2.2.2.2.2.2.2.1 s9) fun (y11 : Int) => bif y10 != y11 then some (Sum.inr (Sum.inr false)) else some (Sum.inl (IntKind.wrap IntKind.i64 (s9 + (1 : Int)))) else some (Sum.inr (Sum.inl ()))) (0 : Int)) fun (s12 : Unit) => qV (zN (fun (s21 : Int) => bif decide (s21 < (↑(List.length a1.2.2.2.2.2.2.2.2.2.2.2.1) : Int)) then Option.bind (idx a1.2.2.2.2.2.2.2.2.2.2.2.1 s21) fun (y22 : Ty.El z1) => Option.bind (idx a2.2.2.2.2.2.2.2.2.2.2.2.1 s21) fun (y23 : Ty.El z1) => bif !(y22.1 == y23.1 && (y22.2.1 == y23.2.1 && true)) then some (Sum.inr (Sum.inr false)) else some (Sum.inl (IntKind.wrap IntKind.i64 (s21 + (1 : Int)))) else some (Sum.inr (Sum.inl ()))) (0 : Int)) fun (s24 : Unit) => some true
noncomputable def zBl : ElS [tU, tI] → Option (RTy.El (.p zF)) := fun x => match x with | (a1, a2, ()) => Option.bind (zEc (a2, ())) fun (y0 : Int) => Option.bind (zC4 (a2, ())) fun (y1 : Int) => some (IntKind.wrap IntKind.u32 (↑(BitVec.toNat (BitVec.ofInt (IntKind.bits IntKind.u32) a1 &&& BitVec.ofInt (IntKind.bits IntKind.u32) y0)) : Int), y1, ())
noncomputable def xV : ElS [tU] → Option (RTy.El (.p .bool)) := fun x => match x with | (a1, ()) => some (a1 != a1)
noncomputable def wH : ElS [tU, tU] → Option (RTy.El (.p tI)) := fun x => match x with | (a1, a2, ()) => Option.bind (xV (a1, ())) fun (y0 : Bool) => Option.bind (xV (a2, ())) fun (y1 : Bool) => bif y0 then bif y1 then some (0 : Int) else some (-1 : Int) else bif y1 then some (1 : Int) else bif decide (a1 < a2) then some (-1 : Int) else bif decide (a1 > a2) then some (1 : Int) else some (0 : Int)
noncomputable def zBL : ElS [tI] → Option (RTy.El (.p .bool)) := fun x => match x with | (a1, ()) => some (a1 != a1)
noncomputable def zZ : ElS [tI, tI] → Option (RTy.El (.p tI)) := fun x => match x with | (a1, a2, ()) => Option.bind (zBL (a1, ())) fun (y0 : Bool) => Option.bind (zBL (a2, ())) fun (y1 : Bool) => bif y0 then bif y1 then some (0 : Int) else some (-1 : Int) else bif y1 then some (1 : Int) else bif decide (a1 < a2) then some (-1 : Int) else bif decide (a1 > a2) then some (1 : Int) else some (0 : Int)
noncomputable def zBm : ElS [zF, zF] → Option (RTy.El (.p tI)) := fun x => match x with | (a1, a2, ()) => Option.bind (wH (a1.1, a2.1, ())) fun (y0 : Int) => bif y0 != (0 : Int) then some y0 else Option.bind (zZ (a1.2.1, a2.2.1, ())) fun (y1 : Int) => some y1
noncomputable def zL : ElS [zA, zA] → Option (RTy.El (.p tI)) := fun x => match x with | (a1, a2, ()) => Option.bind (zBm (a1.1, a2.1, ())) fun (y0 : Int) => some y0
noncomputable def zY : List (Ty.El zA) → ElA [.d tI, .d tI, .clo 26 []] → Option (List (Ty.El zA) × RTy.El (.tu [])) := fun a0 x => match x with | (a1, a2, (), ()) => zN (fun (s157 : Int × List (Ty.El zA)) => bif decide (s157.1 < a2) then Option.bind (zN (fun (s158 : Int × List (Ty.El zA)) => Option.bind (bif decide (s158.1 > a1) then Option.bind (idx s158.2 s158.1) fun (y159 : Ty.El zA) => Option.bind (atN s158.2 (Int.toNat s158.1)) fun (y160 : Ty.El zA) => Option.bind (idx s158.2 (IntKind.wrap IntKind.i64 (s158.1 - (1 : Int)))) fun (y161 : Ty.El zA) => Option.bind (atN s158.2 (Int.toNat (IntKind.wrap IntKind.i64 (s158.1 - (1 : Int))))) fun (y162 : Ty.El zA) => Option.bind (zL (y160, y162, ())) fun (y163 : Int) => some (decide (y163 < (0 : Int)), s158.2) else some (false, s158.2)) fun (s164 : Bool × List (Ty.El zA)) => bif s164.1 then Option.bind (idx s164.2 (IntKind.wrap IntKind.i64 (s158.1 - (1 : Int)))) fun (y165 : Ty.El zA) => Option.bind (atN s164.2 (Int.toNat (IntKind.wrap IntKind.i64 (s158.1 - (1 : Int))))) fun (y166 : Ty.El zA) => Option.bind (idx s164.2 s158.1) fun (y167 : Ty.El zA) => Option.bind (atN s164.2 (Int.toNat s158.1)) fun (y168 : Ty.El zA) => Option.bind (idx s164.2 s158.1) fun (y169 : Ty.El zA) => Option.bind (atN s164.2 (Int.toNat s158.1)) fun (y170 : Ty.El zA) => Option.bind (idx (List.set s164.2 (Int.toNat s158.1) y166) (IntKind.wrap IntKind.i64 (s158.1 - (1 : Int)))) fun (y171 : Ty.El zA) => Option.bind (atN (List.set s164.2 (Int.toNat s158.1) y166) (Int.toNat (IntKind.wrap IntKind.i64 (s158.1 - (1 : Int))))) fun (y172 : Ty.El zA) => some (Sum.inl (IntKind.wrap IntKind.i64 (s158.1 - (1 : Int)), List.set (List.set s164.2 (Int.toNat s158.1) y166) (Int.toNat (IntKind.wrap IntKind.i64 (s158.1 - (1 : Int)))) y168)) else some (Sum.inr s164.2)) s157) fun (s173 : List (Ty.El zA)) => some (Sum.inl (IntKind.wrap IntKind.i64 (s157.1 + (1 : Int)), s173)) else Option.map (fun (r : List (Ty.El zA) × Unit) => Sum.inr r) (bif Nat.beq (List.length s157.2) (List.length a0) then some (s157.2, ()) else none)) (IntKind.wrap IntKind.i64 (a1 + (1 : Int)), a0)
noncomputable def qB : List (Ty.El zA) → ElA [.d tI, .d tI, .d tI, .clo 26 []] → Option (List (Ty.El zA) × RTy.El (.tu [])) := fun a0 x => match x with | (a1, a2, a3, (), ()) => zN (fun (s17 : Int × List (Ty.El zA)) => bif decide (s17.1 < a3) then Option.bind (idx s17.2 (IntKind.wrap IntKind.i64 (a2 + s17.1))) fun (y18 : Ty.El zA) => Option.bind (atN s17.2 (Int.toNat (IntKind.wrap IntKind.i64 (a2 + s17.1)))) fun (y19 : Ty.El zA) => Option.bind (idx s17.2 (IntKind.wrap IntKind.i64 (a1 + s17.1))) fun (y20 : Ty.El zA) => Option.bind (atN s17.2 (Int.toNat (IntKind.wrap IntKind.i64 (a1 + s17.1)))) fun (y21 : Ty.El zA) => Option.bind (idx s17.2 (IntKind.wrap IntKind.i64 (a1 + s17.1))) fun (y22 : Ty.El zA) => Option.bind (atN s17.2 (Int.toNat (IntKind.wrap IntKind.i64 (a1 + s17.1)))) fun (y23 : Ty.El zA) => Option.bind (idx (List.set s17.2 (Int.toNat (IntKind.wrap IntKind.i64 (a1 + s17.1))) y19) (IntKind.wrap IntKind.i64 (a2 + s17.1))) fun (y24 : Ty.El zA) => Option.bind (atN (List.set s17.2 (Int.toNat (IntKind.wrap IntKind.i64 (a1 + s17.1))) y19) (Int.toNat (IntKind.wrap IntKind.i64 (a2 + s17.1)))) fun (y25 : Ty.El zA) => some (Sum.inl (IntKind.wrap IntKind.i64 (s17.1 + (1 : Int)), List.set (List.set s17.2 (Int.toNat (IntKind.wrap IntKind.i64 (a1 + s17.1))) y19) (Int.toNat (IntKind.wrap IntKind.i64 (a2 + s17.1))) y21)) else Option.map (fun (r : List (Ty.El zA) × Unit) => Sum.inr r) (bif Nat.beq (List.length s17.2) (List.length a0) then some (s17.2, ()) else none)) ((0 : Int), a0)
noncomputable def jF : List (Ty.El zA) → ElA [.d tI, .d tI, .d tI, .clo 26 []] → Option (List (Ty.El zA) × RTy.El (.tu [])) := fun a0 x => match x with | (a1, a2, a3, (), ()) => Option.bind (zN (fun (s6 : Int × Int × List (Ty.El zA)) => bif s6.1 != s6.2.1 then bif decide (s6.1 > s6.2.1) then bif Nat.beq (List.length s6.2.2) (List.length s6.2.2) then Option.bind (qB s6.2.2 (IntKind.wrap IntKind.i64 (a2 - s6.1), a2, s6.2.1, (), ())) fun (y7 : List (Ty.El zA) × Unit) => some (Sum.inl (IntKind.wrap IntKind.i64 (s6.1 - s6.2.1), s6.2.1, y7.1)) else none else bif Nat.beq (List.length s6.2.2) (List.length s6.2.2) then Option.bind (qB s6.2.2 (IntKind.wrap IntKind.i64 (a2 - s6.1), IntKind.wrap IntKind.i64 (IntKind.wrap IntKind.i64 (a2 + s6.2.1) - s6.1), s6.1, (), ())) fun (y8 : List (Ty.El zA) × Unit) => some (Sum.inl (s6.1, IntKind.wrap IntKind.i64 (s6.2.1 - s6.1), y8.1)) else none else some (Sum.inr (s6.2.2, s6.1))) (IntKind.wrap IntKind.i64 (a2 - a1), IntKind.wrap IntKind.i64 (a3 - a2), a0)) fun (s9 : List (Ty.El zA) × Int) => bif Nat.beq (List.length s9.1) (List.length s9.1) then Option.bind (qB s9.1 (IntKind.wrap IntKind.i64 (a2 - s9.2), a2, s9.2, (), ())) fun (y10 : List (Ty.El zA) × Unit) => bif Nat.beq (List.length y10.1) (List.length a0) then some (y10.1, ()) else none else none
noncomputable def k7 (slices_symMergeCmpFunc_Route_self : List (Ty.El zA) → ElA [.d tI, .d tI, .d tI, .clo 26 []] → Option (List (Ty.El zA) × RTy.El (.tu []))) : List (Ty.El zA) → ElA [.d tI, .d tI, .d tI, .clo 26 []] → Option (List (Ty.El zA) × RTy.El (.tu [])) := fun a0 x => match x with | (a1, a2, a3, (), ()) => qV (bif IntKind.wrap IntKind.i64 (a2 - a1) == (1 : Int) then Option.bind (zN (fun (s50 : Int × Int × List (Ty.El zA)) => bif decide (s50.1 < s50.2.1) then Option.bind (idx s50.2.2 (IntKind.wrap IntKind.i64 (Int.fdiv (IntKind.wrap IntKind.u64 (IntKind.wrap IntKind.i64 (s50.1 + s50.2.1))) ((2 : Int) ^ min (Int.toNat (1 : Int)) (IntKind.bits IntKind.u64))))) fun (y51 : Ty.El zA) => Option.bind (atN s50.2.2 (Int.toNat (IntKind.wrap IntKind.i64 (Int.fdiv (IntKind.wrap IntKind.u64 (IntKind.wrap IntKind.i64 (s50.1 + s50.2.1))) ((2 : Int) ^ min (Int.toNat (1 : Int)) (IntKind.bits IntKind.u64)))))) fun (y52 : Ty.El zA) => Option.bind (idx s50.2.2 a1) fun (y53 : Ty.El zA) => Option.bind (atN s50.2.2 (Int.toNat a1)) fun (y54 : Ty.El zA) => Option.bind (zL (y52, y54, ())) fun (y55 : Int) => bif decide (y55 < (0 : Int)) then some (Sum.inl (IntKind.wrap IntKind.i64 (IntKind.wrap IntKind.i64 (Int.fdiv (IntKind.wrap IntKind.u64 (IntKind.wrap IntKind.i64 (s50.1 + s50.2.1))) ((2 : Int) ^ min (Int.toNat (1 : Int)) (IntKind.bits IntKind.u64))) + (1 : Int)), s50.2)) else some (Sum.inl (s50.1, IntKind.wrap IntKind.i64 (Int.fdiv (IntKind.wrap IntKind.u64 (IntKind.wrap IntKind.i64 (s50.1 + s50.2.1))) ((2 : Int) ^ min (Int.toNat (1 : Int)) (IntKind.bits IntKind.u64))), s50.2.2)) else some (Sum.inr (s50.1, s50.2.2))) (a2, a3, a0)) fun (s56 : Int × List (Ty.El zA)) => zN (fun (s57 : Int × List (Ty.El zA)) => bif decide (s57.1 < IntKind.wrap IntKind.i64 (s56.1 - (1 : Int))) then Option.bind (idx s57.2 (IntKind.wrap IntKind.i64 (s57.1 + (1 : Int)))) fun (y58 : Ty.El zA) => Option.bind (atN s57.2 (Int.toNat (IntKind.wrap IntKind.i64 (s57.1 + (1 : Int))))) fun (y59 : Ty.El zA) => Option.bind (idx s57.2 s57.1) fun (y60 : Ty.El zA) => Option.bind (atN s57.2 (Int.toNat s57.1)) fun (y61 : Ty.El zA) => Option.bind (idx s57.2 s57.1) fun (y62 : Ty.El zA) => Option.bind (atN s57.2 (Int.toNat s57.1)) fun (y63 : Ty.El zA) => Option.bind (idx (List.set s57.2 (Int.toNat s57.1) y59) (IntKind.wrap IntKind.i64 (s57.1 + (1 : Int)))) fun (y64 : Ty.El zA) => Option.bind (atN (List.set s57.2 (Int.toNat s57.1) y59) (Int.toNat (IntKind.wrap IntKind.i64 (s57.1 + (1 : Int))))) fun (y65 : Ty.El zA) => some (Sum.inl (IntKind.wrap IntKind.i64 (s57.1 + (1 : Int)), List.set (List.set s57.2 (Int.toNat s57.1) y59) (Int.toNat (IntKind.wrap IntKind.i64 (s57.1 + (1 : Int)))) y61)) else Option.map (fun (r : List (Ty.El zA) ⊕ List (Ty.El zA) × Unit) => Sum.inr r) (Option.map (fun (r : List (Ty.El zA) × Unit) => Sum.inr r) (bif Nat.beq (List.length s57.2) (List.length a0) then some (s57.2, ()) else none))) (a1, s56.2) else some (Sum.inl a0)) fun (s66 : List (Ty.El zA)) => qV (bif IntKind.wrap IntKind.i64 (a3 - a2) == (1 : Int) then Option.bind (zN (fun (s117 : Int × Int × List (Ty.El zA)) => bif decide (s117.1 < s117.2.1) then Option.bind (idx s117.2.2 a2) fun (y118 : Ty.El zA) => Option.bind (atN s117.2.2 (Int.toNat a2)) fun (y119 : Ty.El zA) => Option.bind (idx s117.2.2 (IntKind.wrap IntKind.i64 (Int.fdiv (IntKind.wrap IntKind.u64 (IntKind.wrap IntKind.i64 (s117.1 + s117.2.1))) ((2 : Int) ^ min (Int.toNat (1 : Int)) (IntKind.bits IntKind.u64))))) fun (y120 : Ty.El zA) => Option.bind (atN s117.2.2 (Int.toNat (IntKind.wrap IntKind.i64 (Int.fdiv (IntKind.wrap IntKind.u64 (IntKind.wrap IntKind.i64 (s117.1 + s117.2.1))) ((2 : Int) ^ min (Int.toNat (1 : Int)) (IntKind.bits IntKind.u64)))))) fun (y121 : Ty.El zA) => Option.bind (zL (y119, y121, ())) fun (y122 : Int) => bif !decide (y122 < (0 : Int)) then some (Sum.inl (IntKind.wrap IntKind.i64 (IntKind.wrap IntKind.i64 (Int.fdiv (IntKind.wrap IntKind.u64 (IntKind.wrap IntKind.i64 (s117.1 + s117.2.1))) ((2 : Int) ^ min (Int.toNat (1 : Int)) (IntKind.bits IntKind.u64))) + (1 : Int)), s117.2)) else some (Sum.inl (s117.1, IntKind.wrap IntKind.i64 (Int.fdiv (IntKind.wrap IntKind.u64 (IntKind.wrap IntKind.i64 (s117.1 + s117.2.1))) ((2 : Int) ^ min (Int.toNat (1 : Int)) (IntKind.bits IntKind.u64))), s117.2.2)) else some (Sum.inr (s117.1, s117.2.2))) (a1, a2, s66)) fun (s123 : Int × List (Ty.El zA)) => zN (fun (s124 : Int × List (Ty.El zA)) => bif decide (s124.1 > s123.1) then Option.bind (idx s124.2 (IntKind.wrap IntKind.i64 (s124.1 - (1 : Int)))) fun (y125 : Ty.El zA) => Option.bind (atN s124.2 (Int.toNat (IntKind.wrap IntKind.i64 (s124.1 - (1 : Int))))) fun (y126 : Ty.El zA) => Option.bind (idx s124.2 s124.1) fun (y127 : Ty.El zA) => Option.bind (atN s124.2 (Int.toNat s124.1)) fun (y128 : Ty.El zA) => Option.bind (idx s124.2 s124.1) fun (y129 : Ty.El zA) => Option.bind (atN s124.2 (Int.toNat s124.1)) fun (y130 : Ty.El zA) => Option.bind (idx (List.set s124.2 (Int.toNat s124.1) y126) (IntKind.wrap IntKind.i64 (s124.1 - (1 : Int)))) fun (y131 : Ty.El zA) => Option.bind (atN (List.set s124.2 (Int.toNat s124.1) y126) (Int.toNat (IntKind.wrap IntKind.i64 (s124.1 - (1 : Int))))) fun (y132 : Ty.El zA) => some (Sum.inl (IntKind.wrap IntKind.i64 (s124.1 - (1 : Int)), List.set (List.set s124.2 (Int.toNat s124.1) y126) (Int.toNat (IntKind.wrap IntKind.i64 (s124.1 - (1 : Int)))) y128)) else Option.map (fun (r : List (Ty.El zA) ⊕ List (Ty.El zA) × Unit) => Sum.inr r) (Option.map (fun (r : List (Ty.El zA) × Unit) => Sum.inr r) (bif Nat.beq (List.length s124.2) (List.length a0) then some (s124.2, ()) else none))) (a2, s123.2) else some (Sum.inl s66)) fun (s133 : List (Ty.El zA)) => Option.bind (bif decide (a2 > IntKind.wrap IntKind.i64 (Int.fdiv (IntKind.wrap IntKind.u64 (IntKind.wrap IntKind.i64 (a1 + a3))) ((2 : Int) ^ min (Int.toNat (1 : Int)) (IntKind.bits IntKind.u64)))) then some (IntKind.wrap IntKind.i64 (IntKind.wrap IntKind.i64 (IntKind.wrap IntKind.i64 (Int.fdiv (IntKind.wrap IntKind.u64 (IntKind.wrap IntKind.i64 (a1 + a3))) ((2 : Int) ^ min (Int.toNat (1 : Int)) (IntKind.bits IntKind.u64))) + a2) - a3), IntKind.wrap IntKind.i64 (Int.fdiv (IntKind.wrap IntKind.u64 (IntKind.wrap IntKind.i64 (a1 + a3))) ((2 : Int) ^ min (Int.toNat (1 : Int)) (IntKind.bits IntKind.u64))), s133) else some (a1, a2, s133)) fun (s134 : Int × Int × List (Ty.El zA)) => Option.bind (zN (fun (s152 : Int × Int × List (Ty.El zA)) => bif decide (s152.1 < s152.2.1) then Option.bind (idx s152.2.2 (IntKind.wrap IntKind.i64 (IntKind.wrap IntKind.i64 (IntKind.wrap IntKind.i64 (IntKind.wrap IntKind.i64 (Int.fdiv (IntKind.wrap IntKind.u64 (IntKind.wrap IntKind.i64 (a1 + a3))) ((2 : Int) ^ min (Int.toNat (1 : Int)) (IntKind.bits IntKind.u64))) + a2) - (1 : Int)) - IntKind.wrap IntKind.i64 (Int.fdiv (IntKind.wrap IntKind.u64 (IntKind.wrap IntKind.i64 (s152.1 + s152.2.1))) ((2 : Int) ^ min (Int.toNat (1 : Int)) (IntKind.bits IntKind.u64)))))) fun (y153 : Ty.El zA) => Option.bind (atN s152.2.2 (Int.toNat (IntKind.wrap IntKind.i64 (IntKind.wrap IntKind.i64 (IntKind.wrap IntKind.i64 (IntKind.wrap IntKind.i64 (Int.fdiv (IntKind.wrap IntKind.u64 (IntKind.wrap IntKind.i64 (a1 + a3))) ((2 : Int) ^ min (Int.toNat (1 : Int)) (IntKind.bits IntKind.u64))) + a2) - (1 : Int)) - IntKind.wrap IntKind.i64 (Int.fdiv (IntKind.wrap IntKind.u64 (IntKind.wrap IntKind.i64 (s152.1 + s152.2.1))) ((2 : Int) ^ min (Int.toNat (1 : Int)) (IntKind.bits IntKind.u64))))))) fun (y154 : Ty.El zA) => Option.bind (idx s152.2.2 (IntKind.wrap IntKind.i64 (Int.fdiv (IntKind.wrap IntKind.u64 (IntKind.wrap IntKind.i64 (s152.1 + s152.2.1))) ((2 : Int) ^ min (Int.toNat (1 : Int)) (IntKind.bits IntKind.u64))))) fun (y155 : Ty.El zA) => Option.bind (atN s152.2.2 (Int.toNat (IntKind.wrap IntKind.i64 (Int.fdiv (IntKind.wrap IntKind.u64 (IntKind.wrap IntKind.i64 (s152.1 + s152.2.1))) ((2 : Int) ^ min (Int.toNat (1 : Int)) (IntKind.bits IntKind.u64)))))) fun (y156 : Ty.El zA) => Option.bind (zL (y154, y156, ())) fun (y157 : Int) => bif !decide (y157 < (0 : Int)) then some (Sum.inl (IntKind.wrap IntKind.i64 (IntKind.wrap IntKind.i64 (Int.fdiv (IntKind.wrap IntKind.u64 (IntKind.wrap IntKind.i64 (s152.1 + s152.2.1))) ((2 : Int) ^ min (Int.toNat (1 : Int)) (IntKind.bits IntKind.u64))) + (1 : Int)), s152.2)) else some (Sum.inl (s152.1, IntKind.wrap IntKind.i64 (Int.fdiv (IntKind.wrap IntKind.u64 (IntKind.wrap IntKind.i64 (s152.1 + s152.2.1))) ((2 : Int) ^ min (Int.toNat (1 : Int)) (IntKind.bits IntKind.u64))), s152.2.2)) else some (Sum.inr (s152.1, s152.2.2))) s134) fun (s158 : Int × List (Ty.El zA)) => Option.bind (Option.bind (bif decide (s158.1 < a2) then some (decide (a2 < IntKind.wrap IntKind.i64 (IntKind.wrap IntKind.i64 (IntKind.wrap IntKind.i64 (Int.fdiv (IntKind.wrap IntKind.u64 (IntKind.wrap IntKind.i64 (a1 + a3))) ((2 : Int) ^ min (Int.toNat (1 : Int)) (IntKind.bits IntKind.u64))) + a2) - s158.1)), s158.2) else some (false, s158.2)) fun (s161 : Bool × List (Ty.El zA)) => bif s161.1 then bif Nat.beq (List.length s161.2) (List.length s161.2) then Option.bind (jF s161.2 (s158.1, a2, IntKind.wrap IntKind.i64 (IntKind.wrap IntKind.i64 (IntKind.wrap IntKind.i64 (Int.fdiv (IntKind.wrap IntKind.u64 (IntKind.wrap IntKind.i64 (a1 + a3))) ((2 : Int) ^ min (Int.toNat (1 : Int)) (IntKind.bits IntKind.u64))) + a2) - s158.1), (), ())) fun (y162 : List (Ty.El zA) × Unit) => some y162.1 else none else some s161.2) fun (s163 : List (Ty.El zA)) => Option.bind (Option.bind (bif decide (a1 < s158.1) then some (decide (s158.1 < IntKind.wrap IntKind.i64 (Int.fdiv (IntKind.wrap IntKind.u64 (IntKind.wrap IntKind.i64 (a1 + a3))) ((2 : Int) ^ min (Int.toNat (1 : Int)) (IntKind.bits IntKind.u64)))), s163) else some (false, s163)) fun (s166 : Bool × List (Ty.El zA)) => bif s166.1 then bif Nat.beq (List.length s166.2) (List.length s166.2) then Option.bind (slices_symMergeCmpFunc_Route_self s166.2 (a1, s158.1, IntKind.wrap IntKind.i64 (Int.fdiv (IntKind.wrap IntKind.u64 (IntKind.wrap IntKind.i64 (a1 + a3))) ((2 : Int) ^ min (Int.toNat (1 : Int)) (IntKind.bits IntKind.u64))), (), ())) fun (y167 : List (Ty.El zA) × Unit) => some y167.1 else none else some s166.2) fun (s168 : List (Ty.El zA)) => Option.bind (bif decide (IntKind.wrap IntKind.i64 (Int.fdiv (IntKind.wrap IntKind.u64 (IntKind.wrap IntKind.i64 (a1 + a3))) ((2 : Int) ^ min (Int.toNat (1 : Int)) (IntKind.bits IntKind.u64))) < IntKind.wrap IntKind.i64 (IntKind.wrap IntKind.i64 (IntKind.wrap IntKind.i64 (Int.fdiv (IntKind.wrap IntKind.u64 (IntKind.wrap IntKind.i64 (a1 + a3))) ((2 : Int) ^ min (Int.toNat (1 : Int)) (IntKind.bits IntKind.u64))) + a2) - s158.1)) then some (decide (IntKind.wrap IntKind.i64 (IntKind.wrap IntKind.i64 (IntKind.wrap IntKind.i64 (Int.fdiv (IntKind.wrap IntKind.u64 (IntKind.wrap IntKind.i64 (a1 + a3))) ((2 : Int) ^ min (Int.toNat (1 : Int)) (IntKind.bits IntKind.u64))) + a2) - s158.1) < a3), s168) else some (false, s168)) fun (s169 : Bool × List (Ty.El zA)) => bif s169.1 then bif Nat.beq (List.length s169.2) (List.length s169.2) then Option.bind (slices_symMergeCmpFunc_Route_self s169.2 (IntKind.wrap IntKind.i64 (Int.fdiv (IntKind.wrap IntKind.u64 (IntKind.wrap IntKind.i64 (a1 + a3))) ((2 : Int) ^ min (Int.toNat (1 : Int)) (IntKind.bits IntKind.u64))), IntKind.wrap IntKind.i64 (IntKind.wrap IntKind.i64 (IntKind.wrap IntKind.i64 (Int.fdiv (IntKind.wrap IntKind.u64 (IntKind.wrap IntKind.i64 (a1 + a3))) ((2 : Int) ^ min (Int.toNat (1 : Int)) (IntKind.bits IntKind.u64))) + a2) - s158.1), a3, (), ())) fun (y170 : List (Ty.El zA) × Unit) => bif Nat.beq (List.length y170.1) (List.length a0) then some (y170.1, ()) else none else none else bif Nat.beq (List.length s169.2) (List.length a0) then some (s169.2, ()) else none
noncomputable def zX : Nat → (List (Ty.El zA) → ElA [.d tI, .d tI, .d tI, .clo 26 []] → Option (List (Ty.El zA) × RTy.El (.tu []))) | 0 => fun _ _ => none | n + 1 => k7 (zX n)
noncomputable def qE : List (Ty.El zA) → ElA [.d tI, .d tI, .d tI, .clo 26 []] → Option (List (Ty.El zA) × RTy.El (.tu [])) := zX 1048576
noncomputable def qL : List (Ty.El zA) → ElA [.d tI, .clo 26 []] → Option (List (Ty.El zA) × RTy.El (.tu [])) := fun a0 x => match x with | (a1, (), ()) => Option.bind (zN (fun (s4 : Int × List (Ty.El zA) × Int) => bif decide (s4.1 ≤ a1) then bif Nat.beq (List.length s4.2.1) (List.length s4.2.1) then Option.bind (zY s4.2.1 (s4.2.2, s4.1, (), ())) fun (y5 : List (Ty.El zA) × Unit) => some (Sum.inl (IntKind.wrap IntKind.i64 (s4.1 + (20 : Int)), y5.1, s4.1)) else none else some (Sum.inr s4.2)) ((20 : Int), a0, (0 : Int))) fun (s6 : List (Ty.El zA) × Int) => bif Nat.beq (List.length s6.1) (List.length s6.1) then Option.bind (zY s6.1 (s6.2, a1, (), ())) fun (y7 : List (Ty.El zA) × Unit) => zN (fun (s30 : Int × List (Ty.El zA)) => bif decide (s30.1 < a1) then Option.bind (zN (fun (s31 : Int × List (Ty.El zA) × Int) => bif decide (s31.1 ≤ a1) then bif Nat.beq (List.length s31.2.1) (List.length s31.2.1) then Option.bind (qE s31.2.1 (s31.2.2, IntKind.wrap IntKind.i64 (s31.2.2 + s30.1), s31.1, (), ())) fun (y32 : List (Ty.El zA) × Unit) => some (Sum.inl (IntKind.wrap IntKind.i64 (s31.1 + IntKind.wrap IntKind.i64 ((2 : Int) * s30.1)), y32.1, s31.1)) else none else some (Sum.inr (s31.2.2, s31.2.1))) (IntKind.wrap IntKind.i64 ((2 : Int) * s30.1), s30.2, (0 : Int))) fun (s33 : Int × List (Ty.El zA)) => Option.bind (bif decide (IntKind.wrap IntKind.i64 (s33.1 + s30.1) < a1) then bif Nat.beq (List.length s33.2) (List.length s33.2) then Option.bind (qE s33.2 (s33.1, IntKind.wrap IntKind.i64 (s33.1 + s30.1), a1, (), ())) fun (y34 : List (Ty.El zA) × Unit) => some y34.1 else none else some s33.2) fun (s35 : List (Ty.El zA)) => some (Sum.inl (IntKind.wrap IntKind.i64 (s30.1 * (2 : Int)), s35)) else Option.map (fun (r : List (Ty.El zA) × Unit) => Sum.inr r) (bif Nat.beq (List.length s30.2) (List.length a0) then some (s30.2, ()) else none)) ((20 : Int), y7.1) else none
noncomputable def z8 : List (Ty.El zA) → ElA [.clo 26 []] → Option (List (Ty.El zA) × RTy.El (.tu [])) := fun a0 x => match x with | ((), ()) => bif Nat.beq (List.length a0) (List.length a0) && Nat.beq (List.length a0) (List.length a0) then Option.bind (qL a0 ((↑(List.length a0) : Int), (), ())) fun (y0 : List (Ty.El zA) × Unit) => bif Nat.beq (List.length y0.1) (List.length a0) then some (y0.1, ()) else none else none
noncomputable def zUy : ElS [zS, tI] → Option (RTy.El (.p (.sl zA))) := fun x => match x with | (a1, a2, ()) => Option.bind (bif decide (a2 < (0 : Int)) then some true else some (decide (a2 ≥ (↑(List.length a1.1.1) : Int)))) fun (s0 : Bool) => bif s0 then some [] else Option.bind (Option.bind (idx a1.1.1 a2) fun (y18 : Ty.El zH) => zN (fun (s19 : Int × List (Ty.El zA)) => bif decide (s19.1 < (↑(List.length y18.2.2.1) : Int)) then Option.bind (Option.bind (idx y18.2.2.1 s19.1) fun (y20 : Ty.El qA) => Option.bind (zGB (a1, a2, s19.1, ())) fun (y21 : Bool) => bif y21 then Option.bind (zBl (y20.2.1, y20.2.2.1, ())) fun (y22 : Int × Int × Unit) => Option.bind (app (136 : Nat) s19.2 [(y22, (1 : Int), (0 : Int), (0 : Int), (0 : Int), (0 : Int), (0 : Int), (0 : Int), [], (0 : Int), (0 : Int), [(s19.1, (0 : Int), ())], false, ())]) fun (y23 : List (Ty.El zA)) => some y23 else some s19.2) fun (s24 : List (Ty.El zA)) => some (Sum.inl (IntKind.wrap IntKind.i64 (s19.1 + (1 : Int)), s24)) else some (Sum.inr s19.2)) ((0 : Int), [])) fun (s25 : List (Ty.El zA)) => bif Nat.beq (List.length s25) (List.length s25) then Option.bind (z8 s25 ((), ())) fun (y26 : List (Ty.El zA) × Unit) => some y26.1 else none
noncomputable def xO : ElS [zS, tI] → Option (RTy.El (.p .bool)) := fun x => match x with | (a1, a2, ()) => Option.bind (bif decide (a2 ≥ (0 : Int)) then some (decide (a2 < (↑(List.length a1.1.1) : Int))) else some false) fun (s0 : Bool) => some s0
noncomputable def xP : ElS [zS, tI, tI] → Option (RTy.El (.p tI)) := fun x => match x with | (a1, a2, a3, ()) => qV (zN (fun (s20 : Int) => bif decide (s20 < (↑(List.length a1.2.1.1) : Int)) then qV (zN (fun (s21 : Int) => Option.bind (idx a1.2.1.1 s20) fun (y22 : Ty.El kM) => bif decide (s21 < (↑(List.length y22.2.2.1) : Int)) then Option.bind (idx a1.2.1.1 s20) fun (y23 : Ty.El kM) => Option.bind (idx y23.2.2.1 s21) fun (y24 : Ty.El zK) => bif y24.1 == a2 && (y24.2.1 == a3 && true) then some (Sum.inr (Sum.inr (Sum.inr (Sum.inr s20)))) else some (Sum.inl (IntKind.wrap IntKind.i64 (s21 + (1 : Int)))) else some (Sum.inr (Sum.inl ()))) (0 : Int)) fun (s25 : Unit) => some (Sum.inl (IntKind.wrap IntKind.i64 (s20 + (1 : Int)))) else some (Sum.inr (Sum.inl ()))) (0 : Int)) fun (s26 : Unit) => some (-1 : Int)
noncomputable def zEu : ElS [zS, tI, tI] → Option (RTy.El (.p tI)) := fun x => match x with | (a1, a2, a3, ()) => Option.bind (xP (a1, a2, a3, ())) fun (y0 : Int) => qV (zN (fun (s8 : Int) => bif decide (s8 < (↑(List.length a1.2.1.2.1) : Int)) then Option.bind (bif decide (y0 ≥ (0 : Int)) then Option.bind (idx a1.2.1.2.1 s8) fun (y9 : Int) => some (y9 == y0) else some false) fun (s10 : Bool) => bif s10 then some (Sum.inr (Sum.inr s8)) else some (Sum.inl (IntKind.wrap IntKind.i64 (s8 + (1 : Int)))) else some (Sum.inr (Sum.inl ()))) (0 : Int)) fun (s11 : Unit) => some (-1 : Int)
noncomputable def zFW : ElS [zS, tI, tI] → Option (RTy.El (.p .bool)) := fun x => match x with | (a1, a2, a3, ()) => Option.bind (xP (a1, a2, a3, ())) fun (y0 : Int) => bif decide (y0 < (0 : Int)) then some false else Option.bind (zEu (a1, a2, a3, ())) fun (y1 : Int) => qV (zN (fun (s6 : Int) => bif decide (s6 < (↑(List.length a1.2.2.1) : Int)) then Option.bind (idx a1.2.2.1 s6) fun (y7 : Int) => bif y7 == y1 then some (Sum.inr (Sum.inr false)) else some (Sum.inl (IntKind.wrap IntKind.i64 (s6 + (1 : Int)))) else some (Sum.inr (Sum.inl ()))) (0 : Int)) fun (s8 : Unit) => some true
noncomputable def zBI : ElS [zS, tI, tI] → Option (RTy.El (.p zF)) := fun x => match x with | (a1, a2, a3, ()) => Option.bind (idx a1.1.1 a2) fun (y0 : Ty.El zH) => Option.bind (idx y0.2.2.1 a3) fun (y1 : Ty.El qA) => Option.bind (j5 (y1.2.1, y1.2.2.1, ())) fun (y2 : Int × Int × Unit) => some y2
noncomputable def zA5 : ElS [(.sl zA)] → Option (RTy.El (.p (.sl zF))) := fun x => match x with | (a1, ()) => Option.bind (zN (fun (s98 : Int × List (Ty.El zF)) => bif decide (s98.1 < (↑(List.length a1) : Int)) then Option.bind (Option.bind (zN (fun (s99 : Int × List (Ty.El zF)) => Option.bind (bif decide (s99.1 < (↑(List.length s99.2) : Int)) then Option.bind (idx s99.2 s99.1) fun (y100 : Ty.El zF) => Option.bind (atN s99.2 (Int.toNat s99.1)) fun (y101 : Ty.El zF) => Option.bind (idx a1 s98.1) fun (y102 : Ty.El zA) => Option.bind (wV (y101, y102.1, ())) fun (y103 : Int) => some (decide (y103 < (0 : Int)), s99.2) else some (false, s99.2)) fun (s104 : Bool × List (Ty.El zF)) => bif s104.1 then some (Sum.inl (IntKind.wrap IntKind.i64 (s99.1 + (1 : Int)), s104.2)) else some (Sum.inr (s99.1, s104.2))) ((0 : Int), s98.2)) fun (s105 : Int × List (Ty.El zF)) => Option.bind (bif s105.1 == (↑(List.length s105.2) : Int) then some (true, s105.2) else Option.bind (idx s105.2 s105.1) fun (y106 : Ty.El zF) => Option.bind (atN s105.2 (Int.toNat s105.1)) fun (y107 : Ty.El zF) => Option.bind (idx a1 s98.1) fun (y108 : Ty.El zA) => some (!(y107.1 == y108.1.1 && (y107.2.1 == y108.1.2.1 && true)), s105.2)) fun (s109 : Bool × List (Ty.El zF)) => bif s109.1 then Option.bind (sub s109.2 (0 : Int) s105.1) fun (y110 : List (Ty.El zF)) => Option.bind (idx a1 s98.1) fun (y111 : Ty.El zA) => Option.bind (sub s109.2 s105.1 (↑(List.length s109.2) : Int)) fun (y112 : List (Ty.El zF)) => Option.bind (app (16 : Nat) [] y110) fun (y113 : List (Ty.El zF)) => Option.bind (app (16 : Nat) y113 [y111.1]) fun (y114 : List (Ty.El zF)) => Option.bind (app (16 : Nat) y114 y112) fun (y115 : List (Ty.El zF)) => some y115 else some s109.2) fun (s116 : List (Ty.El zF)) => some (Sum.inl (IntKind.wrap IntKind.i64 (s98.1 + (1 : Int)), s116)) else some (Sum.inr s98.2)) ((0 : Int), [])) fun (s117 : List (Ty.El zF)) => some s117
noncomputable def zCI : ElS [zA] → Option (RTy.El (.p (.pair tI (.pair tI (.pair tI (.pair tI (.pair tI zK))))))) := fun x => match x with | (a1, ()) => bif a1.2.1 == (3 : Int) then some (a1.2.2.1, a1.2.2.2.2.1, a1.2.2.2.2.2.1, a1.2.2.2.2.2.2.1, (0 : Int), (0 : Int), (0 : Int), ()) else bif a1.2.1 == (4 : Int) then some (a1.2.2.2.2.1, a1.2.2.1, a1.2.2.2.2.2.2.1, (0 : Int), (0 : Int), (0 : Int), (0 : Int), ()) else bif a1.2.1 == (5 : Int) then some (if (3 : Int) < a1.2.2.1 then (3 : Int) else a1.2.2.1, IntKind.wrap IntKind.i64 ((1000000 : Int) - a1.2.2.2.2.2.2.2.1), (↑(List.length a1.2.2.2.2.2.2.2.2.1) : Int), a1.2.2.2.2.1, a1.2.2.1, IntKind.wrap IntKind.i64 a1.2.2.2.2.2.2.2.2.2.1, (0 : Int), ()) else some (a1.2.2.2.1, (0 : Int), (0 : Int), (0 : Int), (0 : Int), (0 : Int), (0 : Int), ())
noncomputable def zA7 : ElS [zA, zA] → Option (RTy.El (.p tI)) := fun x => match x with | (a1, a2, ()) => Option.bind (zCI (a1, ())) fun (y2 : Int × Int × Int × Int × Int × Ty.El zK) => Option.bind (zCI (a2, ())) fun (y3 : Int × Int × Int × Int × Int × Ty.El zK) => qV (bif decide (y2.1 < y3.1) then some (Sum.inr (-1 : Int)) else bif decide (y2.1 > y3.1) then some (Sum.inr (1 : Int)) else bif decide (y2.2.1 < y3.2.1) then some (Sum.inr (-1 : Int)) else bif decide (y2.2.1 > y3.2.1) then some (Sum.inr (1 : Int)) else bif decide (y2.2.2.1 < y3.2.2.1) then some (Sum.inr (-1 : Int)) else bif decide (y2.2.2.1 > y3.2.2.1) then some (Sum.inr (1 : Int)) else bif decide (y2.2.2.2.1 < y3.2.2.2.1) then some (Sum.inr (-1 : Int)) else bif decide (y2.2.2.2.1 > y3.2.2.2.1) then some (Sum.inr (1 : Int)) else bif decide (y2.2.2.2.2.1 < y3.2.2.2.2.1) then some (Sum.inr (-1 : Int)) else bif decide (y2.2.2.2.2.1 > y3.2.2.2.2.1) then some (Sum.inr (1 : Int)) else bif decide (y2.2.2.2.2.2.1 < y3.2.2.2.2.2.1) then some (Sum.inr (-1 : Int)) else bif decide (y2.2.2.2.2.2.1 > y3.2.2.2.2.2.1) then some (Sum.inr (1 : Int)) else bif decide (y2.2.2.2.2.2.2.1 < y3.2.2.2.2.2.2.1) then some (Sum.inr (-1 : Int)) else bif decide (y2.2.2.2.2.2.2.1 > y3.2.2.2.2.2.2.1) then some (Sum.inr (1 : Int)) else some (Sum.inl ())) fun (s4 : Unit) => some (0 : Int)
noncomputable def zA6 : ElS [(.sl z1), z1] → Option (RTy.El (.p (.sl z1))) := fun x => match x with | (a1, a2, ()) => Option.bind (zN (fun (s12 : Int) => Option.bind (bif decide (s12 < (↑(List.length a1) : Int)) then Option.bind (idx a1 s12) fun (y13 : Ty.El z1) => Option.bind (kF (y13, a2, ())) fun (y14 : Bool) => some y14 else some false) fun (s15 : Bool) => bif s15 then some (Sum.inl (IntKind.wrap IntKind.i64 (s12 + (1 : Int)))) else some (Sum.inr s12)) (0 : Int)) fun (s16 : Int) => Option.bind (bif decide (s16 < (↑(List.length a1) : Int)) then Option.bind (idx a1 s16) fun (y19 : Ty.El z1) => some (y19.1 == a2.1 && (y19.2.1 == a2.2.1 && true)) else some false) fun (s20 : Bool) => bif s20 then some a1 else Option.bind (sub a1 (0 : Int) s16) fun (y26 : List (Ty.El z1)) => Option.bind (sub a1 s16 (↑(List.length a1) : Int)) fun (y27 : List (Ty.El z1)) => Option.bind (app (16 : Nat) [] y26) fun (y28 : List (Ty.El z1)) => Option.bind (app (16 : Nat) y28 [a2]) fun (y29 : List (Ty.El z1)) => Option.bind (app (16 : Nat) y29 y27) fun (y30 : List (Ty.El z1)) => some y30
noncomputable def zBK : ElS [(.sl z1), (.sl z1)] → Option (RTy.El (.p (.sl z1))) := fun x => match x with | (a1, a2, ()) => Option.bind (zN (fun (s6 : Int × List (Ty.El z1)) => bif decide (s6.1 < (↑(List.length a2) : Int)) then Option.bind (idx a2 s6.1) fun (y7 : Ty.El z1) => Option.bind (zA6 (s6.2, y7, ())) fun (y8 : List (Ty.El z1)) => some (Sum.inl (IntKind.wrap IntKind.i64 (s6.1 + (1 : Int)), y8)) else some (Sum.inr s6.2)) ((0 : Int), a1)) fun (s9 : List (Ty.El z1)) => some s9
noncomputable def zBR : ElS [(.sl zA)] → Option (RTy.El (.p (.sl zA))) := fun x => match x with | (a1, ()) => Option.bind (zA5 (a1, ())) fun (y0 : List (Ty.El zF)) => Option.bind (zN (fun (s338 : Int × List (Ty.El zA)) => bif decide (s338.1 < (↑(List.length y0) : Int)) then Option.bind (Option.bind (zN (fun (s339 : Int × Int × List (Ty.El zA)) => bif decide (s339.1 < (↑(List.length a1) : Int)) then Option.bind (Option.bind (Option.bind (idx a1 s339.1) fun (y340 : Ty.El zA) => Option.bind (idx y0 s338.1) fun (y341 : Ty.El zF) => bif y340.1.1 == y341.1 && (y340.1.2.1 == y341.2.1 && true) then bif decide (s339.2.1 < (0 : Int)) then some (true, s339.2.2) else Option.bind (idx a1 s339.1) fun (y342 : Ty.El zA) => Option.bind (idx a1 s339.2.1) fun (y343 : Ty.El zA) => Option.bind (zA7 (y342, y343, ())) fun (y344 : Int) => some (decide (y344 < (0 : Int)), s339.2.2) else some (false, s339.2.2)) fun (s345 : Bool × List (Ty.El zA)) => bif s345.1 then some (s339.1, s345.2) else some (s339.2.1, s345.2)) fun (s346 : Int × List (Ty.El zA)) => some (Sum.inl (IntKind.wrap IntKind.i64 (s339.1 + (1 : Int)), s346)) else some (Sum.inr s339.2)) ((0 : Int), (-1 : Int), s338.2)) fun (s347 : Int × List (Ty.El zA)) => Option.bind (idx a1 s347.1) fun (y348 : Ty.El zA) => Option.bind (app (8 : Nat) [] y348.2.2.2.2.2.2.2.2.1) fun (y349 : List Int) => Option.bind (zN (fun (s350 : Int × List (Ty.El zA) × Int × Int × Int × Int × Int × Int × Int × Int × Int × List Int × Int × Int × List (Ty.El z1) × Bool) => bif decide (s350.1 < (↑(List.length a1) : Int)) then Option.bind (Option.bind (Option.bind (idx a1 s350.1) fun (y351 : Ty.El zA) => Option.bind (idx y0 s338.1) fun (y352 : Ty.El zF) => bif y351.1.1 == y352.1 && (y351.1.2.1 == y352.2.1 && true) then Option.bind (idx a1 s350.1) fun (y353 : Ty.El zA) => Option.bind (idx a1 s347.1) fun (y354 : Ty.El zA) => Option.bind (zA7 (y353, y354, ())) fun (y355 : Int) => some (y355 == (0 : Int), s350.2) else some (false, s350.2)) fun (s356 : Bool × List (Ty.El zA) × Int × Int × Int × Int × Int × Int × Int × Int × Int × List Int × Int × Int × List (Ty.El z1) × Bool) => bif s356.1 then Option.bind (idx a1 s350.1) fun (y357 : Ty.El zA) => Option.bind (zBK (s356.2.2.2.2.2.2.2.2.2.2.2.2.2.2.1, y357.2.2.2.2.2.2.2.2.2.2.2.1, ())) fun (y358 : List (Ty.El z1)) => some (s356.2.1, s356.2.2.1, s356.2.2.2.1, s356.2.2.2.2.1, s356.2.2.2.2.2.1, s356.2.2.2.2.2.2.1, s356.2.2.2.2.2.2.2.1, s356.2.2.2.2.2.2.2.2.1, s356.2.2.2.2.2.2.2.2.2.1, s356.2.2.2.2.2.2.2.2.2.2.1, s356.2.2.2.2.2.2.2.2.2.2.2.1, s356.2.2.2.2.2.2.2.2.2.2.2.2.1, s356.2.2.2.2.2.2.2.2.2.2.2.2.2.1, y358, s356.2.2.2.2.2.2.2.2.2.2.2.2.2.2.2) else some s356.2) fun (s359 : List (Ty.El zA) × Int × Int × Int × Int × Int × Int × Int × Int × Int × List Int × Int × Int × List (Ty.El z1) × Bool) => some (Sum.inl (IntKind.wrap IntKind.i64 (s350.1 + (1 : Int)), s359)) else some (Sum.inr s350.2)) ((0 : Int), s347.2, y348.1.1, y348.1.2.1, y348.2.1, y348.2.2.1, y348.2.2.2.1, y348.2.2.2.2.1, y348.2.2.2.2.2.1, y348.2.2.2.2.2.2.1, y348.2.2.2.2.2.2.2.1, y349, y348.2.2.2.2.2.2.2.2.2.1, y348.2.2.2.2.2.2.2.2.2.2.1, [], y348.2.2.2.2.2.2.2.2.2.2.2.2.1)) fun (s360 : List (Ty.El zA) × Int × Int × Int × Int × Int × Int × Int × Int × Int × List Int × Int × Int × List (Ty.El z1) × Bool) => Option.bind (app (136 : Nat) s360.1 [((s360.2.1, s360.2.2.1, ()), s360.2.2.2.1, s360.2.2.2.2.1, s360.2.2.2.2.2.1, s360.2.2.2.2.2.2.1, s360.2.2.2.2.2.2.2.1, s360.2.2.2.2.2.2.2.2.1, s360.2.2.2.2.2.2.2.2.2.1, s360.2.2.2.2.2.2.2.2.2.2.1, s360.2.2.2.2.2.2.2.2.2.2.2.1, s360.2.2.2.2.2.2.2.2.2.2.2.2.1, s360.2.2.2.2.2.2.2.2.2.2.2.2.2.1, s360.2.2.2.2.2.2.2.2.2.2.2.2.2.2, ())]) fun (y361 : List (Ty.El zA)) => some y361) fun (s362 : List (Ty.El zA)) => some (Sum.inl (IntKind.wrap IntKind.i64 (s338.1 + (1 : Int)), s362)) else some (Sum.inr s338.2)) ((0 : Int), [])) fun (s363 : List (Ty.El zA)) => some s363
noncomputable def kG : ElS [(.sl zA), (.sl zA)] → Option (RTy.El (.p .bool)) := fun x => match x with | (a1, a2, ()) => bif (↑(List.length a1) : Int) != (↑(List.length a2) : Int) then some false else qV (zN (fun (s11 : Int) => bif decide (s11 < (↑(List.length a1) : Int)) then Option.bind (idx a1 s11) fun (y12 : Ty.El zA) => Option.bind (idx a2 s11) fun (y13 : Ty.El zA) => Option.bind (zEs (y12, y13, ())) fun (y14 : Bool) => bif !y14 then some (Sum.inr (Sum.inr false)) else some (Sum.inl (IntKind.wrap IntKind.i64 (s11 + (1 : Int)))) else some (Sum.inr (Sum.inl ()))) (0 : Int)) fun (s15 : Unit) => some true
end Go.Ve

namespace Go.Ve
open Go
set_option maxRecDepth 1000000
noncomputable def zNi : ElS [] → Option (RTy.El (.p .bool)) := fun x => match x with | () => some true
noncomputable def zDp : ElS [zS, (.sl (.sl zA))] → Option (RTy.El (.p .bool)) := fun x => match x with | (a1, a2, ()) => bif (↑(List.length a2) : Int) != (↑(List.length a1.1.1) : Int) then some false else qV (zN (fun (s13 : Int) => bif decide (s13 < (↑(List.length a2) : Int)) then Option.bind (Option.bind (idx a2 s13) fun (y14 : List (Ty.El zA)) => bif decide ((↑(List.length y14) : Int) > (12 : Int)) then some true else Option.bind (idx a2 s13) fun (y15 : List (Ty.El zA)) => Option.bind (zBQ (y15, (4 : Int), ())) fun (y16 : Bool) => some !y16) fun (s17 : Bool) => bif s17 then some (Sum.inr (Sum.inr false)) else some (Sum.inl (IntKind.wrap IntKind.i64 (s13 + (1 : Int)))) else some (Sum.inr (Sum.inl ()))) (0 : Int)) fun (s18 : Unit) => some true
noncomputable def j6 : ElS [zS, tI, tI] → Option (RTy.El (.tu [qA, .bool])) := fun x => match x with | (a1, a2, a3, ()) => Option.bind (bif decide (a2 < (0 : Int)) then some true else bif decide (a2 ≥ (↑(List.length a1.1.1) : Int)) then some true else bif decide (a3 < (0 : Int)) then some true else Option.bind (idx a1.1.1 a2) fun (y1 : Ty.El zH) => some (decide (a3 ≥ (↑(List.length y1.2.2.1) : Int)))) fun (s2 : Bool) => bif s2 then some (({ data := #[] }, (0 : Int), (0 : Int), (0 : Int), false, false, (0 : Int), (0 : Int), false, { data := #[] }, { data := #[] }, (0 : Int), ()), false, ()) else Option.bind (idx a1.1.1 a2) fun (y3 : Ty.El zH) => Option.bind (idx y3.2.2.1 a3) fun (y4 : Ty.El qA) => some (y4, true, ())
noncomputable def jX : ElS [zS, tI, tI] → Option (RTy.El (.p .bool)) := fun x => match x with | (a1, a2, a3, ()) => Option.bind (j6 (a1, a2, a3, ())) fun (y0 : Ty.El qA × Bool × Unit) => Option.bind (bif y0.2.1 then Option.bind (idx a1.1.1 a2) fun (y3 : Ty.El zH) => bif y3.2.2.2.2.2.2.2.2.2.1.1 then bif y0.1.2.2.2.2.2.2.2.2.1 then Option.bind (zGB (a1, a2, a3, ())) fun (y4 : Bool) => some y4 else some false else some false else some false) fun (s5 : Bool) => some s5
noncomputable def zAS : ElS [zS, tI, tI] → Option (RTy.El (.p (.sl zK))) := fun x => match x with | (a1, a2, a3, ()) => Option.bind (zGB (a1, a2, a3, ())) fun (y0 : Bool) => bif !y0 then some [] else Option.bind (Option.bind (zAA (a1, a2, a3, ())) fun (y18 : Int) => Option.bind (idx a1.2.1.1 y18) fun (y19 : Ty.El kM) => zN (fun (s20 : Int × List (Ty.El zK)) => bif decide (s20.1 < (↑(List.length y19.2.2.1) : Int)) then Option.bind (Option.bind (idx y19.2.2.1 s20.1) fun (y21 : Ty.El zK) => Option.bind (bif y21.1 != a2 then some (true, s20.2) else some (y21.2.1 != a3, s20.2)) fun (s22 : Bool × List (Ty.El zK)) => bif s22.1 then Option.bind (app (16 : Nat) s22.2 [y21]) fun (y23 : List (Ty.El zK)) => some y23 else some s22.2) fun (s24 : List (Ty.El zK)) => some (Sum.inl (IntKind.wrap IntKind.i64 (s20.1 + (1 : Int)), s24)) else some (Sum.inr s20.2)) ((0 : Int), [])) fun (s25 : List (Ty.El zK)) => some s25
noncomputable def x5 : ElA [.d jJ, .pp .str] → Option (RTy.El (.p .bool)) := fun x => match x with | (a1, a2, ()) => some (a1.1 == a2)
noncomputable def wE : ElA [.d (.sl jJ), .clo 178 [(true, .str)]] → Option (RTy.El (.p tI)) := fun x => match x with | (a1, (a2, ()), ()) => qV (zN (fun (s6 : Int) => bif decide (s6 < (↑(List.length a1) : Int)) then Option.bind (idx a1 s6) fun (y7 : Ty.El jJ) => Option.bind (x5 (y7, a2, ())) fun (y8 : Bool) => bif y8 then some (Sum.inr (Sum.inr s6)) else some (Sum.inl (IntKind.wrap IntKind.i64 (s6 + (1 : Int)))) else some (Sum.inr (Sum.inl ()))) (0 : Int)) fun (s9 : Unit) => some (-1 : Int)
noncomputable def xQ : ElS [zH, .str] → Option (RTy.El (.p tI)) := fun x => match x with | (a1, a2, ()) => Option.bind (wE (a1.2.2.2.1, (a2, ()), ())) fun (y0 : Int) => some y0
noncomputable def zB1 : ElS [zF, zF] → Option (RTy.El (.p .bool)) := fun x => match x with | (a1, a2, ()) => Option.bind (bif decide (a1.2.1 ≤ a2.2.1) then Option.bind (zAo (a1, a2.1, ())) fun (y1 : Bool) => some y1 else some false) fun (s2 : Bool) => some s2
noncomputable def yV : ElS [yF, zF] → Option (RTy.El (.p .bool)) := fun x => match x with | (a1, a2, ()) => Option.bind (Option.bind (zB1 (a1.2.1, a2, ())) fun (y1 : Bool) => bif y1 then bif decide (a1.2.2.1 ≤ a2.2.1) then some (decide (a2.2.1 ≤ a1.2.2.2.1)) else some false else some false) fun (s2 : Bool) => some s2
noncomputable def zCi : ElS [jJ, zF] → Option (RTy.El (.p tI)) := fun x => match x with | (a1, a2, ()) => qV (zN (fun (s6 : Int) => bif decide (s6 < (↑(List.length a1.2.1) : Int)) then Option.bind (idx a1.2.1 s6) fun (y7 : Ty.El yF) => Option.bind (yV (y7, a2, ())) fun (y8 : Bool) => bif y8 then some (Sum.inr (Sum.inr s6)) else some (Sum.inl (IntKind.wrap IntKind.i64 (s6 + (1 : Int)))) else some (Sum.inr (Sum.inl ()))) (0 : Int)) fun (s9 : Unit) => some (-1 : Int)
noncomputable def yU : ElS [zH, .str, zF] → Option (RTy.El (.p .bool)) := fun x => match x with | (a1, a2, a3, ()) => bif a2 == { data := #[] } then some true else Option.bind (xQ (a1, a2, ())) fun (y0 : Int) => bif decide (y0 < (0 : Int)) then some false else Option.bind (idx a1.2.2.2.1 y0) fun (y3 : Ty.El jJ) => Option.bind (zCi (y3, a3, ())) fun (y4 : Int) => Option.bind (bif decide (y4 ≥ (0 : Int)) then Option.bind (idx a1.2.2.2.1 y0) fun (y7 : Ty.El jJ) => Option.bind (idx y7.2.1 y4) fun (y8 : Ty.El yF) => some y8.1 else some false) fun (s9 : Bool) => some s9
noncomputable def u5 : ElS [zS, (.sl zA), tI, tI, zK] → Option (RTy.El (.p (.sl zA))) := fun x => match x with | (a1, a2, a3, a4, a5, ()) => Option.bind (idx a1.1.1 a3) fun (y2 : Ty.El zH) => Option.bind (idx a1.1.1 a5.1) fun (y3 : Ty.El zH) => Option.bind (j6 (a1, a5.1, a5.2.1, ())) fun (y4 : Ty.El qA × Bool × Unit) => Option.bind (zN (fun (s26 : Int × List (Ty.El zA)) => bif decide (s26.1 < (↑(List.length a2) : Int)) then Option.bind (Option.bind (idx a2 s26.1) fun (y27 : Ty.El zA) => Option.bind (bif decide (y27.2.2.2.2.1 ≥ (15 : Int)) then some (true, s26.2) else Option.bind (yU (y3, y3.2.2.2.2.2.2.2.2.2.1.2.2.2.1, y27.1, ())) fun (y28 : Bool) => bif !y28 then some (true, s26.2) else Option.bind (yU (y2, y2.2.2.2.2.2.2.2.2.2.1.2.2.1, y27.1, ())) fun (y29 : Bool) => some (!y29, s26.2)) fun (s30 : Bool × List (Ty.El zA)) => bif s30.1 then some s30.2 else Option.bind (app (136 : Nat) s30.2 [(y27.1, (4 : Int), (3 : Int), y2.2.2.2.2.2.2.2.2.2.1.2.1, IntKind.wrap IntKind.i64 (y27.2.2.2.2.1 + (1 : Int)), (0 : Int), y27.2.2.2.2.2.2.1, (0 : Int), [], (0 : Int), (0 : Int), [(a4, y4.1.2.1, ())], false, ())]) fun (y31 : List (Ty.El zA)) => some y31) fun (s32 : List (Ty.El zA)) => some (Sum.inl (IntKind.wrap IntKind.i64 (s26.1 + (1 : Int)), s32)) else some (Sum.inr s26.2)) ((0 : Int), [])) fun (s33 : List (Ty.El zA)) => some s33
noncomputable def wG : ElS [zS, (.sl (.sl zA)), tI] → Option (RTy.El (.p (.sl zA))) := fun x => match x with | (a1, a2, a3, ()) => Option.bind (bif decide (a3 < (0 : Int)) then some true else some (decide (a3 ≥ (↑(List.length a1.1.1) : Int)))) fun (s0 : Bool) => bif s0 then some [] else Option.bind (Option.bind (idx a1.1.1 a3) fun (y54 : Ty.El zH) => zN (fun (s55 : Int × List (Ty.El zA)) => bif decide (s55.1 < (↑(List.length y54.2.2.1) : Int)) then Option.bind (Option.bind (jX (a1, a3, s55.1, ())) fun (y56 : Bool) => bif !y56 then some s55.2 else Option.bind (zAS (a1, a3, s55.1, ())) fun (y57 : List (Ty.El zK)) => zN (fun (s58 : Int × List (Ty.El zA)) => bif decide (s58.1 < (↑(List.length y57) : Int)) then Option.bind (Option.bind (idx y57 s58.1) fun (y59 : Ty.El zK) => Option.bind (Option.bind (jX (a1, y59.1, y59.2.1, ())) fun (y60 : Bool) => bif y60 then some (decide (y59.1 < (↑(List.length a2) : Int)), s58.2) else some (false, s58.2)) fun (s61 : Bool × List (Ty.El zA)) => bif s61.1 then Option.bind (idx a2 y59.1) fun (y62 : List (Ty.El zA)) => Option.bind (u5 (a1, y62, a3, s55.1, y59, ())) fun (y63 : List (Ty.El zA)) => Option.bind (app (136 : Nat) s61.2 y63) fun (y64 : List (Ty.El zA)) => some y64 else some s61.2) fun (s65 : List (Ty.El zA)) => some (Sum.inl (IntKind.wrap IntKind.i64 (s58.1 + (1 : Int)), s65)) else some (Sum.inr s58.2)) ((0 : Int), s55.2)) fun (s66 : List (Ty.El zA)) => some (Sum.inl (IntKind.wrap IntKind.i64 (s55.1 + (1 : Int)), s66)) else some (Sum.inr s55.2)) ((0 : Int), [])) fun (s67 : List (Ty.El zA)) => some s67
noncomputable def zAs : ElS [zS, tI, tI] → Option (RTy.El (.p (.sl zK))) := fun x => match x with | (a1, a2, a3, ()) => Option.bind (zFW (a1, a2, a3, ())) fun (y0 : Bool) => bif !y0 then some [] else Option.bind (xP (a1, a2, a3, ())) fun (y3 : Int) => Option.bind (idx a1.2.1.1 y3) fun (y4 : Ty.El kM) => Option.bind (zN (fun (s18 : Int × List (Ty.El zK)) => bif decide (s18.1 < (↑(List.length y4.2.2.1) : Int)) then Option.bind (Option.bind (idx y4.2.2.1 s18.1) fun (y19 : Ty.El zK) => bif y19.1 != a2 then Option.bind (idx y4.2.2.1 s18.1) fun (y20 : Ty.El zK) => Option.bind (app (16 : Nat) s18.2 [y20]) fun (y21 : List (Ty.El zK)) => some y21 else some s18.2) fun (s22 : List (Ty.El zK)) => some (Sum.inl (IntKind.wrap IntKind.i64 (s18.1 + (1 : Int)), s22)) else some (Sum.inr s18.2)) ((0 : Int), [])) fun (s23 : List (Ty.El zK)) => some s23
noncomputable def zI2 : ElS [zS, zK] → Option (RTy.El (.p qA)) := fun x => match x with | (a1, a2, ()) => Option.bind (idx a1.1.1 a2.1) fun (y2 : Ty.El zH) => Option.bind (idx y2.2.2.1 a2.2.1) fun (y3 : Ty.El qA) => some y3
noncomputable def vF : ElS [yF, zF] → Option (RTy.El (.p .bool)) := fun x => match x with | (a1, a2, ()) => Option.bind (Option.bind (vZ (a1.2.1, a2, ())) fun (y1 : Bool) => bif y1 then bif decide (a1.2.2.1 ≤ a2.2.1) then some (decide (a2.2.1 ≤ a1.2.2.2.1)) else some false else some false) fun (s2 : Bool) => some s2
noncomputable def xN : ElS [jJ, zF] → Option (RTy.El (.p tI)) := fun x => match x with | (a1, a2, ()) => qV (zN (fun (s8 : Int) => bif decide (s8 < (↑(List.length a1.2.1) : Int)) then Option.bind (idx a1.2.1 s8) fun (y9 : Ty.El yF) => Option.bind (vF (y9, a2, ())) fun (y10 : Bool) => bif y10 then some (Sum.inr (Sum.inr s8)) else some (Sum.inl (IntKind.wrap IntKind.i64 (s8 + (1 : Int)))) else some (Sum.inr (Sum.inl ()))) (0 : Int)) fun (s11 : Unit) => some (-1 : Int)
noncomputable def vE : ElS [zH, .str, zF] → Option (RTy.El (.p .bool)) := fun x => match x with | (a1, a2, a3, ()) => bif a2 == { data := #[] } then some true else Option.bind (jI (a1, a2, ())) fun (y0 : Int) => bif decide (y0 < (0 : Int)) then some false else Option.bind (idx a1.2.2.2.1 y0) fun (y3 : Ty.El jJ) => Option.bind (xN (y3, a3, ())) fun (y4 : Int) => Option.bind (bif decide (y4 ≥ (0 : Int)) then Option.bind (idx a1.2.2.2.1 y0) fun (y7 : Ty.El jJ) => Option.bind (idx y7.2.1 y4) fun (y8 : Ty.El yF) => some y8.1 else some false) fun (s9 : Bool) => some s9
noncomputable def xL : ElS [(.sl tI)] → Option (RTy.El (.p (.sl tI))) := fun x => match x with | (a1, ()) => Option.bind (app (8 : Nat) [] a1) fun (z : List (Ty.El tI)) => some z
noncomputable def zAG : ElS [zS, tI, tI] → Option (RTy.El (.p .bool)) := fun x => match x with | (a1, a2, a3, ()) => Option.bind (Option.bind (idx a1.1.1 a2) fun (y4 : Ty.El zH) => bif y4.2.2.2.2.2.2.2.2.2.1.1 then Option.bind (idx a1.1.1 a2) fun (y5 : Ty.El zH) => Option.bind (idx y5.2.2.1 a3) fun (y6 : Ty.El qA) => bif y6.2.2.2.2.2.2.2.2.1 then Option.bind (zFW (a1, a2, a3, ())) fun (y7 : Bool) => some y7 else some false else some false) fun (s8 : Bool) => some s8
noncomputable def zAd : ElS [zS, (.sl (.sl zA)), tI] → Option (RTy.El (.p (.sl zA))) := fun x => match x with | (a1, a2, a3, ()) => Option.bind (xO (a1, a3, ())) fun (y0 : Bool) => bif !y0 then some [] else Option.bind (idx a1.1.1 a3) fun (y1 : Ty.El zH) => Option.bind (zN (fun (s121 : Int × List (Ty.El zA)) => bif decide (s121.1 < (↑(List.length y1.2.2.1) : Int)) then Option.bind (Option.bind (zAG (a1, a3, s121.1, ())) fun (y122 : Bool) => bif !y122 then some s121.2 else Option.bind (zAs (a1, a3, s121.1, ())) fun (y123 : List (Ty.El zK)) => zN (fun (s124 : Int × List (Ty.El zA)) => bif decide (s124.1 < (↑(List.length y123) : Int)) then Option.bind (Option.bind (idx y123 s124.1) fun (y125 : Ty.El zK) => Option.bind (idx y123 s124.1) fun (y126 : Ty.El zK) => Option.bind (zAG (a1, y125.1, y126.2.1, ())) fun (y127 : Bool) => bif !y127 then some s124.2 else Option.bind (idx a1.1.1 y125.1) fun (y128 : Ty.El zH) => zN (fun (s129 : Int × List (Ty.El zA)) => Option.bind (idx a2 y125.1) fun (y130 : List (Ty.El zA)) => bif decide (s129.1 < (↑(List.length y130) : Int)) then Option.bind (Option.bind (idx a2 y125.1) fun (y131 : List (Ty.El zA)) => Option.bind (idx y131 s129.1) fun (y132 : Ty.El zA) => Option.bind (bif decide (y132.2.2.2.2.1 ≥ (15 : Int)) then some (true, s129.2) else Option.bind (vE (y128, y128.2.2.2.2.2.2.2.2.2.1.2.2.2.1, y132.1, ())) fun (y133 : Bool) => bif !y133 then some (true, s129.2) else Option.bind (vE (y1, y1.2.2.2.2.2.2.2.2.2.1.2.2.1, y132.1, ())) fun (y134 : Bool) => some (!y134, s129.2)) fun (s135 : Bool × List (Ty.El zA)) => bif s135.1 then some s135.2 else Option.bind (idx y123 s124.1) fun (y136 : Ty.El zK) => Option.bind (zI2 (a1, y136, ())) fun (y137 : ByteArray × Int × Int × Int × Bool × Bool × Int × Int × Bool × ByteArray × ByteArray × Int × Unit) => Option.bind (app (136 : Nat) s135.2 [(y132.1, (4 : Int), (3 : Int), y1.2.2.2.2.2.2.2.2.2.1.2.1, IntKind.wrap IntKind.i64 (y132.2.2.2.2.1 + (1 : Int)), (0 : Int), y132.2.2.2.2.2.2.1, (0 : Int), [], (0 : Int), (0 : Int), [(s121.1, y137.2.1, ())], false, ())]) fun (y138 : List (Ty.El zA)) => some y138) fun (s139 : List (Ty.El zA)) => some (Sum.inl (IntKind.wrap IntKind.i64 (s129.1 + (1 : Int)), s139)) else some (Sum.inr s129.2)) ((0 : Int), s124.2)) fun (s140 : List (Ty.El zA)) => some (Sum.inl (IntKind.wrap IntKind.i64 (s124.1 + (1 : Int)), s140)) else some (Sum.inr s124.2)) ((0 : Int), s121.2)) fun (s141 : List (Ty.El zA)) => some (Sum.inl (IntKind.wrap IntKind.i64 (s121.1 + (1 : Int)), s141)) else some (Sum.inr s121.2)) ((0 : Int), [])) fun (s142 : List (Ty.El zA)) => some s142
end Go.Ve

namespace Go.Ve
open Go
def Wp {α : Type} (m : Option α) (Q : α → Prop) : Prop := ∃ r, m = some r ∧ Q r
section
variable {α β ρ σ : Type}
theorem Wp.mono {m : Option α} {Q Q' : α → Prop} (h : Wp m Q) (hq : ∀ r, Q r → Q' r) : Wp m Q' := by
 obtain ⟨r, h1, h2⟩ := h; exact ⟨r, h1, hq r h2⟩
theorem zB {x : α} {Q : α → Prop} (h : Q x) : Wp (some x) Q := ⟨x, rfl, h⟩
theorem zC {m : Option α} {f : α → Option β} {Q : β → Prop} (h : Wp m (fun y => Wp (f y) Q)) : Wp (Option.bind m f) Q := by
 obtain ⟨y, rfl, h⟩ := h; exact h
theorem yP {m : Option α} {f : α → Option β} {Q : β → Prop} (h : Wp m (fun _ => True)) (k : ∀ y, m = some y → Wp (f y) Q) : Wp (Option.bind m f) Q := by
 obtain ⟨y, rfl, _⟩ := h; exact k y rfl
theorem zG {c : Bool} {x y : Option α} {Q : α → Prop} (h1 : c = true → Wp x Q) (h2 : c = false → Wp y Q) : Wp (bif c then x else y) Q := by
 cases c
 ·exact h2 rfl
 ·exact h1 rfl
theorem x3 {m : Option α} {f : α → β} {Q : β → Prop} (h : Wp m (fun y => Q (f y))) : Wp (Option.map f m) Q := by
 obtain ⟨y, rfl, h⟩ := h; exact ⟨_, rfl, h⟩
def j7 (P : σ → Prop) (Q : ρ → Prop) : σ ⊕ ρ → Prop
 | .inl s => P s
 | .inr r => Q r
theorem e2l {P : σ → Prop} {Q : ρ → Prop} {s : σ} (h : P s) : j7 P Q (.inl s) := h
theorem e2r {P : σ → Prop} {Q : ρ → Prop} {r : ρ} (h : Q r) : j7 P Q (.inr r) := h
theorem qJ {m : Option (σ ⊕ ρ)} {K : σ → Option ρ} {Q : ρ → Prop} (h : Wp m (j7 (fun s => Wp (K s) Q) Q)) : Wp (qV m K) Q := by
 obtain ⟨o, rfl, h⟩ := h
 cases o with
 | inl s => exact h
 | inr r => exact ⟨r, rfl, h⟩
theorem j2 {f : σ → Option (σ ⊕ ρ)} {Q : ρ → Prop} (J : σ → Prop) (m : σ → Nat) {s0 : σ} (h0 : J s0)
  (step : ∀ s, J s → Wp (f s) (j7 (fun s' => J s' ∧ m s' < m s) Q)) : Wp (zN f s0) Q := by
 refine zUS J m Q ?_ h0
 intro s hs
 obtain ⟨o, h1, h2⟩ := step s hs
 refine ⟨o, h1, ?_⟩
 cases o with
 | inl s' => exact h2
 | inr r => exact h2
theorem wA {n s0 : Int} {body els : Int → Option (Int ⊕ ρ)} {Q : ρ → Prop}
  (step : ∀ s, s0 ≤ s → s < n → Wp (body s) (j7 (fun s' => s' = s + 1) Q))
  (fin : ∀ s, s0 ≤ s → n ≤ s → Wp (els s) (j7 (fun _ => False) Q)) : Wp (zN (fun s => bif decide (s < n) then body s else els s) s0) Q := by
 refine j2 (fun s => s0 ≤ s) (fun s => (n - s).toNat) (Int.le_refl _) ?_
 intro s hs
 refine zG ?_ ?_
 ·intro hc
  have hc : s < n := by simpa using hc
  refine (step s hs hc).mono ?_
  intro o ho
  cases o with
  | inl s' => have : s' = s + 1 := ho; subst this; exact ⟨by omega, by omega⟩
  | inr r => exact ho
 ·intro hc
  have hc : n ≤ s := by simpa using hc
  refine (fin s hs hc).mono ?_
  intro o ho
  cases o with
  | inl s' => exact ho.elim
  | inr r => exact ho
theorem zW9 {γ : Type} {n s0 : Int} {g0 : γ} {body els : Int × γ → Option ((Int × γ) ⊕ ρ)} {Q : ρ → Prop} (J : Int → γ → Prop) (h0 : J s0 g0)
  (step : ∀ s g, s0 ≤ s → s < n → J s g → Wp (body (s, g)) (j7 (fun o => o.1 = s + 1 ∧ J (s + 1) o.2) Q))
  (fin : ∀ s g, s0 ≤ s → n ≤ s → J s g → Wp (els (s, g)) (j7 (fun _ => False) Q)) : Wp (zN (fun o => bif decide (o.1 < n) then body o else els o) (s0, g0)) Q := by
 refine j2 (fun o => s0 ≤ o.1 ∧ J o.1 o.2) (fun o => (n - o.1).toNat) ⟨Int.le_refl _, h0⟩ ?_
 rintro ⟨s, g⟩ ⟨hs, hj⟩
 refine zG ?_ ?_
 ·intro hc
  have hc : s < n := by simpa using hc
  refine (step s g hs hc hj).mono ?_
  intro o ho
  cases o with
  | inl s' => obtain ⟨s1, g1⟩ := s'; obtain ⟨h1, h2⟩ := ho; simp only at h1 h2; subst h1; exact ⟨⟨by omega, h2⟩, by simp only; omega⟩
  | inr r => exact ho
 ·intro hc
  have hc : n ≤ s := by simpa using hc
  refine (fin s g hs hc hj).mono ?_
  intro o ho
  cases o with
  | inl s' => exact ho.elim
  | inr r => exact ho
theorem j3 {xs : List α} {i : Int} {Q : α → Prop} (h0 : 0 ≤ i) (h1 : i < xs.length) (h : ∀ y, y ∈ xs → xs[i.toNat]? = some y → Q y) : Wp (idx xs i) Q := by
 unfold idx
 rw [if_pos h0]
 have hl : i.toNat < xs.length := by omega
 exact ⟨xs[i.toNat], by simp [hl], h _ (List.getElem_mem hl) (by simp [hl])⟩
theorem yD {s : ByteArray} {i : Int} {Q : Int → Prop} (h0 : 0 ≤ i) (h1 : i < s.size) (h : ∀ y, 0 ≤ y → y < 256 → Q y) : Wp (zK4 s i) Q := by
 unfold zK4
 rw [if_pos h0]
 have hl : i.toNat < s.size := by omega
 refine ⟨(s[i.toNat].toNat : Int), by simp [hl], h _ (by omega) ?_⟩
 have := s[i.toNat].toNat_lt
 omega
theorem wL {bytes : Nat} {xs ys : List α} {Q : List α → Prop} (h0 : (2 * (xs.length + ys.length) + 1024) * bytes ≤ 140737488355328) (h : Q (xs ++ ys)) : Wp (app bytes xs ys) Q := by
 unfold app
 rw [if_pos h0]
 exact ⟨_, rfl, h⟩
end
theorem zD {x : Int} (h0 : -9223372036854775808 ≤ x) (h1 : x < 9223372036854775808) : IntKind.wrap .i64 x = x := by
 have e1 : ((2 : Int) ^ IntKind.bits .i64) = 18446744073709551616 := by decide
 have e2 : ((2 : Int) ^ (IntKind.bits .i64 - 1)) = 9223372036854775808 := by decide
 simp only [IntKind.wrap, IntKind.signed, Bool.true_and, decide_eq_true_eq, e1, e2]
 split <;> omega
theorem zIA {x : Int} (h0 : 0 ≤ x) (h1 : x < 18446744073709551616) : IntKind.wrap .u64 x = x := by
 have e1 : ((2 : Int) ^ IntKind.bits .u64) = 18446744073709551616 := by decide
 simp only [IntKind.wrap, IntKind.signed, Bool.false_and, Bool.false_eq_true, if_false, e1]
 omega
theorem zI {α : Type} {p : Prop} [Decidable p] {x y : Option α} {Q : α → Prop} (h1 : p → Wp x Q) (h2 : ¬ p → Wp y Q) : Wp (bif decide p then x else y) Q := by
 by_cases h : p
 ·simp only [h, decide_true, cond_true]; exact h1 h
 ·simp only [h, decide_false, cond_false]; exact h2 h
theorem jN {α : Type} {p : Prop} [Decidable p] {x y : Option α} {Q : α → Prop} (h1 : ¬ p → Wp x Q) (h2 : p → Wp y Q) : Wp (bif !decide p then x else y) Q := by
 by_cases h : p
 ·simp only [h, decide_true, Bool.not_true, cond_false]; exact h2 h
 ·simp only [h, decide_false, Bool.not_false, cond_true]; exact h1 h
end Go.Ve

namespace Go.Ve
open Go
theorem zJ {α : Type} {xs : List α} {i : Nat} {x : α} (h : xs[i]? = some x) : idx xs (i : Int) = some x := by
 rw [idx, if_pos (by omega), Int.toNat_natCast]; exact h
theorem zXE {α : Type} {xs : List α} {i : Int} {x : α} (h0 : 0 ≤ i) (h : xs[i.toNat]? = some x) : idx xs i = some x := by
 rw [idx, if_pos h0]; exact h
theorem qD {α : Type} {m : Option α} {x : α} {Q : α → Prop} (h : m = some x) (hq : Q x) : Wp m Q := ⟨x, h, hq⟩
section
variable {α γ ρ : Type}
theorem vM {xs : List α} {g0 : γ} {body : Int × γ → Option γ} {Q : γ → Prop} (hl : xs.length < 4611686018427387904) (J : Nat → γ → Prop) (h0 : J 0 g0)
  (step : ∀ i x g, xs[i]? = some x → J i g → Wp (body ((i : Int), g)) (J (i + 1))) (fin : ∀ g, J xs.length g → Q g) :
  Wp (zN (fun s : Int × γ => bif decide (s.1 < (xs.length : Int)) then Option.bind (body s) (fun g => some (Sum.inl (IntKind.wrap IntKind.i64 (s.1 + (1 : Int)), g))) else some (Sum.inr s.2)) ((0 : Int), g0)) Q := by
 refine j2 (fun (s : Int × γ) => ∃ i : Nat, s.1 = (i : Int) ∧ i ≤ xs.length ∧ J i s.2) (fun (s : Int × γ) => ((xs.length : Int) - s.1).toNat) ⟨(0 : Nat), rfl, Nat.zero_le _, h0⟩ ?_
 rintro ⟨s, g⟩ ⟨i, hi, hle, hj⟩
 simp only at hi
 subst hi
 refine zI ?_ ?_
 ·intro hc
  have hlt : i < xs.length := by simp only at hc; omega
  refine zC ((step i xs[i] g (by simp [hlt]) hj).mono ?_)
  intro g' hg'
  refine zB ?_
  refine e2l ⟨⟨i + 1, ?_, hlt, hg'⟩, ?_⟩
  ·simp only; rw [zD (by omega) (by omega)]; omega
  ·simp only; rw [zD (by omega) (by omega)]; omega
 ·intro hc
  have : i = xs.length := by simp only at hc; omega
  subst this
  exact zB (e2r (fin _ hj))
theorem zQJ {n : Nat} {c : Int × γ → Int} {g0 : γ} {body : Int × γ → Option γ} {Q : γ → Prop} (hl : n < 4611686018427387904) (J : Nat → γ → Prop) (h0 : J 0 g0) (hc : ∀ i g, J i g → c ((i : Int), g) = n)
  (step : ∀ i g, i < n → J i g → Wp (body ((i : Int), g)) (J (i + 1))) (fin : ∀ g, J n g → Q g) :
  Wp (zN (fun s : Int × γ => bif decide (s.1 < c s) then Option.bind (body s) (fun g => some (Sum.inl (IntKind.wrap IntKind.i64 (s.1 + (1 : Int)), g))) else some (Sum.inr s.2)) ((0 : Int), g0)) Q := by
 refine j2 (fun (s : Int × γ) => ∃ i : Nat, s.1 = (i : Int) ∧ i ≤ n ∧ J i s.2) (fun (s : Int × γ) => ((n : Int) - s.1).toNat) ⟨(0 : Nat), rfl, Nat.zero_le _, h0⟩ ?_
 rintro ⟨s, g⟩ ⟨i, hi, hle, hj⟩
 simp only at hi
 subst hi
 have hci := hc i g hj
 refine zI ?_ ?_
 ·intro hc'
  simp only [hci] at hc'
  have hlt : i < n := by omega
  refine zC ((step i g hlt hj).mono ?_)
  intro g' hg'
  refine zB ?_
  refine e2l ⟨⟨i + 1, ?_, hlt, hg'⟩, ?_⟩
  ·simp only; rw [zD (by omega) (by omega)]; omega
  ·simp only; rw [zD (by omega) (by omega)]; omega
 ·intro hc'
  simp only [hci] at hc'
  have : i = n := by omega
  subst this
  exact zB (e2r (fin _ hj))
theorem zAQ {xs : List α} {body : Int → Option (Int ⊕ (Unit ⊕ ρ))} {K : Unit → Option ρ} {Q : ρ → Prop} (hl : xs.length < 4611686018427387904) (J : Nat → Prop) (h0 : J 0)
  (step : ∀ i x, xs[i]? = some x → J i → Wp (body (i : Int)) (j7 (fun s' => s' = IntKind.wrap IntKind.i64 ((i : Int) + 1) ∧ J (i + 1)) (j7 (fun _ => False) Q))) (fin : J xs.length → Wp (K ()) Q) :
  Wp (qV (zN (fun s : Int => bif decide (s < (xs.length : Int)) then body s else some (Sum.inr (Sum.inl ()))) (0 : Int)) K) Q := by
 refine qJ ?_
 refine j2 (fun (s : Int) => ∃ i : Nat, s = (i : Int) ∧ i ≤ xs.length ∧ J i) (fun (s : Int) => ((xs.length : Int) - s).toNat) ⟨(0 : Nat), rfl, Nat.zero_le _, h0⟩ ?_
 rintro s ⟨i, hi, hle, hj⟩
 subst hi
 refine zI ?_ ?_
 ·intro hc
  have hlt : i < xs.length := by omega
  refine (step i xs[i] (by simp [hlt]) hj).mono ?_
  intro o ho
  cases o with
  | inl s' =>
   obtain ⟨rfl, h2⟩ := ho
   rw [zD (by omega) (by omega)]
   exact ⟨⟨i + 1, by omega, hlt, h2⟩, by omega⟩
  | inr o =>
   cases o with
   | inl _ => exact ho.elim
   | inr r => exact ho
 ·intro hc
  have : i = xs.length := by omega
  subst this
  exact zB (e2r (fin hj))
end
def zBE {α : Type} (p : α → Bool) (xs : List α) : Int :=
 match xs.findIdx? p with
 | some i => i
 | none => -1
theorem zKG {α : Type} {p : α → Bool} {xs : List α} (h : ∀ x, x ∈ xs → p x = false) : zBE p xs = -1 := by
 have : xs.findIdx? p = none := by rw [List.findIdx?_eq_none_iff]; exact h
 simp [zBE, this]
theorem zUf {α : Type} {p : α → Bool} {xs : List α} {i : Nat} {x : α} (h : xs[i]? = some x) (hp : p x = true) (hn : ∀ j y, j < i → xs[j]? = some y → p y = false) : zBE p xs = i := by
 have hlt := (List.getElem?_eq_some_iff.1 h).1
 have hx := (List.getElem?_eq_some_iff.1 h).2
 have : xs.findIdx? p = some i := by
  rw [List.findIdx?_eq_some_iff_getElem]
  refine ⟨hlt, by rw [hx]; exact hp, ?_⟩
  intro j hj
  have := hn j xs[j] hj (by simp)
  simp [this]
 simp [zBE, this]
theorem zNx {α : Type} (p : α → Bool) (xs : List α) : (zBE p xs = -1 ∧ ∀ x, x ∈ xs → p x = false) ∨ ∃ i x, zBE p xs = (i : Nat) ∧ xs[i]? = some x ∧ p x = true ∧ ∀ j y, j < i → xs[j]? = some y → p y = false := by
 cases h : xs.findIdx? p with
 | none => left; refine ⟨by simp [zBE, h], ?_⟩; rw [List.findIdx?_eq_none_iff] at h; exact h
 | some i =>
  right
  rw [List.findIdx?_eq_some_iff_getElem] at h
  obtain ⟨h1, h2, h3⟩ := h
  have h' : xs.findIdx? p = some i := by rw [List.findIdx?_eq_some_iff_getElem]; exact ⟨h1, h2, h3⟩
  refine ⟨i, xs[i], by simp [zBE, h'], by simp [h1], h2, ?_⟩
  intro j y hj hy
  obtain ⟨hjl, rfl⟩ := List.getElem?_eq_some_iff.1 hy
  have := h3 j hj
  simpa using this
theorem zBG {α : Type} {xs : List α} {p : α → Bool} {body : Int → Option (Int ⊕ (Unit ⊕ Int))} {Q : Int → Prop} (hl : xs.length < 4611686018427387904)
  (step : ∀ (i : Nat) x, xs[i]? = some x → body (i : Int) = some (bif p x then Sum.inr (Sum.inr (i : Int)) else Sum.inl (IntKind.wrap IntKind.i64 ((i : Int) + 1)))) (fin : Q (zBE p xs)) :
  Wp (qV (zN (fun s : Int => bif decide (s < (xs.length : Int)) then body s else some (Sum.inr (Sum.inl ()))) (0 : Int)) (fun _ => some (-1 : Int))) Q := by
 refine zAQ hl (fun i => ∀ j y, j < i → xs[j]? = some y → p y = false) (fun j y hj => by omega) ?_ ?_
 ·intro i x hx hj
  refine qD (step i x hx) ?_
  cases hp : p x with
  | true =>
   simp only [cond_true]
   refine e2r (e2r ?_)
   rw [zUf hx hp hj] at fin
   exact fin
  | false =>
   simp only [cond_false]
   refine e2l ⟨rfl, ?_⟩
   intro j y hji hy
   rcases Nat.lt_or_ge j i with h | h
   ·exact hj j y h hy
   ·have : j = i := by omega
    subst this
    rw [hx] at hy
    cases hy
    exact hp
 ·intro hj
  refine zB ?_
  rw [zKG] at fin
  ·exact fin
  ·intro x hx
   obtain ⟨j, hjl, rfl⟩ := List.getElem_of_mem hx
   exact hj j _ hjl (by simp [hjl])
end Go.Ve

namespace Go.Ve
open Go
section
variable {α ρ : Type}
theorem zVw {xs : List α} {body : Int → Option (Int ⊕ (Unit ⊕ ρ))} {Q : Unit ⊕ ρ → Prop} (hl : xs.length < 4611686018427387904) (J : Nat → Prop) (h0 : J 0)
  (step : ∀ i x, xs[i]? = some x → J i → Wp (body (i : Int)) (j7 (fun s' => s' = IntKind.wrap IntKind.i64 ((i : Int) + 1) ∧ J (i + 1)) (fun o => (∀ u, o ≠ Sum.inl u) ∧ Q o))) (fin : J xs.length → Q (Sum.inl ())) :
  Wp (zN (fun s : Int => bif decide (s < (xs.length : Int)) then body s else some (Sum.inr (Sum.inl ()))) (0 : Int)) Q := by
 refine j2 (fun (s : Int) => ∃ i : Nat, s = (i : Int) ∧ i ≤ xs.length ∧ J i) (fun (s : Int) => ((xs.length : Int) - s).toNat) ⟨(0 : Nat), rfl, Nat.zero_le _, h0⟩ ?_
 rintro s ⟨i, hi, hle, hj⟩
 subst hi
 refine zI ?_ ?_
 ·intro hc
  have hlt : i < xs.length := by omega
  refine (step i xs[i] (by simp [hlt]) hj).mono ?_
  intro o ho
  cases o with
  | inl s' =>
   obtain ⟨rfl, h2⟩ := ho
   rw [zD (by omega) (by omega)]
   exact ⟨⟨i + 1, by omega, hlt, h2⟩, by omega⟩
  | inr o => exact ho.2
 ·intro hc
  have : i = xs.length := by omega
  subst this
  exact zB (e2r (fin hj))
theorem zXc {xs : List α} {P : α → Prop} {body : Int → Option (Int ⊕ (Unit ⊕ ρ))} {Q : Unit ⊕ ρ → Prop} (hl : xs.length < 4611686018427387904)
  (step : ∀ (i : Nat) x, xs[i]? = some x → Wp (body (i : Int)) (j7 (fun s' => s' = IntKind.wrap IntKind.i64 ((i : Int) + 1) ∧ P x) (fun o => (∀ u, o ≠ Sum.inl u) ∧ Q o))) (fin : (∀ x, x ∈ xs → P x) → Q (Sum.inl ())) :
  Wp (zN (fun s : Int => bif decide (s < (xs.length : Int)) then body s else some (Sum.inr (Sum.inl ()))) (0 : Int)) Q := by
 refine zVw hl (fun i => ∀ j y, j < i → xs[j]? = some y → P y) (fun j y hj => by omega) ?_ (fun h => fin ?_)
 ·intro i x hx hj
  refine (step i x hx).mono ?_
  intro o ho
  cases o with
  | inl s' =>
   refine ⟨ho.1, ?_⟩
   intro j y hj' hy
   rcases Nat.lt_or_ge j i with h' | h'
   ·exact hj j y h' hy
   ·have : j = i := by omega
    subst this
    rw [hx] at hy
    cases hy
    exact ho.2
  | inr o => exact ho
 ·intro x hx
  obtain ⟨j, hjl, rfl⟩ := List.getElem_of_mem hx
  exact h j _ hjl (by simp [hjl])
end
end Go.Ve

namespace Go.Ve
open Go
section
variable {α : Type} {lt : α → α → Prop}
structure Ord (lt : α → α → Prop) : Prop where
 asym : ∀ x y, lt x y → ¬ lt y x
 tr : ∀ x y z, ¬ lt y x → ¬ lt z y → ¬ lt z x
theorem zAD (ho : Ord lt) : ∀ {xs ys : List α}, xs.Pairwise lt → ys.Pairwise lt → (∀ z, z ∈ xs ↔ z ∈ ys) → xs = ys
 | [], [], _, _, _ => rfl
 | [], y :: ys, _, _, h => by have := (h y).2 (by simp); cases this
 | x :: xs, [], _, _, h => by have := (h x).1 (by simp); cases this
 | x :: xs, y :: ys, hx, hy, h => by
  rw [List.pairwise_cons] at hx hy
  have irr : ∀ z, ¬ lt z z := fun z hz => ho.asym z z hz hz
  have e : x = y := by
   rcases List.mem_cons.1 ((h x).1 (by simp)) with h1 | h1
   ·exact h1
   ·rcases List.mem_cons.1 ((h y).2 (by simp)) with h2 | h2
    ·exact h2.symm
    ·exact absurd (hx.1 y h2) (ho.asym _ _ (hy.1 x h1))
  subst e
  have : xs = ys := by
   refine zAD ho hx.2 hy.2 (fun z => ⟨fun hz => ?_, fun hz => ?_⟩)
   ·rcases List.mem_cons.1 ((h z).1 (List.mem_cons_of_mem _ hz)) with rfl | h1
    ·exact absurd (hx.1 z hz) (irr z)
    ·exact h1
   ·rcases List.mem_cons.1 ((h z).2 (List.mem_cons_of_mem _ hz)) with rfl | h1
    ·exact absurd (hy.1 z hz) (irr z)
    ·exact h1
  rw [this]
end
end Go.Ve

namespace Go.Ve
open Go
set_option maxRecDepth 1000000
set_option maxHeartbeats 4000000
theorem wD {α : Type} {m : Option α} {x : α} (h : Wp m (fun r => r = x)) : m = some x := by
 obtain ⟨r, h1, rfl⟩ := h; exact h1
theorem zEw {p q : Ty.El zF} (h : (p.1 == q.1 && (p.2.1 == q.2.1 && true)) = true) : p = q := by
 obtain ⟨a, b, ⟨⟩⟩ := p
 obtain ⟨c, d, ⟨⟩⟩ := q
 simp only [Bool.and_true, Bool.and_eq_true, beq_iff_eq] at h
 obtain ⟨rfl, rfl⟩ := h
 rfl
def zDV (a b c d : Int) : Prop := a < c ∨ (a = c ∧ b < d)
def plt (p q : Ty.El zF) : Prop := zDV p.1 p.2.1 q.1 q.2.1
theorem zGG : Ord plt where
 asym := fun x y h => by unfold plt zDV at *; omega
 tr := fun x y z h1 h2 => by unfold plt zDV at *; omega
theorem zT7 {a b c d : Int} (h : ¬ zDV c d a b) (hne : ¬ (a = c ∧ b = d)) : zDV a b c d := by
 unfold zDV at *
 omega
theorem zPY {p q : Ty.El zF} (h : ¬ plt q p) (hne : p ≠ q) : plt p q := by
 refine zT7 h (fun e => hne ?_)
 obtain ⟨a, b, ⟨⟩⟩ := p
 obtain ⟨c, d, ⟨⟩⟩ := q
 obtain ⟨rfl, rfl⟩ := e
 rfl
def zJW (a b c d : Int) : Int := if a < c then -1 else if c < a then 1 else if b < d then -1 else if d < b then 1 else 0
def zXQ (p q : Ty.El zF) : Int := zJW p.1 p.2.1 q.1 q.2.1
theorem zQx {a b c d : Int} : zJW a b c d < 0 ↔ zDV a b c d := by
 unfold zJW zDV
 split
 ·omega
 ·split
  ·omega
  ·split
   ·omega
   ·split <;> omega
theorem zJV {p q : Ty.El zF} : zXQ p q < 0 ↔ plt p q := zQx
theorem zMF (a b : Int) : wH (a, b, ()) = some (if a < b then -1 else if b < a then 1 else 0) := by
 refine wD ?_
 unfold wH xV
 simp only [Option.bind_some, bne_self_eq_false, cond_false]
 refine zI (fun h => zB ?_) (fun h => zI (fun h' => zB ?_) (fun h' => zB ?_))
 ·rw [if_pos h]
 ·rw [if_neg h, if_pos h']
 ·rw [if_neg h, if_neg h']
theorem zCC (a b : Int) : zZ (a, b, ()) = some (if a < b then -1 else if b < a then 1 else 0) := by
 refine wD ?_
 unfold zZ zBL
 simp only [Option.bind_some, bne_self_eq_false, cond_false]
 refine zI (fun h => zB ?_) (fun h => zI (fun h' => zB ?_) (fun h' => zB ?_))
 ·rw [if_pos h]
 ·rw [if_neg h, if_pos h']
 ·rw [if_neg h, if_neg h']
theorem zUk {a b c d : Int} : (if ((if a < c then (-1 : Int) else if c < a then 1 else 0) != 0) = true then (if a < c then (-1 : Int) else if c < a then 1 else 0) else (if b < d then (-1 : Int) else if d < b then 1 else 0)) = zJW a b c d := by
 unfold zJW
 by_cases h1 : a < c
 ·simp [h1]
 ·by_cases h2 : c < a
  ·simp [h1, h2]
  ·simp [h1, h2]
theorem zIU (p q : Ty.El zF) : zBm (p, q, ()) = some (zXQ p q) := by
 refine wD ?_
 unfold zBm
 dsimp only
 refine zC (qD (zMF _ _) (zG (fun h => zB ?_) (fun h => zC (qD (zCC _ _) (zB ?_)))))
 ·have := zUk (a := p.1) (b := p.2.1) (c := q.1) (d := q.2.1)
  rw [if_pos h] at this
  exact this
 ·have := zUk (a := p.1) (b := p.2.1) (c := q.1) (d := q.2.1)
  rw [if_neg (by rw [h]; simp)] at this
  exact this
theorem zYM {a b c d : Int} (h : zDV a b c d) : -1 = zJW a b c d := by
 unfold zJW; unfold zDV at h
 by_cases h1 : a < c
 ·rw [if_pos h1]
 ·rw [if_neg h1, if_neg (by omega), if_pos (by omega)]
theorem zYK {a b : Int} : 0 = zJW a b a b := by
 unfold zJW
 rw [if_neg (by omega), if_neg (by omega), if_neg (by omega), if_neg (by omega)]
theorem zYL {a b c d : Int} (h : ¬ zDV a b c d) (hne : ¬ (a = c ∧ b = d)) : 1 = zJW a b c d := by
 unfold zJW; unfold zDV at h
 rw [if_neg (by omega)]
 by_cases h1 : c < a
 ·rw [if_pos h1]
 ·rw [if_neg h1, if_neg (by omega), if_pos (by omega)]
theorem zAV (p q : Ty.El zF) : wV (p, q, ()) = some (zXQ p q) := by
 refine wD ?_
 unfold wV
 dsimp only
 refine zC ((show Wp _ (fun s : Bool => s = true ↔ plt p q) from ?_).mono (fun s hs => ?_))
 ·refine zI (fun h => zB ⟨fun _ => .inl h, fun _ => rfl⟩) (fun h => zG (fun h' => zB ?_) (fun h' => zB ?_))
  ·have h' : p.1 = q.1 := by simpa using h'
   rw [decide_eq_true_eq]
   constructor
   ·intro h2; exact .inr ⟨h', h2⟩
   ·intro h2
    rcases h2 with h2 | h2
    ·exact absurd h2 h
    ·exact h2.2
  ·have h' : ¬ p.1 = q.1 := by simpa using h'
   constructor
   ·intro h2; cases h2
   ·intro h2
    exfalso
    rcases h2 with h2 | h2
    ·exact h h2
    ·exact h' h2.1
 ·refine zG (fun h => zB (zYM (hs.1 h))) (fun h => zG (fun he => zB ?_) (fun he => zB (zYL ?_ ?_)))
  ·have := zEw he
   subst this
   exact zYK
  ·exact fun hp => by rw [hs.2 hp] at h; cases h
  ·intro e
   have h1 : (p.1 == q.1) = true := by simpa using e.1
   have h2 : (p.2.1 == q.2.1) = true := by simpa using e.2
   rw [h1, h2] at he
   cases he
def zCd (p : Ty.El zF) (v : Int) (p' : Ty.El zF) (v' : Int) : Prop := plt p p' ∨ (p = p' ∧ v < v')
theorem zRE {p q r : Ty.El zF} {u v w : Int} (h1 : zCd p u q v) (h2 : zCd q v r w) : zCd p u r w := by
 rcases h1 with h1 | ⟨rfl, h1⟩
 ·rcases h2 with h2 | ⟨rfl, h2⟩
  ·exact .inl (by unfold plt zDV at *; omega)
  ·exact .inl h1
 ·rcases h2 with h2 | ⟨rfl, h2⟩
  ·exact .inl h2
  ·exact .inr ⟨rfl, by omega⟩
theorem zWm {p q : Ty.El zF} {u v : Int} (h : ¬ zCd p u q v) (hne : ¬ (p = q ∧ u = v)) : zCd q v p u := by
 by_cases he : p = q
 ·subst he
  refine .inr ⟨rfl, ?_⟩
  have h1 : ¬ u < v := fun h' => h (.inr ⟨rfl, h'⟩)
  have h2 : ¬ u = v := fun h' => hne ⟨rfl, h'⟩
  omega
 ·exact .inl (zPY (fun h' => h (.inl h')) (fun h' => he h'.symm))
end Go.Ve

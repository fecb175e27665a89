/-
  Functions out of code: views, tables, static routes.
  Functions out of code: distance-vector and path-vector routing.
  Plain laws, part 1: what partial values come to.
  Plain laws, part 2: loops over lists.
  Plain laws, part 3: loops over lists within loops.
  Plain laws: sorting by insertion.
  Plain laws: prefixes in order; domains in order.
-/
import Derived.Test.YtcnlcmbchljpgaaGreatPt9
import Derived.Test.YtcnlcmbchljpgaaGreatPt10
set_option linter.unusedVariables false
namespace Go.Ve
open Go
set_option maxRecDepth 1000000
noncomputable def zGD:ElS [zF]→Option (RTy.El (.p .bool)):=fun x=>match x with|(a1,())=>Option.bind (bif decide ((↑(List.length a1.2.2.1):Int)>(12:Int)) then some true else bif decide ((↑(List.length a1.2.2.2.1):Int)>(12:Int)) then some true else bif decide ((↑(List.length a1.2.2.2.2.1):Int)>(12:Int)) then some true else bif decide ((↑(List.length a1.2.2.2.2.2.1):Int)>(12:Int)) then some true else bif decide ((↑(List.length a1.2.2.2.2.2.2.1):Int)>(12:Int)) then some true else bif decide ((↑(List.length a1.2.2.2.2.2.2.2.1):Int)>(20:Int)) then some true else bif decide ((↑(List.length a1.2.2.2.2.2.2.2.2.1.2.2.1):Int)>(8:Int)) then some true else bif decide ((↑(List.length a1.2.2.2.2.2.2.2.2.1.2.2.2.1):Int)>(8:Int)) then some true else bif decide ((↑(List.length a1.2.2.2.2.2.2.2.2.2.1.2.2.2.2.1):Int)>(8:Int)) then some true else bif decide ((↑(List.length a1.2.2.2.2.2.2.2.2.2.2.1.2.2.2.2.2.2.2.1):Int)>(8:Int)) then some true else bif decide ((↑(List.length a1.2.2.2.2.2.2.2.2.2.2.1.2.2.2.1):Int)>(12:Int)) then some true else bif decide ((↑(List.length a1.2.2.2.2.2.2.2.2.2.2.1.2.2.2.2.1):Int)>(12:Int)) then some true else bif decide ((↑(List.length a1.2.2.2.2.2.2.2.2.2.2.1.2.2.2.2.2.1):Int)>(12:Int)) then some true else some (decide ((↑(List.length a1.2.2.2.2.2.2.2.2.2.2.1.2.2.2.2.2.2.1):Int)>(12:Int)))) fun (s0:Bool)=>bif s0 then some false else qM (zL (fun (s5:Int)=>bif decide (s5< (↑(List.length a1.2.2.2.1):Int)) then Option.bind (idx a1.2.2.2.1 s5) fun (y6:Ty.El j1)=>bif decide ((↑(List.length y6.2.1):Int)>(20:Int)) then some (Sum.inr (Sum.inr false)) else some (Sum.inl (IntKind.wrap .i64 (s5+(1:Int)))) else some (Sum.inr (Sum.inl ()))) (0:Int)) fun (s7:Unit)=>qM (zL (fun (s12:Int)=>bif decide (s12< (↑(List.length a1.2.2.2.2.1):Int)) then Option.bind (idx a1.2.2.2.2.1 s12) fun (y13:Ty.El vO)=>bif decide ((↑(List.length y13.2.1):Int)>(12:Int)) then some (Sum.inr (Sum.inr false)) else some (Sum.inl (IntKind.wrap .i64 (s12+(1:Int)))) else some (Sum.inr (Sum.inl ()))) (0:Int)) fun (s14:Unit)=>qM (zL (fun (s19:Int)=>bif decide (s19< (↑(List.length a1.2.2.2.2.2.1):Int)) then Option.bind (idx a1.2.2.2.2.2.1 s19) fun (y20:Ty.El zMK)=>bif decide ((↑(List.length y20.2.1):Int)>(20:Int)) then some (Sum.inr (Sum.inr false)) else some (Sum.inl (IntKind.wrap .i64 (s19+(1:Int)))) else some (Sum.inr (Sum.inl ()))) (0:Int)) fun (s21:Unit)=>some true
noncomputable def zE6:ElS [zX]→Option (RTy.El (.p .bool)):=fun x=>match x with|(a1,())=>bif decide ((↑(List.length a1.1):Int)>(9:Int)) then some false else qM (zL (fun (s6:Int)=>bif decide (s6< (↑(List.length a1.1):Int)) then Option.bind (idx a1.1 s6) fun (y7:Ty.El zF)=>Option.bind (zGD (y7,())) fun (y8:Bool)=>bif !y8 then some (Sum.inr (Sum.inr false)) else some (Sum.inl (IntKind.wrap .i64 (s6+(1:Int)))) else some (Sum.inr (Sum.inl ()))) (0:Int)) fun (s9:Unit)=>some true
noncomputable def vU:ElS [zG,zG]→Option (RTy.El (.p tI)):=fun x=>match x with|(a1,a2,())=>Option.bind (bif decide (a1.1<a2.1) then some true else bif a1.1==a2.1 then some (decide (a1.2.1<a2.2.1)) else some false) fun (s0:Bool)=>bif s0 then some (-1:Int) else bif a1.1==a2.1&&(a1.2.1==a2.2.1&&true) then some (0:Int) else some (1:Int)
noncomputable def zC3:HSt zO→ElS [zX]→Option (HSt zO×RTy.El (.tu [zHK,tI])):=fun st0 x=>match x with|(a1,())=>Option.bind (uL (a1,())) fun (y0:Int)=>bif y0 !=(0:Int) then some (st0,([],[],()),y0,()) else Option.bind (zL (fun (s1:Int×(List (Ty.El zR)×List Int)×HSt zO)=>bif decide (s1.1< (↑(List.length a1.1):Int)) then Option.bind (zL (fun (s2:Int×(List (Ty.El zR)×List Int)×HSt zO)=>Option.bind (idx a1.1 s1.1) fun (y3:Ty.El zF)=>bif decide (s2.1< (↑(List.length y3.2.2.1):Int)) then Option.bind (Option.bind (idx a1.1 s1.1) fun (y4:Ty.El zF)=>Option.bind (idx y4.2.2.1 s2.1) fun (y5:Ty.El qA)=>Option.bind (bif y5.2.2.1==(0:Int) then some (true,s2.2) else some (y5.2.2.2.2.1,s2.2)) fun (s6:Bool×(List (Ty.El zR)×List Int)×HSt zO)=>bif s6.1 then some s6.2 else Option.bind (wU (y5.2.1,y5.2.2.1,())) fun (y7:Int×Int×Unit)=>Option.bind (zL (fun (s8:Int×(List (Ty.El zR)×List Int)×HSt zO)=>Option.bind (bif decide (s8.1< (↑(List.length s8.2.1.1):Int)) then Option.bind (idx s8.2.1.1 s8.1) fun (y16:Ty.El zR)=>Option.bind (atN s8.2.1.1 (Int.toNat s8.1)) fun (y17:Ty.El zR)=>Option.bind (vU (y17.1,y7,())) fun (y18:Int)=>bif decide (y18< (0:Int)) then some (true,s8.2) else Option.bind (idx s8.2.1.1 s8.1) fun (y19:Ty.El zR)=>Option.bind (atN s8.2.1.1 (Int.toNat s8.1)) fun (y20:Ty.El zR)=>bif y20.1.1==y7.1&&(y20.1.2.1==y7.2.1&&true) then Option.bind (idx s8.2.1.1 s8.1) fun (y21:Ty.El zR)=>Option.bind (atN s8.2.1.1 (Int.toNat s8.1)) fun (y22:Ty.El zR)=>some (decide (y22.2.1<y5.2.2.2.1),s8.2) else some (false,s8.2) else some (false,s8.2)) fun (s23:Bool×(List (Ty.El zR)×List Int)×HSt zO)=>bif s23.1 then some (Sum.inl (IntKind.wrap .i64 (s8.1+(1:Int)),s23.2)) else some (Sum.inr (s8.1,s23.2))) ((0:Int),s6.2)) fun (s24:Int×(List (Ty.El zR)×List Int)×HSt zO)=>Option.bind (Option.bind (bif s24.1==(↑(List.length s24.2.1.1):Int) then some (true,s24.2) else Option.bind (idx s24.2.1.1 s24.1) fun (y29:Ty.El zR)=>Option.bind (atN s24.2.1.1 (Int.toNat s24.1)) fun (y30:Ty.El zR)=>bif !(y30.1.1==y7.1&&(y30.1.2.1==y7.2.1&&true)) then some (true,s24.2) else Option.bind (idx s24.2.1.1 s24.1) fun (y31:Ty.El zR)=>Option.bind (atN s24.2.1.1 (Int.toNat s24.1)) fun (y32:Ty.El zR)=>some (y32.2.1 !=y5.2.2.2.1,s24.2)) fun (s33:Bool×(List (Ty.El zR)×List Int)×HSt zO)=>bif s33.1 then bif decide ((0:Int)≤s24.1)&&decide (s24.1≤(↑(List.length s33.2.1.1):Int))&&decide ((↑(List.length s33.2.1.1):Int)≤(↑(List.length s33.2.1.1):Int)) then Option.bind (app (48:Nat) [] (List.drop (Int.toNat s24.1) (List.take (Int.toNat (↑(List.length s33.2.1.1):Int)) s33.2.1.1))) fun (y34:List (Ty.El zR))=>bif decide ((0:Int)≤(0:Int))&&decide ((0:Int)≤s24.1)&&decide (s24.1≤(↑(List.length s33.2.1.1):Int)) then Option.bind (app (48:Nat) (List.take (Int.toNat s24.1) s33.2.1.1) [(y7,y5.2.2.2.1,none,())]) fun (y35:List (Ty.El zR))=>Option.bind (app (48:Nat) y35 y34) fun (y36:List (Ty.El zR))=>some ((y36,s33.2.1.2),s33.2.2) else none else none else some s33.2) fun (s37:(List (Ty.El zR)×List Int)×HSt zO)=>Option.bind (idx s37.1.1 s24.1) fun (y38:Ty.El zR)=>Option.bind (atN s37.1.1 (Int.toNat s24.1)) fun (y39:Ty.El zR)=>Option.bind (zRH (16:Nat) s37.2 y39.2.2.1 [(s1.1,s2.1,())]) fun (y40:List (Option (List (Ty.El zO)))×Option (Nat×Nat))=>Option.bind (idx s37.1.1 s24.1) fun (y41:Ty.El zR)=>Option.bind (atN s37.1.1 (Int.toNat s24.1)) fun (y42:Ty.El zR)=>some ((List.set s37.1.1 (Int.toNat s24.1) (y42.1,y42.2.1,y40.2,()),s37.1.2),y40.1)) fun (s43:(List (Ty.El zR)×List Int)×HSt zO)=>some (Sum.inl (IntKind.wrap .i64 (s2.1+(1:Int)),s43)) else some (Sum.inr s2.2)) ((0:Int),s1.2)) fun (s44:(List (Ty.El zR)×List Int)×HSt zO)=>some (Sum.inl (IntKind.wrap .i64 (s1.1+(1:Int)),s44)) else some (Sum.inr s1.2)) ((0:Int),([],[]),st0)) fun (s45:(List (Ty.El zR)×List Int)×HSt zO)=>Option.bind (zL (fun (s67:Int×(List (Ty.El zR)×List Int)×HSt zO)=>bif decide (s67.1< (↑(List.length s67.2.1.1):Int)) then Option.bind (Option.bind (idx s67.2.1.1 s67.1) fun (y68:Ty.El zR)=>Option.bind (atN s67.2.1.1 (Int.toNat s67.1)) fun (y69:Ty.El zR)=>bif decide ((↑(zXz y69.2.2.1):Int)>(1:Int)) then Option.bind (app (8:Nat) s67.2.1.2 [s67.1]) fun (y70:List Int)=>some ((s67.2.1.1,y70),s67.2.2) else some s67.2) fun (s71:(List (Ty.El zR)×List Int)×HSt zO)=>some (Sum.inl (IntKind.wrap .i64 (s67.1+(1:Int)),s71)) else some (Sum.inr s67.2)) ((0:Int),s45)) fun (s72:(List (Ty.El zR)×List Int)×HSt zO)=>bif decide ((↑(List.length s72.1.2):Int)>(12:Int)) then some (s72.2,([],[],()),(7:Int),()) else some (s72.2,(s72.1.1,s72.1.2,()),(0:Int),())
noncomputable def zE1:ElS [zX]→Option (RTy.El (.tu [zLc,tI])):=zPi (.tu [zHK,tI]) zC3
noncomputable def zBk:ElS [(.sl tI),tI]→Option (RTy.El (.p .bool)):=fun x=>match x with|(a1,a2,())=>bif decide ((↑(List.length a1):Int)>(2:Int)) then some false else qM (zL (fun (s20:Int)=>bif decide (s20< (↑(List.length a1):Int)) then Option.bind (Option.bind (idx a1 s20) fun (y21:Int)=>bif decide (y21< (0:Int)) then some true else Option.bind (idx a1 s20) fun (y22:Int)=>bif decide (y22≥a2) then some true else bif decide (s20>(0:Int)) then Option.bind (idx a1 s20) fun (y23:Int)=>Option.bind (idx a1 (IntKind.wrap .i64 (s20- (1:Int)))) fun (y24:Int)=>some (decide (y23≤y24)) else some false) fun (s25:Bool)=>bif s25 then some (Sum.inr (Sum.inr false)) else some (Sum.inl (IntKind.wrap .i64 (s20+(1:Int)))) else some (Sum.inr (Sum.inl ()))) (0:Int)) fun (s26:Unit)=>some true
noncomputable def zGn:ElS [zX,(.sl tI)]→Option (RTy.El (.tu [zN,tI])):=fun x=>match x with|(a1,a2,())=>Option.bind (zE1 (a1,())) fun (y0:Ty.El zLc×Int×Unit)=>bif y0.2.1 !=(0:Int) then some ((([],()),([],[],()),[],()),y0.2.1,()) else Option.bind (zBk (a2,(↑(List.length y0.1.2.1):Int),())) fun (y1:Bool)=>bif !y1 then some ((([],()),([],[],()),[],()),(1:Int),()) else Option.bind (app (8:Nat) [] a2) fun (y3:List Int)=>some ((a1,y0.1,y3,()),(0:Int),())
noncomputable def zGE:ElS [zX,(.sl tI)]→Option (RTy.El (.tu [zN, .bool])):=fun x=>match x with|(a1,a2,())=>Option.bind (Option.bind (zE6 (a1,())) fun (y1:Bool)=>bif !y1 then some true else some (decide ((↑(List.length a2):Int)>(2:Int)))) fun (s2:Bool)=>bif s2 then some ((([],()),([],[],()),[],()),false,()) else Option.bind (zGn (a1,a2,())) fun (y3:Ty.El zN×Int×Unit)=>some (y3.1,y3.2.1==(0:Int),())
noncomputable def qV:ElS [tI,tI,tI]→Option (RTy.El (.p .bool)):=fun x=>match x with|(a1,a2,a3,())=>Option.bind (bif decide (a2≤a1) then some (decide (a1≤a3)) else some false) fun (s0:Bool)=>some s0
noncomputable def vZ:ElS [zB, .bool, .bool, .bool]→Option (RTy.El (.p .bool)):=fun x=>match x with|(a1,a2,a3,a4,())=>Option.bind (bif a2 then bif a3 then bif a4 then some true else some (a1.2.2.2.2.2.2.2.2.2.2.1==(0:Int)) else bif a1.2.2.2.2.2.2.2.1==(0:Int) then bif (↑(List.length a1.2.2.2.2.2.2.2.2.1):Int)==(0:Int) then bif a1.2.2.2.2.2.2.2.2.2.1==(0:Int) then bif a4 then some true else some (a1.2.2.2.2.2.2.2.2.2.2.1==(0:Int)) else some false else some false else some false else bif a1.2.2.2.2.2.1==(0:Int) then bif a3 then bif a4 then some true else some (a1.2.2.2.2.2.2.2.2.2.2.1==(0:Int)) else bif a1.2.2.2.2.2.2.2.1==(0:Int) then bif (↑(List.length a1.2.2.2.2.2.2.2.2.1):Int)==(0:Int) then bif a1.2.2.2.2.2.2.2.2.2.1==(0:Int) then bif a4 then some true else some (a1.2.2.2.2.2.2.2.2.2.2.1==(0:Int)) else some false else some false else some false else some false) fun (s0:Bool)=>some s0
noncomputable def uO:ElS [qB,qB]→Option (RTy.El (.p .bool)):=fun x=>match x with|(a1,a2,())=>Option.bind (bif decide (a1.1<a2.1) then some true else bif a1.1==a2.1 then some (decide (a1.2.1<a2.2.1)) else some false) fun (s0:Bool)=>some s0
noncomputable def vL:ElS [(.sl qB), .bool]→Option (RTy.El (.p .bool)):=fun x=>match x with|(a1,a2,())=>qM (zL (fun (s28:Int)=>bif decide (s28< (↑(List.length a1):Int)) then Option.bind (Option.bind (idx a1 s28) fun (y29:Ty.El qB)=>bif decide (y29.1< (0:Int)) then some true else bif decide (s28>(0:Int)) then Option.bind (idx a1 (IntKind.wrap .i64 (s28- (1:Int)))) fun (y30:Ty.El qB)=>Option.bind (idx a1 s28) fun (y31:Ty.El qB)=>Option.bind (uO (y30,y31,())) fun (y32:Bool)=>bif !y32 then some true else Option.bind (idx a1 s28) fun (y33:Ty.El qB)=>some !(y33.2.1==(0:Int))==a2 else Option.bind (idx a1 s28) fun (y34:Ty.El qB)=>some !(y34.2.1==(0:Int))==a2) fun (s35:Bool)=>bif s35 then some (Sum.inr (Sum.inr false)) else some (Sum.inl (IntKind.wrap .i64 (s28+(1:Int)))) else some (Sum.inr (Sum.inl ()))) (0:Int)) fun (s36:Unit)=>some true
noncomputable def zAc:ElS [zB]→Option (RTy.El (.p .bool)):=fun x=>match x with|(a1,())=>Option.bind (bif a1.2.2.1 !=(0:Int) then some true else bif a1.2.2.2.2.1 !=(0:Int) then some true else Option.bind (qV (a1.2.2.2.1,(1:Int),(255:Int),())) fun (y2:Bool)=>bif !y2 then some true else Option.bind (vZ (a1,false,false,true,())) fun (y3:Bool)=>some !y3) fun (s4:Bool)=>bif s4 then some false else bif a1.2.2.2.2.2.2.2.2.2.2.1 !=(0:Int) then Option.bind (bif (↑(List.length a1.2.2.2.2.2.2.2.2.2.2.2.1):Int)==(0:Int) then some !a1.2.2.2.2.2.2.2.2.2.2.2.2.1 else some false) fun (s5:Bool)=>some s5 else bif a1.2.2.2.2.2.2.2.2.2.2.2.2.1 then some ((↑(List.length a1.2.2.2.2.2.2.2.2.2.2.2.1):Int)==(0:Int)) else Option.bind (bif (↑(List.length a1.2.2.2.2.2.2.2.2.2.2.2.1):Int)==(1:Int) then Option.bind (vL (a1.2.2.2.2.2.2.2.2.2.2.2.1,true,())) fun (y7:Bool)=>some y7 else some false) fun (s8:Bool)=>some s8
noncomputable def uA:ElS [zB]→Option (RTy.El (.p .bool)):=fun x=>match x with|(a1,())=>Option.bind (Option.bind (qV (a1.2.2.1,(1:Int),(4:Int),())) fun (y4:Bool)=>bif !y4 then some true else Option.bind (qV (a1.2.2.2.1,(1:Int),(255:Int),())) fun (y5:Bool)=>bif !y5 then some true else Option.bind (qV (a1.2.2.2.2.1,(0:Int),(1073741824:Int),())) fun (y6:Bool)=>bif !y6 then some true else Option.bind (vZ (a1,true,false,false,())) fun (y7:Bool)=>some !y7) fun (s8:Bool)=>bif s8 then some false else Option.bind (Option.bind (qV (a1.2.2.2.2.2.1,(0:Int),(1073741824:Int),())) fun (y10:Bool)=>bif !y10 then some true else bif a1.2.2.1 !=(4:Int) then some (a1.2.2.2.2.2.1 !=(0:Int)) else some false) fun (s11:Bool)=>bif s11 then some false else bif a1.2.2.2.2.2.2.2.2.2.2.2.2.1 then Option.bind (bif a1.2.2.1==(1:Int) then bif a1.2.2.2.2.1==(0:Int) then bif a1.2.2.2.2.2.2.1==(0:Int) then some ((↑(List.length a1.2.2.2.2.2.2.2.2.2.2.2.1):Int)==(0:Int)) else some false else some false else some false) fun (s12:Bool)=>some s12 else Option.bind (bif decide ((↑(List.length a1.2.2.2.2.2.2.2.2.2.2.2.1):Int)>(0:Int)) then Option.bind (vL (a1.2.2.2.2.2.2.2.2.2.2.2.1,false,())) fun (y14:Bool)=>some y14 else some false) fun (s15:Bool)=>some s15
noncomputable def u6:ElS [zB]→Option (RTy.El (.p .bool)):=fun x=>match x with|(a1,())=>Option.bind (Option.bind (qV (a1.2.2.2.1,(1:Int),(255:Int),())) fun (y3:Bool)=>bif !y3 then some true else Option.bind (qV (a1.2.2.2.2.1,(1:Int),(15:Int),())) fun (y4:Bool)=>bif !y4 then some true else Option.bind (vZ (a1,false,false,false,())) fun (y5:Bool)=>bif !y5 then some true else some a1.2.2.2.2.2.2.2.2.2.2.2.2.1) fun (s6:Bool)=>bif s6 then some false else bif a1.2.2.1==(1:Int) then Option.bind (bif a1.2.2.2.2.1==(1:Int) then bif a1.2.2.2.2.2.2.1==(0:Int) then bif (↑(List.length a1.2.2.2.2.2.2.2.2.2.2.2.1):Int)==(1:Int) then Option.bind (vL (a1.2.2.2.2.2.2.2.2.2.2.2.1,true,())) fun (y8:Bool)=>some y8 else some false else some false else some false) fun (s9:Bool)=>some s9 else bif a1.2.2.1==(2:Int) then some ((↑(List.length a1.2.2.2.2.2.2.2.2.2.2.2.1):Int)==(0:Int)) else bif a1.2.2.1==(3:Int) then Option.bind (bif decide ((↑(List.length a1.2.2.2.2.2.2.2.2.2.2.2.1):Int)>(0:Int)) then Option.bind (vL (a1.2.2.2.2.2.2.2.2.2.2.2.1,false,())) fun (y11:Bool)=>some y11 else some false) fun (s12:Bool)=>some s12 else some false
noncomputable def xT:ElS [zB]→Option (RTy.El (.p .bool)):=fun x=>match x with|(a1,())=>Option.bind (Option.bind (qV (a1.2.2.2.1,(1:Int),(255:Int),())) fun (y4:Bool)=>bif !y4 then some true else Option.bind (qV (a1.2.2.2.2.1,(0:Int),(16777215:Int),())) fun (y5:Bool)=>bif !y5 then some true else Option.bind (qV (a1.2.2.2.2.2.2.2.1,(0:Int),(1000000:Int),())) fun (y6:Bool)=>bif !y6 then some true else Option.bind (vZ (a1,false,true,false,())) fun (y7:Bool)=>some !y7) fun (s8:Bool)=>bif s8 then some false else Option.bind (bif a1.2.2.1==(1:Int) then some (a1.2.2.1==(1:Int)) else some (a1.2.2.1==(2:Int))) fun (s9:Bool)=>bif s9 then Option.bind (bif (↑(List.length a1.2.2.2.2.2.2.2.2.1):Int)==(0:Int) then bif a1.2.2.2.2.2.2.2.2.2.1==(0:Int) then bif (↑(List.length a1.2.2.2.2.2.2.2.2.2.2.2.1):Int)==(0:Int) then some (a1.2.2.2.2.2.2.2.2.2.2.2.2.1==(a1.2.2.1==(2:Int))) else some false else some false else some false) fun (s10:Bool)=>some s10 else Option.bind (bif a1.2.2.1==(3:Int) then some (a1.2.2.1==(3:Int)) else some (a1.2.2.1==(4:Int))) fun (s11:Bool)=>bif s11 then Option.bind (bif a1.2.2.1==(4:Int) then bif a1.2.2.2.2.2.2.2.2.2.1 !=(0:Int) then bif (↑(List.length a1.2.2.2.2.2.2.2.2.2.2.2.1):Int)==(1:Int) then Option.bind (vL (a1.2.2.2.2.2.2.2.2.2.2.2.1,false,())) fun (y20:Bool)=>bif y20 then Option.bind (idx a1.2.2.2.2.2.2.2.2.2.2.2.1 (0:Int)) fun (y21:Ty.El qB)=>bif y21.2.1==a1.2.2.2.2.2.2.2.2.2.1 then some !a1.2.2.2.2.2.2.2.2.2.2.2.2.1 else some false else some false else some false else some false else bif decide ((↑(List.length a1.2.2.2.2.2.2.2.2.1):Int)>(0:Int)) then bif a1.2.2.2.2.2.2.2.2.2.1 !=(0:Int) then bif (↑(List.length a1.2.2.2.2.2.2.2.2.2.2.2.1):Int)==(1:Int) then Option.bind (vL (a1.2.2.2.2.2.2.2.2.2.2.2.1,false,())) fun (y22:Bool)=>bif y22 then Option.bind (idx a1.2.2.2.2.2.2.2.2.2.2.2.1 (0:Int)) fun (y23:Ty.El qB)=>bif y23.2.1==a1.2.2.2.2.2.2.2.2.2.1 then some !a1.2.2.2.2.2.2.2.2.2.2.2.2.1 else some false else some false else some false else some false else some false) fun (s24:Bool)=>some s24 else some false
noncomputable def v2:ElS [zB]→Option (RTy.El (.p .bool)):=fun x=>match x with|(a1,())=>Option.bind (Option.bind (w8 (a1.1,())) fun (y2:Bool)=>bif !y2 then some true else Option.bind (qV (a1.2.2.2.2.2.2.1,(0:Int),(65535:Int),())) fun (y3:Bool)=>bif !y3 then some true else some (decide ((↑(List.length a1.2.2.2.2.2.2.2.2.1):Int)>(64:Int)))) fun (s4:Bool)=>bif s4 then some false else qM (zL (fun (s11:Int)=>bif decide (s11< (↑(List.length a1.2.2.2.2.2.2.2.2.1):Int)) then Option.bind (idx a1.2.2.2.2.2.2.2.2.1 s11) fun (y12:Int)=>Option.bind (qV (y12,(1:Int),(65535:Int),())) fun (y13:Bool)=>bif !y13 then some (Sum.inr (Sum.inr false)) else some (Sum.inl (IntKind.wrap .i64 (s11+(1:Int)))) else some (Sum.inr (Sum.inl ()))) (0:Int)) fun (s14:Unit)=>bif a1.2.1==(1:Int) then Option.bind (bif a1.2.2.1==(0:Int) then bif a1.2.2.2.1==(0:Int) then bif a1.2.2.2.2.1==(0:Int) then bif a1.2.2.2.2.2.2.1==(0:Int) then Option.bind (vZ (a1,false,false,false,())) fun (y17:Bool)=>bif y17 then bif !a1.2.2.2.2.2.2.2.2.2.2.2.2.1 then bif (↑(List.length a1.2.2.2.2.2.2.2.2.2.2.2.1):Int)==(1:Int) then Option.bind (vL (a1.2.2.2.2.2.2.2.2.2.2.2.1,true,())) fun (y18:Bool)=>some y18 else some false else some false else some false else some false else some false else some false else some false) fun (s19:Bool)=>some s19 else bif a1.2.1==(2:Int) then Option.bind (zAc (a1,())) fun (y20:Bool)=>some y20 else bif a1.2.1==(3:Int) then Option.bind (uA (a1,())) fun (y21:Bool)=>some y21 else bif a1.2.1==(4:Int) then Option.bind (u6 (a1,())) fun (y22:Bool)=>some y22 else bif a1.2.1==(5:Int) then Option.bind (xT (a1,())) fun (y23:Bool)=>some y23 else some false
noncomputable def zAk:ElS [(.sl zB),tI]→Option (RTy.El (.p .bool)):=fun x=>match x with|(a1,a2,())=>qM (zL (fun (s40:Int)=>bif decide (s40< (↑(List.length a1):Int)) then Option.bind (Option.bind (idx a1 s40) fun (y41:Ty.El zB)=>Option.bind (v2 (y41,())) fun (y42:Bool)=>bif !y42 then some true else bif a2 !=(0:Int) then Option.bind (idx a1 s40) fun (y43:Ty.El zB)=>bif y43.2.1 !=a2 then some true else bif decide (s40>(0:Int)) then Option.bind (idx a1 (IntKind.wrap .i64 (s40- (1:Int)))) fun (y44:Ty.El zB)=>Option.bind (idx a1 s40) fun (y45:Ty.El zB)=>Option.bind (vU (y44.1,y45.1,())) fun (y46:Int)=>some (decide (y46≥(0:Int))) else some false else bif decide (s40>(0:Int)) then Option.bind (idx a1 (IntKind.wrap .i64 (s40- (1:Int)))) fun (y47:Ty.El zB)=>Option.bind (idx a1 s40) fun (y48:Ty.El zB)=>Option.bind (vU (y47.1,y48.1,())) fun (y49:Int)=>some (decide (y49≥(0:Int))) else some false) fun (s50:Bool)=>bif s50 then some (Sum.inr (Sum.inr false)) else some (Sum.inl (IntKind.wrap .i64 (s40+(1:Int)))) else some (Sum.inr (Sum.inl ()))) (0:Int)) fun (s51:Unit)=>some true
noncomputable def zCX:ElS [tI]→Option (RTy.El (.p tI)):=fun x=>match x with|(a1,())=>some (if (if (32:Int)<a1 then (32:Int) else a1)>(0:Int) then if (32:Int)<a1 then (32:Int) else a1 else (0:Int))
noncomputable def zD8:ElS [tI]→Option (RTy.El (.p tU)):=fun x=>match x with|(a1,())=>Option.bind (zCX (a1,())) fun (y0:Int)=>bif decide ((0:Int)≤IntKind.wrap .i64 ((32:Int) -y0)) then some (IntKind.wrap .u32 ((4294967295:Int)*(2:Int)^min (Int.toNat (IntKind.wrap .i64 ((32:Int) -y0))) (IntKind.bits IntKind.u32))) else none
noncomputable def wR:ElS [zG,tU]→Option (RTy.El (.p .bool)):=fun x=>match x with|(a1,a2,())=>Option.bind (zD8 (a1.2.1,())) fun (y1:Int)=>some (IntKind.wrap .u32 (↑(BitVec.toNat (BitVec.ofInt (IntKind.bits IntKind.u32) a2&&&BitVec.ofInt (IntKind.bits IntKind.u32) y1)):Int)==a1.1)
noncomputable def zBh:ElS [(.sl zB),zG,tU]→Option (RTy.El (.p tI)):=fun x=>match x with|(a1,a2,a3,())=>Option.bind (zL (fun (s36:Int×Int)=>bif decide (s36.1< (↑(List.length a1):Int)) then Option.bind (Option.bind (idx a1 s36.1) fun (y37:Ty.El zB)=>Option.bind (bif y37.1.1==a2.1&&(y37.1.2.1==a2.2.1&&true) then some true else Option.bind (wR (y37.1,a3,())) fun (y38:Bool)=>some !y38) fun (s39:Bool)=>bif s39 then some s36.2 else Option.bind (bif decide (s36.2< (0:Int)) then some true else Option.bind (idx a1 s36.2) fun (y40:Ty.El zB)=>some (decide (y37.1.2.1>y40.1.2.1))) fun (s41:Bool)=>bif s41 then some s36.1 else some s36.2) fun (s42:Int)=>some (Sum.inl (IntKind.wrap .i64 (s36.1+(1:Int)),s42)) else some (Sum.inr s36.2)) ((0:Int),(-1:Int))) fun (s43:Int)=>some s43
noncomputable def zBs:ElA [.d qA, .pp .str]→Option (RTy.El (.p .bool)):=fun x=>match x with|(a1,a2,())=>some (a1.1==a2)
noncomputable def w4:ElA [.d (.sl qA), .clo 63 [(true, .str)]]→Option (RTy.El (.p tI)):=fun x=>match x with|(a1,(a2,()),())=>qM (zL (fun (s6:Int)=>bif decide (s6< (↑(List.length a1):Int)) then Option.bind (idx a1 s6) fun (y7:Ty.El qA)=>Option.bind (zBs (y7,a2,())) fun (y8:Bool)=>bif y8 then some (Sum.inr (Sum.inr s6)) else some (Sum.inl (IntKind.wrap .i64 (s6+(1:Int)))) else some (Sum.inr (Sum.inl ()))) (0:Int)) fun (s9:Unit)=>some (-1:Int)
noncomputable def zBl:ElS [zF, .str]→Option (RTy.El (.p tI)):=fun x=>match x with|(a1,a2,())=>Option.bind (w4 (a1.2.2.1,(a2,()),())) fun (y0:Int)=>some y0
noncomputable def zAz:ElS [(.sl zO),zO]→Option (RTy.El (.p tI)):=fun x=>match x with|(a1,a2,())=>qM (zL (fun (s5:Int)=>bif decide (s5< (↑(List.length a1):Int)) then Option.bind (idx a1 s5) fun (y6:Ty.El zO)=>bif a2.1==y6.1&&(a2.2.1==y6.2.1&&true) then some (Sum.inr (Sum.inr s5)) else some (Sum.inl (IntKind.wrap .i64 (s5+(1:Int)))) else some (Sum.inr (Sum.inl ()))) (0:Int)) fun (s7:Unit)=>some (-1:Int)
noncomputable def u5:ElS [(.sl zO),zO]→Option (RTy.El (.p .bool)):=fun x=>match x with|(a1,a2,())=>Option.bind (zAz (a1,a2,())) fun (y0:Int)=>some (decide (y0≥(0:Int)))
noncomputable def zBw:ElS [zN,tI,tI]→Option (RTy.El (.p tI)):=fun x=>match x with|(a1,a2,a3,())=>qM (zL (fun (s9:Int)=>bif decide (s9< (↑(List.length a1.2.1.1):Int)) then Option.bind (idx a1.2.1.1 s9) fun (y10:Ty.El uZ)=>Option.bind (u5 (y10.2.2.1,(a2,a3,()),())) fun (y11:Bool)=>bif y11 then some (Sum.inr (Sum.inr s9)) else some (Sum.inl (IntKind.wrap .i64 (s9+(1:Int)))) else some (Sum.inr (Sum.inl ()))) (0:Int)) fun (s12:Unit)=>some (-1:Int)
noncomputable def yK:ElS [(.sl tI),tI]→Option (RTy.El (.p tI)):=fun x=>match x with|(a1,a2,())=>qM (zL (fun (s4:Int)=>bif decide (s4< (↑(List.length a1):Int)) then Option.bind (idx a1 s4) fun (y5:Int)=>bif a2==y5 then some (Sum.inr (Sum.inr s4)) else some (Sum.inl (IntKind.wrap .i64 (s4+(1:Int)))) else some (Sum.inr (Sum.inl ()))) (0:Int)) fun (s6:Unit)=>some (-1:Int)
noncomputable def zIG:ElS [zN,tI,tI]→Option (RTy.El (.p tI)):=fun x=>match x with|(a1,a2,a3,())=>Option.bind (zBw (a1,a2,a3,())) fun (y0:Int)=>bif decide (y0< (0:Int)) then some (-1:Int) else Option.bind (yK (a1.2.1.2.1,y0,())) fun (y1:Int)=>some y1
noncomputable def vP:ElS [(.sl tI),tI]→Option (RTy.El (.p .bool)):=fun x=>match x with|(a1,a2,())=>Option.bind (yK (a1,a2,())) fun (y0:Int)=>some (decide (y0≥(0:Int)))
noncomputable def zIF:ElS [zN,tI,tI]→Option (RTy.El (.p .bool)):=fun x=>match x with|(a1,a2,a3,())=>Option.bind (zBw (a1,a2,a3,())) fun (y0:Int)=>bif decide (y0< (0:Int)) then some false else Option.bind (zIG (a1,a2,a3,())) fun (y1:Int)=>Option.bind (bif decide (y1< (0:Int)) then some true else Option.bind (vP (a1.2.2.1,y1,())) fun (y3:Bool)=>some !y3) fun (s4:Bool)=>some s4
noncomputable def zC0:ElS [zN,(.sl zB),tI]→Option (RTy.El (.p (.sl zB))):=fun x=>match x with|(a1,a2,a3,())=>Option.bind (bif decide (a3< (0:Int)) then some true else some (decide (a3≥(↑(List.length a1.1.1):Int)))) fun (s0:Bool)=>bif s0 then some [] else Option.bind (idx a1.1.1 a3) fun (y1:Ty.El zF)=>Option.bind (zL (fun (s60:Int×List (Ty.El zB))=>bif decide (s60.1< (↑(List.length y1.2.2.2.2.2.2.2.1):Int)) then Option.bind (Option.bind (idx y1.2.2.2.2.2.2.2.1 s60.1) fun (y61:Ty.El zES)=>qM (bif y61.2.1 !=(0:Int) then Option.bind (zBh (a2,y61.1,y61.2.1,())) fun (y62:Int)=>Option.bind (bif decide (y62< (0:Int)) then some (true,s60.2) else Option.bind (idx a2 y62) fun (y63:Ty.El zB)=>some (y63.2.2.2.2.2.2.2.2.2.2.2.2.1,s60.2)) fun (s64:Bool×List (Ty.El zB))=>bif s64.1 then some (Sum.inr s64.2) else some (Sum.inl (s64.2,y61.1,(2:Int),(0:Int),y61.2.2.2.2.1,(0:Int),(0:Int),y61.2.2.2.2.2.1,(0:Int),[],(0:Int),y61.2.1,[],false,())) else bif y61.2.2.1 != { data:= #[] } then Option.bind (zBl (y1,y61.2.2.1,())) fun (y65:Int)=>Option.bind (zIF (a1,a3,y65,())) fun (y66:Bool)=>bif !y66 then some (Sum.inr s60.2) else some (Sum.inl (s60.2,y61.1,(2:Int),(0:Int),y61.2.2.2.2.1,(0:Int),(0:Int),y61.2.2.2.2.2.1,(0:Int),[],(0:Int),(0:Int),[(y65,(0:Int),())],false,())) else bif y61.2.2.2.1 then some (Sum.inl (s60.2,y61.1,(2:Int),(0:Int),y61.2.2.2.2.1,(0:Int),(0:Int),y61.2.2.2.2.2.1,(0:Int),[],(0:Int),(0:Int),[],true,())) else some (Sum.inr s60.2)) fun (s67:List (Ty.El zB)×Ty.El zB)=>Option.bind (app (136:Nat) s67.1 [s67.2]) fun (y68:List (Ty.El zB))=>some y68) fun (s69:List (Ty.El zB))=>some (Sum.inl (IntKind.wrap .i64 (s60.1+(1:Int)),s69)) else some (Sum.inr s60.2)) ((0:Int),[])) fun (s70:List (Ty.El zB))=>some s70
noncomputable def zGm:ElS [zB,zB]→Option (RTy.El (.p .bool)):=fun x=>match x with|(a1,a2,())=>Option.bind (bif !(a1.1.1==a2.1.1&&(a1.1.2.1==a2.1.2.1&&true)) then some true else bif a1.2.1 !=a2.2.1 then some true else bif a1.2.2.1 !=a2.2.2.1 then some true else bif a1.2.2.2.1 !=a2.2.2.2.1 then some true else bif a1.2.2.2.2.1 !=a2.2.2.2.2.1 then some true else bif a1.2.2.2.2.2.1 !=a2.2.2.2.2.2.1 then some true else bif a1.2.2.2.2.2.2.1 !=a2.2.2.2.2.2.2.1 then some true else bif a1.2.2.2.2.2.2.2.1 !=a2.2.2.2.2.2.2.2.1 then some true else bif a1.2.2.2.2.2.2.2.2.2.1 !=a2.2.2.2.2.2.2.2.2.2.1 then some true else bif a1.2.2.2.2.2.2.2.2.2.2.1 !=a2.2.2.2.2.2.2.2.2.2.2.1 then some true else bif !a1.2.2.2.2.2.2.2.2.2.2.2.2.1==a2.2.2.2.2.2.2.2.2.2.2.2.2.1 then some true else bif (↑(List.length a1.2.2.2.2.2.2.2.2.1):Int) !=(↑(List.length a2.2.2.2.2.2.2.2.2.1):Int) then some true else some ((↑(List.length a1.2.2.2.2.2.2.2.2.2.2.2.1):Int) !=(↑(List.length a2.2.2.2.2.2.2.2.2.2.2.2.1):Int))) fun (s0:Bool)=>bif s0 then some false else qM (zL (fun (s9:Int)=>bif decide (s9< (↑(List.length a1.2.2.2.2.2.2.2.2.1):Int)) then Option.bind (idx a1.2.2.2.2.2.2.2.2.1 s9) fun (y10:Int)=>Option.bind (idx a2.2.2.2.2.2.2.2.2.1 s9) fun (y11:Int)=>bif y10 !=y11 then some (Sum.inr (Sum.inr false)) else some (Sum.inl (IntKind.wrap .i64 (s9+(1:Int)))) else some (Sum.inr (Sum.inl ()))) (0:Int)) fun (s12:Unit)=>qM (zL (fun (s21:Int)=>bif decide (s21< (↑(List.length a1.2.2.2.2.2.2.2.2.2.2.2.1):Int)) then Option.bind (idx a1.2.2.2.2.2.2.2.2.2.2.2.1 s21) fun (y22:Ty.El qB)=>Option.bind (idx a2.2.2.2.2.2.2.2.2.2.2.2.1 s21) fun (y23:Ty.El qB)=>bif !(y22.1==y23.1&&(y22.2.1==y23.2.1&&true)) then some (Sum.inr (Sum.inr false)) else some (Sum.inl (IntKind.wrap .i64 (s21+(1:Int)))) else some (Sum.inr (Sum.inl ()))) (0:Int)) fun (s24:Unit)=>some true
noncomputable def zDY:ElS [tU,tI]→Option (RTy.El (.p zG)):=fun x=>match x with|(a1,a2,())=>Option.bind (zD8 (a2,())) fun (y0:Int)=>Option.bind (zCX (a2,())) fun (y1:Int)=>some (IntKind.wrap .u32 (↑(BitVec.toNat (BitVec.ofInt (IntKind.bits IntKind.u32) a1&&&BitVec.ofInt (IntKind.bits IntKind.u32) y0)):Int),y1,())
noncomputable def zAN:ElS [tU]→Option (RTy.El (.p .bool)):=fun x=>match x with|(a1,())=>some (a1 !=a1)
noncomputable def w9:ElS [tU,tU]→Option (RTy.El (.p tI)):=fun x=>match x with|(a1,a2,())=>Option.bind (zAN (a1,())) fun (y0:Bool)=>Option.bind (zAN (a2,())) fun (y1:Bool)=>bif y0 then bif y1 then some (0:Int) else some (-1:Int) else bif y1 then some (1:Int) else bif decide (a1<a2) then some (-1:Int) else bif decide (a1>a2) then some (1:Int) else some (0:Int)
noncomputable def zC6:ElS [tI]→Option (RTy.El (.p .bool)):=fun x=>match x with|(a1,())=>some (a1 !=a1)
noncomputable def qF:ElS [tI,tI]→Option (RTy.El (.p tI)):=fun x=>match x with|(a1,a2,())=>Option.bind (zC6 (a1,())) fun (y0:Bool)=>Option.bind (zC6 (a2,())) fun (y1:Bool)=>bif y0 then bif y1 then some (0:Int) else some (-1:Int) else bif y1 then some (1:Int) else bif decide (a1<a2) then some (-1:Int) else bif decide (a1>a2) then some (1:Int) else some (0:Int)
noncomputable def zCs:ElS [zG,zG]→Option (RTy.El (.p tI)):=fun x=>match x with|(a1,a2,())=>Option.bind (w9 (a1.1,a2.1,())) fun (y0:Int)=>bif y0 !=(0:Int) then some y0 else Option.bind (qF (a1.2.1,a2.2.1,())) fun (y1:Int)=>some y1
noncomputable def zP:ElS [zB,zB]→Option (RTy.El (.p tI)):=fun x=>match x with|(a1,a2,())=>Option.bind (zCs (a1.1,a2.1,())) fun (y0:Int)=>some y0
noncomputable def qE:List (Ty.El zB)→ElA [.d tI, .d tI, .clo 26 []]→Option (List (Ty.El zB)×RTy.El (.tu [])):=fun a0 x=>match x with|(a1,a2,(),())=>zL (fun (s157:Int×List (Ty.El zB))=>bif decide (s157.1<a2) then Option.bind (zL (fun (s158:Int×List (Ty.El zB))=>Option.bind (bif decide (s158.1>a1) then Option.bind (idx s158.2 s158.1) fun (y159:Ty.El zB)=>Option.bind (atN s158.2 (Int.toNat s158.1)) fun (y160:Ty.El zB)=>Option.bind (idx s158.2 (IntKind.wrap .i64 (s158.1- (1:Int)))) fun (y161:Ty.El zB)=>Option.bind (atN s158.2 (Int.toNat (IntKind.wrap .i64 (s158.1- (1:Int))))) fun (y162:Ty.El zB)=>Option.bind (zP (y160,y162,())) fun (y163:Int)=>some (decide (y163< (0:Int)),s158.2) else some (false,s158.2)) fun (s164:Bool×List (Ty.El zB))=>bif s164.1 then Option.bind (idx s164.2 (IntKind.wrap .i64 (s158.1- (1:Int)))) fun (y165:Ty.El zB)=>Option.bind (atN s164.2 (Int.toNat (IntKind.wrap .i64 (s158.1- (1:Int))))) fun (y166:Ty.El zB)=>Option.bind (idx s164.2 s158.1) fun (y167:Ty.El zB)=>Option.bind (atN s164.2 (Int.toNat s158.1)) fun (y168:Ty.El zB)=>Option.bind (idx s164.2 s158.1) fun (y169:Ty.El zB)=>Option.bind (atN s164.2 (Int.toNat s158.1)) fun (y170:Ty.El zB)=>Option.bind (idx (List.set s164.2 (Int.toNat s158.1) y166) (IntKind.wrap .i64 (s158.1- (1:Int)))) fun (y171:Ty.El zB)=>Option.bind (atN (List.set s164.2 (Int.toNat s158.1) y166) (Int.toNat (IntKind.wrap .i64 (s158.1- (1:Int))))) fun (y172:Ty.El zB)=>some (Sum.inl (IntKind.wrap .i64 (s158.1- (1:Int)),List.set (List.set s164.2 (Int.toNat s158.1) y166) (Int.toNat (IntKind.wrap .i64 (s158.1- (1:Int)))) y168)) else some (Sum.inr s164.2)) s157) fun (s173:List (Ty.El zB))=>some (Sum.inl (IntKind.wrap .i64 (s157.1+(1:Int)),s173)) else Option.map (fun (r:List (Ty.El zB)×Unit)=>Sum.inr r) (bif Nat.beq (List.length s157.2) (List.length a0) then some (s157.2,()) else none)) (IntKind.wrap .i64 (a1+(1:Int)),a0)
noncomputable def qI:List (Ty.El zB)→ElA [.d tI, .d tI, .d tI, .clo 26 []]→Option (List (Ty.El zB)×RTy.El (.tu [])):=fun a0 x=>match x with|(a1,a2,a3,(),())=>zL (fun (s17:Int×List (Ty.El zB))=>bif decide (s17.1<a3) then Option.bind (idx s17.2 (IntKind.wrap .i64 (a2+s17.1))) fun (y18:Ty.El zB)=>Option.bind (atN s17.2 (Int.toNat (IntKind.wrap .i64 (a2+s17.1)))) fun (y19:Ty.El zB)=>Option.bind (idx s17.2 (IntKind.wrap .i64 (a1+s17.1))) fun (y20:Ty.El zB)=>Option.bind (atN s17.2 (Int.toNat (IntKind.wrap .i64 (a1+s17.1)))) fun (y21:Ty.El zB)=>Option.bind (idx s17.2 (IntKind.wrap .i64 (a1+s17.1))) fun (y22:Ty.El zB)=>Option.bind (atN s17.2 (Int.toNat (IntKind.wrap .i64 (a1+s17.1)))) fun (y23:Ty.El zB)=>Option.bind (idx (List.set s17.2 (Int.toNat (IntKind.wrap .i64 (a1+s17.1))) y19) (IntKind.wrap .i64 (a2+s17.1))) fun (y24:Ty.El zB)=>Option.bind (atN (List.set s17.2 (Int.toNat (IntKind.wrap .i64 (a1+s17.1))) y19) (Int.toNat (IntKind.wrap .i64 (a2+s17.1)))) fun (y25:Ty.El zB)=>some (Sum.inl (IntKind.wrap .i64 (s17.1+(1:Int)),List.set (List.set s17.2 (Int.toNat (IntKind.wrap .i64 (a1+s17.1))) y19) (Int.toNat (IntKind.wrap .i64 (a2+s17.1))) y21)) else Option.map (fun (r:List (Ty.El zB)×Unit)=>Sum.inr r) (bif Nat.beq (List.length s17.2) (List.length a0) then some (s17.2,()) else none)) ((0:Int),a0)
noncomputable def jU:List (Ty.El zB)→ElA [.d tI, .d tI, .d tI, .clo 26 []]→Option (List (Ty.El zB)×RTy.El (.tu [])):=fun a0 x=>match x with|(a1,a2,a3,(),())=>Option.bind (zL (fun (s6:Int×Int×List (Ty.El zB))=>bif s6.1 !=s6.2.1 then bif decide (s6.1>s6.2.1) then bif Nat.beq (List.length s6.2.2) (List.length s6.2.2) then Option.bind (qI s6.2.2 (IntKind.wrap .i64 (a2-s6.1),a2,s6.2.1,(),())) fun (y7:List (Ty.El zB)×Unit)=>some (Sum.inl (IntKind.wrap .i64 (s6.1-s6.2.1),s6.2.1,y7.1)) else none else bif Nat.beq (List.length s6.2.2) (List.length s6.2.2) then Option.bind (qI s6.2.2 (IntKind.wrap .i64 (a2-s6.1),IntKind.wrap .i64 (IntKind.wrap .i64 (a2+s6.2.1) -s6.1),s6.1,(),())) fun (y8:List (Ty.El zB)×Unit)=>some (Sum.inl (s6.1,IntKind.wrap .i64 (s6.2.1-s6.1),y8.1)) else none else some (Sum.inr (s6.2.2,s6.1))) (IntKind.wrap .i64 (a2-a1),IntKind.wrap .i64 (a3-a2),a0)) fun (s9:List (Ty.El zB)×Int)=>bif Nat.beq (List.length s9.1) (List.length s9.1) then Option.bind (qI s9.1 (IntKind.wrap .i64 (a2-s9.2),a2,s9.2,(),())) fun (y10:List (Ty.El zB)×Unit)=>bif Nat.beq (List.length y10.1) (List.length a0) then some (y10.1,()) else none else none
noncomputable def yI (slices_symMergeCmpFunc_Route_self:List (Ty.El zB)→ElA [.d tI, .d tI, .d tI, .clo 26 []]→Option (List (Ty.El zB)×RTy.El (.tu []))):List (Ty.El zB)→ElA [.d tI, .d tI, .d tI, .clo 26 []]→Option (List (Ty.El zB)×RTy.El (.tu [])):=fun a0 x=>match x with|(a1,a2,a3,(),())=>qM (bif IntKind.wrap .i64 (a2-a1)==(1:Int) then Option.bind (zL (fun (s50:Int×Int×List (Ty.El zB))=>bif decide (s50.1<s50.2.1) then Option.bind (idx s50.2.2 (IntKind.wrap .i64 (Int.fdiv (IntKind.wrap .u64 (IntKind.wrap .i64 (s50.1+s50.2.1))) ((2:Int)^min (Int.toNat (1:Int)) (IntKind.bits IntKind.u64))))) fun (y51:Ty.El zB)=>Option.bind (atN s50.2.2 (Int.toNat (IntKind.wrap .i64 (Int.fdiv (IntKind.wrap .u64 (IntKind.wrap .i64 (s50.1+s50.2.1))) ((2:Int)^min (Int.toNat (1:Int)) (IntKind.bits IntKind.u64)))))) fun (y52:Ty.El zB)=>Option.bind (idx s50.2.2 a1) fun (y53:Ty.El zB)=>Option.bind (atN s50.2.2 (Int.toNat a1)) fun (y54:Ty.El zB)=>Option.bind (zP (y52,y54,())) fun (y55:Int)=>bif decide (y55< (0:Int)) then some (Sum.inl (IntKind.wrap .i64 (IntKind.wrap .i64 (Int.fdiv (IntKind.wrap .u64 (IntKind.wrap .i64 (s50.1+s50.2.1))) ((2:Int)^min (Int.toNat (1:Int)) (IntKind.bits IntKind.u64)))+(1:Int)),s50.2)) else some (Sum.inl (s50.1,IntKind.wrap .i64 (Int.fdiv (IntKind.wrap .u64 (IntKind.wrap .i64 (s50.1+s50.2.1))) ((2:Int)^min (Int.toNat (1:Int)) (IntKind.bits IntKind.u64))),s50.2.2)) else some (Sum.inr (s50.1,s50.2.2))) (a2,a3,a0)) fun (s56:Int×List (Ty.El zB))=>zL (fun (s57:Int×List (Ty.El zB))=>bif decide (s57.1<IntKind.wrap .i64 (s56.1- (1:Int))) then Option.bind (idx s57.2 (IntKind.wrap .i64 (s57.1+(1:Int)))) fun (y58:Ty.El zB)=>Option.bind (atN s57.2 (Int.toNat (IntKind.wrap .i64 (s57.1+(1:Int))))) fun (y59:Ty.El zB)=>Option.bind (idx s57.2 s57.1) fun (y60:Ty.El zB)=>Option.bind (atN s57.2 (Int.toNat s57.1)) fun (y61:Ty.El zB)=>Option.bind (idx s57.2 s57.1) fun (y62:Ty.El zB)=>Option.bind (atN s57.2 (Int.toNat s57.1)) fun (y63:Ty.El zB)=>Option.bind (idx (List.set s57.2 (Int.toNat s57.1) y59) (IntKind.wrap .i64 (s57.1+(1:Int)))) fun (y64:Ty.El zB)=>Option.bind (atN (List.set s57.2 (Int.toNat s57.1) y59) (Int.toNat (IntKind.wrap .i64 (s57.1+(1:Int))))) fun (y65:Ty.El zB)=>some (Sum.inl (IntKind.wrap .i64 (s57.1+(1:Int)),List.set (List.set s57.2 (Int.toNat s57.1) y59) (Int.toNat (IntKind.wrap .i64 (s57.1+(1:Int)))) y61)) else Option.map (fun (r:List (Ty.El zB) ⊕ List (Ty.El zB)×Unit)=>Sum.inr r) (Option.map (fun (r:List (Ty.El zB)×Unit)=>Sum.inr r) (bif Nat.beq (List.length s57.2) (List.length a0) then some (s57.2,()) else none))) (a1,s56.2) else some (Sum.inl a0)) fun (s66:List (Ty.El zB))=>qM (bif IntKind.wrap .i64 (a3-a2)==(1:Int) then Option.bind (zL (fun (s117:Int×Int×List (Ty.El zB))=>bif decide (s117.1<s117.2.1) then Option.bind (idx s117.2.2 a2) fun (y118:Ty.El zB)=>Option.bind (atN s117.2.2 (Int.toNat a2)) fun (y119:Ty.El zB)=>Option.bind (idx s117.2.2 (IntKind.wrap .i64 (Int.fdiv (IntKind.wrap .u64 (IntKind.wrap .i64 (s117.1+s117.2.1))) ((2:Int)^min (Int.toNat (1:Int)) (IntKind.bits IntKind.u64))))) fun (y120:Ty.El zB)=>Option.bind (atN s117.2.2 (Int.toNat (IntKind.wrap .i64 (Int.fdiv (IntKind.wrap .u64 (IntKind.wrap .i64 (s117.1+s117.2.1))) ((2:Int)^min (Int.toNat (1:Int)) (IntKind.bits IntKind.u64)))))) fun (y121:Ty.El zB)=>Option.bind (zP (y119,y121,())) fun (y122:Int)=>bif !decide (y122< (0:Int)) then some (Sum.inl (IntKind.wrap .i64 (IntKind.wrap .i64 (Int.fdiv (IntKind.wrap .u64 (IntKind.wrap .i64 (s117.1+s117.2.1))) ((2:Int)^min (Int.toNat (1:Int)) (IntKind.bits IntKind.u64)))+(1:Int)),s117.2)) else some (Sum.inl (s117.1,IntKind.wrap .i64 (Int.fdiv (IntKind.wrap .u64 (IntKind.wrap .i64 (s117.1+s117.2.1))) ((2:Int)^min (Int.toNat (1:Int)) (IntKind.bits IntKind.u64))),s117.2.2)) else some (Sum.inr (s117.1,s117.2.2))) (a1,a2,s66)) fun (s123:Int×List (Ty.El zB))=>zL (fun (s124:Int×List (Ty.El zB))=>bif decide (s124.1>s123.1) then Option.bind (idx s124.2 (IntKind.wrap .i64 (s124.1- (1:Int)))) fun (y125:Ty.El zB)=>Option.bind (atN s124.2 (Int.toNat (IntKind.wrap .i64 (s124.1- (1:Int))))) fun (y126:Ty.El zB)=>Option.bind (idx s124.2 s124.1) fun (y127:Ty.El zB)=>Option.bind (atN s124.2 (Int.toNat s124.1)) fun (y128:Ty.El zB)=>Option.bind (idx s124.2 s124.1) fun (y129:Ty.El zB)=>Option.bind (atN s124.2 (Int.toNat s124.1)) fun (y130:Ty.El zB)=>Option.bind (idx (List.set s124.2 (Int.toNat s124.1) y126) (IntKind.wrap .i64 (s124.1- (1:Int)))) fun (y131:Ty.El zB)=>Option.bind (atN (List.set s124.2 (Int.toNat s124.1) y126) (Int.toNat (IntKind.wrap .i64 (s124.1- (1:Int))))) fun (y132:Ty.El zB)=>some (Sum.inl (IntKind.wrap .i64 (s124.1- (1:Int)),List.set (List.set s124.2 (Int.toNat s124.1) y126) (Int.toNat (IntKind.wrap .i64 (s124.1- (1:Int)))) y128)) else Option.map (fun (r:List (Ty.El zB) ⊕ List (Ty.El zB)×Unit)=>Sum.inr r) (Option.map (fun (r:List (Ty.El zB)×Unit)=>Sum.inr r) (bif Nat.beq (List.length s124.2) (List.length a0) then some (s124.2,()) else none))) (a2,s123.2) else some (Sum.inl s66)) fun (s133:List (Ty.El zB))=>Option.bind (bif decide (a2>IntKind.wrap .i64 (Int.fdiv (IntKind.wrap .u64 (IntKind.wrap .i64 (a1+a3))) ((2:Int)^min (Int.toNat (1:Int)) (IntKind.bits IntKind.u64)))) then some (IntKind.wrap .i64 (IntKind.wrap .i64 (IntKind.wrap .i64 (Int.fdiv (IntKind.wrap .u64 (IntKind.wrap .i64 (a1+a3))) ((2:Int)^min (Int.toNat (1:Int)) (IntKind.bits IntKind.u64)))+a2) -a3),IntKind.wrap .i64 (Int.fdiv (IntKind.wrap .u64 (IntKind.wrap .i64 (a1+a3))) ((2:Int)^min (Int.toNat (1:Int)) (IntKind.bits IntKind.u64))),s133) else some (a1,a2,s133)) fun (s134:Int×Int×List (Ty.El zB))=>Option.bind (zL (fun (s152:Int×Int×List (Ty.El zB))=>bif decide (s152.1<s152.2.1) then Option.bind (idx s152.2.2 (IntKind.wrap .i64 (IntKind.wrap .i64 (IntKind.wrap .i64 (IntKind.wrap .i64 (Int.fdiv (IntKind.wrap .u64 (IntKind.wrap .i64 (a1+a3))) ((2:Int)^min (Int.toNat (1:Int)) (IntKind.bits IntKind.u64)))+a2) - (1:Int)) -IntKind.wrap .i64 (Int.fdiv (IntKind.wrap .u64 (IntKind.wrap .i64 (s152.1+s152.2.1))) ((2:Int)^min (Int.toNat (1:Int)) (IntKind.bits IntKind.u64)))))) fun (y153:Ty.El zB)=>Option.bind (atN s152.2.2 (Int.toNat (IntKind.wrap .i64 (IntKind.wrap .i64 (IntKind.wrap .i64 (IntKind.wrap .i64 (Int.fdiv (IntKind.wrap .u64 (IntKind.wrap .i64 (a1+a3))) ((2:Int)^min (Int.toNat (1:Int)) (IntKind.bits IntKind.u64)))+a2) - (1:Int)) -IntKind.wrap .i64 (Int.fdiv (IntKind.wrap .u64 (IntKind.wrap .i64 (s152.1+s152.2.1))) ((2:Int)^min (Int.toNat (1:Int)) (IntKind.bits IntKind.u64))))))) fun (y154:Ty.El zB)=>Option.bind (idx s152.2.2 (IntKind.wrap .i64 (Int.fdiv (IntKind.wrap .u64 (IntKind.wrap .i64 (s152.1+s152.2.1))) ((2:Int)^min (Int.toNat (1:Int)) (IntKind.bits IntKind.u64))))) fun (y155:Ty.El zB)=>Option.bind (atN s152.2.2 (Int.toNat (IntKind.wrap .i64 (Int.fdiv (IntKind.wrap .u64 (IntKind.wrap .i64 (s152.1+s152.2.1))) ((2:Int)^min (Int.toNat (1:Int)) (IntKind.bits IntKind.u64)))))) fun (y156:Ty.El zB)=>Option.bind (zP (y154,y156,())) fun (y157:Int)=>bif !decide (y157< (0:Int)) then some (Sum.inl (IntKind.wrap .i64 (IntKind.wrap .i64 (Int.fdiv (IntKind.wrap .u64 (IntKind.wrap .i64 (s152.1+s152.2.1))) ((2:Int)^min (Int.toNat (1:Int)) (IntKind.bits IntKind.u64)))+(1:Int)),s152.2)) else some (Sum.inl (s152.1,IntKind.wrap .i64 (Int.fdiv (IntKind.wrap .u64 (IntKind.wrap .i64 (s152.1+s152.2.1))) ((2:Int)^min (Int.toNat (1:Int)) (IntKind.bits IntKind.u64))),s152.2.2)) else some (Sum.inr (s152.1,s152.2.2))) s134) fun (s158:Int×List (Ty.El zB))=>Option.bind (Option.bind (bif decide (s158.1<a2) then some (decide (a2<IntKind.wrap .i64 (IntKind.wrap .i64 (IntKind.wrap .i64 (Int.fdiv (IntKind.wrap .u64 (IntKind.wrap .i64 (a1+a3))) ((2:Int)^min (Int.toNat (1:Int)) (IntKind.bits IntKind.u64)))+a2) -s158.1)),s158.2) else some (false,s158.2)) fun (s161:Bool×List (Ty.El zB))=>bif s161.1 then bif Nat.beq (List.length s161.2) (List.length s161.2) then Option.bind (jU s161.2 (s158.1,a2,IntKind.wrap .i64 (IntKind.wrap .i64 (IntKind.wrap .i64 (Int.fdiv (IntKind.wrap .u64 (IntKind.wrap .i64 (a1+a3))) ((2:Int)^min (Int.toNat (1:Int)) (IntKind.bits IntKind.u64)))+a2) -s158.1),(),())) fun (y162:List (Ty.El zB)×Unit)=>some y162.1 else none else some s161.2) fun (s163:List (Ty.El zB))=>Option.bind (Option.bind (bif decide (a1<s158.1) then some (decide (s158.1<IntKind.wrap .i64 (Int.fdiv (IntKind.wrap .u64 (IntKind.wrap .i64 (a1+a3))) ((2:Int)^min (Int.toNat (1:Int)) (IntKind.bits IntKind.u64)))),s163) else some (false,s163)) fun (s166:Bool×List (Ty.El zB))=>bif s166.1 then bif Nat.beq (List.length s166.2) (List.length s166.2) then Option.bind (slices_symMergeCmpFunc_Route_self s166.2 (a1,s158.1,IntKind.wrap .i64 (Int.fdiv (IntKind.wrap .u64 (IntKind.wrap .i64 (a1+a3))) ((2:Int)^min (Int.toNat (1:Int)) (IntKind.bits IntKind.u64))),(),())) fun (y167:List (Ty.El zB)×Unit)=>some y167.1 else none else some s166.2) fun (s168:List (Ty.El zB))=>Option.bind (bif decide (IntKind.wrap .i64 (Int.fdiv (IntKind.wrap .u64 (IntKind.wrap .i64 (a1+a3))) ((2:Int)^min (Int.toNat (1:Int)) (IntKind.bits IntKind.u64)))<IntKind.wrap .i64 (IntKind.wrap .i64 (IntKind.wrap .i64 (Int.fdiv (IntKind.wrap .u64 (IntKind.wrap .i64 (a1+a3))) ((2:Int)^min (Int.toNat (1:Int)) (IntKind.bits IntKind.u64)))+a2) -s158.1)) then some (decide (IntKind.wrap .i64 (IntKind.wrap .i64 (IntKind.wrap .i64 (Int.fdiv (IntKind.wrap .u64 (IntKind.wrap .i64 (a1+a3))) ((2:Int)^min (Int.toNat (1:Int)) (IntKind.bits IntKind.u64)))+a2) -s158.1)<a3),s168) else some (false,s168)) fun (s169:Bool×List (Ty.El zB))=>bif s169.1 then bif Nat.beq (List.length s169.2) (List.length s169.2) then Option.bind (slices_symMergeCmpFunc_Route_self s169.2 (IntKind.wrap .i64 (Int.fdiv (IntKind.wrap .u64 (IntKind.wrap .i64 (a1+a3))) ((2:Int)^min (Int.toNat (1:Int)) (IntKind.bits IntKind.u64))),IntKind.wrap .i64 (IntKind.wrap .i64 (IntKind.wrap .i64 (Int.fdiv (IntKind.wrap .u64 (IntKind.wrap .i64 (a1+a3))) ((2:Int)^min (Int.toNat (1:Int)) (IntKind.bits IntKind.u64)))+a2) -s158.1),a3,(),())) fun (y170:List (Ty.El zB)×Unit)=>bif Nat.beq (List.length y170.1) (List.length a0) then some (y170.1,()) else none else none else bif Nat.beq (List.length s169.2) (List.length a0) then some (s169.2,()) else none
noncomputable def qD:Nat→(List (Ty.El zB)→ElA [.d tI, .d tI, .d tI, .clo 26 []]→Option (List (Ty.El zB)×RTy.El (.tu [])))|0=>fun _ _=>none|n+1=>yI (qD n)
noncomputable def qK:List (Ty.El zB)→ElA [.d tI, .d tI, .d tI, .clo 26 []]→Option (List (Ty.El zB)×RTy.El (.tu [])):=qD 1048576
noncomputable def qR:List (Ty.El zB)→ElA [.d tI, .clo 26 []]→Option (List (Ty.El zB)×RTy.El (.tu [])):=fun a0 x=>match x with|(a1,(),())=>Option.bind (zL (fun (s4:Int×List (Ty.El zB)×Int)=>bif decide (s4.1≤a1) then bif Nat.beq (List.length s4.2.1) (List.length s4.2.1) then Option.bind (qE s4.2.1 (s4.2.2,s4.1,(),())) fun (y5:List (Ty.El zB)×Unit)=>some (Sum.inl (IntKind.wrap .i64 (s4.1+(20:Int)),y5.1,s4.1)) else none else some (Sum.inr s4.2)) ((20:Int),a0,(0:Int))) fun (s6:List (Ty.El zB)×Int)=>bif Nat.beq (List.length s6.1) (List.length s6.1) then Option.bind (qE s6.1 (s6.2,a1,(),())) fun (y7:List (Ty.El zB)×Unit)=>zL (fun (s30:Int×List (Ty.El zB))=>bif decide (s30.1<a1) then Option.bind (zL (fun (s31:Int×List (Ty.El zB)×Int)=>bif decide (s31.1≤a1) then bif Nat.beq (List.length s31.2.1) (List.length s31.2.1) then Option.bind (qK s31.2.1 (s31.2.2,IntKind.wrap .i64 (s31.2.2+s30.1),s31.1,(),())) fun (y32:List (Ty.El zB)×Unit)=>some (Sum.inl (IntKind.wrap .i64 (s31.1+IntKind.wrap .i64 ((2:Int)*s30.1)),y32.1,s31.1)) else none else some (Sum.inr (s31.2.2,s31.2.1))) (IntKind.wrap .i64 ((2:Int)*s30.1),s30.2,(0:Int))) fun (s33:Int×List (Ty.El zB))=>Option.bind (bif decide (IntKind.wrap .i64 (s33.1+s30.1)<a1) then bif Nat.beq (List.length s33.2) (List.length s33.2) then Option.bind (qK s33.2 (s33.1,IntKind.wrap .i64 (s33.1+s30.1),a1,(),())) fun (y34:List (Ty.El zB)×Unit)=>some y34.1 else none else some s33.2) fun (s35:List (Ty.El zB))=>some (Sum.inl (IntKind.wrap .i64 (s30.1*(2:Int)),s35)) else Option.map (fun (r:List (Ty.El zB)×Unit)=>Sum.inr r) (bif Nat.beq (List.length s30.2) (List.length a0) then some (s30.2,()) else none)) ((20:Int),y7.1) else none
noncomputable def qW:List (Ty.El zB)→ElA [.clo 26 []]→Option (List (Ty.El zB)×RTy.El (.tu [])):=fun a0 x=>match x with|((),())=>bif Nat.beq (List.length a0) (List.length a0)&&Nat.beq (List.length a0) (List.length a0) then Option.bind (qR a0 ((↑(List.length a0):Int),(),())) fun (y0:List (Ty.El zB)×Unit)=>bif Nat.beq (List.length y0.1) (List.length a0) then some (y0.1,()) else none else none
noncomputable def zAF:ElS [zN,tI]→Option (RTy.El (.p .bool)):=fun x=>match x with|(a1,a2,())=>Option.bind (bif decide (a2≥(0:Int)) then some (decide (a2< (↑(List.length a1.1.1):Int))) else some false) fun (s0:Bool)=>some s0
noncomputable def zAH:ElS [zN,tI,tI]→Option (RTy.El (.p tI)):=fun x=>match x with|(a1,a2,a3,())=>qM (zL (fun (s20:Int)=>bif decide (s20< (↑(List.length a1.2.1.1):Int)) then qM (zL (fun (s21:Int)=>Option.bind (idx a1.2.1.1 s20) fun (y22:Ty.El uZ)=>bif decide (s21< (↑(List.length y22.2.2.1):Int)) then Option.bind (idx a1.2.1.1 s20) fun (y23:Ty.El uZ)=>Option.bind (idx y23.2.2.1 s21) fun (y24:Ty.El zO)=>bif y24.1==a2&&(y24.2.1==a3&&true) then some (Sum.inr (Sum.inr (Sum.inr (Sum.inr s20)))) else some (Sum.inl (IntKind.wrap .i64 (s21+(1:Int)))) else some (Sum.inr (Sum.inl ()))) (0:Int)) fun (s25:Unit)=>some (Sum.inl (IntKind.wrap .i64 (s20+(1:Int)))) else some (Sum.inr (Sum.inl ()))) (0:Int)) fun (s26:Unit)=>some (-1:Int)
noncomputable def zGo:ElS [zN,tI,tI]→Option (RTy.El (.p tI)):=fun x=>match x with|(a1,a2,a3,())=>Option.bind (zAH (a1,a2,a3,())) fun (y0:Int)=>qM (zL (fun (s8:Int)=>bif decide (s8< (↑(List.length a1.2.1.2.1):Int)) then Option.bind (bif decide (y0≥(0:Int)) then Option.bind (idx a1.2.1.2.1 s8) fun (y9:Int)=>some (y9==y0) else some false) fun (s10:Bool)=>bif s10 then some (Sum.inr (Sum.inr s8)) else some (Sum.inl (IntKind.wrap .i64 (s8+(1:Int)))) else some (Sum.inr (Sum.inl ()))) (0:Int)) fun (s11:Unit)=>some (-1:Int)
noncomputable def zFH:ElS [zN,tI,tI]→Option (RTy.El (.p .bool)):=fun x=>match x with|(a1,a2,a3,())=>Option.bind (zAH (a1,a2,a3,())) fun (y0:Int)=>bif decide (y0< (0:Int)) then some false else Option.bind (zGo (a1,a2,a3,())) fun (y1:Int)=>qM (zL (fun (s6:Int)=>bif decide (s6< (↑(List.length a1.2.2.1):Int)) then Option.bind (idx a1.2.2.1 s6) fun (y7:Int)=>bif y7==y1 then some (Sum.inr (Sum.inr false)) else some (Sum.inl (IntKind.wrap .i64 (s6+(1:Int)))) else some (Sum.inr (Sum.inl ()))) (0:Int)) fun (s8:Unit)=>some true
noncomputable def zC1:ElS [zN,tI,tI]→Option (RTy.El (.p zG)):=fun x=>match x with|(a1,a2,a3,())=>Option.bind (idx a1.1.1 a2) fun (y0:Ty.El zF)=>Option.bind (idx y0.2.2.1 a3) fun (y1:Ty.El qA)=>Option.bind (wU (y1.2.1,y1.2.2.1,())) fun (y2:Int×Int×Unit)=>some y2
noncomputable def zB5:ElS [(.sl zB)]→Option (RTy.El (.p (.sl zG))):=fun x=>match x with|(a1,())=>Option.bind (zL (fun (s98:Int×List (Ty.El zG))=>bif decide (s98.1< (↑(List.length a1):Int)) then Option.bind (Option.bind (zL (fun (s99:Int×List (Ty.El zG))=>Option.bind (bif decide (s99.1< (↑(List.length s99.2):Int)) then Option.bind (idx s99.2 s99.1) fun (y100:Ty.El zG)=>Option.bind (atN s99.2 (Int.toNat s99.1)) fun (y101:Ty.El zG)=>Option.bind (idx a1 s98.1) fun (y102:Ty.El zB)=>Option.bind (vU (y101,y102.1,())) fun (y103:Int)=>some (decide (y103< (0:Int)),s99.2) else some (false,s99.2)) fun (s104:Bool×List (Ty.El zG))=>bif s104.1 then some (Sum.inl (IntKind.wrap .i64 (s99.1+(1:Int)),s104.2)) else some (Sum.inr (s99.1,s104.2))) ((0:Int),s98.2)) fun (s105:Int×List (Ty.El zG))=>Option.bind (bif s105.1==(↑(List.length s105.2):Int) then some (true,s105.2) else Option.bind (idx s105.2 s105.1) fun (y106:Ty.El zG)=>Option.bind (atN s105.2 (Int.toNat s105.1)) fun (y107:Ty.El zG)=>Option.bind (idx a1 s98.1) fun (y108:Ty.El zB)=>some (!(y107.1==y108.1.1&&(y107.2.1==y108.1.2.1&&true)),s105.2)) fun (s109:Bool×List (Ty.El zG))=>bif s109.1 then Option.bind (sub s109.2 (0:Int) s105.1) fun (y110:List (Ty.El zG))=>Option.bind (idx a1 s98.1) fun (y111:Ty.El zB)=>Option.bind (sub s109.2 s105.1 (↑(List.length s109.2):Int)) fun (y112:List (Ty.El zG))=>Option.bind (app (16:Nat) [] y110) fun (y113:List (Ty.El zG))=>Option.bind (app (16:Nat) y113 [y111.1]) fun (y114:List (Ty.El zG))=>Option.bind (app (16:Nat) y114 y112) fun (y115:List (Ty.El zG))=>some y115 else some s109.2) fun (s116:List (Ty.El zG))=>some (Sum.inl (IntKind.wrap .i64 (s98.1+(1:Int)),s116)) else some (Sum.inr s98.2)) ((0:Int),[])) fun (s117:List (Ty.El zG))=>some s117
noncomputable def zEo:ElS [zB]→Option (RTy.El (.p (.pair tI (.pair tI (.pair tI (.pair tI (.pair tI zO))))))):=fun x=>match x with|(a1,())=>bif a1.2.1==(3:Int) then some (a1.2.2.1,a1.2.2.2.2.1,a1.2.2.2.2.2.1,a1.2.2.2.2.2.2.1,(0:Int),(0:Int),(0:Int),()) else bif a1.2.1==(4:Int) then some (a1.2.2.2.2.1,a1.2.2.1,a1.2.2.2.2.2.2.1,(0:Int),(0:Int),(0:Int),(0:Int),()) else bif a1.2.1==(5:Int) then some (if (3:Int)<a1.2.2.1 then (3:Int) else a1.2.2.1,IntKind.wrap .i64 ((1000000:Int) -a1.2.2.2.2.2.2.2.1),(↑(List.length a1.2.2.2.2.2.2.2.2.1):Int),a1.2.2.2.2.1,a1.2.2.1,IntKind.wrap .i64 a1.2.2.2.2.2.2.2.2.2.1,(0:Int),()) else some (a1.2.2.2.1,(0:Int),(0:Int),(0:Int),(0:Int),(0:Int),(0:Int),())
noncomputable def zB7:ElS [zB,zB]→Option (RTy.El (.p tI)):=fun x=>match x with|(a1,a2,())=>Option.bind (zEo (a1,())) fun (y2:Int×Int×Int×Int×Int×Ty.El zO)=>Option.bind (zEo (a2,())) fun (y3:Int×Int×Int×Int×Int×Ty.El zO)=>qM (bif decide (y2.1<y3.1) then some (Sum.inr (-1:Int)) else bif decide (y2.1>y3.1) then some (Sum.inr (1:Int)) else bif decide (y2.2.1<y3.2.1) then some (Sum.inr (-1:Int)) else bif decide (y2.2.1>y3.2.1) then some (Sum.inr (1:Int)) else bif decide (y2.2.2.1<y3.2.2.1) then some (Sum.inr (-1:Int)) else bif decide (y2.2.2.1>y3.2.2.1) then some (Sum.inr (1:Int)) else bif decide (y2.2.2.2.1<y3.2.2.2.1) then some (Sum.inr (-1:Int)) else bif decide (y2.2.2.2.1>y3.2.2.2.1) then some (Sum.inr (1:Int)) else bif decide (y2.2.2.2.2.1<y3.2.2.2.2.1) then some (Sum.inr (-1:Int)) else bif decide (y2.2.2.2.2.1>y3.2.2.2.2.1) then some (Sum.inr (1:Int)) else bif decide (y2.2.2.2.2.2.1<y3.2.2.2.2.2.1) then some (Sum.inr (-1:Int)) else bif decide (y2.2.2.2.2.2.1>y3.2.2.2.2.2.1) then some (Sum.inr (1:Int)) else bif decide (y2.2.2.2.2.2.2.1<y3.2.2.2.2.2.2.1) then some (Sum.inr (-1:Int)) else bif decide (y2.2.2.2.2.2.2.1>y3.2.2.2.2.2.2.1) then some (Sum.inr (1:Int)) else some (Sum.inl ())) fun (s4:Unit)=>some (0:Int)
noncomputable def zB6:ElS [(.sl qB),qB]→Option (RTy.El (.p (.sl qB))):=fun x=>match x with|(a1,a2,())=>Option.bind (zL (fun (s12:Int)=>Option.bind (bif decide (s12< (↑(List.length a1):Int)) then Option.bind (idx a1 s12) fun (y13:Ty.El qB)=>Option.bind (uO (y13,a2,())) fun (y14:Bool)=>some y14 else some false) fun (s15:Bool)=>bif s15 then some (Sum.inl (IntKind.wrap .i64 (s12+(1:Int)))) else some (Sum.inr s12)) (0:Int)) fun (s16:Int)=>Option.bind (bif decide (s16< (↑(List.length a1):Int)) then Option.bind (idx a1 s16) fun (y19:Ty.El qB)=>some (y19.1==a2.1&&(y19.2.1==a2.2.1&&true)) else some false) fun (s20:Bool)=>bif s20 then some a1 else Option.bind (sub a1 (0:Int) s16) fun (y26:List (Ty.El qB))=>Option.bind (sub a1 s16 (↑(List.length a1):Int)) fun (y27:List (Ty.El qB))=>Option.bind (app (16:Nat) [] y26) fun (y28:List (Ty.El qB))=>Option.bind (app (16:Nat) y28 [a2]) fun (y29:List (Ty.El qB))=>Option.bind (app (16:Nat) y29 y27) fun (y30:List (Ty.El qB))=>some y30
noncomputable def zC4:ElS [(.sl qB),(.sl qB)]→Option (RTy.El (.p (.sl qB))):=fun x=>match x with|(a1,a2,())=>Option.bind (zL (fun (s6:Int×List (Ty.El qB))=>bif decide (s6.1< (↑(List.length a2):Int)) then Option.bind (idx a2 s6.1) fun (y7:Ty.El qB)=>Option.bind (zB6 (s6.2,y7,())) fun (y8:List (Ty.El qB))=>some (Sum.inl (IntKind.wrap .i64 (s6.1+(1:Int)),y8)) else some (Sum.inr s6.2)) ((0:Int),a1)) fun (s9:List (Ty.El qB))=>some s9
noncomputable def zE0:ElS [(.sl zB)]→Option (RTy.El (.p (.sl zB))):=fun x=>match x with|(a1,())=>Option.bind (zB5 (a1,())) fun (y0:List (Ty.El zG))=>Option.bind (zL (fun (s338:Int×List (Ty.El zB))=>bif decide (s338.1< (↑(List.length y0):Int)) then Option.bind (Option.bind (zL (fun (s339:Int×Int×List (Ty.El zB))=>bif decide (s339.1< (↑(List.length a1):Int)) then Option.bind (Option.bind (Option.bind (idx a1 s339.1) fun (y340:Ty.El zB)=>Option.bind (idx y0 s338.1) fun (y341:Ty.El zG)=>bif y340.1.1==y341.1&&(y340.1.2.1==y341.2.1&&true) then bif decide (s339.2.1< (0:Int)) then some (true,s339.2.2) else Option.bind (idx a1 s339.1) fun (y342:Ty.El zB)=>Option.bind (idx a1 s339.2.1) fun (y343:Ty.El zB)=>Option.bind (zB7 (y342,y343,())) fun (y344:Int)=>some (decide (y344< (0:Int)),s339.2.2) else some (false,s339.2.2)) fun (s345:Bool×List (Ty.El zB))=>bif s345.1 then some (s339.1,s345.2) else some (s339.2.1,s345.2)) fun (s346:Int×List (Ty.El zB))=>some (Sum.inl (IntKind.wrap .i64 (s339.1+(1:Int)),s346)) else some (Sum.inr s339.2)) ((0:Int),(-1:Int),s338.2)) fun (s347:Int×List (Ty.El zB))=>Option.bind (idx a1 s347.1) fun (y348:Ty.El zB)=>Option.bind (app (8:Nat) [] y348.2.2.2.2.2.2.2.2.1) fun (y349:List Int)=>Option.bind (zL (fun (s350:Int×List (Ty.El zB)×Int×Int×Int×Int×Int×Int×Int×Int×Int×List Int×Int×Int×List (Ty.El qB)×Bool)=>bif decide (s350.1< (↑(List.length a1):Int)) then Option.bind (Option.bind (Option.bind (idx a1 s350.1) fun (y351:Ty.El zB)=>Option.bind (idx y0 s338.1) fun (y352:Ty.El zG)=>bif y351.1.1==y352.1&&(y351.1.2.1==y352.2.1&&true) then Option.bind (idx a1 s350.1) fun (y353:Ty.El zB)=>Option.bind (idx a1 s347.1) fun (y354:Ty.El zB)=>Option.bind (zB7 (y353,y354,())) fun (y355:Int)=>some (y355==(0:Int),s350.2) else some (false,s350.2)) fun (s356:Bool×List (Ty.El zB)×Int×Int×Int×Int×Int×Int×Int×Int×Int×List Int×Int×Int×List (Ty.El qB)×Bool)=>bif s356.1 then Option.bind (idx a1 s350.1) fun (y357:Ty.El zB)=>Option.bind (zC4 (s356.2.2.2.2.2.2.2.2.2.2.2.2.2.2.1,y357.2.2.2.2.2.2.2.2.2.2.2.1,())) fun (y358:List (Ty.El qB))=>some (s356.2.1,s356.2.2.1,s356.2.2.2.1,s356.2.2.2.2.1,s356.2.2.2.2.2.1,s356.2.2.2.2.2.2.1,s356.2.2.2.2.2.2.2.1,s356.2.2.2.2.2.2.2.2.1,s356.2.2.2.2.2.2.2.2.2.1,s356.2.2.2.2.2.2.2.2.2.2.1,s356.2.2.2.2.2.2.2.2.2.2.2.1,s356.2.2.2.2.2.2.2.2.2.2.2.2.1,s356.2.2.2.2.2.2.2.2.2.2.2.2.2.1,y358,s356.2.2.2.2.2.2.2.2.2.2.2.2.2.2.2) else some s356.2) fun (s359:List (Ty.El zB)×Int×Int×Int×Int×Int×Int×Int×Int×Int×List Int×Int×Int×List (Ty.El qB)×Bool)=>some (Sum.inl (IntKind.wrap .i64 (s350.1+(1:Int)),s359)) else some (Sum.inr s350.2)) ((0:Int),s347.2,y348.1.1,y348.1.2.1,y348.2.1,y348.2.2.1,y348.2.2.2.1,y348.2.2.2.2.1,y348.2.2.2.2.2.1,y348.2.2.2.2.2.2.1,y348.2.2.2.2.2.2.2.1,y349,y348.2.2.2.2.2.2.2.2.2.1,y348.2.2.2.2.2.2.2.2.2.2.1,[],y348.2.2.2.2.2.2.2.2.2.2.2.2.1)) fun (s360:List (Ty.El zB)×Int×Int×Int×Int×Int×Int×Int×Int×Int×List Int×Int×Int×List (Ty.El qB)×Bool)=>Option.bind (app (136:Nat) s360.1 [((s360.2.1,s360.2.2.1,()),s360.2.2.2.1,s360.2.2.2.2.1,s360.2.2.2.2.2.1,s360.2.2.2.2.2.2.1,s360.2.2.2.2.2.2.2.1,s360.2.2.2.2.2.2.2.2.1,s360.2.2.2.2.2.2.2.2.2.1,s360.2.2.2.2.2.2.2.2.2.2.1,s360.2.2.2.2.2.2.2.2.2.2.2.1,s360.2.2.2.2.2.2.2.2.2.2.2.2.1,s360.2.2.2.2.2.2.2.2.2.2.2.2.2.1,s360.2.2.2.2.2.2.2.2.2.2.2.2.2.2,())]) fun (y361:List (Ty.El zB))=>some y361) fun (s362:List (Ty.El zB))=>some (Sum.inl (IntKind.wrap .i64 (s338.1+(1:Int)),s362)) else some (Sum.inr s338.2)) ((0:Int),[])) fun (s363:List (Ty.El zB))=>some s363
noncomputable def zC2:ElS [(.sl zB),(.sl zB)]→Option (RTy.El (.p .bool)):=fun x=>match x with|(a1,a2,())=>bif (↑(List.length a1):Int) !=(↑(List.length a2):Int) then some false else qM (zL (fun (s11:Int)=>bif decide (s11< (↑(List.length a1):Int)) then Option.bind (idx a1 s11) fun (y12:Ty.El zB)=>Option.bind (idx a2 s11) fun (y13:Ty.El zB)=>Option.bind (zGm (y12,y13,())) fun (y14:Bool)=>bif !y14 then some (Sum.inr (Sum.inr false)) else some (Sum.inl (IntKind.wrap .i64 (s11+(1:Int)))) else some (Sum.inr (Sum.inl ()))) (0:Int)) fun (s15:Unit)=>some true
noncomputable def zB4:ElS [(.sl zB),zG,tU]→Option (RTy.El (.p tI)):=fun x=>match x with|(a1,a2,a3,())=>Option.bind (zL (fun (s32:Int×Int)=>bif decide (s32.1< (↑(List.length a1):Int)) then Option.bind (Option.bind (Option.bind (idx a1 s32.1) fun (y33:Ty.El zB)=>bif !(y33.1.1==a2.1&&(y33.1.2.1==a2.2.1&&true)) then Option.bind (idx a1 s32.1) fun (y34:Ty.El zB)=>Option.bind (uN (y34.1,a3,())) fun (y35:Bool)=>bif y35 then bif decide (s32.2< (0:Int)) then some true else Option.bind (idx a1 s32.1) fun (y36:Ty.El zB)=>Option.bind (idx a1 s32.2) fun (y37:Ty.El zB)=>some (decide (y36.1.2.1>y37.1.2.1)) else some false else some false) fun (s38:Bool)=>bif s38 then some s32.1 else some s32.2) fun (s39:Int)=>some (Sum.inl (IntKind.wrap .i64 (s32.1+(1:Int)),s39)) else some (Sum.inr s32.2)) ((0:Int),(-1:Int))) fun (s40:Int)=>some s40
noncomputable def zDP:ElS [zN,(.sl zB),tI]→Option (RTy.El (.p (.sl zB))):=fun x=>match x with|(a1,a2,a3,())=>Option.bind (zAF (a1,a3,())) fun (y0:Bool)=>bif !y0 then some [] else Option.bind (idx a1.1.1 a3) fun (y1:Ty.El zF)=>Option.bind (zL (fun (s65:Int×List (Ty.El zB))=>bif decide (s65.1< (↑(List.length y1.2.2.2.2.2.2.2.1):Int)) then Option.bind (Option.bind (idx y1.2.2.2.2.2.2.2.1 s65.1) fun (y66:Ty.El zES)=>qM (bif y66.2.1 !=(0:Int) then Option.bind (zB4 (a2,y66.1,y66.2.1,())) fun (y67:Int)=>Option.bind (bif decide (y67< (0:Int)) then some (true,s65.2) else Option.bind (idx a2 y67) fun (y68:Ty.El zB)=>some (y68.2.2.2.2.2.2.2.2.2.2.2.2.1,s65.2)) fun (s69:Bool×List (Ty.El zB))=>bif s69.1 then some (Sum.inr s69.2) else some (Sum.inl s69.2) else some (Sum.inl s65.2)) fun (s70:List (Ty.El zB))=>qM (bif y66.2.2.1 != { data:= #[] } then Option.bind (kI (y1,y66.2.2.1,())) fun (y71:Int)=>Option.bind (zFH (a1,a3,y71,())) fun (y72:Bool)=>bif !y72 then some (Sum.inr s70) else some (Sum.inl (s70,y66.1,(2:Int),(0:Int),y66.2.2.2.2.1,(0:Int),(0:Int),y66.2.2.2.2.2.1,(0:Int),[],(0:Int),y66.2.1,[(y71,(0:Int),())],y66.2.2.2.1,())) else some (Sum.inl (s70,y66.1,(2:Int),(0:Int),y66.2.2.2.2.1,(0:Int),(0:Int),y66.2.2.2.2.2.1,(0:Int),[],(0:Int),y66.2.1,[],y66.2.2.2.1,()))) fun (s73:List (Ty.El zB)×Ty.El zB)=>Option.bind (app (136:Nat) s73.1 [s73.2]) fun (y74:List (Ty.El zB))=>some y74) fun (s75:List (Ty.El zB))=>some (Sum.inl (IntKind.wrap .i64 (s65.1+(1:Int)),s75)) else some (Sum.inr s65.2)) ((0:Int),[])) fun (s76:List (Ty.El zB))=>some s76
end Go.Ve

namespace Go.Ve
open Go
set_option maxRecDepth 1000000
noncomputable def zQd:ElS []→Option (RTy.El (.p .bool)):=fun x=>match x with|()=>some true
noncomputable def zBO:ElS [zN,tI,tI]→Option (RTy.El (.p (.sl zO))):=fun x=>match x with|(a1,a2,a3,())=>Option.bind (zIF (a1,a2,a3,())) fun (y0:Bool)=>bif !y0 then some [] else Option.bind (Option.bind (zBw (a1,a2,a3,())) fun (y18:Int)=>Option.bind (idx a1.2.1.1 y18) fun (y19:Ty.El uZ)=>zL (fun (s20:Int×List (Ty.El zO))=>bif decide (s20.1< (↑(List.length y19.2.2.1):Int)) then Option.bind (Option.bind (idx y19.2.2.1 s20.1) fun (y21:Ty.El zO)=>Option.bind (bif y21.1 !=a2 then some (true,s20.2) else some (y21.2.1 !=a3,s20.2)) fun (s22:Bool×List (Ty.El zO))=>bif s22.1 then Option.bind (app (16:Nat) s22.2 [y21]) fun (y23:List (Ty.El zO))=>some y23 else some s22.2) fun (s24:List (Ty.El zO))=>some (Sum.inl (IntKind.wrap .i64 (s20.1+(1:Int)),s24)) else some (Sum.inr s20.2)) ((0:Int),[])) fun (s25:List (Ty.El zO))=>some s25
noncomputable def zA0:ElA [.d j1, .pp .str]→Option (RTy.El (.p .bool)):=fun x=>match x with|(a1,a2,())=>some (a1.1==a2)
noncomputable def w7:ElA [.d (.sl j1), .clo 178 [(true, .str)]]→Option (RTy.El (.p tI)):=fun x=>match x with|(a1,(a2,()),())=>qM (zL (fun (s6:Int)=>bif decide (s6< (↑(List.length a1):Int)) then Option.bind (idx a1 s6) fun (y7:Ty.El j1)=>Option.bind (zA0 (y7,a2,())) fun (y8:Bool)=>bif y8 then some (Sum.inr (Sum.inr s6)) else some (Sum.inl (IntKind.wrap .i64 (s6+(1:Int)))) else some (Sum.inr (Sum.inl ()))) (0:Int)) fun (s9:Unit)=>some (-1:Int)
noncomputable def zAI:ElS [zF, .str]→Option (RTy.El (.p tI)):=fun x=>match x with|(a1,a2,())=>Option.bind (w7 (a1.2.2.2.1,(a2,()),())) fun (y0:Int)=>some y0
noncomputable def zBG:ElS [zG,zG]→Option (RTy.El (.p .bool)):=fun x=>match x with|(a1,a2,())=>Option.bind (bif decide (a1.2.1≤a2.2.1) then Option.bind (wR (a1,a2.1,())) fun (y1:Bool)=>some y1 else some false) fun (s2:Bool)=>some s2
noncomputable def zAo:ElS [x6,zG]→Option (RTy.El (.p .bool)):=fun x=>match x with|(a1,a2,())=>Option.bind (Option.bind (zBG (a1.2.1,a2,())) fun (y1:Bool)=>bif y1 then bif decide (a1.2.2.1≤a2.2.1) then some (decide (a2.2.1≤a1.2.2.2.1)) else some false else some false) fun (s2:Bool)=>some s2
noncomputable def zDS:ElS [j1,zG]→Option (RTy.El (.p tI)):=fun x=>match x with|(a1,a2,())=>qM (zL (fun (s6:Int)=>bif decide (s6< (↑(List.length a1.2.1):Int)) then Option.bind (idx a1.2.1 s6) fun (y7:Ty.El x6)=>Option.bind (zAo (y7,a2,())) fun (y8:Bool)=>bif y8 then some (Sum.inr (Sum.inr s6)) else some (Sum.inl (IntKind.wrap .i64 (s6+(1:Int)))) else some (Sum.inr (Sum.inl ()))) (0:Int)) fun (s9:Unit)=>some (-1:Int)
noncomputable def zB9:ElS [zF, .str,zG]→Option (RTy.El (.p .bool)):=fun x=>match x with|(a1,a2,a3,())=>bif a2== { data:= #[] } then some true else Option.bind (zAI (a1,a2,())) fun (y0:Int)=>bif decide (y0< (0:Int)) then some false else Option.bind (idx a1.2.2.2.1 y0) fun (y3:Ty.El j1)=>Option.bind (zDS (y3,a3,())) fun (y4:Int)=>Option.bind (bif decide (y4≥(0:Int)) then Option.bind (idx a1.2.2.2.1 y0) fun (y7:Ty.El j1)=>Option.bind (idx y7.2.1 y4) fun (y8:Ty.El x6)=>some y8.1 else some false) fun (s9:Bool)=>some s9
noncomputable def zBj:ElS [zN,tI,tI]→Option (RTy.El (.p (.sl zO))):=fun x=>match x with|(a1,a2,a3,())=>Option.bind (zFH (a1,a2,a3,())) fun (y0:Bool)=>bif !y0 then some [] else Option.bind (zAH (a1,a2,a3,())) fun (y3:Int)=>Option.bind (idx a1.2.1.1 y3) fun (y4:Ty.El uZ)=>Option.bind (zL (fun (s18:Int×List (Ty.El zO))=>bif decide (s18.1< (↑(List.length y4.2.2.1):Int)) then Option.bind (Option.bind (idx y4.2.2.1 s18.1) fun (y19:Ty.El zO)=>bif y19.1 !=a2 then Option.bind (idx y4.2.2.1 s18.1) fun (y20:Ty.El zO)=>Option.bind (app (16:Nat) s18.2 [y20]) fun (y21:List (Ty.El zO))=>some y21 else some s18.2) fun (s22:List (Ty.El zO))=>some (Sum.inl (IntKind.wrap .i64 (s18.1+(1:Int)),s22)) else some (Sum.inr s18.2)) ((0:Int),[])) fun (s23:List (Ty.El zO))=>some s23
noncomputable def zLt:ElS [zN,zO]→Option (RTy.El (.p qA)):=fun x=>match x with|(a1,a2,())=>Option.bind (idx a1.1.1 a2.1) fun (y2:Ty.El zF)=>Option.bind (idx y2.2.2.1 a2.2.1) fun (y3:Ty.El qA)=>some y3
noncomputable def zCO:ElS [(.sl zB),zG]→Option (RTy.El (.p tI)):=fun x=>match x with|(a1,a2,())=>qM (zL (fun (s5:Int)=>bif decide (s5< (↑(List.length a1):Int)) then Option.bind (idx a1 s5) fun (y6:Ty.El zB)=>bif y6.1.1==a2.1&&(y6.1.2.1==a2.2.1&&true) then some (Sum.inr (Sum.inr s5)) else some (Sum.inl (IntKind.wrap .i64 (s5+(1:Int)))) else some (Sum.inr (Sum.inl ()))) (0:Int)) fun (s7:Unit)=>some (-1:Int)
noncomputable def kH:ElS [x6,zG]→Option (RTy.El (.p .bool)):=fun x=>match x with|(a1,a2,())=>Option.bind (Option.bind (wY (a1.2.1,a2,())) fun (y1:Bool)=>bif y1 then bif decide (a1.2.2.1≤a2.2.1) then some (decide (a2.2.1≤a1.2.2.2.1)) else some false else some false) fun (s2:Bool)=>some s2
noncomputable def zAE:ElS [j1,zG]→Option (RTy.El (.p tI)):=fun x=>match x with|(a1,a2,())=>qM (zL (fun (s8:Int)=>bif decide (s8< (↑(List.length a1.2.1):Int)) then Option.bind (idx a1.2.1 s8) fun (y9:Ty.El x6)=>Option.bind (kH (y9,a2,())) fun (y10:Bool)=>bif y10 then some (Sum.inr (Sum.inr s8)) else some (Sum.inl (IntKind.wrap .i64 (s8+(1:Int)))) else some (Sum.inr (Sum.inl ()))) (0:Int)) fun (s11:Unit)=>some (-1:Int)
noncomputable def xJ:ElS [zF, .str,zG]→Option (RTy.El (.p .bool)):=fun x=>match x with|(a1,a2,a3,())=>bif a2== { data:= #[] } then some true else Option.bind (jX (a1,a2,())) fun (y0:Int)=>bif decide (y0< (0:Int)) then some false else Option.bind (idx a1.2.2.2.1 y0) fun (y3:Ty.El j1)=>Option.bind (zAE (y3,a3,())) fun (y4:Int)=>Option.bind (bif decide (y4≥(0:Int)) then Option.bind (idx a1.2.2.2.1 y0) fun (y7:Ty.El j1)=>Option.bind (idx y7.2.1 y4) fun (y8:Ty.El x6)=>some y8.1 else some false) fun (s9:Bool)=>some s9
noncomputable def zBo:ElS [zF,tU,tI]→Option (RTy.El (.p tI)):=fun x=>match x with|(a1,a2,a3,())=>qM (zL (fun (s10:Int)=>bif decide (s10< (↑(List.length a1.2.2.2.2.2.2.2.2.2.2.1.2.2.2.1):Int)) then Option.bind (Option.bind (idx a1.2.2.2.2.2.2.2.2.2.2.1.2.2.2.1 s10) fun (y11:Ty.El zT)=>bif y11.1==a2 then Option.bind (idx a1.2.2.2.2.2.2.2.2.2.2.1.2.2.2.1 s10) fun (y12:Ty.El zT)=>some (y12.2.1==a3) else some false) fun (s13:Bool)=>bif s13 then some (Sum.inr (Sum.inr s10)) else some (Sum.inl (IntKind.wrap .i64 (s10+(1:Int)))) else some (Sum.inr (Sum.inl ()))) (0:Int)) fun (s14:Unit)=>some (-1:Int)
noncomputable def zB3:ElS [zN]→Option (RTy.El (.p (.sl zK))):=fun x=>match x with|(a1,())=>Option.bind (zL (fun (s128:Int×List (Ty.El zK))=>bif decide (s128.1< (↑(List.length a1.1.1):Int)) then Option.bind (Option.bind (idx a1.1.1 s128.1) fun (y129:Ty.El zF)=>zL (fun (s130:Int×List (Ty.El zK))=>Option.bind (bif y129.2.2.2.2.2.2.2.2.2.2.1.1 then some (decide (s130.1< (↑(List.length y129.2.2.1):Int)),s130.2) else some (false,s130.2)) fun (s131:Bool×List (Ty.El zK))=>bif s131.1 then Option.bind (Option.bind (zBj (a1,s128.1,s130.1,())) fun (y132:List (Ty.El zO))=>zL (fun (s133:Int×List (Ty.El zK))=>bif decide (s133.1< (↑(List.length y132):Int)) then Option.bind (Option.bind (idx y132 s133.1) fun (y134:Ty.El zO)=>Option.bind (idx a1.1.1 y134.1) fun (y135:Ty.El zF)=>Option.bind (bif y135.2.2.2.2.2.2.2.2.2.2.1.1 then Option.bind (idx y132 s133.1) fun (y136:Ty.El zO)=>Option.bind (zLt (a1,y136,())) fun (y137:ByteArray×Int×Int×Int×Bool×Bool×Int×Int×Bool×ByteArray×ByteArray×Int×Unit)=>Option.bind (zBo (y129,y137.2.1,y135.2.1,())) fun (y138:Int)=>bif decide (y138≥(0:Int)) then Option.bind (idx y129.2.2.1 s130.1) fun (y139:Ty.El qA)=>Option.bind (zBo (y135,y139.2.1,y129.2.1,())) fun (y140:Int)=>some (decide (y140≥(0:Int)),s133.2) else some (false,s133.2) else some (false,s133.2)) fun (s141:Bool×List (Ty.El zK))=>bif s141.1 then Option.bind (idx y132 s133.1) fun (y142:Ty.El zO)=>Option.bind (idx y132 s133.1) fun (y143:Ty.El zO)=>Option.bind (app (40:Nat) s141.2 [(y142.1,y143.2.1,s128.1,s130.1,y129.2.1==y135.2.1,())]) fun (y144:List (Ty.El zK))=>some y144 else some s141.2) fun (s145:List (Ty.El zK))=>some (Sum.inl (IntKind.wrap .i64 (s133.1+(1:Int)),s145)) else some (Sum.inr s133.2)) ((0:Int),s131.2)) fun (s146:List (Ty.El zK))=>some (Sum.inl (IntKind.wrap .i64 (s130.1+(1:Int)),s146)) else some (Sum.inr s131.2)) ((0:Int),s128.2)) fun (s147:List (Ty.El zK))=>some (Sum.inl (IntKind.wrap .i64 (s128.1+(1:Int)),s147)) else some (Sum.inr s128.2)) ((0:Int),[])) fun (s148:List (Ty.El zK))=>some s148
noncomputable def jG:ElS [zN,tI,tI]→Option (RTy.El (.tu [qA, .bool])):=fun x=>match x with|(a1,a2,a3,())=>Option.bind (bif decide (a2< (0:Int)) then some true else bif decide (a2≥(↑(List.length a1.1.1):Int)) then some true else bif decide (a3< (0:Int)) then some true else Option.bind (idx a1.1.1 a2) fun (y1:Ty.El zF)=>some (decide (a3≥(↑(List.length y1.2.2.1):Int)))) fun (s2:Bool)=>bif s2 then some (({ data:= #[] },(0:Int),(0:Int),(0:Int),false,false,(0:Int),(0:Int),false, { data:= #[] }, { data:= #[] },(0:Int),()),false,()) else Option.bind (idx a1.1.1 a2) fun (y3:Ty.El zF)=>Option.bind (idx y3.2.2.1 a3) fun (y4:Ty.El qA)=>some (y4,true,())
noncomputable def jS:ElS [zG,zG]→Option (RTy.El (.p .bool)):=fun x=>match x with|(a1,a2,())=>Option.bind (bif decide (a1.2.1>a2.2.1) then Option.bind (zBG (a2,a1,())) fun (y1:Bool)=>some y1 else some false) fun (s2:Bool)=>some s2
noncomputable def uC:ElS [zF,zG]→Option (RTy.El (.p .bool)):=fun x=>match x with|(a1,a2,())=>qM (zL (fun (s9:Int)=>bif decide (s9< (↑(List.length a1.2.2.2.2.2.2.2.2.2.2.1.2.2.2.2.2.1):Int)) then Option.bind (idx a1.2.2.2.2.2.2.2.2.2.2.1.2.2.2.2.2.1 s9) fun (y10:Ty.El q8)=>Option.bind (bif y10.2.1 then Option.bind (jS (a2,y10.1,())) fun (y11:Bool)=>some y11 else some false) fun (s12:Bool)=>bif s12 then some (Sum.inr (Sum.inr true)) else some (Sum.inl (IntKind.wrap .i64 (s9+(1:Int)))) else some (Sum.inr (Sum.inl ()))) (0:Int)) fun (s13:Unit)=>some false
noncomputable def kN:ElS [(.sl zT)]→Option (RTy.El (.p (.sl zT))):=fun x=>match x with|(a1,())=>Option.bind (app (48:Nat) [] a1) fun (z:List (Ty.El zT))=>some z
noncomputable def j8:ElS [zF,tU]→Option (RTy.El (.tu [zT, .bool])):=fun x=>match x with|(a1,a2,())=>qM (Option.bind (kN (a1.2.2.2.2.2.2.2.2.2.2.1.2.2.2.1,())) fun (y5:List (Ty.El zT))=>zL (fun (s6:Int×Ty.El zT)=>bif decide (s6.1< (↑(List.length y5):Int)) then Option.bind (idx y5 s6.1) fun (y7:Ty.El zT)=>bif y7.1==a2 then some (Sum.inr (Sum.inr (y7,true,()))) else some (Sum.inl (IntKind.wrap .i64 (s6.1+(1:Int)),s6.2)) else some (Sum.inr (Sum.inl s6.2))) ((0:Int),(0:Int),(0:Int), { data:= #[] }, { data:= #[] },())) fun (s8:Ty.El zT)=>some (((0:Int),(0:Int), { data:= #[] }, { data:= #[] },()),false,())
noncomputable def jY:ElS [(.sl tI)]→Option (RTy.El (.p (.sl tI))):=fun x=>match x with|(a1,())=>Option.bind (app (8:Nat) [] a1) fun (z:List (Ty.El tI))=>some z
noncomputable def zAA:ElS [(.sl qB)]→Option (RTy.El (.p (.sl qB))):=fun x=>match x with|(a1,())=>Option.bind (app (16:Nat) [] a1) fun (z:List (Ty.El qB))=>some z
noncomputable def zCh:ElA [.d vO, .pp .str]→Option (RTy.El (.p .bool)):=fun x=>match x with|(a1,a2,())=>some (a1.1==a2)
noncomputable def vK:ElA [.d (.sl vO), .clo 201 [(true, .str)]]→Option (RTy.El (.p tI)):=fun x=>match x with|(a1,(a2,()),())=>qM (zL (fun (s6:Int)=>bif decide (s6< (↑(List.length a1):Int)) then Option.bind (idx a1 s6) fun (y7:Ty.El vO)=>Option.bind (zCh (y7,a2,())) fun (y8:Bool)=>bif y8 then some (Sum.inr (Sum.inr s6)) else some (Sum.inl (IntKind.wrap .i64 (s6+(1:Int)))) else some (Sum.inr (Sum.inl ()))) (0:Int)) fun (s9:Unit)=>some (-1:Int)
noncomputable def yU:ElS [zF, .str]→Option (RTy.El (.p tI)):=fun x=>match x with|(a1,a2,())=>Option.bind (vK (a1.2.2.2.2.1,(a2,()),())) fun (y0:Int)=>some y0
noncomputable def zA9:ElS [zF, .str,zB]→Option (RTy.El (.p tI)):=fun x=>match x with|(a1,a2,a3,())=>Option.bind (yU (a1,a2,())) fun (y0:Int)=>bif decide (y0< (0:Int)) then some (-1:Int) else qM (Option.bind (idx a1.2.2.2.2.1 y0) fun (y11:Ty.El vO)=>zL (fun (s12:Int)=>bif decide (s12< (↑(List.length y11.2.1):Int)) then Option.bind (idx y11.2.1 s12) fun (y13:Ty.El vD)=>Option.bind (Option.bind (zB9 (a1,y13.2.1,a3.1,())) fun (y14:Bool)=>bif y14 then bif y13.2.2.1==(-1:Int) then some true else some (y13.2.2.1==a3.2.2.2.2.2.2.1) else some false) fun (s15:Bool)=>bif s15 then some (Sum.inr (Sum.inr s12)) else some (Sum.inl (IntKind.wrap .i64 (s12+(1:Int)))) else some (Sum.inr (Sum.inl ()))) (0:Int)) fun (s16:Unit)=>some (-1:Int)
noncomputable def uB:ElS [zF, .str,zB]→Option (RTy.El (.tu [vD, .bool])):=fun x=>match x with|(a1,a2,a3,())=>Option.bind (zA9 (a1,a2,a3,())) fun (y0:Int)=>bif decide (y0< (0:Int)) then some ((false, { data:= #[] },(0:Int),(0:Int),(0:Int),(0:Int),(0:Int),()),false,()) else Option.bind (yU (a1,a2,())) fun (y4:Int)=>Option.bind (idx a1.2.2.2.2.1 y4) fun (y5:Ty.El vO)=>Option.bind (idx y5.2.1 y0) fun (y6:Ty.El vD)=>some (y6,y6.1,())
noncomputable def zCa:ElS [zF, .str,zB]→Option (RTy.El (.tu [zB, .bool])):=fun x=>match x with|(a1,a2,a3,())=>Option.bind (jY (a3.2.2.2.2.2.2.2.2.1,())) fun (y0:List Int)=>Option.bind (zAA (a3.2.2.2.2.2.2.2.2.2.2.2.1,())) fun (y1:List (Ty.El qB))=>bif a2== { data:= #[] } then some ((a3.1,a3.2.1,a3.2.2.1,a3.2.2.2.1,a3.2.2.2.2.1,a3.2.2.2.2.2.1,a3.2.2.2.2.2.2.1,a3.2.2.2.2.2.2.2.1,y0,a3.2.2.2.2.2.2.2.2.2.1,a3.2.2.2.2.2.2.2.2.2.2.1,y1,a3.2.2.2.2.2.2.2.2.2.2.2.2),true,()) else Option.bind (uB (a1,a2,(a3.1,a3.2.1,a3.2.2.1,a3.2.2.2.1,a3.2.2.2.2.1,a3.2.2.2.2.2.1,a3.2.2.2.2.2.2.1,a3.2.2.2.2.2.2.2.1,y0,a3.2.2.2.2.2.2.2.2.2.1,a3.2.2.2.2.2.2.2.2.2.2.1,y1,a3.2.2.2.2.2.2.2.2.2.2.2.2),())) fun (y2:Ty.El vD×Bool×Unit)=>bif !y2.2.1 then some ((((0:Int),(0:Int),()),(0:Int),(0:Int),(0:Int),(0:Int),(0:Int),(0:Int),(0:Int),[],(0:Int),(0:Int),[],false,()),false,()) else Option.bind (bif y2.1.2.2.2.1 !=(-1:Int) then some (a3.1,a3.2.1,a3.2.2.1,a3.2.2.2.1,y2.1.2.2.2.1,a3.2.2.2.2.2.1,a3.2.2.2.2.2.2.1,a3.2.2.2.2.2.2.2.1,y0,a3.2.2.2.2.2.2.2.2.2.1,a3.2.2.2.2.2.2.2.2.2.2.1,y1,a3.2.2.2.2.2.2.2.2.2.2.2.2) else some (a3.1,a3.2.1,a3.2.2.1,a3.2.2.2.1,a3.2.2.2.2.1,a3.2.2.2.2.2.1,a3.2.2.2.2.2.2.1,a3.2.2.2.2.2.2.2.1,y0,a3.2.2.2.2.2.2.2.2.2.1,a3.2.2.2.2.2.2.2.2.2.2.1,y1,a3.2.2.2.2.2.2.2.2.2.2.2.2)) fun (s3:Ty.El zB)=>Option.bind (bif y2.1.2.2.2.2.1 !=(-1:Int) then some (s3.1,s3.2.1,s3.2.2.1,s3.2.2.2.1,s3.2.2.2.2.1,s3.2.2.2.2.2.1,y2.1.2.2.2.2.1,s3.2.2.2.2.2.2.2) else some s3) fun (s4:Ty.El zB)=>Option.bind (bif y2.1.2.2.2.2.2.1 !=(-1:Int) then some (s4.1,s4.2.1,s4.2.2.1,s4.2.2.2.1,s4.2.2.2.2.1,s4.2.2.2.2.2.1,s4.2.2.2.2.2.2.1,y2.1.2.2.2.2.2.1,s4.2.2.2.2.2.2.2.2) else some s4) fun (s5:Ty.El zB)=>some (s5,true,())
noncomputable def zB8:ElS [zF, .str,zB]→Option (RTy.El (.p tI)):=fun x=>match x with|(a1,a2,a3,())=>Option.bind (uB (a1,a2,a3,())) fun (y0:Ty.El vD×Bool×Unit)=>bif !y0.2.1 then some (0:Int) else some y0.1.2.2.2.2.2.2.1
noncomputable def zAe:ElS [zN,zK,zB]→Option (RTy.El (.tu [zB, .bool])):=fun x=>match x with|(a1,a2,a3,())=>Option.bind (jG (a1,a2.2.2.1,a2.2.2.2.1,())) fun (y0:Ty.El qA×Bool×Unit)=>Option.bind (bif !y0.2.1 then some true else bif decide (a2.1< (0:Int)) then some true else some (decide (a2.1≥(↑(List.length a1.1.1):Int)))) fun (s1:Bool)=>bif s1 then some ((((0:Int),(0:Int),()),(0:Int),(0:Int),(0:Int),(0:Int),(0:Int),(0:Int),(0:Int),[],(0:Int),(0:Int),[],false,()),false,()) else Option.bind (idx a1.1.1 a2.1) fun (y2:Ty.El zF)=>Option.bind (bif a3.2.2.1==(4:Int) then bif a2.2.2.2.2.1 then some true else Option.bind (uC (y2,a3.1,())) fun (y5:Bool)=>some y5 else Option.bind (uC (y2,a3.1,())) fun (y6:Bool)=>some y6) fun (s7:Bool)=>bif s7 then some ((((0:Int),(0:Int),()),(0:Int),(0:Int),(0:Int),(0:Int),(0:Int),(0:Int),(0:Int),[],(0:Int),(0:Int),[],false,()),false,()) else Option.bind (j8 (y2,y0.1.2.1,())) fun (y8:Ty.El zT×Bool×Unit)=>bif !y8.2.1 then some ((((0:Int),(0:Int),()),(0:Int),(0:Int),(0:Int),(0:Int),(0:Int),(0:Int),(0:Int),[],(0:Int),(0:Int),[],false,()),false,()) else Option.bind (bif !a2.2.2.2.2.1 then some (a3.1,a3.2.1,a3.2.2.1,a3.2.2.2.1,(0:Int),a3.2.2.2.2.2) else some a3) fun (s9:Ty.El zB)=>Option.bind (zCa (y2,y8.1.2.2.2.1,s9,())) fun (y10:Ty.El zB×Bool×Unit)=>bif !y10.2.1 then some ((((0:Int),(0:Int),()),(0:Int),(0:Int),(0:Int),(0:Int),(0:Int),(0:Int),(0:Int),[],(0:Int),(0:Int),[],false,()),false,()) else bif a2.2.2.2.2.1 then Option.bind (jY (s9.2.2.2.2.2.2.2.2.1,())) fun (y11:List Int)=>some ((s9.1,(5:Int),(0:Int),(0:Int),y10.1.2.2.2.2.1,(0:Int),y10.1.2.2.2.2.2.2.1,y10.1.2.2.2.2.2.2.2.1,y11,(0:Int),(0:Int),[],false,()),true,()) else Option.bind (zB8 (y2,y8.1.2.2.2.1,s9,())) fun (y12:Int)=>bif decide (IntKind.wrap .i64 (IntKind.wrap .i64 ((1:Int)+y12)+(↑(List.length s9.2.2.2.2.2.2.2.2.1):Int))>(64:Int)) then some ((((0:Int),(0:Int),()),(0:Int),(0:Int),(0:Int),(0:Int),(0:Int),(0:Int),(0:Int),[],(0:Int),(0:Int),[],false,()),false,()) else Option.bind (zL (fun (s19:Int×Int×Int×Int×Int×Int×Int×Int×Int×Int×List Int×Int×Int×List (Ty.El qB)×Bool)=>bif decide (s19.1<IntKind.wrap .i64 ((1:Int)+y12)) then Option.bind (app (8:Nat) s19.2.2.2.2.2.2.2.2.2.2.1 [y2.2.1]) fun (y20:List Int)=>some (Sum.inl (IntKind.wrap .i64 (s19.1+(1:Int)),s19.2.1,s19.2.2.1,s19.2.2.2.1,s19.2.2.2.2.1,s19.2.2.2.2.2.1,s19.2.2.2.2.2.2.1,s19.2.2.2.2.2.2.2.1,s19.2.2.2.2.2.2.2.2.1,s19.2.2.2.2.2.2.2.2.2.1,y20,s19.2.2.2.2.2.2.2.2.2.2.2)) else some (Sum.inr s19.2)) ((0:Int),s9.1.1,s9.1.2.1,(5:Int),(0:Int),(0:Int),y10.1.2.2.2.2.1,(0:Int),y10.1.2.2.2.2.2.2.1,(0:Int),[],(0:Int),(0:Int),[],false)) fun (s21:Int×Int×Int×Int×Int×Int×Int×Int×Int×List Int×Int×Int×List (Ty.El qB)×Bool)=>Option.bind (app (8:Nat) s21.2.2.2.2.2.2.2.2.2.1 s9.2.2.2.2.2.2.2.2.1) fun (y22:List Int)=>some (((s21.1,s21.2.1,()),s21.2.2.1,s21.2.2.2.1,s21.2.2.2.2.1,s21.2.2.2.2.2.1,s21.2.2.2.2.2.2.1,s21.2.2.2.2.2.2.2.1,(100:Int),y22,s21.2.2.2.2.2.2.2.2.2.2.1,s21.2.2.2.2.2.2.2.2.2.2.2.1,s21.2.2.2.2.2.2.2.2.2.2.2.2.1,s21.2.2.2.2.2.2.2.2.2.2.2.2.2,()),true,())
noncomputable def zAd:ElS [zN,zK,zB]→Option (RTy.El (.tu [zB, .bool])):=fun x=>match x with|(a1,a2,a3,())=>Option.bind (jG (a1,a2.1,a2.2.1,())) fun (y0:Ty.El qA×Bool×Unit)=>Option.bind (bif !y0.2.1 then some true else bif decide (a2.2.2.1< (0:Int)) then some true else some (decide (a2.2.2.1≥(↑(List.length a1.1.1):Int)))) fun (s1:Bool)=>bif s1 then some ((((0:Int),(0:Int),()),(0:Int),(0:Int),(0:Int),(0:Int),(0:Int),(0:Int),(0:Int),[],(0:Int),(0:Int),[],false,()),false,()) else Option.bind (idx a1.1.1 a2.2.2.1) fun (y2:Ty.El zF)=>Option.bind (vP (a3.2.2.2.2.2.2.2.2.1,y2.2.1,())) fun (y3:Bool)=>bif y3 then some ((((0:Int),(0:Int),()),(0:Int),(0:Int),(0:Int),(0:Int),(0:Int),(0:Int),(0:Int),[],(0:Int),(0:Int),[],false,()),false,()) else Option.bind (j8 (y2,y0.1.2.1,())) fun (y4:Ty.El zT×Bool×Unit)=>bif !y4.2.1 then some ((((0:Int),(0:Int),()),(0:Int),(0:Int),(0:Int),(0:Int),(0:Int),(0:Int),(0:Int),[],(0:Int),(0:Int),[],false,()),false,()) else Option.bind (zCa (y2,y4.1.2.2.1,a3,())) fun (y5:Ty.El zB×Bool×Unit)=>bif !y5.2.1 then some ((((0:Int),(0:Int),()),(0:Int),(0:Int),(0:Int),(0:Int),(0:Int),(0:Int),(0:Int),[],(0:Int),(0:Int),[],false,()),false,()) else Option.bind (jY (a3.2.2.2.2.2.2.2.2.1,())) fun (y7:List Int)=>Option.bind (bif a2.2.2.2.2.1 then some (a3.1,(5:Int),(4:Int),y2.2.2.2.2.2.2.2.2.2.2.1.2.2.1,y5.1.2.2.2.2.1,(0:Int),y5.1.2.2.2.2.2.2.1,y5.1.2.2.2.2.2.2.2.1,y7,y0.1.2.1,(0:Int),[(a2.2.2.2.1,y0.1.2.1,())],false,()) else some (a3.1,(5:Int),(3:Int),y2.2.2.2.2.2.2.2.2.2.2.1.2.1,y5.1.2.2.2.2.1,(0:Int),y5.1.2.2.2.2.2.2.1,y5.1.2.2.2.2.2.2.2.1,y7,y0.1.2.1,(0:Int),[(a2.2.2.2.1,y0.1.2.1,())],false,())) fun (s8:Ty.El zB)=>some (s8,true,())
noncomputable def yQ:ElS [zF,tU,tI]→Option (RTy.El (.p .bool)):=fun x=>match x with|(a1,a2,a3,())=>Option.bind (j8 (a1,a2,())) fun (y0:Ty.El zT×Bool×Unit)=>Option.bind (bif y0.2.1 then some (y0.1.2.1==a3) else some false) fun (s1:Bool)=>some s1
noncomputable def wK:ElS [zN,tI,tI]→Option (RTy.El (.p (.sl zK))):=fun x=>match x with|(a1,a2,a3,())=>Option.bind (idx a1.1.1 a2) fun (y0:Ty.El zF)=>Option.bind (jG (a1,a2,a3,())) fun (y1:Ty.El qA×Bool×Unit)=>bif !y0.2.2.2.2.2.2.2.2.2.2.1.1 then some [] else Option.bind (Option.bind (zBO (a1,a2,a3,())) fun (y30:List (Ty.El zO))=>zL (fun (s31:Int×List (Ty.El zK))=>bif decide (s31.1< (↑(List.length y30):Int)) then Option.bind (Option.bind (idx y30 s31.1) fun (y32:Ty.El zO)=>Option.bind (jG (a1,y32.1,y32.2.1,())) fun (y33:Ty.El qA×Bool×Unit)=>bif !y33.2.1 then some s31.2 else Option.bind (idx a1.1.1 y32.1) fun (y34:Ty.El zF)=>Option.bind (bif y34.2.2.2.2.2.2.2.2.2.2.1.1 then Option.bind (yQ (y0,y33.1.2.1,y34.2.1,())) fun (y35:Bool)=>bif y35 then Option.bind (yQ (y34,y1.1.2.1,y0.2.1,())) fun (y36:Bool)=>some (y36,s31.2) else some (false,s31.2) else some (false,s31.2)) fun (s37:Bool×List (Ty.El zK))=>bif s37.1 then Option.bind (app (40:Nat) s37.2 [(y32.1,y32.2.1,a2,a3,y34.2.1==y0.2.1,())]) fun (y38:List (Ty.El zK))=>some y38 else some s37.2) fun (s39:List (Ty.El zK))=>some (Sum.inl (IntKind.wrap .i64 (s31.1+(1:Int)),s39)) else some (Sum.inr s31.2)) ((0:Int),[])) fun (s40:List (Ty.El zK))=>some s40
noncomputable def yA:ElS [zN]→Option (RTy.El (.p (.sl zK))):=fun x=>match x with|(a1,())=>Option.bind (zL (fun (s19:Int×List (Ty.El zK))=>bif decide (s19.1< (↑(List.length a1.1.1):Int)) then Option.bind (Option.bind (idx a1.1.1 s19.1) fun (y20:Ty.El zF)=>zL (fun (s21:Int×List (Ty.El zK))=>bif decide (s21.1< (↑(List.length y20.2.2.1):Int)) then Option.bind (wK (a1,s19.1,s21.1,())) fun (y22:List (Ty.El zK))=>Option.bind (app (40:Nat) s21.2 y22) fun (y23:List (Ty.El zK))=>some (Sum.inl (IntKind.wrap .i64 (s21.1+(1:Int)),y23)) else some (Sum.inr s21.2)) ((0:Int),s19.2)) fun (s24:List (Ty.El zK))=>some (Sum.inl (IntKind.wrap .i64 (s19.1+(1:Int)),s24)) else some (Sum.inr s19.2)) ((0:Int),[])) fun (s25:List (Ty.El zK))=>some s25
noncomputable def zBy:ElS [zF, .str,zB]→Option (RTy.El (.p tI)):=fun x=>match x with|(a1,a2,a3,())=>Option.bind (jC (a1,a2,())) fun (y0:Int)=>bif decide (y0< (0:Int)) then some (-1:Int) else qM (zL (fun (s14:Int)=>Option.bind (idx a1.2.2.2.2.1 y0) fun (y15:Ty.El vO)=>bif decide (s14< (↑(List.length y15.2.1):Int)) then Option.bind (idx a1.2.2.2.2.1 y0) fun (y16:Ty.El vO)=>Option.bind (idx y16.2.1 s14) fun (y17:Ty.El vD)=>Option.bind (Option.bind (xJ (a1,y17.2.1,a3.1,())) fun (y18:Bool)=>bif y18 then bif y17.2.2.1==(-1:Int) then some true else some (y17.2.2.1==a3.2.2.2.2.2.2.1) else some false) fun (s19:Bool)=>bif s19 then some (Sum.inr (Sum.inr s14)) else some (Sum.inl (IntKind.wrap .i64 (s14+(1:Int)))) else some (Sum.inr (Sum.inl ()))) (0:Int)) fun (s20:Unit)=>some (-1:Int)
noncomputable def zEm:ElS [zF, .str,zB]→Option (RTy.El (.tu [zB, .bool])):=fun x=>match x with|(a1,a2,a3,())=>bif a2== { data:= #[] } then some (a3,true,()) else Option.bind (zBy (a1,a2,a3,())) fun (y0:Int)=>bif decide (y0< (0:Int)) then some ((((0:Int),(0:Int),()),(0:Int),(0:Int),(0:Int),(0:Int),(0:Int),(0:Int),(0:Int),[],(0:Int),(0:Int),[],false,()),false,()) else Option.bind (jC (a1,a2,())) fun (y4:Int)=>Option.bind (idx a1.2.2.2.2.1 y4) fun (y5:Ty.El vO)=>Option.bind (idx y5.2.1 y0) fun (y6:Ty.El vD)=>bif !y6.1 then some ((((0:Int),(0:Int),()),(0:Int),(0:Int),(0:Int),(0:Int),(0:Int),(0:Int),(0:Int),[],(0:Int),(0:Int),[],false,()),false,()) else Option.bind (bif decide (y6.2.2.2.1≥(0:Int)) then some (a3.1,a3.2.1,a3.2.2.1,a3.2.2.2.1,y6.2.2.2.1,a3.2.2.2.2.2) else some a3) fun (s7:Ty.El zB)=>Option.bind (bif decide (y6.2.2.2.2.1≥(0:Int)) then some (s7.1,s7.2.1,s7.2.2.1,s7.2.2.2.1,s7.2.2.2.2.1,s7.2.2.2.2.2.1,y6.2.2.2.2.1,s7.2.2.2.2.2.2.2) else some s7) fun (s8:Ty.El zB)=>Option.bind (bif decide (y6.2.2.2.2.2.1≥(0:Int)) then some (s8.1,s8.2.1,s8.2.2.1,s8.2.2.2.1,s8.2.2.2.2.1,s8.2.2.2.2.2.1,s8.2.2.2.2.2.2.1,y6.2.2.2.2.2.1,s8.2.2.2.2.2.2.2.2) else some s8) fun (s9:Ty.El zB)=>some (s9,true,())
noncomputable def zB2:ElS [zF, .str,zB]→Option (RTy.El (.p tI)):=fun x=>match x with|(a1,a2,a3,())=>Option.bind (zBy (a1,a2,a3,())) fun (y0:Int)=>bif decide (y0< (0:Int)) then some (0:Int) else Option.bind (jC (a1,a2,())) fun (y4:Int)=>Option.bind (idx a1.2.2.2.2.1 y4) fun (y5:Ty.El vO)=>Option.bind (idx y5.2.1 y0) fun (y6:Ty.El vD)=>bif !y6.1 then some (0:Int) else some y6.2.2.2.2.2.2.1
end Go.Ve

namespace Go.Ve
open Go
def Wp {α:Type} (m:Option α) (Q:α→Prop):Prop:= ∃r,m=some r∧Q r
section
variable {α β ρ σ:Type}
theorem Wp.mono {m:Option α} {Q Q':α→Prop} (h:Wp m Q) (hq: ∀r,Q r→Q' r):Wp m Q':=by
 obtain ⟨r,h1,h2⟩:=h;exact ⟨r,h1,hq r h2⟩
theorem zA {x:α} {Q:α→Prop} (h:Q x):Wp (some x) Q:=⟨x,rfl,h⟩
theorem zC {m:Option α} {f:α→Option β} {Q:β→Prop} (h:Wp m (fun y=>Wp (f y) Q)):Wp (Option.bind m f) Q:=by
 obtain ⟨y,rfl,h⟩:=h;exact h
theorem zAg {m:Option α} {f:α→Option β} {Q:β→Prop} (h:Wp m (fun _=>True)) (k: ∀y,m=some y→Wp (f y) Q):Wp (Option.bind m f) Q:=by
 obtain ⟨y,rfl,_⟩:=h;exact k y rfl
theorem zD {c:Bool} {x y:Option α} {Q:α→Prop} (h1:c=true→Wp x Q) (h2:c=false→Wp y Q):Wp (bif c then x else y) Q:=by
 cases c
 ·exact h2 rfl
 ·exact h1 rfl
theorem zAV {m:Option α} {f:α→β} {Q:β→Prop} (h:Wp m (fun y=>Q (f y))):Wp (Option.map f m) Q:=by
 obtain ⟨y,rfl,h⟩:=h;exact ⟨_,rfl,h⟩
def wG (P:σ→Prop) (Q:ρ→Prop):σ ⊕ ρ→Prop
 | .inl s=>P s
 | .inr r=>Q r
theorem e2l {P:σ→Prop} {Q:ρ→Prop} {s:σ} (h:P s):wG P Q (.inl s):=h
theorem e2r {P:σ→Prop} {Q:ρ→Prop} {r:ρ} (h:Q r):wG P Q (.inr r):=h
theorem z8 {m:Option (σ ⊕ ρ)} {K:σ→Option ρ} {Q:ρ→Prop} (h:Wp m (wG (fun s=>Wp (K s) Q) Q)):Wp (qM m K) Q:=by
 obtain ⟨o,rfl,h⟩:=h
 cases o with
 |inl s=>exact h
 |inr r=>exact ⟨r,rfl,h⟩
theorem jF {f:σ→Option (σ ⊕ ρ)} {Q:ρ→Prop} (J:σ→Prop) (m:σ→Nat) {s0:σ} (h0:J s0)
  (step: ∀s,J s→Wp (f s) (wG (fun s'=>J s'∧m s'<m s) Q)):Wp (zL f s0) Q:=by
 refine zYp J m Q ?_ h0
 intro s hs
 obtain ⟨o,h1,h2⟩:=step s hs
 refine ⟨o,h1,?_⟩
 cases o with
 |inl s'=>exact h2
 |inr r=>exact h2
theorem wZ {n s0:Int} {body els:Int→Option (Int ⊕ ρ)} {Q:ρ→Prop}
  (step: ∀s,s0≤s→s<n→Wp (body s) (wG (fun s'=>s'=s+1) Q))
  (fin: ∀s,s0≤s→n≤s→Wp (els s) (wG (fun _=>False) Q)):Wp (zL (fun s=>bif decide (s<n) then body s else els s) s0) Q:=by
 refine jF (fun s=>s0≤s) (fun s=>(n-s).toNat) (Int.le_refl _) ?_
 intro s hs
 refine zD ?_ ?_
 ·intro hc
  have hc:s<n:=by simpa using hc
  refine (step s hs hc).mono ?_
  intro o ho
  cases o with
  |inl s'=>have:s'=s+1:=ho;subst this;exact ⟨by omega,by omega⟩
  |inr r=>exact ho
 ·intro hc
  have hc:n≤s:=by simpa using hc
  refine (fin s hs hc).mono ?_
  intro o ho
  cases o with
  |inl s'=>exact ho.elim
  |inr r=>exact ho
theorem qA4 {γ:Type} {n s0:Int} {g0:γ} {body els:Int×γ→Option ((Int×γ) ⊕ ρ)} {Q:ρ→Prop} (J:Int→γ→Prop) (h0:J s0 g0)
  (step: ∀s g,s0≤s→s<n→J s g→Wp (body (s,g)) (wG (fun o=>o.1=s+1∧J (s+1) o.2) Q))
  (fin: ∀s g,s0≤s→n≤s→J s g→Wp (els (s,g)) (wG (fun _=>False) Q)):Wp (zL (fun o=>bif decide (o.1<n) then body o else els o) (s0,g0)) Q:=by
 refine jF (fun o=>s0≤o.1∧J o.1 o.2) (fun o=>(n-o.1).toNat) ⟨Int.le_refl _,h0⟩ ?_
 rintro ⟨s,g⟩ ⟨hs,hj⟩
 refine zD ?_ ?_
 ·intro hc
  have hc:s<n:=by simpa using hc
  refine (step s g hs hc hj).mono ?_
  intro o ho
  cases o with
  |inl s'=>obtain ⟨s1,g1⟩:=s';obtain ⟨h1,h2⟩:=ho;simp only at h1 h2;subst h1;exact ⟨⟨by omega,h2⟩,by simp only;omega⟩
  |inr r=>exact ho
 ·intro hc
  have hc:n≤s:=by simpa using hc
  refine (fin s g hs hc hj).mono ?_
  intro o ho
  cases o with
  |inl s'=>exact ho.elim
  |inr r=>exact ho
theorem wS {xs:List α} {i:Int} {Q:α→Prop} (h0:0≤i) (h1:i<xs.length) (h: ∀y,y∈xs→xs[i.toNat]? =some y→Q y):Wp (idx xs i) Q:=by
 unfold idx
 rw [if_pos h0]
 have hl:i.toNat<xs.length:=by omega
 exact ⟨xs[i.toNat],by simp [hl],h _ (bD hl) (by simp [hl])⟩
theorem x4 {s:ByteArray} {i:Int} {Q:Int→Prop} (h0:0≤i) (h1:i<s.size) (h: ∀y,0≤y→y<256→Q y):Wp (zNI s i) Q:=by
 unfold zNI
 rw [if_pos h0]
 have hl:i.toNat<s.size:=by omega
 refine ⟨(s[i.toNat].toNat:Int),by simp [hl],h _ (by omega) ?_⟩
 have:=s[i.toNat].toNat_lt
 omega
theorem qU {bytes:Nat} {xs ys:List α} {Q:List α→Prop} (h0:(2*(xs.length+ys.length)+1024)*bytes≤140737488355328) (h:Q (xs++ys)):Wp (app bytes xs ys) Q:=by
 unfold app
 rw [if_pos h0]
 exact ⟨_,rfl,h⟩
end
theorem zH {x:Int} (h0: -9223372036854775808≤x) (h1:x<9223372036854775808):IntKind.wrap .i64 x=x:=by
 have e1:((2:Int)^IntKind.bits .i64)=18446744073709551616:=by decide
 have e2:((2:Int)^(IntKind.bits .i64-1))=9223372036854775808:=by decide
 simp only [IntKind.wrap,IntKind.signed,cF,decide_eq_true_eq,e1,e2]
 split<;>omega
theorem zK2 {x:Int} (h0:0≤x) (h1:x<18446744073709551616):IntKind.wrap .u64 x=x:=by
 have e1:((2:Int)^IntKind.bits .u64)=18446744073709551616:=by decide
 simp only [IntKind.wrap,IntKind.signed,Bool.false_and,bz,if_false,e1]
 omega
theorem zJ {α:Type} {p:Prop} [Decidable p] {x y:Option α} {Q:α→Prop} (h1:p→Wp x Q) (h2: ¬p→Wp y Q):Wp (bif decide p then x else y) Q:=by
 by_cases h:p
 ·simp only [h,decide_true,cond_true];exact h1 h
 ·simp only [h,decide_false,cond_false];exact h2 h
theorem wD {α:Type} {p:Prop} [Decidable p] {x y:Option α} {Q:α→Prop} (h1: ¬p→Wp x Q) (h2:p→Wp y Q):Wp (bif !decide p then x else y) Q:=by
 by_cases h:p
 ·simp only [h,decide_true,ce,cond_false];exact h2 h
 ·simp only [h,decide_false,Bool.not_false,cond_true];exact h1 h
end Go.Ve

namespace Go.Ve
open Go
theorem zI {α:Type} {xs:List α} {i:Nat} {x:α} (h:xs[i]? =some x):idx xs (i:Int)=some x:=by
 rw [idx,if_pos (by omega),aR];exact h
theorem qBF {α:Type} {xs:List α} {i:Int} {x:α} (h0:0≤i) (h:xs[i.toNat]? =some x):idx xs i=some x:=by
 rw [idx,if_pos h0];exact h
theorem zY {α:Type} {m:Option α} {x:α} {Q:α→Prop} (h:m=some x) (hq:Q x):Wp m Q:=⟨x,h,hq⟩
section
variable {α γ ρ:Type}
theorem qZ {xs:List α} {g0:γ} {body:Int×γ→Option γ} {Q:γ→Prop} (hl:xs.length<4611686018427387904) (J:Nat→γ→Prop) (h0:J 0 g0)
  (step: ∀i x g,xs[i]? =some x→J i g→Wp (body ((i:Int),g)) (J (i+1))) (fin: ∀g,J xs.length g→Q g):
  Wp (zL (fun s:Int×γ=>bif decide (s.1< (xs.length:Int)) then Option.bind (body s) (fun g=>some (Sum.inl (IntKind.wrap .i64 (s.1+(1:Int)),g))) else some (Sum.inr s.2)) ((0:Int),g0)) Q:=by
 refine jF (fun (s:Int×γ)=> ∃i:Nat,s.1=(i:Int)∧i≤xs.length∧J i s.2) (fun (s:Int×γ)=>((xs.length:Int) -s.1).toNat) ⟨(0:Nat),rfl,aI _,h0⟩ ?_
 rintro ⟨s,g⟩ ⟨i,hi,hle,hj⟩
 simp only at hi
 subst hi
 refine zJ ?_ ?_
 ·intro hc
  have hlt:i<xs.length:=by simp only at hc;omega
  refine zC ((step i xs[i] g (by simp [hlt]) hj).mono ?_)
  intro g' hg'
  refine zA ?_
  refine e2l ⟨⟨i+1,?_,hlt,hg'⟩,?_⟩
  ·simp only;rw [zH (by omega) (by omega)];omega
  ·simp only;rw [zH (by omega) (by omega)];omega
 ·intro hc
  have:i=xs.length:=by simp only at hc;omega
  subst this
  exact zA (e2r (fin _ hj))
theorem zTW {n:Nat} {c:Int×γ→Int} {g0:γ} {body:Int×γ→Option γ} {Q:γ→Prop} (hl:n<4611686018427387904) (J:Nat→γ→Prop) (h0:J 0 g0) (hc: ∀i g,J i g→c ((i:Int),g)=n)
  (step: ∀i g,i<n→J i g→Wp (body ((i:Int),g)) (J (i+1))) (fin: ∀g,J n g→Q g):
  Wp (zL (fun s:Int×γ=>bif decide (s.1<c s) then Option.bind (body s) (fun g=>some (Sum.inl (IntKind.wrap .i64 (s.1+(1:Int)),g))) else some (Sum.inr s.2)) ((0:Int),g0)) Q:=by
 refine jF (fun (s:Int×γ)=> ∃i:Nat,s.1=(i:Int)∧i≤n∧J i s.2) (fun (s:Int×γ)=>((n:Int) -s.1).toNat) ⟨(0:Nat),rfl,aI _,h0⟩ ?_
 rintro ⟨s,g⟩ ⟨i,hi,hle,hj⟩
 simp only at hi
 subst hi
 have hci:=hc i g hj
 refine zJ ?_ ?_
 ·intro hc'
  simp only [hci] at hc'
  have hlt:i<n:=by omega
  refine zC ((step i g hlt hj).mono ?_)
  intro g' hg'
  refine zA ?_
  refine e2l ⟨⟨i+1,?_,hlt,hg'⟩,?_⟩
  ·simp only;rw [zH (by omega) (by omega)];omega
  ·simp only;rw [zH (by omega) (by omega)];omega
 ·intro hc'
  simp only [hci] at hc'
  have:i=n:=by omega
  subst this
  exact zA (e2r (fin _ hj))
theorem uY {xs:List α} {body:Int→Option (Int ⊕ (Unit ⊕ ρ))} {K:Unit→Option ρ} {Q:ρ→Prop} (hl:xs.length<4611686018427387904) (J:Nat→Prop) (h0:J 0)
  (step: ∀i x,xs[i]? =some x→J i→Wp (body (i:Int)) (wG (fun s'=>s'=IntKind.wrap .i64 ((i:Int)+1)∧J (i+1)) (wG (fun _=>False) Q))) (fin:J xs.length→Wp (K ()) Q):
  Wp (qM (zL (fun s:Int=>bif decide (s< (xs.length:Int)) then body s else some (Sum.inr (Sum.inl ()))) (0:Int)) K) Q:=by
 refine z8 ?_
 refine jF (fun (s:Int)=> ∃i:Nat,s=(i:Int)∧i≤xs.length∧J i) (fun (s:Int)=>((xs.length:Int) -s).toNat) ⟨(0:Nat),rfl,aI _,h0⟩ ?_
 rintro s ⟨i,hi,hle,hj⟩
 subst hi
 refine zJ ?_ ?_
 ·intro hc
  have hlt:i<xs.length:=by omega
  refine (step i xs[i] (by simp [hlt]) hj).mono ?_
  intro o ho
  cases o with
  |inl s'=>
   obtain ⟨rfl,h2⟩:=ho
   rw [zH (by omega) (by omega)]
   exact ⟨⟨i+1,by omega,hlt,h2⟩,by omega⟩
  |inr o=>
   cases o with
   |inl _=>exact ho.elim
   |inr r=>exact ho
 ·intro hc
  have:i=xs.length:=by omega
  subst this
  exact zA (e2r (fin hj))
end
def kQ {α:Type} (p:α→Bool) (xs:List α):Int:=
 match xs.findIdx? p with
 |some i=>i
 |none=> -1
theorem zIW {α:Type} {p:α→Bool} {xs:List α} (h: ∀x,x∈xs→p x=false):kQ p xs= -1:=by
 have:xs.findIdx? p=none:=by rw [List.findIdx?_eq_none_iff];exact h
 simp [kQ,this]
theorem zXI {α:Type} {p:α→Bool} {xs:List α} {i:Nat} {x:α} (h:xs[i]? =some x) (hp:p x=true) (hn: ∀j y,j<i→xs[j]? =some y→p y=false):kQ p xs=i:=by
 have hlt:=(ac.1 h).1
 have hx:=(ac.1 h).2
 have:xs.findIdx? p=some i:=by
  rw [cL]
  refine ⟨hlt,by rw [hx];exact hp,?_⟩
  intro j hj
  have:=hn j xs[j] hj (by simp)
  simp [this]
 simp [kQ,this]
theorem zEw {α:Type} (p:α→Bool) (xs:List α):(kQ p xs= -1∧ ∀x,x∈xs→p x=false)∨ ∃i x,kQ p xs=(i:Nat)∧xs[i]? =some x∧p x=true∧ ∀j y,j<i→xs[j]? =some y→p y=false:=by
 cases h:xs.findIdx? p with
 |none=>left;refine ⟨by simp [kQ,h],?_⟩;rw [List.findIdx?_eq_none_iff] at h;exact h
 |some i=>
  right
  rw [cL] at h
  obtain ⟨h1,h2,h3⟩:=h
  have h':xs.findIdx? p=some i:=by rw [cL];exact ⟨h1,h2,h3⟩
  refine ⟨i,xs[i],by simp [kQ,h'],by simp [h1],h2,?_⟩
  intro j y hj hy
  obtain ⟨hjl,rfl⟩:=ac.1 hy
  have:=h3 j hj
  simpa using this
theorem kM {α:Type} {xs:List α} {p:α→Bool} {body:Int→Option (Int ⊕ (Unit ⊕ Int))} {Q:Int→Prop} (hl:xs.length<4611686018427387904)
  (step: ∀ (i:Nat) x,xs[i]? =some x→body (i:Int)=some (bif p x then Sum.inr (Sum.inr (i:Int)) else Sum.inl (IntKind.wrap .i64 ((i:Int)+1)))) (fin:Q (kQ p xs)):
  Wp (qM (zL (fun s:Int=>bif decide (s< (xs.length:Int)) then body s else some (Sum.inr (Sum.inl ()))) (0:Int)) (fun _=>some (-1:Int))) Q:=by
 refine uY hl (fun i=> ∀j y,j<i→xs[j]? =some y→p y=false) (fun j y hj=>by omega) ?_ ?_
 ·intro i x hx hj
  refine zY (step i x hx) ?_
  cases hp:p x with
  |true=>
   simp only [cond_true]
   refine e2r (e2r ?_)
   rw [zXI hx hp hj] at fin
   exact fin
  |false=>
   simp only [cond_false]
   refine e2l ⟨rfl,?_⟩
   intro j y hji hy
   rcases aL j i with h|h
   ·exact hj j y h hy
   ·have:j=i:=by omega
    subst this
    rw [hx] at hy
    cases hy
    exact hp
 ·intro hj
  refine zA ?_
  rw [zIW] at fin
  ·exact fin
  ·intro x hx
   obtain ⟨j,hjl,rfl⟩:=aD hx
   exact hj j _ hjl (by simp [hjl])
end Go.Ve

namespace Go.Ve
open Go
section
variable {α ρ:Type}
theorem zZc {xs:List α} {body:Int→Option (Int ⊕ (Unit ⊕ ρ))} {Q:Unit ⊕ ρ→Prop} (hl:xs.length<4611686018427387904) (J:Nat→Prop) (h0:J 0)
  (step: ∀i x,xs[i]? =some x→J i→Wp (body (i:Int)) (wG (fun s'=>s'=IntKind.wrap .i64 ((i:Int)+1)∧J (i+1)) (fun o=>(∀u,o≠Sum.inl u)∧Q o))) (fin:J xs.length→Q (Sum.inl ())):
  Wp (zL (fun s:Int=>bif decide (s< (xs.length:Int)) then body s else some (Sum.inr (Sum.inl ()))) (0:Int)) Q:=by
 refine jF (fun (s:Int)=> ∃i:Nat,s=(i:Int)∧i≤xs.length∧J i) (fun (s:Int)=>((xs.length:Int) -s).toNat) ⟨(0:Nat),rfl,aI _,h0⟩ ?_
 rintro s ⟨i,hi,hle,hj⟩
 subst hi
 refine zJ ?_ ?_
 ·intro hc
  have hlt:i<xs.length:=by omega
  refine (step i xs[i] (by simp [hlt]) hj).mono ?_
  intro o ho
  cases o with
  |inl s'=>
   obtain ⟨rfl,h2⟩:=ho
   rw [zH (by omega) (by omega)]
   exact ⟨⟨i+1,by omega,hlt,h2⟩,by omega⟩
  |inr o=>exact ho.2
 ·intro hc
  have:i=xs.length:=by omega
  subst this
  exact zA (e2r (fin hj))
theorem zXm {xs:List α} {P:α→Prop} {body:Int→Option (Int ⊕ (Unit ⊕ ρ))} {Q:Unit ⊕ ρ→Prop} (hl:xs.length<4611686018427387904)
  (step: ∀ (i:Nat) x,xs[i]? =some x→Wp (body (i:Int)) (wG (fun s'=>s'=IntKind.wrap .i64 ((i:Int)+1)∧P x) (fun o=>(∀u,o≠Sum.inl u)∧Q o))) (fin:(∀x,x∈xs→P x)→Q (Sum.inl ())):
  Wp (zL (fun s:Int=>bif decide (s< (xs.length:Int)) then body s else some (Sum.inr (Sum.inl ()))) (0:Int)) Q:=by
 refine zZc hl (fun i=> ∀j y,j<i→xs[j]? =some y→P y) (fun j y hj=>by omega) ?_ (fun h=>fin ?_)
 ·intro i x hx hj
  refine (step i x hx).mono ?_
  intro o ho
  cases o with
  |inl s'=>
   refine ⟨ho.1,?_⟩
   intro j y hj' hy
   rcases aL j i with h'|h'
   ·exact hj j y h' hy
   ·have:j=i:=by omega
    subst this
    rw [hx] at hy
    cases hy
    exact ho.2
  |inr o=>exact ho
 ·intro x hx
  obtain ⟨j,hjl,rfl⟩:=aD hx
  exact h j _ hjl (by simp [hjl])
end
end Go.Ve

namespace Go.Ve
open Go
section
variable {α:Type} {lt:α→α→Prop}
structure Ord (lt:α→α→Prop):Prop where
 asym: ∀x y,lt x y→ ¬lt y x
 tr: ∀x y z, ¬lt y x→ ¬lt z y→ ¬lt z x
theorem zDZ (ho:Ord lt): ∀ {xs ys:List α},xs.Pairwise lt→ys.Pairwise lt→(∀z,z∈xs↔z∈ys)→xs=ys
 |[],[],_,_,_=>rfl
 |[],y::ys,_,_,h=>by have:=(h y).2 (by simp);cases this
 |x::xs,[],_,_,h=>by have:=(h x).1 (by simp);cases this
 |x::xs,y::ys,hx,hy,h=>by
  rw [bB] at hx hy
  have irr: ∀z, ¬lt z z:=fun z hz=>ho.asym z z hz hz
  have e:x=y:=by
   rcases aB.1 ((h x).1 (by simp)) with h1|h1
   ·exact h1
   ·rcases aB.1 ((h y).2 (by simp)) with h2|h2
    ·exact h2.symm
    ·exact absurd (hx.1 y h2) (ho.asym _ _ (hy.1 x h1))
  subst e
  have:xs=ys:=by
   refine zDZ ho hx.2 hy.2 (fun z=>⟨fun hz=> ?_,fun hz=> ?_⟩)
   ·rcases aB.1 ((h z).1 (aw _ hz)) with rfl|h1
    ·exact absurd (hx.1 z hz) (irr z)
    ·exact h1
   ·rcases aB.1 ((h z).2 (aw _ hz)) with rfl|h1
    ·exact absurd (hy.1 z hz) (irr z)
    ·exact h1
  rw [this]
end
end Go.Ve

namespace Go.Ve
open Go
set_option maxRecDepth 1000000
set_option maxHeartbeats 4000000
theorem j9 {α:Type} {m:Option α} {x:α} (h:Wp m (fun r=>r=x)):m=some x:=by
 obtain ⟨r,h1,rfl⟩:=h;exact h1
theorem zGq {p q:Ty.El zG} (h:(p.1==q.1&&(p.2.1==q.2.1&&true))=true):p=q:=by
 obtain ⟨a,b,⟨⟩⟩:=p
 obtain ⟨c,d,⟨⟩⟩:=q
 simp only [c8,aj,beq_iff_eq] at h
 obtain ⟨rfl,rfl⟩:=h
 rfl
def zFJ (a b c d:Int):Prop:=a<c∨(a=c∧b<d)
def plt (p q:Ty.El zG):Prop:=zFJ p.1 p.2.1 q.1 q.2.1
theorem zIP:Ord plt where
 asym:=fun x y h=>by unfold plt zFJ at*;omega
 tr:=fun x y z h1 h2=>by unfold plt zFJ at*;omega
theorem zXB {a b c d:Int} (h: ¬zFJ c d a b) (hne: ¬(a=c∧b=d)):zFJ a b c d:=by
 unfold zFJ at*
 omega
theorem zWk {p q:Ty.El zG} (h: ¬plt q p) (hne:p≠q):plt p q:=by
 refine zXB h (fun e=>hne ?_)
 obtain ⟨a,b,⟨⟩⟩:=p
 obtain ⟨c,d,⟨⟩⟩:=q
 obtain ⟨rfl,rfl⟩:=e
 rfl
def zMw (a b c d:Int):Int:=if a<c then-1 else if c<a then 1 else if b<d then-1 else if d<b then 1 else 0
def qBR (p q:Ty.El zG):Int:=zMw p.1 p.2.1 q.1 q.2.1
theorem zTL {a b c d:Int} :zMw a b c d<0↔zFJ a b c d:=by
 unfold zMw zFJ
 split
 ·omega
 ·split
  ·omega
  ·split
   ·omega
   ·split<;>omega
theorem zMv {p q:Ty.El zG} :qBR p q<0↔plt p q:=zTL
theorem zKd (a b:Int):w9 (a,b,())=some (if a<b then-1 else if b<a then 1 else 0):=by
 refine j9 ?_
 unfold w9 zAN
 simp only [ae,bne_self_eq_false,cond_false]
 refine zJ (fun h=>zA ?_) (fun h=>zJ (fun h'=>zA ?_) (fun h'=>zA ?_))
 ·rw [if_pos h]
 ·rw [if_neg h,if_pos h']
 ·rw [if_neg h,if_neg h']
theorem zBn (a b:Int):qF (a,b,())=some (if a<b then-1 else if b<a then 1 else 0):=by
 refine j9 ?_
 unfold qF zC6
 simp only [ae,bne_self_eq_false,cond_false]
 refine zJ (fun h=>zA ?_) (fun h=>zJ (fun h'=>zA ?_) (fun h'=>zA ?_))
 ·rw [if_pos h]
 ·rw [if_neg h,if_pos h']
 ·rw [if_neg h,if_neg h']
theorem zXO {a b c d:Int} :(if ((if a<c then (-1:Int) else if c<a then 1 else 0) !=0)=true then (if a<c then (-1:Int) else if c<a then 1 else 0) else (if b<d then (-1:Int) else if d<b then 1 else 0))=zMw a b c d:=by
 unfold zMw
 by_cases h1:a<c
 ·simp [h1]
 ·by_cases h2:c<a
  ·simp [h1,h2]
  ·simp [h1,h2]
theorem zLn (p q:Ty.El zG):zCs (p,q,())=some (qBR p q):=by
 refine j9 ?_
 unfold zCs
 dsimp only
 refine zC (zY (zKd _ _) (zD (fun h=>zA ?_) (fun h=>zC (zY (zBn _ _) (zA ?_)))))
 ·have:=zXO (a:=p.1) (b:=p.2.1) (c:=q.1) (d:=q.2.1)
  rw [if_pos h] at this
  exact this
 ·have:=zXO (a:=p.1) (b:=p.2.1) (c:=q.1) (d:=q.2.1)
  rw [if_neg (by rw [h];simp)] at this
  exact this
theorem qCR {a b c d:Int} (h:zFJ a b c d): -1=zMw a b c d:=by
 unfold zMw;unfold zFJ at h
 by_cases h1:a<c
 ·rw [if_pos h1]
 ·rw [if_neg h1,if_neg (by omega),if_pos (by omega)]
theorem qCP {a b:Int} :0=zMw a b a b:=by
 unfold zMw
 rw [if_neg (by omega),if_neg (by omega),if_neg (by omega),if_neg (by omega)]
theorem qCQ {a b c d:Int} (h: ¬zFJ a b c d) (hne: ¬(a=c∧b=d)):1=zMw a b c d:=by
 unfold zMw;unfold zFJ at h
 rw [if_neg (by omega)]
 by_cases h1:c<a
 ·rw [if_pos h1]
 ·rw [if_neg h1,if_neg (by omega),if_pos (by omega)]
theorem zBR (p q:Ty.El zG):vU (p,q,())=some (qBR p q):=by
 refine j9 ?_
 unfold vU
 dsimp only
 refine zC ((show Wp _ (fun s:Bool=>s=true↔plt p q) from ?_).mono (fun s hs=> ?_))
 ·refine zJ (fun h=>zA ⟨fun _=> .inl h,fun _=>rfl⟩) (fun h=>zD (fun h'=>zA ?_) (fun h'=>zA ?_))
  ·have h':p.1=q.1:=by simpa using h'
   rw [decide_eq_true_eq]
   constructor
   ·intro h2;exact .inr ⟨h',h2⟩
   ·intro h2
    rcases h2 with h2|h2
    ·exact absurd h2 h
    ·exact h2.2
  ·have h': ¬p.1=q.1:=by simpa using h'
   constructor
   ·intro h2;cases h2
   ·intro h2
    exfalso
    rcases h2 with h2|h2
    ·exact h h2
    ·exact h' h2.1
 ·refine zD (fun h=>zA (qCR (hs.1 h))) (fun h=>zD (fun he=>zA ?_) (fun he=>zA (qCQ ?_ ?_)))
  ·have:=zGq he
   subst this
   exact qCP
  ·exact fun hp=>by rw [hs.2 hp] at h;cases h
  ·intro e
   have h1:(p.1==q.1)=true:=by simpa using e.1
   have h2:(p.2.1==q.2.1)=true:=by simpa using e.2
   rw [h1,h2] at he
   cases he
def zDH (p:Ty.El zG) (v:Int) (p':Ty.El zG) (v':Int):Prop:=plt p p'∨(p=p'∧v<v')
theorem zU0 {p q r:Ty.El zG} {u v w:Int} (h1:zDH p u q v) (h2:zDH q v r w):zDH p u r w:=by
 rcases h1 with h1|⟨rfl,h1⟩
 ·rcases h2 with h2|⟨rfl,h2⟩
  ·exact .inl (by unfold plt zFJ at*;omega)
  ·exact .inl h1
 ·rcases h2 with h2|⟨rfl,h2⟩
  ·exact .inl h2
  ·exact .inr ⟨rfl,by omega⟩
theorem zZ7 {p q:Ty.El zG} {u v:Int} (h: ¬zDH p u q v) (hne: ¬(p=q∧u=v)):zDH q v p u:=by
 by_cases he:p=q
 ·subst he
  refine .inr ⟨rfl,?_⟩
  have h1: ¬u<v:=fun h'=>h (.inr ⟨rfl,h'⟩)
  have h2: ¬u=v:=fun h'=>hne ⟨rfl,h'⟩
  omega
 ·exact .inl (zWk (fun h'=>h (.inl h')) (fun h'=>he h'.symm))
end Go.Ve

/-
  Functions out of code: distance-vector and path-vector routing.
  Plain laws, part 1: what partial values come to.
  Plain laws, part 2: loops over lists.
  Plain laws, part 3: loops over lists within loops.
  Plain laws: sorting by insertion.
  Plain laws: prefixes in order; domains in order.
  Plain laws: the checks of a network always answer.
  Plain laws: the topology of a network is built, and what it is made of.
  Plain laws: the topology of a network is built: the walk.
  Plain laws: views.
  Plain laws: the checks of routes and tables always answer.
  Plain laws: equal routes; static routes that are active.
-/
import Derived.Test.YtcnlcmbchljpgaaGreatPl10
import Derived.Test.YtcnlcmbchljpgaaGreatPl9
set_option linter.unusedVariables false
namespace Go.Ve
open Go
set_option maxRecDepth 1000000
noncomputable def zNU:ElS []→Option (RTy.El (.p .bool)):=fun x=>match x with|()=>some true
noncomputable def zBi:ElS [zR,tI,tI]→Option (RTy.El (.p (.sl zL))):=fun x=>match x with|(a1,a2,a3,())=>Option.bind (zHc (a1,a2,a3,())) fun (y0:Bool)=>bif !y0 then some [] else Option.bind (Option.bind (zA2 (a1,a2,a3,())) fun (y18:Int)=>Option.bind (idx a1.2.1.1 y18) fun (y19:Ty.El uH)=>zO (fun (s20:Int×List (Ty.El zL))=>bif decide (s20.1< (↑(List.length y19.2.2.1):Int)) then Option.bind (Option.bind (idx y19.2.2.1 s20.1) fun (y21:Ty.El zL)=>Option.bind (bif y21.1 !=a2 then some (true,s20.2) else some (y21.2.1 !=a3,s20.2)) fun (s22:Bool×List (Ty.El zL))=>bif s22.1 then Option.bind (app (16:Nat) s22.2 [y21]) fun (y23:List (Ty.El zL))=>some y23 else some s22.2) fun (s24:List (Ty.El zL))=>some (Sum.inl (IntKind.wrap IntKind.i64 (s20.1+(1:Int)),s24)) else some (Sum.inr s20.2)) ((0:Int),[])) fun (s25:List (Ty.El zL))=>some s25
noncomputable def zAt:ElA [.d wW, .pp .str]→Option (RTy.El (.p .bool)):=fun x=>match x with|(a1,a2,())=>some (a1.1==a2)
noncomputable def wO:ElA [.d (.sl wW), .clo 178 [(true, .str)]]→Option (RTy.El (.p tI)):=fun x=>match x with|(a1,(a2,()),())=>qT (zO (fun (s6:Int)=>bif decide (s6< (↑(List.length a1):Int)) then Option.bind (idx a1 s6) fun (y7:Ty.El wW)=>Option.bind (zAt (y7,a2,())) fun (y8:Bool)=>bif y8 then some (Sum.inr (Sum.inr s6)) else some (Sum.inl (IntKind.wrap IntKind.i64 (s6+(1:Int)))) else some (Sum.inr (Sum.inl ()))) (0:Int)) fun (s9:Unit)=>some (-1:Int)
noncomputable def zAd:ElS [zD, .str]→Option (RTy.El (.p tI)):=fun x=>match x with|(a1,a2,())=>Option.bind (wO (a1.2.2.2.1,(a2,()),())) fun (y0:Int)=>some y0
noncomputable def zBa:ElS [zH,zH]→Option (RTy.El (.p .bool)):=fun x=>match x with|(a1,a2,())=>Option.bind (bif decide (a1.2.1≤a2.2.1) then Option.bind (wD (a1,a2.1,())) fun (y1:Bool)=>some y1 else some false) fun (s2:Bool)=>some s2
noncomputable def xS:ElS [zCF,zH]→Option (RTy.El (.p .bool)):=fun x=>match x with|(a1,a2,())=>Option.bind (Option.bind (zBa (a1.2.1,a2,())) fun (y1:Bool)=>bif y1 then bif decide (a1.2.2.1≤a2.2.1) then some (decide (a2.2.1≤a1.2.2.2.1)) else some false else some false) fun (s2:Bool)=>some s2
noncomputable def zC0:ElS [wW,zH]→Option (RTy.El (.p tI)):=fun x=>match x with|(a1,a2,())=>qT (zO (fun (s6:Int)=>bif decide (s6< (↑(List.length a1.2.1):Int)) then Option.bind (idx a1.2.1 s6) fun (y7:Ty.El zCF)=>Option.bind (xS (y7,a2,())) fun (y8:Bool)=>bif y8 then some (Sum.inr (Sum.inr s6)) else some (Sum.inl (IntKind.wrap IntKind.i64 (s6+(1:Int)))) else some (Sum.inr (Sum.inl ()))) (0:Int)) fun (s9:Unit)=>some (-1:Int)
noncomputable def zBz:ElS [zD, .str,zH]→Option (RTy.El (.p .bool)):=fun x=>match x with|(a1,a2,a3,())=>bif a2== { data:= #[] } then some true else Option.bind (zAd (a1,a2,())) fun (y0:Int)=>bif decide (y0< (0:Int)) then some false else Option.bind (idx a1.2.2.2.1 y0) fun (y3:Ty.El wW)=>Option.bind (zC0 (y3,a3,())) fun (y4:Int)=>Option.bind (bif decide (y4≥(0:Int)) then Option.bind (idx a1.2.2.2.1 y0) fun (y7:Ty.El wW)=>Option.bind (idx y7.2.1 y4) fun (y8:Ty.El zCF)=>some y8.1 else some false) fun (s9:Bool)=>some s9
noncomputable def zAN:ElS [zR,tI,tI]→Option (RTy.El (.p (.sl zL))):=fun x=>match x with|(a1,a2,a3,())=>Option.bind (zJG (a1,a2,a3,())) fun (y0:Bool)=>bif !y0 then some [] else Option.bind (zAb (a1,a2,a3,())) fun (y3:Int)=>Option.bind (idx a1.2.1.1 y3) fun (y4:Ty.El uH)=>Option.bind (zO (fun (s18:Int×List (Ty.El zL))=>bif decide (s18.1< (↑(List.length y4.2.2.1):Int)) then Option.bind (Option.bind (idx y4.2.2.1 s18.1) fun (y19:Ty.El zL)=>bif y19.1 !=a2 then Option.bind (idx y4.2.2.1 s18.1) fun (y20:Ty.El zL)=>Option.bind (app (16:Nat) s18.2 [y20]) fun (y21:List (Ty.El zL))=>some y21 else some s18.2) fun (s22:List (Ty.El zL))=>some (Sum.inl (IntKind.wrap IntKind.i64 (s18.1+(1:Int)),s22)) else some (Sum.inr s18.2)) ((0:Int),[])) fun (s23:List (Ty.El zL))=>some s23
noncomputable def zJH:ElS [zR,zL]→Option (RTy.El (.p z7)):=fun x=>match x with|(a1,a2,())=>Option.bind (idx a1.1.1 a2.1) fun (y2:Ty.El zD)=>Option.bind (idx y2.2.2.1 a2.2.1) fun (y3:Ty.El z7)=>some y3
noncomputable def zDr:ElS [zD,tU,tI]→Option (RTy.El (.p tI)):=fun x=>match x with|(a1,a2,a3,())=>qT (zO (fun (s10:Int)=>bif decide (s10< (↑(List.length a1.2.2.2.2.2.2.2.2.2.2.1.2.2.2.1):Int)) then Option.bind (Option.bind (idx a1.2.2.2.2.2.2.2.2.2.2.1.2.2.2.1 s10) fun (y11:Ty.El zT)=>bif y11.1==a2 then Option.bind (idx a1.2.2.2.2.2.2.2.2.2.2.1.2.2.2.1 s10) fun (y12:Ty.El zT)=>some (y12.2.1==a3) else some false) fun (s13:Bool)=>bif s13 then some (Sum.inr (Sum.inr s10)) else some (Sum.inl (IntKind.wrap IntKind.i64 (s10+(1:Int)))) else some (Sum.inr (Sum.inl ()))) (0:Int)) fun (s14:Unit)=>some (-1:Int)
noncomputable def zBx:ElS [zR]→Option (RTy.El (.p (.sl zK))):=fun x=>match x with|(a1,())=>Option.bind (zO (fun (s128:Int×List (Ty.El zK))=>bif decide (s128.1< (↑(List.length a1.1.1):Int)) then Option.bind (Option.bind (idx a1.1.1 s128.1) fun (y129:Ty.El zD)=>zO (fun (s130:Int×List (Ty.El zK))=>Option.bind (bif y129.2.2.2.2.2.2.2.2.2.2.1.1 then some (decide (s130.1< (↑(List.length y129.2.2.1):Int)),s130.2) else some (false,s130.2)) fun (s131:Bool×List (Ty.El zK))=>bif s131.1 then Option.bind (Option.bind (zAN (a1,s128.1,s130.1,())) fun (y132:List (Ty.El zL))=>zO (fun (s133:Int×List (Ty.El zK))=>bif decide (s133.1< (↑(List.length y132):Int)) then Option.bind (Option.bind (idx y132 s133.1) fun (y134:Ty.El zL)=>Option.bind (idx a1.1.1 y134.1) fun (y135:Ty.El zD)=>Option.bind (bif y135.2.2.2.2.2.2.2.2.2.2.1.1 then Option.bind (idx y132 s133.1) fun (y136:Ty.El zL)=>Option.bind (zJH (a1,y136,())) fun (y137:ByteArray×Int×Int×Int×Bool×Bool×Int×Int×Bool×ByteArray×ByteArray×Int×Unit)=>Option.bind (zDr (y129,y137.2.1,y135.2.1,())) fun (y138:Int)=>bif decide (y138≥(0:Int)) then Option.bind (idx y129.2.2.1 s130.1) fun (y139:Ty.El z7)=>Option.bind (zDr (y135,y139.2.1,y129.2.1,())) fun (y140:Int)=>some (decide (y140≥(0:Int)),s133.2) else some (false,s133.2) else some (false,s133.2)) fun (s141:Bool×List (Ty.El zK))=>bif s141.1 then Option.bind (idx y132 s133.1) fun (y142:Ty.El zL)=>Option.bind (idx y132 s133.1) fun (y143:Ty.El zL)=>Option.bind (app (40:Nat) s141.2 [(y142.1,y143.2.1,s128.1,s130.1,y129.2.1==y135.2.1,())]) fun (y144:List (Ty.El zK))=>some y144 else some s141.2) fun (s145:List (Ty.El zK))=>some (Sum.inl (IntKind.wrap IntKind.i64 (s133.1+(1:Int)),s145)) else some (Sum.inr s133.2)) ((0:Int),s131.2)) fun (s146:List (Ty.El zK))=>some (Sum.inl (IntKind.wrap IntKind.i64 (s130.1+(1:Int)),s146)) else some (Sum.inr s131.2)) ((0:Int),s128.2)) fun (s147:List (Ty.El zK))=>some (Sum.inl (IntKind.wrap IntKind.i64 (s128.1+(1:Int)),s147)) else some (Sum.inr s128.2)) ((0:Int),[])) fun (s148:List (Ty.El zK))=>some s148
noncomputable def q8:ElS [zR,tI,tI]→Option (RTy.El (.tu [z7, .bool])):=fun x=>match x with|(a1,a2,a3,())=>Option.bind (bif decide (a2< (0:Int)) then some true else bif decide (a2≥(↑(List.length a1.1.1):Int)) then some true else bif decide (a3< (0:Int)) then some true else Option.bind (idx a1.1.1 a2) fun (y1:Ty.El zD)=>some (decide (a3≥(↑(List.length y1.2.2.1):Int)))) fun (s2:Bool)=>bif s2 then some (({ data:= #[] },(0:Int),(0:Int),(0:Int),false,false,(0:Int),(0:Int),false, { data:= #[] }, { data:= #[] },(0:Int),()),false,()) else Option.bind (idx a1.1.1 a2) fun (y3:Ty.El zD)=>Option.bind (idx y3.2.2.1 a3) fun (y4:Ty.El z7)=>some (y4,true,())
noncomputable def jJ:ElS [zH,zH]→Option (RTy.El (.p .bool)):=fun x=>match x with|(a1,a2,())=>Option.bind (bif decide (a1.2.1>a2.2.1) then Option.bind (zBa (a2,a1,())) fun (y1:Bool)=>some y1 else some false) fun (s2:Bool)=>some s2
noncomputable def kM:ElS [zD,zH]→Option (RTy.El (.p .bool)):=fun x=>match x with|(a1,a2,())=>qT (zO (fun (s9:Int)=>bif decide (s9< (↑(List.length a1.2.2.2.2.2.2.2.2.2.2.1.2.2.2.2.2.1):Int)) then Option.bind (idx a1.2.2.2.2.2.2.2.2.2.2.1.2.2.2.2.2.1 s9) fun (y10:Ty.El jQ)=>Option.bind (bif y10.2.1 then Option.bind (jJ (a2,y10.1,())) fun (y11:Bool)=>some y11 else some false) fun (s12:Bool)=>bif s12 then some (Sum.inr (Sum.inr true)) else some (Sum.inl (IntKind.wrap IntKind.i64 (s9+(1:Int)))) else some (Sum.inr (Sum.inl ()))) (0:Int)) fun (s13:Unit)=>some false
noncomputable def v7:ElS [(.sl zT)]→Option (RTy.El (.p (.sl zT))):=fun x=>match x with|(a1,())=>Option.bind (app (48:Nat) [] a1) fun (z:List (Ty.El zT))=>some z
noncomputable def jU:ElS [zD,tU]→Option (RTy.El (.tu [zT, .bool])):=fun x=>match x with|(a1,a2,())=>qT (Option.bind (v7 (a1.2.2.2.2.2.2.2.2.2.2.1.2.2.2.1,())) fun (y5:List (Ty.El zT))=>zO (fun (s6:Int×Ty.El zT)=>bif decide (s6.1< (↑(List.length y5):Int)) then Option.bind (idx y5 s6.1) fun (y7:Ty.El zT)=>bif y7.1==a2 then some (Sum.inr (Sum.inr (y7,true,()))) else some (Sum.inl (IntKind.wrap IntKind.i64 (s6.1+(1:Int)),s6.2)) else some (Sum.inr (Sum.inl s6.2))) ((0:Int),(0:Int),(0:Int), { data:= #[] }, { data:= #[] },())) fun (s8:Ty.El zT)=>some (((0:Int),(0:Int), { data:= #[] }, { data:= #[] },()),false,())
noncomputable def jO:ElS [(.sl tI)]→Option (RTy.El (.p (.sl tI))):=fun x=>match x with|(a1,())=>Option.bind (app (8:Nat) [] a1) fun (z:List (Ty.El tI))=>some z
noncomputable def x8:ElS [(.sl qQ)]→Option (RTy.El (.p (.sl qQ))):=fun x=>match x with|(a1,())=>Option.bind (app (16:Nat) [] a1) fun (z:List (Ty.El qQ))=>some z
noncomputable def zBH:ElA [.d yI, .pp .str]→Option (RTy.El (.p .bool)):=fun x=>match x with|(a1,a2,())=>some (a1.1==a2)
noncomputable def w9:ElA [.d (.sl yI), .clo 201 [(true, .str)]]→Option (RTy.El (.p tI)):=fun x=>match x with|(a1,(a2,()),())=>qT (zO (fun (s6:Int)=>bif decide (s6< (↑(List.length a1):Int)) then Option.bind (idx a1 s6) fun (y7:Ty.El yI)=>Option.bind (zBH (y7,a2,())) fun (y8:Bool)=>bif y8 then some (Sum.inr (Sum.inr s6)) else some (Sum.inl (IntKind.wrap IntKind.i64 (s6+(1:Int)))) else some (Sum.inr (Sum.inl ()))) (0:Int)) fun (s9:Unit)=>some (-1:Int)
noncomputable def u9:ElS [zD, .str]→Option (RTy.El (.p tI)):=fun x=>match x with|(a1,a2,())=>Option.bind (w9 (a1.2.2.2.2.1,(a2,()),())) fun (y0:Int)=>some y0
noncomputable def zAB:ElS [zD, .str,zA]→Option (RTy.El (.p tI)):=fun x=>match x with|(a1,a2,a3,())=>Option.bind (u9 (a1,a2,())) fun (y0:Int)=>bif decide (y0< (0:Int)) then some (-1:Int) else qT (Option.bind (idx a1.2.2.2.2.1 y0) fun (y11:Ty.El yI)=>zO (fun (s12:Int)=>bif decide (s12< (↑(List.length y11.2.1):Int)) then Option.bind (idx y11.2.1 s12) fun (y13:Ty.El kE)=>Option.bind (Option.bind (zBz (a1,y13.2.1,a3.1,())) fun (y14:Bool)=>bif y14 then bif y13.2.2.1==(-1:Int) then some true else some (y13.2.2.1==a3.2.2.2.2.2.2.1) else some false) fun (s15:Bool)=>bif s15 then some (Sum.inr (Sum.inr s12)) else some (Sum.inl (IntKind.wrap IntKind.i64 (s12+(1:Int)))) else some (Sum.inr (Sum.inl ()))) (0:Int)) fun (s16:Unit)=>some (-1:Int)
noncomputable def kK:ElS [zD, .str,zA]→Option (RTy.El (.tu [kE, .bool])):=fun x=>match x with|(a1,a2,a3,())=>Option.bind (zAB (a1,a2,a3,())) fun (y0:Int)=>bif decide (y0< (0:Int)) then some ((false, { data:= #[] },(0:Int),(0:Int),(0:Int),(0:Int),(0:Int),()),false,()) else Option.bind (u9 (a1,a2,())) fun (y4:Int)=>Option.bind (idx a1.2.2.2.2.1 y4) fun (y5:Ty.El yI)=>Option.bind (idx y5.2.1 y0) fun (y6:Ty.El kE)=>some (y6,y6.1,())
noncomputable def zBA:ElS [zD, .str,zA]→Option (RTy.El (.tu [zA, .bool])):=fun x=>match x with|(a1,a2,a3,())=>Option.bind (jO (a3.2.2.2.2.2.2.2.2.1,())) fun (y0:List Int)=>Option.bind (x8 (a3.2.2.2.2.2.2.2.2.2.2.2.1,())) fun (y1:List (Ty.El qQ))=>bif a2== { data:= #[] } then some ((a3.1,a3.2.1,a3.2.2.1,a3.2.2.2.1,a3.2.2.2.2.1,a3.2.2.2.2.2.1,a3.2.2.2.2.2.2.1,a3.2.2.2.2.2.2.2.1,y0,a3.2.2.2.2.2.2.2.2.2.1,a3.2.2.2.2.2.2.2.2.2.2.1,y1,a3.2.2.2.2.2.2.2.2.2.2.2.2),true,()) else Option.bind (kK (a1,a2,(a3.1,a3.2.1,a3.2.2.1,a3.2.2.2.1,a3.2.2.2.2.1,a3.2.2.2.2.2.1,a3.2.2.2.2.2.2.1,a3.2.2.2.2.2.2.2.1,y0,a3.2.2.2.2.2.2.2.2.2.1,a3.2.2.2.2.2.2.2.2.2.2.1,y1,a3.2.2.2.2.2.2.2.2.2.2.2.2),())) fun (y2:Ty.El kE×Bool×Unit)=>bif !y2.2.1 then some ((((0:Int),(0:Int),()),(0:Int),(0:Int),(0:Int),(0:Int),(0:Int),(0:Int),(0:Int),[],(0:Int),(0:Int),[],false,()),false,()) else Option.bind (bif y2.1.2.2.2.1 !=(-1:Int) then some (a3.1,a3.2.1,a3.2.2.1,a3.2.2.2.1,y2.1.2.2.2.1,a3.2.2.2.2.2.1,a3.2.2.2.2.2.2.1,a3.2.2.2.2.2.2.2.1,y0,a3.2.2.2.2.2.2.2.2.2.1,a3.2.2.2.2.2.2.2.2.2.2.1,y1,a3.2.2.2.2.2.2.2.2.2.2.2.2) else some (a3.1,a3.2.1,a3.2.2.1,a3.2.2.2.1,a3.2.2.2.2.1,a3.2.2.2.2.2.1,a3.2.2.2.2.2.2.1,a3.2.2.2.2.2.2.2.1,y0,a3.2.2.2.2.2.2.2.2.2.1,a3.2.2.2.2.2.2.2.2.2.2.1,y1,a3.2.2.2.2.2.2.2.2.2.2.2.2)) fun (s3:Ty.El zA)=>Option.bind (bif y2.1.2.2.2.2.1 !=(-1:Int) then some (s3.1,s3.2.1,s3.2.2.1,s3.2.2.2.1,s3.2.2.2.2.1,s3.2.2.2.2.2.1,y2.1.2.2.2.2.1,s3.2.2.2.2.2.2.2) else some s3) fun (s4:Ty.El zA)=>Option.bind (bif y2.1.2.2.2.2.2.1 !=(-1:Int) then some (s4.1,s4.2.1,s4.2.2.1,s4.2.2.2.1,s4.2.2.2.2.1,s4.2.2.2.2.2.1,s4.2.2.2.2.2.2.1,y2.1.2.2.2.2.2.1,s4.2.2.2.2.2.2.2.2) else some s4) fun (s5:Ty.El zA)=>some (s5,true,())
noncomputable def zBy:ElS [zD, .str,zA]→Option (RTy.El (.p tI)):=fun x=>match x with|(a1,a2,a3,())=>Option.bind (kK (a1,a2,a3,())) fun (y0:Ty.El kE×Bool×Unit)=>bif !y0.2.1 then some (0:Int) else some y0.1.2.2.2.2.2.2.1
noncomputable def kQ:ElS [zR,zK,zA]→Option (RTy.El (.tu [zA, .bool])):=fun x=>match x with|(a1,a2,a3,())=>Option.bind (q8 (a1,a2.2.2.1,a2.2.2.2.1,())) fun (y0:Ty.El z7×Bool×Unit)=>Option.bind (bif !y0.2.1 then some true else bif decide (a2.1< (0:Int)) then some true else some (decide (a2.1≥(↑(List.length a1.1.1):Int)))) fun (s1:Bool)=>bif s1 then some ((((0:Int),(0:Int),()),(0:Int),(0:Int),(0:Int),(0:Int),(0:Int),(0:Int),(0:Int),[],(0:Int),(0:Int),[],false,()),false,()) else Option.bind (idx a1.1.1 a2.1) fun (y2:Ty.El zD)=>Option.bind (bif a3.2.2.1==(4:Int) then bif a2.2.2.2.2.1 then some true else Option.bind (kM (y2,a3.1,())) fun (y5:Bool)=>some y5 else Option.bind (kM (y2,a3.1,())) fun (y6:Bool)=>some y6) fun (s7:Bool)=>bif s7 then some ((((0:Int),(0:Int),()),(0:Int),(0:Int),(0:Int),(0:Int),(0:Int),(0:Int),(0:Int),[],(0:Int),(0:Int),[],false,()),false,()) else Option.bind (jU (y2,y0.1.2.1,())) fun (y8:Ty.El zT×Bool×Unit)=>bif !y8.2.1 then some ((((0:Int),(0:Int),()),(0:Int),(0:Int),(0:Int),(0:Int),(0:Int),(0:Int),(0:Int),[],(0:Int),(0:Int),[],false,()),false,()) else Option.bind (bif !a2.2.2.2.2.1 then some (a3.1,a3.2.1,a3.2.2.1,a3.2.2.2.1,(0:Int),a3.2.2.2.2.2) else some a3) fun (s9:Ty.El zA)=>Option.bind (zBA (y2,y8.1.2.2.2.1,s9,())) fun (y10:Ty.El zA×Bool×Unit)=>bif !y10.2.1 then some ((((0:Int),(0:Int),()),(0:Int),(0:Int),(0:Int),(0:Int),(0:Int),(0:Int),(0:Int),[],(0:Int),(0:Int),[],false,()),false,()) else bif a2.2.2.2.2.1 then Option.bind (jO (s9.2.2.2.2.2.2.2.2.1,())) fun (y11:List Int)=>some ((s9.1,(5:Int),(0:Int),(0:Int),y10.1.2.2.2.2.1,(0:Int),y10.1.2.2.2.2.2.2.1,y10.1.2.2.2.2.2.2.2.1,y11,(0:Int),(0:Int),[],false,()),true,()) else Option.bind (zBy (y2,y8.1.2.2.2.1,s9,())) fun (y12:Int)=>bif decide (IntKind.wrap IntKind.i64 (IntKind.wrap IntKind.i64 ((1:Int)+y12)+(↑(List.length s9.2.2.2.2.2.2.2.2.1):Int))>(64:Int)) then some ((((0:Int),(0:Int),()),(0:Int),(0:Int),(0:Int),(0:Int),(0:Int),(0:Int),(0:Int),[],(0:Int),(0:Int),[],false,()),false,()) else Option.bind (zO (fun (s19:Int×Int×Int×Int×Int×Int×Int×Int×Int×Int×List Int×Int×Int×List (Ty.El qQ)×Bool)=>bif decide (s19.1<IntKind.wrap IntKind.i64 ((1:Int)+y12)) then Option.bind (app (8:Nat) s19.2.2.2.2.2.2.2.2.2.2.1 [y2.2.1]) fun (y20:List Int)=>some (Sum.inl (IntKind.wrap IntKind.i64 (s19.1+(1:Int)),s19.2.1,s19.2.2.1,s19.2.2.2.1,s19.2.2.2.2.1,s19.2.2.2.2.2.1,s19.2.2.2.2.2.2.1,s19.2.2.2.2.2.2.2.1,s19.2.2.2.2.2.2.2.2.1,s19.2.2.2.2.2.2.2.2.2.1,y20,s19.2.2.2.2.2.2.2.2.2.2.2)) else some (Sum.inr s19.2)) ((0:Int),s9.1.1,s9.1.2.1,(5:Int),(0:Int),(0:Int),y10.1.2.2.2.2.1,(0:Int),y10.1.2.2.2.2.2.2.1,(0:Int),[],(0:Int),(0:Int),[],false)) fun (s21:Int×Int×Int×Int×Int×Int×Int×Int×Int×List Int×Int×Int×List (Ty.El qQ)×Bool)=>Option.bind (app (8:Nat) s21.2.2.2.2.2.2.2.2.2.1 s9.2.2.2.2.2.2.2.2.1) fun (y22:List Int)=>some (((s21.1,s21.2.1,()),s21.2.2.1,s21.2.2.2.1,s21.2.2.2.2.1,s21.2.2.2.2.2.1,s21.2.2.2.2.2.2.1,s21.2.2.2.2.2.2.2.1,(100:Int),y22,s21.2.2.2.2.2.2.2.2.2.2.1,s21.2.2.2.2.2.2.2.2.2.2.2.1,s21.2.2.2.2.2.2.2.2.2.2.2.2.1,s21.2.2.2.2.2.2.2.2.2.2.2.2.2,()),true,())
noncomputable def kP:ElS [zR,zK,zA]→Option (RTy.El (.tu [zA, .bool])):=fun x=>match x with|(a1,a2,a3,())=>Option.bind (q8 (a1,a2.1,a2.2.1,())) fun (y0:Ty.El z7×Bool×Unit)=>Option.bind (bif !y0.2.1 then some true else bif decide (a2.2.2.1< (0:Int)) then some true else some (decide (a2.2.2.1≥(↑(List.length a1.1.1):Int)))) fun (s1:Bool)=>bif s1 then some ((((0:Int),(0:Int),()),(0:Int),(0:Int),(0:Int),(0:Int),(0:Int),(0:Int),(0:Int),[],(0:Int),(0:Int),[],false,()),false,()) else Option.bind (idx a1.1.1 a2.2.2.1) fun (y2:Ty.El zD)=>Option.bind (vE (a3.2.2.2.2.2.2.2.2.1,y2.2.1,())) fun (y3:Bool)=>bif y3 then some ((((0:Int),(0:Int),()),(0:Int),(0:Int),(0:Int),(0:Int),(0:Int),(0:Int),(0:Int),[],(0:Int),(0:Int),[],false,()),false,()) else Option.bind (jU (y2,y0.1.2.1,())) fun (y4:Ty.El zT×Bool×Unit)=>bif !y4.2.1 then some ((((0:Int),(0:Int),()),(0:Int),(0:Int),(0:Int),(0:Int),(0:Int),(0:Int),(0:Int),[],(0:Int),(0:Int),[],false,()),false,()) else Option.bind (zBA (y2,y4.1.2.2.1,a3,())) fun (y5:Ty.El zA×Bool×Unit)=>bif !y5.2.1 then some ((((0:Int),(0:Int),()),(0:Int),(0:Int),(0:Int),(0:Int),(0:Int),(0:Int),(0:Int),[],(0:Int),(0:Int),[],false,()),false,()) else Option.bind (jO (a3.2.2.2.2.2.2.2.2.1,())) fun (y7:List Int)=>Option.bind (bif a2.2.2.2.2.1 then some (a3.1,(5:Int),(4:Int),y2.2.2.2.2.2.2.2.2.2.2.1.2.2.1,y5.1.2.2.2.2.1,(0:Int),y5.1.2.2.2.2.2.2.1,y5.1.2.2.2.2.2.2.2.1,y7,y0.1.2.1,(0:Int),[(a2.2.2.2.1,y0.1.2.1,())],false,()) else some (a3.1,(5:Int),(3:Int),y2.2.2.2.2.2.2.2.2.2.2.1.2.1,y5.1.2.2.2.2.1,(0:Int),y5.1.2.2.2.2.2.2.1,y5.1.2.2.2.2.2.2.2.1,y7,y0.1.2.1,(0:Int),[(a2.2.2.2.1,y0.1.2.1,())],false,())) fun (s8:Ty.El zA)=>some (s8,true,())
noncomputable def zEL:ElS [(.sl tI),(.sl tI)]→Option (RTy.El (.p .bool)):=fun x=>match x with|(a1,a2,())=>bif (↑(List.length a1):Int) !=(↑(List.length a2):Int) then some false else qT (zO (fun (s8:Int)=>bif decide (s8< (↑(List.length a1):Int)) then Option.bind (idx a1 s8) fun (y9:Int)=>Option.bind (idx a2 s8) fun (y10:Int)=>bif y9 !=y10 then some (Sum.inr (Sum.inr false)) else some (Sum.inl (IntKind.wrap IntKind.i64 (s8+(1:Int)))) else some (Sum.inr (Sum.inl ()))) (0:Int)) fun (s11:Unit)=>some true
noncomputable def u5:ElS [zD,tU,tI]→Option (RTy.El (.p .bool)):=fun x=>match x with|(a1,a2,a3,())=>Option.bind (jU (a1,a2,())) fun (y0:Ty.El zT×Bool×Unit)=>Option.bind (bif y0.2.1 then some (y0.1.2.1==a3) else some false) fun (s1:Bool)=>some s1
noncomputable def j6:ElS [zR,tI,tI]→Option (RTy.El (.p (.sl zK))):=fun x=>match x with|(a1,a2,a3,())=>Option.bind (idx a1.1.1 a2) fun (y0:Ty.El zD)=>Option.bind (q8 (a1,a2,a3,())) fun (y1:Ty.El z7×Bool×Unit)=>bif !y0.2.2.2.2.2.2.2.2.2.2.1.1 then some [] else Option.bind (Option.bind (zBi (a1,a2,a3,())) fun (y30:List (Ty.El zL))=>zO (fun (s31:Int×List (Ty.El zK))=>bif decide (s31.1< (↑(List.length y30):Int)) then Option.bind (Option.bind (idx y30 s31.1) fun (y32:Ty.El zL)=>Option.bind (q8 (a1,y32.1,y32.2.1,())) fun (y33:Ty.El z7×Bool×Unit)=>bif !y33.2.1 then some s31.2 else Option.bind (idx a1.1.1 y32.1) fun (y34:Ty.El zD)=>Option.bind (bif y34.2.2.2.2.2.2.2.2.2.2.1.1 then Option.bind (u5 (y0,y33.1.2.1,y34.2.1,())) fun (y35:Bool)=>bif y35 then Option.bind (u5 (y34,y1.1.2.1,y0.2.1,())) fun (y36:Bool)=>some (y36,s31.2) else some (false,s31.2) else some (false,s31.2)) fun (s37:Bool×List (Ty.El zK))=>bif s37.1 then Option.bind (app (40:Nat) s37.2 [(y32.1,y32.2.1,a2,a3,y34.2.1==y0.2.1,())]) fun (y38:List (Ty.El zK))=>some y38 else some s37.2) fun (s39:List (Ty.El zK))=>some (Sum.inl (IntKind.wrap IntKind.i64 (s31.1+(1:Int)),s39)) else some (Sum.inr s31.2)) ((0:Int),[])) fun (s40:List (Ty.El zK))=>some s40
noncomputable def uN:ElS [zR]→Option (RTy.El (.p (.sl zK))):=fun x=>match x with|(a1,())=>Option.bind (zO (fun (s19:Int×List (Ty.El zK))=>bif decide (s19.1< (↑(List.length a1.1.1):Int)) then Option.bind (Option.bind (idx a1.1.1 s19.1) fun (y20:Ty.El zD)=>zO (fun (s21:Int×List (Ty.El zK))=>bif decide (s21.1< (↑(List.length y20.2.2.1):Int)) then Option.bind (j6 (a1,s19.1,s21.1,())) fun (y22:List (Ty.El zK))=>Option.bind (app (40:Nat) s21.2 y22) fun (y23:List (Ty.El zK))=>some (Sum.inl (IntKind.wrap IntKind.i64 (s21.1+(1:Int)),y23)) else some (Sum.inr s21.2)) ((0:Int),s19.2)) fun (s24:List (Ty.El zK))=>some (Sum.inl (IntKind.wrap IntKind.i64 (s19.1+(1:Int)),s24)) else some (Sum.inr s19.2)) ((0:Int),[])) fun (s25:List (Ty.El zK))=>some s25
noncomputable def zAQ:ElS [zV,(.sl tI),zA]→Option (RTy.El (.p .bool)):=fun x=>match x with|(a1,a2,a3,())=>Option.bind (zFs (a1,a2,())) fun (y0:Ty.El zR×Bool×Unit)=>Option.bind (bif !y0.2.1 then some true else bif a3.2.1 !=(5:Int) then some true else Option.bind (zD0 (a3,())) fun (y2:Bool)=>some !y2) fun (s3:Bool)=>bif s3 then some true else Option.bind (zBx (y0.1,())) fun (y4:List (Ty.El zK))=>qT (zO (fun (s85:Int)=>bif decide (s85< (↑(List.length y4):Int)) then qT (Option.bind (idx y4 s85) fun (y86:Ty.El zK)=>Option.bind (kQ (y0.1,y86,a3,())) fun (y87:Ty.El zA×Bool×Unit)=>bif !y87.2.1 then some (Sum.inl ()) else Option.bind (idx y4 s85) fun (y88:Ty.El zK)=>Option.bind (kP (y0.1,y88,y87.1,())) fun (y89:Ty.El zA×Bool×Unit)=>bif !y89.2.1 then some (Sum.inl ()) else qT (zO (fun (s90:Int)=>bif decide (s90< (↑(List.length y89.1.2.2.2.2.2.2.2.2.1):Int)) then Option.bind (idx y89.1.2.2.2.2.2.2.2.2.1 s90) fun (y91:Int)=>Option.bind (idx y4 s85) fun (y92:Ty.El zK)=>Option.bind (idx a1.1 y92.2.2.1) fun (y93:Ty.El zD)=>bif y91==y93.2.1 then some (Sum.inr (Sum.inr (Sum.inr (Sum.inr (Sum.inr false))))) else some (Sum.inl (IntKind.wrap IntKind.i64 (s90+(1:Int)))) else some (Sum.inr (Sum.inl ()))) (0:Int)) fun (s94:Unit)=>Option.bind (idx y4 s85) fun (y95:Ty.El zK)=>bif y95.2.2.2.2.1 then Option.bind (zEL (y89.1.2.2.2.2.2.2.2.2.1,a3.2.2.2.2.2.2.2.2.1,())) fun (y96:Bool)=>bif !y96 then some (Sum.inr (Sum.inr (Sum.inr false))) else some (Sum.inl ()) else Option.bind (bif decide ((↑(List.length y89.1.2.2.2.2.2.2.2.2.1):Int)≤(↑(List.length a3.2.2.2.2.2.2.2.2.1):Int)) then some true else Option.bind (idx y89.1.2.2.2.2.2.2.2.2.1 (0:Int)) fun (y97:Int)=>Option.bind (idx y4 s85) fun (y98:Ty.El zK)=>Option.bind (idx a1.1 y98.1) fun (y99:Ty.El zD)=>bif y97 !=y99.2.1 then some true else Option.bind (sub y89.1.2.2.2.2.2.2.2.2.1 (IntKind.wrap IntKind.i64 ((↑(List.length y89.1.2.2.2.2.2.2.2.2.1):Int) - (↑(List.length a3.2.2.2.2.2.2.2.2.1):Int))) (↑(List.length y89.1.2.2.2.2.2.2.2.2.1):Int)) fun (y100:List Int)=>Option.bind (zEL (y100,a3.2.2.2.2.2.2.2.2.1,())) fun (y101:Bool)=>some !y101) fun (s102:Bool)=>bif s102 then some (Sum.inr (Sum.inr (Sum.inr false))) else some (Sum.inl ())) fun (s103:Unit)=>some (Sum.inl (IntKind.wrap IntKind.i64 (s85+(1:Int)))) else some (Sum.inr (Sum.inl ()))) (0:Int)) fun (s104:Unit)=>Option.bind (zNU ()) fun (y105:Bool)=>some y105
end Go.Ve

namespace Go.Ve
open Go
def Wp {α:Type} (m:Option α) (Q:α→Prop):Prop:= ∃r,m=some r∧Q r
section
variable {α β ρ σ:Type}
theorem Wp.mono {m:Option α} {Q Q':α→Prop} (h:Wp m Q) (hq: ∀r,Q r→Q' r):Wp m Q':=by
 obtain ⟨r,h1,h2⟩:=h;exact ⟨r,h1,hq r h2⟩
theorem zB {x:α} {Q:α→Prop} (h:Q x):Wp (some x) Q:=⟨x,rfl,h⟩
theorem zC {m:Option α} {f:α→Option β} {Q:β→Prop} (h:Wp m (fun y=>Wp (f y) Q)):Wp (Option.bind m f) Q:=by
 obtain ⟨y,rfl,h⟩:=h;exact h
theorem zAv {m:Option α} {f:α→Option β} {Q:β→Prop} (h:Wp m (fun _=>True)) (k: ∀y,m=some y→Wp (f y) Q):Wp (Option.bind m f) Q:=by
 obtain ⟨y,rfl,_⟩:=h;exact k y rfl
theorem zG {c:Bool} {x y:Option α} {Q:α→Prop} (h1:c=true→Wp x Q) (h2:c=false→Wp y Q):Wp (bif c then x else y) Q:=by
 cases c
 ·exact h2 rfl
 ·exact h1 rfl
theorem zAp {m:Option α} {f:α→β} {Q:β→Prop} (h:Wp m (fun y=>Q (f y))):Wp (Option.map f m) Q:=by
 obtain ⟨y,rfl,h⟩:=h;exact ⟨_,rfl,h⟩
def w8 (P:σ→Prop) (Q:ρ→Prop):σ ⊕ ρ→Prop
 | .inl s=>P s
 | .inr r=>Q r
theorem e2l {P:σ→Prop} {Q:ρ→Prop} {s:σ} (h:P s):w8 P Q (.inl s):=h
theorem e2r {P:σ→Prop} {Q:ρ→Prop} {r:ρ} (h:Q r):w8 P Q (.inr r):=h
theorem qD {m:Option (σ ⊕ ρ)} {K:σ→Option ρ} {Q:ρ→Prop} (h:Wp m (w8 (fun s=>Wp (K s) Q) Q)):Wp (qT m K) Q:=by
 obtain ⟨o,rfl,h⟩:=h
 cases o with
 |inl s=>exact h
 |inr r=>exact ⟨r,rfl,h⟩
theorem jY {f:σ→Option (σ ⊕ ρ)} {Q:ρ→Prop} (J:σ→Prop) (m:σ→Nat) {s0:σ} (h0:J s0)
  (step: ∀s,J s→Wp (f s) (w8 (fun s'=>J s'∧m s'<m s) Q)):Wp (zO f s0) Q:=by
 refine zVN J m Q ?_ h0
 intro s hs
 obtain ⟨o,h1,h2⟩:=step s hs
 refine ⟨o,h1,?_⟩
 cases o with
 |inl s'=>exact h2
 |inr r=>exact h2
theorem wI {n s0:Int} {body els:Int→Option (Int ⊕ ρ)} {Q:ρ→Prop}
  (step: ∀s,s0≤s→s<n→Wp (body s) (w8 (fun s'=>s'=s+1) Q))
  (fin: ∀s,s0≤s→n≤s→Wp (els s) (w8 (fun _=>False) Q)):Wp (zO (fun s=>bif decide (s<n) then body s else els s) s0) Q:=by
 refine jY (fun s=>s0≤s) (fun s=>(n-s).toNat) (Int.le_refl _) ?_
 intro s hs
 refine zG ?_ ?_
 ·intro hc
  have hc:s<n:=by simpa using hc
  refine (step s hs hc).mono ?_
  intro o ho
  cases o with
  |inl s'=>have:s'=s+1:=ho;subst this;exact ⟨by omega,by omega⟩
  |inr r=>exact ho
 ·intro hc
  have hc:n≤s:=by simpa using hc
  refine (fin s hs hc).mono ?_
  intro o ho
  cases o with
  |inl s'=>exact ho.elim
  |inr r=>exact ho
theorem zYm {γ:Type} {n s0:Int} {g0:γ} {body els:Int×γ→Option ((Int×γ) ⊕ ρ)} {Q:ρ→Prop} (J:Int→γ→Prop) (h0:J s0 g0)
  (step: ∀s g,s0≤s→s<n→J s g→Wp (body (s,g)) (w8 (fun o=>o.1=s+1∧J (s+1) o.2) Q))
  (fin: ∀s g,s0≤s→n≤s→J s g→Wp (els (s,g)) (w8 (fun _=>False) Q)):Wp (zO (fun o=>bif decide (o.1<n) then body o else els o) (s0,g0)) Q:=by
 refine jY (fun o=>s0≤o.1∧J o.1 o.2) (fun o=>(n-o.1).toNat) ⟨Int.le_refl _,h0⟩ ?_
 rintro ⟨s,g⟩ ⟨hs,hj⟩
 refine zG ?_ ?_
 ·intro hc
  have hc:s<n:=by simpa using hc
  refine (step s g hs hc hj).mono ?_
  intro o ho
  cases o with
  |inl s'=>obtain ⟨s1,g1⟩:=s';obtain ⟨h1,h2⟩:=ho;simp only at h1 h2;subst h1;exact ⟨⟨by omega,h2⟩,by simp only;omega⟩
  |inr r=>exact ho
 ·intro hc
  have hc:n≤s:=by simpa using hc
  refine (fin s g hs hc hj).mono ?_
  intro o ho
  cases o with
  |inl s'=>exact ho.elim
  |inr r=>exact ho
theorem wE {xs:List α} {i:Int} {Q:α→Prop} (h0:0≤i) (h1:i<xs.length) (h: ∀y,y∈xs→xs[i.toNat]? =some y→Q y):Wp (idx xs i) Q:=by
 unfold idx
 rw [if_pos h0]
 have hl:i.toNat<xs.length:=by omega
 exact ⟨xs[i.toNat],by simp [hl],h _ (List.getElem_mem hl) (by simp [hl])⟩
theorem xC {s:ByteArray} {i:Int} {Q:Int→Prop} (h0:0≤i) (h1:i<s.size) (h: ∀y,0≤y→y<256→Q y):Wp (zLI s i) Q:=by
 unfold zLI
 rw [if_pos h0]
 have hl:i.toNat<s.size:=by omega
 refine ⟨(s[i.toNat].toNat:Int),by simp [hl],h _ (by omega) ?_⟩
 have:=s[i.toNat].toNat_lt
 omega
theorem wN {bytes:Nat} {xs ys:List α} {Q:List α→Prop} (h0:(2*(xs.length+ys.length)+1024)*bytes≤140737488355328) (h:Q (xs++ys)):Wp (app bytes xs ys) Q:=by
 unfold app
 rw [if_pos h0]
 exact ⟨_,rfl,h⟩
end
theorem zF {x:Int} (h0: -9223372036854775808≤x) (h1:x<9223372036854775808):IntKind.wrap .i64 x=x:=by
 have e1:((2:Int)^IntKind.bits .i64)=18446744073709551616:=by decide
 have e2:((2:Int)^(IntKind.bits .i64-1))=9223372036854775808:=by decide
 simp only [IntKind.wrap,IntKind.signed,Bool.true_and,decide_eq_true_eq,e1,e2]
 split<;>omega
theorem zJi {x:Int} (h0:0≤x) (h1:x<18446744073709551616):IntKind.wrap .u64 x=x:=by
 have e1:((2:Int)^IntKind.bits .u64)=18446744073709551616:=by decide
 simp only [IntKind.wrap,IntKind.signed,Bool.false_and,Bool.false_eq_true,if_false,e1]
 omega
theorem zI {α:Type} {p:Prop} [Decidable p] {x y:Option α} {Q:α→Prop} (h1:p→Wp x Q) (h2: ¬p→Wp y Q):Wp (bif decide p then x else y) Q:=by
 by_cases h:p
 ·simp only [h,decide_true,cond_true];exact h1 h
 ·simp only [h,decide_false,cond_false];exact h2 h
theorem jZ {α:Type} {p:Prop} [Decidable p] {x y:Option α} {Q:α→Prop} (h1: ¬p→Wp x Q) (h2:p→Wp y Q):Wp (bif !decide p then x else y) Q:=by
 by_cases h:p
 ·simp only [h,decide_true,Bool.not_true,cond_false];exact h2 h
 ·simp only [h,decide_false,Bool.not_false,cond_true];exact h1 h
end Go.Ve

namespace Go.Ve
open Go
theorem zJ {α:Type} {xs:List α} {i:Nat} {x:α} (h:xs[i]? =some x):idx xs (i:Int)=some x:=by
 rw [idx,if_pos (by omega),Int.toNat_natCast];exact h
theorem zYY {α:Type} {xs:List α} {i:Int} {x:α} (h0:0≤i) (h:xs[i.toNat]? =some x):idx xs i=some x:=by
 rw [idx,if_pos h0];exact h
theorem qJ {α:Type} {m:Option α} {x:α} {Q:α→Prop} (h:m=some x) (hq:Q x):Wp m Q:=⟨x,h,hq⟩
section
variable {α γ ρ:Type}
theorem vI {xs:List α} {g0:γ} {body:Int×γ→Option γ} {Q:γ→Prop} (hl:xs.length<4611686018427387904) (J:Nat→γ→Prop) (h0:J 0 g0)
  (step: ∀i x g,xs[i]? =some x→J i g→Wp (body ((i:Int),g)) (J (i+1))) (fin: ∀g,J xs.length g→Q g):
  Wp (zO (fun s:Int×γ=>bif decide (s.1< (xs.length:Int)) then Option.bind (body s) (fun g=>some (Sum.inl (IntKind.wrap IntKind.i64 (s.1+(1:Int)),g))) else some (Sum.inr s.2)) ((0:Int),g0)) Q:=by
 refine jY (fun (s:Int×γ)=> ∃i:Nat,s.1=(i:Int)∧i≤xs.length∧J i s.2) (fun (s:Int×γ)=>((xs.length:Int) -s.1).toNat) ⟨(0:Nat),rfl,Nat.zero_le _,h0⟩ ?_
 rintro ⟨s,g⟩ ⟨i,hi,hle,hj⟩
 simp only at hi
 subst hi
 refine zI ?_ ?_
 ·intro hc
  have hlt:i<xs.length:=by simp only at hc;omega
  refine zC ((step i xs[i] g (by simp [hlt]) hj).mono ?_)
  intro g' hg'
  refine zB ?_
  refine e2l ⟨⟨i+1,?_,hlt,hg'⟩,?_⟩
  ·simp only;rw [zF (by omega) (by omega)];omega
  ·simp only;rw [zF (by omega) (by omega)];omega
 ·intro hc
  have:i=xs.length:=by simp only at hc;omega
  subst this
  exact zB (e2r (fin _ hj))
theorem zRj {n:Nat} {c:Int×γ→Int} {g0:γ} {body:Int×γ→Option γ} {Q:γ→Prop} (hl:n<4611686018427387904) (J:Nat→γ→Prop) (h0:J 0 g0) (hc: ∀i g,J i g→c ((i:Int),g)=n)
  (step: ∀i g,i<n→J i g→Wp (body ((i:Int),g)) (J (i+1))) (fin: ∀g,J n g→Q g):
  Wp (zO (fun s:Int×γ=>bif decide (s.1<c s) then Option.bind (body s) (fun g=>some (Sum.inl (IntKind.wrap IntKind.i64 (s.1+(1:Int)),g))) else some (Sum.inr s.2)) ((0:Int),g0)) Q:=by
 refine jY (fun (s:Int×γ)=> ∃i:Nat,s.1=(i:Int)∧i≤n∧J i s.2) (fun (s:Int×γ)=>((n:Int) -s.1).toNat) ⟨(0:Nat),rfl,Nat.zero_le _,h0⟩ ?_
 rintro ⟨s,g⟩ ⟨i,hi,hle,hj⟩
 simp only at hi
 subst hi
 have hci:=hc i g hj
 refine zI ?_ ?_
 ·intro hc'
  simp only [hci] at hc'
  have hlt:i<n:=by omega
  refine zC ((step i g hlt hj).mono ?_)
  intro g' hg'
  refine zB ?_
  refine e2l ⟨⟨i+1,?_,hlt,hg'⟩,?_⟩
  ·simp only;rw [zF (by omega) (by omega)];omega
  ·simp only;rw [zF (by omega) (by omega)];omega
 ·intro hc'
  simp only [hci] at hc'
  have:i=n:=by omega
  subst this
  exact zB (e2r (fin _ hj))
theorem zAJ {xs:List α} {body:Int→Option (Int ⊕ (Unit ⊕ ρ))} {K:Unit→Option ρ} {Q:ρ→Prop} (hl:xs.length<4611686018427387904) (J:Nat→Prop) (h0:J 0)
  (step: ∀i x,xs[i]? =some x→J i→Wp (body (i:Int)) (w8 (fun s'=>s'=IntKind.wrap IntKind.i64 ((i:Int)+1)∧J (i+1)) (w8 (fun _=>False) Q))) (fin:J xs.length→Wp (K ()) Q):
  Wp (qT (zO (fun s:Int=>bif decide (s< (xs.length:Int)) then body s else some (Sum.inr (Sum.inl ()))) (0:Int)) K) Q:=by
 refine qD ?_
 refine jY (fun (s:Int)=> ∃i:Nat,s=(i:Int)∧i≤xs.length∧J i) (fun (s:Int)=>((xs.length:Int) -s).toNat) ⟨(0:Nat),rfl,Nat.zero_le _,h0⟩ ?_
 rintro s ⟨i,hi,hle,hj⟩
 subst hi
 refine zI ?_ ?_
 ·intro hc
  have hlt:i<xs.length:=by omega
  refine (step i xs[i] (by simp [hlt]) hj).mono ?_
  intro o ho
  cases o with
  |inl s'=>
   obtain ⟨rfl,h2⟩:=ho
   rw [zF (by omega) (by omega)]
   exact ⟨⟨i+1,by omega,hlt,h2⟩,by omega⟩
  |inr o=>
   cases o with
   |inl _=>exact ho.elim
   |inr r=>exact ho
 ·intro hc
  have:i=xs.length:=by omega
  subst this
  exact zB (e2r (fin hj))
end
def yH {α:Type} (p:α→Bool) (xs:List α):Int:=
 match xs.findIdx? p with
 |some i=>i
 |none=> -1
theorem zHo {α:Type} {p:α→Bool} {xs:List α} (h: ∀x,x∈xs→p x=false):yH p xs= -1:=by
 have:xs.findIdx? p=none:=by rw [List.findIdx?_eq_none_iff];exact h
 simp [yH,this]
theorem zU4 {α:Type} {p:α→Bool} {xs:List α} {i:Nat} {x:α} (h:xs[i]? =some x) (hp:p x=true) (hn: ∀j y,j<i→xs[j]? =some y→p y=false):yH p xs=i:=by
 have hlt:=(List.getElem?_eq_some_iff.1 h).1
 have hx:=(List.getElem?_eq_some_iff.1 h).2
 have:xs.findIdx? p=some i:=by
  rw [List.findIdx?_eq_some_iff_getElem]
  refine ⟨hlt,by rw [hx];exact hp,?_⟩
  intro j hj
  have:=hn j xs[j] hj (by simp)
  simp [this]
 simp [yH,this]
theorem zDA {α:Type} (p:α→Bool) (xs:List α):(yH p xs= -1∧ ∀x,x∈xs→p x=false)∨ ∃i x,yH p xs=(i:Nat)∧xs[i]? =some x∧p x=true∧ ∀j y,j<i→xs[j]? =some y→p y=false:=by
 cases h:xs.findIdx? p with
 |none=>left;refine ⟨by simp [yH,h],?_⟩;rw [List.findIdx?_eq_none_iff] at h;exact h
 |some i=>
  right
  rw [List.findIdx?_eq_some_iff_getElem] at h
  obtain ⟨h1,h2,h3⟩:=h
  have h':xs.findIdx? p=some i:=by rw [List.findIdx?_eq_some_iff_getElem];exact ⟨h1,h2,h3⟩
  refine ⟨i,xs[i],by simp [yH,h'],by simp [h1],h2,?_⟩
  intro j y hj hy
  obtain ⟨hjl,rfl⟩:=List.getElem?_eq_some_iff.1 hy
  have:=h3 j hj
  simpa using this
theorem xH {α:Type} {xs:List α} {p:α→Bool} {body:Int→Option (Int ⊕ (Unit ⊕ Int))} {Q:Int→Prop} (hl:xs.length<4611686018427387904)
  (step: ∀ (i:Nat) x,xs[i]? =some x→body (i:Int)=some (bif p x then Sum.inr (Sum.inr (i:Int)) else Sum.inl (IntKind.wrap IntKind.i64 ((i:Int)+1)))) (fin:Q (yH p xs)):
  Wp (qT (zO (fun s:Int=>bif decide (s< (xs.length:Int)) then body s else some (Sum.inr (Sum.inl ()))) (0:Int)) (fun _=>some (-1:Int))) Q:=by
 refine zAJ hl (fun i=> ∀j y,j<i→xs[j]? =some y→p y=false) (fun j y hj=>by omega) ?_ ?_
 ·intro i x hx hj
  refine qJ (step i x hx) ?_
  cases hp:p x with
  |true=>
   simp only [cond_true]
   refine e2r (e2r ?_)
   rw [zU4 hx hp hj] at fin
   exact fin
  |false=>
   simp only [cond_false]
   refine e2l ⟨rfl,?_⟩
   intro j y hji hy
   rcases Nat.lt_or_ge j i with h|h
   ·exact hj j y h hy
   ·have:j=i:=by omega
    subst this
    rw [hx] at hy
    cases hy
    exact hp
 ·intro hj
  refine zB ?_
  rw [zHo] at fin
  ·exact fin
  ·intro x hx
   obtain ⟨j,hjl,rfl⟩:=List.getElem_of_mem hx
   exact hj j _ hjl (by simp [hjl])
end Go.Ve

namespace Go.Ve
open Go
section
variable {α ρ:Type}
theorem zWs {xs:List α} {body:Int→Option (Int ⊕ (Unit ⊕ ρ))} {Q:Unit ⊕ ρ→Prop} (hl:xs.length<4611686018427387904) (J:Nat→Prop) (h0:J 0)
  (step: ∀i x,xs[i]? =some x→J i→Wp (body (i:Int)) (w8 (fun s'=>s'=IntKind.wrap IntKind.i64 ((i:Int)+1)∧J (i+1)) (fun o=>(∀u,o≠Sum.inl u)∧Q o))) (fin:J xs.length→Q (Sum.inl ())):
  Wp (zO (fun s:Int=>bif decide (s< (xs.length:Int)) then body s else some (Sum.inr (Sum.inl ()))) (0:Int)) Q:=by
 refine jY (fun (s:Int)=> ∃i:Nat,s=(i:Int)∧i≤xs.length∧J i) (fun (s:Int)=>((xs.length:Int) -s).toNat) ⟨(0:Nat),rfl,Nat.zero_le _,h0⟩ ?_
 rintro s ⟨i,hi,hle,hj⟩
 subst hi
 refine zI ?_ ?_
 ·intro hc
  have hlt:i<xs.length:=by omega
  refine (step i xs[i] (by simp [hlt]) hj).mono ?_
  intro o ho
  cases o with
  |inl s'=>
   obtain ⟨rfl,h2⟩:=ho
   rw [zF (by omega) (by omega)]
   exact ⟨⟨i+1,by omega,hlt,h2⟩,by omega⟩
  |inr o=>exact ho.2
 ·intro hc
  have:i=xs.length:=by omega
  subst this
  exact zB (e2r (fin hj))
theorem zQe {xs:List α} {P:α→Prop} {body:Int→Option (Int ⊕ (Unit ⊕ ρ))} {Q:Unit ⊕ ρ→Prop} (hl:xs.length<4611686018427387904)
  (step: ∀ (i:Nat) x,xs[i]? =some x→Wp (body (i:Int)) (w8 (fun s'=>s'=IntKind.wrap IntKind.i64 ((i:Int)+1)∧P x) (fun o=>(∀u,o≠Sum.inl u)∧Q o))) (fin:(∀x,x∈xs→P x)→Q (Sum.inl ())):
  Wp (zO (fun s:Int=>bif decide (s< (xs.length:Int)) then body s else some (Sum.inr (Sum.inl ()))) (0:Int)) Q:=by
 refine zWs hl (fun i=> ∀j y,j<i→xs[j]? =some y→P y) (fun j y hj=>by omega) ?_ (fun h=>fin ?_)
 ·intro i x hx hj
  refine (step i x hx).mono ?_
  intro o ho
  cases o with
  |inl s'=>
   refine ⟨ho.1,?_⟩
   intro j y hj' hy
   rcases Nat.lt_or_ge j i with h'|h'
   ·exact hj j y h' hy
   ·have:j=i:=by omega
    subst this
    rw [hx] at hy
    cases hy
    exact ho.2
  |inr o=>exact ho
 ·intro x hx
  obtain ⟨j,hjl,rfl⟩:=List.getElem_of_mem hx
  exact h j _ hjl (by simp [hjl])
end
end Go.Ve

namespace Go.Ve
open Go
section
variable {α:Type} {lt:α→α→Prop}
structure Ord (lt:α→α→Prop):Prop where
 asym: ∀x y,lt x y→ ¬lt y x
 tr: ∀x y z, ¬lt y x→ ¬lt z y→ ¬lt z x
theorem zC7 (ho:Ord lt): ∀ {xs ys:List α},xs.Pairwise lt→ys.Pairwise lt→(∀z,z∈xs↔z∈ys)→xs=ys
 |[],[],_,_,_=>rfl
 |[],y::ys,_,_,h=>by have:=(h y).2 (by simp);cases this
 |x::xs,[],_,_,h=>by have:=(h x).1 (by simp);cases this
 |x::xs,y::ys,hx,hy,h=>by
  rw [List.pairwise_cons] at hx hy
  have irr: ∀z, ¬lt z z:=fun z hz=>ho.asym z z hz hz
  have e:x=y:=by
   rcases List.mem_cons.1 ((h x).1 (by simp)) with h1|h1
   ·exact h1
   ·rcases List.mem_cons.1 ((h y).2 (by simp)) with h2|h2
    ·exact h2.symm
    ·exact absurd (hx.1 y h2) (ho.asym _ _ (hy.1 x h1))
  subst e
  have:xs=ys:=by
   refine zC7 ho hx.2 hy.2 (fun z=>⟨fun hz=> ?_,fun hz=> ?_⟩)
   ·rcases List.mem_cons.1 ((h z).1 (List.mem_cons_of_mem _ hz)) with rfl|h1
    ·exact absurd (hx.1 z hz) (irr z)
    ·exact h1
   ·rcases List.mem_cons.1 ((h z).2 (List.mem_cons_of_mem _ hz)) with rfl|h1
    ·exact absurd (hy.1 z hz) (irr z)
    ·exact h1
  rw [this]
end
end Go.Ve

namespace Go.Ve
open Go
set_option maxRecDepth 1000000
set_option maxHeartbeats 4000000
theorem wM {α:Type} {m:Option α} {x:α} (h:Wp m (fun r=>r=x)):m=some x:=by
 obtain ⟨r,h1,rfl⟩:=h;exact h1
theorem zGE {p q:Ty.El zH} (h:(p.1==q.1&&(p.2.1==q.2.1&&true))=true):p=q:=by
 obtain ⟨a,b,⟨⟩⟩:=p
 obtain ⟨c,d,⟨⟩⟩:=q
 simp only [Bool.and_true,Bool.and_eq_true,beq_iff_eq] at h
 obtain ⟨rfl,rfl⟩:=h
 rfl
def zEE (a b c d:Int):Prop:=a<c∨(a=c∧b<d)
def plt (p q:Ty.El zH):Prop:=zEE p.1 p.2.1 q.1 q.2.1
theorem zHh:Ord plt where
 asym:=fun x y h=>by unfold plt zEE at*;omega
 tr:=fun x y z h1 h2=>by unfold plt zEE at*;omega
theorem zUX {a b c d:Int} (h: ¬zEE c d a b) (hne: ¬(a=c∧b=d)):zEE a b c d:=by
 unfold zEE at*
 omega
theorem zTB {p q:Ty.El zH} (h: ¬plt q p) (hne:p≠q):plt p q:=by
 refine zUX h (fun e=>hne ?_)
 obtain ⟨a,b,⟨⟩⟩:=p
 obtain ⟨c,d,⟨⟩⟩:=q
 obtain ⟨rfl,rfl⟩:=e
 rfl
def zKE (a b c d:Int):Int:=if a<c then-1 else if c<a then 1 else if b<d then-1 else if d<b then 1 else 0
def zZa (p q:Ty.El zH):Int:=zKE p.1 p.2.1 q.1 q.2.1
theorem zQ9 {a b c d:Int} :zKE a b c d<0↔zEE a b c d:=by
 unfold zKE zEE
 split
 ·omega
 ·split
  ·omega
  ·split
   ·omega
   ·split<;>omega
theorem zM4 {p q:Ty.El zH} :zZa p q<0↔plt p q:=zQ9
theorem zIv (a b:Int):wQ (a,b,())=some (if a<b then-1 else if b<a then 1 else 0):=by
 refine wM ?_
 unfold wQ zAh
 simp only [Option.bind_some,bne_self_eq_false,cond_false]
 refine zI (fun h=>zB ?_) (fun h=>zI (fun h'=>zB ?_) (fun h'=>zB ?_))
 ·rw [if_pos h]
 ·rw [if_neg h,if_pos h']
 ·rw [if_neg h,if_neg h']
theorem zAS (a b:Int):qA (a,b,())=some (if a<b then-1 else if b<a then 1 else 0):=by
 refine wM ?_
 unfold qA zCm
 simp only [Option.bind_some,bne_self_eq_false,cond_false]
 refine zI (fun h=>zB ?_) (fun h=>zI (fun h'=>zB ?_) (fun h'=>zB ?_))
 ·rw [if_pos h]
 ·rw [if_neg h,if_pos h']
 ·rw [if_neg h,if_neg h']
theorem zU9 {a b c d:Int} :(if ((if a<c then (-1:Int) else if c<a then 1 else 0) !=0)=true then (if a<c then (-1:Int) else if c<a then 1 else 0) else (if b<d then (-1:Int) else if d<b then 1 else 0))=zKE a b c d:=by
 unfold zKE
 by_cases h1:a<c
 ·simp [h1]
 ·by_cases h2:c<a
  ·simp [h1,h2]
  ·simp [h1,h2]
theorem zJA (p q:Ty.El zH):zBQ (p,q,())=some (zZa p q):=by
 refine wM ?_
 unfold zBQ
 dsimp only
 refine zC (qJ (zIv _ _) (zG (fun h=>zB ?_) (fun h=>zC (qJ (zAS _ _) (zB ?_)))))
 ·have:=zU9 (a:=p.1) (b:=p.2.1) (c:=q.1) (d:=q.2.1)
  rw [if_pos h] at this
  exact this
 ·have:=zU9 (a:=p.1) (b:=p.2.1) (c:=q.1) (d:=q.2.1)
  rw [if_neg (by rw [h];simp)] at this
  exact this
theorem qAd {a b c d:Int} (h:zEE a b c d): -1=zKE a b c d:=by
 unfold zKE;unfold zEE at h
 by_cases h1:a<c
 ·rw [if_pos h1]
 ·rw [if_neg h1,if_neg (by omega),if_pos (by omega)]
theorem qAb {a b:Int} :0=zKE a b a b:=by
 unfold zKE
 rw [if_neg (by omega),if_neg (by omega),if_neg (by omega),if_neg (by omega)]
theorem qAc {a b c d:Int} (h: ¬zEE a b c d) (hne: ¬(a=c∧b=d)):1=zKE a b c d:=by
 unfold zKE;unfold zEE at h
 rw [if_neg (by omega)]
 by_cases h1:c<a
 ·rw [if_pos h1]
 ·rw [if_neg h1,if_neg (by omega),if_pos (by omega)]
theorem zJx (p q:Ty.El zH):zBw (p,q,())=some (zZa p q):=by
 refine wM ?_
 unfold zBw
 dsimp only
 refine zC ((show Wp _ (fun s:Bool=>s=true↔plt p q) from ?_).mono (fun s hs=> ?_))
 ·refine zI (fun h=>zB ⟨fun _=> .inl h,fun _=>rfl⟩) (fun h=>zG (fun h'=>zB ?_) (fun h'=>zB ?_))
  ·have h':p.1=q.1:=by simpa using h'
   rw [decide_eq_true_eq]
   constructor
   ·intro h2;exact .inr ⟨h',h2⟩
   ·intro h2
    rcases h2 with h2|h2
    ·exact absurd h2 h
    ·exact h2.2
  ·have h': ¬p.1=q.1:=by simpa using h'
   constructor
   ·intro h2;cases h2
   ·intro h2
    exfalso
    rcases h2 with h2|h2
    ·exact h h2
    ·exact h' h2.1
 ·refine zG (fun h=>zB (qAd (hs.1 h))) (fun h=>zG (fun he=>zB ?_) (fun he=>zB (qAc ?_ ?_)))
  ·have:=zGE he
   subst this
   exact qAb
  ·exact fun hp=>by rw [hs.2 hp] at h;cases h
  ·intro e
   have h1:(p.1==q.1)=true:=by simpa using e.1
   have h2:(p.2.1==q.2.1)=true:=by simpa using e.2
   rw [h1,h2] at he
   cases he
def zCQ (p:Ty.El zH) (v:Int) (p':Ty.El zH) (v':Int):Prop:=plt p p'∨(p=p'∧v<v')
theorem zSl {p q r:Ty.El zH} {u v w:Int} (h1:zCQ p u q v) (h2:zCQ q v r w):zCQ p u r w:=by
 rcases h1 with h1|⟨rfl,h1⟩
 ·rcases h2 with h2|⟨rfl,h2⟩
  ·exact .inl (by unfold plt zEE at*;omega)
  ·exact .inl h1
 ·rcases h2 with h2|⟨rfl,h2⟩
  ·exact .inl h2
  ·exact .inr ⟨rfl,by omega⟩
theorem zXl {p q:Ty.El zH} {u v:Int} (h: ¬zCQ p u q v) (hne: ¬(p=q∧u=v)):zCQ q v p u:=by
 by_cases he:p=q
 ·subst he
  refine .inr ⟨rfl,?_⟩
  have h1: ¬u<v:=fun h'=>h (.inr ⟨rfl,h'⟩)
  have h2: ¬u=v:=fun h'=>hne ⟨rfl,h'⟩
  omega
 ·exact .inl (zTB (fun h'=>h (.inl h')) (fun h'=>he h'.symm))
end Go.Ve

namespace Go.Ve
open Go
set_option maxRecDepth 1000000
set_option maxHeartbeats 4000000
theorem jR {α:Type} {xs:List α} {i:Int} {y:α} (h:xs[i.toNat]? =some y) (h0:0≤i:=by omega):idx xs i=some y:=by
 rw [idx,if_pos h0];exact h
theorem qG {α:Type} {xs:List α} {i:Int} {Q:α→Prop} {B:α→Prop} (hB: ∀y,y∈xs→B y) (h0:0≤i) (h1:i<xs.length) (h: ∀y,xs[i.toNat]? =some y→B y→Q y):Wp (idx xs i) Q:=
 wE h0 h1 (fun y hm hy=>h y hy (hB y hm))
structure SmR (r:Ty.El zD):Prop where
 i1:List.length r.2.2.1≤20
 i2:List.length r.2.2.2.1≤20
 i3:List.length r.2.2.2.2.1≤20
 i4:List.length r.2.2.2.2.2.1≤20
 i5:List.length r.2.2.2.2.2.2.1≤20
 i6:List.length r.2.2.2.2.2.2.2.1≤20
 i7:List.length r.2.2.2.2.2.2.2.2.1.2.2.1≤20
 i8:List.length r.2.2.2.2.2.2.2.2.1.2.2.2.1≤20
 i9:List.length r.2.2.2.2.2.2.2.2.2.1.2.2.2.2.1≤20
 i10:List.length r.2.2.2.2.2.2.2.2.2.2.1.2.2.2.1≤20
 i11:List.length r.2.2.2.2.2.2.2.2.2.2.1.2.2.2.2.1≤20
 i12:List.length r.2.2.2.2.2.2.2.2.2.2.1.2.2.2.2.2.1≤20
 i13:List.length r.2.2.2.2.2.2.2.2.2.2.1.2.2.2.2.2.2.1≤20
 i14:List.length r.2.2.2.2.2.2.2.2.2.2.1.2.2.2.2.2.2.2.1≤20
 n1: ∀y,y∈r.2.2.2.1→List.length y.2.1≤20
 n2: ∀y,y∈r.2.2.2.2.1→List.length y.2.1≤20
 n3: ∀y,y∈r.2.2.2.2.2.1→List.length y.2.1≤20
structure qA5 (r:Ty.El tPV):Prop where
 i10:List.length r.2.2.2.1≤20
 i11:List.length r.2.2.2.2.1≤20
 i12:List.length r.2.2.2.2.2.1≤20
 i13:List.length r.2.2.2.2.2.2.1≤20
 i14:List.length r.2.2.2.2.2.2.2.1≤20
theorem zEe (a1:Int):Wp (zA5 (a1,())) (fun _=>True):=by
 unfold zA5
 refine zC ?_
 refine zYm (fun _ _=>True) trivial (fun s g h1 h2 _=> ?_) (fun s g _ _ _=>zB (e2r (zB trivial)))
 refine zC ?_
 refine zI (fun _=> ?_) (fun _=> ?_)
 ·refine zI (fun _=> ?_) (fun hn=> ?_)
  ·exact zB (zB (e2l ⟨zF (by simp only;omega) (by simp only;omega),trivial⟩))
  ·exfalso
   apply hn
   simp only
   rw [zF (by omega) (by omega),zJi (by omega) (by omega)]
   omega
 ·exact zB (zB (e2l ⟨zF (by simp only;omega) (by simp only;omega),trivial⟩))
theorem zMe (a1:Ty.El (.int .u8))  :Wp (zCq (a1,())) (fun _=>True):=by
 unfold zCq
 try dsimp only
 repeat' (first
  |with_reducible exact trivial
  |assumption
  |contradiction
  |with_reducible first|refine zB ?_|refine zI (fun _=> ?_) (fun _=> ?_)|refine zG (fun _=> ?_) (fun _=> ?_)|refine zC ?_
  |omega)
theorem vN (a1:Ty.El (.str))  :Wp (zA4 (a1,())) (fun _=>True):=by
 unfold zA4
 try dsimp only
 repeat' (first
  |with_reducible exact trivial
  |assumption
  |contradiction
  |with_reducible first|refine zB ?_|refine (zMe _).mono (fun r _=> ?_)|refine xC ?_ ?_ (fun y _ _=> ?_)|refine jZ (fun _=> ?_) (fun _=> ?_)|refine zI (fun _=> ?_) (fun _=> ?_)|refine zG (fun _=> ?_) (fun _=> ?_)|refine qD ?_|refine wI (fun s _ _=> ?_) (fun s _ _=> ?_)|refine zC ?_|refine e2l ?_|refine e2r ?_
  |exact zF (by omega) (by omega)
  |omega
  |(simp only [List.length_cons,List.length_nil] at*;exact zF (by omega) (by omega)))
theorem jB (a1:Ty.El (tI)) (a2:Ty.El (tI)) (a3:Ty.El (tI))  :Wp (zX (a1,a2,a3,())) (fun _=>True):=by
 unfold zX
 try dsimp only
 repeat' (first
  |with_reducible exact trivial
  |assumption
  |contradiction
  |with_reducible first|refine zB ?_|refine zI (fun _=> ?_) (fun _=> ?_)|refine zG (fun _=> ?_) (fun _=> ?_)|refine zC ?_
  |omega)
theorem zEv (a1:Ty.El (tU)) (a2:Ty.El (tI))  :Wp (wU (a1,a2,())) (fun _=>True):=by
 unfold wU
 try dsimp only
 repeat' (first
  |with_reducible exact trivial
  |assumption
  |contradiction
  |with_reducible first|refine zB ?_|refine (zEe _).mono (fun r _=> ?_)|refine zC ?_
  |exact zF (by omega) (by omega)
  |omega
  |(simp only [List.length_cons,List.length_nil] at*;exact zF (by omega) (by omega)))
theorem zJm (a1:Ty.El (zH)) (a2:Ty.El (tU))  :Wp (xD (a1,a2,())) (fun _=>True):=by
 unfold xD
 try dsimp only
 repeat' (first
  |with_reducible exact trivial
  |assumption
  |contradiction
  |with_reducible first|refine zB ?_|refine (zEe _).mono (fun r _=> ?_)|refine zC ?_
  |exact zF (by omega) (by omega)
  |omega
  |(simp only [List.length_cons,List.length_nil] at*;exact zF (by omega) (by omega)))
theorem zMf (a1:Ty.El (zH)) (a2:Ty.El (zH))  :Wp (xQ (a1,a2,())) (fun _=>True):=by
 unfold xQ
 try dsimp only
 repeat' (first
  |with_reducible exact trivial
  |assumption
  |contradiction
  |with_reducible first|refine zB ?_|refine (zJm _ _).mono (fun r _=> ?_)|refine zI (fun _=> ?_) (fun _=> ?_)|refine zG (fun _=> ?_) (fun _=> ?_)|refine zC ?_
  |omega)
theorem zDV (a1:Ty.El (zH)) (a2:Ty.El (zH))  :Wp (k6 (a1,a2,())) (fun _=>True):=by
 unfold k6
 try dsimp only
 repeat' (first
  |with_reducible exact trivial
  |assumption
  |contradiction
  |with_reducible first|refine zB ?_|refine (zMf _ _).mono (fun r _=> ?_)|refine zG (fun _=> ?_) (fun _=> ?_)|refine zC ?_
  |omega)
theorem zHw (a1:Ty.El (.sl z7)) (h0:List.length a1≤20):Wp (kC (a1,())) (fun _=>True):=by
 unfold kC
 try dsimp only
 repeat' (first
  |with_reducible exact trivial
  |assumption
  |contradiction
  |with_reducible first|refine zB ?_|refine (vN _).mono (fun r _=> ?_)|refine (jB _ _ _).mono (fun r _=> ?_)|refine (zEv _ _).mono (fun r _=> ?_)|refine (zDV _ _).mono (fun r _=> ?_)|refine wE ?_ ?_ (fun y _ _=> ?_)|refine jZ (fun _=> ?_) (fun _=> ?_)|refine zI (fun _=> ?_) (fun _=> ?_)|refine zG (fun _=> ?_) (fun _=> ?_)|refine qD ?_|refine wI (fun s _ _=> ?_) (fun s _ _=> ?_)
  |simp only [jR ‹_[_]? =some _›,Option.bind_some]
  |with_reducible first|refine zC ?_|refine e2l ?_|refine e2r ?_
  |exact zF (by omega) (by omega)
  |omega
  |(simp only [List.length_cons,List.length_nil] at*;exact zF (by omega) (by omega)))
theorem xN (a1:Ty.El (zH))  :Wp (wP (a1,())) (fun _=>True):=by
 unfold wP
 try dsimp only
 repeat' (first
  |with_reducible exact trivial
  |assumption
  |contradiction
  |with_reducible first|refine zB ?_|refine (zEe _).mono (fun r _=> ?_)|refine zI (fun _=> ?_) (fun _=> ?_)|refine zG (fun _=> ?_) (fun _=> ?_)|refine zC ?_
  |exact zF (by omega) (by omega)
  |omega
  |(simp only [List.length_cons,List.length_nil] at*;exact zF (by omega) (by omega)))
theorem zEd (a1:Ty.El (zCF))  :Wp (kI (a1,())) (fun _=>True):=by
 unfold kI
 try dsimp only
 repeat' (first
  |with_reducible exact trivial
  |assumption
  |contradiction
  |with_reducible first|refine zB ?_|refine (xN _).mono (fun r _=> ?_)|refine zI (fun _=> ?_) (fun _=> ?_)|refine zG (fun _=> ?_) (fun _=> ?_)|refine zC ?_
  |omega)
theorem zCn (a1:Ty.El (.sl wW)) (h0:List.length a1≤20) (h1: ∀y,y∈a1→List.length y.2.1≤20):Wp (uV (a1,())) (fun _=>True):=by
 unfold uV
 try dsimp only
 repeat' (first
  |with_reducible exact trivial
  |assumption
  |contradiction
  |with_reducible first|refine zB ?_|refine (vN _).mono (fun r _=> ?_)|refine (zEd _).mono (fun r _=> ?_)|refine qG h1 ?_ ?_ (fun y _ _=> ?_)|refine wE ?_ ?_ (fun y _ _=> ?_)|refine jZ (fun _=> ?_) (fun _=> ?_)|refine zI (fun _=> ?_) (fun _=> ?_)|refine zG (fun _=> ?_) (fun _=> ?_)|refine qD ?_|refine wI (fun s _ _=> ?_) (fun s _ _=> ?_)
  |simp only [jR ‹_[_]? =some _›,Option.bind_some]
  |with_reducible first|refine zC ?_|refine e2l ?_|refine e2r ?_
  |exact zF (by omega) (by omega)
  |omega
  |(simp only [List.length_cons,List.length_nil] at*;exact zF (by omega) (by omega)))
theorem zAq (a1:Ty.El (zD)) (a2:Ty.El (.str)) (h0:SmR a1):Wp (vB (a1,a2,())) (fun (r:Int)=> -1≤r∧r< (List.length a1.2.2.2.1:Int)):=by
 have hh0:=h0
 obtain ⟨i1,i2,i3,i4,i5,i6,i7,i8,i9,i10,i11,i12,i13,i14,n1,n2,n3⟩:=hh0
 unfold vB
 try dsimp only
 repeat' (first
  |with_reducible exact trivial
  |exact ⟨i10,i11,i12,i13,i14⟩
  |assumption
  |contradiction
  |with_reducible first|refine zB ?_|refine qG n1 ?_ ?_ (fun y _ _=> ?_)|refine qG n2 ?_ ?_ (fun y _ _=> ?_)|refine qG n3 ?_ ?_ (fun y _ _=> ?_)|refine wE ?_ ?_ (fun y _ _=> ?_)|refine zI (fun _=> ?_) (fun _=> ?_)|refine zG (fun _=> ?_) (fun _=> ?_)|refine qD ?_|refine wI (fun s _ _=> ?_) (fun s _ _=> ?_)
  |simp only [jR ‹_[_]? =some _›,Option.bind_some]
  |with_reducible first|refine zC ?_|refine e2l ?_|refine e2r ?_
  |exact zF (by omega) (by omega)
  |omega
  |(simp only [List.length_cons,List.length_nil] at*;exact zF (by omega) (by omega))
  |exact ⟨by omega,by omega⟩)
theorem zDg (a1:Ty.El (zD)) (h0:SmR a1):Wp (vZ (a1,())) (fun _=>True):=by
 have hh0:=h0
 obtain ⟨i1,i2,i3,i4,i5,i6,i7,i8,i9,i10,i11,i12,i13,i14,n1,n2,n3⟩:=hh0
 unfold vZ
 try dsimp only
 repeat' (first
  |with_reducible exact trivial
  |exact ⟨i10,i11,i12,i13,i14⟩
  |assumption
  |contradiction
  |with_reducible first|refine zB ?_|refine (vN _).mono (fun r _=> ?_)|refine (zAq _ _ ?_).mono (fun r _=> ?_)|refine (jB _ _ _).mono (fun r _=> ?_)|refine qG n1 ?_ ?_ (fun y _ _=> ?_)|refine qG n2 ?_ ?_ (fun y _ _=> ?_)|refine qG n3 ?_ ?_ (fun y _ _=> ?_)|refine wE ?_ ?_ (fun y _ _=> ?_)|refine jZ (fun _=> ?_) (fun _=> ?_)|refine zI (fun _=> ?_) (fun _=> ?_)|refine zG (fun _=> ?_) (fun _=> ?_)|refine qD ?_|refine wI (fun s _ _=> ?_) (fun s _ _=> ?_)
  |simp only [jR ‹_[_]? =some _›,Option.bind_some]
  |with_reducible first|refine zC ?_|refine e2l ?_|refine e2r ?_
  |exact zF (by omega) (by omega)
  |omega
  |(simp only [List.length_cons,List.length_nil] at*;exact zF (by omega) (by omega)))
theorem zNe (a1:Ty.El (zL))  :Wp (zDp (a1,())) (fun _=>True):=by
 unfold zDp
 try dsimp only
 repeat' (first
  |with_reducible exact trivial
  |assumption
  |contradiction
  |with_reducible first|refine zB ?_|refine zI (fun _=> ?_) (fun _=> ?_)|refine zG (fun _=> ?_) (fun _=> ?_)|refine zC ?_
  |omega)
theorem zQh (a1:Ty.El (zL))  :Wp (zGB (a1,())) (fun _=>True):=by
 unfold zGB
 try dsimp only
 repeat' (first
  |with_reducible exact trivial
  |assumption
  |contradiction
  |with_reducible refine zB ?_
  |omega)
theorem zIj (a1:Ty.El (zRA))  :Wp (zBv (a1,())) (fun _=>True):=by
 unfold zBv
 try dsimp only
 repeat' (first
  |with_reducible exact trivial
  |assumption
  |contradiction
  |with_reducible first|refine zB ?_|refine (jB _ _ _).mono (fun r _=> ?_)|refine (zNe _).mono (fun r _=> ?_)|refine (zQh _).mono (fun r _=> ?_)|refine jZ (fun _=> ?_) (fun _=> ?_)|refine zG (fun _=> ?_) (fun _=> ?_)|refine zC ?_
  |exact zF (by omega) (by omega)
  |omega
  |(simp only [List.length_cons,List.length_nil] at*;exact zF (by omega) (by omega)))
theorem zCo (a1:Ty.El (.sl zKS)) (h0:List.length a1≤20) (h1: ∀y,y∈a1→List.length y.2.1≤20):Wp (uX (a1,())) (fun _=>True):=by
 unfold uX
 try dsimp only
 repeat' (first
  |with_reducible exact trivial
  |assumption
  |contradiction
  |with_reducible first|refine zB ?_|refine (vN _).mono (fun r _=> ?_)|refine (zIj _).mono (fun r _=> ?_)|refine qG h1 ?_ ?_ (fun y _ _=> ?_)|refine wE ?_ ?_ (fun y _ _=> ?_)|refine jZ (fun _=> ?_) (fun _=> ?_)|refine zI (fun _=> ?_) (fun _=> ?_)|refine zG (fun _=> ?_) (fun _=> ?_)|refine qD ?_|refine wI (fun s _ _=> ?_) (fun s _ _=> ?_)
  |simp only [jR ‹_[_]? =some _›,Option.bind_some]
  |with_reducible first|refine zC ?_|refine e2l ?_|refine e2r ?_
  |exact zF (by omega) (by omega)
  |omega
  |(simp only [List.length_cons,List.length_nil] at*;exact zF (by omega) (by omega)))
theorem zJl (a1:Ty.El (zD)) (a2:Ty.El (.str)) (h0:SmR a1):Wp (zDq (a1,a2,())) (fun (r:Int)=> -1≤r∧r< (List.length a1.2.2.2.2.2.1:Int)):=by
 have hh0:=h0
 obtain ⟨i1,i2,i3,i4,i5,i6,i7,i8,i9,i10,i11,i12,i13,i14,n1,n2,n3⟩:=hh0
 unfold zDq
 try dsimp only
 repeat' (first
  |with_reducible exact trivial
  |exact ⟨i10,i11,i12,i13,i14⟩
  |assumption
  |contradiction
  |with_reducible first|refine zB ?_|refine qG n1 ?_ ?_ (fun y _ _=> ?_)|refine qG n2 ?_ ?_ (fun y _ _=> ?_)|refine qG n3 ?_ ?_ (fun y _ _=> ?_)|refine wE ?_ ?_ (fun y _ _=> ?_)|refine zI (fun _=> ?_) (fun _=> ?_)|refine zG (fun _=> ?_) (fun _=> ?_)|refine qD ?_|refine wI (fun s _ _=> ?_) (fun s _ _=> ?_)
  |simp only [jR ‹_[_]? =some _›,Option.bind_some]
  |with_reducible first|refine zC ?_|refine e2l ?_|refine e2r ?_
  |exact zF (by omega) (by omega)
  |omega
  |(simp only [List.length_cons,List.length_nil] at*;exact zF (by omega) (by omega))
  |exact ⟨by omega,by omega⟩)
theorem zBT (a1:Ty.El (zD)) (h0:SmR a1):Wp (kH (a1,())) (fun _=>True):=by
 have hh0:=h0
 obtain ⟨i1,i2,i3,i4,i5,i6,i7,i8,i9,i10,i11,i12,i13,i14,n1,n2,n3⟩:=hh0
 unfold kH
 try dsimp only
 repeat' (first
  |with_reducible exact trivial
  |exact ⟨i10,i11,i12,i13,i14⟩
  |assumption
  |contradiction
  |with_reducible first|refine zB ?_|refine (jB _ _ _).mono (fun r _=> ?_)|refine (zJl _ _ ?_).mono (fun r _=> ?_)|refine qG n1 ?_ ?_ (fun y _ _=> ?_)|refine qG n2 ?_ ?_ (fun y _ _=> ?_)|refine qG n3 ?_ ?_ (fun y _ _=> ?_)|refine wE ?_ ?_ (fun y _ _=> ?_)|refine jZ (fun _=> ?_) (fun _=> ?_)|refine zI (fun _=> ?_) (fun _=> ?_)|refine zG (fun _=> ?_) (fun _=> ?_)|refine qD ?_|refine wI (fun s _ _=> ?_) (fun s _ _=> ?_)
  |simp only [jR ‹_[_]? =some _›,Option.bind_some]
  |with_reducible first|refine zC ?_|refine e2l ?_|refine e2r ?_
  |exact zF (by omega) (by omega)
  |omega
  |(simp only [List.length_cons,List.length_nil] at*;exact zF (by omega) (by omega)))
theorem zEu (a1:Ty.El (zD)) (h0:SmR a1):Wp (zBu (a1,())) (fun _=>True):=by
 have hh0:=h0
 obtain ⟨i1,i2,i3,i4,i5,i6,i7,i8,i9,i10,i11,i12,i13,i14,n1,n2,n3⟩:=hh0
 unfold zBu
 try dsimp only
 repeat' (first
  |with_reducible exact trivial
  |exact ⟨i10,i11,i12,i13,i14⟩
  |assumption
  |contradiction
  |with_reducible first|refine zB ?_|refine (zJl _ _ ?_).mono (fun r _=> ?_)|refine qG n1 ?_ ?_ (fun y _ _=> ?_)|refine qG n2 ?_ ?_ (fun y _ _=> ?_)|refine qG n3 ?_ ?_ (fun y _ _=> ?_)|refine wE ?_ ?_ (fun y _ _=> ?_)|refine zI (fun _=> ?_) (fun _=> ?_)|refine zG (fun _=> ?_) (fun _=> ?_)|refine qD ?_|refine wI (fun s _ _=> ?_) (fun s _ _=> ?_)
  |simp only [jR ‹_[_]? =some _›,Option.bind_some]
  |with_reducible first|refine zC ?_|refine e2l ?_|refine e2r ?_
  |exact zF (by omega) (by omega)
  |omega
  |(simp only [List.length_cons,List.length_nil] at*;exact zF (by omega) (by omega)))
theorem zB4 (a1:Ty.El (zD)) (a2:Ty.El (tU)) (h0:SmR a1):Wp (yP (a1,a2,())) (fun (r:Int)=> -1≤r∧r< (List.length a1.2.2.1:Int)):=by
 have hh0:=h0
 obtain ⟨i1,i2,i3,i4,i5,i6,i7,i8,i9,i10,i11,i12,i13,i14,n1,n2,n3⟩:=hh0
 unfold yP
 try dsimp only
 repeat' (first
  |with_reducible exact trivial
  |exact ⟨i10,i11,i12,i13,i14⟩
  |assumption
  |contradiction
  |with_reducible first|refine zB ?_|refine qG n1 ?_ ?_ (fun y _ _=> ?_)|refine qG n2 ?_ ?_ (fun y _ _=> ?_)|refine qG n3 ?_ ?_ (fun y _ _=> ?_)|refine wE ?_ ?_ (fun y _ _=> ?_)|refine zI (fun _=> ?_) (fun _=> ?_)|refine zG (fun _=> ?_) (fun _=> ?_)|refine qD ?_|refine wI (fun s _ _=> ?_) (fun s _ _=> ?_)
  |simp only [jR ‹_[_]? =some _›,Option.bind_some]
  |with_reducible first|refine zC ?_|refine e2l ?_|refine e2r ?_
  |exact zF (by omega) (by omega)
  |omega
  |(simp only [List.length_cons,List.length_nil] at*;exact zF (by omega) (by omega))
  |exact ⟨by omega,by omega⟩)
theorem zIk (a1:Ty.El (zD)) (a2:Ty.El (.str)) (h0:SmR a1):Wp (uY (a1,a2,())) (fun (r:Int)=> -1≤r∧r< (List.length a1.2.2.1:Int)):=by
 have hh0:=h0
 obtain ⟨i1,i2,i3,i4,i5,i6,i7,i8,i9,i10,i11,i12,i13,i14,n1,n2,n3⟩:=hh0
 unfold uY
 try dsimp only
 repeat' (first
  |with_reducible exact trivial
  |exact ⟨i10,i11,i12,i13,i14⟩
  |assumption
  |contradiction
  |with_reducible first|refine zB ?_|refine qG n1 ?_ ?_ (fun y _ _=> ?_)|refine qG n2 ?_ ?_ (fun y _ _=> ?_)|refine qG n3 ?_ ?_ (fun y _ _=> ?_)|refine wE ?_ ?_ (fun y _ _=> ?_)|refine zI (fun _=> ?_) (fun _=> ?_)|refine zG (fun _=> ?_) (fun _=> ?_)|refine qD ?_|refine wI (fun s _ _=> ?_) (fun s _ _=> ?_)
  |simp only [jR ‹_[_]? =some _›,Option.bind_some]
  |with_reducible first|refine zC ?_|refine e2l ?_|refine e2r ?_
  |exact zF (by omega) (by omega)
  |omega
  |(simp only [List.length_cons,List.length_nil] at*;exact zF (by omega) (by omega))
  |exact ⟨by omega,by omega⟩)
theorem zKR (a1:Ty.El (zD)) (h0:SmR a1):Wp (zAa (a1,())) (fun _=>True):=by
 have hh0:=h0
 obtain ⟨i1,i2,i3,i4,i5,i6,i7,i8,i9,i10,i11,i12,i13,i14,n1,n2,n3⟩:=hh0
 unfold zAa
 try dsimp only
 repeat' (first
  |with_reducible exact trivial
  |exact ⟨i10,i11,i12,i13,i14⟩
  |assumption
  |contradiction
  |with_reducible first|refine zB ?_|refine (xN _).mono (fun r _=> ?_)|refine (zB4 _ _ ?_).mono (fun r _=> ?_)|refine (jB _ _ _).mono (fun r _=> ?_)|refine (zIk _ _ ?_).mono (fun r _=> ?_)|refine qG n1 ?_ ?_ (fun y _ _=> ?_)|refine qG n2 ?_ ?_ (fun y _ _=> ?_)|refine qG n3 ?_ ?_ (fun y _ _=> ?_)|refine wE ?_ ?_ (fun y _ _=> ?_)|refine jZ (fun _=> ?_) (fun _=> ?_)|refine zI (fun _=> ?_) (fun _=> ?_)|refine zG (fun _=> ?_) (fun _=> ?_)|refine qD ?_|refine wI (fun s _ _=> ?_) (fun s _ _=> ?_)
  |simp only [jR ‹_[_]? =some _›,Option.bind_some]
  |with_reducible first|refine zC ?_|refine e2l ?_|refine e2r ?_
  |exact zF (by omega) (by omega)
  |omega
  |(simp only [List.length_cons,List.length_nil] at*;exact zF (by omega) (by omega)))
theorem zBh (a1:Ty.El (zD)) (a2:Ty.El (.str)) (h0:SmR a1):Wp (vO (a1,a2,())) (fun (r:Int)=> -1≤r∧r< (List.length a1.2.2.2.2.1:Int)):=by
 have hh0:=h0
 obtain ⟨i1,i2,i3,i4,i5,i6,i7,i8,i9,i10,i11,i12,i13,i14,n1,n2,n3⟩:=hh0
 unfold vO
 try dsimp only
 repeat' (first
  |with_reducible exact trivial
  |exact ⟨i10,i11,i12,i13,i14⟩
  |assumption
  |contradiction
  |with_reducible first|refine zB ?_|refine qG n1 ?_ ?_ (fun y _ _=> ?_)|refine qG n2 ?_ ?_ (fun y _ _=> ?_)|refine qG n3 ?_ ?_ (fun y _ _=> ?_)|refine wE ?_ ?_ (fun y _ _=> ?_)|refine zI (fun _=> ?_) (fun _=> ?_)|refine zG (fun _=> ?_) (fun _=> ?_)|refine qD ?_|refine wI (fun s _ _=> ?_) (fun s _ _=> ?_)
  |simp only [jR ‹_[_]? =some _›,Option.bind_some]
  |with_reducible first|refine zC ?_|refine e2l ?_|refine e2r ?_
  |exact zF (by omega) (by omega)
  |omega
  |(simp only [List.length_cons,List.length_nil] at*;exact zF (by omega) (by omega))
  |exact ⟨by omega,by omega⟩)
theorem wT (a1:Ty.El (zD)) (a2:Ty.El (.sl jE)) (a3:Ty.El (tI)) (a4:Ty.El (tI)) (a5:Ty.El (tI)) (h0:SmR a1) (h1:List.length a2≤20):Wp (j5 (a1,a2,a3,a4,a5,())) (fun _=>True):=by
 have hh0:=h0
 obtain ⟨i1,i2,i3,i4,i5,i6,i7,i8,i9,i10,i11,i12,i13,i14,n1,n2,n3⟩:=hh0
 unfold j5
 try dsimp only
 repeat' (first
  |with_reducible exact trivial
  |exact ⟨i10,i11,i12,i13,i14⟩
  |assumption
  |contradiction
  |with_reducible first|refine zB ?_|refine (jB _ _ _).mono (fun r _=> ?_)|refine (zBh _ _ ?_).mono (fun r _=> ?_)|refine qG n1 ?_ ?_ (fun y _ _=> ?_)|refine qG n2 ?_ ?_ (fun y _ _=> ?_)|refine qG n3 ?_ ?_ (fun y _ _=> ?_)|refine wE ?_ ?_ (fun y _ _=> ?_)|refine jZ (fun _=> ?_) (fun _=> ?_)|refine zI (fun _=> ?_) (fun _=> ?_)|refine zG (fun _=> ?_) (fun _=> ?_)|refine qD ?_|refine wI (fun s _ _=> ?_) (fun s _ _=> ?_)
  |simp only [jR ‹_[_]? =some _›,Option.bind_some]
  |with_reducible first|refine zC ?_|refine e2l ?_|refine e2r ?_
  |exact zF (by omega) (by omega)
  |omega
  |(simp only [List.length_cons,List.length_nil] at*;exact zF (by omega) (by omega)))
theorem zDh (a1:Ty.El (zD)) (h0:SmR a1):Wp (xP (a1,())) (fun _=>True):=by
 have hh0:=h0
 obtain ⟨i1,i2,i3,i4,i5,i6,i7,i8,i9,i10,i11,i12,i13,i14,n1,n2,n3⟩:=hh0
 unfold xP
 try dsimp only
 repeat' (first
  |with_reducible exact trivial
  |exact ⟨i10,i11,i12,i13,i14⟩
  |assumption
  |contradiction
  |with_reducible first|refine zB ?_|refine (jB _ _ _).mono (fun r _=> ?_)|refine (xN _).mono (fun r _=> ?_)|refine (zDV _ _).mono (fun r _=> ?_)|refine (wT _ _ _ _ _ ?_ ?_).mono (fun r _=> ?_)|refine qG n1 ?_ ?_ (fun y _ _=> ?_)|refine qG n2 ?_ ?_ (fun y _ _=> ?_)|refine qG n3 ?_ ?_ (fun y _ _=> ?_)|refine wE ?_ ?_ (fun y _ _=> ?_)|refine jZ (fun _=> ?_) (fun _=> ?_)|refine zI (fun _=> ?_) (fun _=> ?_)|refine zG (fun _=> ?_) (fun _=> ?_)|refine qD ?_|refine wI (fun s _ _=> ?_) (fun s _ _=> ?_)
  |simp only [jR ‹_[_]? =some _›,Option.bind_some]
  |with_reducible first|refine zC ?_|refine e2l ?_|refine e2r ?_
  |exact zF (by omega) (by omega)
  |omega
  |(simp only [List.length_cons,List.length_nil] at*;exact zF (by omega) (by omega)))
theorem zDU (a1:Ty.El (zD)) (h0:SmR a1):Wp (zAy (a1,())) (fun _=>True):=by
 have hh0:=h0
 obtain ⟨i1,i2,i3,i4,i5,i6,i7,i8,i9,i10,i11,i12,i13,i14,n1,n2,n3⟩:=hh0
 unfold zAy
 try dsimp only
 repeat' (first
  |with_reducible exact trivial
  |exact ⟨i10,i11,i12,i13,i14⟩
  |assumption
  |contradiction
  |with_reducible first|refine zB ?_|refine (jB _ _ _).mono (fun r _=> ?_)|refine (zAq _ _ ?_).mono (fun r _=> ?_)|refine (wT _ _ _ _ _ ?_ ?_).mono (fun r _=> ?_)|refine jZ (fun _=> ?_) (fun _=> ?_)|refine zI (fun _=> ?_) (fun _=> ?_)|refine zG (fun _=> ?_) (fun _=> ?_)|refine zC ?_
  |omega)
theorem zIi (a1:Ty.El (zD)) (h0:SmR a1):Wp (uW (a1,())) (fun _=>True):=by
 have hh0:=h0
 obtain ⟨i1,i2,i3,i4,i5,i6,i7,i8,i9,i10,i11,i12,i13,i14,n1,n2,n3⟩:=hh0
 unfold uW
 try dsimp only
 repeat' (first
  |with_reducible exact trivial
  |exact ⟨i10,i11,i12,i13,i14⟩
  |assumption
  |contradiction
  |with_reducible first|refine zB ?_|refine (jB _ _ _).mono (fun r _=> ?_)|refine (zBh _ _ ?_).mono (fun r _=> ?_)|refine qG n1 ?_ ?_ (fun y _ _=> ?_)|refine qG n2 ?_ ?_ (fun y _ _=> ?_)|refine qG n3 ?_ ?_ (fun y _ _=> ?_)|refine wE ?_ ?_ (fun y _ _=> ?_)|refine zI (fun _=> ?_) (fun _=> ?_)|refine zG (fun _=> ?_) (fun _=> ?_)|refine qD ?_|refine wI (fun s _ _=> ?_) (fun s _ _=> ?_)
  |simp only [jR ‹_[_]? =some _›,Option.bind_some]
  |with_reducible first|refine zC ?_|refine e2l ?_|refine e2r ?_
  |exact zF (by omega) (by omega)
  |omega
  |(simp only [List.length_cons,List.length_nil] at*;exact zF (by omega) (by omega)))
theorem zBU (a1:Ty.El (tPV)) (h0:qA5 a1):Wp (xK (a1,())) (fun _=>True):=by
 have hh0:=h0
 obtain ⟨i10,i11,i12,i13,i14⟩:=hh0
 unfold xK
 try dsimp only
 repeat' (first
  |with_reducible exact trivial
  |assumption
  |contradiction
  |with_reducible first|refine zB ?_|refine (xN _).mono (fun r _=> ?_)|refine wE ?_ ?_ (fun y _ _=> ?_)|refine jZ (fun _=> ?_) (fun _=> ?_)|refine zI (fun _=> ?_) (fun _=> ?_)|refine zG (fun _=> ?_) (fun _=> ?_)|refine qD ?_|refine wI (fun s _ _=> ?_) (fun s _ _=> ?_)
  |simp only [jR ‹_[_]? =some _›,Option.bind_some]
  |with_reducible first|refine zC ?_|refine e2l ?_|refine e2r ?_
  |exact zF (by omega) (by omega)
  |omega
  |(simp only [List.length_cons,List.length_nil] at*;exact zF (by omega) (by omega)))
theorem zCL (a1:Ty.El (zD)) (h0:SmR a1):Wp (vA (a1,())) (fun _=>True):=by
 have hh0:=h0
 obtain ⟨i1,i2,i3,i4,i5,i6,i7,i8,i9,i10,i11,i12,i13,i14,n1,n2,n3⟩:=hh0
 unfold vA
 try dsimp only
 repeat' (first
  |with_reducible exact trivial
  |exact ⟨i10,i11,i12,i13,i14⟩
  |assumption
  |contradiction
  |with_reducible first|refine zB ?_|refine (jB _ _ _).mono (fun r _=> ?_)|refine (zIi _ ?_).mono (fun r _=> ?_)|refine (zBU _ ?_).mono (fun r _=> ?_)|refine (wT _ _ _ _ _ ?_ ?_).mono (fun r _=> ?_)|refine jZ (fun _=> ?_) (fun _=> ?_)|refine zG (fun _=> ?_) (fun _=> ?_)|refine zC ?_
  |exact zF (by omega) (by omega)
  |omega
  |(simp only [List.length_cons,List.length_nil] at*;exact zF (by omega) (by omega)))
theorem zGm (a1:Ty.El (zD)) (h0:SmR a1):Wp (vR (a1,())) (fun _=>True):=by
 have hh0:=h0
 obtain ⟨i1,i2,i3,i4,i5,i6,i7,i8,i9,i10,i11,i12,i13,i14,n1,n2,n3⟩:=hh0
 unfold vR
 try dsimp only
 repeat' (first
  |with_reducible exact trivial
  |exact ⟨i10,i11,i12,i13,i14⟩
  |assumption
  |contradiction
  |with_reducible first|refine zB ?_|refine (vN _).mono (fun r _=> ?_)|refine (jB _ _ _).mono (fun r _=> ?_)|refine (zHw _ ?_).mono (fun r _=> ?_)|refine (zCn _ ?_ ?_).mono (fun r _=> ?_)|refine (zDg _ ?_).mono (fun r _=> ?_)|refine (zCo _ ?_ ?_).mono (fun r _=> ?_)|refine (zBT _ ?_).mono (fun r _=> ?_)|refine (zEu _ ?_).mono (fun r _=> ?_)|refine (zKR _ ?_).mono (fun r _=> ?_)|refine (zDh _ ?_).mono (fun r _=> ?_)|refine (zDU _ ?_).mono (fun r _=> ?_)|refine (zCL _ ?_).mono (fun r _=> ?_)|refine qG n1 ?_ ?_ (fun y _ _=> ?_)|refine qG n2 ?_ ?_ (fun y _ _=> ?_)|refine qG n3 ?_ ?_ (fun y _ _=> ?_)|refine wE ?_ ?_ (fun y _ _=> ?_)|refine jZ (fun _=> ?_) (fun _=> ?_)|refine zI (fun _=> ?_) (fun _=> ?_)|refine zG (fun _=> ?_) (fun _=> ?_)|refine qD ?_|refine wI (fun s _ _=> ?_) (fun s _ _=> ?_)
  |simp only [jR ‹_[_]? =some _›,Option.bind_some]
  |with_reducible first|refine zC ?_|refine e2l ?_|refine e2r ?_
  |exact zF (by omega) (by omega)
  |omega
  |(simp only [List.length_cons,List.length_nil] at*;exact zF (by omega) (by omega)))
theorem zNf (a1:Ty.El (zV)) (h0: ∀y,y∈a1.1→SmR y):Wp (kZ (a1,())) (fun _=>True):=by
 unfold kZ
 try dsimp only
 repeat' (first
  |with_reducible exact trivial
  |assumption
  |contradiction
  |with_reducible first|refine zB ?_|refine (zGm _ ?_).mono (fun r _=> ?_)|refine (zB4 _ _ ?_).mono (fun r _=> ?_)|refine qG h0 ?_ ?_ (fun y _ _=> ?_)|refine wE ?_ ?_ (fun y _ _=> ?_)|refine zI (fun _=> ?_) (fun _=> ?_)|refine zG (fun _=> ?_) (fun _=> ?_)|refine qD ?_|refine wI (fun s _ _=> ?_) (fun s _ _=> ?_)
  |simp only [jR ‹_[_]? =some _›,Option.bind_some]
  |with_reducible first|refine zC ?_|refine e2l ?_|refine e2r ?_
  |exact zF (by omega) (by omega)
  |omega
  |(simp only [List.length_cons,List.length_nil] at*;exact zF (by omega) (by omega))
  |exact zF (by omega) (by have:=SmR.i1 ‹SmR _›;omega))
end Go.Ve

namespace Go.Ve
open Go
set_option maxRecDepth 1000000
set_option maxHeartbeats 4000000
def zKN (n:Ty.El zV) (p:Ty.El zH) (vl:Int) (e:Ty.El zL):Prop:=
 0≤e.1∧0≤e.2.1∧ ∃r x,n.1[e.1.toNat]? =some r∧r.2.2.1[e.2.1.toNat]? =some x∧x.2.2.1≠0∧x.2.2.2.2.1=false∧wU (x.2.1,x.2.2.1,())=some p∧x.2.2.2.1=vl
def qAR (st:HSt zL) (B:Nat) (E:Ty.El zL→Prop) (q:Option (Nat×Nat)):Prop:=
 ∀id m,q=some (id,m)→ ∃xs,st[id]? =some (some xs)∧xs.length=m∧xs.length≤B∧ ∀e,e∈xs→E e
def zON (d d':Ty.El zQ):Prop:= ∀id m m',d.2.2.1=some (id,m)→d'.2.2.1=some (id,m')→False
theorem zON.symm {d d':Ty.El zQ} (h:zON d d'):zON d' d:=fun id m m' h1 h2=>h id m' m h2 h1
structure Bld (n:Ty.El zV) (B:Nat) (D:List (Ty.El zQ)) (st:HSt zL):Prop where
 len:D.length≤B
 ok: ∀d,d∈D→qAR st B (zKN n d.1 d.2.1) d.2.2.1
 ap:D.Pairwise zON
 so:D.Pairwise (fun d d'=>zCQ d.1 d.2.1 d'.1 d'.2.1)
theorem zEU {n:Ty.El zV} {B B':Nat} {D:List (Ty.El zQ)} {st:HSt zL} (h:Bld n B D st) (hb:B≤B'):Bld n B' D st:=by
 refine ⟨Nat.le_trans h.len hb,?_,h.ap,h.so⟩
 intro d hd id m hq
 obtain ⟨xs,h1,h2,h3,h4⟩:=h.ok d hd id m hq
 exact ⟨xs,h1,h2,Nat.le_trans h3 hb,h4⟩
theorem zZg {n:Ty.El zV} {B:Nat} {st:HSt zL} :Bld n B [] st:=⟨Nat.zero_le _,(fun d hd=>by cases hd),List.Pairwise.nil,List.Pairwise.nil⟩
theorem zZh {n:Ty.El zV} {B:Nat} {D:List (Ty.El zQ)} {st:HSt zL} (h:Bld n B D st) (k:Nat) (p:Ty.El zH) (v:Int)
  (hlo: ∀j d,j<k→D[j]? =some d→zCQ d.1 d.2.1 p v) (hhi: ∀d,D[k]? =some d→zCQ p v d.1 d.2.1):
  Bld n (B+1) (D.take k++[((p,v,none,()):Ty.El zQ)]++D.drop k) st:=by
 have h':=zEU h (Nat.le_succ B)
 have hnew: ∀d:Ty.El zQ,zON d ((p,v,none,()):Ty.El zQ):=fun d id m m' _ h2=>by cases h2
 refine ⟨?_,?_,?_,?_⟩
 ·have:=h.len;simp only [List.length_append,List.length_take,List.length_drop,List.length_singleton];omega
 ·intro d hd
  simp only [List.mem_append,List.mem_singleton] at hd
  rcases hd with (hd|rfl)|hd
  ·exact h'.ok d (List.mem_of_mem_take hd)
  ·intro id m hq;cases hq
  ·exact h'.ok d (List.mem_of_mem_drop hd)
 ·have hp:=h.ap
  rw [←List.take_append_drop k D,List.pairwise_append] at hp
  obtain ⟨h1,h2,h3⟩:=hp
  rw [List.pairwise_append,List.pairwise_append]
  refine ⟨⟨h1,List.pairwise_singleton _ _,?_⟩,h2,?_⟩
  ·intro a _ b hb
   simp only [List.mem_singleton] at hb
   subst hb
   exact hnew a
  ·intro a ha b hb
   simp only [List.mem_append,List.mem_singleton] at ha
   rcases ha with ha|rfl
   ·exact h3 a ha b hb
   ·exact (hnew b).symm
 ·have hso:=h.so
  have hso':=List.pairwise_iff_getElem.1 hso
  rw [←List.take_append_drop k D,List.pairwise_append] at hso
  obtain ⟨h1,h2,h3⟩:=hso
  rw [List.pairwise_append,List.pairwise_append]
  refine ⟨⟨h1,List.pairwise_singleton _ _,?_⟩,h2,?_⟩
  ·intro a ha b hb
   simp only [List.mem_singleton] at hb
   subst hb
   obtain ⟨j,hj,hje⟩:=List.getElem_of_mem ha
   rw [List.length_take] at hj
   refine hlo j a (by omega) ?_
   rw [←hje,List.getElem_take,List.getElem?_eq_getElem (by omega)]
  ·intro a ha b hb
   simp only [List.mem_append,List.mem_singleton] at ha
   rcases ha with ha|rfl
   ·exact h3 a ha b hb
   ·obtain ⟨j,hj,hje⟩:=List.getElem_of_mem hb
    rw [List.length_drop] at hj
    rw [List.getElem_drop] at hje
    have hk:D[k]? =some (D[k]'(by omega)):=by simp
    have hlt:=hhi _ hk
    rcases Nat.eq_zero_or_pos j with h0|h0
    ·subst h0
     simp only [Nat.add_zero] at hje
     rw [←hje];exact hlt
    ·rw [←hje]
     exact zSl hlt (hso' k (k+j) (by omega) (by omega) (by omega))
theorem zVb {n:Ty.El zV} {B:Nat} {D:List (Ty.El zQ)} {st st':HSt zL} (h:Bld n B D st) {k:Nat} {d:Ty.El zQ} (hd:D[k]? =some d) {id m:Nat} {xs:List (Ty.El zL)}
  (hnew:st'[id]? =some (some xs)) (hm:xs.length=m) (hB:xs.length≤B+1) (hE: ∀e,e∈xs→zKN n d.1 d.2.1 e) (hid:st.length≤id)
  (hkeep: ∀j ys,st[j]? =some (some ys)→(∀m',d.2.2.1≠some (j,m'))→st'[j]? =some (some ys)):
  Bld n (B+1) (D.set k ((d.1,d.2.1,some (id,m),()):Ty.El zQ)) st':=by
 have hlt:k<D.length:=(List.getElem?_eq_some_iff.1 hd).1
 have hdk:D[k]=d:=(List.getElem?_eq_some_iff.1 hd).2
 have hap:=List.pairwise_iff_getElem.1 h.ap
 have hother: ∀j (hj:j<D.length),j≠k→zON d D[j]:=by
  intro j hj hne
  rcases Nat.lt_or_ge j k with hh|hh
  ·have:=hap j k hj hlt hh;rw [hdk] at this;exact this.symm
  ·have:=hap k j hlt hj (by omega);rw [hdk] at this;exact this
 have hold: ∀j (hj:j<D.length),zON D[j] ((d.1,d.2.1,some (id,m),()):Ty.El zQ):=by
  intro j hj i m1 m2 h1 h2
  obtain ⟨ys,g1,_⟩:=h.ok D[j] (List.getElem_mem hj) i m1 h1
  simp only [Option.some.injEq,Prod.mk.injEq] at h2
  obtain ⟨rfl,_⟩:=h2
  have:=(List.getElem?_eq_some_iff.1 g1).1
  omega
 refine ⟨by rw [List.length_set];have:=h.len;omega,?_,?_,?_⟩
 ·intro x hx
  obtain ⟨j,hj,rfl⟩:=List.getElem_of_mem hx
  rw [List.length_set] at hj
  rw [List.getElem_set]
  split
  ·intro i m1 h1
   simp only [Option.some.injEq,Prod.mk.injEq] at h1
   obtain ⟨rfl,rfl⟩:=h1
   exact ⟨xs,hnew,hm,hB,hE⟩
  ·rename_i hne
   intro i m1 h1
   obtain ⟨ys,g1,g2,g3,g4⟩:=h.ok D[j] (List.getElem_mem hj) i m1 h1
   exact ⟨ys,hkeep i ys g1 (fun m' hq=>hother j hj (fun hh=>hne hh.symm) i m' m1 hq h1),g2,by omega,g4⟩
 ·rw [List.pairwise_iff_getElem]
  intro i j hi hj hij
  rw [List.length_set] at hi hj
  rw [List.getElem_set,List.getElem_set]
  split
  ·split
   ·omega
   ·exact (hold j hj).symm
  ·split
   ·exact hold i hi
   ·exact hap i j hi hj hij
 ·have hso:=List.pairwise_iff_getElem.1 h.so
  rw [List.pairwise_iff_getElem]
  intro i j hi hj hij
  rw [List.length_set] at hi hj
  have:=hso i j hi hj hij
  rw [List.getElem_set,List.getElem_set]
  split
  ·split
   ·omega
   ·rename_i hki _
    subst hki
    rw [hdk] at this
    exact this
  ·split
   ·rename_i hkj
    subst hkj
    rw [hdk] at this
    exact this
   ·exact this
theorem zZi {n:Ty.El zV} {B:Nat} {D:List (Ty.El zQ)} {st:HSt zL} (h:Bld n B D st) (hb:B≤1000) {k:Nat} {d:Ty.El zQ} (hd:D[k]? =some d) {e:Ty.El zL} (he:zKN n d.1 d.2.1 e):
  Wp (zPi 16 st d.2.2.1 [e]) (fun r=>Bld n (B+1) (D.set k ((d.1,d.2.1,r.2,()):Ty.El zQ)) r.1):=by
 have hmem:d∈D:=List.mem_of_getElem? hd
 cases hq:d.2.2.1 with
 |none=>
  refine ⟨(st++[some [e]],some (st.length,1)),?_,?_⟩
  ·simp only [zPi,List.length_singleton]
   rw [if_pos (by omega)]
  ·refine zVb h hd (xs:=[e]) ?_ rfl (by simp) (fun e' h'=>by simp only [List.mem_singleton] at h';subst h';exact he) (Nat.le_refl _) ?_
   ·simp
   ·intro j ys hj _
    rw [List.getElem?_append_left (List.getElem?_eq_some_iff.1 hj).1]
    exact hj
 |some q=>
  obtain ⟨id,m⟩:=q
  obtain ⟨xs,h1,h2,h3,h4⟩:=h.ok d hmem id m hq
  have hlt:=(List.getElem?_eq_some_iff.1 h1).1
  refine ⟨(st.set id none++[some (xs++[e])],some (st.length,(xs++[e]).length)),?_,?_⟩
  ·simp only [zPi,h1,List.length_singleton]
   rw [if_pos (by omega)]
  ·refine zVb h hd (xs:=xs++[e]) ?_ rfl (by simp;omega) ?_ (Nat.le_refl _) ?_
   ·rw [List.getElem?_append_right (by simp)]
    simp
   ·intro e' h'
    simp only [List.mem_append,List.mem_singleton] at h'
    rcases h' with h'|rfl
    ·exact h4 e' h'
    ·exact he
   ·intro j ys hj hne
    have hjl:=(List.getElem?_eq_some_iff.1 hj).1
    rw [List.getElem?_append_left (by rw [List.length_set];exact hjl),List.getElem?_set_ne]
    ·exact hj
    ·intro hh
     subst hh
     exact hne m hq
structure zYc (n:Ty.El zV) (t:Ty.El zJs):Prop where
 doms:t.1.length≤360
 ends : ∀ d, d ∈ t.1 → d.2.2.1.length ≤ 360 ∧ ∀ e, e ∈ d.2.2.1 → zKN n d.1 d.2.1 e
 links:t.2.1.length≤12
 link: ∀l,l∈t.2.1→0≤l∧l< (t.1.length:Int)
 so:t.1.Pairwise (fun d d'=>zCQ d.1 d.2.1 d'.1 d'.2.1)
theorem zSf {α β:Type} {f:α→Option β} {R:α→β→Prop} : ∀ {xs:List α},(∀x,x∈xs→Wp (f x) (R x))→Wp (zKa f xs) (fun ys:List β=>ys.length=xs.length∧ ∀ (i:Nat) x y,xs[i]? =some x→ys[i]? =some y→R x y)
 |[],_=>⟨[],rfl,rfl,fun i x y h=>by simp at h⟩
 |x::r,h=>by
  obtain ⟨y,h1,h2⟩:=h x (by simp)
  obtain ⟨ys,h3,h4,h5⟩:=zSf (xs:=r) (fun z hz=>h z (List.mem_cons_of_mem _ hz))
  refine ⟨y::ys,by simp only [zKa,h1,h3],by simp [h4],?_⟩
  intro i a b ha hb
  cases i with
  |zero=>simp only [List.getElem?_cons_zero,Option.some.injEq] at ha hb;subst ha hb;exact h2
  |succ i=>exact h5 i a b (by simpa using ha) (by simpa using hb)
theorem zX0 {n:Ty.El zV} {B:Nat} {D:List (Ty.El zQ)} {st:HSt zL} (h:Bld n B D st):
  Wp (zKa (zAl st zQ) D) (fun ys=>ys.length=D.length∧(∀d:Ty.El uH,d∈ys→d.2.2.1.length≤B∧ ∀e,e∈d.2.2.1→zKN n d.1 d.2.1 e)∧ys.Pairwise (fun d d':Ty.El uH=>zCQ d.1 d.2.1 d'.1 d'.2.1)):=by
 refine (zSf (R:=fun (d:Ty.El zQ) (y:Ty.El uH)=>(y.2.2.1.length≤B∧ ∀e,e∈y.2.2.1→zKN n y.1 y.2.1 e)∧y.1=d.1∧y.2.1=d.2.1) ?_).mono ?_
 ·intro d hd
  obtain ⟨⟨p1,p2,⟨⟩⟩,v,q,⟨⟩⟩:=d
  cases q with
  |none=>exact ⟨((p1,p2,()),v,[],()),rfl,⟨Nat.zero_le _,fun e he=>by cases he⟩,rfl,rfl⟩
  |some q=>
   obtain ⟨id,m⟩:=q
   obtain ⟨xs,h1,h2,h3,h4⟩:=h.ok _ hd id m rfl
   refine ⟨((p1,p2,()),v,xs,()),?_,⟨h3,h4⟩,rfl,rfl⟩
   simp only [zAl,h1]
 ·rintro ys ⟨h1,h2⟩
  have hat: ∀i (hi:i<ys.length), ∃d,D[i]? =some d∧((ys[i].2.2.1.length≤B∧ ∀e,e∈ys[i].2.2.1→zKN n ys[i].1 ys[i].2.1 e)∧ys[i].1=d.1∧ys[i].2.1=d.2.1):=by
   intro i hi
   refine ⟨D[i]'(by omega),by simp,h2 i _ _ (by simp) (by simp [hi])⟩
  refine ⟨h1,?_,?_⟩
  ·intro d hd
   obtain ⟨i,hi,rfl⟩:=List.getElem_of_mem hd
   obtain ⟨_,_,h3,_⟩:=hat i hi
   exact h3
  ·rw [List.pairwise_iff_getElem]
   intro i j hi hj hij
   have hso:=List.pairwise_iff_getElem.1 h.so i j (by omega) (by omega) hij
   obtain ⟨d,hd,_,e1,e2⟩:=hat i hi
   obtain ⟨d',hd',_,e3,e4⟩:=hat j hj
   obtain ⟨_,rfl⟩:=List.getElem?_eq_some_iff.1 hd
   obtain ⟨_,rfl⟩:=List.getElem?_eq_some_iff.1 hd'
   rw [e1,e2,e3,e4]
   exact hso
end Go.Ve

namespace Go.Ve
open Go
set_option maxRecDepth 1000000
set_option maxHeartbeats 4000000
theorem vL {α:Type} {xs:List α} {i:Nat} {x:α} (h:xs[i]? =some x):atN xs i=some x:=h
abbrev BSt:=(List (Ty.El zQ)×List Int)×HSt zL
theorem zJo (a1:Ty.El zV) (hn:a1.1.length≤9) (hs: ∀y,y∈a1.1→SmR y):
  Wp (zCl [] (a1,())) (fun r=>(r.2.2.1=0→Bld a1 360 r.2.1.1 r.1∧r.2.1.2.1.length≤12∧(∀l,l∈r.2.1.2.1→0≤l∧l< (r.2.1.1.length:Int))∧kZ (a1,())=some 0)∧(r.2.2.1≠0→r.2.1=([],[],()))):=by
 unfold zCl
 dsimp only
 refine zAv ((zNf a1 hs).mono (fun _ _=>trivial)) (fun y0 hy0=> ?_)
 refine zG (fun hc=> ?_) (fun hc=> ?_)
 ·refine zB ⟨fun h=> ?_,fun _=>rfl⟩
  simp only at h
  subst h
  cases hc
 have hy:y0=0:=by simpa using hc
 subst hy
 refine zC ((vI (xs:=a1.1) (by omega) (fun i (g:BSt)=>g.1.2=[]∧Bld a1 (40*i) g.1.1 g.2) ⟨rfl,zZg⟩ ?_ (Q:=fun g=>g.1.2=[]∧Bld a1 360 g.1.1 g.2) (fun g hg=>⟨hg.1,zEU hg.2 (by omega)⟩)).mono ?_)
 ·intro i x g hx hj
  have hi:i<9:=by have:=(List.getElem?_eq_some_iff.1 hx).1;omega
  have hsx:=(hs x (List.mem_of_getElem? hx)).i1
  simp only [zJ hx,Option.bind_some]
  refine (vI (xs:=x.2.2.1) (by omega) (fun j (g:BSt)=>g.1.2=[]∧Bld a1 (40*i+2*j) g.1.1 g.2) hj ?_ (fun g hg=>⟨hg.1,zEU hg.2 (by omega)⟩))
  intro j f g hf hj
  have hjl:j<20:=by have:=(List.getElem?_eq_some_iff.1 hf).1;omega
  obtain ⟨⟨D,L⟩,st⟩:=g
  obtain ⟨rfl,hD⟩:=hj
  simp only [zJ hf,Option.bind_some]
  refine zC ((show Wp _ (fun s:Bool×BSt=>s.2=((D,[]),st)∧(s.1=false→f.2.2.1≠0∧f.2.2.2.2.1=false)) from ?_).mono ?_)
  ·refine zG (fun h=>zB ⟨rfl,fun h=>by cases h⟩) (fun h=>zB ⟨rfl,fun h'=>⟨by simpa using h,h'⟩⟩)
  rintro ⟨b,g⟩ ⟨hg,hb⟩
  simp only at hg hb
  subst hg
  refine zG (fun _=>zB ⟨rfl,zEU hD (by omega)⟩) (fun hb'=> ?_)
  obtain ⟨hlen,hdown⟩:=hb hb'
  refine zAv (zEv _ _) (fun p hp=> ?_)
  refine zC ((show Wp _ (fun s:Int×BSt=> ∃k:Nat,s.1=(k:Int)∧k≤D.length∧s.2=((D,[]),st)∧(∀m d,m<k→D[m]? =some d→zCQ d.1 d.2.1 p f.2.2.2.1)∧(∀d,D[k]? =some d→ ¬zCQ d.1 d.2.1 p f.2.2.2.1)) from ?_).mono ?_)
  ·refine jY (fun s:Int×BSt=> ∃k:Nat,s.1=(k:Int)∧k≤D.length∧s.2=((D,[]),st)∧(∀m d,m<k→D[m]? =some d→zCQ d.1 d.2.1 p f.2.2.2.1)) (fun s=>((D.length:Int) -s.1).toNat) ⟨(0:Nat),rfl,Nat.zero_le _,rfl,fun m d hm=>by omega⟩ ?_
   rintro ⟨s,g⟩ ⟨k,hk,hkl,hg,hlo⟩
   simp only at hk hg
   subst hk hg
   have hDl:D.length≤_:=hD.len
   refine zC ((show Wp _ (fun s:Bool×BSt=>s.2=((D,[]),st)∧(s.1=true→ ∃d,D[k]? =some d∧zCQ d.1 d.2.1 p f.2.2.2.1)∧(s.1=false→ ∀d,D[k]? =some d→ ¬zCQ d.1 d.2.1 p f.2.2.2.1)) from ?_).mono ?_)
   ·refine zI (fun hlt=> ?_) (fun hge=>zB ⟨rfl,(fun h=>by cases h),fun _ d hd=> ?_⟩)
    ·have hlt:k<D.length:=by simp only at hlt;omega
     have hk:D[k]? =some D[k]:=by simp [hlt]
     generalize D[k]=dk at hk
     have hone: ∀d,D[k]? =some d→d=dk:=fun d hd=>by rw [hk] at hd;exact (Option.some.inj hd).symm
     simp only [zJ hk,Int.toNat_natCast,vL hk,Option.bind_some]
     refine zC (qJ (zJx _ _) ?_)
     refine zI (fun hc=>zB ⟨rfl,fun _=>⟨dk,hk, .inl (zM4.1 hc)⟩,fun h=>by cases h⟩) (fun hc=> ?_)
     have hc: ¬plt dk.1 p:=fun h=>hc (zM4.2 h)
     refine zG (fun he=>zB ⟨rfl,fun h=>⟨dk,hk, .inr ⟨zGE he,of_decide_eq_true h⟩⟩,fun h d hd=> ?_⟩) (fun he=>zB ⟨rfl,(fun h=>by cases h),fun _ d hd=> ?_⟩)
     ·have hd:d=dk:=hone d hd
      subst hd
      rintro (h1|⟨_,h1⟩)
      ·exact hc h1
      ·exact of_decide_eq_false h h1
     ·have hd:d=dk:=hone d hd
      subst hd
      rintro (h1|⟨h1,_⟩)
      ·exact hc h1
      ·have he:(d.1.fst==p.1&&(d.1.snd.fst==p.2.1&&true))=false:=he
       rw [h1] at he
       simp at he
    ·have hge: ¬(k:Int)< (D.length:Int):=hge
     have:=(List.getElem?_eq_some_iff.1 hd).1
     omega
   ·rintro ⟨b,g⟩ ⟨hg,hb,hb2⟩
    simp only at hg hb hb2
    subst hg
    refine zG (fun h=> ?_) (fun h=> ?_)
    ·obtain ⟨d,hd,hlt2⟩:=hb h
     have hlt:=(List.getElem?_eq_some_iff.1 hd).1
     refine zB (e2l ⟨⟨k+1,?_,hlt,rfl,?_⟩,?_⟩)
     ·simp only;rw [zF (by omega) (by omega)];omega
     ·intro m d' hm hd'
      rcases Nat.lt_or_ge m k with h'|h'
      ·exact hlo m d' h' hd'
      ·have:m=k:=by omega
       subst this
       rw [hd] at hd'
       cases hd'
       exact hlt2
     ·simp only;rw [zF (by omega) (by omega)];omega
    ·exact zB (e2r ⟨k,rfl,hkl,rfl,hlo,hb2 h⟩)
  rintro ⟨s,g⟩ ⟨k,hk,hkl,hg,hlo,hhi⟩
  simp only at hk hg
  subst hk hg
  have hDl:D.length≤_:=hD.len
  refine zC ((show Wp _ (fun g:BSt=>g.1.2=[]∧Bld a1 (40*i+2*j+1) g.1.1 g.2∧ ∃d,g.1.1[k]? =some d∧d.1=p∧d.2.1=f.2.2.2.1) from ?_).mono ?_)
  ·refine zC ((show Wp _ (fun s:Bool×BSt=>s.2=((D,[]),st)∧(s.1=false→ ∃d,D[k]? =some d∧d.1=p∧d.2.1=f.2.2.2.1)∧(s.1=true→ ∀d,D[k]? =some d→ ¬(d.1=p∧d.2.1=f.2.2.2.1))) from ?_).mono ?_)
   ·refine zG (fun heq=>zB ⟨rfl,(fun h=>by cases h),fun _ d hd=> ?_⟩) (fun hne=> ?_)
    ·have heq:(k:Int)=(D.length:Int):=by simpa using heq
     have:=(List.getElem?_eq_some_iff.1 hd).1
     omega
    have hlt:k<D.length:=by
     have: ¬((k:Int)=(D.length:Int)):=by simpa using hne
     omega
    have hk:D[k]? =some D[k]:=by simp [hlt]
    generalize D[k]=dk at hk
    have hone: ∀d,D[k]? =some d→d=dk:=fun d hd=>by rw [hk] at hd;exact (Option.some.inj hd).symm
    simp only [zJ hk,Int.toNat_natCast,vL hk,Option.bind_some]
    refine zG (fun he=>zB ⟨rfl,(fun h=>by cases h),fun _ d hd h2=> ?_⟩) (fun he=> ?_)
    ·have hd:d=dk:=hone d hd
     subst hd
     have he:(!(d.1.fst==p.1&&(d.1.snd.fst==p.2.1&&true)))=true:=he
     rw [h2.1] at he
     simp at he
    have hpe:=zGE (by simpa using he)
    refine zB ⟨rfl,fun hv=>⟨dk,hk,hpe,by simpa using hv⟩,fun hv d hd h2=> ?_⟩
    have hd:d=dk:=hone d hd
    subst hd
    have hv:(d.2.1 !=f.2.2.2.1)=true:=hv
    rw [h2.2] at hv
    simp at hv
   ·rintro ⟨b,g⟩ ⟨hg,hb,hb2⟩
    simp only at hg hb hb2
    subst hg
    refine zG (fun hbt=> ?_) (fun hf'=>zB ⟨rfl,zEU hD (by omega),hb hf'⟩)
    have hins: ∀d,D[k]? =some d→zCQ p f.2.2.2.1 d.1 d.2.1:=fun d hd=>zXl (hhi d hd) (hb2 hbt d hd)
    refine zG (fun _=> ?_) (fun h=> ?_)
    ·simp only [Int.toNat_natCast,List.take_length]
     refine zC (wN (by simp only [List.length_nil,List.length_drop];omega) ?_)
     refine zG (fun _=> ?_) (fun h=> ?_)
     ·refine zC (wN (by simp only [List.length_take,List.length_singleton];omega) ?_)
      refine zC (wN (by simp only [List.length_append,List.length_nil,List.length_take,List.length_drop,List.length_singleton];omega) ?_)
      rw [List.nil_append]
      refine zB ⟨rfl,zZh hD k p _ hlo hins,⟨(p,f.2.2.2.1,none,()),?_,rfl,rfl⟩⟩
      simp only
      rw [List.append_assoc,List.getElem?_append_right (by simp only [List.length_take];omega)]
      simp only [List.length_take]
      rw [show k-min k D.length=0 by omega]
      rfl
     ·exfalso
      simp only [Bool.and_eq_false_iff,decide_eq_false_iff_not] at h
      omega
    ·exfalso
     simp only [Bool.and_eq_false_iff,decide_eq_false_iff_not] at h
     omega
  rintro ⟨⟨D',L'⟩,st'⟩ ⟨hL,hD',d,hk,hd1,hd2⟩
  simp only at hL hD' hk
  subst hL
  have hD'l:D'.length≤_:=hD'.len
  simp only [zJ hk,Int.toNat_natCast,vL hk,Option.bind_some]
  refine zC ((zZi hD' (by omega) hk (e:=(↑i, ↑j,())) ⟨(show (0:Int)≤(i:Int) by omega),(show (0:Int)≤(j:Int) by omega),x,f,by simpa using hx,by simpa using hf,hlen,hdown,?_,?_⟩).mono ?_)
  ·rw [hp,hd1]
  ·exact hd2.symm
  ·rintro ⟨st2,q2⟩ hB
   exact zB ⟨rfl,zEU hB (by omega)⟩
 ·rintro ⟨⟨D,L⟩,st⟩ ⟨hL,hD⟩
  simp only at hL hD
  subst hL
  have hDl:D.length≤_:=hD.len
  refine zC ((zRj (n:=D.length) (by omega) (fun i (g:BSt)=>g.1.1=D∧g.2=st∧g.1.2.length≤i∧ ∀l,l∈g.1.2→0≤l∧l< (D.length:Int)) ⟨rfl,rfl,Nat.le_refl _,(fun l hl=>by cases hl)⟩ (fun i g hg=>by simp only [hg.1]) ?_
   (Q:=fun g:BSt=>g.1.1=D∧g.2=st∧ ∀l,l∈g.1.2→0≤l∧l< (D.length:Int)) (fun g hg=>⟨hg.1,hg.2.1,hg.2.2.2⟩)).mono ?_)
  ·rintro i ⟨⟨D',L⟩,st'⟩ hi ⟨rfl,rfl,hL,hl⟩
   simp only at hi hL hl
   have hDl2:D'.length≤360:=hD.len
   have hk:D'[i]? =some D'[i]:=by simp [hi]
   simp only [zJ hk,Int.toNat_natCast,vL hk,Option.bind_some]
   refine zI (fun _=> ?_) (fun _=>zB ⟨rfl,rfl,by simp only;omega,hl⟩)
   refine zC (wN (by simp only [List.length_singleton];omega) (zB ⟨rfl,rfl,by simp only [List.length_append,List.length_singleton];omega,?_⟩))
   intro l hl'
   simp only [List.mem_append,List.mem_singleton] at hl'
   rcases hl' with hl'|rfl
   ·exact hl l hl'
   ·omega
  ·rintro ⟨⟨D',L⟩,st'⟩ ⟨rfl,rfl,hl⟩
   simp only at hl
   refine zI (fun _=>zB ⟨(fun h=>by cases h),fun _=>rfl⟩) (fun h=>zB ⟨fun _=>⟨hD,?_,hl,hy0⟩,fun h=>absurd rfl h⟩)
   simp only at h ⊢
   omega
end Go.Ve

namespace Go.Ve
open Go
set_option maxRecDepth 1000000
set_option maxHeartbeats 4000000
theorem zPx {tE a b:Ty} {st:HSt tE} {x:a.El} {y:b.El} {x':(vM tE a).El} {y':(vM tE b).El} (h1:zAl st a x=some x') (h2:zAl st b y=some y'):zAl st (.pair a b) (x,y)=some (x',y'):=by
 simp only [zAl,h1,h2]
theorem zTe {tE a:Ty} {r:List Ty} {st:HSt tE} {x:a.El} {y:ElS r} {x':(vM tE a).El} {y':ElS (zGl tE r)} (h1:zAl st a x=some x') (h2:zNb st r y=some y'):zNb st (a::r) (x,y)=some (x',y'):=by
 simp only [zNb,h1,h2]
theorem zPK {α:Type} {f:α→Option α} (hf: ∀x,f x=some x): ∀l:List α,zKa f l=some l
 |[]=>rfl
 |x::l=>by simp only [zKa,hf x,zPK hf l]
theorem zMh (a1:Ty.El zV) (hn:a1.1.length≤9) (hs: ∀y,y∈a1.1→SmR y):
  Wp (zD1 (a1,())) (fun r=>r.2.1=0→zYc a1 r.1∧kZ (a1,())=some 0):=by
 obtain ⟨⟨st,⟨D,L,⟨⟩⟩,e,⟨⟩⟩,h1,h2,h3⟩:=zJo a1 hn hs
 unfold zD1 zNc
 rw [h1]
 simp only at h2 h3
 by_cases he:e=0
 ·subst he
  obtain ⟨hB,hL,hl,hc⟩:=h2 rfl
  obtain ⟨ys,g1,g2,g3,g4⟩:=zX0 hB
  refine ⟨((ys,L,()),0,()),?_,fun _=>⟨⟨?_,g3,hL,?_,g4⟩,hc⟩⟩
  ·have e1:zAl st (.sl zQ) D=some ys:=g1
   have e2:zAl st (.sl tI) L=some L:=zPK (fun _=>rfl) L
   exact zTe (r:=[tI]) (zPx e1 (zPx e2 rfl)) rfl
  ·simp only;have:D.length≤360:=hB.len;omega
  ·intro l hh;simp only;rw [g2];exact hl l hh
 ·have:=h3 he
  simp only [Prod.mk.injEq] at this
  obtain ⟨rfl,rfl,_⟩:=this
  exact ⟨(([],[],()),e,()),rfl,fun h=>absurd h he⟩
structure zYh (d:List Int) (m:Int):Prop where
 len:d.length≤2
 lo: ∀x,x∈d→0≤x∧x<m
theorem zHy (d:List Int) (m:Int):Wp (zAO (d,m,())) (fun b=>b=true→zYh d m):=by
 unfold zAO
 dsimp only
 refine zI (fun _=>zB (fun h=>by cases h)) (fun h=> ?_)
 refine zAJ (by omega) (fun i=> ∀ (j:Nat) (y:Int),j<i→d[j]? =some y→0≤y∧y<m) (fun j y hj=>by omega) ?_ ?_
 ·intro i (x:Int) hx hj
  have hi:=(List.getElem?_eq_some_iff.1 hx).1
  simp only [zJ hx,Option.bind_some]
  refine zC ((show Wp _ (fun b:Bool=>b=false→0≤x∧x<m) from ?_).mono ?_)
  ·refine zI (fun _=>zB (fun h=>by cases h)) (fun h1=> ?_)
   refine zI (fun _=>zB (fun h=>by cases h)) (fun h2=> ?_)
   refine zI (fun h3=> ?_) (fun _=>zB (fun _=>⟨by omega,by omega⟩))
   refine zC (wE (by rw [zF (by omega) (by omega)];omega) (by rw [zF (by omega) (by omega)];omega) (fun y _ _=>zB (fun _=>⟨by omega,by omega⟩)))
  ·intro b hb
   refine zG (fun _=>zB (e2r (e2r (fun h=>by cases h)))) (fun h=>zB (e2l ⟨rfl,?_⟩))
   intro j y hj' hy
   rcases Nat.lt_or_ge j i with h'|h'
   ·exact hj j y h' hy
   ·have:j=i:=by omega
    subst this
    rw [hx] at hy
    cases hy
    exact hb h
 ·intro hj
  refine zB (fun _=>⟨by omega,?_⟩)
  intro x hx
  obtain ⟨j,hjl,rfl⟩:=List.getElem_of_mem hx
  exact hj j _ hjl (by simp [hjl])
theorem qAh {α:Type} {xs:List α} {P:α→Prop} (h: ∀j y,j<xs.length→xs[j]? =some y→P y): ∀y,y∈xs→P y:=by
 intro x hx
 obtain ⟨j,hjl,rfl⟩:=List.getElem_of_mem hx
 exact h j _ hjl (by simp [hjl])
theorem zEb {α ρ:Type} {xs:List α} {P:α→Prop} {body:Int→Option (Int ⊕ (Unit ⊕ ρ))} {K:Unit→Option ρ} {Q:ρ→Prop} (hl:xs.length<4611686018427387904)
  (step: ∀ (i:Nat) x,xs[i]? =some x→Wp (body (i:Int)) (w8 (fun s'=>s'=IntKind.wrap IntKind.i64 ((i:Int)+1)∧P x) (w8 (fun _=>False) Q))) (fin:(∀x,x∈xs→P x)→Wp (K ()) Q):
  Wp (qT (zO (fun s:Int=>bif decide (s< (xs.length:Int)) then body s else some (Sum.inr (Sum.inl ()))) (0:Int)) K) Q:=by
 refine zAJ hl (fun i=> ∀j y,j<i→xs[j]? =some y→P y) (fun j y hj=>by omega) ?_ (fun h=>fin (qAh h))
 intro i x hx hj
 refine (step i x hx).mono ?_
 intro o ho
 cases o with
 |inl s'=>
  refine ⟨ho.1,?_⟩
  intro j y hj' hy
  rcases Nat.lt_or_ge j i with h'|h'
  ·exact hj j y h' hy
  ·have:j=i:=by omega
   subst this
   rw [hx] at hy
   cases hy
   exact ho.2
 |inr o=>exact ho
theorem zNh (a1:Ty.El zD):Wp (zFr (a1,())) (fun b=>b=true→SmR a1):=by
 unfold zFr
 dsimp only
 refine zC ((show Wp _ (fun b:Bool=>b=false→List.length a1.2.2.1≤12∧List.length a1.2.2.2.1≤12∧List.length a1.2.2.2.2.1≤12∧List.length a1.2.2.2.2.2.1≤12∧List.length a1.2.2.2.2.2.2.1≤12∧
  List.length a1.2.2.2.2.2.2.2.1≤20∧List.length a1.2.2.2.2.2.2.2.2.1.2.2.1≤8∧List.length a1.2.2.2.2.2.2.2.2.1.2.2.2.1≤8∧List.length a1.2.2.2.2.2.2.2.2.2.1.2.2.2.2.1≤8∧
  List.length a1.2.2.2.2.2.2.2.2.2.2.1.2.2.2.2.2.2.2.1≤8∧List.length a1.2.2.2.2.2.2.2.2.2.2.1.2.2.2.1≤12∧List.length a1.2.2.2.2.2.2.2.2.2.2.1.2.2.2.2.1≤12∧
  List.length a1.2.2.2.2.2.2.2.2.2.2.1.2.2.2.2.2.1≤12∧List.length a1.2.2.2.2.2.2.2.2.2.2.1.2.2.2.2.2.2.1≤12) from ?_).mono ?_)
 ·iterate 13 (refine zI (fun _=>zB (fun h=>by cases h)) (fun _=> ?_))
  refine zB (fun h=> ?_)
  have h:=of_decide_eq_false h
  refine ⟨?_,?_,?_,?_,?_,?_,?_,?_,?_,?_,?_,?_,?_,?_⟩<;>omega
 intro b hb
 refine zG (fun _=>zB (fun h=>by cases h)) (fun h=> ?_)
 obtain ⟨i1,i2,i3,i4,i5,i6,i7,i8,i9,i10,i11,i12,i13,i14⟩:=hb h
 refine zEb (P:=fun y=>List.length y.2.1≤20) (by omega) ?_ (fun n1=> ?_)
 ·intro i x hx
  simp only [zJ hx,Option.bind_some]
  exact zI (fun _=>zB (e2r (e2r (fun h=>by cases h)))) (fun _=>zB (e2l ⟨rfl,by omega⟩))
 refine zEb (P:=fun y=>List.length y.2.1≤20) (by omega) ?_ (fun n2=> ?_)
 ·intro i x hx
  simp only [zJ hx,Option.bind_some]
  exact zI (fun _=>zB (e2r (e2r (fun h=>by cases h)))) (fun _=>zB (e2l ⟨rfl,by omega⟩))
 refine zEb (P:=fun y=>List.length y.2.1≤20) (by omega) ?_ (fun n3=> ?_)
 ·intro i x hx
  simp only [zJ hx,Option.bind_some]
  exact zI (fun _=>zB (e2r (e2r (fun h=>by cases h)))) (fun _=>zB (e2l ⟨rfl,by omega⟩))
 refine zB (fun _=> ?_)
 constructor<;>first|assumption|omega
theorem zMi (a1:Ty.El zV):Wp (zD4 (a1,())) (fun b=>b=true→a1.1.length≤9∧ ∀y,y∈a1.1→SmR y):=by
 unfold zD4
 dsimp only
 refine zI (fun _=>zB (fun h=>by cases h)) (fun hn=> ?_)
 refine zEb (P:=SmR) (by omega) ?_ (fun h=>zB (fun _=>⟨by omega,h⟩))
 intro i x hx
 simp only [zJ hx,Option.bind_some]
 refine zC ((zNh x).mono (fun b hb=> ?_))
 refine zG (fun _=>zB (e2r (e2r (fun h=>by cases h)))) (fun h=>zB (e2l ⟨rfl,hb (by simpa using h)⟩))
structure zCg (n:Ty.El zV) (d:List Int) (v:Ty.El zR):Prop where
 net:v.1=n
 rs:n.1.length≤9
 sm: ∀y,y∈n.1→SmR y
 chk:kZ (n,())=some 0
 topo:zYc n v.2.1
 dn:v.2.2.1=d
 down:zYh d v.2.1.2.1.length
theorem zNg (n:Ty.El zV) (d:List Int) (hn:n.1.length≤9) (hs: ∀y,y∈n.1→SmR y):
  Wp (zFc (n,d,())) (fun r=>r.2.1=0→zCg n d r.1):=by
 unfold zFc
 dsimp only
 refine zC ((zMh n hn hs).mono (fun y0 hy=> ?_))
 refine zG (fun h=>zB (fun h'=> ?_)) (fun h=> ?_)
 ·simp only at h'
  rw [h'] at h
  cases h
 have he:y0.2.1=0:=by simpa using h
 obtain ⟨ht,hc⟩:=hy he
 refine zC ((zHy _ _).mono (fun b hb=> ?_))
 refine zG (fun _=>zB (fun h'=>by cases h')) (fun hb'=> ?_)
 have hd:=hb (by simpa using hb')
 refine zC (wN (by have:=hd.len;simp only [List.length_nil];omega) ?_)
 refine zB (fun _=>⟨rfl,hn,hs,hc,ht,rfl,?_⟩)
 exact hd
theorem zNi (n:Ty.El zV) (d:List Int):Wp (zFs (n,d,())) (fun r=>r.2.1=true→zCg n d r.1):=by
 unfold zFs
 dsimp only
 refine zC (zC ((zMi n).mono (fun b hb=> ?_)))
 refine zG (fun _=>zB ?_) (fun h=>zB ?_)
 ·exact zB (fun h=>by cases h)
 ·obtain ⟨hn,hs⟩:=hb (by simpa using h)
  refine zG (fun _=>zB (fun h=>by cases h)) (fun _=> ?_)
  refine zC ((zNg n d hn hs).mono (fun r hr=>zB (fun h=>hr ?_)))
  simpa using h
end Go.Ve

namespace Go.Ve
open Go
set_option maxRecDepth 1000000
set_option maxHeartbeats 4000000
structure RtS (x:Ty.El zA):Prop where
 path:List.length x.2.2.2.2.2.2.2.2.1≤1048576
 hops:List.length x.2.2.2.2.2.2.2.2.2.2.2.1≤1048576
theorem uR (a1:Ty.El (tI)) (a2:Ty.El (tI)) (a3:Ty.El (tI))  :Wp (q7 (a1,a2,a3,())) (fun _=>True):=by
 unfold q7
 try dsimp only
 repeat' (first
  |with_reducible exact trivial
  |assumption
  |contradiction
  |with_reducible refine zB ?_
  |with_reducible refine xC ?_ ?_ (fun y _ _=> ?_)
  |with_reducible refine wE ?_ ?_ (fun y _ _=> ?_)
  |with_reducible refine jZ (fun _=> ?_) (fun _=> ?_)
  |with_reducible refine zI (fun _=> ?_) (fun _=> ?_)
  |with_reducible refine zG (fun _=> ?_) (fun _=> ?_)
  |with_reducible refine qD ?_
  |with_reducible refine wI (fun s _ _=> ?_) (fun s _ _=> ?_)
  |simp only [jR ‹_[_]? =some _›,Option.bind_some]
  |with_reducible refine zAp ?_
  |with_reducible refine zC ?_
  |with_reducible refine e2l ?_
  |with_reducible refine e2r ?_
  |exact zF (by omega) (by omega)
  |omega
  |(rw [zF (by omega) (by omega)];omega)
  |(simp only [beq_iff_eq] at*;omega)
  |(simp only [List.length_cons,List.length_nil] at*;exact zF (by omega) (by omega)))
theorem yT (a1:Ty.El (zA)) (a2:Ty.El (.bool)) (a3:Ty.El (.bool)) (a4:Ty.El (.bool)) (h0:RtS a1):Wp (yJ (a1,a2,a3,a4,())) (fun _=>True):=by
 have hh0:=h0
 obtain ⟨p01,p02⟩:=hh0
 unfold yJ
 try dsimp only
 repeat' (first
  |with_reducible exact trivial
  |assumption
  |contradiction
  |with_reducible refine zB ?_
  |with_reducible refine xC ?_ ?_ (fun y _ _=> ?_)
  |with_reducible refine wE ?_ ?_ (fun y _ _=> ?_)
  |with_reducible refine jZ (fun _=> ?_) (fun _=> ?_)
  |with_reducible refine zI (fun _=> ?_) (fun _=> ?_)
  |with_reducible refine zG (fun _=> ?_) (fun _=> ?_)
  |with_reducible refine qD ?_
  |with_reducible refine wI (fun s _ _=> ?_) (fun s _ _=> ?_)
  |simp only [jR ‹_[_]? =some _›,Option.bind_some]
  |with_reducible refine zAp ?_
  |with_reducible refine zC ?_
  |with_reducible refine e2l ?_
  |with_reducible refine e2r ?_
  |exact zF (by omega) (by omega)
  |omega
  |(rw [zF (by omega) (by omega)];omega)
  |(simp only [beq_iff_eq] at*;omega)
  |(simp only [List.length_cons,List.length_nil] at*;exact zF (by omega) (by omega)))
theorem zJn (a1:Ty.El (qQ)) (a2:Ty.El (qQ))  :Wp (zCk (a1,a2,())) (fun _=>True):=by
 unfold zCk
 try dsimp only
 repeat' (first
  |with_reducible exact trivial
  |assumption
  |contradiction
  |with_reducible refine zB ?_
  |with_reducible refine xC ?_ ?_ (fun y _ _=> ?_)
  |with_reducible refine wE ?_ ?_ (fun y _ _=> ?_)
  |with_reducible refine jZ (fun _=> ?_) (fun _=> ?_)
  |with_reducible refine zI (fun _=> ?_) (fun _=> ?_)
  |with_reducible refine zG (fun _=> ?_) (fun _=> ?_)
  |with_reducible refine qD ?_
  |with_reducible refine wI (fun s _ _=> ?_) (fun s _ _=> ?_)
  |simp only [jR ‹_[_]? =some _›,Option.bind_some]
  |with_reducible refine zAp ?_
  |with_reducible refine zC ?_
  |with_reducible refine e2l ?_
  |with_reducible refine e2r ?_
  |exact zF (by omega) (by omega)
  |omega
  |(rw [zF (by omega) (by omega)];omega)
  |(simp only [beq_iff_eq] at*;omega)
  |(simp only [List.length_cons,List.length_nil] at*;exact zF (by omega) (by omega)))
theorem xO (a1:Ty.El (.sl qQ)) (a2:Ty.El (.bool)) (h0:List.length a1≤1048576):Wp (k7 (a1,a2,())) (fun _=>True):=by
 unfold k7
 try dsimp only
 repeat' (first
  |with_reducible exact trivial
  |assumption
  |contradiction
  |with_reducible refine zB ?_
  |with_reducible refine (zJn _ _).mono (fun r _=> ?_)
  |with_reducible refine xC ?_ ?_ (fun y _ _=> ?_)
  |with_reducible refine wE ?_ ?_ (fun y _ _=> ?_)
  |with_reducible refine jZ (fun _=> ?_) (fun _=> ?_)
  |with_reducible refine zI (fun _=> ?_) (fun _=> ?_)
  |with_reducible refine zG (fun _=> ?_) (fun _=> ?_)
  |with_reducible refine qD ?_
  |with_reducible refine wI (fun s _ _=> ?_) (fun s _ _=> ?_)
  |simp only [jR ‹_[_]? =some _›,Option.bind_some]
  |with_reducible refine zAp ?_
  |with_reducible refine zC ?_
  |with_reducible refine e2l ?_
  |with_reducible refine e2r ?_
  |exact zF (by omega) (by omega)
  |omega
  |(rw [zF (by omega) (by omega)];omega)
  |(simp only [beq_iff_eq] at*;omega)
  |(simp only [List.length_cons,List.length_nil] at*;exact zF (by omega) (by omega)))
theorem zF2 (a1:Ty.El (zA)) (h0:RtS a1):Wp (xL (a1,())) (fun _=>True):=by
 have hh0:=h0
 obtain ⟨p01,p02⟩:=hh0
 unfold xL
 try dsimp only
 repeat' (first
  |with_reducible exact trivial
  |assumption
  |contradiction
  |with_reducible refine zB ?_
  |with_reducible refine (uR _ _ _).mono (fun r _=> ?_)
  |with_reducible refine (yT _ _ _ _ ?_).mono (fun r _=> ?_)
  |with_reducible refine (xO _ _ ?_).mono (fun r _=> ?_)
  |with_reducible refine xC ?_ ?_ (fun y _ _=> ?_)
  |with_reducible refine wE ?_ ?_ (fun y _ _=> ?_)
  |with_reducible refine jZ (fun _=> ?_) (fun _=> ?_)
  |with_reducible refine zI (fun _=> ?_) (fun _=> ?_)
  |with_reducible refine zG (fun _=> ?_) (fun _=> ?_)
  |with_reducible refine qD ?_
  |with_reducible refine wI (fun s _ _=> ?_) (fun s _ _=> ?_)
  |simp only [jR ‹_[_]? =some _›,Option.bind_some]
  |with_reducible refine zAp ?_
  |with_reducible refine zC ?_
  |with_reducible refine e2l ?_
  |with_reducible refine e2r ?_
  |exact zF (by omega) (by omega)
  |omega
  |(rw [zF (by omega) (by omega)];omega)
  |(simp only [beq_iff_eq] at*;omega)
  |(simp only [List.length_cons,List.length_nil] at*;exact zF (by omega) (by omega)))
theorem zEf (a1:Ty.El (zA)) (h0:RtS a1):Wp (kJ (a1,())) (fun _=>True):=by
 have hh0:=h0
 obtain ⟨p01,p02⟩:=hh0
 unfold kJ
 try dsimp only
 repeat' (first
  |with_reducible exact trivial
  |assumption
  |contradiction
  |with_reducible refine zB ?_
  |with_reducible refine (uR _ _ _).mono (fun r _=> ?_)
  |with_reducible refine (yT _ _ _ _ ?_).mono (fun r _=> ?_)
  |with_reducible refine (xO _ _ ?_).mono (fun r _=> ?_)
  |with_reducible refine xC ?_ ?_ (fun y _ _=> ?_)
  |with_reducible refine wE ?_ ?_ (fun y _ _=> ?_)
  |with_reducible refine jZ (fun _=> ?_) (fun _=> ?_)
  |with_reducible refine zI (fun _=> ?_) (fun _=> ?_)
  |with_reducible refine zG (fun _=> ?_) (fun _=> ?_)
  |with_reducible refine qD ?_
  |with_reducible refine wI (fun s _ _=> ?_) (fun s _ _=> ?_)
  |simp only [jR ‹_[_]? =some _›,Option.bind_some]
  |with_reducible refine zAp ?_
  |with_reducible refine zC ?_
  |with_reducible refine e2l ?_
  |with_reducible refine e2r ?_
  |exact zF (by omega) (by omega)
  |omega
  |(rw [zF (by omega) (by omega)];omega)
  |(simp only [beq_iff_eq] at*;omega)
  |(simp only [List.length_cons,List.length_nil] at*;exact zF (by omega) (by omega)))
theorem zEw (a1:Ty.El (zA)) (h0:RtS a1):Wp (uK (a1,())) (fun _=>True):=by
 have hh0:=h0
 obtain ⟨p01,p02⟩:=hh0
 unfold uK
 try dsimp only
 repeat' (first
  |with_reducible exact trivial
  |assumption
  |contradiction
  |with_reducible refine zB ?_
  |with_reducible refine (uR _ _ _).mono (fun r _=> ?_)
  |with_reducible refine (yT _ _ _ _ ?_).mono (fun r _=> ?_)
  |with_reducible refine (xO _ _ ?_).mono (fun r _=> ?_)
  |with_reducible refine xC ?_ ?_ (fun y _ _=> ?_)
  |with_reducible refine wE ?_ ?_ (fun y _ _=> ?_)
  |with_reducible refine jZ (fun _=> ?_) (fun _=> ?_)
  |with_reducible refine zI (fun _=> ?_) (fun _=> ?_)
  |with_reducible refine zG (fun _=> ?_) (fun _=> ?_)
  |with_reducible refine qD ?_
  |with_reducible refine wI (fun s _ _=> ?_) (fun s _ _=> ?_)
  |simp only [jR ‹_[_]? =some _›,Option.bind_some]
  |with_reducible refine zAp ?_
  |with_reducible refine zC ?_
  |with_reducible refine e2l ?_
  |with_reducible refine e2r ?_
  |exact zF (by omega) (by omega)
  |omega
  |(rw [zF (by omega) (by omega)];omega)
  |(simp only [beq_iff_eq] at*;omega)
  |(simp only [List.length_cons,List.length_nil] at*;exact zF (by omega) (by omega)))
theorem zHx (a1:Ty.El (zA)) (h0:RtS a1):Wp (zAM (a1,())) (fun _=>True):=by
 have hh0:=h0
 obtain ⟨p01,p02⟩:=hh0
 unfold zAM
 try dsimp only
 repeat' (first
  |with_reducible exact trivial
  |assumption
  |contradiction
  |with_reducible refine zB ?_
  |with_reducible refine (uR _ _ _).mono (fun r _=> ?_)
  |with_reducible refine (yT _ _ _ _ ?_).mono (fun r _=> ?_)
  |with_reducible refine (xO _ _ ?_).mono (fun r _=> ?_)
  |with_reducible refine xC ?_ ?_ (fun y _ _=> ?_)
  |with_reducible refine wE ?_ ?_ (fun y _ _=> ?_)
  |with_reducible refine jZ (fun _=> ?_) (fun _=> ?_)
  |with_reducible refine zI (fun _=> ?_) (fun _=> ?_)
  |with_reducible refine zG (fun _=> ?_) (fun _=> ?_)
  |with_reducible refine qD ?_
  |with_reducible refine wI (fun s _ _=> ?_) (fun s _ _=> ?_)
  |simp only [jR ‹_[_]? =some _›,Option.bind_some]
  |with_reducible refine zAp ?_
  |with_reducible refine zC ?_
  |with_reducible refine e2l ?_
  |with_reducible refine e2r ?_
  |exact zF (by omega) (by omega)
  |omega
  |(rw [zF (by omega) (by omega)];omega)
  |(simp only [beq_iff_eq] at*;omega)
  |(simp only [List.length_cons,List.length_nil] at*;exact zF (by omega) (by omega)))
theorem zMg (a1:Ty.El (zA)) (h0:RtS a1):Wp (zD0 (a1,())) (fun _=>True):=by
 have hh0:=h0
 obtain ⟨p01,p02⟩:=hh0
 unfold zD0
 try dsimp only
 repeat' (first
  |with_reducible exact trivial
  |assumption
  |contradiction
  |with_reducible refine zB ?_
  |with_reducible refine (xN _).mono (fun r _=> ?_)
  |with_reducible refine (uR _ _ _).mono (fun r _=> ?_)
  |with_reducible refine (yT _ _ _ _ ?_).mono (fun r _=> ?_)
  |with_reducible refine (xO _ _ ?_).mono (fun r _=> ?_)
  |with_reducible refine (zF2 _ ?_).mono (fun r _=> ?_)
  |with_reducible refine (zEf _ ?_).mono (fun r _=> ?_)
  |with_reducible refine (zEw _ ?_).mono (fun r _=> ?_)
  |with_reducible refine (zHx _ ?_).mono (fun r _=> ?_)
  |with_reducible refine xC ?_ ?_ (fun y _ _=> ?_)
  |with_reducible refine wE ?_ ?_ (fun y _ _=> ?_)
  |with_reducible refine jZ (fun _=> ?_) (fun _=> ?_)
  |with_reducible refine zI (fun _=> ?_) (fun _=> ?_)
  |with_reducible refine zG (fun _=> ?_) (fun _=> ?_)
  |with_reducible refine qD ?_
  |with_reducible refine wI (fun s _ _=> ?_) (fun s _ _=> ?_)
  |simp only [jR ‹_[_]? =some _›,Option.bind_some]
  |with_reducible refine zAp ?_
  |with_reducible refine zC ?_
  |with_reducible refine e2l ?_
  |with_reducible refine e2r ?_
  |exact zF (by omega) (by omega)
  |omega
  |(rw [zF (by omega) (by omega)];omega)
  |(simp only [beq_iff_eq] at*;omega)
  |(simp only [List.length_cons,List.length_nil] at*;exact zF (by omega) (by omega)))
end Go.Ve

namespace Go.Ve
open Go
set_option maxRecDepth 1000000
set_option maxHeartbeats 4000000
structure RtB (x:Ty.El zA):Prop where
 path:x.2.2.2.2.2.2.2.2.1.length≤1152921504606846976
 hops:x.2.2.2.2.2.2.2.2.2.2.2.1.length≤1152921504606846976
theorem zJp (p:Ty.El zH) (a:Int):Wp (wD (p,a,())) (fun _=>True):=by
 unfold wD zDf zCf
 simp only [Option.bind_some]
 refine zC (zG (fun _=>zB (zB trivial)) (fun h=> ?_))
 exfalso
 simp only [decide_eq_false_iff_not] at h
 apply h
 split<;>split<;>(rw [zF (by omega) (by omega)];omega)
theorem zVo {α:Type} {m:Option α} {x:α} (h:Wp m (fun _=>True)):m=some (m.getD x):=by
 obtain ⟨r,h,_⟩:=h
 rw [h];rfl
noncomputable def zUj (p:Ty.El zH) (a:Int):Bool:=(wD (p,a,())).getD false
theorem zY9 (p:Ty.El zH) (a:Int):wD (p,a,())=some (zUj p a):=zVo (zJp p a)
def v8 (p q:Ty.El zH):Bool:=p.1==q.1&&(p.2.1==q.2.1&&true)
theorem zDv {p q:Ty.El zH} :v8 p q=true↔p=q:=⟨fun h=>zGE h,fun h=>by subst h;simp [v8]⟩
noncomputable def zH2 (own:Ty.El zH) (a:Int) (best:Option (Ty.El zA)) (x:Ty.El zA):Option (Ty.El zA):=
 if v8 x.1 own|| !zUj x.1 a then best else match best with
  |none=>some x
  |some b=>if x.1.2.1>b.1.2.1 then some x else best
theorem zTu {own:Ty.El zH} {a:Int} {b:Option (Ty.El zA)} {x:Ty.El zA} (h:(v8 x.1 own|| !zUj x.1 a)=true):zH2 own a b x=b:=by
 unfold zH2;rw [if_pos h]
theorem zTv {own:Ty.El zH} {a:Int} {x:Ty.El zA} (h:(v8 x.1 own|| !zUj x.1 a)=false):zH2 own a none x=some x:=by
 unfold zH2;rw [if_neg (by rw [h];simp)]
theorem zNs {own:Ty.El zH} {a:Int} {b x:Ty.El zA} (h:(v8 x.1 own|| !zUj x.1 a)=false):zH2 own a (some b) x=if x.1.2.1>b.1.2.1 then some x else some b:=by
 unfold zH2;rw [if_neg (by rw [h];simp)]
noncomputable def zGz (t:List (Ty.El zA)) (own:Ty.El zH) (a:Int):Option (Ty.El zA):=t.foldl (zH2 own a) none
theorem zTS {α β:Type} {f:β→α→β} {b:β} {xs:List α} {i:Nat} {x:α} (h:xs[i]? =some x):(xs.take (i+1)).foldl f b=f ((xs.take i).foldl f b) x:=by
 rw [List.take_add_one,h]
 simp
theorem zGt (t:List (Ty.El zA)) (own:Ty.El zH) (a:Int) (hl:t.length<4611686018427387904):
  Wp (zAK (t,own,a,())) (fun k=>(k<0∧zGz t own a=none)∨ ∃ (i:Nat) (y:Ty.El zA),k=(i:Int)∧t[i]? =some y∧zGz t own a=some y):=by
 unfold zAK
 dsimp only
 refine zC ((vI (xs:=t) hl (fun i (k:Int)=>(k<0∧(t.take i).foldl (zH2 own a) none=none)∨ ∃ (m:Nat) (y:Ty.El zA),k=(m:Int)∧t[m]? =some y∧(t.take i).foldl (zH2 own a) none=some y)
  (.inl ⟨by omega,rfl⟩) ?_ (fun g hg=> ?_) (Q:=fun k=>(k<0∧zGz t own a=none)∨ ∃ (i:Nat) (y:Ty.El zA),k=(i:Int)∧t[i]? =some y∧zGz t own a=some y)).mono (fun k hk=>zB hk))
 ·intro i x k hx hj
  rw [zTS hx]
  generalize (t.take i).foldl (zH2 own a) none=b at hj
  simp only [zJ hx,Option.bind_some]
  refine zC ((show Wp _ (fun s:Bool=>s=(v8 x.1 own|| !zUj x.1 a)) from ?_).mono ?_)
  ·refine zG (fun h=>zB ?_) (fun h=>zC (qJ (zY9 _ _) (zB ?_)))
   ·have h':v8 x.1 own=true:=h
    simp [h']
   ·have h':v8 x.1 own=false:=h
    simp [h']
  intro s hs
  refine zG (fun h=>zB ?_) (fun h=> ?_)
  ·rw [zTu (by rw [←hs,h])]
   exact hj
  ·have hsk:(v8 x.1 own|| !zUj x.1 a)=false:=by rw [←hs,h]
   rcases hj with ⟨h1,rfl⟩|⟨m,y,rfl,h2,rfl⟩
   ·refine zC (zG (fun _=>zB ?_) (fun h'=> ?_))
    ·exact zB (.inr ⟨i,x,rfl,hx,zTv hsk⟩)
    ·exfalso;simp only [decide_eq_false_iff_not] at h';exact h' h1
   ·refine zC (zG (fun h'=> ?_) (fun _=> ?_))
    ·exfalso;simp only [decide_eq_true_eq] at h';omega
    ·simp only [zJ h2,Option.bind_some]
     refine zB (zI (fun h'=> ?_) (fun h'=> ?_))
     ·exact zB (.inr ⟨i,x,rfl,hx,by rw [zNs hsk,if_pos h']⟩)
     ·exact zB (.inr ⟨m,y,rfl,h2,by rw [zNs hsk,if_neg h']⟩)
 ·rw [List.take_length] at hg
  exact hg
end Go.Ve

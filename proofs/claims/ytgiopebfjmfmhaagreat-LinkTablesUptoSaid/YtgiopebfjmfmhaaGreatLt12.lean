/- law16 -/
import Derived.Test.YtgiopebfjmfmhaaGreatLt11
set_option linter.unusedVariables false
open Option renaming some->Sa,none->Sd
open Bool renaming false->Sb,true->Sc
open Option renaming bind->Aa,map->Am
open Go.IntKind renaming wrap->Ab,bits->Ae,u64->Ah,u32->An
open List renaming length->Ac,set->Al
open Int renaming toNat->Ad,fdiv->Aj
open Sum renaming inr->Af,inl->Ag
open BitVec renaming ofInt->Ai,toNat->Ap
open Nat renaming beq->Ak,min_eq_right->Ao
set_option maxRecDepth 1000000
set_option maxHeartbeats 4000000
namespace Go.Ve
noncomputable section
open Go
def zIM:ElS [zG]->Option (RTy.El (.p .bool)):=fun x=>match x with|(a,())=>Aa (bif decide ((↑(Ac a.2.2.1):Int)>(12:Int))then Sa Sc else bif decide ((↑(Ac a.2.2.2.1):Int)>(12:Int))then Sa Sc else bif decide ((↑(Ac a.2.2.2.2.1):Int)>(12:Int))then Sa Sc else bif decide ((↑(Ac a.2.2.2.2.2.1):Int)>(12:Int))then Sa Sc else bif decide ((↑(Ac a.2.2.2.2.2.2.1):Int)>(12:Int))then Sa Sc else bif decide ((↑(Ac a.2.2.2.2.2.2.2.1):Int)>(20:Int))then Sa Sc else bif decide ((↑(Ac a.2.2.2.2.2.2.2.2.1.2.2.1):Int)>(8:Int))then Sa Sc else bif decide ((↑(Ac a.2.2.2.2.2.2.2.2.1.2.2.2.1):Int)>(8:Int))then Sa Sc else bif decide ((↑(Ac a.2.2.2.2.2.2.2.2.2.1.2.2.2.2.1):Int)>(8:Int))then Sa Sc else bif decide ((↑(Ac a.2.2.2.2.2.2.2.2.2.2.1.2.2.2.2.2.2.2.1):Int)>(8:Int))then Sa Sc else bif decide ((↑(Ac a.2.2.2.2.2.2.2.2.2.2.1.2.2.2.1):Int)>(12:Int))then Sa Sc else bif decide ((↑(Ac a.2.2.2.2.2.2.2.2.2.2.1.2.2.2.2.1):Int)>(12:Int))then Sa Sc else bif decide ((↑(Ac a.2.2.2.2.2.2.2.2.2.2.1.2.2.2.2.2.1):Int)>(12:Int))then Sa Sc else Sa (decide ((↑(Ac a.2.2.2.2.2.2.2.2.2.2.1.2.2.2.2.2.2.1):Int)>(12:Int)))) fun(h:Bool)=>bif h then Sa Sb else wB (zS (fun(e:Int)=>bif decide (e< (↑(Ac a.2.2.2.1):Int))then Aa (idx a.2.2.2.1 e) fun(i:Ty.El zEa)=>bif decide ((↑(Ac i.2.1):Int)>(20:Int))then Sa (Af (Af Sb))else Sa (Ag (Ab .i64 (e+(1:Int))))else Sa (Af (Ag ()))) (0:Int)) fun(l:Unit)=>wB (zS (fun(c:Int)=>bif decide (c< (↑(Ac a.2.2.2.2.1):Int))then Aa (idx a.2.2.2.2.1 c) fun(f:Ty.El zLK)=>bif decide ((↑(Ac f.2.1):Int)>(12:Int))then Sa (Af (Af Sb))else Sa (Ag (Ab .i64 (c+(1:Int))))else Sa (Af (Ag ()))) (0:Int)) fun(j:Unit)=>wB (zS (fun(d:Int)=>bif decide (d< (↑(Ac a.2.2.2.2.2.1):Int))then Aa (idx a.2.2.2.2.2.1 d) fun(g:Ty.El zOX)=>bif decide ((↑(Ac g.2.1):Int)>(20:Int))then Sa (Af (Af Sb))else Sa (Ag (Ab .i64 (d+(1:Int))))else Sa (Af (Ag ()))) (0:Int)) fun(k:Unit)=>Sa Sc
def zG9:ElS [zJ]->Option (RTy.El (.p .bool)):=fun x=>match x with|(a,())=>bif decide ((↑(Ac a.1):Int)>(9:Int))then Sa Sb else wB (zS (fun(c:Int)=>bif decide (c< (↑(Ac a.1):Int))then Aa (idx a.1 c) fun(d:Ty.El zG)=>Aa (zIM (d,())) fun(e:Bool)=>bif !e then Sa (Af (Af Sb))else Sa (Ag (Ab .i64 (c+(1:Int))))else Sa (Af (Ag ()))) (0:Int)) fun(f:Unit)=>Sa Sc
def xS:ElS [zD,zD]->Option (RTy.El (.p tI)):=fun x=>match x with|(a,c,())=>Aa (bif decide (a.1<c.1)then Sa Sc else bif a.1==c.1 then Sa (decide (a.2.1<c.2.1))else Sa Sb) fun(d:Bool)=>bif d then Sa (-1:Int)else bif a.1==c.1&&(a.2.1==c.2.1&&Sc)then Sa (0:Int)else Sa (1:Int)
def zEx:HSt zR->ElS [zJ]->Option (HSt zR×RTy.El (.tu [zMh,tI])):=fun m x=>match x with|(t,())=>Aa (x8 (t,())) fun(M:Int)=>bif M !=(0:Int)then Sa (m,([],[],()),M,())else Aa (zS (fun(h:Int×(List (Ty.El zW)×List Int)×HSt zR)=>bif decide (h.1< (↑(Ac t.1):Int))then Aa (zS (fun(i:Int×(List (Ty.El zW)×List Int)×HSt zR)=>Aa (idx t.1 h.1) fun(N:Ty.El zG)=>bif decide (i.1< (↑(Ac N.2.2.1):Int))then Aa (Aa (idx t.1 h.1) fun(O:Ty.El zG)=>Aa (idx O.2.2.1 i.1) fun(j:Ty.El zZ)=>Aa (bif j.2.2.1==(0:Int)then Sa (Sc,i.2)else Sa (j.2.2.2.2.1,i.2)) fun(u:Bool×(List (Ty.El zW)×List Int)×HSt zR)=>bif u.1 then Sa u.2 else Aa (uE (j.2.1,j.2.2.1,())) fun(l:Int×Int×Unit)=>Aa (zS (fun(e:Int×(List (Ty.El zW)×List Int)×HSt zR)=>Aa (bif decide (e.1< (↑(Ac e.2.1.1):Int))then Aa (idx e.2.1.1 e.1) fun(P:Ty.El zW)=>Aa (atN e.2.1.1 (Ad e.1)) fun(y:Ty.El zW)=>Aa (xS (y.1,l,())) fun(z:Int)=>bif decide (z< (0:Int))then Sa (Sc,e.2)else Aa (idx e.2.1.1 e.1) fun(Q:Ty.El zW)=>Aa (atN e.2.1.1 (Ad e.1)) fun(n:Ty.El zW)=>bif n.1.1==l.1&&(n.1.2.1==l.2.1&&Sc)then Aa (idx e.2.1.1 e.1) fun(S:Ty.El zW)=>Aa (atN e.2.1.1 (Ad e.1)) fun(A:Ty.El zW)=>Sa (decide (A.2.1<j.2.2.2.1),e.2)else Sa (Sb,e.2)else Sa (Sb,e.2)) fun(k:Bool×(List (Ty.El zW)×List Int)×HSt zR)=>bif k.1 then Sa (Ag (Ab .i64 (e.1+(1:Int)),k.2))else Sa (Af (e.1,k.2))) ((0:Int),u.2)) fun(a:Int×(List (Ty.El zW)×List Int)×HSt zR)=>Aa (Aa (bif a.1==(↑(Ac a.2.1.1):Int)then Sa (Sc,a.2)else Aa (idx a.2.1.1 a.1) fun(W:Ty.El zW)=>Aa (atN a.2.1.1 (Ad a.1)) fun(p:Ty.El zW)=>bif !(p.1.1==l.1&&(p.1.2.1==l.2.1&&Sc))then Sa (Sc,a.2)else Aa (idx a.2.1.1 a.1) fun(Y:Ty.El zW)=>Aa (atN a.2.1.1 (Ad a.1)) fun(B:Ty.El zW)=>Sa (B.2.1 !=j.2.2.2.1,a.2)) fun(d:Bool×(List (Ty.El zW)×List Int)×HSt zR)=>bif d.1 then bif decide ((0:Int)<=a.1)&&decide (a.1<=(↑(Ac d.2.1.1):Int))&&decide ((↑(Ac d.2.1.1):Int)<=(↑(Ac d.2.1.1):Int))then Aa (app (48:Nat) [] (List.drop (Ad a.1) (List.take (Ad (↑(Ac d.2.1.1):Int)) d.2.1.1))) fun(C:List (Ty.El zW))=>bif decide ((0:Int)<=(0:Int))&&decide ((0:Int)<=a.1)&&decide (a.1<=(↑(Ac d.2.1.1):Int))then Aa (app (48:Nat) (List.take (Ad a.1) d.2.1.1) [(l,j.2.2.2.1,Sd,())]) fun(D:List (Ty.El zW))=>Aa (app (48:Nat) D C) fun(E:List (Ty.El zW))=>Sa ((E,d.2.1.2),d.2.2)else Sd else Sd else Sa d.2) fun(f:(List (Ty.El zW)×List Int)×HSt zR)=>Aa (idx f.1.1 a.1) fun(Z:Ty.El zW)=>Aa (atN f.1.1 (Ad a.1)) fun(F:Ty.El zW)=>Aa (zOh (16:Nat) f.2 F.2.2.1 [(h.1,i.1,())]) fun(q:List (Option (List (Ty.El zR)))×Option (Nat×Nat))=>Aa (idx f.1.1 a.1) fun(ab:Ty.El zW)=>Aa (atN f.1.1 (Ad a.1)) fun(r:Ty.El zW)=>Sa ((Al f.1.1 (Ad a.1) (r.1,r.2.1,q.2,()),f.1.2),q.1)) fun(G:(List (Ty.El zW)×List Int)×HSt zR)=>Sa (Ag (Ab .i64 (i.1+(1:Int)),G))else Sa (Af i.2)) ((0:Int),h.2)) fun(H:(List (Ty.El zW)×List Int)×HSt zR)=>Sa (Ag (Ab .i64 (h.1+(1:Int)),H))else Sa (Af h.2)) ((0:Int),([],[]),m)) fun(I:(List (Ty.El zW)×List Int)×HSt zR)=>Aa (zS (fun(c:Int×(List (Ty.El zW)×List Int)×HSt zR)=>bif decide (c.1< (↑(Ac c.2.1.1):Int))then Aa (Aa (idx c.2.1.1 c.1) fun(ad:Ty.El zW)=>Aa (atN c.2.1.1 (Ad c.1)) fun(J:Ty.El zW)=>bif decide ((↑(qBb J.2.2.1):Int)>(1:Int))then Aa (app (8:Nat) c.2.1.2 [c.1]) fun(K:List Int)=>Sa ((c.2.1.1,K),c.2.2)else Sa c.2) fun(L:(List (Ty.El zW)×List Int)×HSt zR)=>Sa (Ag (Ab .i64 (c.1+(1:Int)),L))else Sa (Af c.2)) ((0:Int),I)) fun(g:(List (Ty.El zW)×List Int)×HSt zR)=>bif decide ((↑(Ac g.1.2):Int)>(12:Int))then Sa (g.2,([],[],()),(7:Int),())else Sa (g.2,(g.1.1,g.1.2,()),(0:Int),())
def zG4:ElS [zJ]->Option (RTy.El (.tu [zLJ,tI])):=zRE (.tu [zMh,tI]) zEx
def zCm:ElS [(.sl tI),tI]->Option (RTy.El (.p .bool)):=fun x=>match x with|(c,i,())=>bif decide ((↑(Ac c):Int)>(2:Int))then Sa Sb else wB (zS (fun(a:Int)=>bif decide (a< (↑(Ac c):Int))then Aa (Aa (idx c a) fun(d:Int)=>bif decide (d< (0:Int))then Sa Sc else Aa (idx c a) fun(e:Int)=>bif decide (e>=i)then Sa Sc else bif decide (a>(0:Int))then Aa (idx c a) fun(f:Int)=>Aa (idx c (Ab .i64 (a- (1:Int)))) fun(g:Int)=>Sa (decide (f<=g))else Sa Sb) fun(h:Bool)=>bif h then Sa (Af (Af Sb))else Sa (Ag (Ab .i64 (a+(1:Int))))else Sa (Af (Ag ()))) (0:Int)) fun(j:Unit)=>Sa Sc
def zID:ElS [zJ,(.sl tI)]->Option (RTy.El (.tu [zI,tI])):=fun x=>match x with|(c,d,())=>Aa (zG4 (c,())) fun(a:Ty.El zLJ×Int×Unit)=>bif a.2.1 !=(0:Int)then Sa ((([],()),([],[],()),[],()),a.2.1,())else Aa (zCm (d,(↑(Ac a.1.2.1):Int),())) fun(e:Bool)=>bif !e then Sa ((([],()),([],[],()),[],()),(1:Int),())else Aa (app (8:Nat) [] d) fun(f:List Int)=>Sa ((c,a.1,f,()),(0:Int),())
def zIN:ElS [zJ,(.sl tI)]->Option (RTy.El (.tu [zI,.bool])):=fun x=>match x with|(a,c,())=>Aa (Aa (zG9 (a,())) fun(e:Bool)=>bif !e then Sa Sc else Sa (decide ((↑(Ac c):Int)>(2:Int)))) fun(f:Bool)=>bif f then Sa ((([],()),([],[],()),[],()),Sb,())else Aa (zID (a,c,())) fun(d:Ty.El zI×Int×Unit)=>Sa (d.1,d.2.1==(0:Int),())
def wY:ElS [tI,tI,tI]->Option (RTy.El (.p .bool)):=fun x=>match x with|(a,c,d,())=>Aa (bif decide (c<=a)then Sa (decide (a<=d))else Sa Sb) fun(e:Bool)=>Sa e
def zAH:ElS [zC,.bool,.bool,.bool]->Option (RTy.El (.p .bool)):=fun x=>match x with|(a,e,d,c,())=>Aa (bif e then bif d then bif c then Sa Sc else Sa (a.2.2.2.2.2.2.2.2.2.2.1==(0:Int))else bif a.2.2.2.2.2.2.2.1==(0:Int)then bif (↑(Ac a.2.2.2.2.2.2.2.2.1):Int)==(0:Int)then bif a.2.2.2.2.2.2.2.2.2.1==(0:Int)then bif c then Sa Sc else Sa (a.2.2.2.2.2.2.2.2.2.2.1==(0:Int))else Sa Sb else Sa Sb else Sa Sb else bif a.2.2.2.2.2.1==(0:Int)then bif d then bif c then Sa Sc else Sa (a.2.2.2.2.2.2.2.2.2.2.1==(0:Int))else bif a.2.2.2.2.2.2.2.1==(0:Int)then bif (↑(Ac a.2.2.2.2.2.2.2.2.1):Int)==(0:Int)then bif a.2.2.2.2.2.2.2.2.2.1==(0:Int)then bif c then Sa Sc else Sa (a.2.2.2.2.2.2.2.2.2.2.1==(0:Int))else Sa Sb else Sa Sb else Sa Sb else Sa Sb) fun(f:Bool)=>Sa f
def zEw:ElS [zP,zP]->Option (RTy.El (.p .bool)):=fun x=>match x with|(a,c,())=>Aa (bif decide (a.1<c.1)then Sa Sc else bif a.1==c.1 then Sa (decide (a.2.1<c.2.1))else Sa Sb) fun(d:Bool)=>Sa d
def yW:ElS [(.sl zP),.bool]->Option (RTy.El (.p .bool)):=fun x=>match x with|(c,k,())=>wB (zS (fun(a:Int)=>bif decide (a< (↑(Ac c):Int))then Aa (Aa (idx c a) fun(d:Ty.El zP)=>bif decide (d.1< (0:Int))then Sa Sc else bif decide (a>(0:Int))then Aa (idx c (Ab .i64 (a- (1:Int)))) fun(e:Ty.El zP)=>Aa (idx c a) fun(f:Ty.El zP)=>Aa (zEw (e,f,())) fun(g:Bool)=>bif !g then Sa Sc else Aa (idx c a) fun(h:Ty.El zP)=>Sa !(h.2.1==(0:Int))==k else Aa (idx c a) fun(i:Ty.El zP)=>Sa !(i.2.1==(0:Int))==k) fun(j:Bool)=>bif j then Sa (Af (Af Sb))else Sa (Ag (Ab .i64 (a+(1:Int))))else Sa (Af (Ag ()))) (0:Int)) fun(l:Unit)=>Sa Sc
def zG2:ElS [zC]->Option (RTy.El (.p .bool)):=fun x=>match x with|(a,())=>Aa (bif a.2.2.1 !=(0:Int)then Sa Sc else bif a.2.2.2.2.1 !=(0:Int)then Sa Sc else Aa (wY (a.2.2.2.1,(1:Int),(255:Int),())) fun(c:Bool)=>bif !c then Sa Sc else Aa (zAH (a,Sb,Sb,Sc,())) fun(d:Bool)=>Sa !d) fun(e:Bool)=>bif e then Sa Sb else bif a.2.2.2.2.2.2.2.2.2.2.1 !=(0:Int)then Aa (bif (↑(Ac a.2.2.2.2.2.2.2.2.2.2.2.1):Int)==(0:Int)then Sa !a.2.2.2.2.2.2.2.2.2.2.2.2.1 else Sa Sb) fun(f:Bool)=>Sa f else bif a.2.2.2.2.2.2.2.2.2.2.2.2.1 then Sa ((↑(Ac a.2.2.2.2.2.2.2.2.2.2.2.1):Int)==(0:Int))else Aa (bif (↑(Ac a.2.2.2.2.2.2.2.2.2.2.2.1):Int)==(1:Int)then Aa (yW (a.2.2.2.2.2.2.2.2.2.2.2.1,Sc,())) fun(g:Bool)=>Sa g else Sa Sb) fun(h:Bool)=>Sa h
def xT:ElS [zC]->Option (RTy.El (.p .bool)):=fun x=>match x with|(a,())=>Aa (Aa (wY (a.2.2.1,(1:Int),(4:Int),())) fun(h:Bool)=>bif !h then Sa Sc else Aa (wY (a.2.2.2.1,(1:Int),(255:Int),())) fun(i:Bool)=>bif !i then Sa Sc else Aa (wY (a.2.2.2.2.1,(0:Int),(1073741824:Int),())) fun(j:Bool)=>bif !j then Sa Sc else Aa (zAH (a,Sc,Sb,Sb,())) fun(k:Bool)=>Sa !k) fun(l:Bool)=>bif l then Sa Sb else Aa (Aa (wY (a.2.2.2.2.2.1,(0:Int),(1073741824:Int),())) fun(c:Bool)=>bif !c then Sa Sc else bif a.2.2.1 !=(4:Int)then Sa (a.2.2.2.2.2.1 !=(0:Int))else Sa Sb) fun(d:Bool)=>bif d then Sa Sb else bif a.2.2.2.2.2.2.2.2.2.2.2.2.1 then Aa (bif a.2.2.1==(1:Int)then bif a.2.2.2.2.1==(0:Int)then bif a.2.2.2.2.2.2.1==(0:Int)then Sa ((↑(Ac a.2.2.2.2.2.2.2.2.2.2.2.1):Int)==(0:Int))else Sa Sb else Sa Sb else Sa Sb) fun(e:Bool)=>Sa e else Aa (bif decide ((↑(Ac a.2.2.2.2.2.2.2.2.2.2.2.1):Int)>(0:Int))then Aa (yW (a.2.2.2.2.2.2.2.2.2.2.2.1,Sb,())) fun(f:Bool)=>Sa f else Sa Sb) fun(g:Bool)=>Sa g
def zFt:ElS [zC]->Option (RTy.El (.p .bool)):=fun x=>match x with|(a,())=>Aa (Aa (wY (a.2.2.2.1,(1:Int),(255:Int),())) fun(e:Bool)=>bif !e then Sa Sc else Aa (wY (a.2.2.2.2.1,(1:Int),(15:Int),())) fun(f:Bool)=>bif !f then Sa Sc else Aa (zAH (a,Sb,Sb,Sb,())) fun(g:Bool)=>bif !g then Sa Sc else Sa a.2.2.2.2.2.2.2.2.2.2.2.2.1) fun(h:Bool)=>bif h then Sa Sb else bif a.2.2.1==(1:Int)then Aa (bif a.2.2.2.2.1==(1:Int)then bif a.2.2.2.2.2.2.1==(0:Int)then bif (↑(Ac a.2.2.2.2.2.2.2.2.2.2.2.1):Int)==(1:Int)then Aa (yW (a.2.2.2.2.2.2.2.2.2.2.2.1,Sc,())) fun(i:Bool)=>Sa i else Sa Sb else Sa Sb else Sa Sb) fun(j:Bool)=>Sa j else bif a.2.2.1==(2:Int)then Sa ((↑(Ac a.2.2.2.2.2.2.2.2.2.2.2.1):Int)==(0:Int))else bif a.2.2.1==(3:Int)then Aa (bif decide ((↑(Ac a.2.2.2.2.2.2.2.2.2.2.2.1):Int)>(0:Int))then Aa (yW (a.2.2.2.2.2.2.2.2.2.2.2.1,Sb,())) fun(c:Bool)=>Sa c else Sa Sb) fun(d:Bool)=>Sa d else Sa Sb
def zJh:ElS [zC]->Option (RTy.El (.p .bool)):=fun x=>match x with|(a,())=>Aa (Aa (wY (a.2.2.2.1,(1:Int),(255:Int),())) fun(j:Bool)=>bif !j then Sa Sc else Aa (wY (a.2.2.2.2.1,(0:Int),(16777215:Int),())) fun(k:Bool)=>bif !k then Sa Sc else Aa (wY (a.2.2.2.2.2.2.2.1,(0:Int),(1000000:Int),())) fun(l:Bool)=>bif !l then Sa Sc else Aa (zAH (a,Sb,Sc,Sb,())) fun(m:Bool)=>Sa !m) fun(n:Bool)=>bif n then Sa Sb else Aa (bif a.2.2.1==(1:Int)then Sa (a.2.2.1==(1:Int))else Sa (a.2.2.1==(2:Int))) fun(q:Bool)=>bif q then Aa (bif (↑(Ac a.2.2.2.2.2.2.2.2.1):Int)==(0:Int)then bif a.2.2.2.2.2.2.2.2.2.1==(0:Int)then bif (↑(Ac a.2.2.2.2.2.2.2.2.2.2.2.1):Int)==(0:Int)then Sa (a.2.2.2.2.2.2.2.2.2.2.2.2.1==(a.2.2.1==(2:Int)))else Sa Sb else Sa Sb else Sa Sb) fun(c:Bool)=>Sa c else Aa (bif a.2.2.1==(3:Int)then Sa (a.2.2.1==(3:Int))else Sa (a.2.2.1==(4:Int))) fun(d:Bool)=>bif d then Aa (bif a.2.2.1==(4:Int)then bif a.2.2.2.2.2.2.2.2.2.1 !=(0:Int)then bif (↑(Ac a.2.2.2.2.2.2.2.2.2.2.2.1):Int)==(1:Int)then Aa (yW (a.2.2.2.2.2.2.2.2.2.2.2.1,Sb,())) fun(e:Bool)=>bif e then Aa (idx a.2.2.2.2.2.2.2.2.2.2.2.1 (0:Int)) fun(f:Ty.El zP)=>bif f.2.1==a.2.2.2.2.2.2.2.2.2.1 then Sa !a.2.2.2.2.2.2.2.2.2.2.2.2.1 else Sa Sb else Sa Sb else Sa Sb else Sa Sb else bif decide ((↑(Ac a.2.2.2.2.2.2.2.2.1):Int)>(0:Int))then bif a.2.2.2.2.2.2.2.2.2.1 !=(0:Int)then bif (↑(Ac a.2.2.2.2.2.2.2.2.2.2.2.1):Int)==(1:Int)then Aa (yW (a.2.2.2.2.2.2.2.2.2.2.2.1,Sb,())) fun(g:Bool)=>bif g then Aa (idx a.2.2.2.2.2.2.2.2.2.2.2.1 (0:Int)) fun(h:Ty.El zP)=>bif h.2.1==a.2.2.2.2.2.2.2.2.2.1 then Sa !a.2.2.2.2.2.2.2.2.2.2.2.2.1 else Sa Sb else Sa Sb else Sa Sb else Sa Sb else Sa Sb) fun(i:Bool)=>Sa i else Sa Sb
def zEC:ElS [zC]->Option (RTy.El (.p .bool)):=fun x=>match x with|(a,())=>Aa (Aa (uD (a.1,())) fun(m:Bool)=>bif !m then Sa Sc else Aa (wY (a.2.2.2.2.2.2.1,(0:Int),(65535:Int),())) fun(n:Bool)=>bif !n then Sa Sc else Sa (decide ((↑(Ac a.2.2.2.2.2.2.2.2.1):Int)>(64:Int)))) fun(q:Bool)=>bif q then Sa Sb else wB (zS (fun(c:Int)=>bif decide (c< (↑(Ac a.2.2.2.2.2.2.2.2.1):Int))then Aa (idx a.2.2.2.2.2.2.2.2.1 c) fun(d:Int)=>Aa (wY (d,(1:Int),(65535:Int),())) fun(e:Bool)=>bif !e then Sa (Af (Af Sb))else Sa (Ag (Ab .i64 (c+(1:Int))))else Sa (Af (Ag ()))) (0:Int)) fun(r:Unit)=>bif a.2.1==(1:Int)then Aa (bif a.2.2.1==(0:Int)then bif a.2.2.2.1==(0:Int)then bif a.2.2.2.2.1==(0:Int)then bif a.2.2.2.2.2.2.1==(0:Int)then Aa (zAH (a,Sb,Sb,Sb,())) fun(f:Bool)=>bif f then bif !a.2.2.2.2.2.2.2.2.2.2.2.2.1 then bif (↑(Ac a.2.2.2.2.2.2.2.2.2.2.2.1):Int)==(1:Int)then Aa (yW (a.2.2.2.2.2.2.2.2.2.2.2.1,Sc,())) fun(g:Bool)=>Sa g else Sa Sb else Sa Sb else Sa Sb else Sa Sb else Sa Sb else Sa Sb else Sa Sb) fun(h:Bool)=>Sa h else bif a.2.1==(2:Int)then Aa (zG2 (a,())) fun(i:Bool)=>Sa i else bif a.2.1==(3:Int)then Aa (xT (a,())) fun(j:Bool)=>Sa j else bif a.2.1==(4:Int)then Aa (zFt (a,())) fun(k:Bool)=>Sa k else bif a.2.1==(5:Int)then Aa (zJh (a,())) fun(l:Bool)=>Sa l else Sa Sb
def zG3:ElS [(.sl zC),tI]->Option (RTy.El (.p .bool)):=fun x=>match x with|(c,n,())=>wB (zS (fun(a:Int)=>bif decide (a< (↑(Ac c):Int))then Aa (Aa (idx c a) fun(d:Ty.El zC)=>Aa (zEC (d,())) fun(e:Bool)=>bif !e then Sa Sc else bif n !=(0:Int)then Aa (idx c a) fun(f:Ty.El zC)=>bif f.2.1 !=n then Sa Sc else bif decide (a>(0:Int))then Aa (idx c (Ab .i64 (a- (1:Int)))) fun(g:Ty.El zC)=>Aa (idx c a) fun(h:Ty.El zC)=>Aa (xS (g.1,h.1,())) fun(i:Int)=>Sa (decide (i>=(0:Int)))else Sa Sb else bif decide (a>(0:Int))then Aa (idx c (Ab .i64 (a- (1:Int)))) fun(j:Ty.El zC)=>Aa (idx c a) fun(k:Ty.El zC)=>Aa (xS (j.1,k.1,())) fun(l:Int)=>Sa (decide (l>=(0:Int)))else Sa Sb) fun(m:Bool)=>bif m then Sa (Af (Af Sb))else Sa (Ag (Ab .i64 (a+(1:Int))))else Sa (Af (Ag ()))) (0:Int)) fun(q:Unit)=>Sa Sc
def zGD:ElS [tI]->Option (RTy.El (.p tI)):=fun x=>match x with|(a,())=>Sa (if(if(32:Int)<a then(32:Int)else a)>(0:Int)then if(32:Int)<a then(32:Int)else a else(0:Int))
def zIm:ElS [tI]->Option (RTy.El (.p tU)):=fun x=>match x with|(c,())=>Aa (zGD (c,())) fun(a:Int)=>bif decide ((0:Int)<=Ab .i64 ((32:Int) -a))then Sa (Ab .u32 ((4294967295:Int)*(2:Int)^min (Ad (Ab .i64 ((32:Int) -a))) (Ae An)))else Sd
def zCf:ElS [zD,tU]->Option (RTy.El (.p .bool)):=fun x=>match x with|(a,c,())=>Aa (zIm (a.2.1,())) fun(d:Int)=>Sa (Ab .u32 (↑(Ap (Ai (Ae An) c&&&Ai (Ae An) d)):Int)==a.1)
def yL:ElS [(.sl zR),zR]->Option (RTy.El (.p tI)):=fun x=>match x with|(c,d,())=>wB (zS (fun(a:Int)=>bif decide (a< (↑(Ac c):Int))then Aa (idx c a) fun(e:Ty.El zR)=>bif d.1==e.1&&(d.2.1==e.2.1&&Sc)then Sa (Af (Af a))else Sa (Ag (Ab .i64 (a+(1:Int))))else Sa (Af (Ag ()))) (0:Int)) fun(f:Unit)=>Sa (-1:Int)
def uK:ElS [(.sl zR),zR]->Option (RTy.El (.p .bool)):=fun x=>match x with|(a,c,())=>Aa (yL (a,c,())) fun(d:Int)=>Sa (decide (d>=(0:Int)))
def zAF:ElS [zI,tI,tI]->Option (RTy.El (.p tI)):=fun x=>match x with|(e,f,g,())=>wB (zS (fun(a:Int)=>bif decide (a< (↑(Ac e.2.1.1):Int))then Aa (idx e.2.1.1 a) fun(c:Ty.El yE)=>Aa (uK (c.2.2.1,(f,g,()),())) fun(d:Bool)=>bif d then Sa (Af (Af a))else Sa (Ag (Ab .i64 (a+(1:Int))))else Sa (Af (Ag ()))) (0:Int)) fun(h:Unit)=>Sa (-1:Int)
def uT:ElS [(.sl tI),tI]->Option (RTy.El (.p tI)):=fun x=>match x with|(c,d,())=>wB (zS (fun(a:Int)=>bif decide (a< (↑(Ac c):Int))then Aa (idx c a) fun(e:Int)=>bif d==e then Sa (Af (Af a))else Sa (Ag (Ab .i64 (a+(1:Int))))else Sa (Af (Ag ()))) (0:Int)) fun(f:Unit)=>Sa (-1:Int)
def zFZ:ElS [zI,tI,tI]->Option (RTy.El (.p tI)):=fun x=>match x with|(a,d,e,())=>Aa (zAF (a,d,e,())) fun(c:Int)=>bif decide (c< (0:Int))then Sa (-1:Int)else Aa (uT (a.2.1.2.1,c,())) fun(f:Int)=>Sa f
def v7:ElS [(.sl tI),tI]->Option (RTy.El (.p .bool)):=fun x=>match x with|(a,c,())=>Aa (uT (a,c,())) fun(d:Int)=>Sa (decide (d>=(0:Int)))
def zGT:ElS [zI,tI,tI]->Option (RTy.El (.p .bool)):=fun x=>match x with|(a,c,d,())=>Aa (zAF (a,c,d,())) fun(f:Int)=>bif decide (f< (0:Int))then Sa Sb else Aa (zFZ (a,c,d,())) fun(e:Int)=>Aa (bif decide (e< (0:Int))then Sa Sc else Aa (v7 (a.2.2.1,e,())) fun(g:Bool)=>Sa !g) fun(h:Bool)=>Sa h
def zBT:ElS [tU,tI]->Option (RTy.El (.p zD)):=fun x=>match x with|(c,a,())=>Aa (zIm (a,())) fun(d:Int)=>Aa (zGD (a,())) fun(e:Int)=>Sa (Ab .u32 (↑(Ap (Ai (Ae An) c&&&Ai (Ae An) d)):Int),e,())
def zBR:ElS [tU]->Option (RTy.El (.p .bool)):=fun x=>match x with|(a,())=>Sa (a !=a)
def kK:ElS [tU,tU]->Option (RTy.El (.p tI)):=fun x=>match x with|(a,c,())=>Aa (zBR (a,())) fun(e:Bool)=>Aa (zBR (c,())) fun(d:Bool)=>bif e then bif d then Sa (0:Int)else Sa (-1:Int)else bif d then Sa (1:Int)else bif decide (a<c)then Sa (-1:Int)else bif decide (a>c)then Sa (1:Int)else Sa (0:Int)
def zA6:ElS [tI]->Option (RTy.El (.p .bool)):=fun x=>match x with|(a,())=>Sa (a !=a)
def qH:ElS [tI,tI]->Option (RTy.El (.p tI)):=fun x=>match x with|(a,c,())=>Aa (zA6 (a,())) fun(e:Bool)=>Aa (zA6 (c,())) fun(d:Bool)=>bif e then bif d then Sa (0:Int)else Sa (-1:Int)else bif d then Sa (1:Int)else bif decide (a<c)then Sa (-1:Int)else bif decide (a>c)then Sa (1:Int)else Sa (0:Int)
def zFX:ElS [zD,zD]->Option (RTy.El (.p tI)):=fun x=>match x with|(a,c,())=>Aa (kK (a.1,c.1,())) fun(d:Int)=>bif d !=(0:Int)then Sa d else Aa (qH (a.2.1,c.2.1,())) fun(e:Int)=>Sa e
def z7:ElS [zC,zC]->Option (RTy.El (.p tI)):=fun x=>match x with|(a,c,())=>Aa (zFX (a.1,c.1,())) fun(d:Int)=>Sa d
def jT:List (Ty.El zC)->ElA [.d tI,.d tI,.clo 26 []]->Option (List (Ty.El zC)×RTy.El (.tu [])):=fun l x=>match x with|(m,B,(),())=>zS (fun(e:Int×List (Ty.El zC))=>bif decide (e.1<B)then Aa (zS (fun(a:Int×List (Ty.El zC))=>Aa (bif decide (a.1>m)then Aa (idx a.2 a.1) fun(n:Ty.El zC)=>Aa (atN a.2 (Ad a.1)) fun(g:Ty.El zC)=>Aa (idx a.2 (Ab .i64 (a.1- (1:Int)))) fun(p:Ty.El zC)=>Aa (atN a.2 (Ad (Ab .i64 (a.1- (1:Int))))) fun(h:Ty.El zC)=>Aa (z7 (g,h,())) fun(i:Int)=>Sa (decide (i< (0:Int)),a.2)else Sa (Sb,a.2)) fun(c:Bool×List (Ty.El zC))=>bif c.1 then Aa (idx c.2 (Ab .i64 (a.1- (1:Int)))) fun(q:Ty.El zC)=>Aa (atN c.2 (Ad (Ab .i64 (a.1- (1:Int))))) fun(f:Ty.El zC)=>Aa (idx c.2 a.1) fun(t:Ty.El zC)=>Aa (atN c.2 (Ad a.1)) fun(j:Ty.El zC)=>Aa (idx c.2 a.1) fun(u:Ty.El zC)=>Aa (atN c.2 (Ad a.1)) fun(y:Ty.El zC)=>Aa (idx (Al c.2 (Ad a.1) f) (Ab .i64 (a.1- (1:Int)))) fun(z:Ty.El zC)=>Aa (atN (Al c.2 (Ad a.1) f) (Ad (Ab .i64 (a.1- (1:Int))))) fun(A:Ty.El zC)=>Sa (Ag (Ab .i64 (a.1- (1:Int)),Al (Al c.2 (Ad a.1) f) (Ad (Ab .i64 (a.1- (1:Int)))) j))else Sa (Af c.2)) e) fun(k:List (Ty.El zC))=>Sa (Ag (Ab .i64 (e.1+(1:Int)),k))else Am (fun(r:List (Ty.El zC)×Unit)=>Af r) (bif Ak (Ac e.2) (Ac l)then Sa (e.2,())else Sd)) (Ab .i64 (m+(1:Int)),l)
def wO:List (Ty.El zC)->ElA [.d tI,.d tI,.d tI,.clo 26 []]->Option (List (Ty.El zC)×RTy.El (.tu [])):=fun h x=>match x with|(c,f,i,(),())=>zS (fun(a:Int×List (Ty.El zC))=>bif decide (a.1<i)then Aa (idx a.2 (Ab .i64 (f+a.1))) fun(j:Ty.El zC)=>Aa (atN a.2 (Ad (Ab .i64 (f+a.1)))) fun(e:Ty.El zC)=>Aa (idx a.2 (Ab .i64 (c+a.1))) fun(k:Ty.El zC)=>Aa (atN a.2 (Ad (Ab .i64 (c+a.1)))) fun(g:Ty.El zC)=>Aa (idx a.2 (Ab .i64 (c+a.1))) fun(l:Ty.El zC)=>Aa (atN a.2 (Ad (Ab .i64 (c+a.1)))) fun(m:Ty.El zC)=>Aa (idx (Al a.2 (Ad (Ab .i64 (c+a.1))) e) (Ab .i64 (f+a.1))) fun(n:Ty.El zC)=>Aa (atN (Al a.2 (Ad (Ab .i64 (c+a.1))) e) (Ad (Ab .i64 (f+a.1)))) fun(p:Ty.El zC)=>Sa (Ag (Ab .i64 (a.1+(1:Int)),Al (Al a.2 (Ad (Ab .i64 (c+a.1))) e) (Ad (Ab .i64 (f+a.1))) g))else Am (fun(r:List (Ty.El zC)×Unit)=>Af r) (bif Ak (Ac a.2) (Ac h)then Sa (a.2,())else Sd)) ((0:Int),h)
def yT:List (Ty.El zC)->ElA [.d tI,.d tI,.d tI,.clo 26 []]->Option (List (Ty.El zC)×RTy.El (.tu [])):=fun g x=>match x with|(h,c,i,(),())=>Aa (zS (fun(a:Int×Int×List (Ty.El zC))=>bif a.1 !=a.2.1 then bif decide (a.1>a.2.1)then bif Ak (Ac a.2.2) (Ac a.2.2)then Aa (wO a.2.2 (Ab .i64 (c-a.1),c,a.2.1,(),())) fun(j:List (Ty.El zC)×Unit)=>Sa (Ag (Ab .i64 (a.1-a.2.1),a.2.1,j.1))else Sd else bif Ak (Ac a.2.2) (Ac a.2.2)then Aa (wO a.2.2 (Ab .i64 (c-a.1),Ab .i64 (Ab .i64 (c+a.2.1) -a.1),a.1,(),())) fun(k:List (Ty.El zC)×Unit)=>Sa (Ag (a.1,Ab .i64 (a.2.1-a.1),k.1))else Sd else Sa (Af (a.2.2,a.1))) (Ab .i64 (c-h),Ab .i64 (i-c),g)) fun(e:List (Ty.El zC)×Int)=>bif Ak (Ac e.1) (Ac e.1)then Aa (wO e.1 (Ab .i64 (c-e.2),c,e.2,(),())) fun(f:List (Ty.El zC)×Unit)=>bif Ak (Ac f.1) (Ac g)then Sa (f.1,())else Sd else Sd
def zAp(a:List (Ty.El zC)->ElA [.d tI,.d tI,.d tI,.clo 26 []]->Option (List (Ty.El zC)×RTy.El (.tu []))):List (Ty.El zC)->ElA [.d tI,.d tI,.d tI,.clo 26 []]->Option (List (Ty.El zC)×RTy.El (.tu [])):=fun C x=>match x with|(j,k,m,(),())=>wB (bif Ab .i64 (k-j)==(1:Int)then Aa (zS (fun(h:Int×Int×List (Ty.El zC))=>bif decide (h.1<h.2.1)then Aa (idx h.2.2 (Ab .i64 (Aj (Ab .u64 (Ab .i64 (h.1+h.2.1))) ((2:Int)^min (Ad (1:Int)) (Ae Ah))))) fun(ax:Ty.El zC)=>Aa (atN h.2.2 (Ad (Ab .i64 (Aj (Ab .u64 (Ab .i64 (h.1+h.2.1))) ((2:Int)^min (Ad (1:Int)) (Ae Ah)))))) fun(P:Ty.El zC)=>Aa (idx h.2.2 j) fun(ay:Ty.El zC)=>Aa (atN h.2.2 (Ad j)) fun(Q:Ty.El zC)=>Aa (z7 (P,Q,())) fun(S:Int)=>bif decide (S< (0:Int))then Sa (Ag (Ab .i64 (Ab .i64 (Aj (Ab .u64 (Ab .i64 (h.1+h.2.1))) ((2:Int)^min (Ad (1:Int)) (Ae Ah)))+(1:Int)),h.2))else Sa (Ag (h.1,Ab .i64 (Aj (Ab .u64 (Ab .i64 (h.1+h.2.1))) ((2:Int)^min (Ad (1:Int)) (Ae Ah))),h.2.2))else Sa (Af (h.1,h.2.2))) (k,m,C)) fun(D:Int×List (Ty.El zC))=>zS (fun(g:Int×List (Ty.El zC))=>bif decide (g.1<Ab .i64 (D.1- (1:Int)))then Aa (idx g.2 (Ab .i64 (g.1+(1:Int)))) fun(a4:Ty.El zC)=>Aa (atN g.2 (Ad (Ab .i64 (g.1+(1:Int))))) fun(B:Ty.El zC)=>Aa (idx g.2 g.1) fun(a5:Ty.El zC)=>Aa (atN g.2 (Ad g.1)) fun(W:Ty.El zC)=>Aa (idx g.2 g.1) fun(a6:Ty.El zC)=>Aa (atN g.2 (Ad g.1)) fun(a9:Ty.El zC)=>Aa (idx (Al g.2 (Ad g.1) B) (Ab .i64 (g.1+(1:Int)))) fun(bb:Ty.El zC)=>Aa (atN (Al g.2 (Ad g.1) B) (Ad (Ab .i64 (g.1+(1:Int))))) fun(be:Ty.El zC)=>Sa (Ag (Ab .i64 (g.1+(1:Int)),Al (Al g.2 (Ad g.1) B) (Ad (Ab .i64 (g.1+(1:Int)))) W))else Am (fun(r:List (Ty.El zC) ⊕ List (Ty.El zC)×Unit)=>Af r) (Am (fun(r:List (Ty.El zC)×Unit)=>Af r) (bif Ak (Ac g.2) (Ac C)then Sa (g.2,())else Sd))) (j,D.2)else Sa (Ag C)) fun(E:List (Ty.El zC))=>wB (bif Ab .i64 (m-k)==(1:Int)then Aa (zS (fun(f:Int×Int×List (Ty.El zC))=>bif decide (f.1<f.2.1)then Aa (idx f.2.2 k) fun(Y:Ty.El zC)=>Aa (atN f.2.2 (Ad k)) fun(F:Ty.El zC)=>Aa (idx f.2.2 (Ab .i64 (Aj (Ab .u64 (Ab .i64 (f.1+f.2.1))) ((2:Int)^min (Ad (1:Int)) (Ae Ah))))) fun(Z:Ty.El zC)=>Aa (atN f.2.2 (Ad (Ab .i64 (Aj (Ab .u64 (Ab .i64 (f.1+f.2.1))) ((2:Int)^min (Ad (1:Int)) (Ae Ah)))))) fun(G:Ty.El zC)=>Aa (z7 (F,G,())) fun(H:Int)=>bif !decide (H< (0:Int))then Sa (Ag (Ab .i64 (Ab .i64 (Aj (Ab .u64 (Ab .i64 (f.1+f.2.1))) ((2:Int)^min (Ad (1:Int)) (Ae Ah)))+(1:Int)),f.2))else Sa (Ag (f.1,Ab .i64 (Aj (Ab .u64 (Ab .i64 (f.1+f.2.1))) ((2:Int)^min (Ad (1:Int)) (Ae Ah))),f.2.2))else Sa (Af (f.1,f.2.2))) (j,k,E)) fun(t:Int×List (Ty.El zC))=>zS (fun(c:Int×List (Ty.El zC))=>bif decide (c.1>t.1)then Aa (idx c.2 (Ab .i64 (c.1- (1:Int)))) fun(ab:Ty.El zC)=>Aa (atN c.2 (Ad (Ab .i64 (c.1- (1:Int))))) fun(q:Ty.El zC)=>Aa (idx c.2 c.1) fun(ad:Ty.El zC)=>Aa (atN c.2 (Ad c.1)) fun(I:Ty.El zC)=>Aa (idx c.2 c.1) fun(ag:Ty.El zC)=>Aa (atN c.2 (Ad c.1)) fun(al:Ty.El zC)=>Aa (idx (Al c.2 (Ad c.1) q) (Ab .i64 (c.1- (1:Int)))) fun(an:Ty.El zC)=>Aa (atN (Al c.2 (Ad c.1) q) (Ad (Ab .i64 (c.1- (1:Int))))) fun(ao:Ty.El zC)=>Sa (Ag (Ab .i64 (c.1- (1:Int)),Al (Al c.2 (Ad c.1) q) (Ad (Ab .i64 (c.1- (1:Int)))) I))else Am (fun(r:List (Ty.El zC) ⊕ List (Ty.El zC)×Unit)=>Af r) (Am (fun(r:List (Ty.El zC)×Unit)=>Af r) (bif Ak (Ac c.2) (Ac C)then Sa (c.2,())else Sd))) (k,t.2)else Sa (Ag E)) fun(u:List (Ty.El zC))=>Aa (bif decide (k>Ab .i64 (Aj (Ab .u64 (Ab .i64 (j+m))) ((2:Int)^min (Ad (1:Int)) (Ae Ah))))then Sa (Ab .i64 (Ab .i64 (Ab .i64 (Aj (Ab .u64 (Ab .i64 (j+m))) ((2:Int)^min (Ad (1:Int)) (Ae Ah)))+k) -m),Ab .i64 (Aj (Ab .u64 (Ab .i64 (j+m))) ((2:Int)^min (Ad (1:Int)) (Ae Ah))),u)else Sa (j,k,u)) fun(J:Int×Int×List (Ty.El zC))=>Aa (zS (fun(e:Int×Int×List (Ty.El zC))=>bif decide (e.1<e.2.1)then Aa (idx e.2.2 (Ab .i64 (Ab .i64 (Ab .i64 (Ab .i64 (Aj (Ab .u64 (Ab .i64 (j+m))) ((2:Int)^min (Ad (1:Int)) (Ae Ah)))+k) - (1:Int)) -Ab .i64 (Aj (Ab .u64 (Ab .i64 (e.1+e.2.1))) ((2:Int)^min (Ad (1:Int)) (Ae Ah)))))) fun(ap:Ty.El zC)=>Aa (atN e.2.2 (Ad (Ab .i64 (Ab .i64 (Ab .i64 (Ab .i64 (Aj (Ab .u64 (Ab .i64 (j+m))) ((2:Int)^min (Ad (1:Int)) (Ae Ah)))+k) - (1:Int)) -Ab .i64 (Aj (Ab .u64 (Ab .i64 (e.1+e.2.1))) ((2:Int)^min (Ad (1:Int)) (Ae Ah))))))) fun(K:Ty.El zC)=>Aa (idx e.2.2 (Ab .i64 (Aj (Ab .u64 (Ab .i64 (e.1+e.2.1))) ((2:Int)^min (Ad (1:Int)) (Ae Ah))))) fun(av:Ty.El zC)=>Aa (atN e.2.2 (Ad (Ab .i64 (Aj (Ab .u64 (Ab .i64 (e.1+e.2.1))) ((2:Int)^min (Ad (1:Int)) (Ae Ah)))))) fun(L:Ty.El zC)=>Aa (z7 (K,L,())) fun(M:Int)=>bif !decide (M< (0:Int))then Sa (Ag (Ab .i64 (Ab .i64 (Aj (Ab .u64 (Ab .i64 (e.1+e.2.1))) ((2:Int)^min (Ad (1:Int)) (Ae Ah)))+(1:Int)),e.2))else Sa (Ag (e.1,Ab .i64 (Aj (Ab .u64 (Ab .i64 (e.1+e.2.1))) ((2:Int)^min (Ad (1:Int)) (Ae Ah))),e.2.2))else Sa (Af (e.1,e.2.2))) J) fun(i:Int×List (Ty.El zC))=>Aa (Aa (bif decide (i.1<k)then Sa (decide (k<Ab .i64 (Ab .i64 (Ab .i64 (Aj (Ab .u64 (Ab .i64 (j+m))) ((2:Int)^min (Ad (1:Int)) (Ae Ah)))+k) -i.1)),i.2)else Sa (Sb,i.2)) fun(n:Bool×List (Ty.El zC))=>bif n.1 then bif Ak (Ac n.2) (Ac n.2)then Aa (yT n.2 (i.1,k,Ab .i64 (Ab .i64 (Ab .i64 (Aj (Ab .u64 (Ab .i64 (j+m))) ((2:Int)^min (Ad (1:Int)) (Ae Ah)))+k) -i.1),(),())) fun(N:List (Ty.El zC)×Unit)=>Sa N.1 else Sd else Sa n.2) fun(y:List (Ty.El zC))=>Aa (Aa (bif decide (j<i.1)then Sa (decide (i.1<Ab .i64 (Aj (Ab .u64 (Ab .i64 (j+m))) ((2:Int)^min (Ad (1:Int)) (Ae Ah)))),y)else Sa (Sb,y)) fun(p:Bool×List (Ty.El zC))=>bif p.1 then bif Ak (Ac p.2) (Ac p.2)then Aa (a p.2 (j,i.1,Ab .i64 (Aj (Ab .u64 (Ab .i64 (j+m))) ((2:Int)^min (Ad (1:Int)) (Ae Ah))),(),())) fun(O:List (Ty.El zC)×Unit)=>Sa O.1 else Sd else Sa p.2) fun(z:List (Ty.El zC))=>Aa (bif decide (Ab .i64 (Aj (Ab .u64 (Ab .i64 (j+m))) ((2:Int)^min (Ad (1:Int)) (Ae Ah)))<Ab .i64 (Ab .i64 (Ab .i64 (Aj (Ab .u64 (Ab .i64 (j+m))) ((2:Int)^min (Ad (1:Int)) (Ae Ah)))+k) -i.1))then Sa (decide (Ab .i64 (Ab .i64 (Ab .i64 (Aj (Ab .u64 (Ab .i64 (j+m))) ((2:Int)^min (Ad (1:Int)) (Ae Ah)))+k) -i.1)<m),z)else Sa (Sb,z)) fun(l:Bool×List (Ty.El zC))=>bif l.1 then bif Ak (Ac l.2) (Ac l.2)then Aa (a l.2 (Ab .i64 (Aj (Ab .u64 (Ab .i64 (j+m))) ((2:Int)^min (Ad (1:Int)) (Ae Ah))),Ab .i64 (Ab .i64 (Ab .i64 (Aj (Ab .u64 (Ab .i64 (j+m))) ((2:Int)^min (Ad (1:Int)) (Ae Ah)))+k) -i.1),m,(),())) fun(A:List (Ty.El zC)×Unit)=>bif Ak (Ac A.1) (Ac C)then Sa (A.1,())else Sd else Sd else bif Ak (Ac l.2) (Ac C)then Sa (l.2,())else Sd
def jL:Nat->(List (Ty.El zC)->ElA [.d tI,.d tI,.d tI,.clo 26 []]->Option (List (Ty.El zC)×RTy.El (.tu [])))|0=>fun _ _=>Sd|n+1=>zAp (jL n)
def vE:List (Ty.El zC)->ElA [.d tI,.d tI,.d tI,.clo 26 []]->Option (List (Ty.El zC)×RTy.El (.tu [])):=jL 1048576
def vT:List (Ty.El zC)->ElA [.d tI,.clo 26 []]->Option (List (Ty.El zC)×RTy.El (.tu [])):=fun l x=>match x with|(g,(),())=>Aa (zS (fun(f:Int×List (Ty.El zC)×Int)=>bif decide (f.1<=g)then bif Ak (Ac f.2.1) (Ac f.2.1)then Aa (jT f.2.1 (f.2.2,f.1,(),())) fun(m:List (Ty.El zC)×Unit)=>Sa (Ag (Ab .i64 (f.1+(20:Int)),m.1,f.1))else Sd else Sa (Af f.2)) ((20:Int),l,(0:Int))) fun(h:List (Ty.El zC)×Int)=>bif Ak (Ac h.1) (Ac h.1)then Aa (jT h.1 (h.2,g,(),())) fun(n:List (Ty.El zC)×Unit)=>zS (fun(c:Int×List (Ty.El zC))=>bif decide (c.1<g)then Aa (zS (fun(a:Int×List (Ty.El zC)×Int)=>bif decide (a.1<=g)then bif Ak (Ac a.2.1) (Ac a.2.1)then Aa (vE a.2.1 (a.2.2,Ab .i64 (a.2.2+c.1),a.1,(),())) fun(i:List (Ty.El zC)×Unit)=>Sa (Ag (Ab .i64 (a.1+Ab .i64 ((2:Int)*c.1)),i.1,a.1))else Sd else Sa (Af (a.2.2,a.2.1))) (Ab .i64 ((2:Int)*c.1),c.2,(0:Int))) fun(e:Int×List (Ty.El zC))=>Aa (bif decide (Ab .i64 (e.1+c.1)<g)then bif Ak (Ac e.2) (Ac e.2)then Aa (vE e.2 (e.1,Ab .i64 (e.1+c.1),g,(),())) fun(j:List (Ty.El zC)×Unit)=>Sa j.1 else Sd else Sa e.2) fun(k:List (Ty.El zC))=>Sa (Ag (Ab .i64 (c.1*(2:Int)),k))else Am (fun(r:List (Ty.El zC)×Unit)=>Af r) (bif Ak (Ac c.2) (Ac l)then Sa (c.2,())else Sd)) ((20:Int),n.1)else Sd
def vL:List (Ty.El zC)->ElA [.clo 26 []]->Option (List (Ty.El zC)×RTy.El (.tu [])):=fun a x=>match x with|((),())=>bif Ak (Ac a) (Ac a)&&Ak (Ac a) (Ac a)then Aa (vT a ((↑(Ac a):Int),(),())) fun(c:List (Ty.El zC)×Unit)=>bif Ak (Ac c.1) (Ac a)then Sa (c.1,())else Sd else Sd
def zBK:ElS [zI,tI,tI]->Option (RTy.El (.p tI)):=fun x=>match x with|(e,h,i,())=>wB (zS (fun(a:Int)=>bif decide (a< (↑(Ac e.2.1.1):Int))then wB (zS (fun(c:Int)=>Aa (idx e.2.1.1 a) fun(f:Ty.El yE)=>bif decide (c< (↑(Ac f.2.2.1):Int))then Aa (idx e.2.1.1 a) fun(g:Ty.El yE)=>Aa (idx g.2.2.1 c) fun(d:Ty.El zR)=>bif d.1==h&&(d.2.1==i&&Sc)then Sa (Af (Af (Af (Af a))))else Sa (Ag (Ab .i64 (c+(1:Int))))else Sa (Af (Ag ()))) (0:Int)) fun(j:Unit)=>Sa (Ag (Ab .i64 (a+(1:Int))))else Sa (Af (Ag ()))) (0:Int)) fun(k:Unit)=>Sa (-1:Int)
def zIE:ElS [zI,tI,tI]->Option (RTy.El (.p tI)):=fun x=>match x with|(c,f,g,())=>Aa (zBK (c,f,g,())) fun(e:Int)=>wB (zS (fun(a:Int)=>bif decide (a< (↑(Ac c.2.1.2.1):Int))then Aa (bif decide (e>=(0:Int))then Aa (idx c.2.1.2.1 a) fun(h:Int)=>Sa (h==e)else Sa Sb) fun(d:Bool)=>bif d then Sa (Af (Af a))else Sa (Ag (Ab .i64 (a+(1:Int))))else Sa (Af (Ag ()))) (0:Int)) fun(i:Unit)=>Sa (-1:Int)
def zJ5:ElS [zI,tI,tI]->Option (RTy.El (.p .bool)):=fun x=>match x with|(a,d,e,())=>Aa (zBK (a,d,e,())) fun(f:Int)=>bif decide (f< (0:Int))then Sa Sb else Aa (zIE (a,d,e,())) fun(g:Int)=>wB (zS (fun(c:Int)=>bif decide (c< (↑(Ac a.2.2.1):Int))then Aa (idx a.2.2.1 c) fun(h:Int)=>bif h==g then Sa (Af (Af Sb))else Sa (Ag (Ab .i64 (c+(1:Int))))else Sa (Af (Ag ()))) (0:Int)) fun(i:Unit)=>Sa Sc
def zAn:ElS [zI,tI,tI]->Option (RTy.El (.p (.sl zR))):=fun x=>match x with|(f,g,h,())=>Aa (zGT (f,g,h,())) fun(m:Bool)=>bif !m then Sa []else Aa (Aa (zAF (f,g,h,())) fun(i:Int)=>Aa (idx f.2.1.1 i) fun(e:Ty.El yE)=>zS (fun(a:Int×List (Ty.El zR))=>bif decide (a.1< (↑(Ac e.2.2.1):Int))then Aa (Aa (idx e.2.2.1 a.1) fun(c:Ty.El zR)=>Aa (bif c.1 !=g then Sa (Sc,a.2)else Sa (c.2.1 !=h,a.2)) fun(d:Bool×List (Ty.El zR))=>bif d.1 then Aa (app (16:Nat) d.2 [c]) fun(j:List (Ty.El zR))=>Sa j else Sa d.2) fun(k:List (Ty.El zR))=>Sa (Ag (Ab .i64 (a.1+(1:Int)),k))else Sa (Af a.2)) ((0:Int),[])) fun(l:List (Ty.El zR))=>Sa l
def zCS:ElS [zD,zD]->Option (RTy.El (.p .bool)):=fun x=>match x with|(a,c,())=>Aa (bif decide (a.2.1<=c.2.1)then Aa (zCf (a,c.1,())) fun(d:Bool)=>Sa d else Sa Sb) fun(e:Bool)=>Sa e
def zCl:ElS [zI,tI,tI]->Option (RTy.El (.p (.sl zR))):=fun x=>match x with|(c,d,k,())=>Aa (zJ5 (c,d,k,())) fun(l:Bool)=>bif !l then Sa []else Aa (zBK (c,d,k,())) fun(m:Int)=>Aa (idx c.2.1.1 m) fun(e:Ty.El yE)=>Aa (zS (fun(a:Int×List (Ty.El zR))=>bif decide (a.1< (↑(Ac e.2.2.1):Int))then Aa (Aa (idx e.2.2.1 a.1) fun(f:Ty.El zR)=>bif f.1 !=d then Aa (idx e.2.2.1 a.1) fun(g:Ty.El zR)=>Aa (app (16:Nat) a.2 [g]) fun(h:List (Ty.El zR))=>Sa h else Sa a.2) fun(i:List (Ty.El zR))=>Sa (Ag (Ab .i64 (a.1+(1:Int)),i))else Sa (Af a.2)) ((0:Int),[])) fun(j:List (Ty.El zR))=>Sa j
def zGh:ElS [zI,zR]->Option (RTy.El (.p zZ)):=fun x=>match x with|(c,a,())=>Aa (idx c.1.1 a.1) fun(d:Ty.El zG)=>Aa (idx d.2.2.1 a.2.1) fun(e:Ty.El zZ)=>Sa e
def zED:ElS [zI,tI,tI,tU]->Option (RTy.El (.tu [zR,.bool])):=fun x=>match x with|(g,h,i,j,())=>Aa (zCl (g,h,i,())) fun(c:List (Ty.El zR))=>wB (zS (fun(a:Int×Ty.El zR)=>bif decide (a.1< (↑(Ac c):Int))then Aa (idx c a.1) fun(d:Ty.El zR)=>Aa (zGh (g,d,())) fun(e:ByteArray×Int×Int×Int×Bool×Bool×Int×Int×Bool×ByteArray×ByteArray×Int×Unit)=>bif e.2.1==j then Aa (idx c a.1) fun(f:Ty.El zR)=>Sa (Af (Af (f,Sc,())))else Sa (Ag (Ab .i64 (a.1+(1:Int)),a.2))else Sa (Af (Ag a.2))) ((0:Int),(0:Int),(0:Int),())) fun(k:Ty.El zR)=>Sa (((0:Int),(0:Int),()),Sb,())
def zBG:ElS [(.sl tI)]->Option (RTy.El (.p (.sl tI))):=fun x=>match x with|(a,())=>Aa (app (8:Nat) [] a) fun(z:List (Ty.El tI))=>Sa z
def uU:ElS [(.sl zP)]->Option (RTy.El (.p (.sl zP))):=fun x=>match x with|(a,())=>Aa (app (16:Nat) [] a) fun(z:List (Ty.El zP))=>Sa z
end
end Go.Ve
namespace Go.Ve
open Go
variable {i:Type}
theorem jS{m:Option i}{x:i}(h:Wp m (fun r=>r=x)):m=Sa x:=by obtain⟨r,a,rfl⟩:=h;exact a
variable {I J:Ty.El zD}
theorem zJ8(h:(I.1==J.1&&(I.2.1==J.2.1&&Sc))=Sc):I=J:=by
 grind
def zHV(a b c d:Int):Prop:=a<c\/(a=c/\b<d)
def plt(p q:Ty.El zD):Prop:=zHV p.1 p.2.1 q.1 q.2.1
theorem zKZ:Ord plt where
 asym:=fun x y h=>by grind[plt,zHV]
 tr:=fun x y z a c=>by grind[plt,zHV]
variable {g C a1 a3:Int}
theorem qBh(h:¬zHV a1 a3 g C)(e:¬(g=a1/\C=a3)):zHV g C a1 a3:=by
 grind[zHV]
theorem zZC(h:¬plt J I)(a:I≠J):plt I J:=by
 refine qBh h (fun e=>a ?_)
 grind
def zOB(a b c d:Int):Int:=if a<c then-1 else if c<a then 1 else if b<d then-1 else if d<b then 1 else 0
def qGu(p q:Ty.El zD):Int:=zOB p.1 p.2.1 q.1 q.2.1
theorem zWt:zOB g C a1 a3<0↔zHV g C a1 a3:=by
 grind[zOB,zHV]
theorem zOA:qGu I J<0↔plt I J:=zWt
theorem zRR(a b:Int):kK (a,b,())=Sa (if a<b then-1 else if b<a then 1 else 0):=by refine jS ?_;unfold kK zBR;simp only[af,bne_self_eq_false,cond_false];refine zO (fun h=>zA ?_) (fun h=>zO (fun c=>zA ?_) (fun c=>zA ?_));all_goals grind
theorem zCs(a b:Int):qH (a,b,())=Sa (if a<b then-1 else if b<a then 1 else 0):=by refine jS ?_;unfold qH zA6;simp only[af,bne_self_eq_false,cond_false];refine zO (fun h=>zA ?_) (fun h=>zO (fun c=>zA ?_) (fun c=>zA ?_));all_goals grind
theorem qBB{a b c d:Int}:(if((if a<c then(-1:Int)else if c<a then 1 else 0) !=0)=Sc then(if a<c then(-1:Int)else if c<a then 1 else 0)else(if b<d then(-1:Int)else if d<b then 1 else 0))=zOB a b c d:=by
 grind[zOB]
theorem zNB(p q:Ty.El zD):zFX (p,q,())=Sa (qGu p q):=by
 refine jS ?_;unfold zFX;dsimp only;refine zB (zK (zRR _ _) (zF (fun h=>zA ?_) (fun h=>zB (zK (zCs _ _) (zA ?_)))))
 .have:=qBB (a:=p.1) (b:=p.2.1) (c:=q.1) (d:=q.2.1);rw[if_pos h]at this;exact this
 .have:=qBB (a:=p.1) (b:=p.2.1) (c:=q.1) (d:=q.2.1);rw[if_neg (by rw[h];simp)]at this;exact this
theorem qHy(h:zHV g C a1 a3): -1=zOB g C a1 a3:=by unfold zOB;unfold zHV at h;omega
theorem qHw:0=zOB g C g C:=by simp_all[if_neg,zOB]
theorem qHx(h:¬zHV g C a1 a3)(e:¬(g=a1/\C=a3)):1=zOB g C a1 a3:=by unfold zOB;unfold zHV at h;omega
theorem zGY(p q:Ty.El zD):xS (p,q,())=Sa (qGu p q):=by
 refine jS ?_;unfold xS;dsimp only;refine zB ((show Wp _ (fun s:Bool=>s=Sc↔plt p q)from ?_).mono (fun s d=>?_))
 .refine zO (fun h=>zA ⟨fun _=>.inl h,fun _=>rfl⟩) (fun h=>zF (fun c=>zA ?_) (fun c=>zA ?_))
  .have c:p.1=q.1:=by simpa using c
   rw[decide_eq_true_eq];constructor
   .intro a;exact .inr ⟨c,a⟩
   .intro a;rcases a with a|a;all_goals grind
  .have c:¬p.1=q.1:=by simpa using c
   constructor
   .grind
   .intro a;exfalso;rcases a with a|a;all_goals grind
 .refine zF (fun h=>zA (qHy (d.1 h))) (fun h=>zF (fun e=>zA ?_) (fun e=>zA (qHx ?_ ?_)))
  .have:=zJ8 e;subst this;exact qHw
  .exact fun f=>by rw[d.2 f]at h;cases h
  grind
def zFx(p:Ty.El zD)(v:Int)(a:Ty.El zD)(c:Int):Prop:=plt p a\/(p=a/\v<c)
theorem zX0{r:Ty.El zD}(c:zFx I g J C)(a:zFx J C r a1):zFx I g r a1:=by
 rcases c with c|⟨rfl,c⟩
 .rcases a with a|⟨rfl,a⟩
  .exact .inl (by grind[plt,zHV])
  .exact .inl c
 .rcases a with a|⟨rfl,a⟩
  .exact .inl a
  .exact .inr ⟨rfl,by omega⟩
theorem qEm(h:¬zFx I g J C)(d:¬(I=J/\g=C)):zFx J C I g:=by
 by_cases c:I=J
 .subst c;refine .inr ⟨rfl,?_⟩;have e:¬g<C:=fun a=>h (.inr ⟨rfl,a⟩)
  grind
 .exact .inl (zZC (fun a=>h (.inl a)) (fun a=>c a.symm))
variable {a2:List i}
theorem xG{y:i}(h:a2[g.toNat]?=Sa y)(a:0<=g:=by omega):idx a2 g=Sa y:=by rw[idx,if_pos a];exact h
theorem qZ{Q:i->Prop}{B:i->Prop}(a:∀y,y∈a2->B y)(c:0<=g)(d:g<a2.length)(h:∀y,a2[g.toNat]?=Sa y->B y->Q y):Wp (idx a2 g) Q:=
 zAj c d (fun y e f=>h y f (a y e))
structure SmR(r:Ty.El zG):Prop where
 i1:Ac r.2.2.1<=20
 i2:Ac r.2.2.2.1<=20
 i3:Ac r.2.2.2.2.1<=20
 i4:Ac r.2.2.2.2.2.1<=20
 i5:Ac r.2.2.2.2.2.2.1<=20
 i6:Ac r.2.2.2.2.2.2.2.1<=20
 i7:Ac r.2.2.2.2.2.2.2.2.1.2.2.1<=20
 i8:Ac r.2.2.2.2.2.2.2.2.1.2.2.2.1<=20
 i9:Ac r.2.2.2.2.2.2.2.2.2.1.2.2.2.2.1<=20
 i10:Ac r.2.2.2.2.2.2.2.2.2.2.1.2.2.2.1<=20
 i11:Ac r.2.2.2.2.2.2.2.2.2.2.1.2.2.2.2.1<=20
 i12:Ac r.2.2.2.2.2.2.2.2.2.2.1.2.2.2.2.2.1<=20
 i13:Ac r.2.2.2.2.2.2.2.2.2.2.1.2.2.2.2.2.2.1<=20
 i14:Ac r.2.2.2.2.2.2.2.2.2.2.1.2.2.2.2.2.2.2.1<=20
 n1:∀y,y∈r.2.2.2.1->Ac y.2.1<=20
 n2:∀y,y∈r.2.2.2.2.1->Ac y.2.1<=20
 n3:∀y,y∈r.2.2.2.2.2.1->Ac y.2.1<=20
structure qIj(r:Ty.El tPV):Prop where
 i10:Ac r.2.2.2.1<=20
 i11:Ac r.2.2.2.2.1<=20
 i12:Ac r.2.2.2.2.2.1<=20
 i13:Ac r.2.2.2.2.2.2.1<=20
 i14:Ac r.2.2.2.2.2.2.2.1<=20
theorem zHn(a1:Int):Wp (zCJ (a1,())) (fun _=>True):=by
 unfold zCJ;refine zB ?_;refine qFu (fun _ _=>True) trivial (fun s g a c _=>?_) (fun s g _ _ _=>zA (e2r (zA trivial)));refine zB ?_;refine zO (fun _=>?_) (fun _=>?_)
 .refine zO (fun _=>?_) (fun d=>?_)
  .exact zA (zA (e2l ⟨zH (by simp only;omega) (by simp only;omega),trivial⟩))
  grind[zH,zNi]
 .exact zA (zA (e2l ⟨zH (by simp only;omega) (by simp only;omega),trivial⟩))
theorem zQG(a1:Ty.El (.int .u8)):Wp (zEB (a1,())) (fun _=>True):=by
 unfold zEB;try dsimp only
 repeat' (first
  |with_reducible exact trivial
  |assumption
  |contradiction
  |with_reducible first|refine zA ?_|refine zO (fun _=>?_) (fun _=>?_)|refine zF (fun _=>?_) (fun _=>?_)|refine zB ?_
  |omega)
theorem x5(a1:Ty.El (.str)):Wp (zCI (a1,())) (fun _=>True):=by
 unfold zCI;try dsimp only
 repeat' (first
  |with_reducible exact trivial
  |assumption
  |contradiction
  |with_reducible first|refine zA ?_|refine(zQG _).mono (fun r _=>?_)|refine qBL ?_ ?_ (fun y _ _=>?_)|refine zAg (fun _=>?_) (fun _=>?_)|refine zO (fun _=>?_) (fun _=>?_)|refine zF (fun _=>?_) (fun _=>?_)|refine jU ?_|refine zAk (fun s _ _=>?_) (fun s _ _=>?_)|refine zB ?_|refine e2l ?_|refine e2r ?_
  |exact zH (by omega) (by omega)
  |omega
  |(simp only[aI,aR]at*;exact zH (by omega) (by omega)))
theorem vD(a1:Ty.El (tI))(a:Ty.El (tI))(c:Ty.El (tI)):Wp (qB (a1,a,c,())) (fun _=>True):=by simp_all[trivial,zA,zO,zF,zB,qB]
theorem zHM(a1:Ty.El (tU))(a:Ty.El (tI)):Wp (uE (a1,a,())) (fun _=>True):=by
 unfold uE;try dsimp only
 repeat' (first
  |with_reducible exact trivial
  |assumption
  |contradiction
  |with_reducible first|refine zA ?_|refine(zHn _).mono (fun r _=>?_)|refine zB ?_
  |exact zH (by omega) (by omega)
  |omega
  |(simp only[aI,aR]at*;exact zH (by omega) (by omega)))
theorem zNq(a1:Ty.El (zD))(a:Ty.El (tU)):Wp (zA4 (a1,a,())) (fun _=>True):=by
 unfold zA4;try dsimp only
 repeat' (first
  |with_reducible exact trivial
  |assumption
  |contradiction
  |with_reducible first|refine zA ?_|refine(zHn _).mono (fun r _=>?_)|refine zB ?_
  |exact zH (by omega) (by omega)
  |omega
  |(simp only[aI,aR]at*;exact zH (by omega) (by omega)))
theorem zQH(a1:Ty.El (zD))(a:Ty.El (zD)):Wp (zBo (a1,a,())) (fun _=>True):=by
 unfold zBo;try dsimp only
 repeat' (first
  |with_reducible exact trivial
  |assumption
  |contradiction
  |with_reducible first|refine zA ?_|refine(zNq _ _).mono (fun r _=>?_)|refine zO (fun _=>?_) (fun _=>?_)|refine zF (fun _=>?_) (fun _=>?_)|refine zB ?_
  |omega)
theorem zGS(a1:Ty.El (zD))(a:Ty.El (zD)):Wp (x9 (a1,a,())) (fun _=>True):=by
 unfold x9;try dsimp only
 repeat' (first
  |with_reducible exact trivial
  |assumption
  |contradiction
  |with_reducible first|refine zA ?_|refine(zQH _ _).mono (fun r _=>?_)|refine zF (fun _=>?_) (fun _=>?_)|refine zB ?_
  |omega)
theorem zLg(a1:Ty.El (.sl zZ))(a:Ac a1<=20):Wp (xJ (a1,())) (fun _=>True):=by
 unfold xJ;try dsimp only
 repeat' (first
  |with_reducible exact trivial
  |assumption
  |contradiction
  |with_reducible first|refine zA ?_|refine(x5 _).mono (fun r _=>?_)|refine(vD _ _ _).mono (fun r _=>?_)|refine(zHM _ _).mono (fun r _=>?_)|refine(zGS _ _).mono (fun r _=>?_)|refine zAj ?_ ?_ (fun y _ _=>?_)|refine zAg (fun _=>?_) (fun _=>?_)|refine zO (fun _=>?_) (fun _=>?_)|refine zF (fun _=>?_) (fun _=>?_)|refine jU ?_|refine zAk (fun s _ _=>?_) (fun s _ _=>?_)
  |simp only[xG ‹_[_]?=Sa _›,af]
  |with_reducible first|refine zB ?_|refine e2l ?_|refine e2r ?_
  |exact zH (by omega) (by omega)
  |omega
  |(simp only[aI,aR]at*;exact zH (by omega) (by omega)))
theorem zC3(a1:Ty.El (zD)):Wp (uD (a1,())) (fun _=>True):=by
 unfold uD;try dsimp only
 repeat' (first
  |with_reducible exact trivial
  |assumption
  |contradiction
  |with_reducible first|refine zA ?_|refine(zHn _).mono (fun r _=>?_)|refine zO (fun _=>?_) (fun _=>?_)|refine zF (fun _=>?_) (fun _=>?_)|refine zB ?_
  |exact zH (by omega) (by omega)
  |omega
  |(simp only[aI,aR]at*;exact zH (by omega) (by omega)))
theorem zHm(a1:Ty.El (zRK)):Wp (xR (a1,())) (fun _=>True):=by
 unfold xR;try dsimp only
 repeat' (first
  |with_reducible exact trivial
  |assumption
  |contradiction
  |with_reducible first|refine zA ?_|refine(zC3 _).mono (fun r _=>?_)|refine zO (fun _=>?_) (fun _=>?_)|refine zF (fun _=>?_) (fun _=>?_)|refine zB ?_
  |omega)
theorem zEz(a1:Ty.El (.sl zEa))(c:Ac a1<=20)(a:∀y,y∈a1->Ac y.2.1<=20):Wp (zAq (a1,())) (fun _=>True):=by
 unfold zAq;try dsimp only
 repeat' (first
  |with_reducible exact trivial
  |assumption
  |contradiction
  |with_reducible first|refine zA ?_|refine(x5 _).mono (fun r _=>?_)|refine(zHm _).mono (fun r _=>?_)|refine qZ a ?_ ?_ (fun y _ _=>?_)|refine zAj ?_ ?_ (fun y _ _=>?_)|refine zAg (fun _=>?_) (fun _=>?_)|refine zO (fun _=>?_) (fun _=>?_)|refine zF (fun _=>?_) (fun _=>?_)|refine jU ?_|refine zAk (fun s _ _=>?_) (fun s _ _=>?_)
  |simp only[xG ‹_[_]?=Sa _›,af]
  |with_reducible first|refine zB ?_|refine e2l ?_|refine e2r ?_
  |exact zH (by omega) (by omega)
  |omega
  |(simp only[aI,aR]at*;exact zH (by omega) (by omega)))
theorem zFr(a1:Ty.El (zG))(h:Ty.El (.str))(i:SmR a1):Wp (u9 (a1,h,())) (fun(r:Int)=> -1<=r/\r< (Ac a1.2.2.2.1:Int)):=by
 have a:=i;obtain⟨m,n,p,q,t,u,x,i8,z,c,d,e,f,g,j,k,l⟩:=a;unfold u9;try dsimp only
 repeat' (first
  |with_reducible exact trivial
  |exact⟨c,d,e,f,g⟩
  |assumption
  |contradiction
  |with_reducible first|refine zA ?_|refine qZ j ?_ ?_ (fun y _ _=>?_)|refine qZ k ?_ ?_ (fun y _ _=>?_)|refine qZ l ?_ ?_ (fun y _ _=>?_)|refine zAj ?_ ?_ (fun y _ _=>?_)|refine zO (fun _=>?_) (fun _=>?_)|refine zF (fun _=>?_) (fun _=>?_)|refine jU ?_|refine zAk (fun s _ _=>?_) (fun s _ _=>?_)
  |simp only[xG ‹_[_]?=Sa _›,af]
  |with_reducible first|refine zB ?_|refine e2l ?_|refine e2r ?_
  |exact zH (by omega) (by omega)
  |omega
  |(simp only[aI,aR]at*;exact zH (by omega) (by omega))
  |exact⟨by omega,by omega⟩)
theorem zF6(a1:Ty.El (zG))(h:SmR a1):Wp (zBn (a1,())) (fun _=>True):=by
 have a:=h;obtain⟨l,m,n,p,q,t,u,i8,x,c,d,e,f,g,i,j,k⟩:=a;unfold zBn;try dsimp only
 repeat' (first
  |with_reducible exact trivial
  |exact⟨c,d,e,f,g⟩
  |assumption
  |contradiction
  |with_reducible first|refine zA ?_|refine(x5 _).mono (fun r _=>?_)|refine(zFr _ _ ?_).mono (fun r _=>?_)|refine(vD _ _ _).mono (fun r _=>?_)|refine qZ i ?_ ?_ (fun y _ _=>?_)|refine qZ j ?_ ?_ (fun y _ _=>?_)|refine qZ k ?_ ?_ (fun y _ _=>?_)|refine zAj ?_ ?_ (fun y _ _=>?_)|refine zAg (fun _=>?_) (fun _=>?_)|refine zO (fun _=>?_) (fun _=>?_)|refine zF (fun _=>?_) (fun _=>?_)|refine jU ?_|refine zAk (fun s _ _=>?_) (fun s _ _=>?_)
  |simp only[xG ‹_[_]?=Sa _›,af]
  |with_reducible first|refine zB ?_|refine e2l ?_|refine e2r ?_
  |exact zH (by omega) (by omega)
  |omega
  |(simp only[aI,aR]at*;exact zH (by omega) (by omega)))
theorem zRF(a1:Ty.El (zR)):Wp (zGf (a1,())) (fun _=>True):=by
 unfold zGf;try dsimp only
 repeat' (first
  |with_reducible exact trivial
  |assumption
  |contradiction
  |with_reducible first|refine zA ?_|refine zO (fun _=>?_) (fun _=>?_)|refine zF (fun _=>?_) (fun _=>?_)|refine zB ?_
  |omega)
theorem zVt(a1:Ty.El (zR)):Wp (zJ4 (a1,())) (fun _=>True):=by simp_all[trivial,zA,zJ4]
theorem zMb(a1:Ty.El (zWY)):Wp (zDg (a1,())) (fun _=>True):=by
 unfold zDg;try dsimp only
 repeat' (first
  |with_reducible exact trivial
  |assumption
  |contradiction
  |with_reducible first|refine zA ?_|refine(vD _ _ _).mono (fun r _=>?_)|refine(zRF _).mono (fun r _=>?_)|refine(zVt _).mono (fun r _=>?_)|refine zAg (fun _=>?_) (fun _=>?_)|refine zF (fun _=>?_) (fun _=>?_)|refine zB ?_
  |exact zH (by omega) (by omega)
  |omega
  |(simp only[aI,aR]at*;exact zH (by omega) (by omega)))
theorem zEA(a1:Ty.El (.sl zOX))(c:Ac a1<=20)(a:∀y,y∈a1->Ac y.2.1<=20):Wp (zAr (a1,())) (fun _=>True):=by
 unfold zAr;try dsimp only
 repeat' (first
  |with_reducible exact trivial
  |assumption
  |contradiction
  |with_reducible first|refine zA ?_|refine(x5 _).mono (fun r _=>?_)|refine(zMb _).mono (fun r _=>?_)|refine qZ a ?_ ?_ (fun y _ _=>?_)|refine zAj ?_ ?_ (fun y _ _=>?_)|refine zAg (fun _=>?_) (fun _=>?_)|refine zO (fun _=>?_) (fun _=>?_)|refine zF (fun _=>?_) (fun _=>?_)|refine jU ?_|refine zAk (fun s _ _=>?_) (fun s _ _=>?_)
  |simp only[xG ‹_[_]?=Sa _›,af]
  |with_reducible first|refine zB ?_|refine e2l ?_|refine e2r ?_
  |exact zH (by omega) (by omega)
  |omega
  |(simp only[aI,aR]at*;exact zH (by omega) (by omega)))
theorem zNp(a1:Ty.El (zG))(h:Ty.El (.str))(i:SmR a1):Wp (zGg (a1,h,())) (fun(r:Int)=> -1<=r/\r< (Ac a1.2.2.2.2.2.1:Int)):=by
 have a:=i;obtain⟨m,n,p,q,t,u,x,i8,z,c,d,e,f,g,j,k,l⟩:=a;unfold zGg;try dsimp only
 repeat' (first
  |with_reducible exact trivial
  |exact⟨c,d,e,f,g⟩
  |assumption
  |contradiction
  |with_reducible first|refine zA ?_|refine qZ j ?_ ?_ (fun y _ _=>?_)|refine qZ k ?_ ?_ (fun y _ _=>?_)|refine qZ l ?_ ?_ (fun y _ _=>?_)|refine zAj ?_ ?_ (fun y _ _=>?_)|refine zO (fun _=>?_) (fun _=>?_)|refine zF (fun _=>?_) (fun _=>?_)|refine jU ?_|refine zAk (fun s _ _=>?_) (fun s _ _=>?_)
  |simp only[xG ‹_[_]?=Sa _›,af]
  |with_reducible first|refine zB ?_|refine e2l ?_|refine e2r ?_
  |exact zH (by omega) (by omega)
  |omega
  |(simp only[aI,aR]at*;exact zH (by omega) (by omega))
  |exact⟨by omega,by omega⟩)
theorem zDW(a1:Ty.El (zG))(h:SmR a1):Wp (xQ (a1,())) (fun _=>True):=by
 have a:=h;obtain⟨l,m,n,p,q,t,u,i8,x,c,d,e,f,g,i,j,k⟩:=a;unfold xQ;try dsimp only
 repeat' (first
  |with_reducible exact trivial
  |exact⟨c,d,e,f,g⟩
  |assumption
  |contradiction
  |with_reducible first|refine zA ?_|refine(vD _ _ _).mono (fun r _=>?_)|refine(zNp _ _ ?_).mono (fun r _=>?_)|refine qZ i ?_ ?_ (fun y _ _=>?_)|refine qZ j ?_ ?_ (fun y _ _=>?_)|refine qZ k ?_ ?_ (fun y _ _=>?_)|refine zAj ?_ ?_ (fun y _ _=>?_)|refine zAg (fun _=>?_) (fun _=>?_)|refine zO (fun _=>?_) (fun _=>?_)|refine zF (fun _=>?_) (fun _=>?_)|refine jU ?_|refine zAk (fun s _ _=>?_) (fun s _ _=>?_)
  |simp only[xG ‹_[_]?=Sa _›,af]
  |with_reducible first|refine zB ?_|refine e2l ?_|refine e2r ?_
  |exact zH (by omega) (by omega)
  |omega
  |(simp only[aI,aR]at*;exact zH (by omega) (by omega)))
theorem zHL(a1:Ty.El (zG))(h:SmR a1):Wp (zDf (a1,())) (fun _=>True):=by
 have a:=h;obtain⟨l,m,n,p,q,t,u,i8,x,c,d,e,f,g,i,j,k⟩:=a;unfold zDf;try dsimp only
 repeat' (first
  |with_reducible exact trivial
  |exact⟨c,d,e,f,g⟩
  |assumption
  |contradiction
  |with_reducible first|refine zA ?_|refine(zNp _ _ ?_).mono (fun r _=>?_)|refine qZ i ?_ ?_ (fun y _ _=>?_)|refine qZ j ?_ ?_ (fun y _ _=>?_)|refine qZ k ?_ ?_ (fun y _ _=>?_)|refine zAj ?_ ?_ (fun y _ _=>?_)|refine zO (fun _=>?_) (fun _=>?_)|refine zF (fun _=>?_) (fun _=>?_)|refine jU ?_|refine zAk (fun s _ _=>?_) (fun s _ _=>?_)
  |simp only[xG ‹_[_]?=Sa _›,af]
  |with_reducible first|refine zB ?_|refine e2l ?_|refine e2r ?_
  |exact zH (by omega) (by omega)
  |omega
  |(simp only[aI,aR]at*;exact zH (by omega) (by omega)))
theorem zD8(a1:Ty.El (zG))(h:Ty.El (tU))(i:SmR a1):Wp (zAP (a1,h,())) (fun(r:Int)=> -1<=r/\r< (Ac a1.2.2.1:Int)):=by
 have a:=i;obtain⟨m,n,p,q,t,u,x,i8,z,c,d,e,f,g,j,k,l⟩:=a;unfold zAP;try dsimp only
 repeat' (first
  |with_reducible exact trivial
  |exact⟨c,d,e,f,g⟩
  |assumption
  |contradiction
  |with_reducible first|refine zA ?_|refine qZ j ?_ ?_ (fun y _ _=>?_)|refine qZ k ?_ ?_ (fun y _ _=>?_)|refine qZ l ?_ ?_ (fun y _ _=>?_)|refine zAj ?_ ?_ (fun y _ _=>?_)|refine zO (fun _=>?_) (fun _=>?_)|refine zF (fun _=>?_) (fun _=>?_)|refine jU ?_|refine zAk (fun s _ _=>?_) (fun s _ _=>?_)
  |simp only[xG ‹_[_]?=Sa _›,af]
  |with_reducible first|refine zB ?_|refine e2l ?_|refine e2r ?_
  |exact zH (by omega) (by omega)
  |omega
  |(simp only[aI,aR]at*;exact zH (by omega) (by omega))
  |exact⟨by omega,by omega⟩)
theorem zMc(a1:Ty.El (zG))(h:Ty.El (.str))(i:SmR a1):Wp (zAs (a1,h,())) (fun(r:Int)=> -1<=r/\r< (Ac a1.2.2.1:Int)):=by
 have a:=i;obtain⟨m,n,p,q,t,u,x,i8,z,c,d,e,f,g,j,k,l⟩:=a;unfold zAs;try dsimp only
 repeat' (first
  |with_reducible exact trivial
  |exact⟨c,d,e,f,g⟩
  |assumption
  |contradiction
  |with_reducible first|refine zA ?_|refine qZ j ?_ ?_ (fun y _ _=>?_)|refine qZ k ?_ ?_ (fun y _ _=>?_)|refine qZ l ?_ ?_ (fun y _ _=>?_)|refine zAj ?_ ?_ (fun y _ _=>?_)|refine zO (fun _=>?_) (fun _=>?_)|refine zF (fun _=>?_) (fun _=>?_)|refine jU ?_|refine zAk (fun s _ _=>?_) (fun s _ _=>?_)
  |simp only[xG ‹_[_]?=Sa _›,af]
  |with_reducible first|refine zB ?_|refine e2l ?_|refine e2r ?_
  |exact zH (by omega) (by omega)
  |omega
  |(simp only[aI,aR]at*;exact zH (by omega) (by omega))
  |exact⟨by omega,by omega⟩)
theorem zOW(a1:Ty.El (zG))(h:SmR a1):Wp (zBJ (a1,())) (fun _=>True):=by
 have a:=h;obtain⟨l,m,n,p,q,t,u,i8,x,c,d,e,f,g,i,j,k⟩:=a;unfold zBJ;try dsimp only
 repeat' (first
  |with_reducible exact trivial
  |exact⟨c,d,e,f,g⟩
  |assumption
  |contradiction
  |with_reducible first|refine zA ?_|refine(zC3 _).mono (fun r _=>?_)|refine(zD8 _ _ ?_).mono (fun r _=>?_)|refine(vD _ _ _).mono (fun r _=>?_)|refine(zMc _ _ ?_).mono (fun r _=>?_)|refine qZ i ?_ ?_ (fun y _ _=>?_)|refine qZ j ?_ ?_ (fun y _ _=>?_)|refine qZ k ?_ ?_ (fun y _ _=>?_)|refine zAj ?_ ?_ (fun y _ _=>?_)|refine zAg (fun _=>?_) (fun _=>?_)|refine zO (fun _=>?_) (fun _=>?_)|refine zF (fun _=>?_) (fun _=>?_)|refine jU ?_|refine zAk (fun s _ _=>?_) (fun s _ _=>?_)
  |simp only[xG ‹_[_]?=Sa _›,af]
  |with_reducible first|refine zB ?_|refine e2l ?_|refine e2r ?_
  |exact zH (by omega) (by omega)
  |omega
  |(simp only[aI,aR]at*;exact zH (by omega) (by omega)))
theorem zGR(a1:Ty.El (zG))(h:Ty.El (.str))(i:SmR a1):Wp (x7 (a1,h,())) (fun(r:Int)=> -1<=r/\r< (Ac a1.2.2.2.2.1:Int)):=by
 have a:=i;obtain⟨m,n,p,q,t,u,x,i8,z,c,d,e,f,g,j,k,l⟩:=a;unfold x7;try dsimp only
 repeat' (first
  |with_reducible exact trivial
  |exact⟨c,d,e,f,g⟩
  |assumption
  |contradiction
  |with_reducible first|refine zA ?_|refine qZ j ?_ ?_ (fun y _ _=>?_)|refine qZ k ?_ ?_ (fun y _ _=>?_)|refine qZ l ?_ ?_ (fun y _ _=>?_)|refine zAj ?_ ?_ (fun y _ _=>?_)|refine zO (fun _=>?_) (fun _=>?_)|refine zF (fun _=>?_) (fun _=>?_)|refine jU ?_|refine zAk (fun s _ _=>?_) (fun s _ _=>?_)
  |simp only[xG ‹_[_]?=Sa _›,af]
  |with_reducible first|refine zB ?_|refine e2l ?_|refine e2r ?_
  |exact zH (by omega) (by omega)
  |omega
  |(simp only[aI,aR]at*;exact zH (by omega) (by omega))
  |exact⟨by omega,by omega⟩)
theorem uW(a1:Ty.El (zG))(h:Ty.El (.sl zGU))(i:Ty.El (tI))(j:Ty.El (tI))(k:Ty.El (tI))(l:SmR a1)(q:Ac h<=20):Wp (kM (a1,h,i,j,k,())) (fun _=>True):=by
 have a:=l;obtain⟨t,u,x,z,A,B,C,i8,D,c,d,e,f,g,m,n,p⟩:=a;unfold kM;try dsimp only
 repeat' (first
  |with_reducible exact trivial
  |exact⟨c,d,e,f,g⟩
  |assumption
  |contradiction
  |with_reducible first|refine zA ?_|refine(vD _ _ _).mono (fun r _=>?_)|refine(zGR _ _ ?_).mono (fun r _=>?_)|refine qZ m ?_ ?_ (fun y _ _=>?_)|refine qZ n ?_ ?_ (fun y _ _=>?_)|refine qZ p ?_ ?_ (fun y _ _=>?_)|refine zAj ?_ ?_ (fun y _ _=>?_)|refine zAg (fun _=>?_) (fun _=>?_)|refine zO (fun _=>?_) (fun _=>?_)|refine zF (fun _=>?_) (fun _=>?_)|refine jU ?_|refine zAk (fun s _ _=>?_) (fun s _ _=>?_)
  |simp only[xG ‹_[_]?=Sa _›,af]
  |with_reducible first|refine zB ?_|refine e2l ?_|refine e2r ?_
  |exact zH (by omega) (by omega)
  |omega
  |(simp only[aI,aR]at*;exact zH (by omega) (by omega)))
theorem zF7(a1:Ty.El (zG))(h:SmR a1):Wp (yV (a1,())) (fun _=>True):=by
 have a:=h;obtain⟨l,m,n,p,q,t,u,i8,x,c,d,e,f,g,i,j,k⟩:=a;unfold yV;try dsimp only
 repeat' (first
  |with_reducible exact trivial
  |exact⟨c,d,e,f,g⟩
  |assumption
  |contradiction
  |with_reducible first|refine zA ?_|refine(vD _ _ _).mono (fun r _=>?_)|refine(zC3 _).mono (fun r _=>?_)|refine(zGS _ _).mono (fun r _=>?_)|refine(uW _ _ _ _ _ ?_ ?_).mono (fun r _=>?_)|refine qZ i ?_ ?_ (fun y _ _=>?_)|refine qZ j ?_ ?_ (fun y _ _=>?_)|refine qZ k ?_ ?_ (fun y _ _=>?_)|refine zAj ?_ ?_ (fun y _ _=>?_)|refine zAg (fun _=>?_) (fun _=>?_)|refine zO (fun _=>?_) (fun _=>?_)|refine zF (fun _=>?_) (fun _=>?_)|refine jU ?_|refine zAk (fun s _ _=>?_) (fun s _ _=>?_)
  |simp only[xG ‹_[_]?=Sa _›,af]
  |with_reducible first|refine zB ?_|refine e2l ?_|refine e2r ?_
  |exact zH (by omega) (by omega)
  |omega
  |(simp only[aI,aR]at*;exact zH (by omega) (by omega)))
theorem zGQ(a1:Ty.El (zG))(h:SmR a1):Wp (zB7 (a1,())) (fun _=>True):=by
 have a:=h;obtain⟨i,j,k,l,m,n,p,i8,q,c,d,e,f,g,t,u,x⟩:=a;unfold zB7;try dsimp only
 repeat' (first
  |with_reducible exact trivial
  |exact⟨c,d,e,f,g⟩
  |assumption
  |contradiction
  |with_reducible first|refine zA ?_|refine(vD _ _ _).mono (fun r _=>?_)|refine(zFr _ _ ?_).mono (fun r _=>?_)|refine(uW _ _ _ _ _ ?_ ?_).mono (fun r _=>?_)|refine zAg (fun _=>?_) (fun _=>?_)|refine zO (fun _=>?_) (fun _=>?_)|refine zF (fun _=>?_) (fun _=>?_)|refine zB ?_
  |omega)
theorem zMa(a1:Ty.El (zG))(h:SmR a1):Wp (zDe (a1,())) (fun _=>True):=by
 have a:=h;obtain⟨l,m,n,p,q,t,u,i8,x,c,d,e,f,g,i,j,k⟩:=a;unfold zDe;try dsimp only
 repeat' (first
  |with_reducible exact trivial
  |exact⟨c,d,e,f,g⟩
  |assumption
  |contradiction
  |with_reducible first|refine zA ?_|refine(vD _ _ _).mono (fun r _=>?_)|refine(zGR _ _ ?_).mono (fun r _=>?_)|refine qZ i ?_ ?_ (fun y _ _=>?_)|refine qZ j ?_ ?_ (fun y _ _=>?_)|refine qZ k ?_ ?_ (fun y _ _=>?_)|refine zAj ?_ ?_ (fun y _ _=>?_)|refine zO (fun _=>?_) (fun _=>?_)|refine zF (fun _=>?_) (fun _=>?_)|refine jU ?_|refine zAk (fun s _ _=>?_) (fun s _ _=>?_)
  |simp only[xG ‹_[_]?=Sa _›,af]
  |with_reducible first|refine zB ?_|refine e2l ?_|refine e2r ?_
  |exact zH (by omega) (by omega)
  |omega
  |(simp only[aI,aR]at*;exact zH (by omega) (by omega)))
theorem zJy(a1:Ty.El (tPV))(c:qIj a1):Wp (zBe (a1,())) (fun _=>True):=by
 have a:=c;obtain⟨d,e,f,g,h⟩:=a;unfold zBe;try dsimp only
 repeat' (first
  |with_reducible exact trivial
  |assumption
  |contradiction
  |with_reducible first|refine zA ?_|refine(zC3 _).mono (fun r _=>?_)|refine zAj ?_ ?_ (fun y _ _=>?_)|refine zAg (fun _=>?_) (fun _=>?_)|refine zO (fun _=>?_) (fun _=>?_)|refine zF (fun _=>?_) (fun _=>?_)|refine jU ?_|refine zAk (fun s _ _=>?_) (fun s _ _=>?_)
  |simp only[xG ‹_[_]?=Sa _›,af]
  |with_reducible first|refine zB ?_|refine e2l ?_|refine e2r ?_
  |exact zH (by omega) (by omega)
  |omega
  |(simp only[aI,aR]at*;exact zH (by omega) (by omega)))
theorem zFq(a1:Ty.El (zG))(h:SmR a1):Wp (zAZ (a1,())) (fun _=>True):=by
 have a:=h;obtain⟨i,j,k,l,m,n,p,i8,q,c,d,e,f,g,t,u,x⟩:=a;unfold zAZ;try dsimp only
 repeat' (first
  |with_reducible exact trivial
  |exact⟨c,d,e,f,g⟩
  |assumption
  |contradiction
  |with_reducible first|refine zA ?_|refine(vD _ _ _).mono (fun r _=>?_)|refine(zMa _ ?_).mono (fun r _=>?_)|refine(zJy _ ?_).mono (fun r _=>?_)|refine(uW _ _ _ _ _ ?_ ?_).mono (fun r _=>?_)|refine zAg (fun _=>?_) (fun _=>?_)|refine zF (fun _=>?_) (fun _=>?_)|refine zB ?_
  |exact zH (by omega) (by omega)
  |omega
  |(simp only[aI,aR]at*;exact zH (by omega) (by omega)))
theorem zJQ(a1:Ty.El (zG))(h:SmR a1):Wp (yM (a1,())) (fun _=>True):=by
 have a:=h;obtain⟨l,m,n,p,q,t,u,i8,x,c,d,e,f,g,i,j,k⟩:=a;unfold yM;try dsimp only
 repeat' (first
  |with_reducible exact trivial
  |exact⟨c,d,e,f,g⟩
  |assumption
  |contradiction
  |with_reducible first|refine zA ?_|refine(x5 _).mono (fun r _=>?_)|refine(vD _ _ _).mono (fun r _=>?_)|refine(zLg _ ?_).mono (fun r _=>?_)|refine(zEz _ ?_ ?_).mono (fun r _=>?_)|refine(zF6 _ ?_).mono (fun r _=>?_)|refine(zEA _ ?_ ?_).mono (fun r _=>?_)|refine(zDW _ ?_).mono (fun r _=>?_)|refine(zHL _ ?_).mono (fun r _=>?_)|refine(zOW _ ?_).mono (fun r _=>?_)|refine(zF7 _ ?_).mono (fun r _=>?_)|refine(zGQ _ ?_).mono (fun r _=>?_)|refine(zFq _ ?_).mono (fun r _=>?_)|refine qZ i ?_ ?_ (fun y _ _=>?_)|refine qZ j ?_ ?_ (fun y _ _=>?_)|refine qZ k ?_ ?_ (fun y _ _=>?_)|refine zAj ?_ ?_ (fun y _ _=>?_)|refine zAg (fun _=>?_) (fun _=>?_)|refine zO (fun _=>?_) (fun _=>?_)|refine zF (fun _=>?_) (fun _=>?_)|refine jU ?_|refine zAk (fun s _ _=>?_) (fun s _ _=>?_)
  |simp only[xG ‹_[_]?=Sa _›,af]
  |with_reducible first|refine zB ?_|refine e2l ?_|refine e2r ?_
  |exact zH (by omega) (by omega)
  |omega
  |(simp only[aI,aR]at*;exact zH (by omega) (by omega)))
theorem zRG(a1:Ty.El (zJ))(a:∀y,y∈a1.1->SmR y):Wp (x8 (a1,())) (fun _=>True):=by
 unfold x8;try dsimp only
 repeat' (first
  |with_reducible exact trivial
  |assumption
  |contradiction
  |with_reducible first|refine zA ?_|refine(zJQ _ ?_).mono (fun r _=>?_)|refine(zD8 _ _ ?_).mono (fun r _=>?_)|refine qZ a ?_ ?_ (fun y _ _=>?_)|refine zAj ?_ ?_ (fun y _ _=>?_)|refine zO (fun _=>?_) (fun _=>?_)|refine zF (fun _=>?_) (fun _=>?_)|refine jU ?_|refine zAk (fun s _ _=>?_) (fun s _ _=>?_)
  |simp only[xG ‹_[_]?=Sa _›,af]
  |with_reducible first|refine zB ?_|refine e2l ?_|refine e2r ?_
  |exact zH (by omega) (by omega)
  |omega
  |(simp only[aI,aR]at*;exact zH (by omega) (by omega))
  |exact zH (by omega) (by have:=SmR.i1 ‹SmR _›;omega))
def zIo(n:Ty.El zJ)(p:Ty.El zD)(a:Int)(e:Ty.El zR):Prop:=
 0<=e.1/\0<=e.2.1/\∃r x,n.1[e.1.toNat]?=Sa r/\r.2.2.1[e.2.1.toNat]?=Sa x/\x.2.2.1≠0/\x.2.2.2.2.1=Sb/\uE (x.2.1,x.2.2.1,())=Sa p/\x.2.2.2.1=a
def qH8(st:HSt zR)(B:Nat)(E:Ty.El zR->Prop)(q:Option (Nat×Nat)):Prop:=
 ∀id m,q=Sa (id,m)->∃a,st[id]?=Sa (Sa a)/\a.length=m/\a.length<=B/\∀e,e∈a->E e
def zTq(d a:Ty.El zW):Prop:= ∀id m c,d.2.2.1=Sa (id,m)->a.2.2.1=Sa (id,c)->False
variable {a4:Ty.El zW}
theorem zTq.symm{a:Ty.El zW}(h:zTq a4 a):zTq a a4:=fun id m c e f=>h id c m f e
structure Bld(n:Ty.El zJ)(B:Nat)(D:List (Ty.El zW))(st:HSt zR):Prop where
 len:D.length<=B
 ok:∀d,d∈D->qH8 st B (zIo n d.1 d.2.1) d.2.2.1
 ap:D.Pairwise zTq
 so:D.Pairwise (fun d d'=>zFx d.1 d.2.1 d'.1 d'.2.1)
variable {P:HSt zR}{a0:List (Ty.El zW)}{l:Nat}{j:Ty.El zJ}
theorem zIj{a:Nat}(h:Bld j l a0 P)(c:l<=a):Bld j a a0 P:=by
 refine⟨ai h.len c,?_,h.ap,h.so⟩;intro d e id m f;obtain⟨g,i,n,k,B⟩:=h.ok d e id m f
 grind
theorem qGz:Bld j l [] P:=⟨a7 _,(fun d a=>by cases a),List.Pairwise.nil,List.Pairwise.nil⟩
theorem qGA(h:Bld j l a0 P)(k:Nat)(p:Ty.El zD)(v:Int)(A:∀n d,n<k->a0[n]?=Sa d->zFx d.1 d.2.1 p v)(r:∀d,a0[k]?=Sa d->zFx p v d.1 d.2.1):
  Bld j (l+1) (a0.take k++[((p,v,Sd,()):Ty.El zW)]++a0.drop k) P:=by
 have u:=zIj h (cU l);have g:∀d:Ty.El zW,zTq d ((p,v,Sd,()):Ty.El zW):=fun d id m G _ i=>by cases i
 refine⟨?_,?_,?_,?_⟩
 .have:=h.len;grind
 .intro d hd;simp only[aX,aM]at hd;rcases hd with(hd|rfl)|hd
  .exact u.ok d (dE hd)
  .intro id m C;cases C
  .exact u.ok d (List.mem_of_mem_drop hd)
 .have x:=h.ap;rw[<-cF k a0,bZ]at x;obtain⟨t,i,E⟩:=x;rw[bZ,bZ];refine⟨⟨t,cQ _ _,?_⟩,i,?_⟩
  .grind
  .intro a c b B;simp at c;rcases c with c|rfl
   .grind
   .exact(g b).symm
 .have e:=h.so;have q:=aU.1 e;rw[<-cF k a0,bZ]at e;obtain⟨t,i,E⟩:=e;rw[bZ,bZ];refine⟨⟨t,cQ _ _,?_⟩,i,?_⟩
  .intro a c b B;simp at B;subst B;obtain⟨n,y,f⟩:=aB c
   grind
  .intro a c b B;simp at c;rcases c with c|rfl
   .grind
   .obtain⟨n,y,f⟩:=aB B;rw[bU]at y;rw[List.getElem_drop]at f;have F:a0[k]?=Sa (a0[k]'(by omega)):=by simp
    have hlt:=r _ F;rcases cA n with z|z
    .subst z
     grind
    .rw[<-f];exact zX0 hlt (q k (k+n) (by omega) (by omega) (by omega))
theorem qBC{f:HSt zR}(h:Bld j l a0 P){k:Nat}(G:a0[k]?=Sa a4){id m:Nat}{xs:List (Ty.El zR)}(H:f[id]?=Sa (Sa xs))(N:xs.length=m)(O:xs.length<=l+1)(D:∀e,e∈xs->zIo j a4.1 a4.2.1 e)(hid:P.length<=id)(g:∀n B,P[n]?=Sa (Sa B)->(∀A,a4.2.2.1≠Sa (n,A))->f[n]?=Sa (Sa B)):
  Bld j (l+1) (a0.set k ((a4.1,a4.2.1,Sa (id,m),()):Ty.El zW)) f:=by
 have hlt:k<a0.length:=(aa.1 G).1;have C:a0[k]=a4:=(aa.1 G).2;have E:=aU.1 h.ap
 have c:∀n (a:n<a0.length),n≠k->zTq a4 a0[n]:=by
  intro n a p;rcases a8 n k with y|y
  .have:=E n k a hlt y;rw[C]at this;exact this.symm
  grind
 have q:∀n (a:n<a0.length),zTq a0[n] ((a4.1,a4.2.1,Sa (id,m),()):Ty.El zW):=by
  intro n a i r Q t S;obtain⟨B,I,_⟩:=h.ok a0[n] (aY a) i r t
  grind
 refine⟨by rw[b7];have:=h.len;omega,?_,?_,?_⟩
 .intro x J;obtain⟨n,a,rfl⟩:=aB J;rw[b7]at a;rw[cw];split
  .intro i r t
   grind
  .rename_i p;intro i r t;obtain⟨B,I,K,W,L⟩:=h.ok a0[n] (aY a) i r t;exact⟨B,g i B I (fun A M=>c n a (fun y=>p y.symm) i A r M t),K,by omega,L⟩
 .rw[aU];intro i n z a u;rw[b7]at z a;rw[cw,cw];split
  .split
   .omega
   .exact(q n a).symm
  grind
 .have F:=aU.1 h.so;rw[aU];intro i n z a u;rw[b7]at z a;have:=F i n z a u;rw[cw,cw];split
  .split;all_goals grind
  .split;all_goals grind
theorem qGB(h:Bld j l a0 P)(n:l<=1000){k:Nat}(f:a0[k]?=Sa a4){e:Ty.El zR}(B:zIo j a4.1 a4.2.1 e):
  Wp (zOh 16 P a4.2.2.1 [e]) (fun r=>Bld j (l+1) (a0.set k ((a4.1,a4.2.1,r.2,()):Ty.El zW)) r.1):=by
 have a:a4∈a0:=ae f
 cases i:a4.2.2.1 with
 |none=>
  refine⟨(P++[Sa [e]],Sa (P.length,1)),?_,?_⟩
  .simp_all[bE,if_pos,zOh]
  .refine qBC h f (xs:=[e]) ?_ rfl (by simp) (fun p t=>by grind) (aj _) ?_;all_goals grind
 |some q=>
  obtain⟨id,m⟩:=q;obtain⟨c,g,u,x,y⟩:=h.ok a4 a id m i;have hlt:=(aa.1 g).1;refine⟨(P.set id Sd++[Sa (c++[e])],Sa (P.length,(c++[e]).length)),?_,?_⟩
  .simp only[zOh,g,bE]
   grind
  .refine qBC h f (xs:=c++[e]) ?_ rfl (by simp;omega) ?_ (aj _) ?_;all_goals grind
structure qFl(n:Ty.El zJ)(t:Ty.El zLJ):Prop where
 doms:t.1.length<=360
 ends :∀d, d ∈ t.1 -> d.2.2.1.length <= 360 /\∀e, e ∈ d.2.2.1 -> zIo n d.1 d.2.1 e
 links:t.2.1.length<=12
 link:∀l,l∈t.2.1->0<=l/\l< (t.1.length:Int)
 so:t.1.Pairwise (fun d d'=>zFx d.1 d.2.1 d'.1 d'.2.1)
theorem zKl{α β:Type}{f:α->Option β}{R:α->β->Prop}:∀{xs:List α},(∀x,x∈xs->Wp (f x) (R x))->Wp (zCw f xs) (fun a:List β=>a.length=xs.length/\∀(i:Nat) x y,xs[i]?=Sa x->a[i]?=Sa y->R x y)
 |[],_=>⟨[],rfl,rfl,fun i x y h=>by simp at h⟩
 |x::r,h=>by
  obtain⟨y,e,g⟩:=h x (by simp);obtain⟨a,j,c,k⟩:=zKl (xs:=r) (fun z d=>h z (aw _ d));refine⟨y::a,by grind[zCw],by simp[c],?_⟩
  grind
theorem qE9(h:Bld j l a0 P):
  Wp (zCw (zBW P zW) a0) (fun a=>a.length=a0.length/\(∀d:Ty.El yE,d∈a->d.2.2.1.length<=l/\∀e,e∈d.2.2.1->zIo j d.1 d.2.1 e)/\a.Pairwise (fun d k:Ty.El yE=>zFx d.1 d.2.1 k.1 k.2.1)):=by
 refine(zKl (R:=fun(d:Ty.El zW) (y:Ty.El yE)=>(y.2.2.1.length<=l/\∀e,e∈y.2.2.1->zIo j y.1 y.2.1 e)/\y.1=d.1/\y.2.1=d.2.1) ?_).mono ?_
 .intro d f;obtain⟨⟨B,p,⟨⟩⟩,v,q,⟨⟩⟩:=d
  cases q with
  |none=>exact⟨((B,p,()),v,[],()),rfl,⟨a7 _,fun e u=>by cases u⟩,rfl,rfl⟩
  |some q=>
   obtain⟨id,m⟩:=q;obtain⟨x,r,t,z,A⟩:=h.ok _ f id m rfl;refine⟨((B,p,()),v,x,()),?_,⟨z,A⟩,rfl,rfl⟩
   grind[zBW]
 .rintro a ⟨r,t⟩;have C:∀i (c:i<a.length),∃d,a0[i]?=Sa d/\((a[i].2.2.1.length<=l/\∀e,e∈a[i].2.2.1->zIo j a[i].1 a[i].2.1 e)/\a[i].1=d.1/\a[i].2.1=d.2.1):=by intro i c;refine⟨a0[i]'(by omega),by simp,t i _ _ (by simp) (by simp[c])⟩
  refine⟨r,?_,?_⟩
  .intro d f;obtain⟨i,c,rfl⟩:=aB f
   grind
  .rw[aU];intro i n c F g;have E:=aU.1 h.so i n (by omega) (by omega) g
   grind
theorem yI{x:i}(h:a2[l]?=Sa x):atN a2 l=Sa x:=h
abbrev BSt:=(List (Ty.El zW)×List Int)×HSt zR
theorem zNr(a1:Ty.El zJ)(hn:a1.1.length<=9)(hs:∀y,y∈a1.1->SmR y):
  Wp (zEx [] (a1,())) (fun r=>(r.2.2.1=0->Bld a1 360 r.2.1.1 r.1/\r.2.1.2.1.length<=12/\(∀l,l∈r.2.1.2.1->0<=l/\l< (r.2.1.1.length:Int))/\x8 (a1,())=Sa 0)/\(r.2.2.1≠0->r.2.1=([],[],()))):=by
 unfold zEx;dsimp only;refine zB6 ((zRG a1 hs).mono (fun _ _=>trivial)) (fun y0 Y=>?_);refine zF (fun E=>?_) (fun E=>?_)
 .refine zA ⟨fun h=>?_,fun _=>rfl⟩
  grind
 have hy:y0=0:=by simpa using E
 subst hy;refine zB ((uO (xs:=a1.1) (by omega) (fun i (g:BSt)=>g.1.2=[]/\Bld a1 (40*i) g.1.1 g.2) ⟨rfl,qGz⟩ ?_ (Q:=fun g=>g.1.2=[]/\Bld a1 360 g.1.1 g.2) (fun g a=>⟨a.1,zIj a.2 (by omega)⟩)).mono ?_)
 .intro i x g Z hj;have hi:i<9:=by grind
  have a2:=(hs x (ae Z)).i1;simp only[zM Z,af];refine(uO (xs:=x.2.2.1) (by omega) (fun j (g:BSt)=>g.1.2=[]/\Bld a1 (40*i+2*j) g.1.1 g.2) hj ?_ (fun g a=>⟨a.1,zIj a.2 (by omega)⟩));intro j f g hf hj;have a3:j<20:=by grind
  obtain⟨⟨D,L⟩,st⟩:=g;obtain⟨rfl,z⟩:=hj;simp only[zM hf,af];refine zB ((show Wp _ (fun s:Bool×BSt=>s.2=((D,[]),st)/\(s.1=Sb->f.2.2.1≠0/\f.2.2.2.2.1=Sb))from ?_).mono ?_)
  .refine zF (fun h=>zA ⟨rfl,fun h=>by cases h⟩) (fun h=>zA ⟨rfl,fun W=>⟨by simpa using h,W⟩⟩)
  rintro⟨b,g⟩ ⟨a,C⟩;simp only at a C;subst a;refine zF (fun _=>zA ⟨rfl,zIj z (by omega)⟩) (fun ab=>?_);obtain⟨K,F⟩:=C ab;refine zB6 (zHM _ _) (fun p hp=>?_);refine zB ((show Wp _ (fun s:Int×BSt=>∃k:Nat,s.1=(k:Int)/\k<=D.length/\s.2=((D,[]),st)/\(∀m d,m<k->D[m]?=Sa d->zFx d.1 d.2.1 p f.2.2.2.1)/\(∀d,D[k]?=Sa d->¬zFx d.1 d.2.1 p f.2.2.2.1))from ?_).mono ?_)
  .refine kZ (fun s:Int×BSt=>∃k:Nat,s.1=(k:Int)/\k<=D.length/\s.2=((D,[]),st)/\(∀m d,m<k->D[m]?=Sa d->zFx d.1 d.2.1 p f.2.2.2.1)) (fun s=>((D.length:Int) -s.1).toNat) ⟨(0:Nat),rfl,a7 _,rfl,fun m d hm=>by omega⟩ ?_;rintro⟨s,g⟩ ⟨k,c,M,a,A⟩;simp only at c a;subst c a;have N:D.length<=_:=z.len;refine zB ((show Wp _ (fun s:Bool×BSt=>s.2=((D,[]),st)/\(s.1=Sc->∃d,D[k]?=Sa d/\zFx d.1 d.2.1 p f.2.2.2.1)/\(s.1=Sb->∀d,D[k]?=Sa d->¬zFx d.1 d.2.1 p f.2.2.2.1))from ?_).mono ?_)
   .refine zO (fun hlt=>?_) (fun a4=>zA ⟨rfl,(fun h=>by cases h),fun _ d q=>?_⟩)
    .have hlt:k<D.length:=by grind
     have c:D[k]?=Sa D[k]:=by simp[hlt]
     generalize D[k]=B at c;have t:∀d,D[k]?=Sa d->d=B:=fun d q=>by grind
     simp only[zM c,aC,yI c,af];refine zB (zK (zGY _ _) ?_);refine zO (fun E=>zA ⟨rfl,fun _=>⟨B,c,.inl (zOA.1 E)⟩,fun h=>by cases h⟩) (fun E=>?_);have E:¬plt B.1 p:=fun h=>E (zOA.2 h);refine zF (fun O=>zA ⟨rfl,fun h=>⟨B,c,.inr ⟨zJ8 O,of_decide_eq_true h⟩⟩,fun h d q=>?_⟩) (fun O=>zA ⟨rfl,(fun h=>by cases h),fun _ d q=>?_⟩)
     .have q:d=B:=t d q;subst q;rintro(h1|⟨_,h1⟩);all_goals grind
     .have q:d=B:=t d q;subst q;rintro(h1|⟨h1,_⟩);all_goals grind
    grind
   .rintro⟨b,g⟩ ⟨a,C,u⟩;simp only at a C u;subst a;refine zF (fun h=>?_) (fun h=>?_)
    .obtain⟨d,q,ax⟩:=C h;have hlt:=(aa.1 q).1;refine zA (e2l ⟨⟨k+1,?_,hlt,rfl,?_⟩,?_⟩)
     .simp only;rw[zH (by omega) (by omega)];omega
     .intro m d' hm ad;rcases a8 m k with W|W
      .exact A m d' W ad
      grind
     .simp only;rw[zH (by omega) (by omega)];omega
    .exact zA (e2r ⟨k,rfl,M,rfl,A,u h⟩)
  rintro⟨s,g⟩ ⟨k,c,M,a,A,ag⟩;simp only at c a;subst c a;have N:D.length<=_:=z.len;refine zB ((show Wp _ (fun g:BSt=>g.1.2=[]/\Bld a1 (40*i+2*j+1) g.1.1 g.2/\∃d,g.1.1[k]?=Sa d/\d.1=p/\d.2.1=f.2.2.2.1)from ?_).mono ?_)
  .refine zB ((show Wp _ (fun s:Bool×BSt=>s.2=((D,[]),st)/\(s.1=Sb->∃d,D[k]?=Sa d/\d.1=p/\d.2.1=f.2.2.2.1)/\(s.1=Sc->∀d,D[k]?=Sa d->¬(d.1=p/\d.2.1=f.2.2.2.1)))from ?_).mono ?_)
   .refine zF (fun a5=>zA ⟨rfl,(fun h=>by cases h),fun _ d q=>?_⟩) (fun a6=>?_)
    .grind
    have hlt:k<D.length:=by
     grind
    have c:D[k]?=Sa D[k]:=by simp[hlt]
    generalize D[k]=B at c;have t:∀d,D[k]?=Sa d->d=B:=fun d q=>by grind
    simp only[zM c,aC,yI c,af];refine zF (fun O=>zA ⟨rfl,(fun h=>by cases h),fun _ d q h2=>?_⟩) (fun O=>?_)
    .grind
    have al:=zJ8 (by simpa using O);refine zA ⟨rfl,fun hv=>⟨B,c,al,by simpa using hv⟩,fun hv d q h2=>?_⟩
    grind
   .rintro⟨b,g⟩ ⟨a,C,u⟩;simp only at a C u;subst a;refine zF (fun an=>?_) (fun ao=>zA ⟨rfl,zIj z (by omega),C ao⟩);have P:∀d,D[k]?=Sa d->zFx p f.2.2.2.1 d.1 d.2.1:=fun d q=>qEm (ag d q) (u an d q);refine zF (fun _=>?_) (fun h=>?_)
    .simp only[aC,bC];refine zB (xZ (by simp only[aR,bU];omega) ?_);refine zF (fun _=>?_) (fun h=>?_)
     .refine zB (xZ (by simp;omega) ?_);refine zB (xZ (by simp only[aO,aR,bV,bU,bE];omega) ?_);rw[dC];refine zA ⟨rfl,qGA z k p _ A P,⟨(p,f.2.2.2.1,Sd,()),?_,rfl,rfl⟩⟩;simp only;rw[co,aF (by simp;omega)];simp only[bV];rw[show k-min k D.length=0 by omega];rfl
     grind
    grind
  rintro⟨⟨J,L'⟩,S⟩ ⟨G,H,d,c,ap,av⟩;simp only at G H c;subst G;have ay:J.length<=_:=H.len;simp[zM c,yI c];refine zB ((qGB H (by omega) c (e:=(↑i, ↑j,())) ⟨(show(0:Int)<=(i:Int) by omega),(show(0:Int)<=(j:Int) by omega),x,f,by simpa using Z,by simpa using hf,K,F,?_,?_⟩).mono ?_)
  .rw[hp,ap]
  .exact av.symm
  .rintro⟨a9,q2⟩ hB;exact zA ⟨rfl,zIj hB (by omega)⟩
 .rintro⟨⟨D,L⟩,st⟩ ⟨G,z⟩;simp only at G z;subst G;have N:D.length<=_:=z.len
  refine zB ((zNj (n:=D.length) (by omega) (fun i (g:BSt)=>g.1.1=D/\g.2=st/\g.1.2.length<=i/\∀l,l∈g.1.2->0<=l/\l< (D.length:Int)) ⟨rfl,rfl,aj _,(fun l I=>by cases I)⟩ (fun i g a=>by simp only[a.1]) ?_
   (Q:=fun g:BSt=>g.1.1=D/\g.2=st/\∀l,l∈g.1.2->0<=l/\l< (D.length:Int)) (fun g a=>⟨a.1,a.2.1,a.2.2.2⟩)).mono ?_)
  .rintro i ⟨⟨J,L⟩,S⟩ hi ⟨rfl,rfl,G,I⟩;simp only at hi G I;have a0:J.length<=360:=z.len;have c:J[i]?=Sa J[i]:=by simp[hi]
   simp only[zM c,aC,yI c,af];refine zO (fun _=>?_) (fun _=>zA ⟨rfl,rfl,by simp only;omega,I⟩);refine zB (xZ (by grind) (zA ⟨rfl,rfl,by grind,?_⟩))
   grind
  .rintro⟨⟨J,L⟩,S⟩ ⟨rfl,rfl,I⟩;simp only at I;refine zO (fun _=>zA ⟨(fun h=>by cases h),fun _=>rfl⟩) (fun h=>zA ⟨fun _=>⟨z,?_,I,Y⟩,fun h=>absurd rfl h⟩)
   grind
theorem zUi{tE a b:Ty}{st:HSt tE}{x:a.El}{y:b.El}{c:(xL tE a).El}{d:(xL tE b).El}(e:zBW st a x=Sa c)(f:zBW st b y=Sa d):zBW st (.pair a b) (x,y)=Sa (c,d):=by
 grind[zBW]
theorem zY5{tE a:Ty}{r:List Ty}{st:HSt tE}{x:a.El}{y:ElS r}{c:(xL tE a).El}{d:ElS (zJP tE r)}(e:zBW st a x=Sa c)(f:zRD st r y=Sa d):zRD st (a::r) (x,y)=Sa (c,d):=by
 grind[zRD]
theorem zUH{α:Type}{f:α->Option α}(a:∀x,f x=Sa x):∀l:List α,zCw f l=Sa l
 |[]=>rfl
 |x::l=>by simp[zCw,a x,zUH a l]
theorem zQI(a1:Ty.El zJ)(i:a1.1.length<=9)(j:∀y,y∈a1.1->SmR y):
  Wp (zG4 (a1,())) (fun r=>r.2.1=0->qFl a1 r.1/\x8 (a1,())=Sa 0):=by
 obtain⟨⟨st,⟨D,L,⟨⟩⟩,e,⟨⟩⟩,k,c,d⟩:=zNr a1 i j;unfold zG4 zRE;rw[k];simp only at c d;by_cases a:e=0
 .subst a;obtain⟨f,l,x,m⟩:=c rfl;obtain⟨g,n,z,p,q⟩:=qE9 f;refine⟨((g,L,()),0,()),?_,fun _=>⟨⟨?_,p,l,?_,q⟩,m⟩⟩
  .have t:zBW st (.sl zW) D=Sa g:=n;have u:zBW st (.sl tI) L=Sa L:=zUH (fun _=>rfl) L;exact zY5 (r:=[tI]) (zUi t (zUi u rfl)) rfl
  .simp only;have:D.length<=360:=f.len;omega
  grind
 .have:=d a;simp only[aJ]at this;obtain⟨rfl,rfl,_⟩:=this;exact⟨(([],[],()),e,()),rfl,fun h=>absurd h a⟩
structure qFq(d:List Int)(m:Int):Prop where
 len:d.length<=2
 lo:∀x,x∈d->0<=x/\x<m
theorem zLh(d:List Int)(m:Int):Wp (zCm (d,m,())) (fun b=>b=Sc->qFq d m):=by
 unfold zCm;dsimp only;refine zO (fun _=>zA (fun h=>by cases h)) (fun h=>?_);refine zAK (by omega) (fun i=>∀(j:Nat) (y:Int),j<i->d[j]?=Sa y->0<=y/\y<m) (fun j y c=>by omega) ?_ ?_
 .intro i (x:Int) a c;have f:=(aa.1 a).1;simp only[zM a,af];refine zB ((show Wp _ (fun b:Bool=>b=Sb->0<=x/\x<m)from ?_).mono ?_)
  .refine zO (fun _=>zA (fun h=>by cases h)) (fun g=>?_);refine zO (fun _=>zA (fun h=>by cases h)) (fun k=>?_);refine zO (fun l=>?_) (fun _=>zA (fun _=>⟨by omega,by omega⟩));refine zB (zAj (by grind[zH]) (by grind[zH]) (fun y _ _=>zA (fun _=>⟨by omega,by omega⟩)))
  .intro b n;refine zF (fun _=>zA (e2r (e2r (fun h=>by cases h)))) (fun h=>zA (e2l ⟨rfl,?_⟩))
   grind
 .intro c;refine zA (fun _=>⟨by omega,?_⟩);intro x a;obtain⟨j,e,rfl⟩:=aB a;simp_all
theorem qHE{P:i->Prop}(h:∀j y,j<a2.length->a2[j]?=Sa y->P y):∀y,y∈a2->P y:=by intro x a;obtain⟨j,c,rfl⟩:=aB a;simp_all
theorem zHk{ρ:Type}{xs:List i}{P:i->Prop}{a:Int->Option (Int ⊕ (Unit ⊕ ρ))}{K:Unit->Option ρ}{Q:ρ->Prop}(d:xs.length<0x4000000000000000)(step:∀(α:Nat) x,xs[α]?=Sa x->Wp (a (α:Int)) (vB (fun e=>e=Ab .i64 ((α:Int)+1)/\P x) (vB (fun _=>False) Q)))(c:(∀x,x∈xs->P x)->Wp (K ()) Q):
  Wp (wB (zS (fun s:Int=>bif decide (s< (xs.length:Int))then a s else Sa (Af (Ag ()))) (0:Int)) K) Q:=by
 refine zAK d (fun α=>∀j y,j<α->xs[j]?=Sa y->P y) (fun j y f=>by omega) ?_ (fun h=>c (qHE h));intro α x g f;refine(step α x g).mono ?_
 grind
theorem zRI(a1:Ty.El zG):Wp (zIM (a1,())) (fun b=>b=Sc->SmR a1):=by
 unfold zIM;dsimp only
 refine zB ((show Wp _ (fun b:Bool=>b=Sb->Ac a1.2.2.1<=12/\Ac a1.2.2.2.1<=12/\Ac a1.2.2.2.2.1<=12/\Ac a1.2.2.2.2.2.1<=12/\Ac a1.2.2.2.2.2.2.1<=12/\
  Ac a1.2.2.2.2.2.2.2.1<=20/\Ac a1.2.2.2.2.2.2.2.2.1.2.2.1<=8/\Ac a1.2.2.2.2.2.2.2.2.1.2.2.2.1<=8/\Ac a1.2.2.2.2.2.2.2.2.2.1.2.2.2.2.1<=8/\
  Ac a1.2.2.2.2.2.2.2.2.2.2.1.2.2.2.2.2.2.2.1<=8/\Ac a1.2.2.2.2.2.2.2.2.2.2.1.2.2.2.1<=12/\Ac a1.2.2.2.2.2.2.2.2.2.2.1.2.2.2.2.1<=12/\
  Ac a1.2.2.2.2.2.2.2.2.2.2.1.2.2.2.2.2.1<=12/\Ac a1.2.2.2.2.2.2.2.2.2.2.1.2.2.2.2.2.2.1<=12)from ?_).mono ?_)
 .iterate 13 (refine zO (fun _=>zA (fun h=>by cases h)) (fun _=>?_))
  grind[zA,of_decide_eq_false]
 intro b c;refine zF (fun _=>zA (fun h=>by cases h)) (fun h=>?_);obtain⟨k,l,m,n,p,q,r,i8,t,d,e,f,g,j⟩:=c h;refine zHk (P:=fun y=>Ac y.2.1<=20) (by omega) ?_ (fun u=>?_)
 .intro i x a;simp only[zM a,af];exact zO (fun _=>zA (e2r (e2r (fun h=>by cases h)))) (fun _=>zA (e2l ⟨rfl,by omega⟩))
 refine zHk (P:=fun y=>Ac y.2.1<=20) (by omega) ?_ (fun z=>?_)
 .intro i x a;simp only[zM a,af];exact zO (fun _=>zA (e2r (e2r (fun h=>by cases h)))) (fun _=>zA (e2l ⟨rfl,by omega⟩))
 refine zHk (P:=fun y=>Ac y.2.1<=20) (by omega) ?_ (fun A=>?_)
 .intro i x a;simp only[zM a,af];exact zO (fun _=>zA (e2r (e2r (fun h=>by cases h)))) (fun _=>zA (e2l ⟨rfl,by omega⟩))
 refine zA (fun _=>?_);constructor<;>first|assumption|omega
theorem zQJ(a1:Ty.El zJ):Wp (zG9 (a1,())) (fun b=>b=Sc->a1.1.length<=9/\∀y,y∈a1.1->SmR y):=by unfold zG9;dsimp only;refine zO (fun _=>zA (fun h=>by cases h)) (fun d=>?_);refine zHk (P:=SmR) (by omega) ?_ (fun h=>zA (fun _=>⟨by omega,h⟩));intro i x a;simp only[zM a,af];refine zB ((zRI x).mono (fun b c=>?_));refine zF (fun _=>zA (e2r (e2r (fun h=>by cases h)))) (fun h=>zA (e2l ⟨rfl,c (by simpa using h)⟩))
structure qE(n:Ty.El zJ)(d:List Int)(v:Ty.El zI):Prop where
 net:v.1=n
 rs:n.1.length<=9
 sm:∀y,y∈n.1->SmR y
 chk:x8 (n,())=Sa 0
 topo:qFl n v.2.1
 dn:v.2.2.1=d
 down:qFq d v.2.1.2.1.length
theorem zRH(n:Ty.El zJ)(d:List Int)(c:n.1.length<=9)(e:∀y,y∈n.1->SmR y):
  Wp (zID (n,d,())) (fun r=>r.2.1=0->qE n d r.1):=by
 unfold zID;dsimp only;refine zB ((zQI n c e).mono (fun i j=>?_));refine zF (fun h=>zA (fun f=>?_)) (fun h=>?_)
 .grind
 have k:i.2.1=0:=by simpa using h
 obtain⟨l,m⟩:=j k;refine zB ((zLh _ _).mono (fun b p=>?_));refine zF (fun _=>zA (fun f=>by cases f)) (fun a=>?_);have g:=p (by simpa using a);refine zB (xZ (by have:=g.len;grind) ?_);refine zA (fun _=>⟨rfl,c,e,m,l,rfl,?_⟩);exact g
theorem zRJ(n:Ty.El zJ)(d:List Int):Wp (zIN (n,d,())) (fun r=>r.2.1=Sc->qE n d r.1):=by
 unfold zIN;dsimp only;refine zB (zB ((zQJ n).mono (fun b a=>?_)));refine zF (fun _=>zA ?_) (fun h=>zA ?_)
 .grind[zA]
 .obtain⟨c,e⟩:=a (by simpa using h);refine zF (fun _=>zA (fun h=>by cases h)) (fun _=>?_);refine zB ((zRH n d c e).mono (fun r f=>zA (fun h=>f ?_)));simpa using h
structure RtS(x:Ty.El zC):Prop where
 path:Ac x.2.2.2.2.2.2.2.2.1<=1048576
 hops:Ac x.2.2.2.2.2.2.2.2.2.2.2.1<=1048576
structure RtB(x:Ty.El zC):Prop where
 path:x.2.2.2.2.2.2.2.2.1.length<=0x1000000000000000
 hops:x.2.2.2.2.2.2.2.2.2.2.2.1.length<=0x1000000000000000
theorem RtS.b{x:Ty.El zC}(h:RtS x):RtB x:=⟨ai h.path (by omega),ai h.hops (by omega)⟩
def zB3(p q:Ty.El zD):Bool:=p.1==q.1&&(p.2.1==q.2.1&&Sc)
theorem yY:zB3 I J=Sc↔I=J:=⟨fun h=>zJ8 h,fun h=>by subst h;simp[zB3]⟩
def zMR(e y:Ty.El zR):Bool:=y.1==e.1&&(y.2.1==e.2.1&&Sc)
theorem qEY{e y:Ty.El zR}:zMR e y=Sc↔y=e:=⟨fun h=>zJ8 h,fun h=>by grind[zMR]⟩
def zAT(v:Ty.El zI)(r i:Int):Int:=zHw (fun d:Ty.El yE=>d.2.2.1.any (zMR (r,i,()))) v.2.1.1
def zK1(v:Ty.El zI)(r i:Int):Int:=zHw (fun l:Int=>decide (zAT v r i>=0)&&l==zAT v r i) v.2.1.2.1
def upB(v:Ty.El zI)(r i:Int):Bool:=decide (0<=zAT v r i)&&v.2.2.1.all (fun x:Int=> !(x==zK1 v r i))
structure zFz(v:Ty.El zI):Prop where
 rs:v.1.1.length<=9
 sm:∀y,y∈v.1.1->SmR y
 doms:v.2.1.1.length<=360
 ends :∀d, d ∈ v.2.1.1 -> d.2.2.1.length <= 360
 links:v.2.1.2.1.length<=12
 link0:∀l,l∈v.2.1.2.1->(0:Int)<=l
 down:v.2.2.1.length<=2
 down0:∀l,l∈v.2.2.1->(0:Int)<=l
theorem qE.s{d:List Int}{v:Ty.El zI}(h:qE j d v):zFz v where
 rs:=by rw[h.net];exact h.rs
 sm:=by rw[h.net];exact h.sm
 doms:=h.topo.doms
 ends := fun d hd =>(h.topo.ends d hd).1
 links:=h.topo.links
 link0:=fun l a=>(h.topo.link l a).1
 down:=by rw[h.dn];exact h.down.len
 down0:=by rw[h.dn];exact fun l a=>(h.down.lo l a).1
theorem zKs{p:i->Bool}:zHw p a2>=0↔a2.any p=true:=by
 grind[zIT,List.any_eq_true,List.mem_of_getElem?]
theorem zWb{p:i->Bool}{xs:List i}(h:0<=zHw p xs):∃x,xs[(zHw p xs).toNat]?=Sa x/\p x=true:=by
 grind[zIT]
theorem zJz(l:List (Ty.El zR))(e:Ty.El zR)(c:l.length<=1048576):Wp (yL (l,e,())) (fun k=>k=zHw (zMR e) l):=by
 unfold yL;dsimp only;refine zFA (p:=zMR e) (by omega) ?_ rfl;intro i x a;simp only[zM a,af]
 have:(e.1==x.1&&(e.2.1==x.2.1&&Sc))=zMR e x:=by
  unfold zMR
  grind
 grind
theorem zHp(l:List (Ty.El zR))(e:Ty.El zR)(a:l.length<=1048576):Wp (uK (l,e,())) (fun b=>b=l.any (zMR e)):=by unfold uK;dsimp only;refine zB ((zJz l e a).mono (fun k c=>zA ?_));subst c;rw[cT,decide_eq_true_eq];exact zKs
theorem zEc(v:Ty.El zI)(r i:Int)(a:zFz v):Wp (zAF (v,r,i,())) (fun k=>k=zAT v r i):=by
 unfold zAF;dsimp only;have:=a.doms;refine zFA (p:=fun d:Ty.El yE=>d.2.2.1.any (zMR (r,i,()))) (by omega) ?_ rfl;intro k x c;simp[zM c];have:=a.ends x (ae c);have e:=jS (zHp x.2.2.1 (r,i,()) (by omega))
 grind
theorem zC9(v:Ty.El zI)(r i:Int)(q:zFz v):Wp (zBK (v,r,i,())) (fun k=>k=zAT v r i):=by
 unfold zBK;dsimp only;have:=q.doms;refine zAK (by omega) (fun k=>∀j y,j<k->v.2.1.1[j]?=Sa y->y.2.2.1.any (zMR (r,i,()))=Sb) (fun j y g=>by omega) ?_ ?_
 .intro k x a g;have l:=q.ends x (ae a);simp only[zM a,af];refine zAK (xs:=x.2.2.1) (by omega) (fun m=>∀y,y∈x.2.2.1.take m->zMR (r,i,()) y=Sb) (fun y c=>by simp at c) ?_ ?_
  .intro m y c n;simp only[zM c,af];refine zF (fun h=>zA (e2r (e2r (e2r (e2r ?_))))) (fun h=>zA (e2l ⟨rfl,?_⟩))
   .have t:x.2.2.1.any (zMR (r,i,()))=true:=bD.2 ⟨y,ae c,h⟩;exact(qBx (p:=fun d:Ty.El yE=>d.2.2.1.any (zMR (r,i,()))) a t g).symm
   .intro z e;rw[bR,c]at e;simp at e;rcases e with e|rfl
    .exact n z e
    .exact h
  .intro n;rw[bC]at n;refine zA (e2l ⟨rfl,?_⟩)
   grind
 .intro g;refine zA (zPx ?_).symm;intro x a;obtain⟨j,f,rfl⟩:=aB a;exact g j _ f (by simp[f])
theorem zDX(l:List Int)(e:Int)(c:l.length<=1048576):Wp (uT (l,e,())) (fun k=>k=zHw (fun x=>x==e) l):=by
 unfold uT;dsimp only;refine zFA (p:=fun x:Int=>x==e) (by omega) ?_ rfl;intro i (x:Int) a;simp[zM a]
 grind
theorem zHo(l:List Int)(e:Int)(a:l.length<=1048576):Wp (v7 (l,e,())) (fun b=>b=l.any (fun x=>x==e)):=by unfold v7;dsimp only;refine zB ((zDX l e a).mono (fun k c=>zA ?_));subst c;rw[cT,decide_eq_true_eq];exact zKs
theorem zRP(v:Ty.El zI)(r i:Int)(a:zFz v):Wp (zFZ (v,r,i,())) (fun k=>k=zK1 v r i):=by
 unfold zFZ;dsimp only;refine zB ((zEc v r i a).mono (fun k c=>?_));subst c;refine zO (fun h=>zA ?_) (fun h=>?_)
 .grind[zPx,zK1,zAT]
 .have:=a.links;refine zB ((zDX _ _ (by omega)).mono (fun k c=>zA ?_))
  grind[zK1,zAT]
theorem zQL(v:Ty.El zI)(r i:Int)(a:zFz v):Wp (zIE (v,r,i,())) (fun k=>k=zK1 v r i):=by
 unfold zIE;dsimp only;refine zB ((zC9 v r i a).mono (fun k c=>?_));subst c;have:=a.links;refine zFA (p:=fun l:Int=>decide (zAT v r i>=0)&&l==zAT v r i) (by omega) ?_ rfl
 grind[zM,decide,zAT]
theorem zYS{p:i->Bool}(l:List i):(!l.any p)=l.all (fun x=> !p x):=by
 grind
theorem zIz(v:Ty.El zI)(r i:Int)(a:zFz v):Wp (zGT (v,r,i,())) (fun b=>b=upB v r i):=by
 unfold zGT;dsimp only;refine zB ((zEc v r i a).mono (fun k c=>?_));subst c;refine zO (fun h=>zA ?_) (fun h=>?_)
 .grind[upB,zAT]
 .refine zB ((zRP v r i a).mono (fun k c=>?_));subst c;have d:0<=zAT v r i:=by omega
  have f:=a.down;refine zB (zO (fun h=>zA (zA ?_)) (fun h=>?_))
  .unfold upB;simp only[d,decide_true,bH];symm;rw[au];intro x e;have:=a.down0 x e
   grind
  .refine zB ((zHo _ _ (by omega)).mono (fun b g=>zA (zA ?_)));simp_all[decide_true,bH,zYS,upB]
theorem zLL(v:Ty.El zI)(r i:Int)(a:zFz v):Wp (zJ5 (v,r,i,())) (fun b=>b=upB v r i):=by
 unfold zJ5;dsimp only;refine zB ((zC9 v r i a).mono (fun k c=>?_));subst c;refine zO (fun h=>zA ?_) (fun h=>?_)
 .grind[upB,zAT]
 .refine zB ((zQL v r i a).mono (fun k c=>?_));subst c;have f:0<=zAT v r i:=by omega
  have g:=a.down;refine zHk (P:=fun x:Int=>(x==zK1 v r i)=Sb) (by omega) ?_ (fun d=>zA ?_)
  .intro j (x:Int) e;simp only[zM e,af];refine zF (fun h=>zA (e2r (e2r ?_))) (fun h=>zA (e2l ⟨rfl,h⟩));unfold upB
   grind
  simp_all[decide_true,bH,au,upB]
def qBr(r:Ty.El zG)(a:Ty.El .str):Int:=zHw (fun x:Ty.El zZ=>x.1==a) r.2.2.1
theorem zLk(r:Ty.El zG)(a:Ty.El .str)(c:SmR r):Wp (zAs (r,a,())) (fun k=>k=qBr r a):=by
 unfold zAs;dsimp only;have:=c.i1;refine zFA (p:=fun x:Ty.El zZ=>x.1==a) (by omega) ?_ rfl
 grind[zM]
def uN(n:Int):Nat:=min n.toNat 32
def zD0(k:Nat):BitVec 32:=BitVec.allOnes 32<<< (32-k)
theorem zPQ(n:Int):uN n<=32:=Nat.min_le_right _ _
theorem qDd(c:0<=g)(d:g<4294967296):Ab .u32 g=g:=by
 have a:((2:Int)^Ae .u32)=4294967296:=by decide
 simp[Ab,IntKind.signed,a];omega
theorem zVn(x:BitVec 32):Ab .u32 (x.toNat:Int)=(x.toNat:Int):=qDd (by omega) (by omega)
theorem zKk(x:BitVec 32):Ai 32 (x.toNat:Int)=x:=by
 grind
theorem qBR:∀i,i<32->zD0 i|||Ai 32 (Ab .u32 (1*2^min (31-i) 32))=zD0 (i+1):=by decide+kernel
theorem qCf:zD0 0=0#32:=by decide+kernel
theorem zWC:∀k,k<33->Ab .u32 (4294967295*2^min (32-k) 32)=((zD0 k).toNat:Int):=by decide+kernel
theorem zGb(n:Int):Wp (zCJ (n,())) (fun m=>m=((zD0 (uN n)).toNat:Int)):=by
 unfold zCJ;dsimp only
 refine zB ((zNj (n:=32) (by omega) (fun i (m:Int)=>m=((zD0 (min i (uN n))).toNat:Int)) (by simp[qCf]) (fun i g _=>by simp) ?_ (Q:=fun m=>m=((zD0 (uN n)).toNat:Int)) (fun g a=>by
  rw[a,Ao (zPQ n)])).mono (fun m c=>zA c))
 intro i g d a;subst a;refine zO (fun h=>?_) (fun h=>zA ?_)
 .have h:(i:Int)<n:=h;have k:i<uN n:=by unfold uN;omega
  refine zO (fun _=>zA ?_) (fun e=>absurd ?_ e)
  .have f:min i (uN n)=i:=by omega
   have j:min (i+1) (uN n)=i+1:=by omega
   rw[f,j];dsimp only;rw[zH (by omega) (by omega),zNi (by omega) (by omega),show((31:Int) - (i:Int)).toNat=31-i by omega];change Ab .u32 (((Ai 32 ((zD0 i).toNat:Int)|||Ai 32 (Ab .u32 (1*2^min (31-i) 32))).toNat:Nat):Int)=_;rw[zKk,qBR i d,zVn]
  grind[zH,zNi]
 grind[Ao,uN]
theorem zYw(n:Int):(if(if(32:Int)<n then(32:Int)else n)>(0:Int)then if(32:Int)<n then(32:Int)else n else(0:Int))=(uN n:Int):=by
 grind[uN]
theorem qCV(n:Int):(if(0:Int)>if(32:Int)<n then(32:Int)else n then(0:Int)else if(32:Int)<n then(32:Int)else n)=(uN n:Int):=by
 grind[uN]
theorem zM4(n:Int):uN ((uN n:Nat):Int)=uN n:=by unfold uN;omega
theorem zJZ(n:Int):zIm (n,())=Sa ((zD0 (uN n)).toNat:Int):=by
 have a:=zPQ n;unfold zIm zGD;simp[zYw];rw[zH (by omega) (by omega)];have c:(0:Int)<=32- ((uN n:Nat):Int):=by omega
 simp only[c,decide_true,cond_true];rw[show((32:Int) - ((uN n:Nat):Int)).toNat=32-uN n by omega];exact congrArg Sa (zWC _ (by omega))
def kF(a n:Int):Ty.El zD:=(((Ai 32 a&&&zD0 (uN n)).toNat:Int),(uN n:Int),())
def zJt(p:Ty.El zD)(a:Int):Bool:=(((Ai 32 a&&&zD0 (uN p.2.1)).toNat:Nat):Int)==p.1
theorem zWA(a:Int)(k:Nat):Ab .u32 (((Ai (Ae .u32) a&&&Ai (Ae .u32) ((zD0 k).toNat:Int)).toNat:Nat):Int)=((Ai 32 a&&&zD0 k).toNat:Int):=by change Ab .u32 (((Ai 32 a&&&Ai 32 ((zD0 k).toNat:Int)).toNat:Nat):Int)=_;rw[zKk,zVn]
theorem xO(a n:Int):zBT (a,n,())=Sa (kF a n):=by
 refine jS ?_;unfold zBT;dsimp only;refine zB (zK (zJZ _) ?_)
 grind[zYw,zA,zWA,zGD,kF]
theorem uA(a n:Int):uE (a,n,())=Sa (kF a n):=by
 refine jS ?_;unfold uE;simp only[qCV];refine zB ((zGb _).mono (fun m c=>zA ?_))
 grind[zM4,zWA,kF]
theorem zMn(p:Ty.El zD)(a:Int):zA4 (p,a,())=Sa (zJt p a):=by refine jS ?_;unfold zA4;dsimp only;refine zB ((zGb _).mono (fun m c=>zA ?_));subst c;rw[zWA];rfl
theorem zMp(p:Ty.El zD)(a:Int):zCf (p,a,())=Sa (zJt p a):=by refine jS ?_;unfold zCf;dsimp only;refine zB (zK (zJZ _) (zA ?_));rw[zWA];rfl
theorem qCd(a n:Int):zJt (kF a n) (kF a n).1=true:=by
 grind[zM4,zKk,BitVec.and_assoc,BitVec.and_self,zJt,kF]
theorem zHP(p q:Ty.El zD):zBo (p,q,())=Sa (decide (p.2.1<=q.2.1)&&zJt p q.1):=by refine jS ?_;unfold zBo;dsimp only;refine zB (zF (fun h=>zB (zK (zMn _ _) (zA (zA ?_)))) (fun h=>zA (zA ?_)))<;>(rw[h];rfl)
theorem zGa(p q:Ty.El zD):x9 (p,q,())=Sa ((decide (p.2.1<=q.2.1)&&zJt p q.1)||(decide (q.2.1<=p.2.1)&&zJt q p.1)):=by refine jS ?_;unfold x9;dsimp only;refine zB (zB (zK (zHP _ _) (zF (fun h=>zA (zA ?_)) (fun h=>zB (zK (zHP _ _) (zA (zA ?_)))))))<;>(rw[h];rfl)
def zC2(p:Ty.El zD):Bool:=decide (p.2.1>=0)&&(decide (p.2.1<=32)&&(Ai 32 p.1&&& ~~~ zD0 (uN p.2.1))==0#32)
theorem zCj(p:Ty.El zD):uD (p,())=Sa (zC2 p):=by
 refine jS ?_;unfold uD zC2;dsimp only;refine zB (zF (fun h=>zF (fun a=>zB ((zGb _).mono (fun m c=>zA (zA ?_)))) (fun a=>zA (zA ?_))) (fun h=>zA (zA ?_)))
 .subst c;rw[h,a];simp only[bH];change (Ab .u32 (((Ai 32 p.1&&& ~~~ Ai 32 ((zD0 (uN p.2.1)).toNat:Int)).toNat:Nat):Int)==(0:Int))=_;rw[zKk,zVn,cT,beq_iff_eq,beq_iff_eq];constructor
  .intro h;apply BitVec.eq_of_toNat_eq
   grind
  grind
 all_goals grind
theorem zZL(a n:Int):zC2 (kF a n)=true:=by
 unfold zC2 kF;have:=zPQ n;simp only[zM4,zKk]
 have c:(Ai 32 a&&&zD0 (uN n)&&& ~~~ zD0 (uN n))=0#32:=by
  grind
 grind
end Go.Ve

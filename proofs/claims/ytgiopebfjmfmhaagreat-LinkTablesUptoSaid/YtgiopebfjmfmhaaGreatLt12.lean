/- law16 -/
import Derived.Test.YtgiopebfjmfmhaaGreatLt11
set_option linter.unusedVariables false
open Option renaming some->Sa,none->Sd
open Bool renaming false->Sb,true->Sc
open Option renaming bind->Aa,map->Am
open Go.IntKind renaming wrap->Ab,bits->Ae,u64->Ah,u32->An
open List renaming length->Ac,set->Al
open Int renaming toNat->Ad,fdiv->Aj
open Sum renaming inr->Af,inl->Ag
open BitVec renaming ofInt->Ai,toNat->Ap
open Nat renaming beq->Ak,min_eq_right->Ao
set_option maxRecDepth 1000000
set_option maxHeartbeats 4000000
namespace Go.Ve
noncomputable section
open Go
def zIN:ElS [zG]->Option (RTy.El (.p .bool)):=fun x=>match x with|(a,())=>Aa (bif decide ((↑(Ac a.2.2.1):Int)>(12:Int))then Sa Sc else bif decide ((↑(Ac a.2.2.2.1):Int)>(12:Int))then Sa Sc else bif decide ((↑(Ac a.2.2.2.2.1):Int)>(12:Int))then Sa Sc else bif decide ((↑(Ac a.2.2.2.2.2.1):Int)>(12:Int))then Sa Sc else bif decide ((↑(Ac a.2.2.2.2.2.2.1):Int)>(12:Int))then Sa Sc else bif decide ((↑(Ac a.2.2.2.2.2.2.2.1):Int)>(20:Int))then Sa Sc else bif decide ((↑(Ac a.2.2.2.2.2.2.2.2.1.2.2.1):Int)>(8:Int))then Sa Sc else bif decide ((↑(Ac a.2.2.2.2.2.2.2.2.1.2.2.2.1):Int)>(8:Int))then Sa Sc else bif decide ((↑(Ac a.2.2.2.2.2.2.2.2.2.1.2.2.2.2.1):Int)>(8:Int))then Sa Sc else bif decide ((↑(Ac a.2.2.2.2.2.2.2.2.2.2.1.2.2.2.2.2.2.2.1):Int)>(8:Int))then Sa Sc else bif decide ((↑(Ac a.2.2.2.2.2.2.2.2.2.2.1.2.2.2.1):Int)>(12:Int))then Sa Sc else bif decide ((↑(Ac a.2.2.2.2.2.2.2.2.2.2.1.2.2.2.2.1):Int)>(12:Int))then Sa Sc else bif decide ((↑(Ac a.2.2.2.2.2.2.2.2.2.2.1.2.2.2.2.2.1):Int)>(12:Int))then Sa Sc else Sa (decide ((↑(Ac a.2.2.2.2.2.2.2.2.2.2.1.2.2.2.2.2.2.1):Int)>(12:Int)))) fun(h:Bool)=>bif h then Sa Sb else wB (zS (fun(e:Int)=>bif decide (e< (↑(Ac a.2.2.2.1):Int))then Aa (idx a.2.2.2.1 e) fun(i:Ty.El zEb)=>bif decide ((↑(Ac i.2.1):Int)>(20:Int))then Sa (Af (Af Sb))else Sa (Ag (Ab .i64 (e+(1:Int))))else Sa (Af (Ag ()))) (0:Int)) fun(l:Unit)=>wB (zS (fun(c:Int)=>bif decide (c< (↑(Ac a.2.2.2.2.1):Int))then Aa (idx a.2.2.2.2.1 c) fun(f:Ty.El zLL)=>bif decide ((↑(Ac f.2.1):Int)>(12:Int))then Sa (Af (Af Sb))else Sa (Ag (Ab .i64 (c+(1:Int))))else Sa (Af (Ag ()))) (0:Int)) fun(j:Unit)=>wB (zS (fun(d:Int)=>bif decide (d< (↑(Ac a.2.2.2.2.2.1):Int))then Aa (idx a.2.2.2.2.2.1 d) fun(g:Ty.El zOZ)=>bif decide ((↑(Ac g.2.1):Int)>(20:Int))then Sa (Af (Af Sb))else Sa (Ag (Ab .i64 (d+(1:Int))))else Sa (Af (Ag ()))) (0:Int)) fun(k:Unit)=>Sa Sc
def zHa:ElS [zJ]->Option (RTy.El (.p .bool)):=fun x=>match x with|(a,())=>bif decide ((↑(Ac a.1):Int)>(9:Int))then Sa Sb else wB (zS (fun(c:Int)=>bif decide (c< (↑(Ac a.1):Int))then Aa (idx a.1 c) fun(d:Ty.El zG)=>Aa (zIN (d,())) fun(e:Bool)=>bif !e then Sa (Af (Af Sb))else Sa (Ag (Ab .i64 (c+(1:Int))))else Sa (Af (Ag ()))) (0:Int)) fun(f:Unit)=>Sa Sc
def xR:ElS [zD,zD]->Option (RTy.El (.p tI)):=fun x=>match x with|(a,c,())=>Aa (bif decide (a.1<c.1)then Sa Sc else bif a.1==c.1 then Sa (decide (a.2.1<c.2.1))else Sa Sb) fun(d:Bool)=>bif d then Sa (-1:Int)else bif a.1==c.1&&(a.2.1==c.2.1&&Sc)then Sa (0:Int)else Sa (1:Int)
def zEx:HSt zR->ElS [zJ]->Option (HSt zR×RTy.El (.tu [zMi,tI])):=fun m x=>match x with|(t,())=>Aa (x8 (t,())) fun(M:Int)=>bif M !=(0:Int)then Sa (m,([],[],()),M,())else Aa (zS (fun(h:Int×(List (Ty.El zW)×List Int)×HSt zR)=>bif decide (h.1< (↑(Ac t.1):Int))then Aa (zS (fun(i:Int×(List (Ty.El zW)×List Int)×HSt zR)=>Aa (idx t.1 h.1) fun(N:Ty.El zG)=>bif decide (i.1< (↑(Ac N.2.2.1):Int))then Aa (Aa (idx t.1 h.1) fun(O:Ty.El zG)=>Aa (idx O.2.2.1 i.1) fun(j:Ty.El zZ)=>Aa (bif j.2.2.1==(0:Int)then Sa (Sc,i.2)else Sa (j.2.2.2.2.1,i.2)) fun(u:Bool×(List (Ty.El zW)×List Int)×HSt zR)=>bif u.1 then Sa u.2 else Aa (uF (j.2.1,j.2.2.1,())) fun(l:Int×Int×Unit)=>Aa (zS (fun(e:Int×(List (Ty.El zW)×List Int)×HSt zR)=>Aa (bif decide (e.1< (↑(Ac e.2.1.1):Int))then Aa (idx e.2.1.1 e.1) fun(P:Ty.El zW)=>Aa (atN e.2.1.1 (Ad e.1)) fun(y:Ty.El zW)=>Aa (xR (y.1,l,())) fun(z:Int)=>bif decide (z< (0:Int))then Sa (Sc,e.2)else Aa (idx e.2.1.1 e.1) fun(Q:Ty.El zW)=>Aa (atN e.2.1.1 (Ad e.1)) fun(n:Ty.El zW)=>bif n.1.1==l.1&&(n.1.2.1==l.2.1&&Sc)then Aa (idx e.2.1.1 e.1) fun(S:Ty.El zW)=>Aa (atN e.2.1.1 (Ad e.1)) fun(A:Ty.El zW)=>Sa (decide (A.2.1<j.2.2.2.1),e.2)else Sa (Sb,e.2)else Sa (Sb,e.2)) fun(k:Bool×(List (Ty.El zW)×List Int)×HSt zR)=>bif k.1 then Sa (Ag (Ab .i64 (e.1+(1:Int)),k.2))else Sa (Af (e.1,k.2))) ((0:Int),u.2)) fun(a:Int×(List (Ty.El zW)×List Int)×HSt zR)=>Aa (Aa (bif a.1==(↑(Ac a.2.1.1):Int)then Sa (Sc,a.2)else Aa (idx a.2.1.1 a.1) fun(W:Ty.El zW)=>Aa (atN a.2.1.1 (Ad a.1)) fun(p:Ty.El zW)=>bif !(p.1.1==l.1&&(p.1.2.1==l.2.1&&Sc))then Sa (Sc,a.2)else Aa (idx a.2.1.1 a.1) fun(Y:Ty.El zW)=>Aa (atN a.2.1.1 (Ad a.1)) fun(B:Ty.El zW)=>Sa (B.2.1 !=j.2.2.2.1,a.2)) fun(d:Bool×(List (Ty.El zW)×List Int)×HSt zR)=>bif d.1 then bif decide ((0:Int)<=a.1)&&decide (a.1<=(↑(Ac d.2.1.1):Int))&&decide ((↑(Ac d.2.1.1):Int)<=(↑(Ac d.2.1.1):Int))then Aa (app (48:Nat) [] (List.drop (Ad a.1) (List.take (Ad (↑(Ac d.2.1.1):Int)) d.2.1.1))) fun(C:List (Ty.El zW))=>bif decide ((0:Int)<=(0:Int))&&decide ((0:Int)<=a.1)&&decide (a.1<=(↑(Ac d.2.1.1):Int))then Aa (app (48:Nat) (List.take (Ad a.1) d.2.1.1) [(l,j.2.2.2.1,Sd,())]) fun(D:List (Ty.El zW))=>Aa (app (48:Nat) D C) fun(E:List (Ty.El zW))=>Sa ((E,d.2.1.2),d.2.2)else Sd else Sd else Sa d.2) fun(f:(List (Ty.El zW)×List Int)×HSt zR)=>Aa (idx f.1.1 a.1) fun(Z:Ty.El zW)=>Aa (atN f.1.1 (Ad a.1)) fun(F:Ty.El zW)=>Aa (zOj (16:Nat) f.2 F.2.2.1 [(h.1,i.1,())]) fun(q:List (Option (List (Ty.El zR)))×Option (Nat×Nat))=>Aa (idx f.1.1 a.1) fun(ab:Ty.El zW)=>Aa (atN f.1.1 (Ad a.1)) fun(r:Ty.El zW)=>Sa ((Al f.1.1 (Ad a.1) (r.1,r.2.1,q.2,()),f.1.2),q.1)) fun(G:(List (Ty.El zW)×List Int)×HSt zR)=>Sa (Ag (Ab .i64 (i.1+(1:Int)),G))else Sa (Af i.2)) ((0:Int),h.2)) fun(H:(List (Ty.El zW)×List Int)×HSt zR)=>Sa (Ag (Ab .i64 (h.1+(1:Int)),H))else Sa (Af h.2)) ((0:Int),([],[]),m)) fun(I:(List (Ty.El zW)×List Int)×HSt zR)=>Aa (zS (fun(c:Int×(List (Ty.El zW)×List Int)×HSt zR)=>bif decide (c.1< (↑(Ac c.2.1.1):Int))then Aa (Aa (idx c.2.1.1 c.1) fun(ad:Ty.El zW)=>Aa (atN c.2.1.1 (Ad c.1)) fun(J:Ty.El zW)=>bif decide ((↑(qBd J.2.2.1):Int)>(1:Int))then Aa (app (8:Nat) c.2.1.2 [c.1]) fun(K:List Int)=>Sa ((c.2.1.1,K),c.2.2)else Sa c.2) fun(L:(List (Ty.El zW)×List Int)×HSt zR)=>Sa (Ag (Ab .i64 (c.1+(1:Int)),L))else Sa (Af c.2)) ((0:Int),I)) fun(g:(List (Ty.El zW)×List Int)×HSt zR)=>bif decide ((↑(Ac g.1.2):Int)>(12:Int))then Sa (g.2,([],[],()),(7:Int),())else Sa (g.2,(g.1.1,g.1.2,()),(0:Int),())
def zG5:ElS [zJ]->Option (RTy.El (.tu [zLK,tI])):=zRF (.tu [zMi,tI]) zEx
def zCm:ElS [(.sl tI),tI]->Option (RTy.El (.p .bool)):=fun x=>match x with|(c,i,())=>bif decide ((↑(Ac c):Int)>(2:Int))then Sa Sb else wB (zS (fun(a:Int)=>bif decide (a< (↑(Ac c):Int))then Aa (Aa (idx c a) fun(d:Int)=>bif decide (d< (0:Int))then Sa Sc else Aa (idx c a) fun(e:Int)=>bif decide (e>=i)then Sa Sc else bif decide (a>(0:Int))then Aa (idx c a) fun(f:Int)=>Aa (idx c (Ab .i64 (a- (1:Int)))) fun(g:Int)=>Sa (decide (f<=g))else Sa Sb) fun(h:Bool)=>bif h then Sa (Af (Af Sb))else Sa (Ag (Ab .i64 (a+(1:Int))))else Sa (Af (Ag ()))) (0:Int)) fun(j:Unit)=>Sa Sc
def zIE:ElS [zJ,(.sl tI)]->Option (RTy.El (.tu [zH,tI])):=fun x=>match x with|(c,d,())=>Aa (zG5 (c,())) fun(a:Ty.El zLK×Int×Unit)=>bif a.2.1 !=(0:Int)then Sa ((([],()),([],[],()),[],()),a.2.1,())else Aa (zCm (d,(↑(Ac a.1.2.1):Int),())) fun(e:Bool)=>bif !e then Sa ((([],()),([],[],()),[],()),(1:Int),())else Aa (app (8:Nat) [] d) fun(f:List Int)=>Sa ((c,a.1,f,()),(0:Int),())
def zIO:ElS [zJ,(.sl tI)]->Option (RTy.El (.tu [zH,.bool])):=fun x=>match x with|(a,c,())=>Aa (Aa (zHa (a,())) fun(e:Bool)=>bif !e then Sa Sc else Sa (decide ((↑(Ac c):Int)>(2:Int)))) fun(f:Bool)=>bif f then Sa ((([],()),([],[],()),[],()),Sb,())else Aa (zIE (a,c,())) fun(d:Ty.El zH×Int×Unit)=>Sa (d.1,d.2.1==(0:Int),())
def wY:ElS [tI,tI,tI]->Option (RTy.El (.p .bool)):=fun x=>match x with|(a,c,d,())=>Aa (bif decide (c<=a)then Sa (decide (a<=d))else Sa Sb) fun(e:Bool)=>Sa e
def zAI:ElS [zC,.bool,.bool,.bool]->Option (RTy.El (.p .bool)):=fun x=>match x with|(a,e,d,c,())=>Aa (bif e then bif d then bif c then Sa Sc else Sa (a.2.2.2.2.2.2.2.2.2.2.1==(0:Int))else bif a.2.2.2.2.2.2.2.1==(0:Int)then bif (↑(Ac a.2.2.2.2.2.2.2.2.1):Int)==(0:Int)then bif a.2.2.2.2.2.2.2.2.2.1==(0:Int)then bif c then Sa Sc else Sa (a.2.2.2.2.2.2.2.2.2.2.1==(0:Int))else Sa Sb else Sa Sb else Sa Sb else bif a.2.2.2.2.2.1==(0:Int)then bif d then bif c then Sa Sc else Sa (a.2.2.2.2.2.2.2.2.2.2.1==(0:Int))else bif a.2.2.2.2.2.2.2.1==(0:Int)then bif (↑(Ac a.2.2.2.2.2.2.2.2.1):Int)==(0:Int)then bif a.2.2.2.2.2.2.2.2.2.1==(0:Int)then bif c then Sa Sc else Sa (a.2.2.2.2.2.2.2.2.2.2.1==(0:Int))else Sa Sb else Sa Sb else Sa Sb else Sa Sb) fun(f:Bool)=>Sa f
def zEw:ElS [zP,zP]->Option (RTy.El (.p .bool)):=fun x=>match x with|(a,c,())=>Aa (bif decide (a.1<c.1)then Sa Sc else bif a.1==c.1 then Sa (decide (a.2.1<c.2.1))else Sa Sb) fun(d:Bool)=>Sa d
def yW:ElS [(.sl zP),.bool]->Option (RTy.El (.p .bool)):=fun x=>match x with|(c,k,())=>wB (zS (fun(a:Int)=>bif decide (a< (↑(Ac c):Int))then Aa (Aa (idx c a) fun(d:Ty.El zP)=>bif decide (d.1< (0:Int))then Sa Sc else bif decide (a>(0:Int))then Aa (idx c (Ab .i64 (a- (1:Int)))) fun(e:Ty.El zP)=>Aa (idx c a) fun(f:Ty.El zP)=>Aa (zEw (e,f,())) fun(g:Bool)=>bif !g then Sa Sc else Aa (idx c a) fun(h:Ty.El zP)=>Sa !(h.2.1==(0:Int))==k else Aa (idx c a) fun(i:Ty.El zP)=>Sa !(i.2.1==(0:Int))==k) fun(j:Bool)=>bif j then Sa (Af (Af Sb))else Sa (Ag (Ab .i64 (a+(1:Int))))else Sa (Af (Ag ()))) (0:Int)) fun(l:Unit)=>Sa Sc
def zG3:ElS [zC]->Option (RTy.El (.p .bool)):=fun x=>match x with|(a,())=>Aa (bif a.2.2.1 !=(0:Int)then Sa Sc else bif a.2.2.2.2.1 !=(0:Int)then Sa Sc else Aa (wY (a.2.2.2.1,(1:Int),(255:Int),())) fun(c:Bool)=>bif !c then Sa Sc else Aa (zAI (a,Sb,Sb,Sc,())) fun(d:Bool)=>Sa !d) fun(e:Bool)=>bif e then Sa Sb else bif a.2.2.2.2.2.2.2.2.2.2.1 !=(0:Int)then Aa (bif (↑(Ac a.2.2.2.2.2.2.2.2.2.2.2.1):Int)==(0:Int)then Sa !a.2.2.2.2.2.2.2.2.2.2.2.2.1 else Sa Sb) fun(f:Bool)=>Sa f else bif a.2.2.2.2.2.2.2.2.2.2.2.2.1 then Sa ((↑(Ac a.2.2.2.2.2.2.2.2.2.2.2.1):Int)==(0:Int))else Aa (bif (↑(Ac a.2.2.2.2.2.2.2.2.2.2.2.1):Int)==(1:Int)then Aa (yW (a.2.2.2.2.2.2.2.2.2.2.2.1,Sc,())) fun(g:Bool)=>Sa g else Sa Sb) fun(h:Bool)=>Sa h
def xS:ElS [zC]->Option (RTy.El (.p .bool)):=fun x=>match x with|(a,())=>Aa (Aa (wY (a.2.2.1,(1:Int),(4:Int),())) fun(h:Bool)=>bif !h then Sa Sc else Aa (wY (a.2.2.2.1,(1:Int),(255:Int),())) fun(i:Bool)=>bif !i then Sa Sc else Aa (wY (a.2.2.2.2.1,(0:Int),(1073741824:Int),())) fun(j:Bool)=>bif !j then Sa Sc else Aa (zAI (a,Sc,Sb,Sb,())) fun(k:Bool)=>Sa !k) fun(l:Bool)=>bif l then Sa Sb else Aa (Aa (wY (a.2.2.2.2.2.1,(0:Int),(1073741824:Int),())) fun(c:Bool)=>bif !c then Sa Sc else bif a.2.2.1 !=(4:Int)then Sa (a.2.2.2.2.2.1 !=(0:Int))else Sa Sb) fun(d:Bool)=>bif d then Sa Sb else bif a.2.2.2.2.2.2.2.2.2.2.2.2.1 then Aa (bif a.2.2.1==(1:Int)then bif a.2.2.2.2.1==(0:Int)then bif a.2.2.2.2.2.2.1==(0:Int)then Sa ((↑(Ac a.2.2.2.2.2.2.2.2.2.2.2.1):Int)==(0:Int))else Sa Sb else Sa Sb else Sa Sb) fun(e:Bool)=>Sa e else Aa (bif decide ((↑(Ac a.2.2.2.2.2.2.2.2.2.2.2.1):Int)>(0:Int))then Aa (yW (a.2.2.2.2.2.2.2.2.2.2.2.1,Sb,())) fun(f:Bool)=>Sa f else Sa Sb) fun(g:Bool)=>Sa g
def zFt:ElS [zC]->Option (RTy.El (.p .bool)):=fun x=>match x with|(a,())=>Aa (Aa (wY (a.2.2.2.1,(1:Int),(255:Int),())) fun(e:Bool)=>bif !e then Sa Sc else Aa (wY (a.2.2.2.2.1,(1:Int),(15:Int),())) fun(f:Bool)=>bif !f then Sa Sc else Aa (zAI (a,Sb,Sb,Sb,())) fun(g:Bool)=>bif !g then Sa Sc else Sa a.2.2.2.2.2.2.2.2.2.2.2.2.1) fun(h:Bool)=>bif h then Sa Sb else bif a.2.2.1==(1:Int)then Aa (bif a.2.2.2.2.1==(1:Int)then bif a.2.2.2.2.2.2.1==(0:Int)then bif (↑(Ac a.2.2.2.2.2.2.2.2.2.2.2.1):Int)==(1:Int)then Aa (yW (a.2.2.2.2.2.2.2.2.2.2.2.1,Sc,())) fun(i:Bool)=>Sa i else Sa Sb else Sa Sb else Sa Sb) fun(j:Bool)=>Sa j else bif a.2.2.1==(2:Int)then Sa ((↑(Ac a.2.2.2.2.2.2.2.2.2.2.2.1):Int)==(0:Int))else bif a.2.2.1==(3:Int)then Aa (bif decide ((↑(Ac a.2.2.2.2.2.2.2.2.2.2.2.1):Int)>(0:Int))then Aa (yW (a.2.2.2.2.2.2.2.2.2.2.2.1,Sb,())) fun(c:Bool)=>Sa c else Sa Sb) fun(d:Bool)=>Sa d else Sa Sb
def zJg:ElS [zC]->Option (RTy.El (.p .bool)):=fun x=>match x with|(a,())=>Aa (Aa (wY (a.2.2.2.1,(1:Int),(255:Int),())) fun(j:Bool)=>bif !j then Sa Sc else Aa (wY (a.2.2.2.2.1,(0:Int),(16777215:Int),())) fun(k:Bool)=>bif !k then Sa Sc else Aa (wY (a.2.2.2.2.2.2.2.1,(0:Int),(1000000:Int),())) fun(l:Bool)=>bif !l then Sa Sc else Aa (zAI (a,Sb,Sc,Sb,())) fun(m:Bool)=>Sa !m) fun(n:Bool)=>bif n then Sa Sb else Aa (bif a.2.2.1==(1:Int)then Sa (a.2.2.1==(1:Int))else Sa (a.2.2.1==(2:Int))) fun(q:Bool)=>bif q then Aa (bif (↑(Ac a.2.2.2.2.2.2.2.2.1):Int)==(0:Int)then bif a.2.2.2.2.2.2.2.2.2.1==(0:Int)then bif (↑(Ac a.2.2.2.2.2.2.2.2.2.2.2.1):Int)==(0:Int)then Sa (a.2.2.2.2.2.2.2.2.2.2.2.2.1==(a.2.2.1==(2:Int)))else Sa Sb else Sa Sb else Sa Sb) fun(c:Bool)=>Sa c else Aa (bif a.2.2.1==(3:Int)then Sa (a.2.2.1==(3:Int))else Sa (a.2.2.1==(4:Int))) fun(d:Bool)=>bif d then Aa (bif a.2.2.1==(4:Int)then bif a.2.2.2.2.2.2.2.2.2.1 !=(0:Int)then bif (↑(Ac a.2.2.2.2.2.2.2.2.2.2.2.1):Int)==(1:Int)then Aa (yW (a.2.2.2.2.2.2.2.2.2.2.2.1,Sb,())) fun(e:Bool)=>bif e then Aa (idx a.2.2.2.2.2.2.2.2.2.2.2.1 (0:Int)) fun(f:Ty.El zP)=>bif f.2.1==a.2.2.2.2.2.2.2.2.2.1 then Sa !a.2.2.2.2.2.2.2.2.2.2.2.2.1 else Sa Sb else Sa Sb else Sa Sb else Sa Sb else bif decide ((↑(Ac a.2.2.2.2.2.2.2.2.1):Int)>(0:Int))then bif a.2.2.2.2.2.2.2.2.2.1 !=(0:Int)then bif (↑(Ac a.2.2.2.2.2.2.2.2.2.2.2.1):Int)==(1:Int)then Aa (yW (a.2.2.2.2.2.2.2.2.2.2.2.1,Sb,())) fun(g:Bool)=>bif g then Aa (idx a.2.2.2.2.2.2.2.2.2.2.2.1 (0:Int)) fun(h:Ty.El zP)=>bif h.2.1==a.2.2.2.2.2.2.2.2.2.1 then Sa !a.2.2.2.2.2.2.2.2.2.2.2.2.1 else Sa Sb else Sa Sb else Sa Sb else Sa Sb else Sa Sb) fun(i:Bool)=>Sa i else Sa Sb
def zEC:ElS [zC]->Option (RTy.El (.p .bool)):=fun x=>match x with|(a,())=>Aa (Aa (uE (a.1,())) fun(m:Bool)=>bif !m then Sa Sc else Aa (wY (a.2.2.2.2.2.2.1,(0:Int),(65535:Int),())) fun(n:Bool)=>bif !n then Sa Sc else Sa (decide ((↑(Ac a.2.2.2.2.2.2.2.2.1):Int)>(64:Int)))) fun(q:Bool)=>bif q then Sa Sb else wB (zS (fun(c:Int)=>bif decide (c< (↑(Ac a.2.2.2.2.2.2.2.2.1):Int))then Aa (idx a.2.2.2.2.2.2.2.2.1 c) fun(d:Int)=>Aa (wY (d,(1:Int),(65535:Int),())) fun(e:Bool)=>bif !e then Sa (Af (Af Sb))else Sa (Ag (Ab .i64 (c+(1:Int))))else Sa (Af (Ag ()))) (0:Int)) fun(r:Unit)=>bif a.2.1==(1:Int)then Aa (bif a.2.2.1==(0:Int)then bif a.2.2.2.1==(0:Int)then bif a.2.2.2.2.1==(0:Int)then bif a.2.2.2.2.2.2.1==(0:Int)then Aa (zAI (a,Sb,Sb,Sb,())) fun(f:Bool)=>bif f then bif !a.2.2.2.2.2.2.2.2.2.2.2.2.1 then bif (↑(Ac a.2.2.2.2.2.2.2.2.2.2.2.1):Int)==(1:Int)then Aa (yW (a.2.2.2.2.2.2.2.2.2.2.2.1,Sc,())) fun(g:Bool)=>Sa g else Sa Sb else Sa Sb else Sa Sb else Sa Sb else Sa Sb else Sa Sb else Sa Sb) fun(h:Bool)=>Sa h else bif a.2.1==(2:Int)then Aa (zG3 (a,())) fun(i:Bool)=>Sa i else bif a.2.1==(3:Int)then Aa (xS (a,())) fun(j:Bool)=>Sa j else bif a.2.1==(4:Int)then Aa (zFt (a,())) fun(k:Bool)=>Sa k else bif a.2.1==(5:Int)then Aa (zJg (a,())) fun(l:Bool)=>Sa l else Sa Sb
def zG4:ElS [(.sl zC),tI]->Option (RTy.El (.p .bool)):=fun x=>match x with|(c,n,())=>wB (zS (fun(a:Int)=>bif decide (a< (↑(Ac c):Int))then Aa (Aa (idx c a) fun(d:Ty.El zC)=>Aa (zEC (d,())) fun(e:Bool)=>bif !e then Sa Sc else bif n !=(0:Int)then Aa (idx c a) fun(f:Ty.El zC)=>bif f.2.1 !=n then Sa Sc else bif decide (a>(0:Int))then Aa (idx c (Ab .i64 (a- (1:Int)))) fun(g:Ty.El zC)=>Aa (idx c a) fun(h:Ty.El zC)=>Aa (xR (g.1,h.1,())) fun(i:Int)=>Sa (decide (i>=(0:Int)))else Sa Sb else bif decide (a>(0:Int))then Aa (idx c (Ab .i64 (a- (1:Int)))) fun(j:Ty.El zC)=>Aa (idx c a) fun(k:Ty.El zC)=>Aa (xR (j.1,k.1,())) fun(l:Int)=>Sa (decide (l>=(0:Int)))else Sa Sb) fun(m:Bool)=>bif m then Sa (Af (Af Sb))else Sa (Ag (Ab .i64 (a+(1:Int))))else Sa (Af (Ag ()))) (0:Int)) fun(q:Unit)=>Sa Sc
def zGE:ElS [tI]->Option (RTy.El (.p tI)):=fun x=>match x with|(a,())=>Sa (if(if(32:Int)<a then(32:Int)else a)>(0:Int)then if(32:Int)<a then(32:Int)else a else(0:Int))
def zIo:ElS [tI]->Option (RTy.El (.p tU)):=fun x=>match x with|(c,())=>Aa (zGE (c,())) fun(a:Int)=>bif decide ((0:Int)<=Ab .i64 ((32:Int) -a))then Sa (Ab .u32 ((4294967295:Int)*(2:Int)^min (Ad (Ab .i64 ((32:Int) -a))) (Ae An)))else Sd
def zCf:ElS [zD,tU]->Option (RTy.El (.p .bool)):=fun x=>match x with|(a,c,())=>Aa (zIo (a.2.1,())) fun(d:Int)=>Sa (Ab .u32 (↑(Ap (Ai (Ae An) c&&&Ai (Ae An) d)):Int)==a.1)
def yM:ElS [(.sl zR),zR]->Option (RTy.El (.p tI)):=fun x=>match x with|(c,d,())=>wB (zS (fun(a:Int)=>bif decide (a< (↑(Ac c):Int))then Aa (idx c a) fun(e:Ty.El zR)=>bif d.1==e.1&&(d.2.1==e.2.1&&Sc)then Sa (Af (Af a))else Sa (Ag (Ab .i64 (a+(1:Int))))else Sa (Af (Ag ()))) (0:Int)) fun(f:Unit)=>Sa (-1:Int)
def uK:ElS [(.sl zR),zR]->Option (RTy.El (.p .bool)):=fun x=>match x with|(a,c,())=>Aa (yM (a,c,())) fun(d:Int)=>Sa (decide (d>=(0:Int)))
def zAG:ElS [zH,tI,tI]->Option (RTy.El (.p tI)):=fun x=>match x with|(e,f,g,())=>wB (zS (fun(a:Int)=>bif decide (a< (↑(Ac e.2.1.1):Int))then Aa (idx e.2.1.1 a) fun(c:Ty.El yF)=>Aa (uK (c.2.2.1,(f,g,()),())) fun(d:Bool)=>bif d then Sa (Af (Af a))else Sa (Ag (Ab .i64 (a+(1:Int))))else Sa (Af (Ag ()))) (0:Int)) fun(h:Unit)=>Sa (-1:Int)
def uT:ElS [(.sl tI),tI]->Option (RTy.El (.p tI)):=fun x=>match x with|(c,d,())=>wB (zS (fun(a:Int)=>bif decide (a< (↑(Ac c):Int))then Aa (idx c a) fun(e:Int)=>bif d==e then Sa (Af (Af a))else Sa (Ag (Ab .i64 (a+(1:Int))))else Sa (Af (Ag ()))) (0:Int)) fun(f:Unit)=>Sa (-1:Int)
def zFZ:ElS [zH,tI,tI]->Option (RTy.El (.p tI)):=fun x=>match x with|(a,d,e,())=>Aa (zAG (a,d,e,())) fun(c:Int)=>bif decide (c< (0:Int))then Sa (-1:Int)else Aa (uT (a.2.1.2.1,c,())) fun(f:Int)=>Sa f
def v7:ElS [(.sl tI),tI]->Option (RTy.El (.p .bool)):=fun x=>match x with|(a,c,())=>Aa (uT (a,c,())) fun(d:Int)=>Sa (decide (d>=(0:Int)))
def zGU:ElS [zH,tI,tI]->Option (RTy.El (.p .bool)):=fun x=>match x with|(a,c,d,())=>Aa (zAG (a,c,d,())) fun(f:Int)=>bif decide (f< (0:Int))then Sa Sb else Aa (zFZ (a,c,d,())) fun(e:Int)=>Aa (bif decide (e< (0:Int))then Sa Sc else Aa (v7 (a.2.2.1,e,())) fun(g:Bool)=>Sa !g) fun(h:Bool)=>Sa h
def zBT:ElS [tU,tI]->Option (RTy.El (.p zD)):=fun x=>match x with|(c,a,())=>Aa (zIo (a,())) fun(d:Int)=>Aa (zGE (a,())) fun(e:Int)=>Sa (Ab .u32 (↑(Ap (Ai (Ae An) c&&&Ai (Ae An) d)):Int),e,())
def zBR:ElS [tU]->Option (RTy.El (.p .bool)):=fun x=>match x with|(a,())=>Sa (a !=a)
def kM:ElS [tU,tU]->Option (RTy.El (.p tI)):=fun x=>match x with|(a,c,())=>Aa (zBR (a,())) fun(e:Bool)=>Aa (zBR (c,())) fun(d:Bool)=>bif e then bif d then Sa (0:Int)else Sa (-1:Int)else bif d then Sa (1:Int)else bif decide (a<c)then Sa (-1:Int)else bif decide (a>c)then Sa (1:Int)else Sa (0:Int)
def zA6:ElS [tI]->Option (RTy.El (.p .bool)):=fun x=>match x with|(a,())=>Sa (a !=a)
def qH:ElS [tI,tI]->Option (RTy.El (.p tI)):=fun x=>match x with|(a,c,())=>Aa (zA6 (a,())) fun(e:Bool)=>Aa (zA6 (c,())) fun(d:Bool)=>bif e then bif d then Sa (0:Int)else Sa (-1:Int)else bif d then Sa (1:Int)else bif decide (a<c)then Sa (-1:Int)else bif decide (a>c)then Sa (1:Int)else Sa (0:Int)
def zFX:ElS [zD,zD]->Option (RTy.El (.p tI)):=fun x=>match x with|(a,c,())=>Aa (kM (a.1,c.1,())) fun(d:Int)=>bif d !=(0:Int)then Sa d else Aa (qH (a.2.1,c.2.1,())) fun(e:Int)=>Sa e
def z7:ElS [zC,zC]->Option (RTy.El (.p tI)):=fun x=>match x with|(a,c,())=>Aa (zFX (a.1,c.1,())) fun(d:Int)=>Sa d
def jT:List (Ty.El zC)->ElA [.d tI,.d tI,.clo 26 []]->Option (List (Ty.El zC)×RTy.El (.tu [])):=fun l x=>match x with|(m,B,(),())=>zS (fun(e:Int×List (Ty.El zC))=>bif decide (e.1<B)then Aa (zS (fun(a:Int×List (Ty.El zC))=>Aa (bif decide (a.1>m)then Aa (idx a.2 a.1) fun(n:Ty.El zC)=>Aa (atN a.2 (Ad a.1)) fun(g:Ty.El zC)=>Aa (idx a.2 (Ab .i64 (a.1- (1:Int)))) fun(p:Ty.El zC)=>Aa (atN a.2 (Ad (Ab .i64 (a.1- (1:Int))))) fun(h:Ty.El zC)=>Aa (z7 (g,h,())) fun(i:Int)=>Sa (decide (i< (0:Int)),a.2)else Sa (Sb,a.2)) fun(c:Bool×List (Ty.El zC))=>bif c.1 then Aa (idx c.2 (Ab .i64 (a.1- (1:Int)))) fun(q:Ty.El zC)=>Aa (atN c.2 (Ad (Ab .i64 (a.1- (1:Int))))) fun(f:Ty.El zC)=>Aa (idx c.2 a.1) fun(t:Ty.El zC)=>Aa (atN c.2 (Ad a.1)) fun(j:Ty.El zC)=>Aa (idx c.2 a.1) fun(u:Ty.El zC)=>Aa (atN c.2 (Ad a.1)) fun(y:Ty.El zC)=>Aa (idx (Al c.2 (Ad a.1) f) (Ab .i64 (a.1- (1:Int)))) fun(z:Ty.El zC)=>Aa (atN (Al c.2 (Ad a.1) f) (Ad (Ab .i64 (a.1- (1:Int))))) fun(A:Ty.El zC)=>Sa (Ag (Ab .i64 (a.1- (1:Int)),Al (Al c.2 (Ad a.1) f) (Ad (Ab .i64 (a.1- (1:Int)))) j))else Sa (Af c.2)) e) fun(k:List (Ty.El zC))=>Sa (Ag (Ab .i64 (e.1+(1:Int)),k))else Am (fun(r:List (Ty.El zC)×Unit)=>Af r) (bif Ak (Ac e.2) (Ac l)then Sa (e.2,())else Sd)) (Ab .i64 (m+(1:Int)),l)
def wO:List (Ty.El zC)->ElA [.d tI,.d tI,.d tI,.clo 26 []]->Option (List (Ty.El zC)×RTy.El (.tu [])):=fun h x=>match x with|(c,f,i,(),())=>zS (fun(a:Int×List (Ty.El zC))=>bif decide (a.1<i)then Aa (idx a.2 (Ab .i64 (f+a.1))) fun(j:Ty.El zC)=>Aa (atN a.2 (Ad (Ab .i64 (f+a.1)))) fun(e:Ty.El zC)=>Aa (idx a.2 (Ab .i64 (c+a.1))) fun(k:Ty.El zC)=>Aa (atN a.2 (Ad (Ab .i64 (c+a.1)))) fun(g:Ty.El zC)=>Aa (idx a.2 (Ab .i64 (c+a.1))) fun(l:Ty.El zC)=>Aa (atN a.2 (Ad (Ab .i64 (c+a.1)))) fun(m:Ty.El zC)=>Aa (idx (Al a.2 (Ad (Ab .i64 (c+a.1))) e) (Ab .i64 (f+a.1))) fun(n:Ty.El zC)=>Aa (atN (Al a.2 (Ad (Ab .i64 (c+a.1))) e) (Ad (Ab .i64 (f+a.1)))) fun(p:Ty.El zC)=>Sa (Ag (Ab .i64 (a.1+(1:Int)),Al (Al a.2 (Ad (Ab .i64 (c+a.1))) e) (Ad (Ab .i64 (f+a.1))) g))else Am (fun(r:List (Ty.El zC)×Unit)=>Af r) (bif Ak (Ac a.2) (Ac h)then Sa (a.2,())else Sd)) ((0:Int),h)
def yT:List (Ty.El zC)->ElA [.d tI,.d tI,.d tI,.clo 26 []]->Option (List (Ty.El zC)×RTy.El (.tu [])):=fun g x=>match x with|(h,c,i,(),())=>Aa (zS (fun(a:Int×Int×List (Ty.El zC))=>bif a.1 !=a.2.1 then bif decide (a.1>a.2.1)then bif Ak (Ac a.2.2) (Ac a.2.2)then Aa (wO a.2.2 (Ab .i64 (c-a.1),c,a.2.1,(),())) fun(j:List (Ty.El zC)×Unit)=>Sa (Ag (Ab .i64 (a.1-a.2.1),a.2.1,j.1))else Sd else bif Ak (Ac a.2.2) (Ac a.2.2)then Aa (wO a.2.2 (Ab .i64 (c-a.1),Ab .i64 (Ab .i64 (c+a.2.1) -a.1),a.1,(),())) fun(k:List (Ty.El zC)×Unit)=>Sa (Ag (a.1,Ab .i64 (a.2.1-a.1),k.1))else Sd else Sa (Af (a.2.2,a.1))) (Ab .i64 (c-h),Ab .i64 (i-c),g)) fun(e:List (Ty.El zC)×Int)=>bif Ak (Ac e.1) (Ac e.1)then Aa (wO e.1 (Ab .i64 (c-e.2),c,e.2,(),())) fun(f:List (Ty.El zC)×Unit)=>bif Ak (Ac f.1) (Ac g)then Sa (f.1,())else Sd else Sd
def zAq(a:List (Ty.El zC)->ElA [.d tI,.d tI,.d tI,.clo 26 []]->Option (List (Ty.El zC)×RTy.El (.tu []))):List (Ty.El zC)->ElA [.d tI,.d tI,.d tI,.clo 26 []]->Option (List (Ty.El zC)×RTy.El (.tu [])):=fun C x=>match x with|(j,k,m,(),())=>wB (bif Ab .i64 (k-j)==(1:Int)then Aa (zS (fun(h:Int×Int×List (Ty.El zC))=>bif decide (h.1<h.2.1)then Aa (idx h.2.2 (Ab .i64 (Aj (Ab .u64 (Ab .i64 (h.1+h.2.1))) ((2:Int)^min (Ad (1:Int)) (Ae Ah))))) fun(ax:Ty.El zC)=>Aa (atN h.2.2 (Ad (Ab .i64 (Aj (Ab .u64 (Ab .i64 (h.1+h.2.1))) ((2:Int)^min (Ad (1:Int)) (Ae Ah)))))) fun(P:Ty.El zC)=>Aa (idx h.2.2 j) fun(ay:Ty.El zC)=>Aa (atN h.2.2 (Ad j)) fun(Q:Ty.El zC)=>Aa (z7 (P,Q,())) fun(S:Int)=>bif decide (S< (0:Int))then Sa (Ag (Ab .i64 (Ab .i64 (Aj (Ab .u64 (Ab .i64 (h.1+h.2.1))) ((2:Int)^min (Ad (1:Int)) (Ae Ah)))+(1:Int)),h.2))else Sa (Ag (h.1,Ab .i64 (Aj (Ab .u64 (Ab .i64 (h.1+h.2.1))) ((2:Int)^min (Ad (1:Int)) (Ae Ah))),h.2.2))else Sa (Af (h.1,h.2.2))) (k,m,C)) fun(D:Int×List (Ty.El zC))=>zS (fun(g:Int×List (Ty.El zC))=>bif decide (g.1<Ab .i64 (D.1- (1:Int)))then Aa (idx g.2 (Ab .i64 (g.1+(1:Int)))) fun(a4:Ty.El zC)=>Aa (atN g.2 (Ad (Ab .i64 (g.1+(1:Int))))) fun(B:Ty.El zC)=>Aa (idx g.2 g.1) fun(a5:Ty.El zC)=>Aa (atN g.2 (Ad g.1)) fun(W:Ty.El zC)=>Aa (idx g.2 g.1) fun(a6:Ty.El zC)=>Aa (atN g.2 (Ad g.1)) fun(a9:Ty.El zC)=>Aa (idx (Al g.2 (Ad g.1) B) (Ab .i64 (g.1+(1:Int)))) fun(bb:Ty.El zC)=>Aa (atN (Al g.2 (Ad g.1) B) (Ad (Ab .i64 (g.1+(1:Int))))) fun(be:Ty.El zC)=>Sa (Ag (Ab .i64 (g.1+(1:Int)),Al (Al g.2 (Ad g.1) B) (Ad (Ab .i64 (g.1+(1:Int)))) W))else Am (fun(r:List (Ty.El zC) ⊕ List (Ty.El zC)×Unit)=>Af r) (Am (fun(r:List (Ty.El zC)×Unit)=>Af r) (bif Ak (Ac g.2) (Ac C)then Sa (g.2,())else Sd))) (j,D.2)else Sa (Ag C)) fun(E:List (Ty.El zC))=>wB (bif Ab .i64 (m-k)==(1:Int)then Aa (zS (fun(f:Int×Int×List (Ty.El zC))=>bif decide (f.1<f.2.1)then Aa (idx f.2.2 k) fun(Y:Ty.El zC)=>Aa (atN f.2.2 (Ad k)) fun(F:Ty.El zC)=>Aa (idx f.2.2 (Ab .i64 (Aj (Ab .u64 (Ab .i64 (f.1+f.2.1))) ((2:Int)^min (Ad (1:Int)) (Ae Ah))))) fun(Z:Ty.El zC)=>Aa (atN f.2.2 (Ad (Ab .i64 (Aj (Ab .u64 (Ab .i64 (f.1+f.2.1))) ((2:Int)^min (Ad (1:Int)) (Ae Ah)))))) fun(G:Ty.El zC)=>Aa (z7 (F,G,())) fun(H:Int)=>bif !decide (H< (0:Int))then Sa (Ag (Ab .i64 (Ab .i64 (Aj (Ab .u64 (Ab .i64 (f.1+f.2.1))) ((2:Int)^min (Ad (1:Int)) (Ae Ah)))+(1:Int)),f.2))else Sa (Ag (f.1,Ab .i64 (Aj (Ab .u64 (Ab .i64 (f.1+f.2.1))) ((2:Int)^min (Ad (1:Int)) (Ae Ah))),f.2.2))else Sa (Af (f.1,f.2.2))) (j,k,E)) fun(t:Int×List (Ty.El zC))=>zS (fun(c:Int×List (Ty.El zC))=>bif decide (c.1>t.1)then Aa (idx c.2 (Ab .i64 (c.1- (1:Int)))) fun(ab:Ty.El zC)=>Aa (atN c.2 (Ad (Ab .i64 (c.1- (1:Int))))) fun(q:Ty.El zC)=>Aa (idx c.2 c.1) fun(ad:Ty.El zC)=>Aa (atN c.2 (Ad c.1)) fun(I:Ty.El zC)=>Aa (idx c.2 c.1) fun(ag:Ty.El zC)=>Aa (atN c.2 (Ad c.1)) fun(al:Ty.El zC)=>Aa (idx (Al c.2 (Ad c.1) q) (Ab .i64 (c.1- (1:Int)))) fun(an:Ty.El zC)=>Aa (atN (Al c.2 (Ad c.1) q) (Ad (Ab .i64 (c.1- (1:Int))))) fun(ao:Ty.El zC)=>Sa (Ag (Ab .i64 (c.1- (1:Int)),Al (Al c.2 (Ad c.1) q) (Ad (Ab .i64 (c.1- (1:Int)))) I))else Am (fun(r:List (Ty.El zC) ⊕ List (Ty.El zC)×Unit)=>Af r) (Am (fun(r:List (Ty.El zC)×Unit)=>Af r) (bif Ak (Ac c.2) (Ac C)then Sa (c.2,())else Sd))) (k,t.2)else Sa (Ag E)) fun(u:List (Ty.El zC))=>Aa (bif decide (k>Ab .i64 (Aj (Ab .u64 (Ab .i64 (j+m))) ((2:Int)^min (Ad (1:Int)) (Ae Ah))))then Sa (Ab .i64 (Ab .i64 (Ab .i64 (Aj (Ab .u64 (Ab .i64 (j+m))) ((2:Int)^min (Ad (1:Int)) (Ae Ah)))+k) -m),Ab .i64 (Aj (Ab .u64 (Ab .i64 (j+m))) ((2:Int)^min (Ad (1:Int)) (Ae Ah))),u)else Sa (j,k,u)) fun(J:Int×Int×List (Ty.El zC))=>Aa (zS (fun(e:Int×Int×List (Ty.El zC))=>bif decide (e.1<e.2.1)then Aa (idx e.2.2 (Ab .i64 (Ab .i64 (Ab .i64 (Ab .i64 (Aj (Ab .u64 (Ab .i64 (j+m))) ((2:Int)^min (Ad (1:Int)) (Ae Ah)))+k) - (1:Int)) -Ab .i64 (Aj (Ab .u64 (Ab .i64 (e.1+e.2.1))) ((2:Int)^min (Ad (1:Int)) (Ae Ah)))))) fun(ap:Ty.El zC)=>Aa (atN e.2.2 (Ad (Ab .i64 (Ab .i64 (Ab .i64 (Ab .i64 (Aj (Ab .u64 (Ab .i64 (j+m))) ((2:Int)^min (Ad (1:Int)) (Ae Ah)))+k) - (1:Int)) -Ab .i64 (Aj (Ab .u64 (Ab .i64 (e.1+e.2.1))) ((2:Int)^min (Ad (1:Int)) (Ae Ah))))))) fun(K:Ty.El zC)=>Aa (idx e.2.2 (Ab .i64 (Aj (Ab .u64 (Ab .i64 (e.1+e.2.1))) ((2:Int)^min (Ad (1:Int)) (Ae Ah))))) fun(av:Ty.El zC)=>Aa (atN e.2.2 (Ad (Ab .i64 (Aj (Ab .u64 (Ab .i64 (e.1+e.2.1))) ((2:Int)^min (Ad (1:Int)) (Ae Ah)))))) fun(L:Ty.El zC)=>Aa (z7 (K,L,())) fun(M:Int)=>bif !decide (M< (0:Int))then Sa (Ag (Ab .i64 (Ab .i64 (Aj (Ab .u64 (Ab .i64 (e.1+e.2.1))) ((2:Int)^min (Ad (1:Int)) (Ae Ah)))+(1:Int)),e.2))else Sa (Ag (e.1,Ab .i64 (Aj (Ab .u64 (Ab .i64 (e.1+e.2.1))) ((2:Int)^min (Ad (1:Int)) (Ae Ah))),e.2.2))else Sa (Af (e.1,e.2.2))) J) fun(i:Int×List (Ty.El zC))=>Aa (Aa (bif decide (i.1<k)then Sa (decide (k<Ab .i64 (Ab .i64 (Ab .i64 (Aj (Ab .u64 (Ab .i64 (j+m))) ((2:Int)^min (Ad (1:Int)) (Ae Ah)))+k) -i.1)),i.2)else Sa (Sb,i.2)) fun(n:Bool×List (Ty.El zC))=>bif n.1 then bif Ak (Ac n.2) (Ac n.2)then Aa (yT n.2 (i.1,k,Ab .i64 (Ab .i64 (Ab .i64 (Aj (Ab .u64 (Ab .i64 (j+m))) ((2:Int)^min (Ad (1:Int)) (Ae Ah)))+k) -i.1),(),())) fun(N:List (Ty.El zC)×Unit)=>Sa N.1 else Sd else Sa n.2) fun(y:List (Ty.El zC))=>Aa (Aa (bif decide (j<i.1)then Sa (decide (i.1<Ab .i64 (Aj (Ab .u64 (Ab .i64 (j+m))) ((2:Int)^min (Ad (1:Int)) (Ae Ah)))),y)else Sa (Sb,y)) fun(p:Bool×List (Ty.El zC))=>bif p.1 then bif Ak (Ac p.2) (Ac p.2)then Aa (a p.2 (j,i.1,Ab .i64 (Aj (Ab .u64 (Ab .i64 (j+m))) ((2:Int)^min (Ad (1:Int)) (Ae Ah))),(),())) fun(O:List (Ty.El zC)×Unit)=>Sa O.1 else Sd else Sa p.2) fun(z:List (Ty.El zC))=>Aa (bif decide (Ab .i64 (Aj (Ab .u64 (Ab .i64 (j+m))) ((2:Int)^min (Ad (1:Int)) (Ae Ah)))<Ab .i64 (Ab .i64 (Ab .i64 (Aj (Ab .u64 (Ab .i64 (j+m))) ((2:Int)^min (Ad (1:Int)) (Ae Ah)))+k) -i.1))then Sa (decide (Ab .i64 (Ab .i64 (Ab .i64 (Aj (Ab .u64 (Ab .i64 (j+m))) ((2:Int)^min (Ad (1:Int)) (Ae Ah)))+k) -i.1)<m),z)else Sa (Sb,z)) fun(l:Bool×List (Ty.El zC))=>bif l.1 then bif Ak (Ac l.2) (Ac l.2)then Aa (a l.2 (Ab .i64 (Aj (Ab .u64 (Ab .i64 (j+m))) ((2:Int)^min (Ad (1:Int)) (Ae Ah))),Ab .i64 (Ab .i64 (Ab .i64 (Aj (Ab .u64 (Ab .i64 (j+m))) ((2:Int)^min (Ad (1:Int)) (Ae Ah)))+k) -i.1),m,(),())) fun(A:List (Ty.El zC)×Unit)=>bif Ak (Ac A.1) (Ac C)then Sa (A.1,())else Sd else Sd else bif Ak (Ac l.2) (Ac C)then Sa (l.2,())else Sd
def jL:Nat->(List (Ty.El zC)->ElA [.d tI,.d tI,.d tI,.clo 26 []]->Option (List (Ty.El zC)×RTy.El (.tu [])))|0=>fun _ _=>Sd|n+1=>zAq (jL n)
def vE:List (Ty.El zC)->ElA [.d tI,.d tI,.d tI,.clo 26 []]->Option (List (Ty.El zC)×RTy.El (.tu [])):=jL 1048576
def vU:List (Ty.El zC)->ElA [.d tI,.clo 26 []]->Option (List (Ty.El zC)×RTy.El (.tu [])):=fun l x=>match x with|(g,(),())=>Aa (zS (fun(f:Int×List (Ty.El zC)×Int)=>bif decide (f.1<=g)then bif Ak (Ac f.2.1) (Ac f.2.1)then Aa (jT f.2.1 (f.2.2,f.1,(),())) fun(m:List (Ty.El zC)×Unit)=>Sa (Ag (Ab .i64 (f.1+(20:Int)),m.1,f.1))else Sd else Sa (Af f.2)) ((20:Int),l,(0:Int))) fun(h:List (Ty.El zC)×Int)=>bif Ak (Ac h.1) (Ac h.1)then Aa (jT h.1 (h.2,g,(),())) fun(n:List (Ty.El zC)×Unit)=>zS (fun(c:Int×List (Ty.El zC))=>bif decide (c.1<g)then Aa (zS (fun(a:Int×List (Ty.El zC)×Int)=>bif decide (a.1<=g)then bif Ak (Ac a.2.1) (Ac a.2.1)then Aa (vE a.2.1 (a.2.2,Ab .i64 (a.2.2+c.1),a.1,(),())) fun(i:List (Ty.El zC)×Unit)=>Sa (Ag (Ab .i64 (a.1+Ab .i64 ((2:Int)*c.1)),i.1,a.1))else Sd else Sa (Af (a.2.2,a.2.1))) (Ab .i64 ((2:Int)*c.1),c.2,(0:Int))) fun(e:Int×List (Ty.El zC))=>Aa (bif decide (Ab .i64 (e.1+c.1)<g)then bif Ak (Ac e.2) (Ac e.2)then Aa (vE e.2 (e.1,Ab .i64 (e.1+c.1),g,(),())) fun(j:List (Ty.El zC)×Unit)=>Sa j.1 else Sd else Sa e.2) fun(k:List (Ty.El zC))=>Sa (Ag (Ab .i64 (c.1*(2:Int)),k))else Am (fun(r:List (Ty.El zC)×Unit)=>Af r) (bif Ak (Ac c.2) (Ac l)then Sa (c.2,())else Sd)) ((20:Int),n.1)else Sd
def vL:List (Ty.El zC)->ElA [.clo 26 []]->Option (List (Ty.El zC)×RTy.El (.tu [])):=fun a x=>match x with|((),())=>bif Ak (Ac a) (Ac a)&&Ak (Ac a) (Ac a)then Aa (vU a ((↑(Ac a):Int),(),())) fun(c:List (Ty.El zC)×Unit)=>bif Ak (Ac c.1) (Ac a)then Sa (c.1,())else Sd else Sd
def zBK:ElS [zH,tI,tI]->Option (RTy.El (.p tI)):=fun x=>match x with|(e,h,i,())=>wB (zS (fun(a:Int)=>bif decide (a< (↑(Ac e.2.1.1):Int))then wB (zS (fun(c:Int)=>Aa (idx e.2.1.1 a) fun(f:Ty.El yF)=>bif decide (c< (↑(Ac f.2.2.1):Int))then Aa (idx e.2.1.1 a) fun(g:Ty.El yF)=>Aa (idx g.2.2.1 c) fun(d:Ty.El zR)=>bif d.1==h&&(d.2.1==i&&Sc)then Sa (Af (Af (Af (Af a))))else Sa (Ag (Ab .i64 (c+(1:Int))))else Sa (Af (Ag ()))) (0:Int)) fun(j:Unit)=>Sa (Ag (Ab .i64 (a+(1:Int))))else Sa (Af (Ag ()))) (0:Int)) fun(k:Unit)=>Sa (-1:Int)
def zIF:ElS [zH,tI,tI]->Option (RTy.El (.p tI)):=fun x=>match x with|(c,f,g,())=>Aa (zBK (c,f,g,())) fun(e:Int)=>wB (zS (fun(a:Int)=>bif decide (a< (↑(Ac c.2.1.2.1):Int))then Aa (bif decide (e>=(0:Int))then Aa (idx c.2.1.2.1 a) fun(h:Int)=>Sa (h==e)else Sa Sb) fun(d:Bool)=>bif d then Sa (Af (Af a))else Sa (Ag (Ab .i64 (a+(1:Int))))else Sa (Af (Ag ()))) (0:Int)) fun(i:Unit)=>Sa (-1:Int)
def zJ5:ElS [zH,tI,tI]->Option (RTy.El (.p .bool)):=fun x=>match x with|(a,d,e,())=>Aa (zBK (a,d,e,())) fun(f:Int)=>bif decide (f< (0:Int))then Sa Sb else Aa (zIF (a,d,e,())) fun(g:Int)=>wB (zS (fun(c:Int)=>bif decide (c< (↑(Ac a.2.2.1):Int))then Aa (idx a.2.2.1 c) fun(h:Int)=>bif h==g then Sa (Af (Af Sb))else Sa (Ag (Ab .i64 (c+(1:Int))))else Sa (Af (Ag ()))) (0:Int)) fun(i:Unit)=>Sa Sc
def zAo:ElS [zH,tI,tI]->Option (RTy.El (.p (.sl zR))):=fun x=>match x with|(f,g,h,())=>Aa (zGU (f,g,h,())) fun(m:Bool)=>bif !m then Sa []else Aa (Aa (zAG (f,g,h,())) fun(i:Int)=>Aa (idx f.2.1.1 i) fun(e:Ty.El yF)=>zS (fun(a:Int×List (Ty.El zR))=>bif decide (a.1< (↑(Ac e.2.2.1):Int))then Aa (Aa (idx e.2.2.1 a.1) fun(c:Ty.El zR)=>Aa (bif c.1 !=g then Sa (Sc,a.2)else Sa (c.2.1 !=h,a.2)) fun(d:Bool×List (Ty.El zR))=>bif d.1 then Aa (app (16:Nat) d.2 [c]) fun(j:List (Ty.El zR))=>Sa j else Sa d.2) fun(k:List (Ty.El zR))=>Sa (Ag (Ab .i64 (a.1+(1:Int)),k))else Sa (Af a.2)) ((0:Int),[])) fun(l:List (Ty.El zR))=>Sa l
def zCS:ElS [zD,zD]->Option (RTy.El (.p .bool)):=fun x=>match x with|(a,c,())=>Aa (bif decide (a.2.1<=c.2.1)then Aa (zCf (a,c.1,())) fun(d:Bool)=>Sa d else Sa Sb) fun(e:Bool)=>Sa e
def zCl:ElS [zH,tI,tI]->Option (RTy.El (.p (.sl zR))):=fun x=>match x with|(c,d,k,())=>Aa (zJ5 (c,d,k,())) fun(l:Bool)=>bif !l then Sa []else Aa (zBK (c,d,k,())) fun(m:Int)=>Aa (idx c.2.1.1 m) fun(e:Ty.El yF)=>Aa (zS (fun(a:Int×List (Ty.El zR))=>bif decide (a.1< (↑(Ac e.2.2.1):Int))then Aa (Aa (idx e.2.2.1 a.1) fun(f:Ty.El zR)=>bif f.1 !=d then Aa (idx e.2.2.1 a.1) fun(g:Ty.El zR)=>Aa (app (16:Nat) a.2 [g]) fun(h:List (Ty.El zR))=>Sa h else Sa a.2) fun(i:List (Ty.El zR))=>Sa (Ag (Ab .i64 (a.1+(1:Int)),i))else Sa (Af a.2)) ((0:Int),[])) fun(j:List (Ty.El zR))=>Sa j
def zGh:ElS [zH,zR]->Option (RTy.El (.p zZ)):=fun x=>match x with|(c,a,())=>Aa (idx c.1.1 a.1) fun(d:Ty.El zG)=>Aa (idx d.2.2.1 a.2.1) fun(e:Ty.El zZ)=>Sa e
def zED:ElS [zH,tI,tI,tU]->Option (RTy.El (.tu [zR,.bool])):=fun x=>match x with|(g,h,i,j,())=>Aa (zCl (g,h,i,())) fun(c:List (Ty.El zR))=>wB (zS (fun(a:Int×Ty.El zR)=>bif decide (a.1< (↑(Ac c):Int))then Aa (idx c a.1) fun(d:Ty.El zR)=>Aa (zGh (g,d,())) fun(e:ByteArray×Int×Int×Int×Bool×Bool×Int×Int×Bool×ByteArray×ByteArray×Int×Unit)=>bif e.2.1==j then Aa (idx c a.1) fun(f:Ty.El zR)=>Sa (Af (Af (f,Sc,())))else Sa (Ag (Ab .i64 (a.1+(1:Int)),a.2))else Sa (Af (Ag a.2))) ((0:Int),(0:Int),(0:Int),())) fun(k:Ty.El zR)=>Sa (((0:Int),(0:Int),()),Sb,())
def zBG:ElS [(.sl tI)]->Option (RTy.El (.p (.sl tI))):=fun x=>match x with|(a,())=>Aa (app (8:Nat) [] a) fun(z:List (Ty.El tI))=>Sa z
def uU:ElS [(.sl zP)]->Option (RTy.El (.p (.sl zP))):=fun x=>match x with|(a,())=>Aa (app (16:Nat) [] a) fun(z:List (Ty.El zP))=>Sa z
end
end Go.Ve
namespace Go.Ve
open Go
variable {i:Type}
theorem jS{m:Option i}{x:i}(h:Wp m (fun r=>r=x)):m=Sa x:=by obtain⟨r,a,rfl⟩:=h;exact a
variable {P J:Ty.El zD}
theorem zJ8(h:(P.1==J.1&&(P.2.1==J.2.1&&Sc))=Sc):P=J:=by
 grind
def zHX(a b c d:Int):Prop:=a<c\/(a=c/\b<d)
def plt(p q:Ty.El zD):Prop:=zHX p.1 p.2.1 q.1 q.2.1
theorem zK0:Ord plt where
 asym:=fun x y h=>by grind[plt,zHX]
 tr:=fun x y z a c=>by grind[plt,zHX]
variable {g C a1 a3:Int}
theorem qBi(h:¬zHX a1 a3 g C)(e:¬(g=a1/\C=a3)):zHX g C a1 a3:=by
 grind[zHX]
theorem zZE(h:¬plt J P)(a:P≠J):plt P J:=by
 refine qBi h (fun e=>a ?_)
 grind
def zOD(a b c d:Int):Int:=if a<c then-1 else if c<a then 1 else if b<d then-1 else if d<b then 1 else 0
def qGw(p q:Ty.El zD):Int:=zOD p.1 p.2.1 q.1 q.2.1
theorem zWv:zOD g C a1 a3<0↔zHX g C a1 a3:=by
 grind[zOD,zHX]
theorem zOC:qGw P J<0↔plt P J:=zWv
theorem zRS(a b:Int):kM (a,b,())=Sa (if a<b then-1 else if b<a then 1 else 0):=by refine jS ?_;unfold kM zBR;simp only[af,bne_self_eq_false,cond_false];refine zO (fun h=>zA ?_) (fun h=>zO (fun c=>zA ?_) (fun c=>zA ?_));all_goals grind
theorem zCs(a b:Int):qH (a,b,())=Sa (if a<b then-1 else if b<a then 1 else 0):=by refine jS ?_;unfold qH zA6;simp only[af,bne_self_eq_false,cond_false];refine zO (fun h=>zA ?_) (fun h=>zO (fun c=>zA ?_) (fun c=>zA ?_));all_goals grind
theorem qBC{a b c d:Int}:(if((if a<c then(-1:Int)else if c<a then 1 else 0) !=0)=Sc then(if a<c then(-1:Int)else if c<a then 1 else 0)else(if b<d then(-1:Int)else if d<b then 1 else 0))=zOD a b c d:=by
 grind[zOD]
theorem zND(p q:Ty.El zD):zFX (p,q,())=Sa (qGw p q):=by
 refine jS ?_;unfold zFX;dsimp only;refine zB (zK (zRS _ _) (zF (fun h=>zA ?_) (fun h=>zB (zK (zCs _ _) (zA ?_)))))
 .have:=qBC (a:=p.1) (b:=p.2.1) (c:=q.1) (d:=q.2.1);rw[if_pos h]at this;exact this
 .have:=qBC (a:=p.1) (b:=p.2.1) (c:=q.1) (d:=q.2.1);rw[if_neg (by rw[h];simp)]at this;exact this
theorem qHA(h:zHX g C a1 a3): -1=zOD g C a1 a3:=by unfold zOD;unfold zHX at h;omega
theorem qHy:0=zOD g C g C:=by simp_all[zOD]
theorem qHz(h:¬zHX g C a1 a3)(e:¬(g=a1/\C=a3)):1=zOD g C a1 a3:=by unfold zOD;unfold zHX at h;omega
theorem zGZ(p q:Ty.El zD):xR (p,q,())=Sa (qGw p q):=by
 refine jS ?_;unfold xR;dsimp only;refine zB ((show Wp _ (fun s:Bool=>s=Sc↔plt p q)from ?_).mono (fun s d=>?_))
 .refine zO (fun h=>zA ⟨fun _=>.inl h,fun _=>rfl⟩) (fun h=>zF (fun c=>zA ?_) (fun c=>zA ?_))
  .have c:p.1=q.1:=by simpa using c
   rw[decide_eq_true_eq];constructor
   .intro a;exact .inr ⟨c,a⟩
   .intro a;rcases a with a|a;all_goals grind
  .have c:¬p.1=q.1:=by simpa using c
   constructor
   .grind
   .intro a;exfalso;rcases a with a|a;all_goals grind
 .refine zF (fun h=>zA (qHA (d.1 h))) (fun h=>zF (fun e=>zA ?_) (fun e=>zA (qHz ?_ ?_)))
  .have:=zJ8 e;subst this;exact qHy
  .exact fun f=>by rw[d.2 f]at h;cases h
  grind
def zFx(p:Ty.El zD)(v:Int)(a:Ty.El zD)(c:Int):Prop:=plt p a\/(p=a/\v<c)
theorem zX2{r:Ty.El zD}(c:zFx P g J C)(a:zFx J C r a1):zFx P g r a1:=by
 rcases c with c|⟨rfl,c⟩
 .rcases a with a|⟨rfl,a⟩
  .exact .inl (by grind[plt,zHX])
  .exact .inl c
 .rcases a with a|⟨rfl,a⟩
  .exact .inl a
  .exact .inr ⟨rfl,by omega⟩
theorem qEo(h:¬zFx P g J C)(d:¬(P=J/\g=C)):zFx J C P g:=by
 by_cases c:P=J
 .subst c;refine .inr ⟨rfl,?_⟩;have e:¬g<C:=fun a=>h (.inr ⟨rfl,a⟩)
  grind
 .exact .inl (zZE (fun a=>h (.inl a)) (fun a=>c a.symm))
variable {a0:List i}
theorem xG{y:i}(h:a0[g.toNat]?=Sa y)(a:0<=g:=by omega):idx a0 g=Sa y:=by rw[idx,if_pos a];exact h
theorem qZ{Q:i->Prop}{B:i->Prop}(a:∀y,y∈a0->B y)(c:0<=g)(d:g<a0.length)(h:∀y,a0[g.toNat]?=Sa y->B y->Q y):Wp (idx a0 g) Q:=
 zAk c d (fun y e f=>h y f (a y e))
structure SmR(r:Ty.El zG):Prop where
 i1:Ac r.2.2.1<=20
 i2:Ac r.2.2.2.1<=20
 i3:Ac r.2.2.2.2.1<=20
 i4:Ac r.2.2.2.2.2.1<=20
 i5:Ac r.2.2.2.2.2.2.1<=20
 i6:Ac r.2.2.2.2.2.2.2.1<=20
 i7:Ac r.2.2.2.2.2.2.2.2.1.2.2.1<=20
 i8:Ac r.2.2.2.2.2.2.2.2.1.2.2.2.1<=20
 i9:Ac r.2.2.2.2.2.2.2.2.2.1.2.2.2.2.1<=20
 i10:Ac r.2.2.2.2.2.2.2.2.2.2.1.2.2.2.1<=20
 i11:Ac r.2.2.2.2.2.2.2.2.2.2.1.2.2.2.2.1<=20
 i12:Ac r.2.2.2.2.2.2.2.2.2.2.1.2.2.2.2.2.1<=20
 i13:Ac r.2.2.2.2.2.2.2.2.2.2.1.2.2.2.2.2.2.1<=20
 i14:Ac r.2.2.2.2.2.2.2.2.2.2.1.2.2.2.2.2.2.2.1<=20
 n1:∀y,y∈r.2.2.2.1->Ac y.2.1<=20
 n2:∀y,y∈r.2.2.2.2.1->Ac y.2.1<=20
 n3:∀y,y∈r.2.2.2.2.2.1->Ac y.2.1<=20
structure qIl(r:Ty.El tPV):Prop where
 i10:Ac r.2.2.2.1<=20
 i11:Ac r.2.2.2.2.1<=20
 i12:Ac r.2.2.2.2.2.1<=20
 i13:Ac r.2.2.2.2.2.2.1<=20
 i14:Ac r.2.2.2.2.2.2.2.1<=20
theorem zHp(a1:Int):Wp (zCJ (a1,())) (fun _=>True):=by
 unfold zCJ;refine zB ?_;refine qFv (fun _ _=>True) trivial (fun s g a c _=>?_) (fun s g _ _ _=>zA (e2r (zA trivial)));refine zB ?_;refine zO (fun _=>?_) (fun _=>?_)
 .refine zO (fun _=>?_) (fun d=>?_)
  .exact zA (zA (e2l ⟨zI (by simp only;omega) (by simp only;omega),trivial⟩))
  grind[zI,zNj]
 .exact zA (zA (e2l ⟨zI (by simp only;omega) (by simp only;omega),trivial⟩))
theorem zQH(a1:Ty.El (.int .u8)):Wp (zEB (a1,())) (fun _=>True):=by
 unfold zEB;try dsimp only
 repeat' (first
  |with_reducible exact trivial
  |assumption
  |contradiction
  |with_reducible first|refine zA ?_|refine zO (fun _=>?_) (fun _=>?_)|refine zF (fun _=>?_) (fun _=>?_)|refine zB ?_
  |omega)
theorem x5(a1:Ty.El (.str)):Wp (zCI (a1,())) (fun _=>True):=by
 unfold zCI;try dsimp only
 repeat' (first
  |with_reducible exact trivial
  |assumption
  |contradiction
  |with_reducible first|refine zA ?_|refine(zQH _).mono (fun r _=>?_)|refine qBM ?_ ?_ (fun y _ _=>?_)|refine zAh (fun _=>?_) (fun _=>?_)|refine zO (fun _=>?_) (fun _=>?_)|refine zF (fun _=>?_) (fun _=>?_)|refine jU ?_|refine zAl (fun s _ _=>?_) (fun s _ _=>?_)|refine zB ?_|refine e2l ?_|refine e2r ?_
  |exact zI (by omega) (by omega)
  |omega
  |(simp only[aH,aP]at*;exact zI (by omega) (by omega)))
theorem vD(a1:Ty.El (tI))(a:Ty.El (tI))(c:Ty.El (tI)):Wp (qB (a1,a,c,())) (fun _=>True):=by simp_all[zA,zF,qB]
theorem zHO(a1:Ty.El (tU))(a:Ty.El (tI)):Wp (uF (a1,a,())) (fun _=>True):=by
 unfold uF;try dsimp only
 repeat' (first
  |with_reducible exact trivial
  |assumption
  |contradiction
  |with_reducible first|refine zA ?_|refine(zHp _).mono (fun r _=>?_)|refine zB ?_
  |exact zI (by omega) (by omega)
  |omega
  |(simp only[aH,aP]at*;exact zI (by omega) (by omega)))
theorem zNs(a1:Ty.El (zD))(a:Ty.El (tU)):Wp (zA4 (a1,a,())) (fun _=>True):=by
 unfold zA4;try dsimp only
 repeat' (first
  |with_reducible exact trivial
  |assumption
  |contradiction
  |with_reducible first|refine zA ?_|refine(zHp _).mono (fun r _=>?_)|refine zB ?_
  |exact zI (by omega) (by omega)
  |omega
  |(simp only[aH,aP]at*;exact zI (by omega) (by omega)))
theorem zQI(a1:Ty.El (zD))(a:Ty.El (zD)):Wp (zBo (a1,a,())) (fun _=>True):=by
 unfold zBo;try dsimp only
 repeat' (first
  |with_reducible exact trivial
  |assumption
  |contradiction
  |with_reducible first|refine zA ?_|refine(zNs _ _).mono (fun r _=>?_)|refine zO (fun _=>?_) (fun _=>?_)|refine zF (fun _=>?_) (fun _=>?_)|refine zB ?_
  |omega)
theorem zGT(a1:Ty.El (zD))(a:Ty.El (zD)):Wp (x9 (a1,a,())) (fun _=>True):=by
 unfold x9;try dsimp only
 repeat' (first
  |with_reducible exact trivial
  |assumption
  |contradiction
  |with_reducible first|refine zA ?_|refine(zQI _ _).mono (fun r _=>?_)|refine zF (fun _=>?_) (fun _=>?_)|refine zB ?_
  |omega)
theorem zLh(a1:Ty.El (.sl zZ))(a:Ac a1<=20):Wp (xJ (a1,())) (fun _=>True):=by
 unfold xJ;try dsimp only
 repeat' (first
  |with_reducible exact trivial
  |assumption
  |contradiction
  |with_reducible first|refine zA ?_|refine(x5 _).mono (fun r _=>?_)|refine(vD _ _ _).mono (fun r _=>?_)|refine(zHO _ _).mono (fun r _=>?_)|refine(zGT _ _).mono (fun r _=>?_)|refine zAk ?_ ?_ (fun y _ _=>?_)|refine zAh (fun _=>?_) (fun _=>?_)|refine zO (fun _=>?_) (fun _=>?_)|refine zF (fun _=>?_) (fun _=>?_)|refine jU ?_|refine zAl (fun s _ _=>?_) (fun s _ _=>?_)
  |simp only[xG ‹_[_]?=Sa _›,af]
  |with_reducible first|refine zB ?_|refine e2l ?_|refine e2r ?_
  |exact zI (by omega) (by omega)
  |omega
  |(simp only[aH,aP]at*;exact zI (by omega) (by omega)))
theorem zC3(a1:Ty.El (zD)):Wp (uE (a1,())) (fun _=>True):=by
 unfold uE;try dsimp only
 repeat' (first
  |with_reducible exact trivial
  |assumption
  |contradiction
  |with_reducible first|refine zA ?_|refine(zHp _).mono (fun r _=>?_)|refine zO (fun _=>?_) (fun _=>?_)|refine zF (fun _=>?_) (fun _=>?_)|refine zB ?_
  |exact zI (by omega) (by omega)
  |omega
  |(simp only[aH,aP]at*;exact zI (by omega) (by omega)))
theorem zHo(a1:Ty.El (zRL)):Wp (xQ (a1,())) (fun _=>True):=by
 unfold xQ;try dsimp only
 repeat' (first
  |with_reducible exact trivial
  |assumption
  |contradiction
  |with_reducible first|refine zA ?_|refine(zC3 _).mono (fun r _=>?_)|refine zO (fun _=>?_) (fun _=>?_)|refine zF (fun _=>?_) (fun _=>?_)|refine zB ?_
  |omega)
theorem zEz(a1:Ty.El (.sl zEb))(c:Ac a1<=20)(a:∀y,y∈a1->Ac y.2.1<=20):Wp (zAr (a1,())) (fun _=>True):=by
 unfold zAr;try dsimp only
 repeat' (first
  |with_reducible exact trivial
  |assumption
  |contradiction
  |with_reducible first|refine zA ?_|refine(x5 _).mono (fun r _=>?_)|refine(zHo _).mono (fun r _=>?_)|refine qZ a ?_ ?_ (fun y _ _=>?_)|refine zAk ?_ ?_ (fun y _ _=>?_)|refine zAh (fun _=>?_) (fun _=>?_)|refine zO (fun _=>?_) (fun _=>?_)|refine zF (fun _=>?_) (fun _=>?_)|refine jU ?_|refine zAl (fun s _ _=>?_) (fun s _ _=>?_)
  |simp only[xG ‹_[_]?=Sa _›,af]
  |with_reducible first|refine zB ?_|refine e2l ?_|refine e2r ?_
  |exact zI (by omega) (by omega)
  |omega
  |(simp only[aH,aP]at*;exact zI (by omega) (by omega)))
theorem zFr(a1:Ty.El (zG))(h:Ty.El (.str))(i:SmR a1):Wp (u9 (a1,h,())) (fun(r:Int)=> -1<=r/\r< (Ac a1.2.2.2.1:Int)):=by
 have a:=i;obtain⟨m,n,p,q,t,u,x,i8,z,c,d,e,f,g,j,k,l⟩:=a;unfold u9;try dsimp only
 repeat' (first
  |with_reducible exact trivial
  |exact⟨c,d,e,f,g⟩
  |assumption
  |contradiction
  |with_reducible first|refine zA ?_|refine qZ j ?_ ?_ (fun y _ _=>?_)|refine qZ k ?_ ?_ (fun y _ _=>?_)|refine qZ l ?_ ?_ (fun y _ _=>?_)|refine zAk ?_ ?_ (fun y _ _=>?_)|refine zO (fun _=>?_) (fun _=>?_)|refine zF (fun _=>?_) (fun _=>?_)|refine jU ?_|refine zAl (fun s _ _=>?_) (fun s _ _=>?_)
  |simp only[xG ‹_[_]?=Sa _›,af]
  |with_reducible first|refine zB ?_|refine e2l ?_|refine e2r ?_
  |exact zI (by omega) (by omega)
  |omega
  |(simp only[aH,aP]at*;exact zI (by omega) (by omega))
  |exact⟨by omega,by omega⟩)
theorem zF6(a1:Ty.El (zG))(h:SmR a1):Wp (zBn (a1,())) (fun _=>True):=by
 have a:=h;obtain⟨l,m,n,p,q,t,u,i8,x,c,d,e,f,g,i,j,k⟩:=a;unfold zBn;try dsimp only
 repeat' (first
  |with_reducible exact trivial
  |exact⟨c,d,e,f,g⟩
  |assumption
  |contradiction
  |with_reducible first|refine zA ?_|refine(x5 _).mono (fun r _=>?_)|refine(zFr _ _ ?_).mono (fun r _=>?_)|refine(vD _ _ _).mono (fun r _=>?_)|refine qZ i ?_ ?_ (fun y _ _=>?_)|refine qZ j ?_ ?_ (fun y _ _=>?_)|refine qZ k ?_ ?_ (fun y _ _=>?_)|refine zAk ?_ ?_ (fun y _ _=>?_)|refine zAh (fun _=>?_) (fun _=>?_)|refine zO (fun _=>?_) (fun _=>?_)|refine zF (fun _=>?_) (fun _=>?_)|refine jU ?_|refine zAl (fun s _ _=>?_) (fun s _ _=>?_)
  |simp only[xG ‹_[_]?=Sa _›,af]
  |with_reducible first|refine zB ?_|refine e2l ?_|refine e2r ?_
  |exact zI (by omega) (by omega)
  |omega
  |(simp only[aH,aP]at*;exact zI (by omega) (by omega)))
theorem zRG(a1:Ty.El (zR)):Wp (zGf (a1,())) (fun _=>True):=by
 unfold zGf;try dsimp only
 repeat' (first
  |with_reducible exact trivial
  |assumption
  |contradiction
  |with_reducible first|refine zA ?_|refine zO (fun _=>?_) (fun _=>?_)|refine zF (fun _=>?_) (fun _=>?_)|refine zB ?_
  |omega)
theorem zVv(a1:Ty.El (zR)):Wp (zJ4 (a1,())) (fun _=>True):=by simp_all[zA,zJ4]
theorem zMc(a1:Ty.El (zW0)):Wp (zDg (a1,())) (fun _=>True):=by
 unfold zDg;try dsimp only
 repeat' (first
  |with_reducible exact trivial
  |assumption
  |contradiction
  |with_reducible first|refine zA ?_|refine(vD _ _ _).mono (fun r _=>?_)|refine(zRG _).mono (fun r _=>?_)|refine(zVv _).mono (fun r _=>?_)|refine zAh (fun _=>?_) (fun _=>?_)|refine zF (fun _=>?_) (fun _=>?_)|refine zB ?_
  |exact zI (by omega) (by omega)
  |omega
  |(simp only[aH,aP]at*;exact zI (by omega) (by omega)))
theorem zEA(a1:Ty.El (.sl zOZ))(c:Ac a1<=20)(a:∀y,y∈a1->Ac y.2.1<=20):Wp (zAs (a1,())) (fun _=>True):=by
 unfold zAs;try dsimp only
 repeat' (first
  |with_reducible exact trivial
  |assumption
  |contradiction
  |with_reducible first|refine zA ?_|refine(x5 _).mono (fun r _=>?_)|refine(zMc _).mono (fun r _=>?_)|refine qZ a ?_ ?_ (fun y _ _=>?_)|refine zAk ?_ ?_ (fun y _ _=>?_)|refine zAh (fun _=>?_) (fun _=>?_)|refine zO (fun _=>?_) (fun _=>?_)|refine zF (fun _=>?_) (fun _=>?_)|refine jU ?_|refine zAl (fun s _ _=>?_) (fun s _ _=>?_)
  |simp only[xG ‹_[_]?=Sa _›,af]
  |with_reducible first|refine zB ?_|refine e2l ?_|refine e2r ?_
  |exact zI (by omega) (by omega)
  |omega
  |(simp only[aH,aP]at*;exact zI (by omega) (by omega)))
theorem zNr(a1:Ty.El (zG))(h:Ty.El (.str))(i:SmR a1):Wp (zGg (a1,h,())) (fun(r:Int)=> -1<=r/\r< (Ac a1.2.2.2.2.2.1:Int)):=by
 have a:=i;obtain⟨m,n,p,q,t,u,x,i8,z,c,d,e,f,g,j,k,l⟩:=a;unfold zGg;try dsimp only
 repeat' (first
  |with_reducible exact trivial
  |exact⟨c,d,e,f,g⟩
  |assumption
  |contradiction
  |with_reducible first|refine zA ?_|refine qZ j ?_ ?_ (fun y _ _=>?_)|refine qZ k ?_ ?_ (fun y _ _=>?_)|refine qZ l ?_ ?_ (fun y _ _=>?_)|refine zAk ?_ ?_ (fun y _ _=>?_)|refine zO (fun _=>?_) (fun _=>?_)|refine zF (fun _=>?_) (fun _=>?_)|refine jU ?_|refine zAl (fun s _ _=>?_) (fun s _ _=>?_)
  |simp only[xG ‹_[_]?=Sa _›,af]
  |with_reducible first|refine zB ?_|refine e2l ?_|refine e2r ?_
  |exact zI (by omega) (by omega)
  |omega
  |(simp only[aH,aP]at*;exact zI (by omega) (by omega))
  |exact⟨by omega,by omega⟩)
theorem zDX(a1:Ty.El (zG))(h:SmR a1):Wp (xP (a1,())) (fun _=>True):=by
 have a:=h;obtain⟨l,m,n,p,q,t,u,i8,x,c,d,e,f,g,i,j,k⟩:=a;unfold xP;try dsimp only
 repeat' (first
  |with_reducible exact trivial
  |exact⟨c,d,e,f,g⟩
  |assumption
  |contradiction
  |with_reducible first|refine zA ?_|refine(vD _ _ _).mono (fun r _=>?_)|refine(zNr _ _ ?_).mono (fun r _=>?_)|refine qZ i ?_ ?_ (fun y _ _=>?_)|refine qZ j ?_ ?_ (fun y _ _=>?_)|refine qZ k ?_ ?_ (fun y _ _=>?_)|refine zAk ?_ ?_ (fun y _ _=>?_)|refine zAh (fun _=>?_) (fun _=>?_)|refine zO (fun _=>?_) (fun _=>?_)|refine zF (fun _=>?_) (fun _=>?_)|refine jU ?_|refine zAl (fun s _ _=>?_) (fun s _ _=>?_)
  |simp only[xG ‹_[_]?=Sa _›,af]
  |with_reducible first|refine zB ?_|refine e2l ?_|refine e2r ?_
  |exact zI (by omega) (by omega)
  |omega
  |(simp only[aH,aP]at*;exact zI (by omega) (by omega)))
theorem zHN(a1:Ty.El (zG))(h:SmR a1):Wp (zDf (a1,())) (fun _=>True):=by
 have a:=h;obtain⟨l,m,n,p,q,t,u,i8,x,c,d,e,f,g,i,j,k⟩:=a;unfold zDf;try dsimp only
 repeat' (first
  |with_reducible exact trivial
  |exact⟨c,d,e,f,g⟩
  |assumption
  |contradiction
  |with_reducible first|refine zA ?_|refine(zNr _ _ ?_).mono (fun r _=>?_)|refine qZ i ?_ ?_ (fun y _ _=>?_)|refine qZ j ?_ ?_ (fun y _ _=>?_)|refine qZ k ?_ ?_ (fun y _ _=>?_)|refine zAk ?_ ?_ (fun y _ _=>?_)|refine zO (fun _=>?_) (fun _=>?_)|refine zF (fun _=>?_) (fun _=>?_)|refine jU ?_|refine zAl (fun s _ _=>?_) (fun s _ _=>?_)
  |simp only[xG ‹_[_]?=Sa _›,af]
  |with_reducible first|refine zB ?_|refine e2l ?_|refine e2r ?_
  |exact zI (by omega) (by omega)
  |omega
  |(simp only[aH,aP]at*;exact zI (by omega) (by omega)))
theorem zD9(a1:Ty.El (zG))(h:Ty.El (tU))(i:SmR a1):Wp (zAP (a1,h,())) (fun(r:Int)=> -1<=r/\r< (Ac a1.2.2.1:Int)):=by
 have a:=i;obtain⟨m,n,p,q,t,u,x,i8,z,c,d,e,f,g,j,k,l⟩:=a;unfold zAP;try dsimp only
 repeat' (first
  |with_reducible exact trivial
  |exact⟨c,d,e,f,g⟩
  |assumption
  |contradiction
  |with_reducible first|refine zA ?_|refine qZ j ?_ ?_ (fun y _ _=>?_)|refine qZ k ?_ ?_ (fun y _ _=>?_)|refine qZ l ?_ ?_ (fun y _ _=>?_)|refine zAk ?_ ?_ (fun y _ _=>?_)|refine zO (fun _=>?_) (fun _=>?_)|refine zF (fun _=>?_) (fun _=>?_)|refine jU ?_|refine zAl (fun s _ _=>?_) (fun s _ _=>?_)
  |simp only[xG ‹_[_]?=Sa _›,af]
  |with_reducible first|refine zB ?_|refine e2l ?_|refine e2r ?_
  |exact zI (by omega) (by omega)
  |omega
  |(simp only[aH,aP]at*;exact zI (by omega) (by omega))
  |exact⟨by omega,by omega⟩)
theorem zMd(a1:Ty.El (zG))(h:Ty.El (.str))(i:SmR a1):Wp (zAt (a1,h,())) (fun(r:Int)=> -1<=r/\r< (Ac a1.2.2.1:Int)):=by
 have a:=i;obtain⟨m,n,p,q,t,u,x,i8,z,c,d,e,f,g,j,k,l⟩:=a;unfold zAt;try dsimp only
 repeat' (first
  |with_reducible exact trivial
  |exact⟨c,d,e,f,g⟩
  |assumption
  |contradiction
  |with_reducible first|refine zA ?_|refine qZ j ?_ ?_ (fun y _ _=>?_)|refine qZ k ?_ ?_ (fun y _ _=>?_)|refine qZ l ?_ ?_ (fun y _ _=>?_)|refine zAk ?_ ?_ (fun y _ _=>?_)|refine zO (fun _=>?_) (fun _=>?_)|refine zF (fun _=>?_) (fun _=>?_)|refine jU ?_|refine zAl (fun s _ _=>?_) (fun s _ _=>?_)
  |simp only[xG ‹_[_]?=Sa _›,af]
  |with_reducible first|refine zB ?_|refine e2l ?_|refine e2r ?_
  |exact zI (by omega) (by omega)
  |omega
  |(simp only[aH,aP]at*;exact zI (by omega) (by omega))
  |exact⟨by omega,by omega⟩)
theorem zOY(a1:Ty.El (zG))(h:SmR a1):Wp (zBJ (a1,())) (fun _=>True):=by
 have a:=h;obtain⟨l,m,n,p,q,t,u,i8,x,c,d,e,f,g,i,j,k⟩:=a;unfold zBJ;try dsimp only
 repeat' (first
  |with_reducible exact trivial
  |exact⟨c,d,e,f,g⟩
  |assumption
  |contradiction
  |with_reducible first|refine zA ?_|refine(zC3 _).mono (fun r _=>?_)|refine(zD9 _ _ ?_).mono (fun r _=>?_)|refine(vD _ _ _).mono (fun r _=>?_)|refine(zMd _ _ ?_).mono (fun r _=>?_)|refine qZ i ?_ ?_ (fun y _ _=>?_)|refine qZ j ?_ ?_ (fun y _ _=>?_)|refine qZ k ?_ ?_ (fun y _ _=>?_)|refine zAk ?_ ?_ (fun y _ _=>?_)|refine zAh (fun _=>?_) (fun _=>?_)|refine zO (fun _=>?_) (fun _=>?_)|refine zF (fun _=>?_) (fun _=>?_)|refine jU ?_|refine zAl (fun s _ _=>?_) (fun s _ _=>?_)
  |simp only[xG ‹_[_]?=Sa _›,af]
  |with_reducible first|refine zB ?_|refine e2l ?_|refine e2r ?_
  |exact zI (by omega) (by omega)
  |omega
  |(simp only[aH,aP]at*;exact zI (by omega) (by omega)))
theorem zGS(a1:Ty.El (zG))(h:Ty.El (.str))(i:SmR a1):Wp (x7 (a1,h,())) (fun(r:Int)=> -1<=r/\r< (Ac a1.2.2.2.2.1:Int)):=by
 have a:=i;obtain⟨m,n,p,q,t,u,x,i8,z,c,d,e,f,g,j,k,l⟩:=a;unfold x7;try dsimp only
 repeat' (first
  |with_reducible exact trivial
  |exact⟨c,d,e,f,g⟩
  |assumption
  |contradiction
  |with_reducible first|refine zA ?_|refine qZ j ?_ ?_ (fun y _ _=>?_)|refine qZ k ?_ ?_ (fun y _ _=>?_)|refine qZ l ?_ ?_ (fun y _ _=>?_)|refine zAk ?_ ?_ (fun y _ _=>?_)|refine zO (fun _=>?_) (fun _=>?_)|refine zF (fun _=>?_) (fun _=>?_)|refine jU ?_|refine zAl (fun s _ _=>?_) (fun s _ _=>?_)
  |simp only[xG ‹_[_]?=Sa _›,af]
  |with_reducible first|refine zB ?_|refine e2l ?_|refine e2r ?_
  |exact zI (by omega) (by omega)
  |omega
  |(simp only[aH,aP]at*;exact zI (by omega) (by omega))
  |exact⟨by omega,by omega⟩)
theorem uW(a1:Ty.El (zG))(h:Ty.El (.sl zGV))(i:Ty.El (tI))(j:Ty.El (tI))(k:Ty.El (tI))(l:SmR a1)(q:Ac h<=20):Wp (kN (a1,h,i,j,k,())) (fun _=>True):=by
 have a:=l;obtain⟨t,u,x,z,A,B,C,i8,D,c,d,e,f,g,m,n,p⟩:=a;unfold kN;try dsimp only
 repeat' (first
  |with_reducible exact trivial
  |exact⟨c,d,e,f,g⟩
  |assumption
  |contradiction
  |with_reducible first|refine zA ?_|refine(vD _ _ _).mono (fun r _=>?_)|refine(zGS _ _ ?_).mono (fun r _=>?_)|refine qZ m ?_ ?_ (fun y _ _=>?_)|refine qZ n ?_ ?_ (fun y _ _=>?_)|refine qZ p ?_ ?_ (fun y _ _=>?_)|refine zAk ?_ ?_ (fun y _ _=>?_)|refine zAh (fun _=>?_) (fun _=>?_)|refine zO (fun _=>?_) (fun _=>?_)|refine zF (fun _=>?_) (fun _=>?_)|refine jU ?_|refine zAl (fun s _ _=>?_) (fun s _ _=>?_)
  |simp only[xG ‹_[_]?=Sa _›,af]
  |with_reducible first|refine zB ?_|refine e2l ?_|refine e2r ?_
  |exact zI (by omega) (by omega)
  |omega
  |(simp only[aH,aP]at*;exact zI (by omega) (by omega)))
theorem zF7(a1:Ty.El (zG))(h:SmR a1):Wp (yV (a1,())) (fun _=>True):=by
 have a:=h;obtain⟨l,m,n,p,q,t,u,i8,x,c,d,e,f,g,i,j,k⟩:=a;unfold yV;try dsimp only
 repeat' (first
  |with_reducible exact trivial
  |exact⟨c,d,e,f,g⟩
  |assumption
  |contradiction
  |with_reducible first|refine zA ?_|refine(vD _ _ _).mono (fun r _=>?_)|refine(zC3 _).mono (fun r _=>?_)|refine(zGT _ _).mono (fun r _=>?_)|refine(uW _ _ _ _ _ ?_ ?_).mono (fun r _=>?_)|refine qZ i ?_ ?_ (fun y _ _=>?_)|refine qZ j ?_ ?_ (fun y _ _=>?_)|refine qZ k ?_ ?_ (fun y _ _=>?_)|refine zAk ?_ ?_ (fun y _ _=>?_)|refine zAh (fun _=>?_) (fun _=>?_)|refine zO (fun _=>?_) (fun _=>?_)|refine zF (fun _=>?_) (fun _=>?_)|refine jU ?_|refine zAl (fun s _ _=>?_) (fun s _ _=>?_)
  |simp only[xG ‹_[_]?=Sa _›,af]
  |with_reducible first|refine zB ?_|refine e2l ?_|refine e2r ?_
  |exact zI (by omega) (by omega)
  |omega
  |(simp only[aH,aP]at*;exact zI (by omega) (by omega)))
theorem zGR(a1:Ty.El (zG))(h:SmR a1):Wp (zB7 (a1,())) (fun _=>True):=by
 have a:=h;obtain⟨i,j,k,l,m,n,p,i8,q,c,d,e,f,g,t,u,x⟩:=a;unfold zB7;try dsimp only
 repeat' (first
  |with_reducible exact trivial
  |exact⟨c,d,e,f,g⟩
  |assumption
  |contradiction
  |with_reducible first|refine zA ?_|refine(vD _ _ _).mono (fun r _=>?_)|refine(zFr _ _ ?_).mono (fun r _=>?_)|refine(uW _ _ _ _ _ ?_ ?_).mono (fun r _=>?_)|refine zAh (fun _=>?_) (fun _=>?_)|refine zO (fun _=>?_) (fun _=>?_)|refine zF (fun _=>?_) (fun _=>?_)|refine zB ?_
  |omega)
theorem zMb(a1:Ty.El (zG))(h:SmR a1):Wp (zDe (a1,())) (fun _=>True):=by
 have a:=h;obtain⟨l,m,n,p,q,t,u,i8,x,c,d,e,f,g,i,j,k⟩:=a;unfold zDe;try dsimp only
 repeat' (first
  |with_reducible exact trivial
  |exact⟨c,d,e,f,g⟩
  |assumption
  |contradiction
  |with_reducible first|refine zA ?_|refine(vD _ _ _).mono (fun r _=>?_)|refine(zGS _ _ ?_).mono (fun r _=>?_)|refine qZ i ?_ ?_ (fun y _ _=>?_)|refine qZ j ?_ ?_ (fun y _ _=>?_)|refine qZ k ?_ ?_ (fun y _ _=>?_)|refine zAk ?_ ?_ (fun y _ _=>?_)|refine zO (fun _=>?_) (fun _=>?_)|refine zF (fun _=>?_) (fun _=>?_)|refine jU ?_|refine zAl (fun s _ _=>?_) (fun s _ _=>?_)
  |simp only[xG ‹_[_]?=Sa _›,af]
  |with_reducible first|refine zB ?_|refine e2l ?_|refine e2r ?_
  |exact zI (by omega) (by omega)
  |omega
  |(simp only[aH,aP]at*;exact zI (by omega) (by omega)))
theorem zJx(a1:Ty.El (tPV))(c:qIl a1):Wp (zBe (a1,())) (fun _=>True):=by
 have a:=c;obtain⟨d,e,f,g,h⟩:=a;unfold zBe;try dsimp only
 repeat' (first
  |with_reducible exact trivial
  |assumption
  |contradiction
  |with_reducible first|refine zA ?_|refine(zC3 _).mono (fun r _=>?_)|refine zAk ?_ ?_ (fun y _ _=>?_)|refine zAh (fun _=>?_) (fun _=>?_)|refine zO (fun _=>?_) (fun _=>?_)|refine zF (fun _=>?_) (fun _=>?_)|refine jU ?_|refine zAl (fun s _ _=>?_) (fun s _ _=>?_)
  |simp only[xG ‹_[_]?=Sa _›,af]
  |with_reducible first|refine zB ?_|refine e2l ?_|refine e2r ?_
  |exact zI (by omega) (by omega)
  |omega
  |(simp only[aH,aP]at*;exact zI (by omega) (by omega)))
theorem zFq(a1:Ty.El (zG))(h:SmR a1):Wp (zAZ (a1,())) (fun _=>True):=by
 have a:=h;obtain⟨i,j,k,l,m,n,p,i8,q,c,d,e,f,g,t,u,x⟩:=a;unfold zAZ;try dsimp only
 repeat' (first
  |with_reducible exact trivial
  |exact⟨c,d,e,f,g⟩
  |assumption
  |contradiction
  |with_reducible first|refine zA ?_|refine(vD _ _ _).mono (fun r _=>?_)|refine(zMb _ ?_).mono (fun r _=>?_)|refine(zJx _ ?_).mono (fun r _=>?_)|refine(uW _ _ _ _ _ ?_ ?_).mono (fun r _=>?_)|refine zAh (fun _=>?_) (fun _=>?_)|refine zF (fun _=>?_) (fun _=>?_)|refine zB ?_
  |exact zI (by omega) (by omega)
  |omega
  |(simp only[aH,aP]at*;exact zI (by omega) (by omega)))
theorem zJQ(a1:Ty.El (zG))(h:SmR a1):Wp (yN (a1,())) (fun _=>True):=by
 have a:=h;obtain⟨l,m,n,p,q,t,u,i8,x,c,d,e,f,g,i,j,k⟩:=a;unfold yN;try dsimp only
 repeat' (first
  |with_reducible exact trivial
  |exact⟨c,d,e,f,g⟩
  |assumption
  |contradiction
  |with_reducible first|refine zA ?_|refine(x5 _).mono (fun r _=>?_)|refine(vD _ _ _).mono (fun r _=>?_)|refine(zLh _ ?_).mono (fun r _=>?_)|refine(zEz _ ?_ ?_).mono (fun r _=>?_)|refine(zF6 _ ?_).mono (fun r _=>?_)|refine(zEA _ ?_ ?_).mono (fun r _=>?_)|refine(zDX _ ?_).mono (fun r _=>?_)|refine(zHN _ ?_).mono (fun r _=>?_)|refine(zOY _ ?_).mono (fun r _=>?_)|refine(zF7 _ ?_).mono (fun r _=>?_)|refine(zGR _ ?_).mono (fun r _=>?_)|refine(zFq _ ?_).mono (fun r _=>?_)|refine qZ i ?_ ?_ (fun y _ _=>?_)|refine qZ j ?_ ?_ (fun y _ _=>?_)|refine qZ k ?_ ?_ (fun y _ _=>?_)|refine zAk ?_ ?_ (fun y _ _=>?_)|refine zAh (fun _=>?_) (fun _=>?_)|refine zO (fun _=>?_) (fun _=>?_)|refine zF (fun _=>?_) (fun _=>?_)|refine jU ?_|refine zAl (fun s _ _=>?_) (fun s _ _=>?_)
  |simp only[xG ‹_[_]?=Sa _›,af]
  |with_reducible first|refine zB ?_|refine e2l ?_|refine e2r ?_
  |exact zI (by omega) (by omega)
  |omega
  |(simp only[aH,aP]at*;exact zI (by omega) (by omega)))
theorem zRH(a1:Ty.El (zJ))(a:∀y,y∈a1.1->SmR y):Wp (x8 (a1,())) (fun _=>True):=by
 unfold x8;try dsimp only
 repeat' (first
  |with_reducible exact trivial
  |assumption
  |contradiction
  |with_reducible first|refine zA ?_|refine(zJQ _ ?_).mono (fun r _=>?_)|refine(zD9 _ _ ?_).mono (fun r _=>?_)|refine qZ a ?_ ?_ (fun y _ _=>?_)|refine zAk ?_ ?_ (fun y _ _=>?_)|refine zO (fun _=>?_) (fun _=>?_)|refine zF (fun _=>?_) (fun _=>?_)|refine jU ?_|refine zAl (fun s _ _=>?_) (fun s _ _=>?_)
  |simp only[xG ‹_[_]?=Sa _›,af]
  |with_reducible first|refine zB ?_|refine e2l ?_|refine e2r ?_
  |exact zI (by omega) (by omega)
  |omega
  |(simp only[aH,aP]at*;exact zI (by omega) (by omega))
  |exact zI (by omega) (by have:=SmR.i1 ‹SmR _›;omega))
def zIq(n:Ty.El zJ)(p:Ty.El zD)(a:Int)(e:Ty.El zR):Prop:=
 0<=e.1/\0<=e.2.1/\∃r x,n.1[e.1.toNat]?=Sa r/\r.2.2.1[e.2.1.toNat]?=Sa x/\x.2.2.1≠0/\x.2.2.2.2.1=Sb/\uF (x.2.1,x.2.2.1,())=Sa p/\x.2.2.2.1=a
def qIa(st:HSt zR)(B:Nat)(E:Ty.El zR->Prop)(q:Option (Nat×Nat)):Prop:=
 ∀id m,q=Sa (id,m)->∃a,st[id]?=Sa (Sa a)/\a.length=m/\a.length<=B/\∀e,e∈a->E e
def zTs(d a:Ty.El zW):Prop:= ∀id m c,d.2.2.1=Sa (id,m)->a.2.2.1=Sa (id,c)->False
variable {a4:Ty.El zW}
theorem zTs.symm{a:Ty.El zW}(h:zTs a4 a):zTs a a4:=fun id m c e f=>h id c m f e
structure Bld(n:Ty.El zJ)(B:Nat)(D:List (Ty.El zW))(st:HSt zR):Prop where
 len:D.length<=B
 ok:∀d,d∈D->qIa st B (zIq n d.1 d.2.1) d.2.2.1
 ap:D.Pairwise zTs
 so:D.Pairwise (fun d d'=>zFx d.1 d.2.1 d'.1 d'.2.1)
variable {I:HSt zR}{a2:List (Ty.El zW)}{l:Nat}{j:Ty.El zJ}
theorem zIl{a:Nat}(h:Bld j l a2 I)(c:l<=a):Bld j a a2 I:=by
 refine⟨ai h.len c,?_,h.ap,h.so⟩;intro d e id m f;obtain⟨g,i,n,k,B⟩:=h.ok d e id m f
 grind
theorem qGB:Bld j l [] I:=⟨aY _,(fun d a=>by cases a),List.Pairwise.nil,List.Pairwise.nil⟩
theorem qGC(h:Bld j l a2 I)(k:Nat)(p:Ty.El zD)(v:Int)(A:∀n d,n<k->a2[n]?=Sa d->zFx d.1 d.2.1 p v)(r:∀d,a2[k]?=Sa d->zFx p v d.1 d.2.1):
  Bld j (l+1) (a2.take k++[((p,v,Sd,()):Ty.El zW)]++a2.drop k) I:=by
 have u:=zIl h (cT l);have g:∀d:Ty.El zW,zTs d ((p,v,Sd,()):Ty.El zW):=fun d id m G _ i=>by cases i
 refine⟨?_,?_,?_,?_⟩
 .have:=h.len;grind
 .intro d hd;simp only[aU,aK]at hd;rcases hd with(hd|rfl)|hd
  .exact u.ok d (dy hd)
  .intro id m C;cases C
  .exact u.ok d (List.mem_of_mem_drop hd)
 .have x:=h.ap;rw[<-cE k a2,bX]at x;obtain⟨t,i,E⟩:=x;rw[bX,bX];refine⟨⟨t,cO _ _,?_⟩,i,?_⟩
  .grind
  .intro a c b B;simp at c;rcases c with c|rfl
   .grind
   .exact(g b).symm
 .have e:=h.so;have q:=aT.1 e;rw[<-cE k a2,bX]at e;obtain⟨t,i,E⟩:=e;rw[bX,bX];refine⟨⟨t,cO _ _,?_⟩,i,?_⟩
  .intro a c b B;simp at B;subst B;obtain⟨n,y,f⟩:=aA c
   grind
  .intro a c b B;simp at c;rcases c with c|rfl
   .grind
   .obtain⟨n,y,f⟩:=aA B;rw[bS]at y;rw[List.getElem_drop]at f;have F:a2[k]?=Sa (a2[k]'(by omega)):=by simp
    have hlt:=r _ F;rcases cA n with z|z
    .subst z
     grind
    .rw[<-f];exact zX2 hlt (q k (k+n) (by omega) (by omega) (by omega))
theorem qBD{f:HSt zR}(h:Bld j l a2 I){k:Nat}(G:a2[k]?=Sa a4){id m:Nat}{xs:List (Ty.El zR)}(H:f[id]?=Sa (Sa xs))(N:xs.length=m)(O:xs.length<=l+1)(P:∀e,e∈xs->zIq j a4.1 a4.2.1 e)(hid:I.length<=id)(g:∀n B,I[n]?=Sa (Sa B)->(∀A,a4.2.2.1≠Sa (n,A))->f[n]?=Sa (Sa B)):
  Bld j (l+1) (a2.set k ((a4.1,a4.2.1,Sa (id,m),()):Ty.El zW)) f:=by
 have hlt:k<a2.length:=(aa.1 G).1;have C:a2[k]=a4:=(aa.1 G).2;have E:=aT.1 h.ap
 have c:∀n (a:n<a2.length),n≠k->zTs a4 a2[n]:=by
  intro n a p;rcases aZ n k with y|y
  .have:=E n k a hlt y;rw[C]at this;exact this.symm
  grind
 have q:∀n (a:n<a2.length),zTs a2[n] ((a4.1,a4.2.1,Sa (id,m),()):Ty.El zW):=by
  intro n a i r Q t S;obtain⟨B,D,_⟩:=h.ok a2[n] (aX a) i r t
  grind
 refine⟨by rw[b6];have:=h.len;omega,?_,?_,?_⟩
 .intro x J;obtain⟨n,a,rfl⟩:=aA J;rw[b6]at a;rw[cu];split
  .intro i r t
   grind
  .rename_i p;intro i r t;obtain⟨B,D,K,W,L⟩:=h.ok a2[n] (aX a) i r t;exact⟨B,g i B D (fun A M=>c n a (fun y=>p y.symm) i A r M t),K,by omega,L⟩
 .rw[aT];intro i n z a u;rw[b6]at z a;rw[cu,cu];split
  .split
   .omega
   .exact(q n a).symm
  grind
 .have F:=aT.1 h.so;rw[aT];intro i n z a u;rw[b6]at z a;have:=F i n z a u;rw[cu,cu];split
  .split;all_goals grind
  .split;all_goals grind
theorem qGD(h:Bld j l a2 I)(n:l<=1000){k:Nat}(f:a2[k]?=Sa a4){e:Ty.El zR}(B:zIq j a4.1 a4.2.1 e):
  Wp (zOj 16 I a4.2.2.1 [e]) (fun r=>Bld j (l+1) (a2.set k ((a4.1,a4.2.1,r.2,()):Ty.El zW)) r.1):=by
 have a:a4∈a2:=ae f
 cases i:a4.2.2.1 with
 |none=>
  refine⟨(I++[Sa [e]],Sa (I.length,1)),?_,?_⟩
  .simp_all[zOj]
  .refine qBD h f (xs:=[e]) ?_ rfl (by simp) (fun p t=>by grind) (aj _) ?_;all_goals grind
 |some q=>
  obtain⟨id,m⟩:=q;obtain⟨c,g,u,x,y⟩:=h.ok a4 a id m i;have hlt:=(aa.1 g).1;refine⟨(I.set id Sd++[Sa (c++[e])],Sa (I.length,(c++[e]).length)),?_,?_⟩
  .simp only[zOj,g,bK]
   grind
  .refine qBD h f (xs:=c++[e]) ?_ rfl (by simp;omega) ?_ (aj _) ?_;all_goals grind
structure qFn(n:Ty.El zJ)(t:Ty.El zLK):Prop where
 doms:t.1.length<=360
 ends :∀d, d ∈ t.1 -> d.2.2.1.length <= 360 /\∀e, e ∈ d.2.2.1 -> zIq n d.1 d.2.1 e
 links:t.2.1.length<=12
 link:∀l,l∈t.2.1->0<=l/\l< (t.1.length:Int)
 so:t.1.Pairwise (fun d d'=>zFx d.1 d.2.1 d'.1 d'.2.1)
theorem zKl{α β:Type}{f:α->Option β}{R:α->β->Prop}:∀{xs:List α},(∀x,x∈xs->Wp (f x) (R x))->Wp (zCw f xs) (fun a:List β=>a.length=xs.length/\∀(i:Nat) x y,xs[i]?=Sa x->a[i]?=Sa y->R x y)
 |[],_=>⟨[],rfl,rfl,fun i x y h=>by simp at h⟩
 |x::r,h=>by
  obtain⟨y,e,g⟩:=h x (by simp);obtain⟨a,j,c,k⟩:=zKl (xs:=r) (fun z d=>h z (aw _ d));refine⟨y::a,by grind[zCw],by simp[c],?_⟩
  grind
theorem qFb(h:Bld j l a2 I):
  Wp (zCw (zBW I zW) a2) (fun a=>a.length=a2.length/\(∀d:Ty.El yF,d∈a->d.2.2.1.length<=l/\∀e,e∈d.2.2.1->zIq j d.1 d.2.1 e)/\a.Pairwise (fun d k:Ty.El yF=>zFx d.1 d.2.1 k.1 k.2.1)):=by
 refine(zKl (R:=fun(d:Ty.El zW) (y:Ty.El yF)=>(y.2.2.1.length<=l/\∀e,e∈y.2.2.1->zIq j y.1 y.2.1 e)/\y.1=d.1/\y.2.1=d.2.1) ?_).mono ?_
 .intro d f;obtain⟨⟨B,p,⟨⟩⟩,v,q,⟨⟩⟩:=d
  cases q with
  |none=>exact⟨((B,p,()),v,[],()),rfl,⟨aY _,fun e u=>by cases u⟩,rfl,rfl⟩
  |some q=>
   obtain⟨id,m⟩:=q;obtain⟨x,r,t,z,A⟩:=h.ok _ f id m rfl;refine⟨((B,p,()),v,x,()),?_,⟨z,A⟩,rfl,rfl⟩
   grind[zBW]
 .rintro a ⟨r,t⟩;have C:∀i (c:i<a.length),∃d,a2[i]?=Sa d/\((a[i].2.2.1.length<=l/\∀e,e∈a[i].2.2.1->zIq j a[i].1 a[i].2.1 e)/\a[i].1=d.1/\a[i].2.1=d.2.1):=by intro i c;refine⟨a2[i]'(by omega),by simp,t i _ _ (by simp) (by simp[c])⟩
  refine⟨r,?_,?_⟩
  .intro d f;obtain⟨i,c,rfl⟩:=aA f
   grind
  .rw[aT];intro i n c F g;have E:=aT.1 h.so i n (by omega) (by omega) g
   grind
theorem yJ{x:i}(h:a0[l]?=Sa x):atN a0 l=Sa x:=h
abbrev BSt:=(List (Ty.El zW)×List Int)×HSt zR
theorem zNt(a1:Ty.El zJ)(hn:a1.1.length<=9)(hs:∀y,y∈a1.1->SmR y):
  Wp (zEx [] (a1,())) (fun r=>(r.2.2.1=0->Bld a1 360 r.2.1.1 r.1/\r.2.1.2.1.length<=12/\(∀l,l∈r.2.1.2.1->0<=l/\l< (r.2.1.1.length:Int))/\x8 (a1,())=Sa 0)/\(r.2.2.1≠0->r.2.1=([],[],()))):=by
 unfold zEx;dsimp only;refine zB6 ((zRH a1 hs).mono (fun _ _=>trivial)) (fun y0 Y=>?_);refine zF (fun E=>?_) (fun E=>?_)
 .refine zA ⟨fun h=>?_,fun _=>rfl⟩
  grind
 have hy:y0=0:=by simpa using E
 subst hy;refine zB ((uO (xs:=a1.1) (by omega) (fun i (g:BSt)=>g.1.2=[]/\Bld a1 (40*i) g.1.1 g.2) ⟨rfl,qGB⟩ ?_ (Q:=fun g=>g.1.2=[]/\Bld a1 360 g.1.1 g.2) (fun g a=>⟨a.1,zIl a.2 (by omega)⟩)).mono ?_)
 .intro i x g Z hj;have hi:i<9:=by grind
  have a2:=(hs x (ae Z)).i1;simp only[zM Z,af];refine(uO (xs:=x.2.2.1) (by omega) (fun j (g:BSt)=>g.1.2=[]/\Bld a1 (40*i+2*j) g.1.1 g.2) hj ?_ (fun g a=>⟨a.1,zIl a.2 (by omega)⟩));intro j f g hf hj;have a3:j<20:=by grind
  obtain⟨⟨D,L⟩,st⟩:=g;obtain⟨rfl,z⟩:=hj;simp only[zM hf,af];refine zB ((show Wp _ (fun s:Bool×BSt=>s.2=((D,[]),st)/\(s.1=Sb->f.2.2.1≠0/\f.2.2.2.2.1=Sb))from ?_).mono ?_)
  .refine zF (fun h=>zA ⟨rfl,fun h=>by cases h⟩) (fun h=>zA ⟨rfl,fun W=>⟨by simpa using h,W⟩⟩)
  rintro⟨b,g⟩ ⟨a,C⟩;simp only at a C;subst a;refine zF (fun _=>zA ⟨rfl,zIl z (by omega)⟩) (fun ab=>?_);obtain⟨K,F⟩:=C ab;refine zB6 (zHO _ _) (fun p hp=>?_);refine zB ((show Wp _ (fun s:Int×BSt=>∃k:Nat,s.1=(k:Int)/\k<=D.length/\s.2=((D,[]),st)/\(∀m d,m<k->D[m]?=Sa d->zFx d.1 d.2.1 p f.2.2.2.1)/\(∀d,D[k]?=Sa d->¬zFx d.1 d.2.1 p f.2.2.2.1))from ?_).mono ?_)
  .refine uA (fun s:Int×BSt=>∃k:Nat,s.1=(k:Int)/\k<=D.length/\s.2=((D,[]),st)/\(∀m d,m<k->D[m]?=Sa d->zFx d.1 d.2.1 p f.2.2.2.1)) (fun s=>((D.length:Int) -s.1).toNat) ⟨(0:Nat),rfl,aY _,rfl,fun m d hm=>by omega⟩ ?_;rintro⟨s,g⟩ ⟨k,c,M,a,A⟩;simp only at c a;subst c a;have N:D.length<=_:=z.len;refine zB ((show Wp _ (fun s:Bool×BSt=>s.2=((D,[]),st)/\(s.1=Sc->∃d,D[k]?=Sa d/\zFx d.1 d.2.1 p f.2.2.2.1)/\(s.1=Sb->∀d,D[k]?=Sa d->¬zFx d.1 d.2.1 p f.2.2.2.1))from ?_).mono ?_)
   .refine zO (fun hlt=>?_) (fun a4=>zA ⟨rfl,(fun h=>by cases h),fun _ d q=>?_⟩)
    .have hlt:k<D.length:=by grind
     have c:D[k]?=Sa D[k]:=by simp[hlt]
     generalize D[k]=B at c;have t:∀d,D[k]?=Sa d->d=B:=fun d q=>by grind
     simp only[zM c,aF,yJ c,af];refine zB (zK (zGZ _ _) ?_);refine zO (fun E=>zA ⟨rfl,fun _=>⟨B,c,.inl (zOC.1 E)⟩,fun h=>by cases h⟩) (fun E=>?_);have E:¬plt B.1 p:=fun h=>E (zOC.2 h);refine zF (fun O=>zA ⟨rfl,fun h=>⟨B,c,.inr ⟨zJ8 O,of_decide_eq_true h⟩⟩,fun h d q=>?_⟩) (fun O=>zA ⟨rfl,(fun h=>by cases h),fun _ d q=>?_⟩)
     .have q:d=B:=t d q;subst q;rintro(h1|⟨_,h1⟩);all_goals grind
     .have q:d=B:=t d q;subst q;rintro(h1|⟨h1,_⟩);all_goals grind
    grind
   .rintro⟨b,g⟩ ⟨a,C,u⟩;simp only at a C u;subst a;refine zF (fun h=>?_) (fun h=>?_)
    .obtain⟨d,q,ax⟩:=C h;have hlt:=(aa.1 q).1;refine zA (e2l ⟨⟨k+1,?_,hlt,rfl,?_⟩,?_⟩)
     .simp only;rw[zI (by omega) (by omega)];omega
     .intro m d' hm ad;rcases aZ m k with W|W
      .exact A m d' W ad
      grind
     .simp only;rw[zI (by omega) (by omega)];omega
    .exact zA (e2r ⟨k,rfl,M,rfl,A,u h⟩)
  rintro⟨s,g⟩ ⟨k,c,M,a,A,ag⟩;simp only at c a;subst c a;have N:D.length<=_:=z.len;refine zB ((show Wp _ (fun g:BSt=>g.1.2=[]/\Bld a1 (40*i+2*j+1) g.1.1 g.2/\∃d,g.1.1[k]?=Sa d/\d.1=p/\d.2.1=f.2.2.2.1)from ?_).mono ?_)
  .refine zB ((show Wp _ (fun s:Bool×BSt=>s.2=((D,[]),st)/\(s.1=Sb->∃d,D[k]?=Sa d/\d.1=p/\d.2.1=f.2.2.2.1)/\(s.1=Sc->∀d,D[k]?=Sa d->¬(d.1=p/\d.2.1=f.2.2.2.1)))from ?_).mono ?_)
   .refine zF (fun a5=>zA ⟨rfl,(fun h=>by cases h),fun _ d q=>?_⟩) (fun a6=>?_)
    .grind
    have hlt:k<D.length:=by
     grind
    have c:D[k]?=Sa D[k]:=by simp[hlt]
    generalize D[k]=B at c;have t:∀d,D[k]?=Sa d->d=B:=fun d q=>by grind
    simp only[zM c,aF,yJ c,af];refine zF (fun O=>zA ⟨rfl,(fun h=>by cases h),fun _ d q h2=>?_⟩) (fun O=>?_)
    .grind
    have al:=zJ8 (by simpa using O);refine zA ⟨rfl,fun hv=>⟨B,c,al,by simpa using hv⟩,fun hv d q h2=>?_⟩
    grind
   .rintro⟨b,g⟩ ⟨a,C,u⟩;simp only at a C u;subst a;refine zF (fun an=>?_) (fun ao=>zA ⟨rfl,zIl z (by omega),C ao⟩);have P:∀d,D[k]?=Sa d->zFx p f.2.2.2.1 d.1 d.2.1:=fun d q=>qEo (ag d q) (u an d q);refine zF (fun _=>?_) (fun h=>?_)
    .simp only[aF,bD];refine zB (xZ (by simp only[aP,bS];omega) ?_);refine zF (fun _=>?_) (fun h=>?_)
     .refine zB (xZ (by simp;omega) ?_);refine zB (xZ (by simp only[aN,aP,bT,bS,bK];omega) ?_);rw[dE];refine zA ⟨rfl,qGC z k p _ A P,⟨(p,f.2.2.2.1,Sd,()),?_,rfl,rfl⟩⟩;simp only;rw[cn,aD (by simp;omega)];simp only[bT];rw[show k-min k D.length=0 by omega];rfl
     grind
    grind
  rintro⟨⟨J,L'⟩,S⟩ ⟨G,H,d,c,ap,av⟩;simp only at G H c;subst G;have ay:J.length<=_:=H.len;simp[zM c,yJ c];refine zB ((qGD H (by omega) c (e:=(↑i, ↑j,())) ⟨(show(0:Int)<=(i:Int) by omega),(show(0:Int)<=(j:Int) by omega),x,f,by simpa using Z,by simpa using hf,K,F,?_,?_⟩).mono ?_)
  .rw[hp,ap]
  .exact av.symm
  .rintro⟨a9,q2⟩ hB;exact zA ⟨rfl,zIl hB (by omega)⟩
 .rintro⟨⟨D,L⟩,st⟩ ⟨G,z⟩;simp only at G z;subst G;have N:D.length<=_:=z.len
  refine zB ((zNk (n:=D.length) (by omega) (fun i (g:BSt)=>g.1.1=D/\g.2=st/\g.1.2.length<=i/\∀l,l∈g.1.2->0<=l/\l< (D.length:Int)) ⟨rfl,rfl,aj _,(fun l I=>by cases I)⟩ (fun i g a=>by simp only[a.1]) ?_
   (Q:=fun g:BSt=>g.1.1=D/\g.2=st/\∀l,l∈g.1.2->0<=l/\l< (D.length:Int)) (fun g a=>⟨a.1,a.2.1,a.2.2.2⟩)).mono ?_)
  .rintro i ⟨⟨J,L⟩,S⟩ hi ⟨rfl,rfl,G,I⟩;simp only at hi G I;have a0:J.length<=360:=z.len;have c:J[i]?=Sa J[i]:=by simp[hi]
   simp only[zM c,aF,yJ c,af];refine zO (fun _=>?_) (fun _=>zA ⟨rfl,rfl,by simp only;omega,I⟩);refine zB (xZ (by grind) (zA ⟨rfl,rfl,by grind,?_⟩))
   grind
  .rintro⟨⟨J,L⟩,S⟩ ⟨rfl,rfl,I⟩;simp only at I;refine zO (fun _=>zA ⟨(fun h=>by cases h),fun _=>rfl⟩) (fun h=>zA ⟨fun _=>⟨z,?_,I,Y⟩,fun h=>absurd rfl h⟩)
   grind
theorem zUk{tE a b:Ty}{st:HSt tE}{x:a.El}{y:b.El}{c:(zAe tE a).El}{d:(zAe tE b).El}(e:zBW st a x=Sa c)(f:zBW st b y=Sa d):zBW st (.pair a b) (x,y)=Sa (c,d):=by
 grind[zBW]
theorem zY7{tE a:Ty}{r:List Ty}{st:HSt tE}{x:a.El}{y:ElS r}{c:(zAe tE a).El}{d:ElS (zJP tE r)}(e:zBW st a x=Sa c)(f:zRE st r y=Sa d):zRE st (a::r) (x,y)=Sa (c,d):=by
 grind[zRE]
theorem zUJ{α:Type}{f:α->Option α}(a:∀x,f x=Sa x):∀l:List α,zCw f l=Sa l
 |[]=>rfl
 |x::l=>by simp[zCw,a x,zUJ a l]
theorem zQJ(a1:Ty.El zJ)(i:a1.1.length<=9)(j:∀y,y∈a1.1->SmR y):
  Wp (zG5 (a1,())) (fun r=>r.2.1=0->qFn a1 r.1/\x8 (a1,())=Sa 0):=by
 obtain⟨⟨st,⟨D,L,⟨⟩⟩,e,⟨⟩⟩,k,c,d⟩:=zNt a1 i j;unfold zG5 zRF;rw[k];simp only at c d;by_cases a:e=0
 .subst a;obtain⟨f,l,x,m⟩:=c rfl;obtain⟨g,n,z,p,q⟩:=qFb f;refine⟨((g,L,()),0,()),?_,fun _=>⟨⟨?_,p,l,?_,q⟩,m⟩⟩
  .have t:zBW st (.sl zW) D=Sa g:=n;have u:zBW st (.sl tI) L=Sa L:=zUJ (fun _=>rfl) L;exact zY7 (r:=[tI]) (zUk t (zUk u rfl)) rfl
  .simp only;have:D.length<=360:=f.len;omega
  grind
 .have:=d a;simp only[aI]at this;obtain⟨rfl,rfl,_⟩:=this;exact⟨(([],[],()),e,()),rfl,fun h=>absurd h a⟩
structure qFr(d:List Int)(m:Int):Prop where
 len:d.length<=2
 lo:∀x,x∈d->0<=x/\x<m
theorem zLi(d:List Int)(m:Int):Wp (zCm (d,m,())) (fun b=>b=Sc->qFr d m):=by
 unfold zCm;dsimp only;refine zO (fun _=>zA (fun h=>by cases h)) (fun h=>?_);refine zAK (by omega) (fun i=>∀(j:Nat) (y:Int),j<i->d[j]?=Sa y->0<=y/\y<m) (fun j y c=>by omega) ?_ ?_
 .intro i (x:Int) a c;have f:=(aa.1 a).1;simp only[zM a,af];refine zB ((show Wp _ (fun b:Bool=>b=Sb->0<=x/\x<m)from ?_).mono ?_)
  .refine zO (fun _=>zA (fun h=>by cases h)) (fun g=>?_);refine zO (fun _=>zA (fun h=>by cases h)) (fun k=>?_);refine zO (fun l=>?_) (fun _=>zA (fun _=>⟨by omega,by omega⟩));refine zB (zAk (by grind[zI]) (by grind[zI]) (fun y _ _=>zA (fun _=>⟨by omega,by omega⟩)))
  .intro b n;refine zF (fun _=>zA (e2r (e2r (fun h=>by cases h)))) (fun h=>zA (e2l ⟨rfl,?_⟩))
   grind
 .intro c;refine zA (fun _=>⟨by omega,?_⟩);intro x a;obtain⟨j,e,rfl⟩:=aA a;simp_all
theorem qHG{P:i->Prop}(h:∀j y,j<a0.length->a0[j]?=Sa y->P y):∀y,y∈a0->P y:=by intro x a;obtain⟨j,c,rfl⟩:=aA a;simp_all
theorem zHm{ρ:Type}{xs:List i}{P:i->Prop}{a:Int->Option (Int ⊕ (Unit ⊕ ρ))}{K:Unit->Option ρ}{Q:ρ->Prop}(d:xs.length<0x4000000000000000)(step:∀(α:Nat) x,xs[α]?=Sa x->Wp (a (α:Int)) (vB (fun e=>e=Ab .i64 ((α:Int)+1)/\P x) (vB (fun _=>False) Q)))(c:(∀x,x∈xs->P x)->Wp (K ()) Q):
  Wp (wB (zS (fun s:Int=>bif decide (s< (xs.length:Int))then a s else Sa (Af (Ag ()))) (0:Int)) K) Q:=by
 refine zAK d (fun α=>∀j y,j<α->xs[j]?=Sa y->P y) (fun j y f=>by omega) ?_ (fun h=>c (qHG h));intro α x g f;refine(step α x g).mono ?_
 grind
theorem zRJ(a1:Ty.El zG):Wp (zIN (a1,())) (fun b=>b=Sc->SmR a1):=by
 unfold zIN;dsimp only
 refine zB ((show Wp _ (fun b:Bool=>b=Sb->Ac a1.2.2.1<=12/\Ac a1.2.2.2.1<=12/\Ac a1.2.2.2.2.1<=12/\Ac a1.2.2.2.2.2.1<=12/\Ac a1.2.2.2.2.2.2.1<=12/\
  Ac a1.2.2.2.2.2.2.2.1<=20/\Ac a1.2.2.2.2.2.2.2.2.1.2.2.1<=8/\Ac a1.2.2.2.2.2.2.2.2.1.2.2.2.1<=8/\Ac a1.2.2.2.2.2.2.2.2.2.1.2.2.2.2.1<=8/\
  Ac a1.2.2.2.2.2.2.2.2.2.2.1.2.2.2.2.2.2.2.1<=8/\Ac a1.2.2.2.2.2.2.2.2.2.2.1.2.2.2.1<=12/\Ac a1.2.2.2.2.2.2.2.2.2.2.1.2.2.2.2.1<=12/\
  Ac a1.2.2.2.2.2.2.2.2.2.2.1.2.2.2.2.2.1<=12/\Ac a1.2.2.2.2.2.2.2.2.2.2.1.2.2.2.2.2.2.1<=12)from ?_).mono ?_)
 .iterate 13 (refine zO (fun _=>zA (fun h=>by cases h)) (fun _=>?_))
  grind[zA,of_decide_eq_false]
 intro b c;refine zF (fun _=>zA (fun h=>by cases h)) (fun h=>?_);obtain⟨k,l,m,n,p,q,r,i8,t,d,e,f,g,j⟩:=c h;refine zHm (P:=fun y=>Ac y.2.1<=20) (by omega) ?_ (fun u=>?_)
 .intro i x a;simp only[zM a,af];exact zO (fun _=>zA (e2r (e2r (fun h=>by cases h)))) (fun _=>zA (e2l ⟨rfl,by omega⟩))
 refine zHm (P:=fun y=>Ac y.2.1<=20) (by omega) ?_ (fun z=>?_)
 .intro i x a;simp only[zM a,af];exact zO (fun _=>zA (e2r (e2r (fun h=>by cases h)))) (fun _=>zA (e2l ⟨rfl,by omega⟩))
 refine zHm (P:=fun y=>Ac y.2.1<=20) (by omega) ?_ (fun A=>?_)
 .intro i x a;simp only[zM a,af];exact zO (fun _=>zA (e2r (e2r (fun h=>by cases h)))) (fun _=>zA (e2l ⟨rfl,by omega⟩))
 refine zA (fun _=>?_);constructor<;>first|assumption|omega
theorem zQK(a1:Ty.El zJ):Wp (zHa (a1,())) (fun b=>b=Sc->a1.1.length<=9/\∀y,y∈a1.1->SmR y):=by unfold zHa;dsimp only;refine zO (fun _=>zA (fun h=>by cases h)) (fun d=>?_);refine zHm (P:=SmR) (by omega) ?_ (fun h=>zA (fun _=>⟨by omega,h⟩));intro i x a;simp only[zM a,af];refine zB ((zRJ x).mono (fun b c=>?_));refine zF (fun _=>zA (e2r (e2r (fun h=>by cases h)))) (fun h=>zA (e2l ⟨rfl,c (by simpa using h)⟩))
structure qE(n:Ty.El zJ)(d:List Int)(v:Ty.El zH):Prop where
 net:v.1=n
 rs:n.1.length<=9
 sm:∀y,y∈n.1->SmR y
 chk:x8 (n,())=Sa 0
 topo:qFn n v.2.1
 dn:v.2.2.1=d
 down:qFr d v.2.1.2.1.length
theorem zRI(n:Ty.El zJ)(d:List Int)(c:n.1.length<=9)(e:∀y,y∈n.1->SmR y):
  Wp (zIE (n,d,())) (fun r=>r.2.1=0->qE n d r.1):=by
 unfold zIE;dsimp only;refine zB ((zQJ n c e).mono (fun i j=>?_));refine zF (fun h=>zA (fun f=>?_)) (fun h=>?_)
 .grind
 have k:i.2.1=0:=by simpa using h
 obtain⟨l,m⟩:=j k;refine zB ((zLi _ _).mono (fun b p=>?_));refine zF (fun _=>zA (fun f=>by cases f)) (fun a=>?_);have g:=p (by simpa using a);refine zB (xZ (by have:=g.len;grind) ?_);refine zA (fun _=>⟨rfl,c,e,m,l,rfl,?_⟩);exact g
theorem zRK(n:Ty.El zJ)(d:List Int):Wp (zIO (n,d,())) (fun r=>r.2.1=Sc->qE n d r.1):=by
 unfold zIO;dsimp only;refine zB (zB ((zQK n).mono (fun b a=>?_)));refine zF (fun _=>zA ?_) (fun h=>zA ?_)
 .grind[zA]
 .obtain⟨c,e⟩:=a (by simpa using h);refine zF (fun _=>zA (fun h=>by cases h)) (fun _=>?_);refine zB ((zRI n d c e).mono (fun r f=>zA (fun h=>f ?_)));simpa using h
structure RtS(x:Ty.El zC):Prop where
 path:Ac x.2.2.2.2.2.2.2.2.1<=1048576
 hops:Ac x.2.2.2.2.2.2.2.2.2.2.2.1<=1048576
structure RtB(x:Ty.El zC):Prop where
 path:x.2.2.2.2.2.2.2.2.1.length<=0x1000000000000000
 hops:x.2.2.2.2.2.2.2.2.2.2.2.1.length<=0x1000000000000000
theorem RtS.b{x:Ty.El zC}(h:RtS x):RtB x:=⟨ai h.path (by omega),ai h.hops (by omega)⟩
def zB3(p q:Ty.El zD):Bool:=p.1==q.1&&(p.2.1==q.2.1&&Sc)
theorem yY:zB3 P J=Sc↔P=J:=⟨fun h=>zJ8 h,fun h=>by subst h;simp[zB3]⟩
def zMS(e y:Ty.El zR):Bool:=y.1==e.1&&(y.2.1==e.2.1&&Sc)
theorem qE0{e y:Ty.El zR}:zMS e y=Sc↔y=e:=⟨fun h=>zJ8 h,fun h=>by grind[zMS]⟩
def zAT(v:Ty.El zH)(r i:Int):Int:=zHy (fun d:Ty.El yF=>d.2.2.1.any (zMS (r,i,()))) v.2.1.1
def zK2(v:Ty.El zH)(r i:Int):Int:=zHy (fun l:Int=>decide (zAT v r i>=0)&&l==zAT v r i) v.2.1.2.1
def upB(v:Ty.El zH)(r i:Int):Bool:=decide (0<=zAT v r i)&&v.2.2.1.all (fun x:Int=> !(x==zK2 v r i))
structure zFz(v:Ty.El zH):Prop where
 rs:v.1.1.length<=9
 sm:∀y,y∈v.1.1->SmR y
 doms:v.2.1.1.length<=360
 ends :∀d, d ∈ v.2.1.1 -> d.2.2.1.length <= 360
 links:v.2.1.2.1.length<=12
 link0:∀l,l∈v.2.1.2.1->(0:Int)<=l
 down:v.2.2.1.length<=2
 down0:∀l,l∈v.2.2.1->(0:Int)<=l
theorem qE.s{d:List Int}{v:Ty.El zH}(h:qE j d v):zFz v where
 rs:=by rw[h.net];exact h.rs
 sm:=by rw[h.net];exact h.sm
 doms:=h.topo.doms
 ends := fun d hd =>(h.topo.ends d hd).1
 links:=h.topo.links
 link0:=fun l a=>(h.topo.link l a).1
 down:=by rw[h.dn];exact h.down.len
 down0:=by rw[h.dn];exact fun l a=>(h.down.lo l a).1
theorem zKs{p:i->Bool}:zHy p a0>=0↔a0.any p=true:=by
 grind[zIU,List.any_eq_true,List.mem_of_getElem?]
theorem zWd{p:i->Bool}{xs:List i}(h:0<=zHy p xs):∃x,xs[(zHy p xs).toNat]?=Sa x/\p x=true:=by
 grind[zIU]
theorem zJy(l:List (Ty.El zR))(e:Ty.El zR)(c:l.length<=1048576):Wp (yM (l,e,())) (fun k=>k=zHy (zMS e) l):=by
 unfold yM;dsimp only;refine zFA (p:=zMS e) (by omega) ?_ rfl;intro i x a;simp only[zM a,af]
 have:(e.1==x.1&&(e.2.1==x.2.1&&Sc))=zMS e x:=by
  unfold zMS
  grind
 grind
theorem zHr(l:List (Ty.El zR))(e:Ty.El zR)(a:l.length<=1048576):Wp (uK (l,e,())) (fun b=>b=l.any (zMS e)):=by unfold uK;dsimp only;refine zB ((zJy l e a).mono (fun k c=>zA ?_));subst c;rw[cR,decide_eq_true_eq];exact zKs
theorem zEd(v:Ty.El zH)(r i:Int)(a:zFz v):Wp (zAG (v,r,i,())) (fun k=>k=zAT v r i):=by
 unfold zAG;dsimp only;have:=a.doms;refine zFA (p:=fun d:Ty.El yF=>d.2.2.1.any (zMS (r,i,()))) (by omega) ?_ rfl;intro k x c;simp[zM c];have:=a.ends x (ae c);have e:=jS (zHr x.2.2.1 (r,i,()) (by omega))
 grind
theorem zC9(v:Ty.El zH)(r i:Int)(q:zFz v):Wp (zBK (v,r,i,())) (fun k=>k=zAT v r i):=by
 unfold zBK;dsimp only;have:=q.doms;refine zAK (by omega) (fun k=>∀j y,j<k->v.2.1.1[j]?=Sa y->y.2.2.1.any (zMS (r,i,()))=Sb) (fun j y g=>by omega) ?_ ?_
 .intro k x a g;have l:=q.ends x (ae a);simp only[zM a,af];refine zAK (xs:=x.2.2.1) (by omega) (fun m=>∀y,y∈x.2.2.1.take m->zMS (r,i,()) y=Sb) (fun y c=>by simp at c) ?_ ?_
  .intro m y c n;simp only[zM c,af];refine zF (fun h=>zA (e2r (e2r (e2r (e2r ?_))))) (fun h=>zA (e2l ⟨rfl,?_⟩))
   .have t:x.2.2.1.any (zMS (r,i,()))=true:=bC.2 ⟨y,ae c,h⟩;exact(qBy (p:=fun d:Ty.El yF=>d.2.2.1.any (zMS (r,i,()))) a t g).symm
   .intro z e;rw[bP,c]at e;simp at e;rcases e with e|rfl
    .exact n z e
    .exact h
  .intro n;rw[bD]at n;refine zA (e2l ⟨rfl,?_⟩)
   grind
 .intro g;refine zA (zPz ?_).symm;intro x a;obtain⟨j,f,rfl⟩:=aA a;exact g j _ f (by simp[f])
theorem zDY(l:List Int)(e:Int)(c:l.length<=1048576):Wp (uT (l,e,())) (fun k=>k=zHy (fun x=>x==e) l):=by
 unfold uT;dsimp only;refine zFA (p:=fun x:Int=>x==e) (by omega) ?_ rfl;intro i (x:Int) a;simp[zM a]
 grind
theorem zHq(l:List Int)(e:Int)(a:l.length<=1048576):Wp (v7 (l,e,())) (fun b=>b=l.any (fun x=>x==e)):=by unfold v7;dsimp only;refine zB ((zDY l e a).mono (fun k c=>zA ?_));subst c;rw[cR,decide_eq_true_eq];exact zKs
theorem zRQ(v:Ty.El zH)(r i:Int)(a:zFz v):Wp (zFZ (v,r,i,())) (fun k=>k=zK2 v r i):=by
 unfold zFZ;dsimp only;refine zB ((zEd v r i a).mono (fun k c=>?_));subst c;refine zO (fun h=>zA ?_) (fun h=>?_)
 .grind[zPz,zK2,zAT]
 .have:=a.links;refine zB ((zDY _ _ (by omega)).mono (fun k c=>zA ?_))
  grind[zK2,zAT]
theorem zQM(v:Ty.El zH)(r i:Int)(a:zFz v):Wp (zIF (v,r,i,())) (fun k=>k=zK2 v r i):=by
 unfold zIF;dsimp only;refine zB ((zC9 v r i a).mono (fun k c=>?_));subst c;have:=a.links;refine zFA (p:=fun l:Int=>decide (zAT v r i>=0)&&l==zAT v r i) (by omega) ?_ rfl
 grind[zM,decide,zAT]
theorem zYU{p:i->Bool}(l:List i):(!l.any p)=l.all (fun x=> !p x):=by
 grind
theorem zIA(v:Ty.El zH)(r i:Int)(a:zFz v):Wp (zGU (v,r,i,())) (fun b=>b=upB v r i):=by
 unfold zGU;dsimp only;refine zB ((zEd v r i a).mono (fun k c=>?_));subst c;refine zO (fun h=>zA ?_) (fun h=>?_)
 .grind[upB,zAT]
 .refine zB ((zRQ v r i a).mono (fun k c=>?_));subst c;have d:0<=zAT v r i:=by omega
  have f:=a.down;refine zB (zO (fun h=>zA (zA ?_)) (fun h=>?_))
  .unfold upB;simp only[d,decide_true,bV];symm;rw[au];intro x e;have:=a.down0 x e
   grind
  .refine zB ((zHq _ _ (by omega)).mono (fun b g=>zA (zA ?_)));simp_all[zYU,upB]
theorem zLM(v:Ty.El zH)(r i:Int)(a:zFz v):Wp (zJ5 (v,r,i,())) (fun b=>b=upB v r i):=by
 unfold zJ5;dsimp only;refine zB ((zC9 v r i a).mono (fun k c=>?_));subst c;refine zO (fun h=>zA ?_) (fun h=>?_)
 .grind[upB,zAT]
 .refine zB ((zQM v r i a).mono (fun k c=>?_));subst c;have f:0<=zAT v r i:=by omega
  have g:=a.down;refine zHm (P:=fun x:Int=>(x==zK2 v r i)=Sb) (by omega) ?_ (fun d=>zA ?_)
  .intro j (x:Int) e;simp only[zM e,af];refine zF (fun h=>zA (e2r (e2r ?_))) (fun h=>zA (e2l ⟨rfl,h⟩));unfold upB
   grind
  simp_all[upB]
def qBs(r:Ty.El zG)(a:Ty.El .str):Int:=zHy (fun x:Ty.El zZ=>x.1==a) r.2.2.1
theorem zLl(r:Ty.El zG)(a:Ty.El .str)(c:SmR r):Wp (zAt (r,a,())) (fun k=>k=qBs r a):=by
 unfold zAt;dsimp only;have:=c.i1;refine zFA (p:=fun x:Ty.El zZ=>x.1==a) (by omega) ?_ rfl
 grind[zM]
def uN(n:Int):Nat:=min n.toNat 32
def zD1(k:Nat):BitVec 32:=BitVec.allOnes 32<<< (32-k)
theorem zPS(n:Int):uN n<=32:=Nat.min_le_right _ _
theorem qDf(c:0<=g)(d:g<4294967296):Ab .u32 g=g:=by
 have a:((2:Int)^Ae .u32)=4294967296:=by decide
 simp[Ab,IntKind.signed,a];omega
theorem zVp(x:BitVec 32):Ab .u32 (x.toNat:Int)=(x.toNat:Int):=qDf (by omega) (by omega)
theorem zKk(x:BitVec 32):Ai 32 (x.toNat:Int)=x:=by
 grind
theorem qBT:∀i,i<32->zD1 i|||Ai 32 (Ab .u32 (1*2^min (31-i) 32))=zD1 (i+1):=by decide+kernel
theorem qCh:zD1 0=0#32:=by decide+kernel
theorem zWE:∀k,k<33->Ab .u32 (4294967295*2^min (32-k) 32)=((zD1 k).toNat:Int):=by decide+kernel
theorem zGb(n:Int):Wp (zCJ (n,())) (fun m=>m=((zD1 (uN n)).toNat:Int)):=by
 unfold zCJ;dsimp only
 refine zB ((zNk (n:=32) (by omega) (fun i (m:Int)=>m=((zD1 (min i (uN n))).toNat:Int)) (by simp[qCh]) (fun i g _=>by simp) ?_ (Q:=fun m=>m=((zD1 (uN n)).toNat:Int)) (fun g a=>by
  rw[a,Ao (zPS n)])).mono (fun m c=>zA c))
 intro i g d a;subst a;refine zO (fun h=>?_) (fun h=>zA ?_)
 .have h:(i:Int)<n:=h;have k:i<uN n:=by unfold uN;omega
  refine zO (fun _=>zA ?_) (fun e=>absurd ?_ e)
  .have f:min i (uN n)=i:=by omega
   have j:min (i+1) (uN n)=i+1:=by omega
   rw[f,j];dsimp only;rw[zI (by omega) (by omega),zNj (by omega) (by omega),show((31:Int) - (i:Int)).toNat=31-i by omega];change Ab .u32 (((Ai 32 ((zD1 i).toNat:Int)|||Ai 32 (Ab .u32 (1*2^min (31-i) 32))).toNat:Nat):Int)=_;rw[zKk,qBT i d,zVp]
  grind[zI,zNj]
 grind[Ao,uN]
theorem zYy(n:Int):(if(if(32:Int)<n then(32:Int)else n)>(0:Int)then if(32:Int)<n then(32:Int)else n else(0:Int))=(uN n:Int):=by
 grind[uN]
theorem qCX(n:Int):(if(0:Int)>if(32:Int)<n then(32:Int)else n then(0:Int)else if(32:Int)<n then(32:Int)else n)=(uN n:Int):=by
 grind[uN]
theorem zM5(n:Int):uN ((uN n:Nat):Int)=uN n:=by unfold uN;omega
theorem zJZ(n:Int):zIo (n,())=Sa ((zD1 (uN n)).toNat:Int):=by
 have a:=zPS n;unfold zIo zGE;simp[zYy];rw[zI (by omega) (by omega)];have c:(0:Int)<=32- ((uN n:Nat):Int):=by omega
 simp only[c,decide_true,cond_true];rw[show((32:Int) - ((uN n:Nat):Int)).toNat=32-uN n by omega];exact congrArg Sa (zWE _ (by omega))
def kD(a n:Int):Ty.El zD:=(((Ai 32 a&&&zD1 (uN n)).toNat:Int),(uN n:Int),())
def zJs(p:Ty.El zD)(a:Int):Bool:=(((Ai 32 a&&&zD1 (uN p.2.1)).toNat:Nat):Int)==p.1
theorem zWC(a:Int)(k:Nat):Ab .u32 (((Ai (Ae .u32) a&&&Ai (Ae .u32) ((zD1 k).toNat:Int)).toNat:Nat):Int)=((Ai 32 a&&&zD1 k).toNat:Int):=by change Ab .u32 (((Ai 32 a&&&Ai 32 ((zD1 k).toNat:Int)).toNat:Nat):Int)=_;rw[zKk,zVp]
theorem xN(a n:Int):zBT (a,n,())=Sa (kD a n):=by
 refine jS ?_;unfold zBT;dsimp only;refine zB (zK (zJZ _) ?_)
 grind[zYy,zA,zWC,zGE,kD]
theorem uB(a n:Int):uF (a,n,())=Sa (kD a n):=by
 refine jS ?_;unfold uF;simp only[qCX];refine zB ((zGb _).mono (fun m c=>zA ?_))
 grind[zM5,zWC,kD]
theorem zMo(p:Ty.El zD)(a:Int):zA4 (p,a,())=Sa (zJs p a):=by refine jS ?_;unfold zA4;dsimp only;refine zB ((zGb _).mono (fun m c=>zA ?_));subst c;rw[zWC];rfl
theorem zMq(p:Ty.El zD)(a:Int):zCf (p,a,())=Sa (zJs p a):=by refine jS ?_;unfold zCf;dsimp only;refine zB (zK (zJZ _) (zA ?_));rw[zWC];rfl
theorem qCf(a n:Int):zJs (kD a n) (kD a n).1=true:=by
 grind[zM5,zKk,BitVec.and_assoc,BitVec.and_self,zJs,kD]
theorem zHR(p q:Ty.El zD):zBo (p,q,())=Sa (decide (p.2.1<=q.2.1)&&zJs p q.1):=by refine jS ?_;unfold zBo;dsimp only;refine zB (zF (fun h=>zB (zK (zMo _ _) (zA (zA ?_)))) (fun h=>zA (zA ?_)))<;>(rw[h];rfl)
theorem zGa(p q:Ty.El zD):x9 (p,q,())=Sa ((decide (p.2.1<=q.2.1)&&zJs p q.1)||(decide (q.2.1<=p.2.1)&&zJs q p.1)):=by refine jS ?_;unfold x9;dsimp only;refine zB (zB (zK (zHR _ _) (zF (fun h=>zA (zA ?_)) (fun h=>zB (zK (zHR _ _) (zA (zA ?_)))))))<;>(rw[h];rfl)
def zC2(p:Ty.El zD):Bool:=decide (p.2.1>=0)&&(decide (p.2.1<=32)&&(Ai 32 p.1&&& ~~~ zD1 (uN p.2.1))==0#32)
theorem zCj(p:Ty.El zD):uE (p,())=Sa (zC2 p):=by
 refine jS ?_;unfold uE zC2;dsimp only;refine zB (zF (fun h=>zF (fun a=>zB ((zGb _).mono (fun m c=>zA (zA ?_)))) (fun a=>zA (zA ?_))) (fun h=>zA (zA ?_)))
 .subst c;rw[h,a];simp only[bV];change (Ab .u32 (((Ai 32 p.1&&& ~~~ Ai 32 ((zD1 (uN p.2.1)).toNat:Int)).toNat:Nat):Int)==(0:Int))=_;rw[zKk,zVp,cR,beq_iff_eq,beq_iff_eq];constructor
  .intro h;apply BitVec.eq_of_toNat_eq
   grind
  grind
 all_goals grind
theorem zZN(a n:Int):zC2 (kD a n)=true:=by
 unfold zC2 kD;have:=zPS n;simp only[zM5,zKk]
 have c:(Ai 32 a&&&zD1 (uN n)&&& ~~~ zD1 (uN n))=0#32:=by
  grind
 grind
end Go.Ve

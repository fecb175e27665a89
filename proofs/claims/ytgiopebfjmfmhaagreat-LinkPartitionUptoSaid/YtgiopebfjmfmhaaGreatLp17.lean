/- law16 -/
import Derived.Shelf.SlSortCmp.WholeK
import Derived.Test.YtgiopebfjmfmhaaGreatLp15
import Derived.Test.YtgiopebfjmfmhaaGreatLp11
import Derived.Test.YtgiopebfjmfmhaaGreatLp12
import Derived.Test.YtgiopebfjmfmhaaGreatLp13
set_option linter.unusedVariables false
open Option renaming some->Sa
open Option renaming bind->Aa
open List renaming length->Ab
open Go.Proofs renaming ltOf->Ac
open Go.IntKind renaming wrap->Ad
set_option maxRecDepth 1000000
set_option maxHeartbeats 4000000
namespace Go.Ve
open Go Go.Proofs Go.Sort Go.Shelf
def srt{α:Type}[Inhabited α](a:α->α->Int)(xs:List α):List α:=(pdq (ltOf a) xs.toArray 0 xs.length (Lib.bitLen xs.length) true true).toList
theorem zWt{α:Type}[Inhabited α]{a:α->α->Int}(d:SWO (ltOf a))(xs:List α):(srt a xs).Perm xs/\(srt a xs).length=xs.length/\∀(i j:Nat) x y,i<j->(srt a xs)[i]?=Sa x->(srt a xs)[j]?=Sa y->ltOf a y x=false:=by
 have h:=pdq_sorts (ltOf a) d xs.toArray 0 xs.toArray.size (Lib.bitLen xs.toArray.size) true true (aW _) (ai _) (Or.inl rfl);obtain⟨⟨l,_,m⟩,e⟩:=h;have f:(srt a xs).length=xs.length:=by grind[srt]
 refine⟨?_,f,?_⟩
 .have p:((pdq (ltOf a) xs.toArray 0 xs.toArray.size (Lib.bitLen xs.toArray.size) true true).extract 0 xs.toArray.size).toList=srt a xs:=by
   have g:∀(A:Array α) (n:Nat),A.size=n->A.extract 0 n=A:=by grind
   grind[srt]
  grind
 .intro i j x y c g q
  have k:j<xs.toArray.size:=by
   grind
  have r:=e i j (aW _) c k
  grind[Array.getElem?_eq_some_iff,srt,pdq,ltOf,Lib.bitLen]
theorem qFP{g:FuncId}{r:List V}{x:ElA [.clo g []]}(h:uI [.clo g []] r=Sa x):r=[.clo g []]:=by
 match r,h with
 |[],h=>cases h
 |d::e,h=>
  simp only[uI]at h;split at h
  .rename_i y a;split at h
   .rename_i m c
    have f:e=[]:=by
     match e,c with
     |[],_=>rfl
     |_::_,h=>cases h
    subst f
    cases d with
    |clo i j=>
     simp only[ATy.dec]at a;split at a
     .rename_i k;have l:i=g:=aL k;subst l
      match j,a with
      |[],_=>rfl
      |_::_,a=>cases a
     .cases a
    |_=>cases a
   .cases h
  .cases h
theorem zGg{P:Program}{ρ:Ren}{f g:FuncId}{a b:Ty}[Inhabited (Ty.pair a b).El](m:(Ty.pair a b).flat=true)(L:SlLaysF0.n6 P ρ)(S:f=ρ.f 6)(W:∀w,(isAgg (ρ.t 24)).run P w=.ok true w)(Y:∀w,(Go.sizeOf (ρ.t 24)).run P w=.ok (Ty.pair a b).size w)
  {c:ElS [.pair a b,.pair a b]->Option Int} {u:(Ty.pair a b).El->(Ty.pair a b).El->Int} (N:SWO (ltOf u)) (Z:∀args w,(callFunc g args).run P w=.ok (.enter g args) w)
  (hg:jJ jT P (fun _=>none) g (z7 (qQ [.pair a b,.pair a b] (.p (.int .i64)) c))) (hc:∀x y,c (x,y,())=Sa (u x y))
  (z:zAy jT P (fun _=>none) f () (.pair a b) [] [.clo g []] () [] (.tup [])):
  zCK jT P (fun _=>none) f (.pair a b) (uI [.clo g []]) (.tu []) (fun xs _=>if xs.length<1099511627776 then Sa (if xs=[]then[]else srt u xs,())else none):=by
 intro s xs r x ys y A j;have hr:=qFP A;subst hr;simp only at j;split at j
 .rename_i hl;simp only[ac,aI]at j;obtain⟨rfl,_⟩:=j;by_cases H:xs=[]
  .subst H;rw[if_pos rfl];exact z
  .rw[if_neg H];refine zAy.of rfl ?_;intro w F O blk v0 args hR hG hF B hb I C q;have ab:xs.map (Ty.pair a b).enc≠[]:=by simpa using H
   rcases B with⟨h,_⟩|⟨_,_,D,E,k⟩
   .grind
   simp only at E k;obtain⟨J,ad,ag⟩:=hb H
   match args,I with
   |⟨[u0,Q]⟩,_=>
    simp at C;subst C;have h1:=q 0 Q (.clo g []) rfl rfl
    have K:Q=.func (.func g) #[] #[]:=by
     cases h1 with
     |clo f cs ds hl h=>
      grind
    subst K;rw[E,aK,S];have l:=AnyQ.slices_SortFunc_eq L (Ty.pair a b).size W Y (Ty.pair a b).vals (fun x=>zMU _ x m) (fun x v hv=>zWb _ x v hv) u N g #[] blk 0 D xs.toArray w Z (zZP m hg hc blk 0 xs.toArray.size w) (zOT m k) J (by simp;omega);simp at l;refine l.mono ?_;rintro e w' ⟨rfl,n,os,rfl⟩;have al:(srt u xs).length=xs.length:=(zWt N xs).2.1
    have M:(pdq (ltOf u) xs.toArray 0 xs.length (Lib.bitLen xs.length) true true).size=xs.length:=by
     grind[srt]
    refine⟨.tuple #[],F,O,rfl,hR,⟨rfl,rfl,rfl,?_,?_,?_⟩,fun _ h=>.inl h,zFM.refl _ _,fun c G=>⟨.inl G,?_,(hF c G).2⟩,zCt.of (.inr ⟨?_,trivial,D,?_,?_⟩) (Rd.tup #[] [] rfl (fun i x d h=>by simp at h))⟩
    .simp[sortWorldK,putRowK]
    .grind[zMH]
    .simp[sortWorldK,grow,putRowK]
    .grind[sortWorldK,grow,putRowK,putRow,mapBlock,Sort.ahead]
    .grind
    .grind
    .exact zL4 m k M
 .cases j
end Go.Ve
namespace Go.Ve
noncomputable section
open Go
instance:Inhabited (Ty.El zQ):=⟨((0:Int),(0:Int),())⟩
def zNN(a b:Ty.El zQ):Int:=zN8 a.1 a.2.1 b.1 b.2.1
def uN:List (Ty.El zC)->ElA [.clo 120 []]->Option (List (Ty.El zC)×RTy.El (.tu [])):=vL
def jG:List (Ty.El zQ)->ElA [.clo 157 []]->Option (List (Ty.El zQ)×RTy.El (.tu [])):=fun a _=>if a.length<1099511627776 then Sa (if a=[]then[]else srt zNN a,())else none
def jB:List (Ty.El zQ)->ElA []->Option (List (Ty.El zQ)):=fun a _=>if a.length<1099511627776 then Sa (kP zTm a)else none
def zAC:ElS [(.sl zC)]->Option (RTy.El (.o zC)):=fun x=>match x with|(a,())=>Aa (app (136:Nat) [] a) fun(z:List (Ty.El zC))=>Sa z
def zBw:ElS [(.sl tI)]->Option (RTy.El (.p tI)):=fun x=>match x with|(c,())=>wL (zR (fun(a:Int)=>bif decide (a< (↑(Ab c):Int))then Aa (idx c a) fun(d:Int)=>bif d !=(0:Int)then Sa (Sum.inr (Sum.inr d))else Sa (Sum.inl (Ad .i64 (a+(1:Int))))else Sa (Sum.inr (Sum.inl ()))) (0:Int)) fun(e:Unit)=>Sa (0:Int)
def zIn:ElS [zC]->Option (RTy.El (.p tI)):=fun x=>match x with|(a,())=>Sa (if(3:Int)<a.2.2.1 then(3:Int)else a.2.2.1)
def zAE:ElS [zC,zC]->Option (RTy.El (.p tI)):=fun x=>match x with|(a,c,())=>Aa (bif a.2.1==(1:Int)then Sa (a.2.1==(1:Int))else Sa (a.2.1==(2:Int))) fun(y:Bool)=>bif y then Aa (qH (a.2.2.2.1,c.2.2.2.1,())) fun(z:Int)=>Sa z else bif a.2.1==(3:Int)then Aa (qH (a.2.2.1,c.2.2.1,())) fun(A:Int)=>Aa (qH (a.2.2.2.2.1,c.2.2.2.2.1,())) fun(B:Int)=>Aa (qH (a.2.2.2.2.2.1,c.2.2.2.2.2.1,())) fun(C:Int)=>Aa (qH (a.2.2.2.2.2.2.1,c.2.2.2.2.2.2.1,())) fun(d:Int)=>Aa (zBw ([A,B,C,d],())) fun(e:Int)=>Sa e else bif a.2.1==(4:Int)then Aa (qH (a.2.2.2.2.1,c.2.2.2.2.1,())) fun(f:Int)=>Aa (qH (a.2.2.1,c.2.2.1,())) fun(g:Int)=>Aa (qH (a.2.2.2.2.2.2.1,c.2.2.2.2.2.2.1,())) fun(h:Int)=>Aa (zBw ([f,g,h],())) fun(i:Int)=>Sa i else bif a.2.1==(5:Int)then Aa (zIn (a,())) fun(j:Int)=>Aa (zIn (c,())) fun(k:Int)=>Aa (qH (j,k,())) fun(l:Int)=>Aa (qH (c.2.2.2.2.2.2.2.1,a.2.2.2.2.2.2.2.1,())) fun(m:Int)=>Aa (qH ((↑(Ab a.2.2.2.2.2.2.2.2.1):Int),(↑(Ab c.2.2.2.2.2.2.2.2.1):Int),())) fun(n:Int)=>Aa (qH (a.2.2.2.2.1,c.2.2.2.2.1,())) fun(q:Int)=>Aa (qH (a.2.2.1,c.2.2.1,())) fun(r:Int)=>Aa (kI (a.2.2.2.2.2.2.2.2.2.1,c.2.2.2.2.2.2.2.2.2.1,())) fun(t:Int)=>Aa (zBw ([l,m,n,q,r,t],())) fun(u:Int)=>Sa u else Sa (0:Int)
def v7:ElS [zQ,zQ]->Option (RTy.El (.p tI)):=fun x=>match x with|(a,c,())=>Aa (qH (a.1,c.1,())) fun(d:Int)=>Aa (kI (a.2.1,c.2.1,())) fun(e:Int)=>Aa (zBw ([d,e],())) fun(f:Int)=>Sa f
def zC3:ElS [(.sl zC)]->Option (RTy.El (.p zC)):=fun x=>match x with|(f,())=>Aa (idx f (0:Int)) fun(u:Ty.El zC)=>Aa (Aa (sub f (1:Int) (↑(Ab f):Int)) fun(g:List (Ty.El zC))=>zR (fun(c:Int×Ty.El zC)=>bif decide (c.1< (↑(Ab g):Int))then Aa (Aa (idx g c.1) fun(h:Ty.El zC)=>Aa (zAE (h,c.2,())) fun(j:Int)=>bif decide (j< (0:Int))then Sa h else Sa c.2) fun(k:Ty.El zC)=>Sa (Sum.inl (Ad .i64 (c.1+(1:Int)),k))else Sa (Sum.inr c.2)) ((0:Int),u)) fun(a:Ty.El zC)=>Aa (zR (fun(d:Int×List (Ty.El zQ))=>bif decide (d.1< (↑(Ab f):Int))then Aa (Aa (idx f d.1) fun(i:Ty.El zC)=>Aa (zAE (i,a,())) fun(l:Int)=>bif l==(0:Int)then Aa (app (16:Nat) d.2 i.2.2.2.2.2.2.2.2.2.2.2.1) fun(m:List (Ty.El zQ))=>Sa m else Sa d.2) fun(n:List (Ty.El zQ))=>Sa (Sum.inl (Ad .i64 (d.1+(1:Int)),n))else Sa (Sum.inr d.2)) ((0:Int),[])) fun(e:List (Ty.El zQ))=>bif Nat.beq (Ab e) (Ab e)then Aa (jG e ((),())) fun(q:List (Ty.El zQ)×Unit)=>Aa (jB q.1 ()) fun(r:List (Ty.El zQ))=>Aa (zBA (a.2.2.2.2.2.2.2.2.1,())) fun(t:List Int)=>Sa (a.1,a.2.1,a.2.2.1,a.2.2.2.1,a.2.2.2.2.1,a.2.2.2.2.2.1,a.2.2.2.2.2.2.1,a.2.2.2.2.2.2.2.1,t,a.2.2.2.2.2.2.2.2.2.1,a.2.2.2.2.2.2.2.2.2.2.1,r,a.2.2.2.2.2.2.2.2.2.2.2.2)else none
def zCx:ElS [(.sl zC)]->Option (RTy.El (.p (.sl zC))):=fun x=>match x with|(n,())=>Aa (zAC (n,())) fun(f:List (Ty.El zC))=>bif Nat.beq (Ab f) (Ab f)&&Nat.beq (Ab f) (Ab f)then Aa (uN f ((),())) fun(g:List (Ty.El zC)×Unit)=>Aa (zR (fun(a:Int×List (Ty.El zC))=>bif decide (a.1< (↑(Ab g.1):Int))then Aa (zR (fun(c:Int×List (Ty.El zC))=>Aa (bif decide (c.1< (↑(Ab g.1):Int))then Aa (idx g.1 c.1) fun(h:Ty.El zC)=>Aa (idx g.1 a.1) fun(i:Ty.El zC)=>Sa (h.1.1==i.1.1&&(h.1.2.1==i.1.2.1&&true),c.2)else Sa (false,c.2)) fun(d:Bool×List (Ty.El zC))=>bif d.1 then Sa (Sum.inl (Ad .i64 (c.1+(1:Int)),d.2))else Sa (Sum.inr (d.2,c.1))) (Ad .i64 (a.1+(1:Int)),a.2)) fun(e:List (Ty.El zC)×Int)=>Aa (sub g.1 a.1 e.2) fun(j:List (Ty.El zC))=>Aa (zC3 (j,())) fun(k:Ty.El zD×Int×Int×Int×Int×Int×Int×Int×List Int×Int×Int×List (Ty.El zQ)×Bool×Unit)=>Aa (app (136:Nat) e.1 [k]) fun(l:List (Ty.El zC))=>Sa (Sum.inl (e.2,l))else Sa (Sum.inr a.2)) ((0:Int),[])) fun(m:List (Ty.El zC))=>Sa m else none
end
end Go.Ve
namespace Go.Ve
open Go
def orL:List Int->Int
 |[]=>0
 |a::r=>if a=0 then orL r else a
theorem zPC(l:List Int)(e:l.length<1000):zBw (l,())=Sa (orL l):=by
 refine vB ?_;unfold zBw;dsimp only;refine zA1 (xs:=l) (by omega) (fun i=>orL l=orL (l.drop i)) rfl ?_ (fun h=>zA ?_)
 .intro i x a c;have g:=(aa.1 a).1
  have d:l.drop i=x::l.drop (i+1):=by
   grind[List.drop_eq_getElem_cons,List.getElem?_eq_some_iff]
  rw[d]at c;simp[zO a];refine zH (fun h=>zA (e2r (e2r ?_))) (fun h=>zA (e2l ⟨rfl,?_⟩));all_goals simp_all[orL]
 .rw[h,List.drop_length];rfl
def qHm(a b:Int):Int:=if a<b then-1 else if b<a then 1 else 0
theorem zVb:∀(l:List (Int×Int)),orL (l.map (fun p=>qHm p.1 p.2))=zVO l
 |[]=>rfl
 |(a,b)::r=>by
  have c:=zVb r
  grind[orL,zVO,qHm]
theorem zAA(a b:Ty.El zQ):v7 (a,b,())=Sa (zNN a b):=by refine vB ?_;unfold v7;dsimp only;refine zB (zM (zCj _ _) (zB (zM (zRo _ _) (zB (zM (zPC _ (by simp)) (zA ?_))))));have:=zVb [(a.1,b.1),(a.2.1,b.2.1)];refine this.trans ?_;simp[zVO,zNN,zN8]
theorem zQS(a b:Ty.El zQ):Ac zNN a b=true↔hlt a b:=by unfold Ac zNN hlt;rw[decide_eq_true_eq];exact zVP
theorem zQQ:Go.Sort.SWO (Ac zNN) where
 irrefl:=fun x=>by
  grind[zQS,Ac,zNN,hlt,zHe]
 trans:=fun x y z a c=>by
  grind[zQS,hlt,zHe]
 ntrans:=fun x y z a c=>by
  grind[zQS,hlt,Ac,zNN,zHe]
end Go.Ve

/- law16 -/
import Derived.Shelf.Spec.SlicesGrow
import Derived.Deep.Upon
import Derived.Lib.ReflectliteSwap
import Derived.Test.YtgiopebfjmfmhaaGreatLp11
set_option linter.unusedVariables false
open Option renaming some->Sa,none->Sb
namespace Go.Ve
open Go Go.Proofs
def zBa(a:Nat->Nat):Nat->Nat
 |0=>0
 |m+1=>zBa a m+a m
def zC2(a:Nat->List Value):Nat->List Value
 |0=>[]
 |m+1=>zC2 a m++a m
theorem qAn(a:Nat->Nat){i j:Nat}(h:i<=j):zBa a i<=zBa a j:=by
 induction j with
 |zero=>grind
 |succ j d=>
  rcases a8 i (j+1)with c|c
  .grind[zBa]
  grind
theorem zTN{c:Nat->Nat}{a:Nat->List Value}{k:Nat}:∀{n:Nat},(∀j,j<n->(a j).length=c j*k)->(zC2 a n).length=zBa c n*k
 |0,_=>by simp[zC2,zBa]
 |n+1,h=>by have d:=zTN (n:=n) (fun j e=>h j (by omega));simp only[zC2,zBa,aN,d,h n (by omega),bF]
theorem zIW(b:Nat):∀(xs:List Value) (o:Nat) (w:World) (a:List Value),w.setCells b o (xs++a)=(w.setCells b o xs).setCells b (o+xs.length) a
 |[],o,w,a=>by simp[World.setCells]
 |x::xs,o,w,a=>by simp only[dz,World.setCells,aH];rw[zIW b xs (o+1) _ a,show o+1+xs.length=o+(xs.length+1) by omega]
theorem zFY(b:Nat):∀(vs:List Value) (o:Nat) (w:World) {i:Nat},i≠b->(w.setCells b o vs).heap[i]?=w.heap[i]?
 |[],_,_,_,_=>rfl
 |v::vs,o,w,i,h=>by
  rw[World.setCells,zFY b vs (o+1) _ h];simp only[World.setCell]
  grind
variable {C:Array Value}{j:TypeId}{g:World}
theorem zUC{i:Nat}(h:i<g.heap.size):(g.alloc (.cells C j)).drew.heap[i]?=g.heap[i]? :=by
 show(g.heap.push _)[i]?=_
 grind
theorem zUD:(g.alloc (.cells C j)).drew.heap[g.heap.size]?=Sa (.cells C j (0,0)):=by
 show(g.heap.push _)[g.heap.size]?=_
 grind
theorem zZV{b:Nat}(h:g.heap[b]?=Sa (.cells C j (0,0))){i:Nat}(hi:i<C.size):(g.cell? ⟨b,i,Sb⟩).isSome=true/\g.frozen? ⟨b,i,Sb⟩=false:=by simp_all[World.cell?,World.frozen?]
def zAu(w:World)(F:Blk->Prop)(t:Ty)(xs:List t.El)(row:List Value):Prop:=
 row.length=xs.length*t.size/\∀(i j:Nat) (e d:V),(xs.map t.enc)[i]?=Sa e->e.cells[j]?=Sa d->∃x,row[i*t.size+j]?=Sa x/\Rd w F x d
variable {l:Blk->Prop}{i:Ty}
theorem zAu.nil:zAu g l i [] []:=⟨by simp,fun w j e d h=>by simp at h⟩
variable {I:List i.El}
theorem zAu.append{ys:List i.El}{r s:List Value}(c:zAu g l i I r)(f:zAu g l i ys s):zAu g l i (I++ys) (r++s):=by
 refine⟨by rw[aN,aN,c.1,f.1,bF],?_⟩;intro F j e d a hd
 have w:j<i.size:=by
  have:=(aa.1 hd).1;obtain⟨x,_,rfl⟩:=aO.1 (ae a)
  rwa [wZ]at this
 rw[bw]at a;by_cases h:F<I.length
 .rw[aT (by simpa using h)]at a;obtain⟨x,hx,hr⟩:=c.2 F j e d a hd
  grind
 .rw[aF (by grind),aK]at a;obtain⟨x,hx,hr⟩:=f.2 (F-I.length) j e d a hd;refine⟨x,?_,hr⟩;have k:F*i.size+j=r.length+((F-I.length)*i.size+j):=by rw[c.1,<-bx,<-bF,show I.length+(F-I.length)=F by omega]
  grind
theorem zAu.mono{w w':World}{F F':Blk->Prop}{t:Ty}{xs:List t.El}{r:List Value}(h:zAu w F t xs r)(a:∀b,F b->F' b)(c:∀b:Nat,F b->w'.heap[b]?=w.heap[b]?):zAu w' F' t xs r:=
 ⟨h.1,fun i j e d f hd=>by obtain⟨x,hx,hr⟩:=h.2 i j e d f hd;exact⟨x,hx,hr.mono a c⟩⟩
theorem zAu.one{w:World}{F:Blk->Prop}{r:List Value}(h:zAu w F i I r):∀v,v∈r->v.oneCell'=true:=by
 refine zQJ (w:=w) (F:=F) (es:=I.map i.enc) (k:=i.size) (by rw[h.1,aK]) ?_ ?_ h.2
 .intro e a;obtain⟨x,_,rfl⟩:=aO.1 a;exact wZ i x
 .intro e a;obtain⟨x,_,rfl⟩:=aO.1 a
  grind[jM,zH4]
theorem zWu{P:Program}{v:Value}(h:Rd g l v (.tl i I))(xs:∀b:Nat,l b->b<g.heap.size):
  ∃(a:Option Addr) (c:Nat) (row:List Value),v=.slice a I.length c/\zAu g l i I row/\
   (∀(W:World) (f e':TypeId),P.underlying f=Sa (.slice e')->(∀t,t<g.heap.size->W.heap[t]?=g.heap[t]?)->Src P i.size f v I.length row W)/\
   (0<I.length->∃b off,a=Sa ⟨b,off,Sb⟩/\l (Blk.b b)/\∀(j:Nat) u,row[j]?=Sa u->g.cell? ⟨b,off+j,Sb⟩=Sa u):=by
 have p:=Rd.untl h;generalize A:V.sl (I.map i.enc)=d at p
 have q:∀(a:Option Addr) (c:Nat),I=[]->v=.slice a 0 c->∃(a:Option Addr) (c:Nat) (row:List Value),v=.slice a I.length c/\zAu g l i I row/\
   (∀(W:World) (f e':TypeId),P.underlying f=Sa (.slice e')->(∀t,t<g.heap.size->W.heap[t]?=g.heap[t]?)->Src P i.size f v I.length row W)/\
   (0<I.length->∃b off,a=Sa ⟨b,off,Sb⟩/\l (Blk.b b)/\∀(j:Nat) u,row[j]?=Sa u->g.cell? ⟨b,off+j,Sb⟩=Sa u):=by
  rintro a c rfl rfl;refine⟨a,c,[],rfl,.nil,fun W f e' r _=>?_,fun h=>absurd h (cA 0)⟩
  cases a with
  |none=>exact Src.ofNil W r c
  |some a=>grind[Src.ofSlice]
 cases p with
 |slemp a c=>
  simp_all
 |sl b off n k J w E B r G K=>
  cases A
  cases x:I with
  |nil=>grind
  |cons L M=>
   rw[<-x]
   have y:k=i.size:=by
    grind[wZ]
   subst y;rw[aK]at G
   have F:zAu g l i I ((List.range (I.length*i.size)).map w):=by
    refine⟨by simp,fun t j e d C D=>?_⟩;have H:=(aa.1 C).1;have p:=(aa.1 D).1;have N:=r e (ae C);rw[aK]at H;have:(t+1)*i.size<=I.length*i.size:=aq i.size (by omega)
    grind
   have m:∀(j:Nat) u,((List.range (I.length*i.size)).map w)[j]?=Sa u->g.cell? ⟨b,off+j,Sb⟩=Sa u:=by
    grind
   refine⟨Sa ⟨b,off,Sb⟩,n,_,by grind,F,fun W f e' z O=>?_,fun _=>⟨b,off,rfl,E,m⟩⟩;rw[aK];refine Src.ofSlice W z _ _ n _ F.1 (fun j u D=>?_) F.one
   grind[Addr.add_lit,World.cell?_of_block]
 |_=>cases A
theorem zLq(b:Nat):∀(vs:List Value) (o:Nat) (w:World),(w.setCells b o vs).os=w.os/\(w.setCells b o vs).tape=w.tape/\(w.setCells b o vs).output=w.output/\(w.setCells b o vs).drawn=w.drawn/\(w.setCells b o vs).heap.size=w.heap.size
 |[],_,_=>⟨rfl,rfl,rfl,rfl,rfl⟩
 |v::vs,o,w=>by
  have h:=zLq b vs (o+1) (w.setCell ⟨b,o,Sb⟩ v);have a:(w.setCell ⟨b,o,Sb⟩ v).heap.size=w.heap.size:=by simp only[World.setCell];split<;>simp
  exact⟨h.1,h.2.1,h.2.2.1,h.2.2.2.1,h.2.2.2.2.trans a⟩
theorem qDs{P:Program}{v:Value}{d:List (List i.El)}{TE:TypeId}(C:P.underlying j=Sa (.slice TE))(h:Rd g l v (.tl (.sl i) d))(p:∀b:Nat,l b->b<g.heap.size):
  ∃(n:Option Addr) (u w f:Nat) (z:Nat->Option Addr) (A:Nat->Nat) (k:Nat->List Value),v=.slice n d.length f/\(0<d.length->n=Sa ⟨u,w,Sb⟩)/\(0<d.length->u<g.heap.size)/\
   (∀TS,TS<d.length->g.cell? ⟨u,w+TS,Sb⟩=Sa (.slice (z TS) ((d[TS]?).getD []).length (A TS)))/\
   (∀TS,TS<d.length->zAu g l i ((d[TS]?).getD []) (k TS))/\
   (∀TS,TS<d.length->∀W:World,(∀t,t<g.heap.size->W.heap[t]?=g.heap[t]?)->Src P i.size j (.slice (z TS) ((d[TS]?).getD []).length (A TS)) ((d[TS]?).getD []).length (k TS) W):=by
 obtain⟨n,f,row,D,m,_,F⟩:=zWu (P:=P) h p
 have part:∀TS,TS<d.length->∃q:Option Addr×Nat×List Value,row[TS]?=Sa (.slice q.1 ((d[TS]?).getD []).length q.2.1)/\zAu g l i ((d[TS]?).getD []) q.2.2/\
   ∀W:World,(∀t,t<g.heap.size->W.heap[t]?=g.heap[t]?)->Src P i.size j (.slice q.1 ((d[TS]?).getD []).length q.2.1) ((d[TS]?).getD []).length q.2.2 W:=by
  intro TS E;obtain⟨x,B,G⟩:=m.2 TS 0 (.tl i d[TS]) (.tl i d[TS]) (by simp[Ty.enc]) rfl;simp[Ty.size]at B;obtain⟨a,c,r,rfl,H,I,_⟩:=zWu (P:=P) G p;have e:(d[TS]?).getD []=d[TS]:=by simp[E]
  rw[e];exact⟨(a,c,r),B,H,fun W J=>I W j TE C J⟩
 let q:Nat->Option Addr×Nat×List Value:=fun TS=>if h:TS<d.length then Classical.choose (part TS h)else(Sb,0,[])
 have N:∀TS (h:TS<d.length),q TS=Classical.choose (part TS h):=fun TS h=>dif_pos h;by_cases K:0<d.length
 .obtain⟨b,y,L,M,O⟩:=F K;refine⟨n,b,y,f,fun TS=>(q TS).1,fun TS=>(q TS).2.1,fun TS=>(q TS).2.2,D,fun _=>L,fun _=>p b M,?_,?_,?_⟩;all_goals grind
 simp_all
theorem zUe{α:Type}{a:List (List α)}{m:Nat}(h:m<a.length):(a.take (m+1)).flatten=(a.take m).flatten++((a[m]?).getD []):=by
 grind[List.take_add_one,List.flatten_append,Option.toList_some,List.flatten_cons,List.flatten_nil]
theorem zWp{α:Type}(a:List (List α)):∀m,m<=a.length->zBa (fun j=>((a[j]?).getD []).length) m=(a.take m).flatten.length
 |0,_=>rfl
 |m+1,h=>by simp only[zBa,zWp a m (by omega)];rw[zUe (by omega),aN]
theorem zTM{w:World}{F:Blk->Prop}{t:Ty}{a:List (List t.El)}{c:Nat->List Value}(h:∀j,j<a.length->zAu w F t ((a[j]?).getD []) (c j)):∀m,m<=a.length->zAu w F t (a.take m).flatten (zC2 c m)
 |0,_=>.nil
 |m+1,f=>by have d:=zTM h m (by omega);have e:=h m (by omega);rw[zUe (by omega)];exact d.append e
theorem zJD{b:Nat}{et:TypeId}:∀(vs:List Value) (o:Nat) (w:World) (c:Array Value),w.heap[b]?=Sa (.cells c et (0,0))->(w.setCells b o vs).heap[b]?=Sa (.cells (j5 c o vs) et (0,0))
 |[],_,_,_,h=>h
 |v::vs,o,w,c,h=>by
  have a:=zJE (o:=o) h v;have d:(w.setCell ⟨b,o,Sb⟩ v).heap[b]?=Sa (.cells (c.setIfInBounds o v) et (0,0)):=by rw[a];exact zAS (zEz h)
  exact zJD vs (o+1) _ _ d
theorem zVt{P:Program}{G:Nat->Option (List V)}{f:FuncId}{t:Ty}{TS TE:TypeId}{bytes:Nat}(hu:P.underlying TS=Sa (.slice TE))
  (D:∀(E:Option Addr) (H k N l:Nat) (C:Nat->Option Addr) (z Y:Nat->Nat) (c:Nat->List Value) (w:World),
   (0<N->E=Sa ⟨H,k,Sb⟩)->(0<N->H<w.heap.size)->N<=1048576->(∀j,j<N->w.cell? ⟨H,k+j,Sb⟩=Sa (.slice (C j) (z j) (Y j)))->
   (∀j,j<N->∀W:World,(∀i,i<w.heap.size->W.heap[i]?=w.heap[i]?)->Src P t.size TS (.slice (C j) (z j) (Y j)) (z j) (c j) W)->zBa z N*bytes<=0x800000000000->
   Calls P f #[.slice E N l] w fun e w'=>∃v,e=.returned v/\((zBa z N=0/\v=.slice Sb 0 0/\w'=w)\/
    (0<zBa z N/\∃(G:Nat) (Z:Array Value),v=.slice (Sa ⟨w.heap.size,0,Sb⟩) (zBa z N) G/\zBa z N<=G/\Z.size=G*t.size/\w'=(w.alloc (.cells Z TE)).drew.setCells w.heap.size 0 (zC2 c N)))):
  jJ jT P G f (z7 (qQ [.sl (.sl t)] (.o t) (fun x=>if(2*x.1.flatten.length+1024)*bytes<=0x800000000000/\x.1.length<=1048576 then Sa x.1.flatten else Sb))):=by
 intro w F O s m ds s' r n hG hF I ab g;simp only[z7,qQ,vR]at g
 cases hx:zBv [.sl (.sl t)] ds with
 |none=>grind
 |some x=>
  rw[hx]at g;have J:=kH [.sl (.sl t)] ds x hx;have ad:ds.length=1:=J.len;have al:m.size=1:=I.trans ad;obtain⟨a,u⟩:=x;have hv:Rd w F m[0] (.tl (.sl t) a):=J.get 0 (ds[0]'(by omega)) (.tl (.sl t) a) (by simp) rfl w F _ (ab 0 _ _ (by simp) (by simp));by_cases h:(2*a.flatten.length+1024)*bytes<=0x800000000000/\a.length<=1048576
  .simp only[if_pos h,bv,ac,aI]at g;obtain⟨rfl,rfl⟩:=g;have K:∀b:Nat,F b->b<w.heap.size:=fun b h=>(hF b h).1;obtain⟨E,H,k,l,C,Y,c,ha,h1,h2,h3,h4,h5⟩:=qDs (P:=P) hu hv K
   have B:m= #[.slice E a.length l]:=by
    grind
   have L:zBa (fun j=>((a[j]?).getD []).length) a.length=a.flatten.length:=by rw[zWp a _ (ai _),bU]
   have p:zAu w F t a.flatten (zC2 c a.length):=by
    have:=zTM h4 a.length (ai _)
    grind
   have an:a.flatten.length*bytes<=0x800000000000:=aj (aq _ (by omega)) h.1;have q:=D E H k a.length l C (fun j=>((a[j]?).getD []).length) Y c w h1 h2 h.2 h3 h5 (by grind);rw[<-B]at q;refine q.mono ?_;rw[L];rintro e w' ⟨v,rfl,(⟨h0,rfl,rfl⟩|⟨h0,Gc,Z,rfl,ag,hZ,rfl⟩)⟩
   .have M:a.flatten=[]:=aJ h0;refine⟨_,F,O,rfl,n,xC.refl _ _,fun b h=>.inl h,.refl _ _,fun b h=>⟨.inl h,hF b h⟩,.inl ⟨?_,Sb,rfl⟩⟩;rw[M];rfl
   .obtain⟨e1,e2,e3,e4,e5⟩:=zLq w.heap.size (zC2 c a.length) 0 (w.alloc (.cells Z TE)).drew;have ao:((w.alloc (.cells Z TE)).drew.setCells w.heap.size 0 (zC2 c a.length)).heap.size=w.heap.size+1:=by rw[e5];show(w.heap.push _).size=_;simp
    have A:∀i,i<w.heap.size->((w.alloc (.cells Z TE)).drew.setCells w.heap.size 0 (zC2 c a.length)).heap[i]?=w.heap[i]? :=fun i hi=>by
     grind[zFY,Nat.ne_of_lt,zUC]
    have ap:=p.1;have av:a.flatten.length*t.size<=Z.size:=by rw[hZ];exact aq _ ag
    refine⟨_,F,O,rfl,n,⟨e1,e2,e3,by omega,fun b h _=>A b h,?_⟩,fun b h=>.inl h,.refl _ _,?_,.inr ⟨?_,w.heap.size,Gc,?_,ai _,by omega,?_,n.1 _,t.size,?_⟩⟩
    .rw[e4];show w.drawn<=w.drawn+1;omega
    .grind
    .intro hh
     have:a.flatten.length=0:=by
      have:=congrArg List.length hh
      grind
     omega
    .grind
    .grind
    .have hm:zAu ((w.alloc (.cells Z TE)).drew.setCells w.heap.size 0 (zC2 c a.length)) F t a.flatten (zC2 c a.length):=
      p.mono (fun b h=>h) (fun b h=>A b (K b h))
     have Q:=zJD (zC2 c a.length) 0 (w.alloc (.cells Z TE)).drew Z (et:=TE) (b:=w.heap.size) zUD;refine⟨_,TE,Q,by rw[xG];exact hZ,by grind,?_,?_⟩
     .intro e he;obtain⟨y,_,rfl⟩:=aO.1 he;exact wZ t y
     .intro i j e d x he C hx;obtain⟨x',S,hr⟩:=hm.2 i j e d he C;have hlt:=(aa.1 S).1;rw[zGN _ _ _ _ (by omega),if_pos ⟨aW _,by omega⟩,Nat.sub_zero,S]at hx
      grind
  grind
end Go.Ve

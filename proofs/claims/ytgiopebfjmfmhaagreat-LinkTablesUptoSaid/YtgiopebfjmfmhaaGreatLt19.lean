/- law16 -/
import Derived.Shelf.Spec.SlicesGrow
import Derived.Deep.Upon
import Derived.Lib.ReflectliteSwap
import Derived.Test.YtgiopebfjmfmhaaGreatLt11
set_option linter.unusedVariables false
open Option renaming some->Sa,none->Sb
namespace Go.Ve
open Go Go.Proofs
def zBj(a:Nat->Nat):Nat->Nat
 |0=>0
 |m+1=>zBj a m+a m
def zDc(a:Nat->List Value):Nat->List Value
 |0=>[]
 |m+1=>zDc a m++a m
theorem qA2(a:Nat->Nat){i j:Nat}(h:i<=j):zBj a i<=zBj a j:=by
 induction j with
 |zero=>grind
 |succ j d=>
  rcases aZ i (j+1)with c|c
  .grind[zBj]
  grind
theorem zUs{c:Nat->Nat}{a:Nat->List Value}{k:Nat}:∀{n:Nat},(∀j,j<n->(a j).length=c j*k)->(zDc a n).length=zBj c n*k
 |0,_=>by simp[zDc,zBj]
 |n+1,h=>by have d:=zUs (n:=n) (fun j e=>h j (by omega));simp only[zDc,zBj,aN,d,h n (by omega),bE]
theorem zJf(b:Nat):∀(xs:List Value) (o:Nat) (w:World) (a:List Value),w.setCells b o (xs++a)=(w.setCells b o xs).setCells b (o+xs.length) a
 |[],o,w,a=>by simp[World.setCells]
 |x::xs,o,w,a=>by simp only[dq,World.setCells,aH];rw[zJf b xs (o+1) _ a,show o+1+xs.length=o+(xs.length+1) by omega]
theorem zGc(b:Nat):∀(vs:List Value) (o:Nat) (w:World) {i:Nat},i≠b->(w.setCells b o vs).heap[i]?=w.heap[i]?
 |[],_,_,_,_=>rfl
 |v::vs,o,w,i,h=>by
  rw[World.setCells,zGc b vs (o+1) _ h];simp only[World.setCell]
  grind
variable {C:Array Value}{j:TypeId}{g:World}
theorem zVi{i:Nat}(h:i<g.heap.size):(g.alloc (.cells C j)).drew.heap[i]?=g.heap[i]? :=by
 show(g.heap.push _)[i]?=_
 grind
theorem zVj:(g.alloc (.cells C j)).drew.heap[g.heap.size]?=Sa (.cells C j (0,0)):=by
 show(g.heap.push _)[g.heap.size]?=_
 grind
theorem qAz{b:Nat}(h:g.heap[b]?=Sa (.cells C j (0,0))){i:Nat}(hi:i<C.size):(g.cell? ⟨b,i,Sb⟩).isSome=true/\g.frozen? ⟨b,i,Sb⟩=false:=by simp_all[World.cell?,World.frozen?]
def zAD(w:World)(F:Blk->Prop)(t:Ty)(xs:List t.El)(row:List Value):Prop:=
 row.length=xs.length*t.size/\∀(i j:Nat) (e d:V),(xs.map t.enc)[i]?=Sa e->e.cells[j]?=Sa d->∃x,row[i*t.size+j]?=Sa x/\Rd w F x d
variable {l:Blk->Prop}{i:Ty}
theorem zAD.nil:zAD g l i [] []:=⟨by simp,fun w j e d h=>by simp at h⟩
variable {I:List i.El}
theorem zAD.append{ys:List i.El}{r s:List Value}(c:zAD g l i I r)(f:zAD g l i ys s):zAD g l i (I++ys) (r++s):=by
 refine⟨by rw[aN,aN,c.1,f.1,bE],?_⟩;intro F j e d a hd
 have w:j<i.size:=by
  have:=(aa.1 hd).1;obtain⟨x,_,rfl⟩:=aO.1 (ae a)
  rwa [w7]at this
 rw[bu]at a;by_cases h:F<I.length
 .rw[aR (by simpa using h)]at a;obtain⟨x,hx,hr⟩:=c.2 F j e d a hd
  grind
 .rw[aD (by grind),aL]at a;obtain⟨x,hx,hr⟩:=f.2 (F-I.length) j e d a hd;refine⟨x,?_,hr⟩;have k:F*i.size+j=r.length+((F-I.length)*i.size+j):=by rw[c.1,<-bv,<-bE,show I.length+(F-I.length)=F by omega]
  grind
theorem zAD.mono{w w':World}{F F':Blk->Prop}{t:Ty}{xs:List t.El}{r:List Value}(h:zAD w F t xs r)(a:∀b,F b->F' b)(c:∀b:Nat,F b->w'.heap[b]?=w.heap[b]?):zAD w' F' t xs r:=
 ⟨h.1,fun i j e d f hd=>by obtain⟨x,hx,hr⟩:=h.2 i j e d f hd;exact⟨x,hx,hr.mono a c⟩⟩
theorem zAD.one{w:World}{F:Blk->Prop}{r:List Value}(h:zAD w F i I r):∀v,v∈r->v.oneCell'=true:=by
 refine zRi (w:=w) (F:=F) (es:=I.map i.enc) (k:=i.size) (by rw[h.1,aL]) ?_ ?_ h.2
 .intro e a;obtain⟨x,_,rfl⟩:=aO.1 a;exact w7 i x
 .intro e a;obtain⟨x,_,rfl⟩:=aO.1 a
  grind[jN,zIk]
theorem zW8{P:Program}{v:Value}(h:Rd g l v (.tl i I))(xs:∀b:Nat,l b->b<g.heap.size):
  ∃(a:Option Addr) (c:Nat) (row:List Value),v=.slice a I.length c/\zAD g l i I row/\
   (∀(W:World) (f e':TypeId),P.underlying f=Sa (.slice e')->(∀t,t<g.heap.size->W.heap[t]?=g.heap[t]?)->Src P i.size f v I.length row W)/\
   (0<I.length->∃b off,a=Sa ⟨b,off,Sb⟩/\l (Blk.b b)/\∀(j:Nat) u,row[j]?=Sa u->g.cell? ⟨b,off+j,Sb⟩=Sa u):=by
 have p:=Rd.untl h;generalize A:V.sl (I.map i.enc)=d at p
 have q:∀(a:Option Addr) (c:Nat),I=[]->v=.slice a 0 c->∃(a:Option Addr) (c:Nat) (row:List Value),v=.slice a I.length c/\zAD g l i I row/\
   (∀(W:World) (f e':TypeId),P.underlying f=Sa (.slice e')->(∀t,t<g.heap.size->W.heap[t]?=g.heap[t]?)->Src P i.size f v I.length row W)/\
   (0<I.length->∃b off,a=Sa ⟨b,off,Sb⟩/\l (Blk.b b)/\∀(j:Nat) u,row[j]?=Sa u->g.cell? ⟨b,off+j,Sb⟩=Sa u):=by
  rintro a c rfl rfl;refine⟨a,c,[],rfl,.nil,fun W f e' r _=>?_,fun h=>absurd h (co 0)⟩
  cases a with
  |none=>exact Src.ofNil W r c
  |some a=>grind[Src.ofSlice]
 cases p with
 |slemp a c=>
  simp_all
 |sl b off n k J w E B r G K=>
  cases A
  cases x:I with
  |nil=>grind
  |cons L M=>
   rw[<-x]
   have y:k=i.size:=by
    grind[w7]
   subst y;rw[aL]at G
   have F:zAD g l i I ((List.range (I.length*i.size)).map w):=by
    refine⟨by simp,fun t j e d C D=>?_⟩;have H:=(aa.1 C).1;have p:=(aa.1 D).1;have N:=r e (ae C);rw[aL]at H;have:(t+1)*i.size<=I.length*i.size:=aq i.size (by omega)
    grind
   have m:∀(j:Nat) u,((List.range (I.length*i.size)).map w)[j]?=Sa u->g.cell? ⟨b,off+j,Sb⟩=Sa u:=by
    grind
   refine⟨Sa ⟨b,off,Sb⟩,n,_,by grind,F,fun W f e' z O=>?_,fun _=>⟨b,off,rfl,E,m⟩⟩;rw[aL];refine Src.ofSlice W z _ _ n _ F.1 (fun j u D=>?_) F.one
   grind[Addr.add_lit,World.cell?_of_block]
 |_=>cases A
theorem zLR(b:Nat):∀(vs:List Value) (o:Nat) (w:World),(w.setCells b o vs).os=w.os/\(w.setCells b o vs).tape=w.tape/\(w.setCells b o vs).output=w.output/\(w.setCells b o vs).drawn=w.drawn/\(w.setCells b o vs).heap.size=w.heap.size
 |[],_,_=>⟨rfl,rfl,rfl,rfl,rfl⟩
 |v::vs,o,w=>by
  have h:=zLR b vs (o+1) (w.setCell ⟨b,o,Sb⟩ v);have a:(w.setCell ⟨b,o,Sb⟩ v).heap.size=w.heap.size:=by simp only[World.setCell];split<;>simp
  exact⟨h.1,h.2.1,h.2.2.1,h.2.2.2.1,h.2.2.2.2.trans a⟩
theorem qD6{P:Program}{v:Value}{d:List (List i.El)}{TE:TypeId}(C:P.underlying j=Sa (.slice TE))(h:Rd g l v (.tl (.sl i) d))(p:∀b:Nat,l b->b<g.heap.size):
  ∃(n:Option Addr) (u w f:Nat) (z:Nat->Option Addr) (A:Nat->Nat) (k:Nat->List Value),v=.slice n d.length f/\(0<d.length->n=Sa ⟨u,w,Sb⟩)/\(0<d.length->u<g.heap.size)/\
   (∀TS,TS<d.length->g.cell? ⟨u,w+TS,Sb⟩=Sa (.slice (z TS) ((d[TS]?).getD []).length (A TS)))/\
   (∀TS,TS<d.length->zAD g l i ((d[TS]?).getD []) (k TS))/\
   (∀TS,TS<d.length->∀W:World,(∀t,t<g.heap.size->W.heap[t]?=g.heap[t]?)->Src P i.size j (.slice (z TS) ((d[TS]?).getD []).length (A TS)) ((d[TS]?).getD []).length (k TS) W):=by
 obtain⟨n,f,row,D,m,_,F⟩:=zW8 (P:=P) h p
 have part:∀TS,TS<d.length->∃q:Option Addr×Nat×List Value,row[TS]?=Sa (.slice q.1 ((d[TS]?).getD []).length q.2.1)/\zAD g l i ((d[TS]?).getD []) q.2.2/\
   ∀W:World,(∀t,t<g.heap.size->W.heap[t]?=g.heap[t]?)->Src P i.size j (.slice q.1 ((d[TS]?).getD []).length q.2.1) ((d[TS]?).getD []).length q.2.2 W:=by
  intro TS E;obtain⟨x,B,G⟩:=m.2 TS 0 (.tl i d[TS]) (.tl i d[TS]) (by simp[Ty.enc]) rfl;simp[Ty.size]at B;obtain⟨a,c,r,rfl,H,I,_⟩:=zW8 (P:=P) G p;have e:(d[TS]?).getD []=d[TS]:=by simp[E]
  rw[e];exact⟨(a,c,r),B,H,fun W J=>I W j TE C J⟩
 let q:Nat->Option Addr×Nat×List Value:=fun TS=>if h:TS<d.length then Classical.choose (part TS h)else(Sb,0,[])
 have N:∀TS (h:TS<d.length),q TS=Classical.choose (part TS h):=fun TS h=>dif_pos h;by_cases K:0<d.length
 .obtain⟨b,y,L,M,O⟩:=F K;refine⟨n,b,y,f,fun TS=>(q TS).1,fun TS=>(q TS).2.1,fun TS=>(q TS).2.2,D,fun _=>L,fun _=>p b M,?_,?_,?_⟩;all_goals grind
 simp_all
theorem zUV{α:Type}{a:List (List α)}{m:Nat}(h:m<a.length):(a.take (m+1)).flatten=(a.take m).flatten++((a[m]?).getD []):=by
 grind[List.take_add_one,List.flatten_append,Option.toList_some,List.flatten_cons,List.flatten_nil]
theorem zW3{α:Type}(a:List (List α)):∀m,m<=a.length->zBj (fun j=>((a[j]?).getD []).length) m=(a.take m).flatten.length
 |0,_=>rfl
 |m+1,h=>by simp only[zBj,zW3 a m (by omega)];rw[zUV (by omega),aN]
theorem zUr{w:World}{F:Blk->Prop}{t:Ty}{a:List (List t.El)}{c:Nat->List Value}(h:∀j,j<a.length->zAD w F t ((a[j]?).getD []) (c j)):∀m,m<=a.length->zAD w F t (a.take m).flatten (zDc c m)
 |0,_=>.nil
 |m+1,f=>by have d:=zUr h m (by omega);have e:=h m (by omega);rw[zUV (by omega)];exact d.append e
theorem zJ0{b:Nat}{et:TypeId}:∀(vs:List Value) (o:Nat) (w:World) (c:Array Value),w.heap[b]?=Sa (.cells c et (0,0))->(w.setCells b o vs).heap[b]?=Sa (.cells (j8 c o vs) et (0,0))
 |[],_,_,_,h=>h
 |v::vs,o,w,c,h=>by
  have a:=zJ1 (o:=o) h v;have d:(w.setCell ⟨b,o,Sb⟩ v).heap[b]?=Sa (.cells (c.setIfInBounds o v) et (0,0)):=by rw[a];exact zA3 (zEN h)
  exact zJ0 vs (o+1) _ _ d
theorem zV7{P:Program}{G:Nat->Option (List V)}{f:FuncId}{t:Ty}{TS TE:TypeId}{bytes:Nat}(hu:P.underlying TS=Sa (.slice TE))
  (D:∀(E:Option Addr) (H k N l:Nat) (C:Nat->Option Addr) (z Y:Nat->Nat) (c:Nat->List Value) (w:World),
   (0<N->E=Sa ⟨H,k,Sb⟩)->(0<N->H<w.heap.size)->N<=1048576->(∀j,j<N->w.cell? ⟨H,k+j,Sb⟩=Sa (.slice (C j) (z j) (Y j)))->
   (∀j,j<N->∀W:World,(∀i,i<w.heap.size->W.heap[i]?=w.heap[i]?)->Src P t.size TS (.slice (C j) (z j) (Y j)) (z j) (c j) W)->zBj z N*bytes<=0x800000000000->
   Calls P f #[.slice E N l] w fun e w'=>∃v,e=.returned v/\((zBj z N=0/\v=.slice Sb 0 0/\w'=w)\/
    (0<zBj z N/\∃(G:Nat) (Z:Array Value),v=.slice (Sa ⟨w.heap.size,0,Sb⟩) (zBj z N) G/\zBj z N<=G/\Z.size=G*t.size/\w'=(w.alloc (.cells Z TE)).drew.setCells w.heap.size 0 (zDc c N)))):
  jK jV P G f (z6 (qQ [.sl (.sl t)] (.o t) (fun x=>if(2*x.1.flatten.length+1024)*bytes<=0x800000000000/\x.1.length<=1048576 then Sa x.1.flatten else Sb))):=by
 intro w F O s m ds s' r n hG hF I ab g;simp only[z6,qQ,vT]at g
 cases hx:zBB [.sl (.sl t)] ds with
 |none=>grind
 |some x=>
  rw[hx]at g;have J:=kK [.sl (.sl t)] ds x hx;have ad:ds.length=1:=J.len;have al:m.size=1:=I.trans ad;obtain⟨a,u⟩:=x;have hv:Rd w F m[0] (.tl (.sl t) a):=J.get 0 (ds[0]'(by omega)) (.tl (.sl t) a) (by simp) rfl w F _ (ab 0 _ _ (by simp) (by simp));by_cases h:(2*a.flatten.length+1024)*bytes<=0x800000000000/\a.length<=1048576
  .simp only[if_pos h,bt,ac,aI]at g;obtain⟨rfl,rfl⟩:=g;have K:∀b:Nat,F b->b<w.heap.size:=fun b h=>(hF b h).1;obtain⟨E,H,k,l,C,Y,c,ha,h1,h2,h3,h4,h5⟩:=qD6 (P:=P) hu hv K
   have B:m= #[.slice E a.length l]:=by
    grind
   have L:zBj (fun j=>((a[j]?).getD []).length) a.length=a.flatten.length:=by rw[zW3 a _ (aj _),bD]
   have p:zAD w F t a.flatten (zDc c a.length):=by
    have:=zUr h4 a.length (aj _)
    grind
   have an:a.flatten.length*bytes<=0x800000000000:=ai (aq _ (by omega)) h.1;have q:=D E H k a.length l C (fun j=>((a[j]?).getD []).length) Y c w h1 h2 h.2 h3 h5 (by grind);rw[<-B]at q;refine q.mono ?_;rw[L];rintro e w' ⟨v,rfl,(⟨h0,rfl,rfl⟩|⟨h0,Gc,Z,rfl,ag,hZ,rfl⟩)⟩
   .have M:a.flatten=[]:=aJ h0;refine⟨_,F,O,rfl,n,xI.refl _ _,fun b h=>.inl h,.refl _ _,fun b h=>⟨.inl h,hF b h⟩,.inl ⟨?_,Sb,rfl⟩⟩;rw[M];rfl
   .obtain⟨e1,e2,e3,e4,e5⟩:=zLR w.heap.size (zDc c a.length) 0 (w.alloc (.cells Z TE)).drew;have ao:((w.alloc (.cells Z TE)).drew.setCells w.heap.size 0 (zDc c a.length)).heap.size=w.heap.size+1:=by rw[e5];show(w.heap.push _).size=_;simp
    have A:∀i,i<w.heap.size->((w.alloc (.cells Z TE)).drew.setCells w.heap.size 0 (zDc c a.length)).heap[i]?=w.heap[i]? :=fun i hi=>by
     grind[zGc,Nat.ne_of_lt,zVi]
    have ap:=p.1;have av:a.flatten.length*t.size<=Z.size:=by rw[hZ];exact aq _ ag
    refine⟨_,F,O,rfl,n,⟨e1,e2,e3,by omega,fun b h _=>A b h,?_⟩,fun b h=>.inl h,.refl _ _,?_,.inr ⟨?_,w.heap.size,Gc,?_,aj _,by omega,?_,n.1 _,t.size,?_⟩⟩
    .rw[e4];show w.drawn<=w.drawn+1;omega
    .grind
    .intro hh
     have:a.flatten.length=0:=by
      have:=congrArg List.length hh
      grind
     omega
    .grind
    .grind
    .have hm:zAD ((w.alloc (.cells Z TE)).drew.setCells w.heap.size 0 (zDc c a.length)) F t a.flatten (zDc c a.length):=
      p.mono (fun b h=>h) (fun b h=>A b (K b h))
     have Q:=zJ0 (zDc c a.length) 0 (w.alloc (.cells Z TE)).drew Z (et:=TE) (b:=w.heap.size) zVj;refine⟨_,TE,Q,by rw[xL];exact hZ,by grind,?_,?_⟩
     .intro e he;obtain⟨y,_,rfl⟩:=aO.1 he;exact w7 t y
     .intro i j e d x he C hx;obtain⟨x',S,hr⟩:=hm.2 i j e d he C;have hlt:=(aa.1 S).1;rw[zGX _ _ _ _ (by omega),if_pos ⟨aY _,by omega⟩,Nat.sub_zero,S]at hx
      grind
  grind
end Go.Ve

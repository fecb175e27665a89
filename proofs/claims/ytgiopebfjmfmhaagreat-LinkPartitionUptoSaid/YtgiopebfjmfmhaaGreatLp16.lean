/- law16 -/
import Derived.Carry
import Derived.Test.YtgiopebfjmfmhaaGreatLp8
set_option linter.unusedVariables false
open Option renaming some->Sa
namespace Go.Ve
open Go
def Ty.fits(N:Nat):(t:Ty)->t.El->Prop
 |.int k,n=>(Lit.int k n).wf=true
 |.bool,_=>True
 |.str,s=>s.size<=N
 |.unit,_=>True
 |.pair a b,x=>a.fits N x.1/\b.fits N x.2
 |.sl t,xs=>xs.length<=N/\∀x∈xs,t.fits N x
 |.rf,_=>False
 |.hd,_=>False
 |.pt _,_=>False
def zX0(P:Program)(n:Nat)(d:TypeId->Bool):Nat->Nat->List Field->Bool
 |off,c,[]=>off==c
 |off,c,f::r=>f.offset==off&&(match zLJ P n f.type with
  |some a=>a.size==P.cellsOf f.type
  |none=>false)&&d f.type&&zX0 P n d (off+P.cellsOf f.type) c r
def zHx(P:Program):Nat->TypeId->Bool
 |0,_=>false
 |n+1,t=>match P.underlying t with
  |some .bool=>true
  |some (.int _)=>true
  |some .string=>true
  |some (.slice c)=>decide (0<P.cellsOf c)&&zHx P n c&&(match zLJ P n c with
   |some a=>a.size==P.cellsOf c
   |none=>false)
  |some (.struct d)=>zX0 P n (zHx P n) 0 (P.cellsOf t) d.toList
  |_=>false
def CR(w:World)(F:Blk->Prop)(cs:List Value)(t:Ty)(x:t.El):Prop:=
 cs.length=t.size/\∀(i:Nat) (v:Value) (d:V),cs[i]?=Sa v->(t.cells x)[i]?=Sa d->Rd w F v d
structure qEN{H:Type}(bk:DataW H->Nat):Prop where
 slice:∀es sp,es.length<=bk (.slice es sp)/\∀e∈es,bk e<=bk (.slice es sp)
 agg:∀ps,∀p∈ps,bk p<=bk (.agg ps)
 str:∀bs,bs.length<=bk (.lit (.string bs))
theorem zT3{α β:Type}{f:α->Option β}:∀{l:List α} {r:List β},l.mapM f=Sa r->r.length=l.length/\∀(i:Nat) (a:α),l[i]?=Sa a->∃b,r[i]?=Sa b/\f a=Sa b:=by
 intro l
 induction l with
 |nil=>grind
 |cons x l c=>
  intro r h;rw[List.mapM_cons]at h;simp[aG]at h
  grind
theorem zOX{N M:Nat}(h:N<=M):∀(t:Ty) (x:t.El),t.fits N x->t.fits M x:=by
 intro t
 induction t with
 |pair a b d e=>intro x c;exact⟨d _ c.1,e _ c.2⟩
 |sl t f=>intro x c;exact⟨aj c.1 h,fun y g=>f y (c.2 y g)⟩
 |str=>intro x c;exact aj c h
 |rf=>intro x c;exact c.elim
 |hd=>intro x c;exact c.elim
 |pt t _=>intro x c;exact c.elim
 |_=>intro x c;exact c
section
variable {H:Type}{enc:TypeId×Value->H}{P:Program}{w:World}{sp:Nat->Bool}{held:Bool}{bk:DataW H->Nat}
theorem zXX{α:Type}{Q:Nat->α->Prop}:∀(n:Nat),(∀i,i<n->∃x,Q i x)->∃xs:List α,xs.length=n/\∀(i:Nat) (x:α),xs[i]?=Sa x->Q i x:=by
 intro n
 induction n with
 |zero=>simp_all
 |succ n a=>
  intro h;obtain⟨xs,c,d⟩:=a (fun i e=>h i (by omega));obtain⟨x,f⟩:=h n (by omega);refine⟨xs++[x],by simp[c],?_⟩
  grind
theorem zP0{a:Addr}{n:Nat}{l:List Value}(h:w.cells? 0 a n=Sa l)(f:0<n):a.spot=none/\l.length=n/\∀(i:Nat) (v:Value),l[i]?=Sa v->w.cell? ⟨a.block,a.off+i,none⟩=Sa v:=by
 unfold World.cells? at h;rw[if_pos (aW _)]at h;obtain⟨g,e⟩:=zT3 h;have j:a.spot=none:=by obtain⟨b,d,c⟩:=e 0 0 (by simp[f]);simp[Addr.add,World.cell?]at c;split at c;all_goals simp_all
 refine⟨j,by simpa using g,?_⟩;intro i v k;have m:i<n:=by grind
 obtain⟨b,d,c⟩:=e i i (by simp[m]);rw[k]at d;cases d;rw[<-c];congr 1;obtain⟨p,q,as⟩:=a
 grind[zDw]
theorem zSD{F:Blk->Prop}{v:Value}{ty:Ty}{x:ty.El}(a:ty.size=1)(c:ty.cells x=[ty.enc x])(h:Rd w F v (ty.enc x)):CR w F [v] ty x:=by
 refine⟨by simp[a],?_⟩
 grind
theorem CR.cell{F:Blk->Prop}{cs:List Value}{ty:Ty}{x:ty.El}(h:CR w F cs ty x):∀(j:Nat) (d:V),(ty.enc x).cells[j]?=Sa d->∃v,cs[j]?=Sa v/\Rd w F v d:=by
 intro j d hd;rw[jM]at hd;have hlt:j<cs.length:=by rw[h.1,<-kQ ty x];grind
 exact⟨cs[j],by simp[hlt],h.2 j _ d (by simp[hlt]) hd⟩
theorem zVy(K:qEN bk){n e:Nat}{F:Blk->Prop}
  (L:∀(t:TypeId) (ty:Ty) (cs:List Value) (d:DataW H) (M:List MemPlace),zHx P n t=true->zLJ P n t=Sa ty->
   DataW.trod enc P w 0 sp held e t cs=Sa (d,M)->∃x:ty.El,CR w F cs ty x/\ty.fits (bk d) x) {cs:List Value} {N:Nat} :
  ∀(h:List Field) (off:Nat) (ty:Ty) (xs:List (DataW H×List MemPlace)),zX0 P n (zHx P n) off cs.length h=true->
   h.foldr (fun f u=>match zLJ P n f.type,u with
    |some a,Sa b=>Sa (.pair a b)
    |_,_=>none) (Sa .unit)=Sa ty->
   (h.mapM fun f=>DataW.trod enc P w 0 sp held e f.type ((cs.drop f.offset).take (P.cellsOf f.type)))=Sa xs->(∀y∈xs,bk y.1<=N)->
   ∃x:ty.El,CR w F (cs.drop off) ty x/\ty.fits N x:=by
 intro h
 induction h with
 |nil=>
  intro off ty xs j c r _;cases c;simp[zX0]at j;refine⟨(),⟨by simp[j,Ty.size],?_⟩,trivial⟩
  grind
 |cons f h A=>
  intro off ty xs j c r E;simp[zX0]at j;obtain⟨⟨⟨G,k⟩,l⟩,g⟩:=j;simp at c;split at c
  .rename_i a b I O;cases c;rw[I]at k;simp at k;rw[List.mapM_cons]at r;simp only[Option.bind_eq_bind,aG,Option.pure_def,ac]at r;obtain⟨y,Q,S,B,rfl⟩:=r;obtain⟨J,m,C⟩:=L f.type a _ y.1 y.2 l I Q;obtain⟨W,p,D⟩:=A (off+P.cellsOf f.type) b S g O B (fun z Y=>E z (aw _ Y));refine⟨(J,W),⟨?_,?_⟩,zOX (E y (by simp)) _ _ C,D⟩
   .have h1:=m.1;have h2:=p.1
    grind[List.length_take,List.length_drop,Ty.size]
   .intro i v d hv q;simp only[Ty.cells]at q;have Z:=kQ a J;rcases a8 i a.size with hi|hi
    .rw[aT (by omega)]at q;refine m.2 i v d ?_ q
     grind
    .rw[aF (by omega),Z]at q;refine p.2 (i-a.size) v d ?_ q
     grind
  .cases c
theorem zYu(A:qEN bk):∀(n:Nat),
  (∀(t:TypeId) (ty:Ty) (e:Nat) (cs:List Value) (d:DataW H) (Y:List MemPlace),zHx P n t=true->zLJ P n t=Sa ty->
   DataW.trod enc P w 0 sp held e t cs=Sa (d,Y)->∃x:ty.El,CR w (qDv w.heap.size) cs ty x/\ty.fits (bk d) x):=by
 intro n
 induction n with
 |zero=>grind[zHx]
 |succ n ih=>
  intro t ty e cs d Y C c h
  cases e with
  |zero=>simp[DataW.trod]at h
  |succ e=>
   simp only[zLJ]at c;simp only[zHx]at C;unfold DataW.trod at h
   cases hu:P.underlying t with
   |none=>grind
   |some td=>
    rw[hu]at c C h
    cases td with
    |bool=>
     cases c;simp only at h;split at h;all_goals (try (cases h;done))
     all_goals (try (exfalso;simp_all;done))
     rename_i b _;exact⟨b,zSD rfl rfl (.val _),trivial⟩
    |int k=>
     cases c;simp only at h;split at h;all_goals (try (cases h;done))
     all_goals (try (exfalso;simp_all;done))
     rename_i k1 k2 m E;cases E;split at h
     .rename_i hk;obtain⟨rfl,ag⟩:=hk;exact⟨m,zSD rfl rfl (.val _),ag⟩
     .cases h
    |string=>
     cases c;simp only at h;split at h;all_goals (try (cases h;done))
     all_goals (try (exfalso;simp_all;done))
     rename_i s _;split at h
     .simp only[ac,aI]at h;obtain⟨rfl,rfl⟩:=h;refine⟨s,zSD rfl rfl (.val _),?_⟩;have:=A.str s.data.toList;show s.size<=_;simpa using this
     .cases h
    |slice el=>
     simp only at c;split at c
     .rename_i a ha;cases c;simp[ha]at C;obtain⟨⟨h0,al⟩,a9⟩:=C;simp only at h;split at h;all_goals (try (cases h;done))
      all_goals (try (exfalso;simp_all;done))
      .exact⟨[],zSD rfl rfl (.tl a [] _ (.slemp none 0)),aW _,fun x K=>by simp at K⟩
      .rename_i e0 G len an E;cases E;split at h
       .rename_i I;obtain⟨_,bb,_⟩:=I;simp only[aG,ak,aI]at h;obtain⟨u,ap,D,_,rfl,rfl⟩:=h;obtain⟨m1,m2⟩:=zT3 ap;simp at m1;have B:=A.slice (u.map (·.1)) (D.map (·.1))
        have av:∀i,i<len->∃x:a.El,a.fits (bk (.slice (u.map (·.1)) (D.map (·.1)))) x/\G.spot=none/\
          ∀(j:Nat) (Z:V),(a.enc x).cells[j]?=Sa Z->∃v,w.cell? ⟨G.block,G.off+(i*a.size+j),none⟩=Sa v/\Rd w (qDv w.heap.size) v Z:=by
         intro i hi;obtain⟨y,hy,hf⟩:=m2 i i (by simp[hi]);simp only[aG]at hf;obtain⟨l,hl,ht⟩:=hf;obtain⟨x,K,L⟩:=ih el a e l y.1 y.2 al ha ht;obtain⟨c1,c2,c3⟩:=zP0 hl h0
         have J:G.spot=none:=by
          by_cases hz:i*P.cellsOf el=0
          .simp_all[Addr.add]
          .have bd:0<i:=Nat.pos_of_ne_zero (fun hh=>hz (by rw[hh];simp));obtain⟨y0,_,M⟩:=m2 0 0 (bj (by omega));simp only[aG]at M;obtain⟨l0,ax,_⟩:=M;have:=(zP0 ax h0).1
           grind[Addr.add]
         refine⟨x,zOX (B.2 y.1 (aO.2 ⟨y,ae hy,rfl⟩)) _ _ L,J,?_⟩;intro j Z ay;obtain⟨v,hv,hr⟩:=CR.cell K j Z ay;refine⟨v,?_,hr⟩;have:=c3 j v hv;rw[<-this];obtain⟨O,ao,as⟩:=G
         grind[zDw,Nat.add_assoc]
        obtain⟨r,a0,p⟩:=zXX len av;have f:(r.map a.enc).length=len:=by simp[a0]
        refine⟨r,zSD rfl rfl (.tl a r _ ?_),?_⟩
        .cases a1:len with
         |zero=>
          have:r=[]:=aJ (by omega);subst this;exact .slemp _ _
         |succ a5=>
          obtain⟨Q,S⟩:∃Q,r[0]?=Sa Q:=⟨r[0]'(by omega),by grind⟩
          have J:G.spot=none:=(p 0 Q S).2.1;obtain⟨O,ao,as⟩:=G;cases J;rw[<-a1,<-f]
          have a2:O<w.heap.size:=by
           cases a6:w.heap[O]? with
           |some ob=>grind
           |none=>
            have W:0<a.size:=by omega
            have hlt:0< (a.enc Q).cells.length:=by grind[wZ]
            obtain⟨v,hv,_⟩:=(p 0 Q S).2.2 0 _ (ah hlt)
            grind[World.cell?]
          let g:Nat->Value:=fun m=>(w.cell? ⟨O,ao+m,none⟩).getD undef;refine Rd.sl O ao an a.size _ g a2 (by omega) ?_ ?_ ?_
          .intro q hq;simp at hq;obtain⟨z,_,rfl⟩:=hq;exact wZ a z
          .intro m hm;rw[f]at hm;have W:0<a.size:=by omega
           have hi:m / a.size<len:=Nat.div_lt_of_lt_mul (by grind);have hj:m%a.size<a.size:=Nat.mod_lt _ W;have a3:r[m / a.size]?=Sa (r[m / a.size]'(by omega)):=by grind
           have a4:m%a.size< (a.enc (r[m / a.size]'(by omega))).cells.length:=by rw[wZ];exact hj
           obtain⟨v,hv,_⟩:=(p _ _ a3).2.2 (m%a.size) _ (ah a4)
           grind[Nat.mul_comm,Nat.div_add_mod]
          grind
        .refine⟨?_,?_⟩
         .grind
         .intro x K;obtain⟨i,hi,rfl⟩:=aC K;exact(p i _ (by simp[hi])).1
       .cases h
     .cases c
    |struct fs=>
     simp only at C h c;split at h
     .rename_i f;simp at h;obtain⟨r,p,rfl,rfl⟩:=h;rw[<-f]at C;obtain⟨x,h1,h2⟩:=zVy (F:=qDv w.heap.size) A (fun t ty cs d Y=>ih t ty e cs d Y) (N:=bk (.agg (r.map (·.1)))) _ 0 ty r C c p (fun y hy=>A.agg _ y.1 (aO.2 ⟨y,hy,rfl⟩))
      grind
     .cases h
    |array m el=>cases C
    |_=>cases c
end
end Go.Ve

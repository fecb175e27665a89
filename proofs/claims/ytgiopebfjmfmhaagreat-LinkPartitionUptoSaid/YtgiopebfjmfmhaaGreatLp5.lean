/- law16 -/
import Derived.LaidEql
import Derived.Test.YtgiopebfjmfmhaaGreatLp4
set_option linter.unusedVariables false
open Option renaming some->Sa,none->Sb
open Bool renaming true->Sc,false->Sd
open Go.Op renaming operands->Aa,equalIn->Ad,equal->Af
open Go.Result renaming andThen_ok->Ab
open Go.Sem renaming run_bind->Ac,run_pure->Aj
open Go.Instr renaming sliceBound->Ae,sliceAt->Ag,sliceBounds->Ai,slice->Ao,build->Ap,fill->Aq,loadAt->Ar,lookup->As
open Go.Call renaming operands->Ah
open List renaming replicate->Ak,mem_cons_of_mem->Al,mem_of_getElem?->Am,mem_toArray->An
namespace Go.Ve
open Go
section
variable {Γ:Sig}{P:Program}{G:Nat->Option (List V)}{S:vF Γ}{e:Env Γ.St}{o:Oper}{a:Act}{w:World}{F:Blk->Prop}{β:Lay}{al:v6->Prop}{st:Γ.St}
theorem qC1{α γ:Type}{f:α->Sem γ}{g:α->γ}:∀(l:List α),(∀x,x∈l->(f x).run P w=.ok (g x) w)->(l.mapM f).run P w=.ok (l.map g) w:=by
 intro l
 induction l with
 |nil=>intro _;rfl
 |cons x l c=>simp_all
variable {i a2:Nat}{C:Value}
theorem zIN{x:T}{y h:Nat}(j:zY w F β al C x)(d:zAZ (Sa x) i a2=Sa h)(m:a2<=y)(code:BoundsCode):
  (Ae C y code).run P w=.ok h w/\h<=a2:=by
 unfold zAZ at d;split at d
 .grind
 .rename_i k v g;cases g;split at d
  .rename_i l;cases d;have:=Rd.eq_val j;subst this;refine⟨?_,by omega⟩;simp[Ae,asIntOf,l.1,show v<=(y:Int) by omega]
  .cases d
 .cases d
variable {a5:List V}
theorem qGv{cap k:Nat}{g:Nat->Value}(n:F i)(f:a5.length<=cap)(t:∀e,e∈a5->e.cells.length=k)(p:∀m,m<a5.length*k->w.cell? ⟨i,a2+m,Sb⟩=Sa (g m))(u:∀(b j:Nat) (e d:V),a5[b]?=Sa e->e.cells[j]?=Sa d->Rd w F (g (b*k+j)) d){l h:Nat}(q:h<=a5.length)(x:l<=h):
  Rd w F (.slice (Sa ⟨i,a2+l*k,Sb⟩) (h-l) (cap-l)) (.sl ((a5.take h).drop l)):=by
 have c:((a5.take h).drop l).length=h-l:=by simp;omega
 rw[<-c];refine .sl i (a2+l*k) (cap-l) k _ (fun m=>g (l*k+m)) n (by omega) ?_ ?_ ?_
 .grind
 .intro m r;rw[c]at r;rw[bx];refine p _ ?_;have y:h*k<=a5.length*k:=aq k q
  grind[Nat.sub_mul,Nat.mul_le_mul_right]
 grind
theorem zPR{t:TypeId}{es:List V}{v:Value}{lo hi mx:Option Operand}{r:R Γ.St}(hx:Rd w F v (.sl es))
  (hlo:∀x,lo=Sa x->zY w F β al (a.eval x) (evx G e x)) (hhi:∀x,hi=Sa x->zY w F β al (a.eval x) (evx G e x))
  (hmx:∀x,mx=Sa x->zY w F β al (a.eval x) (evx G e x))
  (h:zKL P t es (lo.map (evx G e)) (hi.map (evx G e)) (mx.map (evx G e))=Sa r):
  ∃u y,r=.ret y/\(Ag t v (lo.map a.eval) (hi.map a.eval) (mx.map a.eval)).run P w=.ok u w/\zY w F β al u y:=by
 unfold zKL at h;split at h
 .rename_i el hu
  cases mx with
  |none=>
   simp at h ⊢;split at h
   .rename_i hN hbh;split at h
    .rename_i lN hbl;split at h
     .rename_i z hz;obtain⟨a0,cap,hv,hcap⟩:=zD4 hx
      have hh:hN<=es.length/\∀code,(match hi.map a.eval,(Sb:Option Value)with
        |some v,Sa _=>Ae v cap .slice3B
        |some v,Sb=>Ae v cap code
        |none,Sb=>pure es.length
        | none, some _ => stuck "Slice: max without high").run P w = .ok hN w := by
       cases hi with
       |none=>simp[zAZ]at hbh;simp_all
       |some x=>have:=zIN (P:=P) (hhi x rfl) hbh hcap;exact⟨(this .index).2,fun code=>(this code).1⟩
      have hl:lN<=hN/\∀code,(match lo.map a.eval with
        |some v=>Ae v hN code
        |none=>pure 0).run P w=.ok lN w:=by
       cases lo with
       |none=>cases hbl;simp_all
       |some x=>have:=zIN (P:=P) (hlo x rfl) hbl (ai _);exact⟨(this .index).2,fun code=>(this code).1⟩
      have hrun:(Ag t v (lo.map a.eval) (hi.map a.eval) Sb).run P w=.ok (.slice (if cap=lN then a0 else a0.map (·.add (lN*z))) (hN-lN) (cap-lN)) w:=by
       subst hv;have h1:=hh.2 .sliceAcap;have h2:=hl.2 .sliceB;have hsb:(Ai Sc es.length cap (lo.map a.eval) (hi.map a.eval) Sb).run P w=.ok (lN,hN,cap) w:=by simp only[Ai,Ac,Aj,Ab];cases hi<;>cases lo<;>simp_all
       simp[Ag,Ao,zN hu,hsb,zK hz]
      have hres:∃u,(Ag t v (lo.map a.eval) (hi.map a.eval) Sb).run P w=.ok u w/\Rd w F u (.sl ((es.take hN).drop lN))/\r=.ret (.p (.sl ((es.take hN).drop lN))):=by
       refine⟨_,hrun,?_⟩
       cases hx with
       |slemp a1 cap1=>
        simp at hv;obtain⟨rfl,rfl⟩:=hv;simp at hh hl;obtain⟨rfl,_⟩:=hh;obtain⟨hl0,_⟩:=hl;obtain rfl:lN=0:=by omega
        refine⟨?_,by grind⟩;simp;exact .slemp _ _
       |sl b off cap' k es g hF hcap' hk hg hr=>
        simp at hv;obtain⟨rfl,rfl⟩:=hv;have hlen:((es.take hN).drop lN).length=hN-lN:=by simp;omega
        cases hd:es[lN]? with
        |some d=>
         simp only[hd]at h;split at h
         .rename_i hdz;have hkz:k=z:=by grind
          subst hkz;simp at h;refine⟨?_,h.symm⟩;have hlt:=(aa.1 hd).1;rw[if_neg (by omega)];simp_all[zDw,qGv]
         .cases h
        |none=>
         simp[hd]at h;have hge:=List.getElem?_eq_none_iff.1 hd;have hnil:(es.take hN).drop lN=[]:=aJ (by omega);rw[hnil];refine⟨?_,h.symm⟩;have h0:hN-lN=0:=by omega
         rw[h0]
         have hsome:∃off',(if cap'=lN then Sa (⟨b,off,Sb⟩:Addr)else Option.map (fun x:Addr=>x.add (lN*z)) (Sa (⟨b,off,Sb⟩:Addr)))=Sa (⟨b,off',Sb⟩:Addr):=by
          split
          .grind
          grind[zDw]
         obtain⟨off',ho⟩:=hsome;rw[ho];exact Rd.sl b off' _ 0 [] (fun _=>undef) hF (by simp) (by simp) (by simp) (by simp)
      obtain⟨u,hu1,hu2,hu3⟩:=hres;exact⟨u,_,hu3,hu1,hu2⟩
     .cases h
    .cases h
   .cases h
  |some m0=>
   simp at h ⊢;have hm:=hmx m0 rfl;split at h
   .grind
   .rename_i km heq;simp at heq;rw[heq]at hm;have hm':=Rd.eq_val hm;split at h
    .rename_i kh hhi0 hlo0
     cases hi with
     |none=>simp at hhi0
     |some h0=>
      cases lo with
      |some l0=>simp at hlo0
      |none=>
       simp at hhi0;have hh:=hhi h0 rfl;rw[hhi0]at hh;have hh':=Rd.eq_val hh;split at h
       .rename_i z hz;cases h;obtain⟨a0,cap,hv,_⟩:=zD4 hx;refine⟨.slice a0 0 0,.emp,rfl,?_,a0,rfl⟩
        .subst hv;simp[Ag,Ao,zN hu,Ai,Ae,asIntOf,hm',hh',zK hz]
       .cases h
    .cases h
   .cases h
 .cases h
theorem zTK{t el:TypeId}{v:Value}{a0:Option Addr}{n cap z hN lN:Nat}{lo hi:Option Operand}(hv:v=.slice a0 n cap)(hcap:n<=cap)(hu:P.underlying t=Sa (.slice el))(hz:wB P el=Sa z)
  (hlo:∀x,lo=Sa x->zY w F β al (a.eval x) (evx G e x)) (hhi:∀x,hi=Sa x->zY w F β al (a.eval x) (evx G e x))
  (hbh:zAZ (hi.map (evx G e)) n n=Sa hN) (hbl:zAZ (lo.map (evx G e)) 0 hN=Sa lN):
  hN<=n/\lN<=hN/\(Ag t v (lo.map a.eval) (hi.map a.eval) Sb).run P w=.ok (.slice (if cap=lN then a0 else a0.map (·.add (lN*z))) (hN-lN) (cap-lN)) w:=by
 have hh:hN<=n/\∀code,(match hi.map a.eval,(Sb:Option Value)with
   |some v,Sa _=>Ae v cap .slice3B
   |some v,Sb=>Ae v cap code
   |none,Sb=>pure n
   | none, some _ => stuck "Slice: max without high").run P w = .ok hN w := by
  cases hi with
  |none=>simp[zAZ]at hbh;simp_all
  |some x=>have:=zIN (P:=P) (hhi x rfl) hbh hcap;exact⟨(this .index).2,fun code=>(this code).1⟩
 have hl:lN<=hN/\∀code,(match lo.map a.eval with
   |some v=>Ae v hN code
   |none=>pure 0).run P w=.ok lN w:=by
  cases lo with
  |none=>cases hbl;simp_all
  |some x=>have:=zIN (P:=P) (hlo x rfl) hbl (ai _);exact⟨(this .index).2,fun code=>(this code).1⟩
 refine⟨hh.1,hl.1,?_⟩;subst hv;have h1:=hh.2 .sliceAcap;have h2:=hl.2 .sliceB;have hsb:(Ai Sc n cap (lo.map a.eval) (hi.map a.eval) Sb).run P w=.ok (lN,hN,cap) w:=by simp only[Ai,Ac,Aj,Ab];cases hi<;>cases lo<;>simp_all
 simp[Ag,Ao,zN hu,hsb,zK hz]
variable {l:R Γ.St}{g:TypeId}
theorem zVA{ty:Ty}{xs:List ty.El}{lo hi mx:Option Operand}(I:zY w F β al C (.ot i ty xs))(f:∀x,lo=Sa x->zY w F β al (a.eval x) (evx G e x))(t:∀x,hi=Sa x->zY w F β al (a.eval x) (evx G e x))(h:zHZ P g i ty xs (lo.map (evx G e)) (hi.map (evx G e)) (mx.map (evx G e))=Sa l):
  ∃u y,l=.ret y/\(Ag g C (lo.map a.eval) (hi.map a.eval) (mx.map a.eval)).run P w=.ok u w/\zY w F β al u y:=by
 unfold zHZ at h;split at h
 .rename_i N v;split at h
  .rename_i D;split at h
   .rename_i J;obtain rfl:mx=none:=by simp_all
    split at h
    .rename_i E id;split at h
     .rename_i K j;cases h;rcases I with⟨q,O,z⟩|⟨A,L,k,z,d⟩
      .have q:xs=[]:=List.map_eq_nil_iff.1 q;subst q;obtain⟨p,H,B⟩:=zTK (a:=a) (G:=G) (e:=e) z (by simp) v D f t id j;have p:E<=0:=p;obtain rfl:E=0:=by omega
       obtain rfl:K=0:=by omega
       exact⟨_,_,rfl,B,.inl ⟨rfl,rfl,rfl,_,rfl⟩⟩
      .have r:xs≠[]:=fun h=>A (by rw[h];rfl);have m:xs.length<=k:=by obtain⟨c,Q,W,Y,M,Z,g5⟩:=d;simpa using M
       obtain⟨p,H,B⟩:=zTK (a:=a) (G:=G) (e:=e) (n:=xs.length) (by simpa using z) m v D f t id j;refine⟨_,_,rfl,B,.inr ⟨r,L,H,p,k,?_,d⟩⟩
       grind[zDw]
     .cases h
    .cases h
   .cases h
  .cases h
 .cases h
theorem zVz{t:TypeId}{ty:Ty}{xs:List ty.El}{lo hi mx:Option Operand}{r:R Γ.St}(z:Rd w F C (.tl ty xs))(f:∀x,lo=Sa x->zY w F β al (a.eval x) (evx G e x))(g:∀x,hi=Sa x->zY w F β al (a.eval x) (evx G e x))(i:∀x,mx=Sa x->zY w F β al (a.eval x) (evx G e x))(h:zHY P t ty xs (lo.map (evx G e)) (hi.map (evx G e)) (mx.map (evx G e))=Sa r):
  ∃u y,r=.ret y/\(Ag t C (lo.map a.eval) (hi.map a.eval) (mx.map a.eval)).run P w=.ok u w/\zY w F β al u y:=by
 unfold zHY at h;split at h
 .rename_i A B;have j:P.underlying t=Sa (.slice A):=B;split at h
  .rename_i v;split at h
   .rename_i k;split at h
    .rename_i l m;split at h
     .rename_i c n;cases h
      obtain⟨u,y,D,E,H⟩:=zPR (P:=P) (t:=t) (Γ:=Γ) (lo:=lo) (hi:=hi) (mx:=mx) (r:=.ret (.p (.sl (((xs.map ty.enc).take l).drop c)))) (Rd.untl z) f g i (by
       simp only[zKL,j,k,aK,m,n,v]
       cases q:(xs.map ty.enc)[c]? with
       |none=>
        have:((xs.map ty.enc).take l).drop c=[]:=by rw[List.getElem?_eq_none_iff]at q;exact aJ (by grind)
        simp[this]
       |some d=>
        simp at q;obtain⟨x,_,rfl⟩:=q
        simp[wZ])
      cases D;have I:Rd w F u (.sl (((xs.map ty.enc).take l).drop c)):=H;refine⟨u,_,rfl,E,.tl _ _ _ ?_⟩;simp_all
     .cases h
    .cases h
   .cases h
  .cases h
 .cases h
variable {b0:Array (Nat×Operand)}{b1:List (Nat×V)}
theorem zXJ{t:TypeId}(O:∀p,p∈b0.toList->zY w F β al (a.eval p.2) (evx G e p.2))(Q:zAk G e b0.toList=Sa b1)(h:zNT P t b1=Sa l):
  ∃u y,l=.ret y/\(Ap t (b0.map fun(i,x)=>(i,a.eval x))).run P w=.ok u w/\zY w F β al u y:=by
 obtain⟨K,L⟩:=zLw b0.toList b1 O Q;unfold zNT at h;split at h
 .rename_i z D;simp only[aG]at D;obtain⟨M,W,D⟩:=D;have H:=zF3 (zFO w F z) (by cases z<;>rfl);have d:zOq w F z.cells (V.ofVal1 z).cells:=H;have q:(zeroValue t).run P w=.ok z w:=by simp[zeroValue,xJ W,D]
  split at h
  .rename_i N I;split at h
   .rename_i A;simp only[ak]at h;obtain⟨B,k,rfl⟩:=h
    have J:(N.mapM fun f=>do pure (f.offset,<-sizeOf f.type):Sem (Array (Nat×Nat))).run P w=.ok (N.map fun f=>(f.offset,(wB P f.type).getD 0)) w:=by
     rw[cP];simp only[Sem.run_map];rw[qC1 (g:=fun f:Field=>(f.offset,(wB P f.type).getD 0))]
     .simp only[Ab];congr 1
      grind
     .intro f Y;obtain⟨n,E⟩:=bm.1 (au.1 A f Y);simp[zK E,E]
    obtain⟨C,c,j⟩:=zO0 (w:=w) (F:=F) _ _ b1 z.cells _ B K L d k;refine⟨.agg C,_,rfl,?_,Rd.agg C B j.1 j.2⟩;simp only[Ap,Ac,q,Ab,zN I,J];simp only[Array.toList_map];rw[c];rfl
   .cases h
  .rename_i Z el I;split at h
   .rename_i n E;simp at h;obtain⟨B,k,rfl⟩:=h;obtain⟨C,c,j⟩:=zO0 (w:=w) (F:=F) _ _ b1 z.cells _ B K L d k;refine⟨.agg C,_,rfl,?_,Rd.agg C B j.1 j.2⟩;simp only[Ap,Ac,q,Ab,zN I,zK E];simp;rw[c];rfl
   .cases h
  .cases h
 .cases h
theorem zHu{k:Nat}(h:qP w F i k a2 a5){F':Blk->Prop}(p:∀i,F i->F' i)(q:F' i):Rd w F' (.slice (Sa ⟨i,0,Sb⟩) a5.length a2) (.sl a5):=by
 obtain⟨c,y,z,A,g,l,r⟩:=h;have t:a5.length*k<=a2*k:=aq k g;refine .sl i 0 a2 k a5 (fun m=>(c[m]?).getD undef) q g l ?_ ?_
 .grind[World.cell?]
 .intro b j e d f n;have u:=(aa.1 f).1;have x:=(aa.1 n).1;have B:=l e (ae f);have:(b+1)*k<=a2*k:=aq k (by omega);rw[bE]at this;have hlt:b*k+j<c.size:=by omega
  exact(r b j e d _ f n (by simp[hlt])).mono p (fun _ _=>rfl)
theorem qEH{cs:List T}(h:w6 w F β al i cs){F':Blk->Prop}(n:∀i,F i->F' i)(q:F' i)(r:yN (cs.drop a2)=Sa a5):Rd w F' (.pointer (Sa ⟨i,a2,Sb⟩)) (.pp a5):=by
 have f:=zHd r
 have k:a5.length=cs.length-a2:=by
  have:=congrArg List.length f
  grind
 have g:∀m,m<a5.length->∃x,w.cell? ⟨i,a2+m,Sb⟩=Sa x/\∀d,a5[m]?=Sa d->Rd w F x d:=by
  intro m t;obtain⟨x,b,c⟩:=h.at (a2+m) (by omega)
  refine⟨x,b,fun d j=>?_⟩;have l:(cs.drop a2)[m]?=Sa (.p d):=by grind
  rw[cH,ah (by omega),ac]at l;rw[l]at c;exact c
 refine .pp i a2 a5 (fun m=>(w.cell? ⟨i,a2+m,Sb⟩).getD undef) q ?_ ?_
 .grind
 .intro m d j;obtain⟨x,b,c⟩:=g m (aa.1 j).1;simp[b];exact(c d j).mono n (fun _ _=>rfl)
theorem zKm(f:∀s cs,e.var s=Sa cs->al (.v s)->w6 w F β al (β.vb s) cs){x:T}{d:V}(j:zY w F β al C x)(h:zKn e x=Sa d):
  Rd w (Fal F β al) C d/\(x.isView=Sd->Rd w F C d):=by
 cases x with
 |p E=>
  simp[zKn]at h;subst h;exact⟨Rd.mono j (fun b g=>.inl g) (fun _ _=>rfl),fun _=>j⟩
 |ow id k B=>
  cases h;obtain⟨l,u,rfl,c⟩:=j;exact⟨zHu c (fun b g=>.inl g) (.inr ⟨.o id,l,rfl⟩),fun m=>by simp[T.isView]at m⟩
 |oe id k B i q=>simp[zKn]at h
 |lp s q=>
  simp only[zKn]at h;split at h
  .rename_i cs y;simp at h;obtain⟨H,z,rfl⟩:=h;obtain⟨l,rfl⟩:=j;exact⟨qEH (f s cs y l) (fun b g=>.inl g) (.inr ⟨.v s,l,rfl⟩) z,fun m=>by simp[T.isView]at m⟩
  .cases h
 |emp=>
  cases h;obtain⟨r,rfl⟩:=j;exact⟨.slemp r 0,fun _=>.slemp r 0⟩
 |mp id B I=>simp[zKn]at h
 |ot id t A=>
  cases h;refine⟨?_,fun m=>by simp[T.isView]at m⟩;refine .tl t A C ?_;rcases j with⟨v,r,rfl⟩|⟨D,l,u,rfl,c⟩
  .rw[v];exact .slemp r 0
  .exact zHu c (fun b g=>.inl g) (.inr ⟨.o id,l,rfl⟩)
 |oet id t A i q=>simp[zKn]at h
 |ov id t A J K=>simp[zKn]at h
 |on n=>simp[zKn]at h
 |dead=>simp[zKn]at h
theorem qCq(c:∀s cs,e.var s=Sa cs->al (.v s)->w6 w F β al (β.vb s) cs):∀(xs:List Operand) (ds:List V),
  (∀x,x∈xs->zY w F β al (a.eval x) (evx G e x))->zOh G e xs=Sa ds->xs.length=ds.length/\
  ∀(i:Nat) (x:Value) (y:V),(xs.map a.eval)[i]?=Sa x->ds[i]?=Sa y->Rd w (Fal F β al) x y/\(xs.any (fun x=>(evx G e x).isView)=Sd->Rd w F x y):=by
 intro xs
 induction xs with
 |nil=>intro g _ h;simp[zOh]at h;grind
 |cons x xs j=>
  intro g k h;simp only[zOh]at h;split at h
  .rename_i d ds n f;cases h;obtain⟨l,q⟩:=j ds (fun p m=>k p (aw _ m)) f;refine⟨by simpa using l,?_⟩
   grind[zKm]
  .cases h
theorem zXg(c:Bool)(k:Nat):∀(n:Nat) (flat:List V),(x7 c k n flat).length=n:=by
 intro n
 induction n with
 |zero=>intro _;rfl
 |succ n d=>grind[x7]
theorem zXh(f:Bool)(k:Nat):∀(n:Nat) (flat:List V) (i:Nat) (q:V),flat.length=n*k->(f=Sd->k=1)->(f=Sc\/∀d,d∈flat->d.noAgg=Sc)->k≠0->
  (x7 f k n flat)[i]?=Sa q->q.cells.length=k/\∀j d,q.cells[j]?=Sa d->flat[i*k+j]?=Sa d:=by
 intro n
 induction n with
 |zero=>grind[x7]
 |succ n r=>
  intro flat i q m p c l h;rw[bE]at m
  cases i with
  |zero=>
   cases h
   cases f with
   |true=>
    simp_all[cG,V.cells]
   |false=>
    obtain rfl:=p rfl
    cases flat with
    |nil=>simp at m
    |cons g flat=>
     simp only[bP,if_false,List.head?_cons,dy];have x:=c.resolve_left (by simp) g (by simp);have y:g.cells=[g]:=by cases g<;>simp_all[V.noAgg,V.cells]
     grind
  |succ i=>
   simp[x7]at h;have:=r (flat.drop k) i q (by simp;omega) p (c.imp id (fun t d u=>t d (List.mem_of_mem_drop u))) l h
   grind
variable {J:Array Edge}{I:Option (Nat×Bool)}{a1:Option Tmp}{a0:String}{j:TypeId}
theorem zO5(hp:∀p,p∈b0.toList->zY w F β al (a.eval p.2) (evx G e p.2))(N:zAk G e b0.toList=Sa b1)(h:zDl P g i b1=Sa l):
  zDU Γ P S ⟨a1,.buildSlice g i b0,j,a0,J,I⟩ a w F β al al st l:=by
 obtain⟨hl,hr⟩:=zLw b0.toList b1 hp N;unfold zDl at h;split at h
 .rename_i el hu;split at h
  .rename_i t hi;split at h
   .rename_i z A hz av;split at h
    .rename_i D;obtain⟨ax,ay,ab,O⟩:=D;split at h
     .rename_i flat E;split at h
      .rename_i ao;obtain⟨C,qs⟩:=zF3 (zFO w F z) (by cases z<;>rfl);have a2:z.cells.size=t.size:=by omega
       have H:zOq w F ((Array.range (i*t.size)).map (fun len=>z.cells[len%z.cells.size]!)) ((List.range (i*t.size)).map (fun len=>((V.ofVal1 z).cells[len%t.size]?).getD (.val undef))):=by
        refine⟨by simp,?_⟩;intro len x y hx hy;simp at hy;obtain⟨m,hm,rfl⟩:=hy;have hlt:len<i*t.size:=by grind
        rw[bj hlt,ac]at hm;subst hm;simp[hlt]at hx
        grind[Nat.mod_lt,Nat.pos_of_ne_zero,List.getElem?_eq_getElem,Array.getElem?_eq_getElem,V.ofVal1]
       obtain⟨Q,pos,type⟩:=zO0 (w:=w) (F:=F) _ _ b1 _ _ flat hl hr H E
       have u:flat.length=i*t.size:=by
        have:=type.1
        have a3:∀(ps:List (Nat×Value)) (c Q:Array Value) (pl:Nat->Option (Nat×Nat)),Aq pl c ps=Sa Q->Q.size=c.size:=by
         intro ps
         induction ps with
         |nil=>grind[Aq]
         |cons p ps ih=>
          intro c Q pl h;obtain⟨len,v⟩:=p;simp only[Aq]at h;split at h
          .cases h
          .split at h
           .cases h
           .have h3:=ih _ _ _ h;rw[h3]
            have K:∀(k:List (Value×Nat)) (L:Nat) (c:Array Value),(k.foldl (fun cs (x:Value×Nat)=>cs.setIfInBounds (L+x.2) x.1) c).size=c.size:=by
             intro k
             induction k with
             |nil=>intro L c;rfl
             |cons x k ih=>intro L c;simp[ih]
            rw[<-Array.foldl_toList];exact K _ _ _
        grind
       have vA:=fun len q N=>zXh A t.size i flat len q u O (by
        grind) ab N
       have B:=zXg A t.size i flat
       have W:∃(c:Array Value) (Y:TypeId),(execOp a.eval ⟨a1,.buildSlice g i b0,j,a0,J,I⟩).run P w=.ok (.value (.slice (Sa ⟨w.heap.size,0,Sb⟩) (x7 A t.size i flat).length (x7 A t.size i flat).length)) { w with heap:=w.heap.push (.cells c Y) } /\
         c.size=(x7 A t.size i flat).length*t.size/\(∀e,e∈(x7 A t.size i flat)->e.cells.length=t.size)/\
         ∀(len r:Nat) (e d:V) (x:Value),(x7 A t.size i flat)[len]?=Sa e->e.cells[r]?=Sa d->c[len*t.size+r]?=Sa x->Rd w F x d:=by
        refine⟨Q,el,?_,?_,?_,?_⟩
        .have ad:(zeroValue el).run P w=.ok z w:=by simp[zeroValue,xJ hi,hz]
         have Z:(sizeOf el).run P w=.ok t.size w:=zK (zBB hi) w;rw[B];simp only[execOp,Instr.buildSlice,Ac,zN hu,Ab,Z];rw[if_neg (by omega)];by_cases h0:i*t.size=0
         .have n:∀f:Nat->Value,(Array.range (i*t.size)).map f= #[]:=by grind
          rw[n]at pos;simp only[n];simp only[h0,if_true,Ac,Aj,Ab,Array.toList_map];rw[pos];rfl
         .simp only[h0,if_false,Ac,ad,Ab,Aj];simp only[Array.toList_map];rw[pos];rfl
        .rw[B];rw[type.1];exact u
        .intro q N;obtain⟨len,M,rfl⟩:=aC N;exact(vA len _ (ah M)).1
        .intro len r q d x M hj hx;exact type.2 _ x d hx ((vA len q M).2 r d hj)
       obtain⟨c,Y,h1,h2,h3,h4⟩:=W;have ap:zDU Γ P S ⟨a1,.buildSlice g i b0,j,a0,J,I⟩ a w F β al al st (.frz (x7 A t.size i flat)):=⟨c,Y,t.size,h1,h2,h3,h4⟩
       split at h
       .rename_i h0;cases h;subst h0;exact⟨c,Y,0,by grind,by grind,by simp,by simp,by simp,by simp⟩
       .split at h
        .rename_i ty a4;split at h
         .rename_i Z;split at h
          .rename_i xs an;cases h;exact⟨_,c,Y,h1,by grind,by grind,by grind,zSC an⟩
          grind
         grind
        grind
      .cases h
     .cases h
    .cases h
   .cases h
  .cases h
 .cases h
theorem qCR{x:T}(h:zY w F β al C x)(f:x.thereS=Sc):∃(i:Addr) (n c:Nat),C=.slice (Sa i) n c:=by
 cases x with
 |p d=>
  cases d with
  |sl g=>
   cases g with
   |nil=>cases f
   |cons x g=>exact zRA h
  |tl t j=>
   cases j with
   |nil=>cases f
   |cons x g=>exact zRA (Rd.untl h)
  |_=>cases f
 |ow id k g=>obtain⟨m,l,q,_⟩:=h;grind
 |_=>cases f
theorem zUn{d:Addr}{f t:Nat}(h:(underlying g).run P w=.ok (.slice j) w):
  (Af g (.slice (Sa d) i a2) (.slice Sb f t)).run P w=.ok Sd w:=by
 show(Ad (9999+1) g (.slice (Sa d) i a2) (.slice Sb f t)).run P w=.ok Sd w;unfold Ad;simp only[Ac,h,Ab];rfl
theorem zO7{c:Addr}(d:(underlying g).run P w=.ok (.pointer j) w):
  (Af g (.pointer (Sa c)) (.pointer Sb)).run P w=.ok Sd w:=by
 show(Ad (9999+1) g (.pointer (Sa c)) (.pointer Sb)).run P w=.ok Sd w;unfold Ad;simp only[Ac,d,Ab];rfl
variable {a6:BinOp}{a3 a4:Operand}{a9:TypeId}
theorem qB1(t:zY w F β al (a.eval a3) (evx G e a3))(p:zY w F β al (a.eval a4) (evx G e a4))(h:zSi P a6 g (evx G e a3) (evx G e a4)=Sa l):
  zDU Γ P S ⟨a1,.binOp a6 g a3 a4 j,a9,a0,J,I⟩ a w F β al al st l:=by
 unfold zSi at h;split at h
 .rename_i y;obtain⟨f,n,c,D⟩:=qCR t y;split at h
  .rename_i u z op;rw[op]at p;have i:=Rd.eq_val p;split at h
   .split at h
    .rename_i k x;cases h;refine⟨.bool Sd,?_,.val _⟩;have d:(underlying g).run P w=.ok (.slice k) w:=zN x w;have A:binOp .eql g (.slice (Sa f) n c) (.slice Sb u z)=(do pure (.bool ((<-Af g (.slice (Sa f) n c) (.slice Sb u z))))):=rfl;have B:eqGuard .eql g a3 a4 (.slice (Sa f) n c) (.slice Sb u z)=pure ():=rfl;simp[execOp,D,i,B,A,zUn d]
    .cases h
   .split at h
    .rename_i k x;cases h;refine⟨.bool Sc,?_,.val _⟩;have d:(underlying g).run P w=.ok (.slice k) w:=zN x w;have A:binOp .neq g (.slice (Sa f) n c) (.slice Sb u z)=(do pure (.bool (!(<-Af g (.slice (Sa f) n c) (.slice Sb u z))))):=rfl;have B:eqGuard .neq g a3 a4 (.slice (Sa f) n c) (.slice Sb u z)=pure ():=rfl;simp_all[Ab,zUn,execOp]
    .cases h
   .cases h
  .cases h
 .split at h
  .rename_i hd m;rw[m]at t;split at h
   .rename_i op;rw[op]at p;have i:=Rd.eq_val p;split at h
    .split at h
     .rename_i k x;cases h;refine⟨.bool Sd,?_,.val _⟩;generalize E:a.eval a3=K at t
      cases t with
      |hd id f L=>have d:(underlying g).run P w=.ok (.pointer k) w:=zN x w;have A:binOp .eql g (.pointer (Sa f)) (.pointer Sb)=(do pure (.bool ((<-Af g (.pointer (Sa f)) (.pointer Sb))))):=rfl;have B:eqGuard .eql g a3 a4 (.pointer (Sa f)) (.pointer Sb)=pure ():=rfl;simp[execOp,E,i,B,A,zO7 d]
     .cases h
    .cases h
   .cases h
  .rename_i M o m;rw[m]at t;split at h
   .rename_i op;rw[op]at p;have i:=Rd.eq_val p;split at h
    .rename_i k x;have d:(underlying g).run P w=.ok (.pointer k) w:=zN x w
     have D:∃q:Option Addr,a.eval a3=.pointer q/\q.isNone=o.isNone:=by
      generalize a.eval a3=K at t
      cases t with
      |ptn=>grind
      |pt _ id b a3 N=>grind
     obtain⟨q,O,H⟩:=D
     have Q:(Af g (.pointer q) (.pointer Sb)).run P w=.ok o.isNone w:=by
      rw[<-H]
      cases q with
      |none=>
       show(Ad (9999+1) g (.pointer Sb) (.pointer Sb)).run P w=.ok Sc w;unfold Ad;simp only[Ac,d,Ab];rfl
      |some f=>exact zO7 d
     split at h
     .cases h;refine⟨.bool o.isNone,?_,.val _⟩;have A:binOp .eql g (.pointer q) (.pointer Sb)=(do pure (.bool ((<-Af g (.pointer q) (.pointer Sb))))):=rfl;simp_all[Ac,Ab,eqGuard,pure,execOp]
     .cases h;refine⟨.bool (!o.isNone),?_,.val _⟩;have A:binOp .neq g (.pointer q) (.pointer Sb)=(do pure (.bool (!(<-Af g (.pointer q) (.pointer Sb))))):=rfl
      grind[Ac,Aj,Ab,eqGuard,pure,execOp]
     .cases h
    .cases h
   .cases h
  .cases h
theorem zXF{O:Nat->Prop}{s:Γ.St}(H:Γ.R s F O w){t:TypeId}{x:T}{r:R Γ.St}(D:zY w F β al C x)(h:zGZ P t x=Sa r):∃u y,r=.ret y/\(Ar t C).run P w=.ok u w/\zY w F β al u y:=by
 have j:∀(id b f:Nat) (l i:List V) (d:V),F (.k id b i)->(∀(m:Nat) (d:V),l[m]?=Sa d->i[f+m]?=Sa d)->ldV P t l=Sa d->
   ∃u,(Ar t (.pointer (Sa ⟨b,f,Sb⟩))).run P w=.ok u w/\Rd w F u d:=by
  intro id b f l i d p A n;obtain⟨c,I,J,B⟩:=Γ.ld H p
  have v:∀m,m<l.length->∃x,w.cell? ⟨b,f+m,Sb⟩=Sa x/\∀d,l[m]?=Sa d->Rd w F x d:=by
   intro m E;obtain⟨x,q,z⟩:=B _ _ (A m l[m] (by simp[E]));obtain⟨hlt,rfl⟩:=ar.1 q
   grind[List.getElem?_eq_getElem,Option.some.injEq,World.cell?]
  let g:Nat->Value:=fun m=>(w.cell? ⟨b,f+m,Sb⟩).getD undef;refine zQP (g:=g) (fun m E=>?_) (fun m d n=>?_) n;all_goals grind
 unfold zGZ at h;split at h
 .simp at h;obtain⟨d,n,rfl⟩:=h
  cases D with
  |hp id b f l i p A=>obtain⟨u,q,z⟩:=j id b f _ _ d p A n;exact⟨u,_,rfl,q,z⟩
 .simp at h;obtain⟨d,n,rfl⟩:=h
  cases D with
  |pt _ id b x p=>obtain⟨u,q,z⟩:=j id b 0 _ _ d p (fun m d n=>by grind) n;exact⟨u,_,rfl,q,z⟩
 .cases h
theorem qB3{O:Nat->Prop}{s:Γ.St}(l:Γ.R s F O w){r:R Γ.St}(n:zY w F β al (a.eval a3) (evx G e a3))(k:zY w F β al (a.eval a4) (evx G e a4))(h:zSl P a6 g (evx G e a3) (evx G e a4)=Sa r):
  zDU Γ P S ⟨a1,.binOp a6 g a3 a4 j,a9,a0,J,I⟩ a w F β al al st r:=by
 unfold zSl at h;split at h
 .rename_i ty o N p u A;rw[u]at n;rw[A]at k;split at h
  .rename_i x Q;have f:(underlying g).run P w=.ok (.pointer x) w:=zN Q w;split at h
   .rename_i z W;have B:(sizeOf x).run P w=.ok (z+1) w:=zK W w
    have Y:∃q c:Option Addr,a.eval a3=.pointer q/\a.eval a4=.pointer c/\(Af g (.pointer q) (.pointer c)).run P w=.ok (zRv o p) w:=by
     generalize a.eval a3=vx at n;generalize a.eval a4=vy at k;have d:∀q:Option Addr,(Af g (.pointer Sb) (.pointer q)).run P w=.ok q.isNone w:=by intro q;show(Ad (9999+1) g (.pointer Sb) (.pointer q)).run P w=.ok q.isNone w;unfold Ad;simp only[Ac,f,Ab];rfl
     cases n with
     |ptn=>
      cases k with
      |ptn=>exact⟨Sb,Sb,rfl,rfl,d Sb⟩
      |pt _ id b a3 C=>exact⟨Sb,Sa _,rfl,rfl,d _⟩
     |pt _ id b a3 C=>
      cases k with
      |ptn=>exact⟨Sa _,Sb,rfl,rfl,zO7 f⟩
      |pt _ D E x' op=>
       refine⟨Sa _,Sa _,rfl,rfl,?_⟩;have hk:=Γ.eqk l C op;obtain⟨c1,t1,Z,_⟩:=Γ.ld l C;obtain⟨c2,t2,h2,_⟩:=Γ.ld l op;show(Ad (9999+1) g (.pointer (Sa ⟨b,0,Sb⟩)) (.pointer (Sa ⟨E,0,Sb⟩))).run P w=.ok (Nat.beq id D) w;unfold Ad;simp only[Ac,f,Ab];simp[B];by_cases i:b=E
       .subst i;rw[run_sameAddr_same];simp_all
       .rw[run_sameAddr_other w (a:=⟨b,0,Sb⟩) (b:=⟨E,0,Sb⟩) (fun h=>i (congrArg Addr.block h)) Z h2]
        grind[Nat.eq_of_beq_eq_true,id,absurd]
    obtain⟨q,c,M,t,K⟩:=Y;have L:∀a6,eqGuard a6 g a3 a4 (.pointer q) (.pointer c)=pure ():=by intro a6;cases a6<;>cases q<;>cases c<;>rfl
    split at h
    .cases h;refine⟨.bool (zRv o p),?_,.val _⟩;have H:binOp .eql g (.pointer q) (.pointer c)=(do pure (.bool ((<-Af g (.pointer q) (.pointer c))))):=rfl;simp[execOp,M,t,L,H,K]
    .cases h;refine⟨.bool (!zRv o p),?_,.val _⟩;have H:binOp .neq g (.pointer q) (.pointer c)=(do pure (.bool (!(<-Af g (.pointer q) (.pointer c))))):=rfl;simp[execOp,M,t,L,H,K]
    .cases h
   .cases h
  .cases h
 .cases h
theorem qDV{xs ys:Array Value}{d:Nat}{eqs:TypeId->V->V->Option Bool}{ds es:List V}
  (heq:∀t vx vy x y c,Rd w F vx x->Rd w F vy y->eqs t x y=Sa c->(Ad d t vx vy).run P w=.ok c w)
  (hx:xs.size=ds.length/\∀(i:Nat) (v:Value) (d:V),xs[i]?=Sa v->ds[i]?=Sa d->Rd w F v d)
  (hy:ys.size=es.length/\∀(i:Nat) (v:Value) (d:V),ys[i]?=Sa v->es[i]?=Sa d->Rd w F v d):∀(fs:List Field) (c:Bool),qEi P eqs ds es fs=Sa c->
  (forIn fs ((Sb,()):Option Bool×Unit) (fun f (_:Option Bool×Unit)=>
   if f.name ≠ "_" then do
    let u<-part f.type xs f.offset;let v<-part f.type ys f.offset;let b<-Ad d f.type u v
    if(!b)=Sc then pure (ForInStep.done (Sa Sd,()))else pure (ForInStep.yield (Sb,()))
   else pure (ForInStep.yield (Sb,()))):Sem (Option Bool×Unit)).run P w=.ok (if c then(Sb,())else(Sa Sd,())) w:=by
 intro fs
 induction fs with
 |nil=>simp_all[qEi]
 |cons f fs ih=>
  intro c h;simp only[qEi]at h;split at h
  .cases h
  .rename_i hname;split at h
   .rename_i a0 b0 ha hb;split at h
    .rename_i c1 c2 h1 h2;cases h;obtain⟨u,hu,hru⟩:=zOH (P:=P) hx.1 hx.2 ha;obtain⟨v,hv,hrv⟩:=zOH (P:=P) hy.1 hy.2 hb;have he:=heq f.type u v a0 b0 c1 hru hrv h1;rw[List.forIn_cons];simp only[ne_eq,hname,not_false_eq_true,if_true,Ac,hu,hv,he,Ab]
     cases c1 with
     |false=>simp
     |true=>have:=ih c2 h2;simp only[bI,bP,if_false,Aj,Ab,bR];exact this
    .cases h
   .cases h
theorem zO6:∀(d:Nat) (t:TypeId) (g i:Value) (x y:V) (c:Bool),Rd w F g x->Rd w F i y->eqV P d t x y=Sa c->(Ad d t g i).run P w=.ok c w:=by
 intro d
 induction d with
 |zero=>grind[eqV]
 |succ d q=>
  intro t g i x y c k l h;simp only[eqV]at h;split at h
  .rename_i f;split at h
   .cases h;rw[Rd.eq_val k,Rd.eq_val l];unfold Ad;simp only[Ac,zN f,Ab];rfl
   .cases h
  .rename_i I f;split at h
   .split at h
    .rename_i r;cases h;rw[Rd.eq_val k,Rd.eq_val l];unfold Ad;simp only[Ac,zN f,Ab,r,if_true];rfl
    .cases h
   .cases h
  .rename_i f;split at h
   .cases h;rw[Rd.eq_val k,Rd.eq_val l];unfold Ad;simp only[Ac,zN f,Ab];rfl
   .cases h
  .rename_i u f;split at h
   .split at h
    .rename_i m
     cases k with
     |agg J K z A=>
      cases l with
      |agg L M n p=>unfold Ad;have B:(program).run P w=.ok P w:=rfl;have j:P.stoodInHeld t=false:=m;simp only[Ac,zN f,Ab,B,j,bP,if_false];rw[<-Array.forIn_toList];have:=qDV (P:=P) (w:=w) (F:=F) (d:=d) (eqs:=eqV P d) (fun t g i x y c D E H=>q t g i x y c D E H) ⟨z,A⟩ ⟨n,p⟩ u.toList c h;rw[this];cases c<;>rfl
    .cases h
   .cases h
  .cases h
theorem qEe(C:zY w F β al (a.eval a3) (evx G e a3))(D:zY w F β al (a.eval a4) (evx G e a4))(h:zZE P a6 g (evx G e a3) (evx G e a4)=Sa l):
  zDU Γ P S ⟨a1,.binOp a6 g a3 a4 j,a9,a0,J,I⟩ a w F β al al st l:=by
 unfold zZE at h;split at h
 .rename_i N O u z;rw[u]at C;rw[z]at D;have c:Rd w F (a.eval a3) (.agg N):=C;have d:Rd w F (a.eval a4) (.agg O):=D
  have t:∀a6,(P.eqGuardType P.depth g=Sd)->(eqGuard a6 g a3 a4 (a.eval a3) (a.eval a4)).run P w=.ok () w:=by
   intro a6 p;generalize a.eval a3=E at c;generalize a.eval a4=H at d
   cases c with
   |agg y x K L=>
    cases d with
    |agg k M m n=>unfold eqGuard;simp_all
  have op:∀a6,a6=.eql->binOp a6 g (a.eval a3) (a.eval a4)=(do pure (.bool (<-Af g (a.eval a3) (a.eval a4)))):=by
   rintro _ rfl;generalize a.eval a3=E at c;generalize a.eval a4=H at d
   cases c with
   |agg y x K L=>
    cases d with
    |agg k M m n=>rfl
  have f:binOp .neq g (a.eval a3) (a.eval a4)=(do pure (.bool (!(<-Af g (a.eval a3) (a.eval a4))))):=by
   generalize a.eval a3=E at c;generalize a.eval a4=H at d
   cases c with
   |agg y x K L=>
    cases d with
    |agg k M m n=>rfl
  split at h
  .split at h
   .rename_i p;simp only[ak]at h;obtain⟨b,A,rfl⟩:=h;have B:(Af g (a.eval a3) (a.eval a4)).run P w=.ok b w:=zO6 (P:=P) 10000 g _ _ _ _ b c d A;refine⟨.bool b,?_,.val _⟩;have i:binOp .eql g (a.eval a3) (a.eval a4)=(do pure (.bool (<-Af g (a.eval a3) (a.eval a4)))):=op .eql rfl;simp[execOp,i,t .eql p,B]
   .cases h
  .split at h
   .rename_i p;simp only[ak]at h;obtain⟨b,A,rfl⟩:=h;have B:(Af g (a.eval a3) (a.eval a4)).run P w=.ok b w:=zO6 (P:=P) 10000 g _ _ _ _ b c d A;refine⟨.bool (!b),?_,.val _⟩;have i:binOp .neq g (a.eval a3) (a.eval a4)=(do pure (.bool (!(<-Af g (a.eval a3) (a.eval a4))))):=f;simp[execOp,i,t .neq p,B]
   .cases h
  .cases h
 .cases h
theorem zQw{n:Int}(hl:a.eval a3=.int .i64 n)(pos:a.eval a4=.int .i64 n)(h:zCD P g n=Sa l):
  zDU Γ P S ⟨a1,.makeSlice g a3 a4,j,a0,J,I⟩ a w F β al al st l:=by
 unfold zCD at h;split at h
 .rename_i type hu;split at h
  .rename_i t K;split at h
   .rename_i z hz;split at h
    .rename_i p;obtain⟨h0,hb,ab,ad,ag⟩:=p;obtain⟨an,ao⟩:=zF3 (zFO w F z) (by cases z<;>rfl);have ap:z.cells.size=t.size:=by omega
     have av:n<=0x800000000000:=by have:n*1<=n*(t.bytes:Int):=Int.mul_le_mul_of_nonneg_left (by omega) h0;omega
     have u:IntKind.i64.wrap n=n:=IntWalk.i64_in n (by omega)
     have y:∃(c:Array Value) (B:TypeId) (k:Nat),(execOp a.eval ⟨a1,.makeSlice g a3 a4,j,a0,J,I⟩).run P w=.ok (.value (.slice (Sa ⟨w.heap.size,0,Sb⟩) (Ak n.toNat (V.ofVal1 z)).length k)) { w with heap:=w.heap.push (.cells c B) } /\
       c.size=k*t.size/\(Ak n.toNat (V.ofVal1 z)).length<=k/\(Ak n.toNat (V.ofVal1 z)=[]->k=0)/\(∀e,e∈Ak n.toNat (V.ofVal1 z)->e.cells.length=t.size)/\
       ∀(i r:Nat) (e d:V) (x:Value),(Ak n.toNat (V.ofVal1 z))[i]?=Sa e->e.cells[r]?=Sa d->c[i*t.size+r]?=Sa x->Rd w F x d:=by
      refine⟨(Array.range (n.toNat*t.size)).map (fun i=>z.cells[i%z.cells.size]!),type,n.toNat,?_,by simp,by simp,by simp,?_,?_⟩
      .have ax:(zeroValue type).run P w=.ok z w:=by simp[zeroValue,xJ K,hz]
       have C:(sizeOf type).run P w=.ok t.size w:=zK (zBB K) w;have D:¬(n<0\/281474976710656< (t.bytes:Int)*n):=by grind
       simp only[not_or]at D;simp only[execOp,Instr.makeSlice,Ac,zN hu,Ab,hl,pos,asInt,asIntOf,Aj,xJ K,u];have L:(decide (n<0)||decide ((t.bytes:Int)*n>2^48))=false:=by simp;omega
       simp only[L,bY,cK];have E:(decide (n<0)||decide (n>n))=false:=by simp;omega
       simp only[E,bP,if_false];by_cases M:n.toNat*t.size=0
       .have m:∀f:Nat->Value,(Array.range (n.toNat*t.size)).map f= #[]:=by grind
        simp only[m];simp[C,M,newRow]
        grind
       simp_all[newRow]
      .grind
      .intro i r q d x N hj Y;have hq:q=V.ofVal1 z:=List.eq_of_mem_replicate (ae N);subst hq;have ay:=(aa.1 hj).1;have A:i<n.toNat:=by grind
       have h1:(i+1)*t.size<=n.toNat*t.size:=aq _ (by omega);rw[bE]at h1;have hlt:i*t.size+r<n.toNat*t.size:=by omega
       simp[hlt]at Y
       grind[Nat.mul_comm,Nat.mul_add_mod,Nat.mod_eq_of_lt]
     obtain⟨c,B,k,O,Z,Q,W,q5,q6⟩:=y;split at h
     .rename_i ty H;split at h
      .rename_i x Y;split at h
       .rename_i C;cases h;refine⟨_,c,B,k,O,by grind,Q,W,by grind,by grind,by simp,?_⟩
        grind[List.map_replicate,Am,zPi]
       .cases h
      .cases h;exact⟨c,B,k,O,Z,Q,W,q5,q6⟩
     .cases h;exact⟨c,B,k,O,Z,Q,W,q5,q6⟩
    .cases h
   .cases h
  .cases h
 .cases h
end
section
variable {Γ:Sig}{P:Program}{G:Nat->Option (List V)}{S:vF Γ}{e:Env Γ.St}{o:Oper}{a:Act}{w:World}{F:Blk->Prop}{β:Lay}{al:v6->Prop}
theorem zVR{St:Type}{c:Bool}{x:Option (St×RV)}{r:R St}(h:zN9 c x=Sa r):∃d f,x=Sa (d,f)/\r=.call d c f/\(c=Sc->f.plain=Sc):=by
 unfold zN9 at h
 grind
theorem qFw{x:T}{k:V}{v:Value}(h:qFx x=Sa k)(c:zY w F β al v x):qGl w F v k:=by
 unfold qFx at h;split at h
 .cases h;exact c
 .cases h;exact c
 .cases h;exact⟨Sb,Rd.eq_val c⟩
 .cases h
theorem zZB(L:qK Γ P G S){m:Option Tmp}{c:Call}{type:TypeId}{pos:String}{after:Array Edge}{guard:Option (Nat×Bool)}(l:c.callee=.builtin .append)
  (g:∀x,x∈c.operands->zY w F β al (a.eval x) (evx G e x)) {r:R Γ.St} (h:zMo P G S e c=Sa r):
  zDU Γ P S ⟨m,.call c,type,pos,after,guard⟩ a w F β al al e.st r:=by
 unfold zMo at h;split at h
 .rename_i n p M N y i;split at h
  .rename_i q t Q A B;split at h
   .cases h
   .rename_i C;split at h
    .rename_i W D E H;split at h
     .rename_i j k;split at h
      .rename_i z Y;split at h
       .rename_i Z;obtain⟨c1,c2,c3⟩:=Z;split at h
        .rename_i I d hs;cases h;have f:c.args= #[n,p]:=by grind
         have J:=g n (by grind[Ah]);have K:=g p (by grind[Ah]);have J:=qFw A J;rw[B]at K;refine .inl ⟨rfl,d,rfl,?_⟩;intro O hR hF;have zNO:=L.app C e.st q t Q j.bytes I d hs;obtain⟨u,w',hr,ht⟩:=zNO c.argTypes type M N W D j z w F O (a.eval n) (a.eval p) (by rw[<-bN,i];rfl) (by rw[<-bN,i];rfl) E H k Y c1 c2 c3 rfl hR hF J K;refine⟨u,w',?_,ht⟩;simp[execOp,resolve,l,f,invoke,builtin,hr]
        .cases h
       .cases h
      .cases h
     .cases h
    .cases h
  .cases h
 .cases h
theorem zZG(hS:qK Γ P G S)(hvars:∀s cs,e.var s=Sa cs->al (.v s)->w6 w F β al (β.vb s) cs){dst:Option Tmp}{c:Call}{type:TypeId}{pos:String}{after:Array Edge}{guard:Option (Nat×Bool)}
  (hops:∀x,x∈c.operands->zY w F β al (a.eval x) (evx G e x)) {r:R Γ.St} (h:zJ7 P G S e c ⟨dst,.call c,type,pos,after,guard⟩=Sa r):
  zDU Γ P S ⟨dst,.call c,type,pos,after,guard⟩ a w F β al al e.st r:=by
 have hns:∀cs b,(⟨dst,.call c,type,pos,after,guard⟩:Oper).op≠ .select cs b:=fun _ _ hc=>by cases hc
 unfold zJ7 at h;split at h
 .rename_i hcal;split at h
  .grind[Option.some.injEq,zZB]
  .exact xY hns hops h
 .rename_i hcal;split at h
  .rename_i x hx;split at h
   .rename_i r' hr';split at h
    .rename_i t ht;split at h
     .rename_i el hu;split at h
      .rename_i hsz;simp at h;subst h
       have hx0:c.args= #[x]:=by
        grind
       obtain⟨u,y,rfl,h1,h2⟩:=qB2 (P:=P) (c:=c) (hops x (by grind[Ah])) hr' hu ht type;refine⟨u,?_,h2⟩;simp_all[execOp,resolve,invoke,builtin]
      .cases h
     .cases h
    .cases h
   .exact xY hns hops h
  .cases h
 .exact xY hns hops h
 .cases h
 .rename_i f hcal;split at h
  .rename_i g caps ds hf hds;obtain⟨st',rv,h1,rfl,h2⟩:=zVR h;have hfr:=hops f (by simp[Ah,hcal]);rw[hf]at hfr;obtain⟨hlen,hargs⟩:=qCq (a:=a) hvars c.args.toList ds (fun x hx=>hops x (by grind[Ah])) hds;have hfr':Rd w F (a.eval f) (.clo g caps):=hfr;generalize hev:a.eval f=fv at hfr'
   cases hfr' with
   |clo _ cv _ hl hcap=>
    obtain⟨fn,hfn,hbody,hname⟩:=hS.is g e.st (ds++caps) _ h1 (by
     intro ds' hbot;have hnb:∀(F:Blk->Prop) (u:Value),¬Rd w F u .bot:=fun F u h=>by cases h
     cases ds with
     |nil=>
      cases hbot;have:0<cv.size:=by rw[hl];simp
      exact hnb F cv[0] (hcap 0 cv[0] .bot (by simp[this]) rfl)
     |cons d ds=>
      simp at hbot;obtain⟨rfl,_⟩:=hbot;have hl0:0< (c.args.toList.map a.eval).length:=by grind
      exact hnb _ _ (hargs 0 (c.args.toList.map a.eval)[0] .bot (ah hl0) rfl).1)
    refine .inr ⟨g,c.args.map a.eval++cv,ds++caps,?_,?_,?_,h1,h2⟩
    .have hb:¬fn.body=none:=by grind
     have hname' : ¬ fn.name = "runtime.NumGoroutine" := by simpa using hname
     simp[execOp,resolve,hcal,hev,Deferred.ofValue,invoke,callFunc,hfn,hname',hb]
    .grind
    .intro i x d hi hd;have hsz:(c.args.map a.eval).size=ds.length:=by simpa using hlen
     by_cases hlt:i<ds.length
     .grind
     .rw[aF (by omega)]at hd;rw[bu (by omega),hsz]at hi;have h3:=hcap _ x d hi hd;split
      .exact h3.mono (fun b hb=>.inl hb) (fun _ _=>rfl)
      .exact h3
  .cases h
theorem qAT(hS:qK Γ P G S){O0:Nat->Prop}{s0:Γ.St}(hR:Γ.R s0 F O0 w)(Q:∀s cs,e.var s=Sa cs->al (.v s)->w6 w F β al (β.vb s) cs)
  (g:∀x,x∈o.op.operands->zY w F β al (a.eval x) (evx G e x)) {r:R Γ.St} (h:evQ P G S e o=Sa r):zDU Γ P S o a w F β al al e.st r:=by
 obtain⟨ad,op,W,ag,M,guard⟩:=o;cases op<;>simp only[evQ]at h
 case move x=>
  cases h;exact⟨a.eval x,by simp[execOp],g x (by simp[Aa])⟩
 case assign x=>
  cases h;exact⟨a.eval x,by simp[execOp],g x (by simp[Aa])⟩
 case pick c x y=>exact xY (fun _ _ K=>by cases K) g h
 case makeMap t r0=>
  cases r0 with
  |some _=>cases h
  |none=>cases h;show(execOp a.eval ⟨ad,.makeMap t Sb,W,ag,M,guard⟩).run P w=_;simp[execOp,Instr.makeMap]
 case lookup t x ix ok=>
  split at h
  .rename_i id es ck q;split at h
   .rename_i k hk;simp at h;obtain⟨v,C,rfl⟩:=h;have A:=g x (by simp[Aa]);have N:=zNQ (g ix (by simp[Aa])) hk;rw[q]at A;obtain⟨_,ay,hm⟩:=A;refine⟨v,?_,zNj _ _ _⟩;have Y:=zD5 C w
    have:(As t (a.eval x) (a.eval ix) ok).run P w=(zVm t es k ok).run P w:=by
     rw[ay,N]
     cases hu:P.underlying t with
     |none=>
      simp_all[Ac,underlying,stuck,pure,zVm]
     |some d=>
      have hg:(getObj (β.ob id)).run P w=.ok (.map es.toArray ck) w:=by simp[getObj,Sem.run,hm]
      simp only[As,zVm,Ac,zN hu,Ab];cases d<;>simp[hg];congr 1
    simp_all[execOp]
   .cases h
  .cases h
 case alloc t=>
  split at h
  .rename_i z hz;simp only[aG]at hz;obtain⟨be,N,hz⟩:=hz;cases h;have a3:(zeroValue t).run P w=.ok z w:=by simp[zeroValue,xJ N,hz]
   obtain⟨E,D⟩:=zF3 (zFO w F z) (by cases z<;>rfl);refine⟨z.cells,t,?_,by simpa using E,?_⟩
   .simp[execOp,Instr.alloc,a3,newVar,newRow]
   .intro i x d Z h4;simp at h4;obtain⟨y,I,rfl⟩:=h4;exact D i x y Z I
  .cases h
 case box t x=>
  have A:=g x (by simp[Aa]);have Y:(execOp a.eval ⟨ad,.box t x,W,ag,M,guard⟩).run P w=.ok (.value (.pointer (Sa ⟨w.heap.size,0,Sb⟩))) { w with heap:=w.heap.push (.cells (a.eval x).cells t) } :=by simp[execOp,Instr.box,newVar,newRow]
  have H:∀y:T,zY w F β al (a.eval x) y->(a.eval x).cells= #[a.eval x]->zDU Γ P S ⟨ad,.box t x,W,ag,M,guard⟩ a w F β al al e.st (.var [y]):=by
   intro y I K;refine⟨(a.eval x).cells,t,Y,by rw[K];rfl,?_⟩
   grind
  cases q:evx G e x with
  |p d=>
   simp only[q]at h A;split at h
   .rename_i an;cases h;obtain⟨E,D⟩:=zF3 A an;refine⟨(a.eval x).cells,t,Y,by simpa using E,?_⟩;intro i u d' Z h4;simp at h4;obtain⟨y,I,rfl⟩:=h4;exact D i u y Z I
   .cases h
  |dead=>simp[q]at h
  |ow id k es=>
   simp[q]at h A;subst h;refine H _ A ?_;obtain⟨_,L,C,_⟩:=A;rw[C];rfl
  |oe id k es i O=>
   simp[q]at h A;subst h;refine H _ A ?_;obtain⟨_,_,L,C,_⟩:=A;rw[C];rfl
  |lp s O=>
   simp[q]at h A;subst h;refine H _ A ?_;obtain⟨_,C⟩:=A;rw[C];rfl
  |mp id es ck=>
   simp[q]at h A;subst h;refine H _ A ?_;obtain⟨_,C,_⟩:=A;rw[C];rfl
  |ot id t xs=>
   simp[q]at h A;subst h;refine H _ A ?_;rcases A with⟨_,a0,C⟩|⟨_,_,L,C,_⟩<;>(rw[C];rfl)
  |oet id t xs i O=>
   simp[q]at h A;subst h;refine H _ A ?_;obtain⟨_,_,L,C,_⟩:=A;rw[C];rfl
  |ov id t xs lo N=>
   simp[q]at h A;subst h;refine H _ A ?_;rcases A with⟨_,_,_,a0,C⟩|⟨_,_,_,_,L,C,_⟩<;>(rw[C];rfl)
  |on n=>
   simp[q]at h A;subst h;refine H _ A ?_;rcases zPs.shape A with⟨_,_,_,C⟩|⟨_,C⟩<;>(rw[C];rfl)
  |emp=>simp[q]at h A;subst h;refine H _ A ?_;obtain⟨a0,C⟩:=A;rw[C];rfl
 case build t ao=>
  split at h
  .rename_i ps ap
   obtain⟨u,y,rfl,E,D⟩:=zXJ (a:=a) (fun p hp=>g p.2 (by
    simp only[Aa]
    grind)) ap h
   exact⟨u,by simp[execOp,E],D⟩
  .cases h
 case buildSlice t n ao=>
  split at h
  .rename_i ps ap
   exact zO5 (fun p hp=>g p.2 (by
    simp only[Aa]
    grind)) ap h
  .cases h
 case makeSlice t l c=>
  split at h
  .rename_i n m hl K;split at h
   .rename_i a4;subst a4;have E:=g l (by simp[Aa]);have D:=g c (by simp[Aa]);rw[hl]at E;rw[K]at D;exact zQw (Rd.eq_val E) (Rd.eq_val D) h
   .cases h
  .cases h
 case load t x=>
  split at h
  .rename_i r' a5;simp at h;subst h;obtain⟨u,y,rfl,E,D⟩:=zXF hR (g x (by simp[Aa])) a5;exact⟨u,by simp[execOp,E],D⟩
  .obtain⟨u,y,rfl,E,D⟩:=zZy Q (g x (by simp[Aa])) h;exact⟨u,by simp[execOp,E],D⟩
 case nilCheck x=>
  have A:=g x (by simp[Aa]);split at h
  .rename_i cs q;cases h;rw[q]at A;refine⟨a.eval x,?_,A⟩;have B:Rd w F (a.eval x) (.pp cs):=A;generalize C:a.eval x=v at B;cases B;simp[execOp,C]
  .rename_i cs q;cases h;rw[q]at A;refine⟨a.eval x,?_,A⟩;have B:Rd w F (a.eval x) (.hp cs):=A;generalize C:a.eval x=v at B;cases B;simp[execOp,C]
  .rename_i ty y q;cases h;rw[q]at A;refine⟨a.eval x,?_,A⟩;have B:Rd w F (a.eval x) (.pt ty (Sa y)):=A;generalize C:a.eval x=v at B;cases B;simp[execOp,C]
  .rename_i f av q;cases h;rw[q]at A;refine⟨a.eval x,?_,A⟩;have B:Rd w F (a.eval x) (.clo f av):=A;generalize C:a.eval x=v at B;cases B;simp[execOp,C]
  .rename_i s O q;cases h;rw[q]at A;obtain⟨E,D⟩:=A;exact⟨a.eval x,by simp[execOp,D],E,D⟩
  .rename_i id k es i O q;cases h;rw[q]at A;obtain⟨E,D,L,Z,h4⟩:=A;exact⟨a.eval x,by simp[execOp,Z],E,D,L,Z,h4⟩
  .rename_i id ty xs i O q;cases h;rw[q]at A;obtain⟨E,D,L,Z,h4⟩:=A;exact⟨a.eval x,by simp[execOp,Z],E,D,L,Z,h4⟩
  .rename_i id bk ty xs j ys k O q;cases h;rw[q]at A;obtain⟨a1,a2,c,et,ax,k1,k2,k5,k6,k7,k8,k9⟩:=A;exact⟨a.eval x,by simp[execOp,k9],a1,a2,c,et,ax,k1,k2,k5,k6,k7,k8,k9⟩
  .exact xY (fun _ _ K=>by cases K) g h
 case binOp op t x y t'=>
  split at h
  .grind[Option.some.injEq,qB1,Aa]
  .split at h
   .grind[Option.some.injEq,qB3,Aa]
   .split at h
    .grind[Option.some.injEq,qEe,Aa]
    .exact xY (fun _ _ K=>by cases K) g h
 case unOp op t x=>exact xY (fun _ _ K=>by cases K) g h
 case convert s d x=>exact xY (fun _ _ K=>by cases K) g h
 case index t x i=>exact xY (fun _ _ K=>by cases K) g h
 case makeFunc fn first J=>
  cases fn<;>simp only[reduceCtorEq]at h;rename_i f;split at h
  .rename_i ds a6;split at h
   .rename_i a9;cases h;obtain⟨E,D⟩:=zC8 (a:=a) J.toList ds (fun x A=>g x (by grind[Aa])) a6;have ab:first= #[]:=Array.eq_empty_of_size_eq_zero a9
    refine⟨.func (.func f) #[] (J.map a.eval),by simp[execOp,Instr.makeFunc,ab],?_⟩;refine Rd.clo f _ ds (by simpa using E) ?_
    grind
   .cases h
  .cases h
 case slice t x lo N mx=>
  split at h
  .rename_i es q;have A:=g x (by simp[Aa]);rw[q]at A
   obtain⟨u,y,rfl,E,D⟩:=zPR (a:=a) (G:=G) (e:=e) (lo:=lo) (hi:=N) (mx:=mx) A
    (fun y I=>g y (by simp[Aa,I])) (fun y I=>g y (by simp[Aa,I])) (fun y I=>g y (by simp[Aa,I])) h
   exact⟨u,by simp[execOp,E],D⟩
  .rename_i ty xs q;have A:=g x (by simp[Aa]);rw[q]at A
   obtain⟨u,y,rfl,E,D⟩:=zVz (a:=a) (G:=G) (e:=e) (lo:=lo) (hi:=N) (mx:=mx) A
    (fun y I=>g y (by simp[Aa,I])) (fun y I=>g y (by simp[Aa,I])) (fun y I=>g y (by simp[Aa,I])) h
   exact⟨u,by simp[execOp,E],D⟩
  .rename_i id ty xs q;have A:=g x (by simp[Aa]);rw[q]at A
   obtain⟨u,y,rfl,E,D⟩:=zVA (a:=a) (G:=G) (e:=e) (lo:=lo) (hi:=N) (mx:=mx) A
    (fun y I=>g y (by simp[Aa,I])) (fun y I=>g y (by simp[Aa,I])) h
   exact⟨u,by simp[execOp,E],D⟩
  .exact xY (fun _ _ K=>by cases K) g h
 case fieldAddr t x i=>
  obtain⟨u,y,rfl,E,D⟩:=zQz (g x (by simp[Aa])) h;exact⟨u,by simp[execOp,E],D⟩
 case field t x i=>
  split at h
  .rename_i cs q;have A:=g x (by simp[Aa]);rw[q]at A;unfold zQX at h;split at h
   .rename_i f hf;obtain⟨fs,hu,bn⟩:=zIC hf;simp at h;obtain⟨d,hd,rfl⟩:=h;have B:Rd w F (a.eval x) (.agg cs):=A;generalize C:a.eval x=v at B
    cases B with
    |agg c _ hl hr=>obtain⟨u,E,D⟩:=zOH hl hr hd;exact⟨u,by simp_all[zN,execOp,Instr.field,asAgg],D⟩
   .cases h
  .cases h
 case indexAddr t x ix=>
  split at h
  .rename_i k i bb;have N:=g ix (by simp[Aa]);rw[bb]at N;have bd:=Rd.eq_val N;obtain⟨u,y,rfl,E,D⟩:=zQx (k:=k) (g x (by simp[Aa])) h;exact⟨u,by simp[execOp,bd,E],D⟩
  .cases h
 case extract x i=>
  split at h
  .rename_i vs q;have A:=g x (by simp[Aa]);rw[q]at A;simp at h;obtain⟨d,hd,rfl⟩:=h;have B:Rd w F (a.eval x) (.tup vs):=A;generalize C:a.eval x=v at B
   cases B with
   |tup c _ hl hr=>
    have hlt:i<c.size:=by grind
    exact⟨c[i],by simp[execOp,Instr.extract,C,hlt],hr i _ d (by simp[hlt]) hd⟩
  .cases h
 case call c=>exact zZG hS Q g h
 all_goals (cases h)
end
def ownT(d:Nat):List V->T
 |[]=>.emp
 |e::c=>.ow d e.cells.length (e::c)
def qHy(d k:Nat):List V->T
 |[]=>.emp
 |e::c=>.ow d k (e::c)
def frzT:List V->T
 |[]=>.emp
 |e::c=>.p (.sl (e::c))
def rvT(d:Nat):RV->T
 |.p x=>.p x
 |.own c=>ownT d c
 |.ownT t e=>.ot d t e
theorem zOW:∀(t:Ty) (x:t.El),t.flat=Sc->∀d,d∈t.cells x->d.isVal=true:=by
 intro t
 induction t with
 |pair a b c e=>
  intro x h d hd;simp[Ty.flat]at h
  grind[Ty.cells]
 |sl t _=>grind[Ty.flat]
 |rf=>grind[Ty.flat]
 |hd=>grind[Ty.flat]
 |pt t=>grind[Ty.flat]
 |unit=>grind[Ty.cells]
 |_=>intro x _ d hd;simp[Ty.cells]at hd;subst hd;rfl
theorem zZs(t:Ty)(xs:List t.El)(h:t.flat=Sc):(RV.own (xs.map t.enc)).plain=true:=by
 simp[RV.plain];intro x _;have c:=zOW t x h
 cases t with
 |pair a b=>
  have:(a.cells x.1++b.cells x.2).all V.isVal=true:=au.2 c;simp[Ty.enc,V.toVal1,this]
 |sl t=>simp[Ty.flat]at h
 |rf=>simp[Ty.flat]at h
 |hd=>simp[Ty.flat]at h
 |pt t=>simp[Ty.flat]at h
 |_=>rfl
theorem qFj{w w':World}{F F':Blk->Prop}:∀(t:Ty) (x:t.El),t.bare x=Sc->∀d,d∈t.cells x->∀v,Rd w F v d->Rd w' F' v d:=by
 intro t
 induction t with
 |pair a b f g=>
  intro x h d hd;simp[Ty.bare]at h
  grind[Ty.cells]
 |sl t _=>
  intro x h d hd v c;simp[Ty.cells]at hd;subst hd;have i:x=[]:=by grind[Ty.bare]
  subst i;obtain⟨a,e,j,_⟩:=zD4 c.untl;exact .tl t [] v (by rw[j];exact .slemp a e)
 |rf=>grind[Ty.bare]
 |hd=>grind[Ty.bare]
 |pt t=>grind[Ty.bare]
 |unit=>grind[Ty.cells]
 |_=>intro x _ d hd v c;simp only[Ty.cells,aM]at hd;subst hd;rw[Rd.eq_val c];exact .val _
def zS5{St:Type}(d:Nat):R St->T
 |.ret x=>x
 |.var _=>.lp d 0
 |.own k c=>qHy d k c
 |.frz c=>frzT c
 |.call _ _ r=>rvT d r
 |.mk=>.mp d [] 0
 |.frzT t e=>.p (.tl t e)
 |.ownT t e=>.ot d t e
def zPG{St:Type}(st:St):R St->St
 |.call c _ _=>c
 |_=>st
def R.needs{St:Type}:R St->Bool
 |.ret _=>Sd
 |.call _ _ (.p _)=>Sd
 |_=>Sc
structure qHv(Γ:Sig)(w0:World)(F0:Blk->Prop)(O0:x5)(w:World)(F:Blk->Prop)(β:Lay)(al:v6->Prop)(st:Γ.St)(d:Nat)(r:R Γ.St)
  (v:Value) (w':World) (F':Blk->Prop) (O':Nat->Prop) (β':Lay) (al':v6->Prop):Prop where
 core:zDx Γ w0 F0 O0 w' F' O' β' al' (zPG st r)
 ext:Ext w F β al w' F' β' al'
 new:∀x,al' x->al x\/(r.needs=Sc/\((x=.v d/\∃cs,r=.var cs)\/(x=.o d/\True)))
 res:zY w' F' β' al' v (zS5 d r)
 var:∀cs,r=.var cs->al' (.v d)/\w6 w' F' β' al' (β'.vb d) cs
section
variable {Γ:Sig}{P:Program}{G:Nat->Option (List V)}{S:vF Γ}{o:Oper}{a:Act}{w0:World}{F0:Blk->Prop}{O0:x5}{w:World}{F:Blk->Prop}{O:Nat->Prop}{β:Lay}{al:v6->Prop}{st:Γ.St}
theorem kM{w:World}{ob:Obj}{b:Nat}(h:b<w.heap.size):({ w with heap:=w.heap.push ob } :World).heap[b]?=w.heap[b]? :=by
 grind
theorem zBi{w:World}{ob:Obj}:({ w with heap:=w.heap.push ob } :World).heap[w.heap.size]?=Sa ob:=by simp
theorem xC.push{O0:Nat->Prop}(c:xC O0 w0 w)(ob:Obj):xC O0 w0 { w with heap:=w.heap.push ob } :=
 ⟨c.os,c.tape,c.output,by simp;have:=c.size;omega,fun b hb d=>by
  rw[kM (by have:=c.size;omega)];exact c.block b hb d,c.drawn⟩
theorem zDx.push_ext(c:zDx Γ w0 F0 O0 w F O β al st)(ob:Obj)(β':Lay)(al':v6->Prop)(hb:∀x,al x->β'.blk x=β.blk x)(ha:∀x,al x->al' x):
  Ext w F β al { w with heap:=w.heap.push ob } F β' al':=
 ⟨fun _ h=>h,fun b hb=>kM (c.fin b hb).2.1,ha,hb,fun x hx=>kM (c.place x hx).2.1⟩
theorem zDx.push(c:zDx Γ w0 F0 O0 w F O β al st)(ob:Obj)(β':Lay)(s:v6)(f:s≠ .o jV)(d:β'.blk s=w.heap.size)(hb:∀x,al x->β'.blk x=β.blk x):
  zDx Γ w0 F0 O0 { w with heap:=w.heap.push ob } F O β' (fun x=>al x\/x=s) st:=by
 refine⟨c.keep.push ob,Γ.mono c.sig (fun _ _=>cI) (fun b hb=>kM (Γ.inb c.sig b hb)) (fun n _ h=>⟨h,kM (c.fin n h).2.1⟩),c.oin,?_,c.f0,?_,?_,c.lent.step (fun b n _ hb e hf=>⟨kM (by have:=c.keep.size;omega),e,hf⟩)⟩
 .intro b hb;obtain⟨g,i,j⟩:=c.fin b hb
  grind
 .rintro x (hx|rfl)
  .obtain⟨g,i,j,k⟩:=c.place x hx
   grind
  .rw[d];refine⟨.inl ⟨f,c.keep.size⟩,by simp,fun hf=>?_,fun e=>?_⟩
   .have:=(c.fin _ hf).2.1;omega
   .have:=Γ.inb c.sig _ e;omega
 .rintro x y (hx|rfl) (hy|rfl) h
  .rw[hb x hx,hb y hy]at h;exact c.dist x y hx hy h
  .rw[hb x hx,d]at h;have:=(c.place x hx).2.1;omega
  .rw[d,hb y hy]at h;have:=(c.place y hy).2.1;omega
  .rfl
theorem zNq(hS:qK Γ P G S)(hG:zOo G w F)(l:zDx Γ w0 F0 O0 w F O β al st){L:v6->Prop}(hv:∀x,L x->β.blk x<w.heap.size/\¬O (β.blk x)){r:R Γ.St}(hs:zDU Γ P S o a w F β al L st r){d:Nat}
  (a5:r.needs=Sc->d≠jV) (a6:r.needs=Sc->¬al (.v d)/\¬al (.o d)) {K:Act->World->Prop} {Q:Exit->Act->World->Prop}
  (hK:∀v w' F' O' β' al',qHv Γ w0 F0 O0 w F β al st d r v w' F' O' β' al'->K (a.put o.dst v) w'):o.wp P a w K Q:=by
 unfold Oper.wp
 cases r with
 |ret x=>
  obtain⟨v,C,E⟩:=hs;rw[C];exact hK v w F O β al ⟨l,Ext.refl,fun x q=>.inl q,E,(fun cs h=>by cases h)⟩
 |var cs=>
  obtain⟨c,I,C,E,W⟩:=hs;rw[C];let β':Lay:= { β with vb:=fun s=>if s=d then w.heap.size else β.vb s }
  have m:∀x,al x->β'.blk x=β.blk x:=by
   intro x q
   cases x with
   |v s=>
    have Y:s≠d:=fun h=>(a6 rfl).1 (h▸q)
    grind[Lay.blk]
   |o id=>rfl
  have D:β'.blk (.v d)=w.heap.size:=by simp[Lay.blk,β']
  have z:=l.push_ext (.cells c I) β' (fun x=>al x\/x=.v d) m (fun x q=>.inl q)
  have cp:w6 { w with heap:=w.heap.push (.cells c I) } F β' (fun x=>al x\/x=.v d) (β'.vb d) cs:=by
   refine⟨c,I,?_,E,fun i x y hi N=>(W i x y hi N).ext z⟩
   grind
  refine hK _ _ F O β' (fun x=>al x\/x=.v d) ⟨l.push _ β' (.v d) (fun h=>by cases h) D m,z,?_,?_,?_⟩
  .rintro x (q|rfl)
   .exact .inl q
   .exact .inr ⟨rfl,.inl ⟨rfl,cs,rfl⟩⟩
  .refine⟨.inr rfl,?_⟩
   grind
  grind
 |own k B=>
  obtain⟨c,I,ad,C,E,W,be,h4,h5⟩:=hs;rw[C];let β':Lay:= { β with ob:=fun s=>if s=d then w.heap.size else β.ob s }
  have m:∀x,al x->β'.blk x=β.blk x:=by
   intro x q
   cases x with
   |o s=>
    have Y:s≠d:=fun h=>(a6 rfl).2 (h▸q)
    grind[Lay.blk]
   |v id=>rfl
  have D:β'.blk (.o d)=w.heap.size:=by simp[Lay.blk,β']
  have z:=l.push_ext (.cells c I) β' (fun x=>al x\/x=.o d) m (fun x q=>.inl q);have an:β'.ob d=w.heap.size:=D
  cases B with
  |nil=>
   have hp:=l.push (.cells c I) β' (.o d) (fun h=>a5 rfl (by cases h;rfl)) D m
   refine hK _ _ F O β' al ⟨⟨hp.keep,hp.sig,hp.oin,hp.fin,hp.f0,fun x q=>hp.place x (.inl q),fun x y q N=>hp.dist x y (.inl q) (.inl N),hp.lent⟩,
    ⟨z.f,z.hf,fun _ h=>h,z.b,z.ha⟩,fun x q=>.inl q,?_,(fun cs h=>by cases h)⟩
   exact⟨_,by rw[be rfl];rfl⟩
  |cons e0 cq=>
  refine hK _ _ F O β' (fun x=>al x\/x=.o d) ⟨l.push _ β' (.o d) (fun h=>a5 rfl (by cases h;rfl)) D m,z,?_,?_,?_⟩
  .rintro x (q|rfl)
   .exact .inl q
   .exact .inr ⟨rfl,.inr ⟨rfl,trivial⟩⟩
  .refine⟨.inr rfl,ad,by rw[an],c,I,?_,E,W,h4,?_⟩;all_goals grind[zBi,Rd.ext]
  grind
 |frzT t xs=>
  obtain⟨B,c,I,C,E,h4,h5,ao⟩:=hs;rw[C];let F':Blk->Prop:=fun b=>F b\/b=w.heap.size
  have z:Ext w F β al { w with heap:=w.heap.push (.cells c I) } F' β al:=
   ⟨fun _ h=>.inl h,fun b m=>kM (l.fin b m).2.1,fun _ h=>h,fun _ _=>rfl,fun x q=>kM (l.place x q).2.1⟩
  have ap:Rd { w with heap:=w.heap.push (.cells c I) } F' (.slice (Sa ⟨w.heap.size,0,Sb⟩) B.length B.length) (.tl t xs):=by
   refine .tl t xs _ ?_;have ab:qP { w with heap:=w.heap.push (.cells c I) } F' w.heap.size t.size B.length B:=⟨c,I,zBi,E,ai _,h4,fun i j e d' x a1 a2 a3=>Rd.ext z (h5 i j e d' x a1 a2 a3)⟩
   have:=zHu (F:=F') (ab.typed rfl ao) (fun _ h=>h) (.inr rfl);rw[<-ao.1]at this;exact this
  refine hK _ _ F' O β al ⟨?_,z,fun x q=>.inl q,ap,(fun cs h=>by cases h)⟩
  .refine⟨l.keep.push _,Γ.mono l.sig zSN (fun b m=>kM (Γ.inb l.sig b m)) (fun n _ h=>⟨.inl h,kM (l.fin n h).2.1⟩),l.oin,?_,l.f0.trans (zFM.addB _ _ _) (ai _),?_,l.dist,l.lent.step (fun b n _ m ho hf=>⟨kM (by have:=l.keep.size;omega),ho,fun h=>h.elim hf (fun h=>by have:=zCq h;have:=l.keep.size;omega)⟩)⟩
   .rintro b (m|m)
    .obtain⟨C,E,W⟩:=l.fin b m
     grind
    .have m:=zCq m;subst m;exact⟨.inr l.keep.size,by simp,fun ho=>by have:=Γ.inb l.sig _ ho;omega⟩
   .intro x q;obtain⟨C,E,W,h4⟩:=l.place x q
    grind
 |ownT t xs=>
  obtain⟨B,c,I,ad,C,E,W,be,h4,h5,ao⟩:=hs;rw[C];let β':Lay:= { β with ob:=fun s=>if s=d then w.heap.size else β.ob s }
  have m:∀x,al x->β'.blk x=β.blk x:=by
   intro x q
   cases x with
   |o s=>
    have Y:s≠d:=fun h=>(a6 rfl).2 (h▸q)
    grind[Lay.blk]
   |v id=>rfl
  have D:β'.blk (.o d)=w.heap.size:=by simp[Lay.blk,β']
  have z:=l.push_ext (.cells c I) β' (fun x=>al x\/x=.o d) m (fun x q=>.inl q);have an:β'.ob d=w.heap.size:=D;have cr:B.length=xs.length:=by have:=ao.1;simpa using this
  refine hK _ _ F O β' (fun x=>al x\/x=.o d) ⟨l.push _ β' (.o d) (fun h=>a5 rfl (by cases h;rfl)) D m,z,?_,?_,?_⟩
  .rintro x (q|rfl)
   .exact .inl q
   .exact .inr ⟨rfl,.inr ⟨rfl,trivial⟩⟩
  .by_cases h0:xs.map t.enc=[]
   .have he:B=[]:=aJ (by simp_all);subst he;exact .inl ⟨h0,_,by rw[be rfl];rfl⟩
   .refine .inr ⟨h0,.inr rfl,ad,by grind,?_⟩;rw[an];refine qP.typed ⟨c,I,zBi,E,W,h4,?_⟩ rfl ao
    grind[Rd.ext]
  grind
 |mk=>
  have cc:(execOp a.eval o).run P w=.ok (.value (.map (Sa w.heap.size))) { w with heap:=w.heap.push (.map #[] 0) } :=hs;rw[cc];let β':Lay:= { β with ob:=fun s=>if s=d then w.heap.size else β.ob s }
  have m:∀x,al x->β'.blk x=β.blk x:=by
   intro x q
   cases x with
   |o s=>
    have Y:s≠d:=fun h=>(a6 rfl).2 (h▸q)
    grind[Lay.blk]
   |v id=>rfl
  have D:β'.blk (.o d)=w.heap.size:=by simp[Lay.blk,β']
  have z:=l.push_ext (.map #[] 0) β' (fun x=>al x\/x=.o d) m (fun x q=>.inl q);have an:β'.ob d=w.heap.size:=D;refine hK _ _ F O β' (fun x=>al x\/x=.o d) ⟨l.push _ β' (.o d) (fun h=>a5 rfl (by cases h;rfl)) D m,z,?_,?_,?_⟩
  .rintro x (q|rfl)
   .exact .inl q
   .exact .inr ⟨rfl,.inr ⟨rfl,trivial⟩⟩
  .exact⟨.inr rfl,by rw[an],by grind⟩
  grind
 |frz B=>
  obtain⟨c,I,k,C,E,h4,h5⟩:=hs;rw[C];let F':Blk->Prop:=fun b=>F b\/b=w.heap.size
  have z:Ext w F β al { w with heap:=w.heap.push (.cells c I) } F' β al:=
   ⟨fun _ h=>.inl h,fun b m=>kM (l.fin b m).2.1,fun _ h=>h,fun _ _=>rfl,fun x q=>kM (l.place x q).2.1⟩
  have ap:Rd { w with heap:=w.heap.push (.cells c I) } F' (.slice (Sa ⟨w.heap.size,0,Sb⟩) B.length B.length) (.sl B):=by
   refine zHu (F:=F') (k:=k) ⟨c,I,zBi,E,ai _,h4,?_⟩ (fun _ h=>h) (.inr rfl)
   grind[Rd.ext]
  refine hK _ _ F' O β al ⟨?_,z,fun x q=>.inl q,?_,(fun cs h=>by cases h)⟩
  .refine⟨l.keep.push _,Γ.mono l.sig zSN (fun b m=>kM (Γ.inb l.sig b m)) (fun n _ h=>⟨.inl h,kM (l.fin n h).2.1⟩),l.oin,?_,l.f0.trans (zFM.addB _ _ _) (ai _),?_,l.dist,l.lent.step (fun b n _ m ho hf=>⟨kM (by have:=l.keep.size;omega),ho,fun h=>h.elim hf (fun h=>by have:=zCq h;have:=l.keep.size;omega)⟩)⟩
   .rintro b (m|m)
    .obtain⟨C,E,W⟩:=l.fin b m
     grind
    .have m:=zCq m;subst m;exact⟨.inr l.keep.size,by simp,fun ho=>by have:=Γ.inb l.sig _ ho;omega⟩
   .intro x q;obtain⟨C,E,W,h4⟩:=l.place x q
    grind
  .cases B with
   |nil=>exact⟨_,rfl⟩
   |cons e B=>exact ap
 |call av A rv=>
  have a9:∀b,F b->(if A then Fal F β L else F) b:=by
   intro b m
   cases A with
   |false=>exact m
   |true=>exact .inl m
  have b0:(A=Sc->rv.plain=Sc)->∀(v:Value) (w':World) (Fr:Blk->Prop) (O':Nat->Prop),Γ.R av Fr O' w'->xC O w w'->(∀b,O' b->O b\/w.heap.size<=b)->zBU (Γ.wk/\rv.isH) w.heap.size (if A then Fal F β L else F) Fr->
    (∀b:Nat,Fr b->((if A then Fal F β L else F) b\/w.heap.size<=b)/\b<w'.heap.size/\¬O' b)->zAM w.heap.size w' Fr O' v rv->K (a.put o.dst v) w':=by
   intro h5 v w' Fr O' g1 g2 g3 g4 g5 g6
   let b1:Blk->Prop:=fun b=>match b with
    |.s n=>Γ.wk/\F (.b n)
    |_=>False
   let F':Blk->Prop:=fun b=>Fr b/\(F b\/qHB w.heap.size b\/b1 b)
   have bb:∀n,Fr (.s n)->F (.s n)\/w.heap.size<=n\/(Γ.wk/\F (.b n)):=fun n h=>by
    rcases g4.2 n h with h|h|⟨C,E⟩
    .cases A with
     |false=>exact .inl h
     |true=>exact h.elim .inl (fun⟨_,_,h⟩=>by cases h)
    .omega
    .cases A with
     |false=>grind
     |true=>
      have hp:=h5 rfl;have C:=C.2
      cases rv with
      |p d=>cases d<;>first|exact False.elim C|cases hp
      |own B=>exact False.elim C
      |ownT t xs=>exact False.elim C
   have g1:Γ.R av F' O' w':=Γ.mono g1 (fun x q=>⟨fun h=>h.1,fun h=>⟨h,by
    cases x with
    |b n=>cases q
    |s n=>exact(bb n h).imp id (fun h=>h)
    |_=>exact .inr (.inl trivial)⟩⟩) (fun _ _=>rfl) (fun n h m=>⟨⟨m,(bb n h).elim (fun h=>.inl (Γ.sb l.sig h)) (fun h=>h.elim (fun h=>.inr (.inl h)) (fun h=>.inl h.2))⟩,rfl⟩)
   have b2:∀b,b<w.heap.size->¬O b->¬O' b:=fun b m ho h=>by
    grind
   have Z:∀b,b<w.heap.size->¬O b->w'.heap[b]?=w.heap[b]? :=g2.block;have H:∀(u:Value) (x:V) (y:Value),x.toVal=Sa y->Rd w' Fr u x->Rd w' F' u x:=fun u x y q hr=>hr.of_flat q
   have ap:∀(u:Value) (x:V),A=Sd->Rd w' Fr u x->Rd w' F' u x:=by
    intro u x hv hr;subst hv;refine hr.mono (fun b m=>⟨m,?_⟩) (fun _ _=>rfl)
    cases b with
    |b n=>exact(g5 n m).1.imp id .inl
    |s n=>exact(bb n m).imp id (fun h=>h)
    |_=>exact .inr (.inl trivial)
   have ax:∀(β':Lay) (al':v6->Prop),(∀x,al' x->(al x/\β'.blk x=β.blk x)\/((x≠ .o jV/\w.heap.size<=β'.blk x)/\β'.blk x<w'.heap.size/\¬F' (β'.blk x)/\¬O' (β'.blk x)))->
     (∀x y,al' x->al' y->β'.blk x=β'.blk y->x=y)->zDx Γ w0 F0 O0 w' F' O' β' al' av:=by
    intro β' al' J bk;refine⟨⟨g2.os.trans l.keep.os,g2.tape.trans l.keep.tape,g2.output.trans l.keep.output,aj l.keep.size g2.size,?_,aj l.keep.drawn g2.drawn⟩,g1,?_,?_,?_,?_,bk,l.lent.step (fun b n _ m ho hf=>⟨Z b (by have:=l.keep.size;omega) ho,b2 b (by have:=l.keep.size;omega) ho,fun h=>h.2.elim hf (fun h=>h.elim (fun h=>by have h:w.heap.size<=b:=h;have:=l.keep.size;omega) (fun h=>h))⟩)⟩
    .intro b m ho
     have cf:¬O b:=fun h=>by
      rcases l.oin b h with h|h
      .exact ho (.inl h)
      .omega
     rw[Z b (by have:=l.keep.size;omega) cf];exact l.keep.block b m ho
    .intro b m;rcases g3 b m with h|h
     .exact l.oin b h
     .exact .inr (aj l.keep.size h)
    .intro b m;obtain⟨C,E,W⟩:=g5 b m.1;refine⟨?_,E,W⟩;rcases m.2 with h|h|h
     .exact(l.fin b h).1
     .exact .inr (aj l.keep.size h)
     .exact h.elim
    .refine⟨fun b m=>?_,fun n hn=>?_⟩
     .have:=l.f0.1 b m;exact⟨g4.1 b (a9 b this),.inl this⟩
     .rcases bb n hn.1 with h|h|⟨C,E⟩
      .exact l.f0.2 n h
      .exact .inr (.inl (aj l.keep.size h))
      .exact(l.fin n E).1.elim (fun h=>.inr (.inr ⟨C,h⟩)) (fun h=>.inr (.inl h))
    .intro x q;rcases J x q with⟨C,E⟩|⟨C,E,W,h4⟩
     .obtain⟨k1,k2,k3,k4⟩:=l.place x C;rw[E];refine⟨k1,az k2 g2.size,fun h=>?_,b2 _ k2 k4⟩;rcases h.2 with h|h|h
      .exact k3 h
      .have h:w.heap.size<=β.blk x:=h;omega
      .exact h.elim
     .exact⟨.inl ⟨C.1,aj l.keep.size C.2⟩,E,W,h4⟩
   have z:∀(β':Lay) (al':v6->Prop),(∀x,al x->al' x)->(∀x,al x->β'.blk x=β.blk x)->Ext w F β al w' F' β' al':=by
    intro β' al' ha m;refine⟨fun b m=>⟨g4.1 b (a9 b m),.inl m⟩,fun b m=>Z b (l.fin b m).2.1 (l.fin b m).2.2,ha,m,fun x q=>?_⟩;obtain⟨k1,k2,k3,k4⟩:=l.place x q
    grind
   have ay:=ax β al (fun x q=>.inl ⟨q,rfl⟩) l.dist;have a4:=z β al (fun _ h=>h) (fun _ _=>rfl)
   have bd:∀(B:List V),qAb w.heap.size w' Fr O' v B->(A=Sc->∀e,e∈B->∀d,d∈e.cells->∀x,Rd w' Fr x d->Rd w' F' x d)->(R.call av A rv:R Γ.St).needs=Sc->
     (B=[]->∀β al,zY w' F' β al v .emp->zY w' F' β al v (rvT d rv))->
     (B≠[]->∀k β al,(∀e,e∈B->e.cells.length=k)->zY w' F' β al v (.ow d k B)->zY w' F' β al v (rvT d rv))->K (a.put o.dst v) w':=by
    intro B g6 h5 b6 hE hO;rcases g6 with⟨h0,a0,rfl⟩|⟨Y,b,ad,rfl,k1,k2,k3,k4,k,ab⟩
    .exact hK _ w' F' O' β al ⟨ay,a4,fun x q=>.inl q,hE h0 β al ⟨a0,rfl⟩,(fun cs h=>by cases h)⟩
    .have ch:∀e,e∈B->e.cells.length=k:=by obtain⟨c,I,q1,q2,q3,q4,q5⟩:=ab;exact q4
     have bn:zY w' F' { β with ob:=fun s=>if s=d then b else β.ob s } (fun x=>al x\/x=.o d) (.slice (Sa ⟨b,0,Sb⟩) B.length ad) (.ow d k B):=by
      refine⟨.inr rfl,ad,by simp,?_⟩;simp;obtain⟨c,I,q1,q2,q3,q4,q5⟩:=ab;refine⟨c,I,q1,q2,q3,q4,?_⟩
      grind
     let β':Lay:= { β with ob:=fun s=>if s=d then b else β.ob s }
     have m:∀x,al x->β'.blk x=β.blk x:=by
      intro x q
      cases x with
      |o s=>
       grind[Lay.blk]
      |v id=>rfl
     have D:β'.blk (.o d)=b:=by simp[Lay.blk,β']
     have cv:¬F' b:=fun h=>k3 h.1;refine hK _ w' F' O' β' (fun x=>al x\/x=.o d) ⟨?_,z β' _ (fun x q=>.inl q) m,?_,hO Y k _ _ ch bn,(fun cs h=>by cases h)⟩
     .refine ax β' _ ?_ ?_
      .grind
      .rintro x y (q|rfl) (N|rfl) h
       .rw[m x q,m y N]at h;exact l.dist x y q N h
       .rw[m x q,D]at h;have:=(l.place x q).2.1;omega
       .rw[D,m y N]at h;have:=(l.place y N).2.1;omega
       .rfl
     grind
   cases rv with
   |p x=>
    refine hK v w' F' O' β al ⟨ay,a4,fun x q=>.inl q,?_,(fun cs h=>by cases h)⟩;show Rd w' F' v x
    cases ag:A with
    |false=>exact ap v x ag g6
    |true=>
     have:=h5 ag;simp[RV.plain,bm]at this;obtain⟨y,N⟩:=this;exact H v x y N g6
   |own B=>
    refine bd B g6 (fun ag e he d' M x this=>?_) rfl ?_ ?_
    .have J:=h5 ag;simp only[RV.plain]at J;have h6:=au.1 J e he;obtain⟨y,N⟩:=bm.1 h6
     cases e with
     |val u=>simp[V.cells]at M;subst M;exact H x _ u rfl this
     |agg cs=>
      simp only[V.toVal1]at N;split at N
      .rename_i b3;have h7:=zAU (au.1 b3 d' M);rw[h7]at this ⊢;exact H x _ _ rfl this
      .cases N
     |_=>simp[V.toVal1]at N
    .intro h0 β al h;subst h0;exact h
    .intro Y k β al hk h
     cases B with
     |nil=>grind
     |cons e B=>
      show zY _ _ _ _ _ (.ow d e.cells.length (e::B))
      grind
   |ownT t xs=>
    refine bd (xs.map t.enc) g6 (fun ag e he d' M x this=>?_) rfl ?_ ?_
    .have J:=h5 ag;simp only[RV.plain,bO]at J;simp at he;obtain⟨y,N,rfl⟩:=he;rw[jM]at M;rcases J with J|J
     .have h7:=zAU (zOW t y J d' M);rw[h7]at this ⊢;exact H x _ _ rfl this
     grind[qFj,List.all_eq_true]
    .grind[zBO,rvT,T.un]
    .intro Y k β al hk h
     cases xs with
     |nil=>grind
     |cons x xs=>
      refine zBO.2 ?_;have:k=t.size:=by grind[wZ]
      subst this;exact h
  rcases hs with⟨rfl,d0,rfl,b4⟩|⟨f,b5,ds,C,E,W,h4,h5⟩
  .obtain⟨u,w',hr,F',O',g1,g2,g3,g4,g5,g6⟩:=b4 O l.sig (fun b m=>(l.fin b m).2);rw[hr];exact b0 (fun h=>by cases h) u w' F' O' g1 g2 g3 g4.w g5 g6
  .rw[C]
   have ck:∀b:Nat,(if A then Fal F β L else F) b->b<w.heap.size/\¬O b:=by
    intro b m
    cases A with
    |false=>exact(l.fin b m).2
    |true=>
     rcases m with m|⟨x,q,cx⟩
     .exact(l.fin b m).2
     grind
   have cl:zOo G w (if A then Fal F β L else F):=fun g cs hg=>(hG g cs hg).mono a9 (fun _ _=>rfl)
   have bo:Γ.R st (if A then Fal F β L else F) O w:=Γ.mono l.sig (by
    intro x q
    cases A with
    |false=>exact cI
    |true=>exact⟨fun h=>h.elim (fun h=>h) (fun⟨_,_,h⟩=>by subst h;cases q),.inl⟩) (fun _ _=>rfl) (fun n _ h=>⟨a9 _ h,rfl⟩)
   have bs:=hS.ok f w (if A then Fal F β L else F) O st b5 ds av rv bo cl ck E (fun i x d hi M=>W i x d hi M) h4;refine bs.mono ?_
   grind
end
def T.hasO(id:Nat):T->Prop
 |.ow i _ _=>i=id
 |.oe i _ _ _ _=>i=id
 |.mp i _ _=>i=id
 |.ot i _ xs=>i=id/\xs≠[]
 |.oet i _ _ _ _=>i=id
 |.ov i _ xs _ _=>i=id/\xs≠[]
 |.on n=>n.id=id\/n.id2=id
 |_=>False
def T.sites(al:v6->Prop):T->Prop
 |.ow i _ _=>al (.o i)
 |.oe i _ _ _ _=>al (.o i)
 |.mp i _ _=>al (.o i)
 |.ot i _ xs=>xs≠[]->al (.o i)
 |.oet i _ _ _ _=>al (.o i)
 |.ov i _ xs _ _=>xs≠[]->al (.o i)
 |.on n=>al (.o n.id)/\al (.o n.id2)
 |.lp s _=>al (.v s)
 |_=>True
def jN(d:Nat):T->T
 |.ow i k f=>if i=d then .dead else .ow i k f
 |.oe i k f j c=>if i=d then .dead else .oe i k f j c
 |.lp s c=>if s=d then .dead else .lp s c
 |.mp i f h=>if i=d then .dead else .mp i f h
 |.ot i t g=>if i=d then .dead else .ot i t g
 |.oet i t g j c=>if i=d then .dead else .oet i t g j c
 |.ov i t g j c=>if i=d then .dead else .ov i t g j c
 |.on n=>if n.id=d\/n.id2=d then .dead else .on n
 |x=>x
section
variable {St:Type}
def Env.has(e:Env St)(x:T):Prop:=x∈e.tm\/∃s c,e.var s=Sa c/\x∈c
def zT(e:Env St):v6->Prop
 |.v s=>∃c,e.var s=Sa c
 |.o id=>∃x,e.has x/\x.hasO id
def Env.kill(d:Nat)(e:Env St):Env St:=
 { e with tm:=e.tm.map (jN d),vars:=(e.vars.set d Sb).map (fun c=>c.map (List.map (jN d))) }
def Env.put(e:Env St)(d:Option Tmp)(x:T):Env St:=
 match d with
 |some d=> { e with tm:=e.tm.set d x }
 |none=>e
def zPH(d:Nat):R St->R St
 |.var c=>.var (c.map (jN d))
 |r=>r
def Env.setR(e:Env St)(d:Nat)(r:R St):Env St:=
 match r with
 |.var c=> { e with vars:=e.vars.set d (Sa c),tm:=e.tm.set d (.lp d 0) }
 |.call st _ f=> { e with st:=st,tm:=e.tm.set d (rvT d f) }
 |r=> { e with tm:=e.tm.set d (zS5 d r) }
def zAt(e:Env St)(c:Option Tmp)(r:R St):Option (Env St):=
 match c with
 |some d=>if r.needs then(if d<e.vars.length/\d≠jV then Sa ((e.kill d).setR d (zPH d r))else Sb)else Sa (e.setR d r)
 |none=>match r with
  |.ret _=>Sa e
  |.call st _ (.p _)=>Sa { e with st:=st }
  |_=>Sb
theorem zKJ(e:Env St)(d t:Nat):(e.kill d).get t=jN d (e.get t):=by simp[Env.kill,Env.get];cases e.tm[t]? <;>rfl
theorem zAc(e:Env St)(d s:Nat):(e.kill d).var s=if s=d then Sb else(e.var s).map (List.map (jN d)):=by
 simp only[Env.kill,Env.var,aA]
 grind
theorem yZ(e:Env St)(d t:Nat)(x:T):({ e with tm:=e.tm.set d x } :Env St).get t=if t=d/\d<e.tm.length then x else e.get t:=by
 simp[Env.get]
 grind
end
theorem zBb(a:Act)(d t:Nat)(v:Value):(a.put (Sa d) v).tmps.getD t undef=if t=d/\d<a.tmps.size then v else a.tmps.getD t undef:=by simp only[Act.put];by_cases h:t=d;all_goals simp_all[c9]
section
variable {w:World}{F:Blk->Prop}{β:Lay}{al al':v6->Prop}
theorem zY.on{v:Value}{x:T}(h:zY w F β al v x)(f:x.sites al'):zY w F β al' v x:=by
 cases x with
 |p d=>exact h
 |ow i k l=>exact⟨f,h.2⟩
 |oe i k l j g=>exact⟨f,h.2⟩
 |lp s g=>exact⟨f,h.2⟩
 |mp i l m=>exact⟨f,h.2⟩
 |ot i t xs=>
  rcases h with h|⟨c,_,h⟩
  .exact .inl h
  .exact .inr ⟨c,f (by simpa using c),h⟩
 |oet i t xs j g=>exact⟨f,h.2⟩
 |ov i t xs lo q=>
  rcases h with h|⟨c,_,h⟩
  .exact .inl h
  .exact .inr ⟨c,f c,h⟩
 |on n=>exact⟨f.1,f.2,h.2.2⟩
 |emp=>exact h
 |dead=>trivial
theorem zY.sites{v:Value}{x:T}(h:zY w F β al v x):x.sites al:=by
 cases x with
 |p d=>trivial
 |ow i k g=>exact h.1
 |oe i k g j c=>exact h.1
 |lp s c=>exact h.1
 |mp i g m=>exact h.1
 |ot i t xs=>
  intro f;rcases h with⟨l,_⟩|⟨_,ha,_⟩
  all_goals simp_all
 |oet i t xs j c=>exact h.1
 |ov i t xs lo q=>
  intro f;rcases h with⟨l,_⟩|⟨_,ha,_⟩
  all_goals grind
 |on n=>exact⟨h.1,h.2.1⟩
 |emp=>trivial
 |dead=>trivial
def alm(d:Nat)(al:v6->Prop)(x:v6):Prop:=al x/\x≠ .v d/\x≠ .o d
theorem zY.kill{v:Value}{x:T}{d:Nat}(h:zY w F β al v x):zY w F β (alm d al) v (jN d x):=by
 cases x with
 |p d=>exact h
 |ow i k l=>
  simp only[jN];split
  .trivial
  .rename_i c;exact⟨⟨h.1,by simp,by simpa using c⟩,h.2⟩
 |oe i k l j f=>
  simp only[jN];split
  .trivial
  .rename_i c;exact⟨⟨h.1,by simp,by simpa using c⟩,h.2⟩
 |lp s f=>
  simp only[jN];split
  .trivial
  .rename_i c;exact⟨⟨h.1,by simpa using c,by simp⟩,h.2⟩
 |mp i l q=>
  simp only[jN];split
  .trivial
  .rename_i c;exact⟨⟨h.1,by simp,by simpa using c⟩,h.2⟩
 |ot i t xs=>
  simp only[jN];split
  .trivial
  .rename_i c;rcases h with h|⟨g,ha,h⟩
   .exact .inl h
   .exact .inr ⟨g,⟨ha,by simp,by simpa using c⟩,h⟩
 |oet i t xs j f=>
  simp only[jN];split
  .trivial
  .rename_i c;exact⟨⟨h.1,by simp,by simpa using c⟩,h.2⟩
 |ov i t xs lo r=>
  simp only[jN];split
  .trivial
  .rename_i c;rcases h with h|⟨g,ha,h⟩
   .exact .inl h
   .exact .inr ⟨g,⟨ha,by simp,by simpa using c⟩,h⟩
 |on n=>
  simp only[jN];split
  .trivial
  .rename_i c;have m:=not_or.1 c;exact⟨⟨h.1,by simp,by simpa using m.1⟩,⟨h.2.1,by simp,by simpa using m.2⟩,h.2.2⟩
 |emp=>exact h
 |dead=>trivial
theorem w6.kill{b d:Nat}{cs:List T}(h:w6 w F β al b cs):w6 w F β (alm d al) b (cs.map (jN d)):=by obtain⟨c,f,g,j,k⟩:=h;refine⟨c,f,g,by simpa using j,?_⟩;intro i x y l hy;simp at hy;obtain⟨z,hz,rfl⟩:=hy;exact(k i x z l hz).kill
theorem w6.on{b:Nat}{cs:List T}(h:w6 w F β al b cs)(d:∀x,x∈cs->x.sites al'):w6 w F β al' b cs:=by obtain⟨c,f,g,j,k⟩:=h;exact⟨c,f,g,j,fun i x y l hy=>(k i x y l hy).on (d y (ae hy))⟩
theorem w6.mem{b:Nat}{cs:List T}(h:w6 w F β al b cs){x:T}(hx:x∈cs):x.sites al:=by obtain⟨i,c,rfl⟩:=aC hx;obtain⟨u,_,d⟩:=h.at i c;exact d.sites
end
def Inv(Γ:Sig)(G:Nat->Option (List V))(w0:World)(F0:Blk->Prop)(O0:x5)(a:Act)(w:World)(e:Env Γ.St):Prop:=
 ∃(F:Blk->Prop) (O:Nat->Prop) (β:Lay),zDx Γ w0 F0 O0 w F O β (zT e) e.st/\zOo G w F/\a.tmps.size=e.tm.length/\a.defers=[]/\
  (∀t,zY w F β (zT e) (a.tmps.getD t undef) (e.get t))/\(∀s c,e.var s=Sa c->w6 w F β (zT e) (β.vb s) c)
section
variable {Γ:Sig}{P:Program}{G:Nat->Option (List V)}{S:vF Γ}{o:Oper}{a:Act}{w0:World}{F0:Blk->Prop}{O0:x5}{w:World}{F:Blk->Prop}{O:Nat->Prop}{β:Lay}{al al':v6->Prop}{st:Γ.St}{e e':Env Γ.St}
theorem zDx.anti(h:zDx Γ w0 F0 O0 w F O β al st)(ha:∀x,al' x->al x):zDx Γ w0 F0 O0 w F O β al' st:=
 ⟨h.keep,h.sig,h.oin,h.fin,h.f0,fun x hx=>h.place x (ha x hx),fun x y hx hy=>h.dist x y (ha x hx) (ha y hy),h.lent⟩
theorem qAN{x:T}{t:Nat}(h:e.get t=x):x∈e.tm\/x=.dead:=by
 grind[Am,Env.get]
theorem Inv.of(B:zDx Γ w0 F0 O0 w F O β al e.st)(C:zOo G w F)(p:a.tmps.size=e.tm.length)(q:a.defers=[])
  (z:∀t,zY w F β al (a.tmps.getD t undef) (e.get t)) (r:∀s cs,e.var s=Sa cs->al (.v s)/\w6 w F β al (β.vb s) cs)
  (D:∀s,al (.v s)->∃cs,e.var s=Sa cs):Inv Γ G w0 F0 O0 a w e:=by
 have f:∀x,zT e x->al x:=by
  intro x hx
  cases x with
  |v s=>obtain⟨cs,d⟩:=hx;grind
  |o id=>
   obtain⟨x,hx,hid⟩:=hx
   have c:x.sites al:=by
    rcases hx with hx|⟨s,cs,d,hx⟩
    .obtain⟨t,u,rfl⟩:=aC hx;have:=z t;simp only[Env.get,ba,ah u,dy]at this;exact this.sites
    .exact(r s cs d).2.mem hx
   cases x<;>simp only[T.hasO]at hid<;>first|exact hid.elim|(subst hid;exact c)|(obtain⟨rfl,g⟩:=hid;exact c g)|(rcases hid with rfl|rfl<;>first|exact c.1|exact c.2)
 have l:∀x,e.has x->x.sites al->x.sites (zT e):=by
  intro x hx E
  cases x with
  |ow i k A=>exact⟨_,hx,rfl⟩
  |oe i k A j m=>exact⟨_,hx,rfl⟩
  |mp i A H=>exact⟨_,hx,rfl⟩
  |ot i t xs=>exact fun g=>⟨_,hx,rfl,g⟩
  |oet i t xs j m=>exact⟨_,hx,rfl⟩
  |ov i t xs lo I=>exact fun g=>⟨_,hx,rfl,g⟩
  |on n=>exact⟨⟨_,hx,.inl rfl⟩,⟨_,hx,.inr rfl⟩⟩
  |lp s m=>exact D s E
  |_=>trivial
 refine⟨F,O,β,B.anti f,C,p,q,?_,?_⟩
 .intro t;have h:=z t;refine h.on ?_;rcases qAN (e:=e) (t:=t) rfl with y|y
  .exact l _ (.inl y) h.sites
  .rw[y];trivial
 .intro s cs d;exact(r s cs d).2.on (fun x hx=>l x (.inr ⟨s,cs,d,hx⟩) ((r s cs d).2.mem hx))
theorem zOo.ext{w':World}{F':Blk->Prop}{β':Lay}(h:Ext w F β al w' F' β' al')(c:zOo G w F):zOo G w' F':=fun g d f=>(c g d f).ext h
theorem zY4{d:Nat}{r:R Γ.St}{f:v6->Prop}(h:zDU Γ P S o a w F β al f st r):zDU Γ P S o a w F β (alm d al) f st (zPH d r)\/∃x,r=.ret x:=by
 cases r with
 |ret x=>grind
 |var D=>
  refine .inl ?_;obtain⟨c,l,m,n,p⟩:=h;refine⟨c,l,m,by simpa using n,?_⟩;intro i x y q g;simp at g;obtain⟨z,u,rfl⟩:=g;exact(p i x z q u).kill
 |own k A=>exact .inl h
 |frz A=>exact .inl h
 |mk=>exact .inl h
 |frzT t B=>exact .inl h
 |ownT t B=>exact .inl h
 |call C j E=>exact .inl h
theorem uS(c:zOo G w F)(j:∀t,zY w F β al (a.tmps.getD t undef) (e.get t))(x:Operand):zY w F β al (a.eval x) (evx G e x):=by
 cases x with
 |tmp t=>exact j t
 |const v=>exact zNj w F v
 |global g=>
  simp[evx,Act.eval];split
  .rename_i k l;exact c g k l
  .exact Rd.val _
 |func f=>exact Rd.clo f #[] [] rfl (fun i x d h=>by simp at h)
theorem zQL(e:Env Γ.St)(d:Nat)(r:R Γ.St):(e.setR d r).tm=e.tm.set d (zS5 d r):=by cases r<;>rfl
theorem qAr(e:Env Γ.St)(d:Nat)(r:R Γ.St):(e.setR d r).st=zPG e.st r:=by cases r<;>rfl
theorem zRq(e:Env Γ.St)(d:Nat)(r:R Γ.St)(c:d<e.vars.length\/∀cs,r≠ .var cs)(s:Nat):(e.setR d r).var s=match r with
  |.var cs=>if s=d then Sa cs else e.var s
  |_=>e.var s:=by
 cases r with
 |var cs=>
  have f:d<e.vars.length:=c.resolve_right (fun h=>h cs rfl);simp[Env.setR,Env.var]
  grind
 |_=>rfl
theorem qCX(hS:qK Γ P G S)(hi:Inv Γ G w0 F0 O0 a w e){r0 r:R Γ.St}(h:evQ P G S e o=Sa r0)
  (an:∀{F:Blk->Prop} {β:Lay} {al M:v6->Prop} {st:Γ.St},zDU Γ P S o a w F β al M st r0->zDU Γ P S o a w F β al M st r)
  (k:zAt e o.dst r=Sa e') {Q:Exit->Act->World->Prop} :
  o.wp P a w (fun a' w'=>Inv Γ G w0 F0 O0 a' w' e') Q:=by
 obtain⟨F,O,β,K,z,l,A,ht,hv⟩:=hi;have m:=an (qAT hS K.sig (fun s i f _=>hv s i f) (fun x _=>uS z ht x) h);have B:∀x,zT e x->β.blk x<w.heap.size/\¬O (β.blk x):=fun x u=>⟨(K.place x u).2.1,(K.place x u).2.2.2⟩
 unfold zAt at k;split at k
 .rename_i d hd;split at k
  .rename_i g;split at k
   .rename_i N;obtain⟨ax,ao⟩:=N;cases k
    have C:zDU Γ P S o a w F β (alm d (zT e)) (zT e) e.st (zPH d r):=by
     rcases zY4 (d:=d) m with h|⟨x,rfl⟩
     all_goals grind[R.needs]
    refine zNq hS z (K.anti (fun x u=>u.1)) B C (d:=d) (fun _=>ao) (fun _=>⟨fun h=>h.2.1 rfl,fun h=>h.2.2 rfl⟩) ?_;intro v w' F' O' β' al' c;rw[hd];have D:(e.kill d).st=e.st:=rfl;refine Inv.of (al:=al') (by rw[qAr,D];exact c.core) (z.ext c.ext) ?_ ?_ ?_ ?_ ?_
    .simp[Act.put,zQL,Env.kill,l]
    .exact A
    .intro t;rw[zBb]
     have hg:((e.kill d).setR d (zPH d r)).get t=if t=d/\d< (e.kill d).tm.length then zS5 d (zPH d r)else(e.kill d).get t:=by
      grind[yZ,zQL,Env.get]
     rw[hg];have W:(e.kill d).tm.length=a.tmps.size:=by simp[Env.kill,l]
     rw[W];split
     .exact c.res
     .rw[zKJ];exact(zY.kill (ht t)).ext c.ext
    .intro s i f;have E:d< (e.kill d).vars.length:=by grind[Env.kill]
     rw[zRq _ _ _ (.inl E)]at f
     have q:(e.kill d).var s=Sa i->al' (.v s)/\w6 w' F' β' al' (β'.vb s) i:=by
      intro f;rw[zAc]at f;split at f
      .cases f
      .rename_i H;simp at f;obtain⟨Y,y,rfl⟩:=f;have n:alm d (zT e) (.v s):=⟨⟨Y,y⟩,by simpa using H,by simp⟩
       refine⟨c.ext.a _ n,?_⟩;have Z:β'.vb s=β.vb s:=c.ext.b (.v s) n;rw[Z];exact(w6.kill (hv s Y y)).ext c.ext (c.ext.ha (.v s) n)
     cases L:zPH d r with
     |var ab=>
      rw[L]at f;simp only at f;split at f
      .rename_i ap;simp at f;subst f ap;exact c.var ab L
      grind
     |_=>rw[L]at f;exact q f
    .intro s hs;have E:d< (e.kill d).vars.length:=by grind[Env.kill]
     rw[zRq _ _ _ (.inl E)];rcases c.new (.v s) hs with⟨⟨i,f⟩,H,_⟩|⟨_,⟨I,i,L⟩|⟨I,_⟩⟩
     .have av:s≠d:=by simpa using H
      have h1:(e.kill d).var s=Sa (i.map (jN d)):=by simp_all[zAc]
      cases L:zPH d r with
      |var ab=>grind
      |_=>exact⟨_,h1⟩
     .simp at I;rw[L];simp_all
     .cases I
   .cases k
  .rename_i g;cases k;refine zNq hS z K B m (d:=d) (fun h=>absurd h g) (fun h=>absurd h g) ?_;intro v w' F' O' β' al' c;rw[hd];have ad:∀i,r≠ .var i:=fun i h=>by grind[R.needs]
   have p:∀x,al' x->zT e x:=fun x u=>(c.new x u).resolve_right (fun h=>g h.1);have ag:∀s,(e.setR d r).var s=e.var s:=by intro s;rw[zRq _ _ _ (.inr ad)];simp_all
   refine Inv.of (al:=al') (by rw[qAr];exact c.core) (z.ext c.ext) ?_ ?_ ?_ ?_ ?_
   .simp[Act.put,zQL,l]
   .exact A
   .intro t;rw[zBb]
    have hg:(e.setR d r).get t=if t=d/\d<e.tm.length then zS5 d r else e.get t:=by
     grind[yZ,zQL,Env.get]
    rw[hg,l];split
    .exact c.res
    .exact(ht t).ext c.ext
   .intro s i f;rw[ag]at f;have n:zT e (.v s):=⟨i,f⟩
    refine⟨c.ext.a _ n,?_⟩;have Z:β'.vb s=β.vb s:=c.ext.b (.v s) n;rw[Z];exact(hv s i f).ext c.ext (c.ext.ha (.v s) n)
   .intro s hs;rw[ag];exact p _ hs
 .rename_i hd
  have j:∀(J:Γ.St),zPG e.st r=J->(∀i,r≠ .var i)->r.needs=Sd->o.wp P a w (fun a' w'=>Inv Γ G w0 F0 O0 a' w' { e with st:=J }) Q:=by
   intro J D ad g;refine zNq hS z K B m (d:=0) (fun h=>by grind) (fun h=>by grind) ?_;intro v w' F' O' β' al' c;rw[hd];have p:∀x,al' x->zT e x:=fun x u=>(c.new x u).resolve_right (fun h=>by grind);refine Inv.of (al:=al') (by rw[<-D];exact c.core) (z.ext c.ext) l A (fun t=>(ht t).ext c.ext) ?_ (fun s hs=>p _ hs);intro s i f;have n:zT e (.v s):=⟨i,f⟩
   refine⟨c.ext.a _ n,?_⟩;have Z:β'.vb s=β.vb s:=c.ext.b (.v s) n;rw[Z];exact(hv s i f).ext c.ext (c.ext.ha (.v s) n)
  split at k
  .cases k;exact j _ rfl (fun i h=>by cases h) rfl
  .cases k;exact j _ rfl (fun i h=>by cases h) rfl
  .cases k
variable {g:Exit->Act->World->Prop}
theorem qG8(c:qK Γ P G S)(hi:Inv Γ G w0 F0 O0 a w e){r:R Γ.St}(h:evQ P G S e o=Sa r)(d:zAt e o.dst r=Sa e'):
  o.wp P a w (fun a' w'=>Inv Γ G w0 F0 O0 a' w' e') g:=qCX c hi h (fun h=>h) d
theorem qE8(f:qK Γ P G S)(hi:Inv Γ G w0 F0 O0 a w e){t:Ty}{xs:List t.El}(h:evQ P G S e o=Sa (.frzT t xs))(Q:zAt e o.dst (.ownT t xs)=Sa e'):
  o.wp P a w (fun a' w'=>Inv Γ G w0 F0 O0 a' w' e') g:=by
 refine qCX f hi h (r:=.ownT t xs) ?_ Q;intro F β al i st j;obtain⟨d,c,k,l,m,n,p,q⟩:=j;exact⟨d,c,k,d.length,l,m,ai _,fun h=>by rw[h];rfl,n,p,q⟩
end
section
variable {St:Type}{P:j6}{G:Nat->Option (List V)}{S:FuncId->St->List V->Option (St×RV)}{e e':Env St}{o:Oper}
theorem zBq(a:∀cs b,o.op≠ .select cs b)(c:∀x,x∈o.op.operands->evx G e x=evx G e' x):zAr P G e o=zAr P G e' o:=by
 unfold zAr
 have d:o.op.operands.toList.all (fun x=>(yW (evx G e x)).isSome)=o.op.operands.toList.all (fun x=>(yW (evx G e' x)).isSome):=by
  grind
 have f:execOp (fun x=>(yW (evx G e x)).getD undef) o=execOp (fun x=>(yW (evx G e' x)).getD undef) o:=
  execOp_congr o a (fun x g=>by rw[c x g])
 rw[d,f]
variable {j:T}
theorem zZX(a:∀s off,j=.lp s off->e.var s=e'.var s):zKn e j=zKn e' j:=by cases j<;>simp only[zKn];rw[a _ _ rfl]
theorem zYa:∀(xs:List Operand),(∀x,x∈xs->evx G e x=evx G e' x)->(∀x,x∈xs->∀s off,evx G e x=.lp s off->e.var s=e'.var s)->
  zOh G e xs=zOh G e' xs:=by
 intro xs
 induction xs with
 |nil=>intro _ _;rfl
 |cons x xs a=>
  grind[zZX,Al,zOh]
theorem zRD:∀(xs:List Operand),(∀x,x∈xs->evx G e x=evx G e' x)->yU G e xs=yU G e' xs:=by
 intro xs
 induction xs with
 |nil=>intro _;rfl
 |cons x xs a=>
  grind[Al,yU]
theorem zIX:∀(xs:List (Nat×Operand)),(∀x,x∈xs->evx G e x.2=evx G e' x.2)->zAk G e xs=zAk G e' xs:=by
 intro xs
 induction xs with
 |nil=>intro _;rfl
 |cons x xs a=>
  grind[Al,zAk]
theorem qCy{α:Type}{p q:α->Bool}(l:List α)(h:∀x,x∈l->p x=q x):l.any p=l.any q:=by
 grind
def isCall(o:Oper):Bool:=
 match o.op with
 |.call c=>match c.callee with
  |.builtin .append=>Sc
  |.builtin _=>Sd
  |_=>Sc
 |_=>Sd
theorem zSh(h:∀x,x∈o.op.operands->evx G e x=evx G e' x)(K:∀x,x∈o.op.operands->∀s off,evx G e x=.lp s off->e.var s=e'.var s)
  (H:isCall o=Sc->e.st=e'.st):evQ P G S e o=evQ P G S e' o:=by
 obtain⟨q,op,g,u,a,guard⟩:=o;cases op<;>simp only[evQ]
 case move x=>grind[Aa]
 case assign x=>grind[Aa]
 case pick c x y=>exact zBq (fun _ _ j=>by cases j) h
 case box t x=>grind[Aa]
 case build t k=>
  rw[zIX k.toList (fun p O=>h p.2 (by
   simp only[Aa,An,aO]
   grind))]
 case buildSlice t n k=>
  rw[zIX k.toList (fun p O=>h p.2 (by
   simp only[Aa,An,aO]
   grind))]
 case makeSlice t l c=>grind[Aa]
 case load t x=>
  have I:=h x (by simp[Aa]);have L:=K x (by simp[Aa]);rw[<-I]
  cases Q:evx G e x with
  |lp s off=>grind[zIF,zIE]
  |p d=>cases d<;>rfl
  |_=>rfl
 case nilCheck x=>
  rw[zBq (P:=P) (o:=⟨q,.nilCheck x,g,u,a,guard⟩) (fun _ _ j=>by cases j) h,h x (by simp[Aa])]
 case binOp op t x y W=>
  rw[zBq (P:=P) (o:=⟨q,.binOp op t x y W,g,u,a,guard⟩) (fun _ _ j=>by cases j) h,h x (by simp[Aa]),h y (by simp[Aa])]
 case unOp op t x=>exact zBq (fun _ _ j=>by cases j) h
 case convert s d x=>exact zBq (fun _ _ j=>by cases j) h
 case index t x i=>exact zBq (fun _ _ j=>by cases j) h
 case makeFunc Y first A=>
  cases Y with
  |func f=>grind[zRD,Aa]
  |_=>rfl
 case slice t x D E F=>
  rw[zBq (P:=P) (o:=⟨q,.slice t x D E F,g,u,a,guard⟩) (fun _ _ j=>by cases j) h,h x (by simp[Aa])]
  have I:D.map (evx G e)=D.map (evx G e'):=by cases D with
   |none=>rfl
   |some y=>grind[Aa]
  have L:E.map (evx G e)=E.map (evx G e'):=by cases E with
   |none=>rfl
   |some y=>grind[Aa]
  have Z:F.map (evx G e)=F.map (evx G e'):=by cases F with
   |none=>rfl
   |some y=>grind[Aa]
  rw[I,L,Z]
 case fieldAddr t x i=>grind[Aa]
 case makeMap t r=>cases r<;>rfl
 case lookup t x ix ok=>grind[Aa]
 case field t x i=>grind[Aa]
 case indexAddr t x ix=>grind[Aa]
 case extract x i=>grind[Aa]
 case call c=>
  have hf:zAr P G e ⟨q,.call c,g,u,a,guard⟩=zAr P G e' ⟨q,.call c,g,u,a,guard⟩:=zBq (fun _ _ j=>by cases j) h;have M:∀x,x∈c.args->evx G e x=evx G e' x:=fun x J=>h x (by simp[Aa,Ah,J]);have ab:∀x,x∈c.args->∀s off,evx G e x=.lp s off->e.var s=e'.var s:=fun x J=>K x (by simp[Aa,Ah,J]);unfold zJ7;rw[hf]
  cases B:c.callee with
  |invoke r m=>rfl
  |value f=>
   grind[zYa,qCy,Aa,Ah,isCall]
  |builtin b=>
   cases b<;>try rfl
   case append=>
    simp only;have C:=H (by simp[isCall,B])
    have:zMo P G S e c=zMo P G S e' c:=by
     unfold zMo;split
     .rename_i x0 x1 t0 t1 z N;rw[M x0 (by rw[<-Array.mem_toList_iff,z];simp),M x1 (by rw[<-Array.mem_toList_iff,z];simp),C]
     .rfl
    rw[this]
   grind
theorem zO4(c:∀x,x∈o.op.operands->evx G e x=evx G e' x)(d:∀x,x∈o.op.operands->∀s off,evx G e x=.lp s off->e.var s=e'.var s)
  (a:e.st=e'.st):evQ P G S e o=evQ P G S e' o:=zSh c d (fun _=>a)
variable {g:R St}
theorem zZC(h:zAr P G e o=Sa g):∃x,g=.ret x:=by
 grind[Option.some.injEq,zAr]
def R.isCall:R St->Bool
 |.call _ _ _=>Sc
 |_=>Sd
variable {i:TypeId}
theorem zZA(h:zIE P e i j=Sa g):g.isCall=false:=by unfold zIE at h;split at h<;>(try split at h)<;>(try (simp only[ak]at h;obtain⟨_,_,rfl⟩:=h;rfl))<;>cases h
theorem zUm(h:zIF P e i j=Sa g):g.isCall=false:=by
 unfold zIF at h;split at h
 .rename_i n;obtain⟨id,a,c,d,t,f,m⟩:=n;simp only[zQW]at h
  repeat' split at h
  all_goals (first|(simp only[ac]at h;subst h;rfl)|cases h)
 .split at h
  .simp at h;obtain⟨_,_,rfl⟩:=h;rfl
  .cases h
 .exact zZA h
variable {l:Nat}
theorem zQA(h:zAH P i l j=Sa g):g.isCall=false:=by
 unfold zAH at h
 repeat' split at h
 all_goals (first|(simp only[ac]at h;subst h;rfl)|cases h)
theorem zJ6(h:zBr P i l j=Sa g):g.isCall=false:=by
 unfold zBr at h;split at h
 .rename_i n;obtain⟨id,a,c,d,t,f,m⟩:=n;simp only[zIG]at h
  repeat' split at h
  all_goals (first|(simp only[ac]at h;subst h;rfl)|cases h)
 .repeat' split at h
  all_goals (first|(simp only[ac]at h;subst h;rfl)|cases h)
 .exact zQA h
theorem zQy{t:Int}(h:yE P i j t=Sa g):g.isCall=false:=by
 unfold yE at h
 repeat' split at h
 all_goals (first|(simp only[ac]at h;subst h;rfl)|cases h)
theorem zSk{t:Int}(h:yJ P i j t=Sa g):g.isCall=false:=by
 unfold yJ at h;split at h
 .rename_i n;obtain⟨id,a,c,d,x,f,m⟩:=n;simp only[zDk]at h
  repeat' split at h
  all_goals (first|(simp only[ac]at h;subst h;rfl)|cases h)
 .repeat' split at h
  all_goals (first|(simp only[ac]at h;subst h;rfl)|cases h)
 .repeat' split at h
  all_goals (first|(simp only[ac]at h;subst h;rfl)|cases h)
 .repeat' split at h
  all_goals (first|(simp only[ac]at h;subst h;rfl)|cases h)
 .exact zQy h
variable {a0 J C:Option T}
theorem zXE{ty:Ty}{xs:List ty.El}(h:zHZ P i l ty xs a0 J C=Sa g):g.isCall=false:=by
 unfold zHZ at h
 repeat' split at h
 all_goals (first|(simp only[ac]at h;subst h;rfl)|cases h)
theorem zXD{ty:Ty}{xs:List ty.El}(h:zHY P i ty xs a0 J C=Sa g):g.isCall=false:=by
 unfold zHY at h
 repeat' split at h
 all_goals (first|(simp only[ac]at h;subst h;rfl)|cases h)
theorem zZx{es:List V}(h:zKL P i es a0 J C=Sa g):g.isCall=false:=by
 unfold zKL at h
 repeat' split at h
 all_goals (first|(simp only[ac]at h;subst h;rfl)|cases h)
theorem qEb(h:zXG j=Sa g):g.isCall=false:=by
 unfold zXG at h
 repeat' split at h
 all_goals (first|(simp only[ac]at h;subst h;rfl)|cases h)
variable {a1:List (Nat×V)}
theorem zZH(h:zNT P i a1=Sa g):g.isCall=false:=by
 unfold zNT at h
 repeat' split at h
 all_goals (first|(simp only[ak]at h;obtain⟨_,_,rfl⟩:=h;rfl)|cases h)
theorem zQB(h:zDl P i l a1=Sa g):g.isCall=false:=by
 unfold zDl at h
 repeat' split at h
 all_goals (first|(simp only[ac]at h;subst h;rfl)|(simp only[ac]at h;subst h;split<;>rfl)|cases h)
variable {I:BinOp}
theorem qEa{y:T}(h:zSi P I i j y=Sa g):g.isCall=false:=by
 unfold zSi at h
 repeat' split at h
 all_goals (first|(simp only[ac]at h;subst h;rfl)|cases h)
theorem qFN{y:T}(h:zZE P I i j y=Sa g):g.isCall=false:=by
 unfold zZE at h
 repeat' split at h
 all_goals (first|(simp only[ak]at h;obtain⟨_,_,rfl⟩:=h;rfl)|cases h)
theorem zZz(h:zGZ P i j=Sa g):g.isCall=false:=by unfold zGZ at h;split at h<;>(try (simp only[ak]at h;obtain⟨_,_,rfl⟩:=h;rfl))<;>cases h
theorem qEf{y:T}(h:zSl P I i j y=Sa g):g.isCall=false:=by
 unfold zSl at h
 repeat' split at h
 all_goals (first|(simp only[ac]at h;subst h;rfl)|cases h)
theorem zSj{n:Int}(h:zCD P i n=Sa g):g.isCall=false:=by
 unfold zCD at h
 repeat' split at h
 all_goals (first|(simp only[ac]at h;subst h;rfl)|cases h)
theorem zZD{cs:List V}(h:zQX P i cs l=Sa g):g.isCall=false:=by
 unfold zQX at h;split at h
 .simp at h;obtain⟨_,_,rfl⟩:=h;rfl
 .cases h
theorem zKN(h:zAr P G e o=Sa g):g.isCall=false:=by obtain⟨x,rfl⟩:=zZC h;rfl
theorem zO3(h:evQ P G S e o=Sa g)(k:isCall o=Sd):g.isCall=false:=by
 obtain⟨m,op,j,p,d,guard⟩:=o;cases op<;>simp only[evQ]at h
 case call c=>
  unfold zJ7 at h;simp only[isCall]at k;split at h;all_goals grind[Option.some.injEq,qEb,zKN]
 case buildSlice t n r=>
  grind[zQB]
 case binOp op t x y u=>
  grind[Option.some.injEq,qEa,qEf,qFN,zKN]
 case makeSlice t l c=>
  grind[zSj]
 case load t x=>
  grind[Option.some.injEq,zZz,zUm]
 case makeMap t g=>
  cases g with
  |none=>cases h;rfl
  |some _=>cases h
 case fieldAddr t x i=>exact zJ6 h
 case makeFunc q first a=>
  cases q with
  |func f=>
   simp only at h;split at h
   .split at h
    .cases h;rfl
    .cases h
   .cases h
  |_=>cases h
 all_goals (first
  |(cases h;done)
  |exact zUm h
  |exact zJ6 h
  |exact zKN h
  |(simp only[ac]at h;subst h;rfl)
  | (repeat' split at h
     all_goals (first
      |(simp only[ac]at h;subst h;rfl)
      |(simp only[ak]at h;obtain⟨_,_,rfl⟩:=h;rfl)
      |exact zSk h
      |exact zZx h
      |exact zXD h
      |exact zXE h
      |exact zZH h
      |exact zZD h
      |exact zKN h
      |cases h)))
theorem zCW(h:g.isCall=Sd)(st:St):zPG st g=st:=by
 cases g with
 |call c a d=>cases h
 |_=>rfl
end
section
variable {St:Type}(P:j6)(G:Nat->Option (List V))(S:FuncId->St->List V->Option (St×RV))(ops:Array Oper)
def vG(e:Env St)(o:Oper):Option Bool:=
 match o.guard with
 |none=>Sa Sc
 |some (j,a)=>match(ops[j]?).bind (·.dst)with
  |none=>Sa Sd
  |some t=>match e.get t with
   |.p (.val (.bool b))=>if t<e.tm.length then Sa (b==a)else Sb
   |.p (.val (.tuple _))=>Sa Sd
   |_=>Sb
def qY(l:List Oper):List Nat:=l.filterMap (·.dst)
def zOG(a:List Nat)(e:Env St)(o:Oper):Bool:=
 o.op.operands.toList.all fun x=>match evx G e x with
  |.lp s _=> !a.contains s
  |_=>Sc
def zMI(e:Env St)(a:Option Tmp)(r:R St):Option (Env St):=
 match a with
 |some d=>if d<e.vars.length/\d≠jV then Sa (e.setR d r)else Sb
 |none=>match r with
  |.ret _=>Sa e
  |.call st _ (.p _)=>Sa { e with st:=st }
  |_=>Sb
def zDp:List Oper->Env St->Option (Env St)
 |[],e=>Sa e
 |o::a,e=>match vG ops e o with
  |some Sc=>if zOG G (qY (o::a)) e o then
    match evQ P G S e o with
    |some r=>match zMI e o.dst r with
     |some c=>zDp a c
     |none=>Sb
    |none=>Sb
   else Sb
  |some Sd=>zDp a (e.put o.dst (.p (.val undef)))
  |none=>Sb
def zGu(e:Env St)(st:St)(o:Oper)(a:St):Prop:=
 (vG ops e o=Sa Sc/\∃r,evQ P G S { e with st:=st } o=Sa r/\a=zPG st r/\(r.needs=Sc->∃d,o.dst=Sa d/\d≠jV)/\
  ∀d,o.dst=Sa d->(d<e.tm.length->e.get d=zS5 d r)/\(∀c,r=.var c->e.var d=Sa c)/\((∀c,r≠ .var c)->e.var d=Sb))\/
 (vG ops e o=Sa Sd/\a=st/\∀d,o.dst=Sa d->(d<e.tm.length->e.get d=.p (.val undef))/\e.var d=Sb)
variable {P G S ops}
def qEO:List Oper->Prop
 |[]=>True
 |o::a=>(∀t,t∈o.looksAt ops->t ∉ qY (o::a))/\(∀d,o.dst=Sa d->d ∉ qY a)/\qEO a
theorem zEj{e e':Env St}{o:Oper}(h:∀t,t∈o.looksAt ops->e'.get t=e.get t)(d:e'.tm.length=e.tm.length):vG ops e' o=vG ops e o:=by
 unfold vG
 cases f:o.guard with
 |none=>rfl
 |some c=>
  obtain⟨j,a⟩:=c;simp only
  cases g:(ops[j]?).bind (·.dst)with
  |none=>rfl
  |some t=>
   grind[Oper.looksAt]
theorem qBX{e e':Env St}{o:Oper}(h:∀t,t∈o.looksAt ops->e'.get t=e.get t)(x:Operand)(a:x∈o.op.operands):evx G e' x=evx G e x:=by
 cases x with
 |tmp t=>exact h t (cO _ (br.2 ⟨.tmp t,by simpa using a,rfl⟩))
 |_=>rfl
theorem zZj(e:Env St)(d:Option Tmp)(x:T)(t:Nat)(h:d≠Sa t):(e.put d x).get t=e.get t:=by
 cases d with
 |none=>rfl
 |some d=>
  grind[yZ,Env.put]
theorem zWE(e:Env St)(d t:Nat)(r:R St)(h:t≠d):(e.setR d r).get t=e.get t:=by
 have:(e.setR d r).get t=({ e with tm:=e.tm.set d (zS5 d r) } :Env St).get t:=by cases r<;>rfl
 grind[yZ]
theorem zWF(e:Env St)(d:Nat)(r:R St)(h:d<e.tm.length):(e.setR d r).get d=zS5 d r:=by
 have:(e.setR d r).get d=({ e with tm:=e.tm.set d (zS5 d r) } :Env St).get d:=by cases r<;>rfl
 grind[yZ]
theorem qCV(e:Env St)(d:Nat)(r:R St):(e.setR d r).tm.length=e.tm.length:=by cases r<;>simp[Env.setR]
theorem zOz(e:Env St)(d:Nat)(r:R St)(c:d<e.vars.length)(s:Nat):(e.setR d r).var s=match r with
  |.var a=>if s=d then Sa a else e.var s
  |_=>e.var s:=by
 cases r with
 |var a=>
  simp[Env.setR,Env.var]
  grind
 |_=>rfl
theorem qCU(e:Env St)(d:Nat)(r:R St):(e.setR d r).st=zPG e.st r:=by cases r<;>rfl
theorem zIJ:∀(l:List Oper) (e e':Env St),zDp P G S ops l e=Sa e'->qEO (ops:=ops) l->(∀d,d∈qY l->e.var d=Sb)->
  ∃c:Nat->St,c 0=e.st/\c l.length=e'.st/\(∀(i:Nat) (o:Oper),l[i]?=Sa o->zGu P G S ops e' (c i) o (c (i+1)))/\
   (∀t,t ∉ qY l->e'.get t=e.get t)/\(∀s,s ∉ qY l->e'.var s=e.var s)/\e'.tm.length=e.tm.length:=by
 intro l
 induction l with
 |nil=>
  intro e e' h _ _;cases h;exact⟨fun _=>e.st,rfl,rfl,fun i o ho=>by simp at ho,fun _ _=>rfl,fun _ _=>rfl,rfl⟩
 |cons o a ih=>
  intro e e' h L z;obtain⟨M,ab,E⟩:=L;have ap:∀d,o.dst=Sa d->e.var d=none:=fun d k=>z d (by simp[qY,k]);simp only[zDp]at h
  have n:∀(m:Env St) (A:St),m.st=A->zDp P G S ops a m=Sa e'->m.tm.length=e.tm.length->
    (∀t,o.dst≠Sa t->m.get t=e.get t)->(∀s,o.dst≠Sa s->m.var s=e.var s)->
    (∀f:Env St,(∀t,t∈o.looksAt ops->f.get t=e.get t)->f.tm.length=e.tm.length->(∀s,s ∉ qY (o::a)->f.var s=e.var s)->
     (∀d,o.dst=Sa d->f.get d=m.get d)->(∀d,o.dst=Sa d->f.var d=m.var d)->zGu P G S ops f e.st o A)->
    ∃c:Nat->St,c 0=e.st/\c (o::a).length=e'.st/\(∀(i:Nat) (N:Oper),(o::a)[i]?=Sa N->zGu P G S ops e' (c i) N (c (i+1)))/\
     (∀t,t ∉ qY (o::a)->e'.get t=e.get t)/\(∀s,s ∉ qY (o::a)->e'.var s=e.var s)/\e'.tm.length=e.tm.length:=by
   intro m A ad O ag vA al zBS
   have an:∀t,t ∉ qY (o::a)->t ∉ qY a/\o.dst≠Sa t:=by
    intro t u;simp[qY,List.filterMap_cons]at u
    cases k:o.dst with
    |none=>simp only[k]at u;exact⟨u,by simp⟩
    |some d=>simp only[k,bi,not_or]at u;exact⟨u.2,fun C=>u.1 (by grind)⟩
   have ao:∀t,t∈qY a->t∈qY (o::a):=by
    grind
   obtain⟨c,h0,hn,K,hg,hv,hl⟩:=ih m e' O E (fun d k=>by
    grind)
   refine⟨fun i=>match i with|0=>e.st|i+1=>c i,rfl,hn,?_,?_,?_,by omega⟩
   .intro i N Q
    cases i with
    |zero=>
     simp at Q
     grind
    |succ i=>grind
   all_goals grind
  split at h
  .rename_i hw;split at h
   .rename_i B;split at h
    .rename_i r hr;split at h
     .rename_i m g
      have j:∀f:Env St,(∀t,t∈o.looksAt ops->f.get t=e.get t)->(∀s,s ∉ qY (o::a)->f.var s=e.var s)->evQ P G S { f with st:=e.st } o=Sa r:=by
       intro f y F;rw[<-hr];symm;refine zO4 (e:=e) (e':= { f with st:=e.st }) ?_ ?_ rfl
       .intro x W;exact(qBX (G:=G) (e:=e) (e':= { f with st:=e.st }) y x W).symm
       .intro x W s av hs;have q:=au.1 B x (by simpa using W);rw[hs]at q;have D:s ∉ qY (o::a):=by simpa using q
        exact(F s D).symm
      unfold zMI at g;split at g
      .rename_i d k;split at g
       .rename_i H;obtain⟨Y,Z⟩:=H;cases g;refine n _ (zPG e.st r) (qCU e d r) h (qCV e d r) ?_ ?_ ?_
        .grind[zWE]
        .grind[zOz]
        .intro f y F q D I;refine .inl ⟨by grind[zEj],r,j f y q,rfl,fun _=>⟨d,k,Z⟩,?_⟩;intro d' J;rw[k]at J;cases J;refine⟨fun hlt=>?_,?_,?_⟩
         .grind[zWF]
         .grind[zOz]
         .intro ax;rw[I d k,zOz e d r Y]
          grind
       .cases g
      .rename_i k;split at g
       .cases g;refine n _ e.st rfl h rfl (fun _ _=>rfl) (fun _ _=>rfl) ?_;intro f y F q D I;exact .inl ⟨by grind[zEj],_,j f y q,rfl,fun C=>by simp[R.needs]at C,fun d C=>by grind⟩
       .cases g;refine n _ _ rfl h rfl (fun _ _=>rfl) (fun _ _=>rfl) ?_;intro f y F q D I;exact .inl ⟨by grind[zEj],_,j f y q,rfl,fun C=>by simp[R.needs]at C,fun d C=>by grind⟩
       .cases g
     .cases h
    .cases h
   .cases h
  .rename_i hw;refine n _ e.st ?_ h ?_ (fun t u=>zZj e o.dst _ t u) ?_ ?_
   .cases o.dst<;>rfl
   .cases o.dst<;>simp[Env.put]
   .intro s _;cases o.dst<;>rfl
   .intro f y F q D I;refine .inr ⟨by grind[zEj],rfl,?_⟩;intro d k;refine⟨fun hlt=>?_,?_⟩
    .rw[D d k];simp[Env.put,k];rw[yZ]
     grind
    .rw[I d k];have:(e.put o.dst (.p (.val undef))).var d=e.var d:=by cases o.dst<;>rfl
     grind
  .cases h
end
end Go.Ve

/- law16 -/
import Derived.Test.YtgiopebfjmfmhaaGreatLt6
set_option linter.unusedVariables false
open Option renaming some->Sa,none->Sc
open Bool renaming true->Sb,false->Sd
open Go.Instr renaming storeAt->Aa,sureAddr->Ae,mapUpdate->Ag,loadAt->Al
open Go.Region renaming binds->Ab,ready->Aj,wanted->Ak,before->Ao
open Go.Result renaming andThen_ok->Ac
open Array renaming replicate->Ad
open Go.Sem renaming run_bind->Af,run_pure->Ah
open List renaming range->Ai,tail_drop->Am,replicate->An
namespace Go.Ve
open Go
def wW(cs:List V)(o:Nat):List V->List V
 |[]=>cs
 |x::r=>wW (cs.set o x) (o+1) r
theorem zGV:∀(xs cs:List V) (o:Nat),(wW cs o xs).length=cs.length:=by
 intro xs
 induction xs with
 |nil=>intro cs o;rfl
 |cons x xs c=>grind[wW]
theorem zW7:∀(xs cs:List V) (o i:Nat),o+xs.length<=cs.length->(wW cs o xs)[i]?=if o<=i/\i<o+xs.length then xs[i-o]? else cs[i]? :=by
 intro xs
 induction xs with
 |nil=>grind[wW]
 |cons x xs c=>
  intro cs o i h;simp at h;simp only[wW]
  grind
def zB2(q:V)(cs:List V):V:=
 match q with
 |.agg _=>.agg cs
 |_=>match cs with
  |[y]=>y
  |_=>q
def zHl(id k n:Nat)(q:V):T->T
 |.ow i d f=>if i=id then(if d=k then .ow i k (f.set n q)else .dead)else .ow i d f
 |.oe i d f j c=>if i=id then(if d=k then .oe i k (f.set n q) j c else .dead)else .oe i d f j c
 |.ot i t g=>if i=id then .dead else .ot i t g
 |.oet i t g j c=>if i=id then .dead else .oet i t g j c
 |.ov i t g j c=>if i=id then .dead else .ov i t g j c
 |.on n=>if n.id=id\/n.id2=id then .dead else .on n
 |x=>x
section
variable {Γ:Sig}{P:Program}{G:Nat->Option (List V)}{S:vG Γ}{o:Oper}{a:Act}{w0:World}{F0:Blk->Prop}{O0:zAf}{w:World}{F:Blk->Prop}{β:Lay}{al:v8->Prop}{e e':Env Γ.St}
variable {g:Nat}
theorem vA.mapT{w':World}{F':Blk->Prop}{β':Lay}{al':v8->Prop}{f:T->T}{cs:List T}(hb:w'.heap[g]?=w.heap[g]?)(hf:∀v x,zX w F β al v x->zX w' F' β' al' v (f x))(h:vA w F β al g cs):vA w' F' β' al' g (cs.map f):=by
 obtain⟨c,d,b,i,j⟩:=h;refine⟨c,d,hb.trans b,by simpa using i,?_⟩
 grind
def zES(P:j9)(e:Env Γ.St)(t:TypeId)(id k:Nat)(es:List V)(i off:Nat)(d:V):Option (Env Γ.St):=
 match es[i]? with
 |some q=>
  if wE P t=Sa d.cells.length/\off+d.cells.length<=k/\d.cells.all V.one=Sb/\q.cells.length=k/\(zB2 q (wW q.cells off d.cells)).cells.length=k/\
    (q.noAgg=Sb->d.cells.length=1/\k=1)then
   Sa (e.mapT (zHl id k i (zB2 q (wW q.cells off d.cells))))
  else Sc
 |none=>Sc
theorem zIF{q d:V}{off k:Nat}(m:q.cells.length=k)(j:d.cells.all V.one=Sb)(l:off+d.cells.length<=k)
  (i:q.noAgg=Sb->d.cells.length=1/\k=1):(zB2 q (wW q.cells off d.cells)).cells=wW q.cells off d.cells:=by
 have A:=zGV d.cells q.cells off
 have c:(∀g,q≠ .agg g)->d.cells.length=1/\k=1->(match wW q.cells off d.cells with|[y]=>y|_=>q).cells=wW q.cells off d.cells:=by
  intro n ⟨p,r⟩;subst r;obtain rfl:off=0:=by omega
  match hd:d.cells,p with
  |[y],_=>
   have u:y.one=true:=by grind
   match x:q.cells,m with
   |[z],_=>
    simp[wW];cases y<;>first|rfl|(simp[V.one]at u)
 cases q with
 |agg g=>rfl
 |val v=>exact c (fun g h=>by cases h) (i rfl)
 |sl B=>exact c (fun g h=>by cases h) (i rfl)
 |tup C=>exact c (fun g h=>by cases h) (i rfl)
 |clo f g=>exact c (fun g h=>by cases h) (i rfl)
 |pp g=>exact c (fun g h=>by cases h) (i rfl)
 |tl t D=>exact c (fun g h=>by cases h) (i rfl)
 |rf o=>exact c (fun g h=>by cases h) (i rfl)
 |hd o=>exact c (fun g h=>by cases h) (i rfl)
 |pt t o=>exact c (fun g h=>by cases h) (i rfl)
 |hp g=>exact c (fun g h=>by cases h) (i rfl)
 |bot=>exact c (fun g h=>by cases h) (i rfl)
variable {l:TypeId}{j:V}
theorem zUr{k i off cap:Nat}{es0:List V}{c:Array Value}{d:V}{vs:List Value}(H:∀I:Nat,F I->I≠g)(K:w.heap[g]?=Sa (.cells c l (0,0)))(L:g<w.heap.size)(g5:∀(q:Nat) (A:V) (x:Value),j.cells[q]?=Sa A->c[i*k+q]?=Sa x->Rd w F x A)(M:j.cells.length=k)(J:off+d.cells.length<=k)(N:(zB2 j (wW j.cells off d.cells)).cells.length=k)(B:(zB2 j (wW j.cells off d.cells)).cells=wW j.cells off d.cells)(O:vs.length=d.cells.length)(C:i*k+off+vs.length<=c.size)(h3:∀(m:Nat) (x:Value) (y:V),vs[m]?=Sa x->d.cells[m]?=Sa y->Rd w F x y)(D:qP w F g k cap es0):
  qP (setBlk w g (.cells (j8 c (i*k+off) vs) l (0,0))) F g k cap (es0.set i (zB2 j (wW j.cells off d.cells))):=by
 obtain⟨c',Q,E,W,Y,Z,q5⟩:=D;rw[K]at E;simp only[ac,Obj.cells.injEq]at E;obtain⟨rfl,_,_⟩:=E;refine⟨_,l,zA3 L,by rw[xM];exact W,by simpa using Y,?_,?_⟩
 .grind
 .intro b q y A x f et n;have p:=(aa.1 et).1;rw[zGW _ _ _ _ C]at n;simp only[O]at n;by_cases r:i=b
  .subst r;have t:i<es0.length:=by grind
   rw[ca t,ac]at f;subst f;rw[B]at et p;rw[zW7 _ _ _ _ (by omega)]at et;rw[zGV]at p;by_cases u:off<=q/\q<off+d.cells.length
   .rw[if_pos u]at et;rw[if_pos (by omega)]at n
    grind[Rd.setBlk]
   .rw[if_neg u]at et;rw[if_neg (by omega)]at n
    grind[Rd.setBlk]
  .rw[aP r]at f;have ab:=Z y (ae f)
   have z:¬(i*k+off<=b*k+q/\b*k+q<i*k+off+d.cells.length):=by
    intro hh;rcases a8 i b with h|h
    .have:=aq k (show i+1<=b by omega)
     grind
    .have:=aq k (show b+1<=i by omega)
     grind
   rw[if_neg z]at n
   grind[Rd.setBlk]
variable {i C:Nat}
theorem zRL(hi:Inv Γ G w0 F0 O0 a w e){off:Nat}{es:List V}{ap xv:Operand}(hp:evx G e ap=.oe g i es C off)(D:evx G e xv=.p j)(h:zES P e l g i es C off j=Sa e'):∃w',(Aa l (a.eval ap) (a.eval xv)).run P w=.ok () w'/\Inv Γ G w0 F0 O0 a w' e':=by
 obtain⟨F,O,β,hc,hG,bn,a3,ht,hv⟩:=hi;have ag:=uX hG ht ap;have an:=uX hG ht xv;rw[hp]at ag;rw[D]at an;obtain⟨ha,bo,a4,a5,c,Y,g1,g2,g3,g4,g5⟩:=ag;unfold zES at h;split at h
 .rename_i q hq;split at h
  .rename_i Z;obtain⟨ab,L,M,ao,a6,a9⟩:=Z;cases h;have bb:=zIF ao M L a9;obtain⟨h1,h2,h3⟩:=zM5 (xs:=j.cells.map .p) an (by simp[T.cellsT,M]);simp at h1;have be:(C+1)*i<=a4*i:=aq i (by omega);rw[bI]at be
   have av:(Aa l (a.eval ap) (a.eval xv)).run P w=.ok () (setBlk w (β.ob g) (.cells (j8 c (C*i+off) (a.eval xv).cells.toList) Y (0,0))):=by
    have ax:=zBm (P:=P) (b:=β.ob g) (off:=C*i+off) (et:=Y) (a.eval xv).cells.toList 0 w c g1 (by simp[h1];omega) (fun u hu=>h2 u (by simpa using hu))
    have hw:(if(a.eval xv).cells.toList=[]then w else setBlk w (β.ob g) (.cells (j8 c (C*i+off+0) (a.eval xv).cells.toList) Y (0,0)))=setBlk w (β.ob g) (.cells (j8 c (C*i+off) (a.eval xv).cells.toList) Y (0,0)):=by
     split
     .rename_i ay;rw[ay];exact(zG0 g1).symm
     .simp
    rw[hw]at ax;simp[Aa,a5,Ae,storeVar,zL ab,h1];exact ax
   refine⟨_,av,?_⟩;obtain⟨p1,p2,p3,p4⟩:=hc.place (.o g) ha;have A:∀b':Nat,F b'->b'≠β.ob g:=fun b' hb H=>p3 (by rw[H]at hb;exact hb);have a0:∀s,zT e (.v s)->β.vb s≠β.ob g:=fun s hs H=>by have:=hc.dist (.v s) (.o g) hs ha H;cases this
   have z:∀r,r≠g->zT e (.o r)->β.ob r≠β.ob g:=fun r I hs H=>by
    have:=hc.dist (.o r) (.o g) hs ha H
    grind
   have N:∀E f,qP w F (β.ob g) i f E->qP (setBlk w (β.ob g) (.cells (j8 c (C*i+off) (a.eval xv).cells.toList) Y (0,0))) F (β.ob g) i f (E.set C (zB2 q (wW q.cells off j.cells))):=
    fun E f bk=>zUr A g1 p2 (fun d d' x hj D=>g5 C d q d' x hq hj D) ao L a6 bb (by simp[h1]) (by grind)
     (fun m x y D hy=>h3 m x (.p y) (by simpa using D) (by simp[hy])) bk
   have hf:∀v x,zX w F β (zT e) v x->zX (setBlk w (β.ob g) (.cells (j8 c (C*i+off) (a.eval xv).cells.toList) Y (0,0))) F β (zT e) v (zHl g i C (zB2 q (wW q.cells off j.cells)) x):=by
    intro v x D
    cases x with
    |p y=>exact Rd.setBlk A D
    |ow r k' E=>
     simp only[zHl];obtain⟨t,f,B,k⟩:=D;split
     .rename_i hid;subst hid;split
      .rename_i ad;subst ad;exact⟨t,f,by simpa using B,N E f k⟩
      .trivial
     .rename_i hid;exact⟨t,f,B,k.setBlk A (z r hid t)⟩
    |oe r k' E d Q=>
     simp only[zHl];obtain⟨t,J,f,B,k⟩:=D;split
     .rename_i hid;subst hid;split
      .rename_i ad;subst ad;exact⟨t,by simpa using J,f,B,N E f k⟩
      .trivial
     .rename_i hid;exact⟨t,J,f,B,k.setBlk A (z r hid t)⟩
    |lp s Q=>exact D
    |mp r bs ck=>
     obtain⟨t,B,k⟩:=D;by_cases hid:r=g
     .grind
     .exact⟨t,B,(qU (z r hid t)).trans k⟩
    |ot r t' a1=>
     simp only[zHl];split
     .trivial
     .rename_i hid;rcases D with D|⟨I,t,f,B,k⟩
      .exact .inl D
      .exact .inr ⟨I,t,f,B,k.setBlk A (z r hid t)⟩
    |oet r t' a1 d Q=>
     simp only[zHl];split
     .trivial
     .rename_i hid;obtain⟨t,J,f,B,k⟩:=D;exact⟨t,J,f,B,k.setBlk A (z r hid t)⟩
    |ov r t' a1 b0 b1=>
     simp only[zHl];split
     .trivial
     .rename_i hid;rcases D with D|⟨I,t,q1,q2,f,B,k⟩
      .exact .inl D
      .exact .inr ⟨I,t,q1,q2,f,B,k.setBlk A (z r hid t)⟩
    |on n=>
     simp only[zHl];split
     .trivial
     .rename_i hid;have hid:=not_or.1 hid;exact zP0.mono D (fun _ h=>h) (fun b' hb=>qU (A b' hb)) D.1 D.2.1 rfl rfl (qU (z _ hid.1 D.1)) (qU (z _ hid.2 D.2.1))
    |emp=>exact D
    |dead=>trivial
   refine Inv.of (al:=zT e) (hc.setBlk ha _ (fun c' b2 b3 H=>by rw[show w.heap[β.blk (.o g)]?=_ from g1]at H;simp at H;exact⟨_,_,_,rfl,by rw[xM,H.1]⟩)) (fun id cs hg=>(hG id cs hg).setBlk A) (by grind[Env.mapT]) a3 (fun l=>by rw[vN rfl];grind) ?_ ?_
   .intro s cs K;rw[jF]at K;simp at K;obtain⟨a2,W,rfl⟩:=K;have t:zT e (.v s):=⟨a2,W⟩
    exact⟨t,(hv s a2 W).mapT (qU (a0 s t)) hf⟩
   .rintro s ⟨cs,K⟩
    grind[jF]
  .cases h
 .cases h
def zUF(ty:Ty)(x:ty.El)(off:Nat)(d:V):Option ty.El:=
 match ty.uncells (wW (ty.cells x) off d.cells)with
 |some (y,[])=>Sa y
 |_=>Sc
def Ty.aggT:Ty->Bool
 |.pair _ _|.unit=>Sb
 |_=>Sd
def zJd(id:Nat)(ty:Ty)(n:Nat)(x:ty.El):T->T
 |.ow i k f=>if i=id then .dead else .ow i k f
 |.oe i k f j c=>if i=id then .dead else .oe i k f j c
 |.ot i t d=>if i=id then(if h:t=ty then .ot i ty ((h▸d).set n x)else .dead)else .ot i t d
 |.oet i t d j c=>if i=id then(if h:t=ty then .oet i ty ((h▸d).set n x) j c else .dead)else .oet i t d j c
 |.ov i t g j c=>if i=id then .dead else .ov i t g j c
 |.on n=>if n.id=id\/n.id2=id then .dead else .on n
 |y=>y
def zGv(P:j9)(e:Env Γ.St)(t:TypeId)(id:Nat)(ty:Ty)(xs:List ty.El)(i off:Nat)(d:V):Option (Env Γ.St):=
 if wE P t=Sa d.cells.length/\off+d.cells.length<=ty.size/\d.cells.all V.one=Sb/\(ty.aggT=Sd->d.cells.length=1/\ty.size=1)then
  match xs[i]? with
  |some x=>match zUF ty x off d with
   |some y=>Sa (e.mapT (zJd id ty i y))
   |none=>Sc
  |none=>Sc
 else Sc
theorem kX.set:∀{xs ys:List V} (_:kX xs ys) {a b:V} (_:WkV a b) (n:Nat),kX (xs.set n a) (ys.set n b)
 |[],[],_,_,_,_,_=>trivial
 |x::xs,y::ys,h,a,b,c,n=>by
  cases n with
  |zero=>exact⟨c,h.2⟩
  |succ n=>exact⟨h.1,kX.set h.2 c n⟩
theorem kX.splice:∀{ds c:List V} (_:kX ds c) {cs d:List V} (_:kX cs d) (o:Nat),kX (wW cs o ds) (wW d o c)
 |[],[],_,_,_,h,_=>h
 |x::ds,y::c,hd,cs,d,h,o=>kX.splice hd.2 (h.set hd.1 o) (o+1)
theorem WkV.trans{y z:V}(h:WkV j y)(k:WkV y z):WkV j z:=fun w F v c=>k w F v (h w F v c)
theorem kX.trans:∀{xs ys zs:List V} (_:kX xs ys) (_:kX ys zs),kX xs zs
 |[],[],[],_,_=>trivial
 |_::_,_::_,_::_,h,k=>⟨h.1.trans k.1,kX.trans h.2 k.2⟩
def V.un:V->V
 |.tl t xs=>.sl (xs.map t.enc)
 |d=>d
theorem qDj(d:V):kX d.un.cells d.cells/\d.un.cells.length=d.cells.length/\d.un.cells.all V.one=d.cells.all V.one:=by
 cases d with
 |tl t c=>exact⟨⟨fun w F v h=>.tl t c v h,trivial⟩,rfl,rfl⟩
 |_=>exact⟨.refl _,rfl,rfl⟩
theorem qH7(d:V):(T.p d).un=.p d.un:=by cases d<;>rfl
variable {J:Ty}
theorem qBc{x y:J.El}{e:V}(i:kX e.cells j.cells)(f:(zB2 (J.enc x) (wW (J.enc x).cells g e.cells)).cells=wW (J.enc x).cells g e.cells)(c:zUF J x g j=Sa y):kX (zB2 (J.enc x) (wW (J.enc x).cells g e.cells)).cells (J.enc y).cells:=by
 rw[f,jN,jN];unfold zUF at c;split at c
 .rename_i off ty;simp at c;subst c;obtain⟨l,h,k⟩:=wA J _ off [] ty;simp at h;exact(kX.splice i (.refl _) g).trans (by rw[h];exact k)
 .cases c
variable {a1:List J.El}
theorem qA3{y:J.El}(h:kX j.cells (J.enc y).cells){F:Blk->Prop}{w:World}(d:qP w F i J.size C ((a1.map J.enc).set g j)):
  qP w F i J.size C ((a1.set g y).map J.enc):=by
 refine d.weak (by simp) ?_ ?_
 .intro q c;simp only[aQ]at c;obtain⟨z,_,rfl⟩:=c;exact w7 J z
 .intro m p q ty c;rw[df]at c;by_cases k:g=m
  .grind
  .rw[aP k]at ty c;rw[ty]at c;cases c;exact .refl _
variable {I a0:Operand}
theorem zZf(hi:Inv Γ G w0 F0 O0 a w e)(O:evx G e I=.oet g J a1 i C)(Q:evx G e a0=.p j)(h:zGv P e l g J a1 i C j=Sa e'):∃w',(Aa l (a.eval I) (a.eval a0)).run P w=.ok () w'/\Inv Γ G w0 F0 O0 a w' e':=by
 unfold zGv at h;split at h
 .rename_i n;obtain⟨W,t,m,E⟩:=n;split at h
  .rename_i x H;split at h
   .rename_i y Y;cases h;have hq:(a1.map J.enc)[i]?=Sa (J.enc x):=by simp[H]
    have A:((J.enc x).noAgg=Sb->j.cells.length=1/\J.size=1):=by
     intro id;refine E ?_;cases J<;>first|rfl|(simp[Ty.enc,V.noAgg]at id)
    obtain⟨Z,u2,u3⟩:=qDj j;rw[<-u2]at W t A;rw[<-u3]at m;have d:=zIF (q:=J.enc x) (d:=j.un) (off:=C) (k:=J.size) (w7 J x) m t A;have ty:zES P (e.mapT T.un) l g J.size (a1.map J.enc) i C j.un=Sa ((e.mapT T.un).mapT (zHl g J.size i (zB2 (J.enc x) (wW (J.enc x).cells C j.un.cells)))):=by simp_all[if_pos,w7,zGV,zES]
    obtain⟨w',h1,h2⟩:=zRL (P:=P) hi.un (ap:=I) (xv:=a0) (by rw[zKt,O];rfl) (by rw[zKt,Q,qH7]) ty;refine⟨w',h1,?_⟩;have K:=qBc Z d Y
    have B:∀(off:List J.El) (F:Blk->Prop) (b c:Nat) (w:World),qP w F b J.size c ((off.map J.enc).set i (zB2 (J.enc x) (wW (J.enc x).cells C j.un.cells)))->qP w F b J.size c ((off.set i y).map J.enc):=
     fun off F b c w D=>qA3 K D
    have hT:∀z:T,WkT (zHl g J.size i (zB2 (J.enc x) (wW (J.enc x).cells C j.un.cells)) z.un) (zJd g J i y z):=by
     intro z
     cases z with
     |p q=>
      cases q with
      |tl l a1=>exact WkT.ofUn (.p (.tl l a1))
      |_=>exact .refl _
     |ow r k0 L=>
      simp[T.un,zHl,zJd];split
      .exact .dead _
      .exact .refl _
     |oe r k0 L M f=>
      simp[T.un,zHl,zJd];split
      .exact .dead _
      .exact .refl _
     |ot r xs off=>
      simp only[zJd];split
      .rename_i hid;split
       .rename_i u;subst u
        cases off with
        |nil=>exact fun w F β al v id=>.inl ⟨rfl,id⟩
        |cons z N=>intro w F β al v id;simp[T.un,zHl,hid]at id;obtain⟨ha,c,hv,D⟩:=id;have ab:=B (z::N) F _ c w D;refine .inr ⟨by simp,by grind,c,by grind,by grind⟩
       .exact .dead _
      .rename_i hid
       cases off with
       |nil=>exact WkT.ofUn (.ot r xs [])
       |cons z N=>
        simp[T.un,zHl,if_neg hid];exact WkT.ofUn (.ot r xs (z::N))
     |oet r xs off M f=>
      simp only[zJd];split
      .rename_i hid;split
       .rename_i u;subst u;intro w F β al v id;simp[T.un,zHl,hid]at id;obtain⟨ha,hj,c,hv,D⟩:=id;refine⟨by grind,by simpa using hj,c,by grind,by grind⟩
       .exact .dead _
      .rename_i hid;simp[T.un,zHl,if_neg hid];exact WkT.ofUn (.oet r xs off M f)
     |ov r xs off M f=>
      simp[T.un,zHl,zJd];exact .refl _
     |on n0=>
      simp[T.un,zHl,zJd];exact .refl _
     |_=>exact .refl _
    refine h2.weak (by simp[Env.mapT]) rfl (fun l=>by rw[vN rfl,vN rfl,vN rfl];exact hT _) ?_;intro s;rw[jF,jF,jF]
    cases e.var s with
    |none=>trivial
    |some cs=>
     grind[List.map_map,zBU.map]
   .cases h
  .cases h
 .cases h
def qBN(id:Nat)(c:List MapEntry)(d:Nat):T->T
 |.mp i f g=>if i=id then .mp i c d else .mp i f g
 |x=>x
def zUX(P:j9)(e:Env Γ.St)(t:TypeId)(id:Nat)(es:List MapEntry)(f:Nat)(k v:Value):Option (Env Γ.St):=
 match wN P.P (qGL t es f k v)with
 |some (c,d)=>Sa (e.mapT (qBN id c d))
 |none=>Sc
variable {a3:List MapEntry}{a2:Value}
theorem zTD{c:List MapEntry}{v:Value}(t:w.heap[g]?=Sa (.map a3.toArray i))(h:wN P (qGL l a3 i a2 v)=Sa (c,C)):(Ag l (.map (Sa g)) a2 v).run P w=.ok () (setBlk w g (.map c.toArray C)):=by
 have hlt:=zEN t;have B:(getObj g).run P w=.ok (.map a3.toArray i) w:=by simp[getObj,Sem.run,t]
 have m:∀n,(setObj g n).run P w=.ok () (setBlk w g n):=by grind[setObj,Sem.run,setBlk]
 obtain⟨d,p,h⟩:=zG5 h;have p:=zEi p w;split at h
 .rename_i b q;obtain⟨u,x,h⟩:=zG5 h;obtain⟨r,y,h⟩:=zG5 h;have x:=zEi x w;have y:=zEi y w;split at h
  .rename_i es j;obtain⟨A,z,h⟩:=zG5 h;have z:=zEi z w;simp[wN,pure]at h;obtain⟨rfl,rfl⟩:=h;simp_all[Af,Ac,List.getElem?_toArray,Ag]
  .simp[wN,pure]at h;obtain⟨rfl,rfl⟩:=h;simp_all[Af,Ac,Ag]
 .cases h
theorem qFz(hi:Inv Γ G w0 F0 O0 a w e){vx:Operand}{v:Value}(hm:evx G e I=.mp g a3 i)(hk:xB (evx G e a0)=Sa a2)(z:xB (evx G e vx)=Sa v)(h:zUX P e l g a3 i a2 v=Sa e'):∃w',(Ag l (a.eval I) (a.eval a0) (a.eval vx)).run P w=.ok () w'/\Inv Γ G w0 F0 O0 a w' e':=by
 obtain⟨F,O,β,hc,hG,ax,ag,ht,hv⟩:=hi;have L:=uX hG ht I;rw[hm]at L;have an:=zOj (uX hG ht a0) hk;have ao:=zOj (uX hG ht vx) z;obtain⟨ha,ap,C⟩:=L;unfold zUX at h;split at h
 .rename_i M N hp;cases h;refine⟨_,by rw[ap,an,ao];exact zTD C hp,?_⟩;obtain⟨p1,p2,p3,p4⟩:=hc.place (.o g) ha;have r:∀Q:Nat,F Q->Q≠β.ob g:=fun Q hb D=>p3 (by rw[D]at hb;exact hb);have W:∀s,zT e (.v s)->β.vb s≠β.ob g:=fun s hs D=>by have:=hc.dist (.v s) (.o g) hs ha D;cases this
  have es:∀d,d≠g->zT e (.o d)->β.ob d≠β.ob g:=fun d A hs D=>by
   have:=hc.dist (.o d) (.o g) hs ha D
   grind
  have hf:∀v x,zX w F β (zT e) v x->zX (setBlk w (β.ob g) (.map M.toArray N)) F β (zT e) v (qBN g M N x):=by
   intro v x z
   cases x with
   |p y=>exact Rd.setBlk r z
   |ow d k' Y=>
    obtain⟨f,q,u,t⟩:=z;by_cases hid:d=g
    .subst hid;obtain⟨c,J,K,_⟩:=t;grind
    .exact⟨f,q,u,t.setBlk r (es d hid f)⟩
   |oe d k' Y j E=>
    obtain⟨f,ck,q,u,t⟩:=z;by_cases hid:d=g
    .subst hid;obtain⟨c,J,K,_⟩:=t;grind
    .exact⟨f,ck,q,u,t.setBlk r (es d hid f)⟩
   |lp s E=>exact z
   |mp d Y ay=>
    obtain⟨f,u,t⟩:=z;simp only[qBN];split
    .rename_i hid;subst hid;exact⟨f,u,zA3 p2⟩
    .rename_i hid;exact⟨f,u,(qU (es d hid f)).trans t⟩
   |ot d t' Z=>
    rcases z with z|⟨A,f,q,u,t⟩
    .exact .inl z
    .by_cases hid:d=g
     .subst hid;obtain⟨c,J,K,_⟩:=t;grind
     .exact .inr ⟨A,f,q,u,t.setBlk r (es d hid f)⟩
   |oet d t' Z j E=>
    obtain⟨f,ck,q,u,t⟩:=z;by_cases hid:d=g
    .subst hid;obtain⟨c,J,K,_⟩:=t;grind
    .exact⟨f,ck,q,u,t.setBlk r (es d hid f)⟩
   |ov d t' Z m a1=>
    rcases z with z|⟨A,f,k1,k2,q,u,t⟩
    .exact .inl z
    .by_cases hid:d=g
     .subst hid;obtain⟨c,J,K,_⟩:=t;grind
     .exact .inr ⟨A,f,k1,k2,q,u,t.setBlk r (es d hid f)⟩
   |on n=>
    have h1:n.id≠g:=by rintro rfl;obtain⟨_,_,c,J,ab,K,_⟩:=z;grind
    have h2:n.id2≠g:=by rintro rfl;obtain⟨_,_,c,J,ab,_,_,_,_,⟨c',av,K,_⟩,_⟩:=z;grind
    exact zP0.mono z (fun _ h=>h) (fun Q hb=>qU (r Q hb)) z.1 z.2.1 rfl rfl (qU (es _ h1 z.1)) (qU (es _ h2 z.2.1))
   |emp=>exact z
   |dead=>trivial
  refine Inv.of (al:=zT e) (hc.setBlk ha _ (fun c' av kx D=>by rw[show w.heap[β.blk (.o g)]?=_ from C]at D;cases D)) (fun id cs hg=>(hG id cs hg).setBlk r) (by grind[Env.mapT]) ag (fun l=>by rw[vN rfl];grind) ?_ ?_
  .intro s cs B;rw[jF]at B;simp at B;obtain⟨ad,H,rfl⟩:=B;have f:zT e (.v s):=⟨ad,H⟩
   exact⟨f,(hv s ad H).mapT (qU (W s f)) hf⟩
  .rintro s ⟨cs,B⟩
   grind[jF]
 .cases h
def zCM(id:Nat):T->T
 |.ow i k d=>if i=id then .p (.sl d)else .ow i k d
 |.oe i k d j c=>if i=id then(match d[j]? with|some q=>.p (.pp (q.cells.drop c))|none=>.dead)else .oe i k d j c
 |.mp i d g=>if i=id then .dead else .mp i d g
 |.ot i t f=>if i=id then .p (.tl t f)else .ot i t f
 |.oet i t f j c=>if i=id then .dead else .oet i t f j c
 |.ov i t f j c=>if i=id then .dead else .ov i t f j c
 |.on n=>if n.id=id\/n.id2=id then .dead else .on n
 |x=>x
theorem Inv.frzO(hi:Inv Γ G w0 F0 O0 a w e)(D:g≠jX):Inv Γ G w0 F0 O0 a w (e.mapT (zCM g)):=by
 obtain⟨F,O,β,u,W,ab,I,ht,Y⟩:=hi;by_cases ha:zT e (.o g)
 .obtain⟨Z,p2,p3,p4⟩:=u.place (.o g) ha;let K:Blk->Prop:=fun b=>F b\/b=β.ob g;let r:v8->Prop:=fun x=>zT e x/\x≠ .o g
  have E:zDH Γ w0 F0 O0 w K O β r e.st:=by
   refine⟨u.keep,Γ.mono u.sig zTn (fun _ _=>rfl) (fun _ _ h=>⟨.inl h,rfl⟩),u.oin,?_,u.f0.trans (zFY.addB _ _ _) (aj _),?_,fun x y hx hy=>u.dist x y hx.1 hy.1,u.lent.step (fun b n _ hb ho hf=>⟨rfl,ho,fun h=>h.elim hf (fun h=>by have h1:=zCA h;have h2:w0.heap.size<=β.ob g:=Z.o D;omega)⟩)⟩
   .rintro b (hb|hb)
    .exact u.fin b hb
    .have hb:=zCA hb;subst hb;exact⟨.inr (Z.o D),p2,p4⟩
   .intro x hx;obtain⟨q1,q2,q3,q4⟩:=u.place x hx.1;refine⟨q1,q2,fun L=>L.elim q3 (fun L=>hx.2 (u.dist x (.o g) hx.1 ha (zCA L))),q4⟩
  have d:Ext w F β r w K β r:=⟨fun _ h=>.inl h,fun _ _=>rfl,fun _ h=>h,fun _ _=>rfl,fun _ _=>rfl⟩
  have hf:∀v x,zX w F β (zT e) v x->zX w K β r v (zCM g x):=by
   intro v x hx
   cases x with
   |p y=>exact Rd.ext d hx
   |ow i k J=>
    simp only[zCM];obtain⟨z,A,B,hr⟩:=hx;split
    .rename_i hid;subst hid;rw[B];exact zHI hr (fun b hb=>.inl hb) (.inr rfl)
    grind[zX.ext,zX]
   |oe i k J j off=>
    simp only[zCM];obtain⟨z,hj,A,B,hr⟩:=hx;split
    .rename_i hid;subst hid;split
     .rename_i q hq;obtain⟨c,et,g1,g2,g3,g4,g5⟩:=hr;have ad:=g4 q (ae hq);have M:(j+1)*k<=A*k:=aq k (by omega);rw[bI]at M;rw[B];refine Rd.pp (β.ob i) (j*k+off) _ (fun m=>(c[j*k+(off+m)]?).getD undef) (.inr rfl) ?_ ?_;all_goals grind[List.length_drop,List.getElem?_eq_some_iff,Rd.ext,World.cell?]
     .trivial
    grind[zX.ext,zX]
   |lp s off=>exact⟨⟨hx.1,by simp⟩,hx.2⟩
   |mp i ag ck=>
    grind[zX.ext,zCM,zX]
   |ot i t xs=>
    simp only[zCM];split
    .rename_i hid;subst hid;refine .tl t xs v ?_;rcases hx with⟨N,a0,rfl⟩|⟨H,z,A,rfl,hr⟩
     .rw[N];exact .slemp a0 0
     .exact zHI (hr.mono d.f d.hf rfl) (fun _ h=>h) (.inr rfl)
    .rename_i hid;rcases hx with hx|⟨H,z,A,B,hr⟩
     .exact .inl hx
     .exact zX.ext d (show zX w F β r v (.ot i t xs)from .inr ⟨H,⟨z,by simpa using hid⟩,A,B,hr⟩)
   |oet i t xs j off=>
    grind[zX.ext,zCM,zX]
   |ov i t xs lo hi=>
    grind[zX.ext,zCM,zX]
   |on n=>
    simp only[zCM];split
    .trivial
    .rename_i hid;have hid:=not_or.1 hid;exact zX.ext d (show zX w F β r v (.on n)from⟨⟨hx.1,by simpa using hid.1⟩,⟨hx.2.1,by simpa using hid.2⟩,hx.2.2⟩)
   |emp=>exact hx
   |dead=>trivial
  refine Inv.of (al:=r) E (W.ext d) (by grind[Env.mapT]) I (fun t=>by rw[vN rfl];grind) ?_ ?_
  .intro s Q id;rw[jF]at id;simp at id;obtain⟨C,l,rfl⟩:=id;exact⟨⟨⟨C,l⟩,by simp⟩,(Y s C l).mapT rfl hf⟩
  .rintro s ⟨⟨Q,id⟩,_⟩
   grind[jF]
 .have hf:∀v x,zX w F β (zT e) v x->zX w F β (zT e) v (zCM g x):=by
   intro v x hx
   cases x with
   |ow i k J=>
    simp only[zCM];split
    .rename_i hid;subst hid;exact absurd hx.1 ha
    .exact hx
   |oe i k J j off=>
    simp only[zCM];split
    .rename_i hid;subst hid;exact absurd hx.1 ha
    .exact hx
   |mp i J ck=>
    simp only[zCM];split
    .trivial
    .exact hx
   |ot i t xs=>
    simp only[zCM];split
    .rename_i hid;subst hid;rcases hx with⟨N,a0,rfl⟩|⟨H,z,_⟩
     .exact .tl t xs _ (by rw[N];exact .slemp a0 0)
     grind
    .exact hx
   |oet i t xs j off=>
    simp only[zCM];split
    .trivial
    .exact hx
   |ov i t xs lo hi=>
    simp only[zCM];split
    .trivial
    .exact hx
   |on n=>
    simp only[zCM];split
    .trivial
    .exact hx
   |_=>exact hx
  refine Inv.of (al:=zT e) u W (by grind[Env.mapT]) I (fun t=>by rw[vN rfl];grind) ?_ ?_
  .intro s Q id;rw[jF]at id;simp at id;obtain⟨C,l,rfl⟩:=id;exact⟨⟨C,l⟩,(Y s C l).mapT rfl hf⟩
  .rintro s ⟨Q,id⟩
   grind[jF]
def zQj(s:Nat)(ds:List V):T->T
 |.lp d c=>if d=s then .p (.pp (ds.drop c))else .lp d c
 |x=>x
def Env.frzV(s:Nat)(ds:List V)(e:Env Γ.St):Env Γ.St:=({ e with vars:=e.vars.set s Sc } :Env Γ.St).mapT (zQj s ds)
theorem qCR{cs:List T}{ds:List V}(h:yN cs=Sa ds)(off:Nat):yN (cs.drop off)=Sa (ds.drop off):=by
 have:=zHq h;subst this
 have c:∀ds:List V,yN (ds.map .p)=Sa ds:=by
  intro ds
  induction ds with
  |nil=>rfl
  |cons d ds f=>simp[yN,f]
 grind[List.map_drop]
theorem Inv.frzV(hi:Inv Γ G w0 F0 O0 a w e){s:Nat}{cs:List T}{ds:List V}(L:e.var s=Sa cs)(hp:yN cs=Sa ds):Inv Γ G w0 F0 O0 a w (e.frzV s ds):=by
 obtain⟨F,O,β,q,W,Y,H,ht,M⟩:=hi;have ha:zT e (.v s):=⟨cs,L⟩
 obtain⟨N,Z,p3,p4⟩:=q.place (.v s) ha;let I:Blk->Prop:=fun b=>F b\/b=β.vb s;let d:v8->Prop:=fun x=>zT e x/\x≠ .v s
 have z:zDH Γ w0 F0 O0 w I O β d e.st:=by
  refine⟨q.keep,Γ.mono q.sig zTn (fun _ _=>rfl) (fun _ _ h=>⟨.inl h,rfl⟩),q.oin,?_,q.f0.trans (zFY.addB _ _ _) (aj _),?_,fun x y hx hy=>q.dist x y hx.1 hy.1,q.lent.step (fun b n _ hb ho hf=>⟨rfl,ho,fun h=>h.elim hf (fun h=>by have h1:=zCA h;have Q:w0.heap.size<=β.vb s:=N.v;omega)⟩)⟩
  .rintro b (hb|hb)
   .exact q.fin b hb
   .have hb:=zCA hb;subst hb;exact⟨.inr N.v,Z,p4⟩
  .intro x hx;obtain⟨q1,q2,q3,q4⟩:=q.place x hx.1;refine⟨q1,q2,fun J=>J.elim q3 (fun J=>hx.2 (q.dist x (.v s) hx.1 ha (zCA J))),q4⟩
 have c:Ext w F β d w I β d:=⟨fun _ h=>.inl h,fun _ _=>rfl,fun _ h=>h,fun _ _=>rfl,fun _ _=>rfl⟩
 have hf:∀v x,zX w F β (zT e) v x->zX w I β d v (zQj s ds x):=by
  intro v x hx
  cases x with
  |p y=>exact Rd.ext c hx
  |ow i k B=>exact zX.ext c (show zX w F β d v (.ow i k B)from⟨⟨hx.1,by simp⟩,hx.2⟩)
  |oe i k B j off=>exact zX.ext c (show zX w F β d v (.oe i k B j off)from⟨⟨hx.1,by simp⟩,hx.2⟩)
  |lp r off=>
   simp only[zQj];obtain⟨m,C⟩:=hx;split
   .rename_i A;subst A;rw[C];exact qFk (M r cs L) (fun b hb=>.inl hb) (.inr rfl) (qCR hp off)
   .rename_i A;exact⟨⟨m,by simpa using A⟩,C⟩
  |mp i B ck=>exact zX.ext c (show zX w F β d v (.mp i B ck)from⟨⟨hx.1,by simp⟩,hx.2⟩)
  |ot i t xs=>
   rcases hx with hx|⟨l,m,Q⟩
   .exact .inl hx
   .exact zX.ext c (show zX w F β d v (.ot i t xs)from .inr ⟨l,⟨m,by simp⟩,Q⟩)
  |oet i t xs j off=>exact zX.ext c (show zX w F β d v (.oet i t xs j off)from⟨⟨hx.1,by simp⟩,hx.2⟩)
  |ov i t xs lo hi=>
   rcases hx with hx|⟨l,m,hx⟩
   .exact .inl hx
   .exact zX.ext c (show zX w F β d v (.ov i t xs lo hi)from .inr ⟨l,⟨m,by simp⟩,hx⟩)
  |on n=>exact zX.ext c (show zX w F β d v (.on n)from⟨⟨hx.1,by simp⟩,⟨hx.2.1,by simp⟩,hx.2.2⟩)
  |emp=>exact hx
  |dead=>trivial
 have D:∀r,(e.frzV s ds).var r=if r=s then Sc else(e.var r).map (List.map (zQj s ds)):=by
  intro r;simp[Env.frzV,jF];simp only[Env.var]
  grind
 have vC:∀t,(e.frzV s ds).get t=zQj s ds (e.get t):=fun t=>vN (f:=zQj s ds) rfl _ t;refine Inv.of (al:=d) z (W.ext c) (by grind[Env.frzV,Env.mapT]) H (fun t=>by grind) ?_ ?_
 .intro r K g;rw[D]at g;split at g
  .cases g
  .rename_i l;simp at g;obtain⟨E,u,rfl⟩:=g;exact⟨⟨⟨E,u⟩,by simpa using l⟩,(M r E u).mapT rfl hf⟩
 .rintro r ⟨⟨K,g⟩,l⟩
  grind
def qEd:Nat:=999
def T.ids:T->List Nat
 |.ow i _ _=>[i]
 |.oe i _ _ _ _=>[i]
 |.mp i _ _=>[i]
 |.ot i _ _=>[i]
 |.oet i _ _ _ _=>[i]
 |.ov i _ _ _ _=>[i]
 |.on n=>[n.id,n.id2]
 |_=>[]
def T.offs(a b:Nat)(x:T):T:=if x.ids.contains a||x.ids.contains b then .dead else x
theorem T.sites_sub{al al':v8->Prop}{x:T}(h:x.sites al)(hi:∀i,i∈x.ids->al (.o i)->al' (.o i))(f:∀s,al (.v s)->al' (.v s)):x.sites al':=by
 cases x with
 |ot i t xs=>exact fun c=>hi _ (by simp[T.ids]) (h c)
 |ov i t xs lo g=>exact fun c=>hi _ (by simp[T.ids]) (h c)
 |on n=>exact⟨hi _ (by simp[T.ids]) h.1,hi _ (by simp[T.ids]) h.2⟩
 |lp s off=>exact f _ h
 |p d=>trivial
 |emp=>trivial
 |dead=>trivial
 |_=>exact hi _ (by simp[T.ids]) h
theorem zX.setAway{x:T}{ob:Obj}(h:zX w F β al a2 x)(k:∀f:Nat,F f->f≠g)(l:∀i,i∈x.ids->al (.o i)->β.ob i≠g):
  zX (setBlk w g ob) F β al a2 x:=by
 have m:zX w F β (fun s=>al s/\∀i,s=.o i->i∈x.ids) a2 x:=
  h.on (T.sites_sub h.sites (fun i c ha=>⟨ha,fun j hj=>by grind⟩) (fun s d=>⟨d,fun j hj=>by cases hj⟩))
 have v:=zX.setVar (ob:=ob) k (fun i c=>l i (c.2 i rfl) c.1) m;exact v.on (T.sites_sub v.sites (fun i _ ha=>ha.1) (fun s d=>d.1))
theorem zX.offs{v:Value}{x:T}{id id2 b:Nat}{ob:Obj}(h:zX w F β al v x)(j:∀f:Nat,F f->f≠b)(k:∀i,i≠id->i≠id2->al (.o i)->β.ob i≠b):
  zX (setBlk w b ob) F β al v (T.offs id id2 x):=by
 unfold T.offs;split
 .trivial
 .rename_i c;simp at c;exact h.setAway j (fun i g ha=>k i (fun d=>c.1 (d▸g)) (fun d=>c.2 (d▸g)) ha)
def zY3(id id2:Nat)(t:Ty)(j:Nat)(f:List t.El)(x:T):T:=
 match x with
 |.ot i c d=>if i=id then(if h:c=.sl t then .on ⟨id,id2,t,(h▸d:List (Ty.sl t).El),j,f,.s⟩else .dead)else T.offs id id2 (.ot i c d)
 |x=>T.offs id id2 x
def zEl(P:j9)(e:Env Γ.St)(t:TypeId)(id:Nat)(ty:Ty)(j off id2:Nat)(c:Ty)(d:List c.El):Option (Env Γ.St):=
 match ty with
 |.sl f=>if f=c/\off=0/\wE P t=Sa 1/\id=qEd/\id≠id2/\d.isEmpty=Sd then Sa (e.mapT (zY3 id id2 c j d))else Sc
 |_=>Sc
theorem zW2(hi:Inv Γ G w0 F0 O0 a w e){id2:Nat}{t2:Ty}{ap:List t2.El}(hp:evx G e I=.oet g J a1 i C)(hx:evx G e a0=.ot id2 t2 ap)(h:zEl P e l g J i C id2 t2 ap=Sa e'):∃w',(Aa l (a.eval I) (a.eval a0)).run P w=.ok () w'/\Inv Γ G w0 F0 O0 a w' e':=by
 unfold zEl at h;split at h
 .rename_i m;split at h
  .rename_i r;obtain⟨rfl,rfl,y,an,K,a6⟩:=r;cases h;obtain⟨F,O,β,hc,hG,a9,ao,ht,hv⟩:=hi;have L:=uX hG ht I;have M:=uX hG ht a0;rw[hp]at L;rw[hx]at M;obtain⟨z,bb,be,A,c,B,g1,g2,g3,g4,g5⟩:=L;have a4:ap≠[]:=by grind
   rcases M with⟨h0,_⟩|⟨_,N,n,off,D⟩
   .simp_all
   have hz:(Ty.sl m).size=1:=rfl;rw[hz]at A g2;simp at A g2;simp at g3 off;have bk:i<c.size:=by omega
   have Q:(Aa l (a.eval I) (a.eval a0)).run P w=.ok () (setBlk w (β.ob g) (.cells (c.setIfInBounds i (a.eval a0)) B (0,0))):=by
    have bn:=zBm (P:=P) (b:=β.ob g) (off:=i) (et:=B) [a.eval a0] 0 w c g1 (by simp;omega) (fun u hu=>by simp at hu;rw[hu,off];rfl);have av:(a.eval a0).cells= #[a.eval a0]:=by rw[off];rfl
    simp only[Aa,A,Ae,Af,Ah,Ac,storeVar,zL y,av,ne_eq]
    grind[j8]
   refine⟨_,Q,?_⟩;obtain⟨p1,p2,p3,p4⟩:=hc.place (.o g) z;have d:∀b':Nat,F b'->b'≠β.ob g:=fun b' hb E=>p3 (by rw[E]at hb;exact hb);have W:∀s,zT e (.v s)->β.vb s≠β.ob g:=fun s hs E=>by have:=hc.dist (.v s) (.o g) hs z E;cases this
   have f:∀k,k≠g->zT e (.o k)->β.ob k≠β.ob g:=fun k ax hs E=>by
    have:=hc.dist (.o k) (.o g) hs z E
    grind
   have hf:∀v x,zX w F β (zT e) v x->zX (setBlk w (β.ob g) (.cells (c.setIfInBounds i (a.eval a0)) B (0,0))) F β (zT e) v (zY3 g id2 m i ap x):=by
    intro v x hx;have p:zX (setBlk w (β.ob g) (.cells (c.setIfInBounds i (a.eval a0)) B (0,0))) F β (zT e) v (T.offs g id2 x):=hx.offs d (fun j H _ z=>f j H z)
    cases x with
    |ot j t' Y=>
     simp only[zY3];split
     .rename_i hid;subst hid;split
      .rename_i ay;subst ay
       have hk:∀(Z:Y.length<=c.size) (xs:∀(ty:Nat) (x:List m.El) (u:Value),Y[ty]?=Sa x->c[ty]?=Sa u->Rd w F u (.tl m x)),(NM.Rel (β.ob j) (β.ob id2) c.size n Y.length ap.length m.size v .s)->
         zP0 (setBlk w (β.ob j) (.cells (c.setIfInBounds i (a.eval a0)) B (0,0))) F β (zT e) v ⟨j,id2,m,Y,i,ap,.s⟩:=by
        intro Z xs hm;refine⟨z,N,c.setIfInBounds i (a.eval a0),B,n,zA3 p2,by simpa using Z,?_,?_,D.setBlk d (f id2 (c8 K) N),?_⟩
        .intro ty x u H h2 h3;rw[bi (c8 H)]at h3
         grind[Rd.setBlk]
        all_goals grind
       rcases hx with⟨h0,xv,a2⟩|⟨ax,_,a5,ab,c',a3,q1,q2,q3,q4,q5⟩
       .have h0:Y=[]:=by simpa using h0
        subst h0;exact hk (by simp) (fun ty x u H=>by simp at H) (.inl ⟨rfl,xv,a2⟩)
       .rw[g1]at q1;simp only[ac,Obj.cells.injEq]at q1;obtain⟨rfl,_,_⟩:=q1;rw[hz,dL]at q2;simp at q3 ab;refine hk (by omega) ?_ (.inr (by rw[ab,q2]));intro ty x u H h2;exact q5 ty 0 (.tl m x) (.tl m x) u (by simp only[aA,H];rfl) rfl (by grind)
      .trivial
     .exact p
    |_=>exact p
   refine Inv.of (al:=zT e) (hc.setBlk z _ (fun c' a3 bo E=>by rw[show w.heap[β.blk (.o g)]?=_ from g1]at E;grind)) (fun id cs hg=>(hG id cs hg).setBlk d) (by grind[Env.mapT]) ao (fun l=>by rw[vN rfl];grind) ?_ ?_
   .intro s cs t;rw[jF]at t;simp at t;obtain⟨ad,q,rfl⟩:=t;have ag:zT e (.v s):=⟨ad,q⟩
    exact⟨ag,(hv s ad q).mapT (qU (W s ag)) hf⟩
   .rintro s ⟨cs,t⟩
    grind[jF]
  .cases h
 .cases h
def zVr(id id2:Nat)(t:Ty)(k:Nat)(y:t.El)(x:T):T:=
 match x with
 |.on ⟨i,c,d,f,j,g,m⟩=>if i=id/\c=id2 then(if h:d=t then .on ⟨i,c,d,f,j,g.set k (h▸y),m⟩else .dead)else T.offs id id2 (.on ⟨i,c,d,f,j,g,m⟩)
 |x=>T.offs id id2 x
def frzN(id id2:Nat)(x:T):T:=
 match x with
 |.on ⟨i,c,t,d,j,f,m⟩=>if i=id/\c=id2 then(match m with
  |.s=>.p (.tl (.sl t) (List.set d j f))
  |_=>.dead)else T.offs id id2 (.on ⟨i,c,t,d,j,f,m⟩)
 |x=>T.offs id id2 x
def zY4(id id2:Nat)(t:Ty)(k:Nat)(y:t.El)(x:T):T:=frzN id id2 (zVr id id2 t k y x)
def zDs(P:j9)(e:Env Γ.St)(t:TypeId)(n:Nst)(d:V):Option (Env Γ.St):=
 match n with
 |⟨id,c,f,_,_,h,.q k g⟩=>
  if wE P t=Sa d.cells.length/\g+d.cells.length<=f.size/\d.cells.all V.one=Sb/\(f.aggT=Sd->d.cells.length=1/\f.size=1)/\id≠c/\id≠jX/\c≠jX then
   match h[k]? with
   |some x=>match zUF f x g d with
    |some y=>Sa (e.mapT (zY4 id c f k y))
    |none=>Sc
   |none=>Sc
  else Sc
 |_=>Sc
theorem Inv.frzN(hi:Inv Γ G w0 F0 O0 a w e){id id2:Nat}(Q:id≠jX)(W:id2≠jX)(ha:zT e (.o id))(E:zT e (.o id2)):Inv Γ G w0 F0 O0 a w (e.mapT (Ve.frzN id id2)):=by
 obtain⟨F,O,β,g,hG,ad,K,ht,hv⟩:=hi;obtain⟨Y,p2,p3,p4⟩:=g.place (.o id) ha;obtain⟨Z,r2,r3,r4⟩:=g.place (.o id2) E;let k:Blk->Prop:=fun b=>F b\/b=β.ob id\/b=β.ob id2;let f:v8->Prop:=fun x=>zT e x/\x≠ .o id/\x≠ .o id2
 have C:zDH Γ w0 F0 O0 w k O β f e.st:=by
  refine⟨g.keep,Γ.mono g.sig (fun x hx=>⟨fun h=>h.elim (fun h=>h) (fun h=>by rcases h with h|h<;>(subst h;cases hx)),.inl⟩) (fun _ _=>rfl) (fun _ _ h=>⟨.inl h,rfl⟩),g.oin,?_,g.f0.trans ⟨fun _ h=>.inl h,fun _ h=>h.elim .inl (fun h=>by grind)⟩ (aj _),?_,fun x y hx hy=>g.dist x y hx.1 hy.1,
   g.lent.step (fun b n _ hb ho hf=>⟨rfl,ho,fun h=>h.elim hf (fun h=>by
    have L:w0.heap.size<=β.ob id:=Y.o Q;have M:w0.heap.size<=β.ob id2:=Z.o W
    grind)⟩)⟩
  .rintro b (hb|hb|hb)
   .exact g.fin b hb
   .have hb:=zCA hb;subst hb;exact⟨.inr (Y.o Q),p2,p4⟩
   .have hb:=zCA hb;subst hb;exact⟨.inr (Z.o W),r2,r4⟩
  .intro x hx;obtain⟨q1,q2,q3,q4⟩:=g.place x hx.1;refine⟨q1,q2,fun l=>l.elim q3 (fun l=>?_),q4⟩;rcases l with l|l
   .exact hx.2.1 (g.dist x (.o id) hx.1 ha (zCA l))
   .exact hx.2.2 (g.dist x (.o id2) hx.1 E (zCA l))
 have r:Ext w F β f w k β f:=⟨fun _ h=>.inl h,fun _ _=>rfl,fun _ h=>h,fun _ _=>rfl,fun _ _=>rfl⟩
 have hf:∀v x,zX w F β (zT e) v x->zX w k β f v (Ve.frzN id id2 x):=by
  intro v x hx
  have A:zX w k β f v (T.offs id id2 x):=by
   unfold T.offs;split
   .trivial
   .rename_i hn;simp at hn;exact zX.ext r (hx.on (T.sites_sub hx.sites (fun i hi h=>⟨h,fun l=>by grind,fun l=>by grind⟩) (fun s hs=>⟨hs,by simp,by simp⟩)))
  cases x with
  |on m=>
   obtain⟨i,i2,ty,xs,j,ys,mm⟩:=m;simp only[Ve.frzN];split
   .rename_i hid;obtain⟨rfl,rfl⟩:=hid
    cases mm with
    |s=>
     obtain⟨_,_,c,et,ab,L,M,k5,k6,k7,k8⟩:=hx;simp only at L M k5 k6 k7;refine .tl (.sl ty) _ v ?_;rcases k8 with⟨N,a0,rfl⟩|rfl
     .have N:xs=[]:=cR.1 N;subst N;exact .slemp a0 0
     .have H:qP w k (β.ob i) 1 c.size ((List.set xs j ys).map (Ty.sl ty).enc):=by
       refine⟨c,et,L,by simp,by simpa using M,?_,?_⟩
       .intro q hq;simp only[aQ]at hq;obtain⟨z,_,rfl⟩:=hq;rfl
       .intro i' jj q d u h3 h4 J;simp only[aA,am]at h3;obtain⟨z,hz,rfl⟩:=h3;have ag:jj<1:=(aa.1 h4).1;obtain rfl:jj=0:=by omega
        simp at J
        have hd:d=.tl ty z:=by
         have:Sa (V.tl ty z)=Sa d:=h4
         grind
        subst hd;by_cases D:j=i'
        .subst D;rw[k6]at J;cases J;have hlt:j<xs.length:=by grind
         rw[ca hlt]at hz;cases hz;refine .tl ty ys _ ?_;have:=zHI k7 (F':=k) (fun b hb=>.inl hb) (.inr (.inr rfl));simpa using this
        .rw[aP D]at hz;exact(k5 i' z u (c8 D) hz J).mono (fun b hb=>.inl hb) (fun _ _=>rfl)
      have:=zHI H (F':=k) (fun b hb=>hb) (.inr (.inl rfl));simpa using this
    |_=>trivial
   .exact A
  |_=>exact A
 refine Inv.of (al:=f) C (hG.ext r) (by grind[Env.mapT]) K (fun t=>by rw[vN rfl];grind) ?_ ?_
 .intro s cs p;rw[jF]at p;simp at p;obtain⟨I,B,rfl⟩:=p;exact⟨⟨⟨I,B⟩,by simp,by simp⟩,(hv s I B).mapT rfl hf⟩
 .rintro s ⟨⟨cs,p⟩,_⟩
  grind[jF]
theorem zZg(hi:Inv Γ G w0 F0 O0 a w e){n:Nst}(hp:evx G e I=.on n)(hx:evx G e a0=.p j)(h:zDs P e l n j=Sa e'):∃w',(Aa l (a.eval I) (a.eval a0)).run P w=.ok () w'/\Inv Γ G w0 F0 O0 a w' e':=by
 obtain⟨id,t,r,xs,d,ys,mm⟩:=n
 cases mm with
 |q k A=>
  simp only[zDs]at h;split at h
  .rename_i Y;obtain⟨hs,L,M,bk,ab,bn,bo⟩:=Y;split at h
   .rename_i x bs;split at h
    .rename_i y hy;cases h;obtain⟨F,O,β,hc,hG,cq,b0,ht,hv⟩:=hi;have ad:=uX hG ht I;have ag:=uX hG ht a0;rw[hp]at ad;rw[hx]at ag;obtain⟨ha,C,c0,cr,an,k1,k2,k5,k6,k7,k8⟩:=ad;simp only at ha C k1 k2 k5 k6 k7;obtain⟨b1,ao⟩:=k8;simp only at b1 ao;have b2:=k7;obtain⟨c,J,g1,g2,g3,g4,g5⟩:=b2;have hq:(ys.map r.enc)[k]?=Sa (r.enc x):=by simp[bs]
     have av:(r.enc x).noAgg=Sb->j.cells.length=1/\r.size=1:=by
      intro D;refine bk ?_;cases r<;>first|rfl|(simp[Ty.enc,V.noAgg]at D)
     have Z:=zIF (q:=r.enc x) (d:=j) (off:=A) (k:=r.size) (w7 r x) M L av;have b3:(zB2 (r.enc x) (wW (r.enc x).cells A j.cells)).cells.length=r.size:=by rw[Z,zGV,w7]
     obtain⟨h1,h2,h3⟩:=zM5 (xs:=j.cells.map .p) ag (by simp[T.cellsT,M]);simp at h1;have b4:(k+1)*r.size<=an*r.size:=aq r.size (by simp at g3;omega);rw[bI]at b4
     have ax:(Aa l (a.eval I) (a.eval a0)).run P w=.ok () (setBlk w (β.ob t) (.cells (j8 c (k*r.size+A) (a.eval a0).cells.toList) J (0,0))):=by
      have ay:=zBm (P:=P) (b:=β.ob t) (off:=k*r.size+A) (et:=J) (a.eval a0).cells.toList 0 w c g1 (by simp[h1];omega) (fun u hu=>h2 u (by simpa using hu))
      have hw:(if(a.eval a0).cells.toList=[]then w else setBlk w (β.ob t) (.cells (j8 c (k*r.size+A+0) (a.eval a0).cells.toList) J (0,0)))=setBlk w (β.ob t) (.cells (j8 c (k*r.size+A) (a.eval a0).cells.toList) J (0,0)):=by
       split
       .rename_i xv;rw[xv];exact(zG0 g1).symm
       .simp
      rw[hw]at ay;simp[Aa,ao,Ae,storeVar,zL hs,h1];exact ay
     refine⟨_,ax,?_⟩;obtain⟨p1,p2,p3,p4⟩:=hc.place (.o t) C;have B:∀b':Nat,F b'->b'≠β.ob t:=fun b' hb D=>p3 (by rw[D]at hb;exact hb);have a4:∀s,zT e (.v s)->β.vb s≠β.ob t:=fun s hs D=>by have:=hc.dist (.v s) (.o t) hs C D;cases this
     have E:∀H,H≠t->zT e (.o H)->β.ob H≠β.ob t:=fun H cv hs D=>by
      have:=hc.dist (.o H) (.o t) hs C D
      grind
     have a5:∀(zs:List r.El) ap,qP w F (β.ob t) r.size ap (zs.map r.enc)->qP (setBlk w (β.ob t) (.cells (j8 c (k*r.size+A) (a.eval a0).cells.toList) J (0,0))) F (β.ob t) r.size ap ((zs.set k y).map r.enc):=by
      intro zs ap b5
      have hr:=zUr (es0:=zs.map r.enc) (i:=k) (off:=A) (d:=j) (vs:=(a.eval a0).cells.toList) B g1 p2 (fun jj d' u hj hu=>g5 k jj (r.enc x) d' u hq hj hu) (w7 r x) L b3 Z (by simp[h1]) (by grind)
       (fun m u z hu hz=>h3 m u (.p z) (by simpa using hu) (by simp[hz])) b5
      exact qA3 (qBc (.refl _) Z hy) hr
     have hf:∀v x,zX w F β (zT e) v x->zX (setBlk w (β.ob t) (.cells (j8 c (k*r.size+A) (a.eval a0).cells.toList) J (0,0))) F β (zT e) v (zVr id t r k y x):=by
      intro v x hx;have N:zX (setBlk w (β.ob t) (.cells (j8 c (k*r.size+A) (a.eval a0).cells.toList) J (0,0))) F β (zT e) v (T.offs id t x):=hx.offs B (fun i _ h2 ha=>E i h2 ha)
      cases x with
      |on m=>
       obtain⟨i,i2,t',c2,j',cc,c3⟩:=m;simp only[zVr];split
       .rename_i hid;obtain⟨rfl,rfl⟩:=hid;split
        .rename_i cf;subst cf;obtain⟨_,_,c1,ch,Q,q1,q2,q5,q6,q7,q8⟩:=hx;simp only at q1 q2 q5 q6 q7;refine⟨ha,C,c1,ch,Q,(qU (E i ab ha)).trans q1,q2,fun i' x u a1 a2 a3=>Rd.setBlk B (q5 i' x u a1 a2 a3),?_,a5 cc Q q7,?_⟩;all_goals grind
        .trivial
       .exact N
      |_=>exact N
     have a6:Inv Γ G w0 F0 O0 a (setBlk w (β.ob t) (.cells (j8 c (k*r.size+A) (a.eval a0).cells.toList) J (0,0))) (e.mapT (zVr id t r k y)):=by
      refine Inv.of (al:=zT e) (hc.setBlk C _ (fun c' c4 c5 D=>by rw[show w.heap[β.blk (.o t)]?=_ from g1]at D;simp at D;exact⟨_,_,_,rfl,by rw[xM,D.1]⟩)) (fun g cs hg=>(hG g cs hg).setBlk B) (by grind[Env.mapT]) b0 (fun l=>by rw[vN rfl];grind) ?_ ?_
      .intro s cs K;rw[jF]at K;simp at K;obtain⟨a9,W,rfl⟩:=K;have bb:zT e (.v s):=⟨a9,W⟩
       exact⟨bb,(hv s a9 W).mapT (qU (a4 s bb)) hf⟩
      .rintro s ⟨cs,K⟩
       grind[jF]
     have be:∀i,i=id\/i=t->zT (e.mapT (zVr id t r k y)) (.o i):=by
      intro i hi
      have ck:evx G (e.mapT (zVr id t r k y)) I=.on ⟨id,t,r,xs,d,ys.set k y,.q k A⟩:=by
       cases I with
       |tmp p=>
        simp only[evx]at hp ⊢;rw[vN rfl,hp];simp[zVr]
       |const v=>grind[evx]
       |global g=>grind[evx]
       |func f=>cases hp
      cases I with
      |tmp p=>
       rcases qBt (e:=e.mapT (zVr id t r k y)) (t:=p) ck with hm|hm
       .exact⟨_,.inl hm,by rcases hi with rfl|rfl<;>simp[T.hasO]⟩
       .cases hm
      |const v=>grind[evx]
      |global g=>grind[evx]
      |func f=>cases hp
     have cp:=a6.frzN bn bo (be id (.inl rfl)) (be t (.inr rfl))
     have cl:(e.mapT (zVr id t r k y)).mapT (Ve.frzN id t)=e.mapT (zY4 id t r k y):=by
      simp only[Env.mapT,dh];congr 1;refine bM (fun c _=>?_)
      cases c with
      |none=>rfl
      |some cs=>simp[zY4]
     grind
    .cases h
   .cases h
  .cases h
 |_=>simp[zDs]at h
def frzOE(id:Nat)(e:Env Γ.St):Env Γ.St:=
 match Nat.beq id jX with
 |true=>e
 |false=>e.mapT (zCM id)
theorem Inv.frzOE(hi:Inv Γ G w0 F0 O0 a w e)(id:Nat):Inv Γ G w0 F0 O0 a w (Ve.frzOE id e):=by
 unfold Ve.frzOE;split
 .exact hi
 .rename_i hb;exact hi.frzO (fun h=>by simp_all)
def frzCells(e:Env Γ.St):List T->Env Γ.St
 |[]=>e
 |.ow id _ _::r=>frzCells (frzOE id e) r
 |.ot id _ _::r=>frzCells (frzOE id e) r
 |_::r=>frzCells e r
def frzT1(x:T)(e:Env Γ.St):Env Γ.St:=
 match x with
 |.ow id _ _=>frzOE id e
 |.oe id _ _ _ _=>frzOE id e
 |.ot id _ _=>frzOE id e
 |.lp s _=>match e.var s with
  |some c=>match(frzCells e c).var s with
   |some d=>match yN d with
    |some f=>(frzCells e c).frzV s f
    |none=>frzCells e c
   |none=>frzCells e c
  |none=>e
 |_=>e
theorem Inv.frzCells:∀(cs:List T) (e:Env Γ.St),Inv Γ G w0 F0 O0 a w e->Inv Γ G w0 F0 O0 a w (Ve.frzCells e cs):=by
 intro cs
 induction cs with
 |nil=>intro e h;exact h
 |cons c cs d=>
  intro e h
  cases c with
  |ow id k f=>exact d _ (h.frzOE id)
  |ot id t xs=>exact d _ (h.frzOE id)
  |_=>exact d _ h
theorem Inv.frzT1(h:Inv Γ G w0 F0 O0 a w e)(x:T):Inv Γ G w0 F0 O0 a w (Ve.frzT1 x e):=by
 unfold Ve.frzT1;split
 .exact h.frzOE _
 .exact h.frzOE _
 .exact h.frzOE _
 .split
  .rename_i g i;have d:=Inv.frzCells g e h;split
   .rename_i j c;split
    .rename_i k f;exact d.frzV c f
    .exact d
   .exact d
  .exact h
 .exact h
def frzOps(G:Nat->Option (List V)):List Operand->Env Γ.St->Env Γ.St
 |[],e=>e
 |x::r,e=>frzOps G r (frzT1 (evx G e x) e)
theorem Inv.frzOps:∀(xs:List Operand) (e:Env Γ.St),Inv Γ G w0 F0 O0 a w e->Inv Γ G w0 F0 O0 a w (Ve.frzOps G xs e):=by
 intro xs
 induction xs with
 |nil=>intro e h;exact h
 |cons x xs c=>intro e h;exact c _ (h.frzT1 _)
end
section
variable {Γ:Sig}(P:j9)(G:Nat->Option (List V))(S:vG Γ)
def evW(e:Env Γ.St)(o:Oper):Option (Env Γ.St):=
 match o.op with
 |.store t q x=>match o.dst with
  |some _=>Sc
  |none=>match evx G e q with
   |.lp s f=>zIb e P t s f (evx G e x)
   |.oe id k g i f=>match evx G e x with
    |.p d=>zES P e t id k g i f d
    |_=>Sc
   |.oet id l r i f=>match evx G e x with
    |.p d=>zGv P e t id l r i f d
    |.ot h u y=>zEl P e t id l i f h u y
    |_=>Sc
   |.on n=>match evx G e x with
    |.p d=>zDs P e t n d
    |_=>Sc
   |_=>Sc
 |.call c=>match uL P G e o.dst c with
  |some j=>Sa j
  |none=>match yP P G e o.dst c with
   |some j=>Sa j
   |none=>zBy P G e o.dst c
 |.mapUpdate t m k v=>match o.dst with
  |some _=>Sc
  |none=>match evx G e m,xB (evx G e k),xB (evx G e v)with
   |.mp id g z,Sa k,Sa v=>zUX P e t id g z k v
   |_,_,_=>Sc
 |_=>Sc
def zLy(e:Env Γ.St)(o:Oper):Option (Env Γ.St):=
 match evQ P G S e o with
 |some r=>zAB e o.dst r
 |none=>Sc
def zSE(o:Oper):List Operand:=
 match o.op with
 |.store _ _ x=>[x]
 |.mapUpdate _ _ _ v=>[v]
 |_=>o.op.operands.toList
def qET(e:Env Γ.St)(o:Oper):Option (Env Γ.St):=
 match zLy P G S e o with
 |some c=>Sa c
 |none=>match evW P G e o with
  |some c=>Sa c
  |none=>match zLy P G S (frzOps G (zSE o) e) o with
   |some c=>Sa c
   |none=>evW P G (frzOps G (zSE o) e) o
end
section
variable {Γ:Sig}{P:Program}{G:Nat->Option (List V)}{S:vG Γ}{o:Oper}{a:Act}{w0:World}{F0:Blk->Prop}{O0:zAf}{w:World}{e e':Env Γ.St}
variable {g:Exit->Act->World->Prop}
theorem zRr(hi:Inv Γ G w0 F0 O0 a w e)(h:evW P G e o=Sa e'):o.wp P a w (fun a' w'=>Inv Γ G w0 F0 O0 a' w' e') g:=by
 obtain⟨r,op,d,f,c,guard⟩:=o;unfold evW at h;split at h
 .rename_i t j x Q;cases Q;split at h
  .cases h
  .rename_i l;cases l
   have n:∀w',(Aa t (a.eval j) (a.eval x)).run P w=.ok () w'->Inv Γ G w0 F0 O0 a w' e'->(⟨Sc,.store t j x,d,f,c,guard⟩:Oper).wp P a w (fun a' w'=>Inv Γ G w0 F0 O0 a' w' e') g:=by
    intro w' u i;unfold Oper.wp;have:(execOp a.eval ⟨Sc,.store t j x,d,f,c,guard⟩).run P w=.ok .skip w':=by simp[execOp,u]
    rw[this];exact i
   split at h
   .rename_i s y z;obtain⟨w',p,q⟩:=zZe (P:=P) hi z rfl h
    grind
   all_goals grind[zRL,zZf,zW2,zZg,id]
 .grind[Option.some.injEq,zQC,zYO,qAC]
 .rename_i t m k v Q;cases Q;split at h
  .cases h
  .rename_i l;cases l;split at h
   .rename_i id D E H I A B C;obtain⟨w',p,q⟩:=qFz (P:=P) hi A B C h;unfold Oper.wp;have:(execOp a.eval ⟨Sc,.mapUpdate t m k v,d,f,c,guard⟩).run P w=.ok .skip w':=by simp[execOp,p]
    rw[this];exact q
   .cases h
 .cases h
theorem zKu(c:qK Γ P G S)(hi:Inv Γ G w0 F0 O0 a w e)(h:zLy P G S e o=Sa e'):o.wp P a w (fun a' w'=>Inv Γ G w0 F0 O0 a' w' e') g:=by
 grind[qHL,zLy]
theorem qCL(c:qK Γ P G S)(hi:Inv Γ G w0 F0 O0 a w e)(h:qET P G S e o=Sa e'):o.wp P a w (fun a' w'=>Inv Γ G w0 F0 O0 a' w' e') g:=by
 unfold qET at h;split at h
 .grind[Option.some.injEq,zKu]
 .split at h
  .grind[Option.some.injEq,zRr]
  .split at h
   .rename_i f d;simp at h;subst h;exact zKu c (Inv.frzOps _ _ hi) d
   .exact zRr (Inv.frzOps _ _ hi) h
end
section
variable {Γ:Sig}(P:j9)(G:Nat->Option (List V))(S:vG Γ)
def zSM(ops:Array Oper)(e:Env Γ.St)(o:Oper):Option (Env Γ.St):=
 match vH ops e o with
 |some Sb=>qET P G S e o
 |some Sd=>Sa (e.put o.dst (.p (.val undef)))
 |none=>Sc
def zQq(ops:Array Oper):List Oper->Env Γ.St->Option (Env Γ.St)
 |[],e=>Sa e
 |o::c,e=>match zSM P G S ops e o with
  |some d=>zQq ops c d
  |none=>Sc
def isW(o:Oper):Bool:=
 match o.op with
 |.store _ _ _=>Sb
 |.mapUpdate _ _ _ _=>Sb
 |.call c=>match c.callee with
  |.builtin .append=>Sb
  |_=>Sd
 |_=>Sd
def zD9:List Oper->Nat
 |[]=>0
 |o::r=>if isW o then 0 else zD9 r+1
def zJR(ops:Array Oper)(k:Nat):Bool:=
 if k=ops.size then Sb else
 let c:=Ao ops
 qFh ops c&&(Ai ops.size).all fun j=>match ops[j]? with
  |some o=>o.after.all (fun e=> !Ab .any e||decide (e.on<j))&&(decide (j<k)||(Ai j).all fun i=>(c.getD j 0).testBit i)
  |none=>Sb
def zIQ(ops:Array Oper)(k:Nat):Bool:=
 (Ai k).all fun i=>match ops[i]? with
  |some o=>match o.guard with
   |some (j,_)=>decide (j<k)
   |none=>Sb
  |none=>Sb
def zBS:List Oper->List Operand
 |[]=>[]
 |o::r=>if isCall o&& !isW o then o.op.operands.toList++zBS r else zBS r
def zOl(ops:Array Oper)(k:Nat)(e:Env Γ.St):Option (Env Γ.St):=
 match zMP P G S (ops.extract 0 k) e with
 |some c=>zQq P G S ops (ops.toList.drop k) c
 |none=>Sc
def zLc(ops:Array Oper)(e:Env Γ.St):Option (Env Γ.St):=
 if zD9 ops.toList<=ops.size&&zJR ops (zD9 ops.toList)&&zIQ ops (zD9 ops.toList)then
  match zOl P G S ops (zD9 ops.toList) e with
  |some c=>Sa c
  |none=>zOl P G S ops (zD9 ops.toList) (frzOps G (zBS ops.toList) e)
 else Sc
end
section
variable {Γ:Sig}{P:Program}{G:Nat->Option (List V)}{S:vG Γ}{w0:World}{F0:Blk->Prop}{O0:zAf}{a:Act}{w:World}{e e':Env Γ.St}{ops:Array Oper}{k:Nat}
def zYZ(P:Program)(G:Nat->Option (List V))(e:Env Γ.St)(o:Oper)(e1:Env Γ.St):Prop:=
 ∀(w0:World) (F0:Blk->Prop) (O0:zAf) (a:Act) (w:World) (Q:Exit->Act->World->Prop),Inv Γ G w0 F0 O0 a w e->o.wp P a w (fun c d=>Inv Γ G w0 F0 O0 c d e1) Q
def zOM(P:Program)(G:Nat->Option (List V))(ops:Array Oper)(e:Env Γ.St)(o:Oper)(e1:Env Γ.St):Prop:=
 (vH ops e o=Sa Sb/\zYZ P G e o e1)\/(vH ops e o=Sa Sd/\e1=e.put o.dst (.p (.val undef)))
inductive zLH(P:Program)(G:Nat->Option (List V))(ops:Array Oper):List Oper->Env Γ.St->Env Γ.St->Prop
 |nil (e:Env Γ.St):zLH P G ops [] e e
 |cons {o:Oper} {rest:List Oper} {e e1 e':Env Γ.St} :zOM P G ops e o e1->zLH P G ops rest e1 e'->zLH P G ops (o::rest) e e'
theorem qDs(d:qK Γ P G S){o:Oper}(h:zSM P G S ops e o=Sa e'):zOM P G ops e o e':=by
 unfold zSM at h;split at h
 .rename_i c;exact .inl ⟨c,fun w0 F0 O0 a w Q f=>qCL d f h⟩
 .rename_i c;simp at h;exact .inr ⟨c,h.symm⟩
 .cases h
theorem qA7(d:qK Γ P G S):∀{l:List Oper} {e e':Env Γ.St},zQq P G S ops l e=Sa e'->zLH P G ops l e e':=by
 intro l
 induction l with
 |nil=>intro e e' h;cases h;exact .nil e
 |cons o l f=>
  intro e e' h;simp only[zQq]at h;split at h
  .rename_i g c;exact .cons (qDs d c) (f h)
  .cases h
variable {j:Act->World->Prop}{g:Exit->Act->World->Prop}{i:Nat}
theorem zRM{o:Oper}(hi:ops[i]?=Sa o)(h:zOM P G ops e o e')(Q:Inv Γ G w0 F0 O0 a w e)(n:∀a w,Inv Γ G w0 F0 O0 a w e'->j a w):wpOp P ops g i j a w:=by
 unfold wpOp;simp only[hi];obtain⟨F,O,β,q,r,c,K,l,u⟩:=Q;rcases h with⟨m,h⟩|⟨m,h⟩
 .rw[zKT (fun t _=>l t) c m,if_pos rfl];exact .inl (Oper.wp_mono n (h w0 F0 O0 a w g ⟨F,O,β,q,r,c,K,l,u⟩))
 .rw[zKT (fun t _=>l t) c m];simp;subst h;refine n _ _ ?_;refine Inv.of (al:=zT e) (by cases o.dst<;>exact q) r ?_ ?_ ?_ ?_ ?_
  .cases x:o.dst<;>simp[Act.put,Env.put,c]
  .cases x:o.dst<;>exact K
  .intro t
   cases x:o.dst with
   |none=>exact l t
   |some d=>
    rw[zBk];simp only[Env.put];rw[xE,c];split
    .exact Rd.val _
    .exact l t
  .intro s y f;have:(e.put o.dst (.p (.val undef))).var s=e.var s:=by cases o.dst<;>rfl
   rw[this]at f;exact⟨⟨y,f⟩,u s y f⟩
  .intro s z;have:(e.put o.dst (.p (.val undef))).var s=e.var s:=by cases o.dst<;>rfl
   rw[this];exact z
theorem qA6(ops:Array Oper){Q:Exit->Act->World->Prop}:∀(n:Nat) (l:List Oper) (e e':Env Γ.St) (a:Act) (w:World),
  ops.toList.drop n=l->zLH P G ops l e e'->Inv Γ G w0 F0 O0 a w e->(∀a w,Inv Γ G w0 F0 O0 a w e'->Q .normal a w)->
  wpOps P ops Q (List.range' n l.length) a w:=by
 intro n l
 induction l generalizing n with
 |nil=>
  intro e e' a w _ h c d;cases h;exact d a w c
 |cons o f m=>
  intro e e' a w g h c d
  cases h with
  |cons i h=>
   rename_i p
   have j:ops[n]?=Sa o:=by
    have:(ops.toList.drop n)[0]?=Sa o:=by rw[g];rfl
    grind
   grind[Am,List.length_cons,List.range'_succ,wpOps_cons,zRM]
structure qH4(ops:Array Oper)(k:Nat):Prop where
 edge:∀(i:Nat) (o:Oper) (e:Edge),ops[i]?=Sa o->e∈o.after->Ab .any e=Sb->e.on<i
 last:∀(listed:Nat->Prop),(∀(i:Nat) (o:Oper) (e:Edge),ops[i]?=Sa o->listed i->e∈o.after->Ab .any e=Sb->listed e.on)->
  ∀(j i:Nat) (o:Oper),ops[j]?=Sa o->k<=j->i<j->(∀e,e∈o.after->Ab .any e=Sb->listed e.on)->listed i
theorem qAX(h:zJR ops k=Sb)(D:k≠ops.size):qH4 ops k:=by
 unfold zJR at h;rw[if_neg D]at h;simp only[ak]at h;obtain⟨f,r⟩:=h;generalize Ao ops=t at f r
 have g:∀j o,ops[j]?=Sa o->(o.after.all (fun e=> !Ab .any e||decide (e.on<j))&&(decide (j<k)||(Ai j).all fun i=>(t.getD j 0).testBit i))=true:=by
  grind
 have l:∀(i:Nat) (o:Oper) (e:Edge),ops[i]?=Sa o->e∈o.after->Ab .any e=Sb->e.on<i:=by
  intro i o e m K L;have n:=g i o m;rw[ak]at n
  grind[Array.all_eq_true_iff_forall_mem]
 have E:∀(c:Nat->Prop),(∀(i:Nat) (o:Oper) (e:Edge),ops[i]?=Sa o->c i->e∈o.after->Ab .any e=Sb->c e.on)->
   ∀(i:Nat) (o:Oper) (j:Nat),ops[i]?=Sa o->j<i->(t.getD i 0).testBit j=Sb->(∀e,e∈o.after->Ab .any e=Sb->c e.on)->c j:=by
  intro c d i
  induction i using Nat.strongRecOn with
  |_ i M=>
   intro o j m F u N;have hlt:i<ops.size:=(ar.1 m).1;have n:=au.1 f i (aV.2 hlt);simp only[m]at n;have x:=au.1 n j (aV.2 F);simp only[u,bG,bX,dg,ak,bJ,decide_eq_true_eq,beq_iff_eq]at x;obtain⟨e,K,⟨L,H⟩,O⟩:=x;have y:=N e K L;rcases O with rfl|⟨z,p⟩
   .exact y
   .have A:e.on<ops.size:=by omega
    have B:ops[e.on]?=Sa ops[e.on]:=by simp[A]
    exact M e.on H ops[e.on] j B z p (fun Q I J=>d e.on _ Q B y I J)
 refine⟨l,?_⟩;intro c d j i o m W C q;have n:=g j o m;rw[ak]at n;have x:=n.2;simp only[bJ,decide_eq_true_eq]at x;have Y:=x.resolve_left (by omega);exact E c d j o i m C (au.1 Y i (aV.2 C)) q
theorem zY2(D:qH4 ops k):∀(l:List Oper) (j:Nat) (e e':Env Γ.St) (d:Nat) (c:Array Bool) (a:Act) (w:World),
  k<=j->ops.toList.drop j=l->zLH P G ops l e e'->c.size=ops.size->(∀i,i<ops.size->c.getD i Sb=decide (i<j))->Inv Γ G w0 F0 O0 a w e->l.length<=d->
  (∀a w,Inv Γ G w0 F0 O0 a w e'->g .normal a w)->wpAny P .any ops g d c a w:=by
 intro l
 induction l with
 |nil=>
  intro j e e' d c a w E F Q z q p f M;cases Q;have W:ops.size<=j:=by simpa using F
  have Y:Aj .any ops c=[]:=by
   apply bw.2
   grind[mem_ready,Array.getElem?_eq_some_iff]
  grind[wpAny_done]
 |cons o A Z=>
  intro j e e' d c a w E F Q z q p f M
  cases Q with
  |cons H Q=>
   rename_i e1
   have m:ops[j]?=Sa o:=by
    have:(ops.toList.drop j)[0]?=Sa o:=by rw[F];rfl
    grind
   have N:j<ops.size:=(ar.1 m).1;have r:ops.toList.drop (j+1)=A:=by grind[Am]
   cases d with
   |zero=>simp at f
   |succ d=>
    have t:∀(i:Nat) (o:Oper) (e:Edge),ops[i]?=Sa o->c.getD i Sb=Sb->e∈o.after->Ab .any e=Sb->c.getD e.on Sb=true:=by
     intro i B u C ab x I;have hlt:i<ops.size:=(ar.1 C).1;have J:=D.edge i B u C x I
     grind
    refine⟨fun Y=>?_,?_⟩
    .exfalso
     have:j∈Aj .any ops c:=by
      rw[mem_ready];refine⟨by grind,o,m,?_⟩;intro u x I;have J:=D.edge j o u m x I
      grind
     grind
    .intro i C;obtain⟨ad,B,O,K⟩:=mem_ready.1 C;have hlt:i<ops.size:=(ar.1 O).1;have ag:j<=i:=by grind
     have n:∀u,u∈B.after->Ab .any u=Sb->c.getD u.on Sb=true:=by
      grind
     have L:i=j:=by
      rcases a8 j i with h|h
      .exfalso;have:=D.last (fun k=>c.getD k Sb=Sb) t i j B O (by omega) h n
       grind
      .omega
     subst L;refine zRM m H p ?_;intro a' w' y;refine Z (i+1) e1 e' d _ a' w' (by omega) r Q (by simpa using z) ?_ y (by simpa using f) M
     grind[vX]
theorem zHb(hi:i<k):(ops.extract 0 k)[i]?=ops[i]? :=by
 grind
theorem zVp(hi:i<k)(d:zIQ ops k=Sb)(h:wpOp P (ops.extract 0 k) g i j a w):wpOp P ops g i j a w:=by
 unfold wpOp at*
 rw[zHb hi]at h
 cases f:ops[i]? with
 |none=>grind
 |some o=>
  rw[f]at h;simp only at h ⊢
  have m:Ak o (yielded (ops.extract 0 k) a.tmps)=Ak o (yielded ops a.tmps):=by
   unfold Ak
   cases Q:o.guard with
   |none=>rfl
   |some l=>obtain⟨K,c⟩:=l;have n:=au.1 d i (aV.2 hi);simp_all[decide_eq_true_eq,zHb,yielded]
  grind
theorem zWJ(hm:k<=ops.size)(L:zTo (ops.extract 0 k))(Y:zJR ops k=Sb)(a1:zIQ ops k=Sb)(hS:qK Γ P G S){p:Nat->Γ.St}{e1 e':Env Γ.St}(x:∀(i:Nat) (o:Oper),(ops.extract 0 k)[i]?=Sa o->zGE P G S (ops.extract 0 k) e1 (p i) o (p (i+1)))(a2:p k=e1.st)(u:zLH P G ops (ops.toList.drop k) e1 e')(hQ:∀a w,Inv Γ G w0 F0 O0 a w e'->g .normal a w):∀(d:Nat) (c:Array Bool) (a:Act) (w:World),c.size=ops.size->
  c.count Sd<=d->(∀i,k<=i->i<ops.size->c.getD i Sb=Sd)->
  (∀(i:Nat) (o:Oper) (e:Edge),ops[i]?=Sa o->c.getD i Sb=Sb->e∈o.after->Ab .any e=Sb->c.getD e.on Sb=Sb)->
  (∃F O β al m,qDc Γ G w0 F0 O0 (ops.extract 0 k) e1 p (c.extract 0 k) a w F O β al m)->wpAny P .any ops g d c a w:=by
 have bs:(ops.extract 0 k).size=k:=by simp;omega
 have Z:∀(c:Array Bool) (i:Nat),i<k->(c.extract 0 k).getD i Sb=c.getD i true:=by
  intro c i hi;simp
  grind
 have y:∀(c:Array Bool) (a:Act) (w:World),(∀i,i<k->c.getD i Sb=Sb)->(∃F O β al m,qDc Γ G w0 F0 O0 (ops.extract 0 k) e1 p (c.extract 0 k) a w F O β al m)->Inv Γ G w0 F0 O0 a w e1:=by
  rintro c a w f ⟨F,O,β,al,m,r⟩
  have ab:∀t,zL3 (ops.extract 0 k) (c.extract 0 k) t:=fun t i o ho M=>by
   grind
  have b0:∀q,m+q<=k->p (m+q)=p m:=by
   intro q
   induction q with
   |zero=>intro _;rfl
   |succ q ih=>
    intro hq;have hlt:m+q< (ops.extract 0 k).size:=by omega
    have hj:(ops.extract 0 k)[m+q]?=Sa (ops.extract 0 k)[m+q]:=by grind
    have b1:isCall (ops.extract 0 k)[m+q]=false:=by
     cases hc:isCall (ops.extract 0 k)[m+q]with
     |false=>rfl
     |true=>have:=(r.calls _ _ hj hc).1 (by grind);omega
    rw[<-ih (by omega)];rcases x (m+q) _ hj with⟨_,r',bk,N,_,_⟩|⟨_,N,_⟩
    all_goals grind[Nat.add_assoc,zC6,zPz]
  have bn:=r.mle
  have ad:p m=e1.st:=by
   grind[Nat.add_sub_cancel']
  refine Inv.of (al:=al) (by rw[<-ad];exact r.core) r.g r.size r.defers (fun t=>r.tm t (ab t)) ?_ r.lp;intro s cs ag;have ha:=r.vk s cs ag (ab s);exact⟨ha,r.var s cs ag ha⟩
 have B:∀(d:Nat) (c:Array Bool) (a:Act) (w:World),c.size=ops.size->c.count Sd<=d->(∀i,k<=i->i<ops.size->c.getD i Sb=Sd)->
   (∀i,i<k->c.getD i Sb=Sb)->Inv Γ G w0 F0 O0 a w e1->wpAny P .any ops g d c a w:=by
  intro d c a w A z C f an;by_cases H:k=ops.size
  .have ao:ops.toList.drop k=[]:=by rw[H];simp
   rw[ao]at u;cases u
   have hr:Aj .any ops c=[]:=by
    apply bw.2
    grind[mem_ready,Array.getElem?_eq_some_iff]
   grind[wpAny_done]
  .have l:=qAX Y H;refine zY2 l _ k e1 e' d c a w (aj _) rfl u A ?_ an ?_ hQ
   .grind
   .have b2:(ops.toList.drop k).length<=c.count false:=by
     have h1:c=c.extract 0 k++c.extract k c.size:=by
      apply zRv;intro i;rw[Array.getElem?_append];simp only[Array.size_extract,cV]
      grind
     have h2:c.extract k c.size=Ad (c.size-k) false:=by
      apply zRv;intro i;rw[cV,bN];by_cases hi:i<c.size-k
      .rw[if_pos (by omega),if_pos hi];have:=C (k+i) (by omega) (by omega);rw[aT,aD (by omega),cZ]at this;rw[aD (by omega),this]
      grind
     rw[h1,Array.count_append,h2];simp;omega
    omega
 intro d
 induction d with
 |zero=>
  intro c a w A z C D r
  have f:∀i,i<k->c.getD i Sb=true:=by
   intro i hi
   cases M:c.getD i Sb with
   |true=>rfl
   |false=>
    exfalso;have h0:c.count Sd=0:=by omega
    rw[dH]at h0;apply h0;have h:i<c.size:=by omega
    simp[h]at M
    grind
  exact B 0 c a w A z C f (y c a w f r)
 |succ d ih=>
  intro c a w A z C D r;by_cases f:∀i,i<k->c.getD i Sb=Sb
  .exact B (d+1) c a w A z C f (y c a w f r)
  .have ap:∃i,i<k/\c.getD i Sb=Sd/\∀j,j<i->c.getD j Sb=true:=by
    have:∀n,n<=k->(∀i,i<n->c.getD i Sb=Sb)\/∃i,i<n/\c.getD i Sb=Sd/\∀j,j<i->c.getD j Sb=true:=by
     intro n
     induction n with
     |zero=>grind
     |succ n a3=>
      intro hn;rcases a3 (by omega)with h|⟨i,h1,h2,h3⟩
      .cases M:c.getD n Sb with
       |true=>grind
       |false=>grind
      grind
    rcases this k (aj _)with h|⟨i,h1,h2,h3⟩
    all_goals grind
   obtain⟨W,b3,av,bo⟩:=ap;refine⟨fun hr=>?_,?_⟩
   .exfalso;have hlt:W<ops.size:=by omega
    have:W∈Aj .any ops c:=by
     rw[mem_ready];refine⟨av,ops[W],by simp[hlt],?_⟩;intro I J hb;have a4:=L.edge W ops[W] I (by grind) J hb
     grind
    grind
   .intro i hi;obtain⟨a5,o,ho,a6⟩:=mem_ready.1 hi;have hlt:i<ops.size:=(ar.1 ho).1;have E:i<c.size:=by omega
    have K:∀I,I∈o.after->Ab .any I=Sb->c.getD I.on Sb=true:=by
     grind[Nat.lt_or_ge,qGm,Array.getD_eq_getD_getElem?,Array.getElem?_eq_none]
    have ax:i<k:=by
     rcases a8 i k with h|h
     .exact h
     .exfalso;have H:k≠ops.size:=by omega
      have l:=qAX Y H;have:=l.last (fun q=>c.getD q Sb=Sb) D i W o ho h (by omega) K
      grind
    obtain⟨F,O,β,al,m,r⟩:=r;refine zVp ax a1 ?_;refine zUA L hS x r (by simp;omega) ?_ (by rw[zHb ax];exact ho) (by grind) ?_ ?_
    .intro j oj I hj M J hb;have a9:j<k:=by grind
     have a4:=L.edge j oj I hj J hb;rw[Z c j a9]at M;rw[Z c I.on (by omega)]
     grind[zHb]
    .grind
    .intro a' w' F' O' β' bb m' ay
     have a0:(c.extract 0 k).setIfInBounds i Sb=(c.setIfInBounds i Sb).extract 0 k:=by
      apply zRv;intro q;rw[cV];by_cases hq:q=i
      .subst hq;rw[Array.getElem?_setIfInBounds_self_of_lt (by simp;omega),if_pos (by simp;omega)]
       grind
      .rw[bi (c8 hq),cV];simp only[Array.size_setIfInBounds,bz];rw[bi (c8 hq)]
     rw[a0]at ay;refine ih (c.setIfInBounds i Sb) a' w' (by simpa using A) ?_ ?_ ?_ ⟨F',O',β',bb,m',ay⟩
     .have be:c[i]=false:=by simpa[aT,E]using a5
      rw[Array.setIfInBounds_def,dif_pos E,Array.count_set E,be];simp;omega
     .intro q b4 b5;rw[vX _ _ _ E,if_neg (by omega)];grind
     .intro j oj I hj M J hb;rw[vX _ _ _ E]at M ⊢;split
      .rfl
      .by_cases cc:j=i;all_goals grind
theorem zU6(n:P.follows .mixedOrders=Sb)(Z:qK Γ P G S)(hi:Inv Γ G w0 F0 O0 a w e)(hk:k<=ops.size)(B:zJR ops k=Sb)(C:zIQ ops k=Sb){e1:Env Γ.St}(Q:zMP P G S (ops.extract 0 k) e=Sa e1)(D:zLH P G ops (ops.toList.drop k) e1 e')(hQ:∀a w,Inv Γ G w0 F0 O0 a w e'->g .normal a w):(Code.region i ops Sb).wp P g a w:=by
 .unfold zMP at Q;split at Q
  .rename_i E;have p:=zUm E;have H:=zTk p 0 (ops.extract 0 k).toList (by simp)
   have I:∀d,d∈qY (ops.extract 0 k).toList->(killAll (qY (ops.extract 0 k).toList) e).var d=none:=by
    intro d Y
    cases J:(killAll (qY (ops.extract 0 k).toList) e).var d with
    |none=>rfl
    |some z=>exact absurd ⟨z,J⟩ (zCc _ e d Y).1
   obtain⟨q,h0,hn,h,hg,J,hl⟩:=zI2 _ _ _ Q H I;have ab:(ops.extract 0 k).size=k:=by simp;omega
   have f:∀(id:Nat) (o:Oper),(ops.extract 0 k)[id]?=Sa o->zGE P G S (ops.extract 0 k) e1 (q id) o (q (id+1)):=fun id o A=>h id o (by grind);refine wp_region_any n ?_;obtain⟨F,O,β,hc,hG,ad,K,ht,ag⟩:=(hi.killAll (qY (ops.extract 0 k).toList)).drew (w.drawn+1) (cU _)
   have r:(Ad ops.size Sd).extract 0 k=Ad k false:=by
    grind
   have j:∀t,zL3 (ops.extract 0 k) (Ad k Sd) t->t ∉ qY (ops.extract 0 k).toList:=by
    intro t l u;simp only[qY,bu]at u;obtain⟨o,L,Y⟩:=u;obtain⟨id,M,rfl⟩:=aB L;have c:id< (ops.extract 0 k).size:=by simpa using M
    refine l id (ops.extract 0 k)[id] (aD c) (by simp_all) (by grind)
   refine zWJ hk p B C Z f (by grind) D hQ ops.size _ a _ (by simp) (by simp) ?_ ?_ ⟨F,O,β,zT (killAll (qY (ops.extract 0 k).toList) e),0,?_⟩
   .simp_all
   .intro id o ed A x;have c:id<ops.size:=(ar.1 A).1;simp[c]at x
   .rw[r];refine⟨by rw[h0];exact hc,hG,by omega,K,?_,?_,?_,?_,?_,a7 _,?_⟩
    .grind
    .intro s z m N;obtain⟨W,y⟩:=N
     grind
    .intro s N;obtain⟨W,y⟩:=N
     grind
    .intro s z m l;rw[J s (j s l)]at m;exact⟨z,m⟩
    .grind[zCc,Array.mem_of_getElem?,qY]
    .intro id o A _;have c:id< (ops.extract 0 k).size:=(ar.1 A).1;have:id<k:=by omega
     simp[this]
  .cases Q
theorem zU7(d:P.follows .mixedOrders=Sb)(id:qK Γ P G S)(hi:Inv Γ G w0 F0 O0 a w e)(j:k<=ops.size)(f:zJR ops k=Sb)(Q:zIQ ops k=Sb)(c:zOl P G S ops k e=Sa e')(l:∀a w,Inv Γ G w0 F0 O0 a w e'->g .normal a w):(Code.region i ops Sb).wp P g a w:=by
 unfold zOl at c;split at c
 .rename_i m h;exact zU6 d id hi j f Q h (qA7 id c) l
 .cases c
theorem qCS(f:P.follows .mixedOrders=Sb)(Q:qK Γ P G S)(hi:Inv Γ G w0 F0 O0 a w e)(c:zLc P G S ops e=Sa e')(h:∀a w,Inv Γ G w0 F0 O0 a w e'->g .normal a w):(Code.region i ops Sb).wp P g a w:=by
 unfold zLc at c;split at c
 .rename_i d;simp at d;obtain⟨⟨id,j⟩,l⟩:=d;split at c
  .grind[Option.some.injEq,zU7]
  .exact zU7 f Q (Inv.frzOps _ _ hi) id j l c h
 .cases c
end
inductive X where
 |normal
 |exit (id:Nat)
 |ret
def X.toExit:X->Exit
 |.normal=>.normal
 |.exit id=>.exit id
 |.ret=>.ret
def X.out(id:Nat):X->X
 |.exit a=>if a=id then .normal else .exit a
 |x=>x
section
variable {Γ:Sig}(P:j9)(G:Nat->Option (List V))(S:vG Γ)
inductive Ev:Code->Env Γ.St->X->Env Γ.St->Prop
 |skip (e):Ev .skip e .normal e
 |seqN {x y:Code} {e e1 e2:Env Γ.St} {k:X} :Ev x e .normal e1->Ev y e1 k e2->Ev (.seq x y) e k e2
 |seqX {x y:Code} {e e1:Env Γ.St} {k:X} :Ev x e k e1->k≠ .normal->Ev (.seq x y) e k e1
 |condT {c:Operand} {x y:Code} {e e1:Env Γ.St} {k:X} :evx G e c=.p (.val (.bool Sb))->Ev x e k e1->Ev (.cond c x y) e k e1
 |condF {c:Operand} {x y:Code} {e e1:Env Γ.St} {k:X} :evx G e c=.p (.val (.bool Sd))->Ev y e k e1->Ev (.cond c x y) e k e1
 |block {id:Nat} {c:Code} {e e1:Env Γ.St} {k:X} :Ev c e k e1->Ev (.block id c) e (k.out id) e1
 |loop {c:Code} {e e1:Env Γ.St} {k:X} (n:Nat) (es:Nat->Env Γ.St):es 0=e->(∀i,i<n->Ev c (es i) .normal (es (i+1)))->Ev c (es n) k e1->k≠ .normal->Ev (.loop c) e k e1
 |exit (id:Nat) (e):Ev (.exit id) e (.exit id) e
 |ret (e):Ev .ret e .ret e
 |seqR {id:Nat} {ops:Array Oper} {e e1:Env Γ.St} :zQq P G S ops ops.toList e=Sa e1->Ev (.region id ops Sd) e .normal e1
 |drawR {id:Nat} {ops:Array Oper} {e e1:Env Γ.St} :zLc P G S ops e=Sa e1->Ev (.region id ops Sb) e .normal e1
end
section
variable {Γ:Sig}{P:Program}{G:Nat->Option (List V)}{S:vG Γ}{w0:World}{F0:Blk->Prop}{O0:zAf}
theorem qBK{c:Code}{Q:Exit->Act->World->Prop}(J:Nat->Act->World->Prop)
  (round:∀n a w,J n a w->c.wp P (Exit.then (fun a' w'=>∃m,m<n/\J m a' w') Q) a w) {n:Nat} {a:Act} {w:World} (t:J n a w):(Code.loop c).wp P Q a w:=by
 intro b k j
 have p:∀n a w,J n a w->∃e a' w',Q e a' w'/\Arrives P (lone (b.at a (.code c:: .inLoop c::k)) j w) b k j e a' w':=by
  intro n
  induction n using Nat.strongRecOn with
  |_ n u=>
   intro a w y;obtain⟨e,h,i,f,d⟩:=round n a w y b (.inLoop c::k) j
   cases e with
   |normal=>
    obtain⟨m,hlt,q⟩:=f;obtain⟨z,A,B,r,g⟩:=u m hlt h i q;exact⟨z,A,B,r,.of_steps (Steps.trans d (.one step_inLoop)) g⟩
   |exit id=>exact⟨_,h,i,f,.pass (x:=.inLoop c) rfl (fun _ _=>.inl (by simp)) d⟩
   |goto l=>exact⟨_,h,i,f,.pass (x:=.inLoop c) rfl (fun _ _=>.inl (by simp)) d⟩
   |ret=>exact⟨_,h,i,f,.pass (x:=.inLoop c) rfl (fun _ _=>.inl (by simp)) d⟩
   |panic C=>exact⟨_,h,i,f,.pass (x:=.inLoop c) rfl (fun _ _=>.inl (by simp)) d⟩
   |outgrown=>exact⟨_,h,i,f,.pass (x:=.inLoop c) rfl (fun _ _=>.inl (by simp)) d⟩
 obtain⟨e,a',w',f,d⟩:=p n a w t;exact⟨e,a',w',f,.of_steps (.one step_loop) d⟩
theorem qHt(N:P.follows .mixedOrders=Sb)(M:qK Γ P G S){c:Code}{e e':Env Γ.St}{k:X}(h:Ev P G S c e k e'):∀{a:Act} {w:World},Inv Γ G w0 F0 O0 a w e->
  c.wp P (fun m a' w'=>m=k.toExit/\Inv Γ G w0 F0 O0 a' w' e') a w:=by
 induction h with
 |skip e=>intro a w f;exact wp_skip ⟨rfl,f⟩
 |seqN C q d r=>
  intro a w f;refine wp_seq (wp_mono (d f) ?_);rintro m a' w' ⟨rfl,g⟩;exact r g
 |seqX C I d=>
  rename_i x y p t k;intro a w f;refine wp_seq (wp_mono (d f) ?_);rintro m a' w' ⟨rfl,g⟩
  cases k with
  |normal=>grind
  |exit id=>exact⟨rfl,g⟩
  |ret=>exact⟨rfl,g⟩
 |condT J C d=>
  rename_i K W Y p t Z;intro a w f;obtain⟨F,O,β,u,D,z,A,E,L⟩:=f;have q:=uX (e:=p) D E K;rw[J]at q;exact wp_cond_true (Rd.eq_val q) (d ⟨F,O,β,u,D,z,A,E,L⟩)
 |condF J C d=>
  rename_i K W Y p t Z;intro a w f;obtain⟨F,O,β,u,D,z,A,E,L⟩:=f;have q:=uX (e:=p) D E K;rw[J]at q;exact wp_cond_false (Rd.eq_val q) (d ⟨F,O,β,u,D,z,A,E,L⟩)
 |block C d=>
  rename_i id c p t k;intro a w f;refine wp_block (wp_mono (d f) ?_);rintro m a' w' ⟨rfl,g⟩
  cases k with
  |normal=>exact⟨rfl,g⟩
  |exit ab=>
   simp[X.toExit,Exit.inBlock,X.out]
   grind
  |ret=>exact⟨rfl,g⟩
 |loop n es h0 C q I d r=>
  rename_i c p t k;intro a w f;refine qBK (fun j a w=>∃i,i+j=n/\Inv Γ G w0 F0 O0 a w (es i)) ?_ (n:=n) ⟨0,by omega,by rw[h0];exact f⟩;rintro j a w ⟨i,ad,g⟩;by_cases hlt:i<n
  .refine wp_mono (d i hlt g) ?_;rintro m a' w' ⟨rfl,l⟩;exact⟨j-1,by omega,i+1,by omega,l⟩
  .obtain rfl:i=n:=by omega
   refine wp_mono (r g) ?_;rintro m a' w' ⟨rfl,l⟩
   cases k with
   |normal=>grind
   |exit id=>exact⟨rfl,l⟩
   |ret=>exact⟨rfl,l⟩
 |exit id e=>intro a w f;exact wp_exit ⟨rfl,f⟩
 |ret e=>intro a w f;exact wp_ret ⟨rfl,f⟩
 |seqR B=>
  rename_i id H p t;intro a w f;refine wp_region ?_;have:=qA6 (Q:=fun m a' w'=>m=X.toExit .normal/\Inv Γ G w0 F0 O0 a' w' t) H 0 H.toList p t a w (by simp) (qA7 M B) f (fun a w h=>⟨rfl,h⟩)
  grind[List.range_eq_range']
 |drawR B=>intro a w f;exact qCS N M f B (fun a w h=>⟨rfl,h⟩)
end
section
variable {St:Type}(P:j9)(e:Env St)
def zYM:List T->Option (List V)
 |[]=>Sa []
 |x::r=>match zKJ e x,zYM r with
  |some d,Sa c=>Sa (d::c)
  |_,_=>Sc
def zVL(t:TypeId):T->Option V
 |.p (.pp d)=>ldV P t d
 |.lp s c=>match e.var s with
  |some d=>match zGs P t with
   |some Sb=>match wE P t with
    |some n=>if n<=(d.drop c).length then(zYM e ((d.drop c).take n)).map .agg else Sc
    |none=>Sc
   |some Sd=>match(d.drop c).head? with
    |some x=>zKJ e x
    |none=>Sc
   |none=>Sc
  |none=>Sc
 |_=>Sc
def qDM:ResultVar->Option V
 |.tmp t=>zKJ e (e.get t)
 |.cell t c=>zVL P e c (e.get t)
def zHT:List ResultVar->Option (List V)
 |[]=>Sa []
 |x::r=>match qDM P e x,zHT r with
  |some d,Sa c=>Sa (d::c)
  |_,_=>Sc
def zD2(fn:Func):Option RV:=
 match fn.results.toList with
 |[.tmp t]=>match e.get t with
  |.emp=>Sa (.own [])
  |.ow _ _ []=>Sa (.p (.sl []))
  |.ow _ _ (x::c)=>Sa (.own (x::c))
  |.ot _ t d=>Sa (.ownT t d)
  |x=>(zKJ e x).map .p
 |[r]=>(qDM P e r).map .p
 |f=>(zHT P e f).map (fun g=>.p (.tup g))
end
def zIw(n:Nat)(ds:List V):List T:=ds.map .p++An (n-ds.length) (.p (.val undef))
def start{St:Type}(n:Nat)(s:St)(ds:List V):Env St:= { tm:=zIw n ds,vars:=An n Sc,st:=s }
section
variable {Γ:Sig}{P:Program}{G:Nat->Option (List V)}{S:vG Γ}{e:Env Γ.St}{a:Act}{w:World}{F:Blk->Prop}{β:Lay}{al:v8->Prop}
theorem qC4(c:∀s cs,e.var s=Sa cs->al (.v s)->vA w F β al (β.vb s) cs):∀(xs:List T) (vs:List Value) (ds:List V),xs.length=vs.length->
  (∀(i:Nat) (v:Value) (x:T),vs[i]?=Sa v->xs[i]?=Sa x->zX w F β al v x)->zYM e xs=Sa ds->
  vs.length=ds.length/\∀(i:Nat) (v:Value) (d:V),vs[i]?=Sa v->ds[i]?=Sa d->Rd w (Fal F β al) v d:=by
 intro xs
 induction xs with
 |nil=>
  intro vs ds f _ h;simp[zYM]at h;grind
 |cons x xs n=>
  intro vs ds f k h
  cases vs with
  |nil=>simp at f
  |cons v vs=>
   simp only[zYM]at h;split at h
   .rename_i d g p j;cases h;obtain⟨q,z⟩:=n vs g (by simpa using f) (fun i v x r t=>k (i+1) v x (by simpa using r) (by simpa using t)) j;refine⟨by simpa using q,?_⟩;intro i u y l m
    cases i with
    |zero=>simp at l m;subst l m;exact(zKI c (k 0 v x rfl rfl) p).1
    |succ i=>grind
   .cases h
theorem zXx(f:∀s cs,e.var s=Sa cs->al (.v s)->vA w F β al (β.vb s) cs){t:TypeId}{x:T}{v:Value}{d:V}
  (l:zX w F β al v x) (h:zVL P e t x=Sa d):∃B u,v=.pointer (Sa B)/\(loadVar t B).run P w=.ok u w/\Rd w (Fal F β al) u d:=by
 unfold zVL at h;split at h
 .rename_i cs
  cases l with
  |pp b c cs g Q q H=>
   obtain⟨u,r,p⟩:=zRm (P:=P) q H h;refine⟨⟨b,c,Sc⟩,u,rfl,?_,p.mono (fun b I=>.inl I) (fun _ _=>rfl)⟩
   grind[Al,Ae]
 .rename_i s c;obtain⟨J,rfl⟩:=l;split at h
  .rename_i cs y;have C:=f s cs y J;split at h
   .rename_i j;split at h
    .rename_i n K;split at h
     .rename_i z;simp at h;obtain⟨D,A,rfl⟩:=h;simp at z;let g:Nat->Value:=fun m=>(w.cell? ⟨β.vb s,c+m,Sc⟩).getD undef
      have q:∀m,m<n->w.cell? ⟨β.vb s,c+m,Sc⟩=Sa (g m)/\∀x,((cs.drop c).take n)[m]?=Sa x->zX w F β al (g m) x:=fun m E=>by
       obtain⟨x,r,p⟩:=C.at (c+m) (by omega)
       grind
      have k:=zGd (P:=P) j K (fun m E=>(q m E).1)
      obtain⟨L,M⟩:=qC4 f ((cs.drop c).take n) ((Ai n).map g) D (by simp;omega) (by
       grind) A
      refine⟨_,_,rfl,by simpa[Al,Ae]using k,?_⟩;exact Rd.agg _ D (by simpa using L) (fun i x d N O=>M i x d (by simpa using N) O)
     .cases h
    .cases h
   .rename_i j;split at h
    .rename_i x l
     have hlt:c<cs.length:=by
      grind[Nat.lt_or_ge,List.drop_eq_nil_of_le]
     rw[List.head?_drop,ah hlt,ac]at l;subst l;obtain⟨x,r,p⟩:=C.at c hlt;have k:=zCk (P:=P) j r;exact⟨_,x,rfl,by grind[Al,Ae],(zKI f p h).1⟩
    .cases h
   .cases h
  .cases h
 .cases h
def zUu(tmps:Array Value):ResultVar->Sem Value
 |.tmp t=>pure (tmps.getD t undef)
 |.cell x t=>do loadVar t (<-asAddr (tmps.getD x undef))
theorem zMv(fn:Func)(tmps:Array Value):results fn tmps=(do
  let vs<-fn.results.mapM (zUu tmps)
  pure (if h:vs.size=1 then vs[0]else .tuple vs)):=by
 unfold results;congr 1
theorem qDL(c:∀s cs,e.var s=Sa cs->al (.v s)->vA w F β al (β.vb s) cs)(f:∀t,zX w F β al (a.tmps.getD t undef) (e.get t)){r:ResultVar}{d:V}
  (h:qDM P e r=Sa d):∃u,(zUu a.tmps r).run P w=.ok u w/\Rd w (Fal F β al) u d:=by
 cases r with
 |tmp t=>exact⟨_,rfl,(zKI c (f t) h).1⟩
 |cell t g=>
  obtain⟨i,u,j,k,l⟩:=zXx (P:=P) c (f t) h
  grind[Af,Ah,Ac,zUu,asAddr]
theorem zKV(c:∀s cs,e.var s=Sa cs->al (.v s)->vA w F β al (β.vb s) cs)(k:∀t,zX w F β al (a.tmps.getD t undef) (e.get t)):∀(f:List ResultVar) (ds:List V),
  zHT P e f=Sa ds->∃us,(f.mapM (zUu a.tmps)).run P w=.ok us w/\us.length=ds.length/\
   ∀(i:Nat) (v:Value) (d:V),us[i]?=Sa v->ds[i]?=Sa d->Rd w (Fal F β al) v d:=by
 intro f
 induction f with
 |nil=>intro ds h;simp[zHT]at h;simp_all
 |cons r f l=>
  intro ds h;simp only[zHT]at h;split at h
  .rename_i d g m j;cases h;obtain⟨u,p,q⟩:=qDL (P:=P) c k m;obtain⟨us,x,n,y⟩:=l g j;refine⟨u::us,?_,by simpa using n,?_⟩;all_goals grind[Af,Ac,Ah]
  .cases h
theorem zPy{j:World}{W:Blk->Prop}{K:zAf}(ay:K.l=Sc)(hi:Inv Γ G j W K a w e){fn:Func}{r:RV}(h:zD2 P e fn=Sa r):
  ∃(v:Value) (F':Blk->Prop) (O':Nat->Prop),(results fn a.tmps).run P w=.ok v w/\Γ.R e.st F' O' w/\xI K.o j w/\(∀b,O' b->K.o b\/j.heap.size<=b)/\zB1 Γ.wk j.heap.size W F'/\
   (∀b:Nat,F' b->(W b\/j.heap.size<=b)/\b<w.heap.size/\¬O' b)/\zAX j.heap.size w F' O' v r:=by
 obtain⟨F,O,β,c,hG,a1,a2,ht,hv⟩:=hi;have f:xI K.o j w:=⟨c.keep.os,c.keep.tape,c.keep.output,c.keep.size,fun b hb ho=>c.keep.block b hb (fun h=>h.elim ho (fun⟨n,h⟩=>by grind)),c.keep.drawn⟩
 have q:∀x b,zY0 j K x b->j.heap.size<=b:=fun x b h=>h.elim (fun h=>h.2) (fun⟨_,n,h⟩=>by grind);have y:∀s cs,e.var s=Sa cs->zT e (.v s)->vA w F β (zT e) (β.vb s) cs:=fun s cs an _=>hv s cs an
 have L:∀b:Nat,Fal F β (zT e) b->(W b\/j.heap.size<=b)/\b<w.heap.size/\¬O b:=by
  rintro b (hb|⟨x,z,Y⟩)
  .exact c.fin b hb
  .have Y:=zCA Y;subst Y;obtain⟨Z,M,h3,h4⟩:=c.place x z
   grind
 have A:Γ.R e.st (Fal F β (zT e)) O w:=Γ.mono c.sig (fun x z=>⟨fun h=>h.elim (fun h=>h) (fun⟨_,_,h⟩=>by subst h;cases z),.inl⟩) (fun _ _=>rfl) (fun _ _ h=>⟨.inl h,rfl⟩);have B:zB1 Γ.wk j.heap.size W (Fal F β (zT e)):=c.f0.trans ⟨fun _ h=>.inl h,fun _ h=>h.elim .inl (fun⟨_,_,h⟩=>by cases h)⟩ (aj _)
 have C:∀D,(fn.results.toList.mapM (zUu a.tmps)).run P w=.ok D w->
   (results fn a.tmps).run P w=.ok (if h:D.length=1 then D[0]else .tuple D.toArray) w:=by
  grind[zMv,Array.mapM_eq_mapM_toList,Af,Sem.run_map,Ac,Ah]
 have N:∀(v:Value) (d:V),(results fn a.tmps).run P w=.ok v w->Rd w (Fal F β (zT e)) v d->
   ∃(v:Value) (F':Blk->Prop) (O':Nat->Prop),(results fn a.tmps).run P w=.ok v w/\Γ.R e.st F' O' w/\xI K.o j w/\(∀b,O' b->K.o b\/j.heap.size<=b)/\zB1 Γ.wk j.heap.size W F'/\
   (∀b:Nat,F' b->(W b\/j.heap.size<=b)/\b<w.heap.size/\¬O' b)/\zAX j.heap.size w F' O' v (.p d):=
  fun v d Z M=>⟨v,Fal F β (zT e),O,Z,A,f,c.oin,B,L,M⟩
 have ad:∀r0,fn.results.toList=[r0]->∀d,qDM P e r0=Sa d->∃v,(results fn a.tmps).run P w=.ok v w/\Rd w (Fal F β (zT e)) v d:=by
  intro r0 hr d hd;obtain⟨D,Z,M,h3⟩:=zKV (P:=P) y ht [r0] [d] (by simp[zHT,hd])
  cases D with
  |nil=>simp at M
  |cons u D=>
   cases D with
   |cons _ _=>simp at M
   |nil=>have:=C [u] (by rw[hr];exact Z);exact⟨u,by simpa using this,h3 0 u d rfl rfl⟩
 unfold zD2 at h;split at h
 .rename_i t E;have g:(results fn a.tmps).run P w=.ok (a.tmps.getD t undef) w:=by have:=C [a.tmps.getD t undef] (by rw[E];rfl);simpa using this
  have Q:=ht t;split at h
  .rename_i z;cases h;rw[z]at Q;obtain⟨a0,ao⟩:=Q;exact⟨_,Fal F β (zT e),O,g,A,f,c.oin,B,L,.inl ⟨rfl,a0,ao⟩⟩
  .rename_i id k z;cases h;rw[z]at Q;obtain⟨ha,J,H,m⟩:=Q;exact N _ _ g (by rw[H];exact .slemp _ _)
  .rename_i id k x es z;cases h;rw[z]at Q;obtain⟨ha,J,H,m⟩:=Q;obtain⟨p1,p2,p3,p4⟩:=c.place (.o id) ha;refine⟨_,F,O,g,c.sig,f,c.oin,c.f0,c.fin,.inr ⟨by simp,β.ob id,J,H,q _ _ p1,p2,p3,p4,k,m⟩⟩
  .rename_i id t xs z;cases h;rw[z]at Q;rcases Q with⟨h0,a0,ap⟩|⟨ab,ha,J,H,m⟩
   .exact⟨_,F,O,g,c.sig,f,c.oin,c.f0,c.fin,.inl ⟨h0,a0,ap⟩⟩
   .obtain⟨p1,p2,p3,p4⟩:=c.place (.o id) ha;exact⟨_,F,O,g,c.sig,f,c.oin,c.f0,c.fin,.inr ⟨ab,β.ob id,J,H,q _ _ p1,p2,p3,p4,t.size,m⟩⟩
  .simp at h;obtain⟨d,hd,rfl⟩:=h;obtain⟨v,Z,M⟩:=ad _ E d hd
   grind
 .rename_i r0 _ E;simp at h
  grind
 .rename_i a3 av;simp at h;obtain⟨ds,ag,rfl⟩:=h;obtain⟨D,Z,M,h3⟩:=zKV (P:=P) y ht _ ds ag;have I:=C D Z
  have ab:D.length≠1:=by
   intro hl
   have al:∀(l:List ResultVar) (ds:List V),zHT P e l=Sa ds->ds.length=l.length:=by
    intro l
    induction l with
    |nil=>grind[zHT]
    |cons r l ih=>
     grind[Option.some.injEq,zHT]
   have:=al _ ds ag
   match ax:fn.results.toList with
   |[]=>grind
   |[r0]=>exact av r0 ax
   |_::_::_=>grind
  rw[dif_neg ab]at I;exact N _ _ I (.tup _ ds (by simpa using M) (fun i x d hi hd=>h3 i x d (by simpa using hi) hd))
theorem zZZ[Calm Γ](hm:P.follows .mixedOrders=Sb)(hS:qK Γ P G S){f:FuncId}{fn:Func}{c:Code}(hf:P.funcs[f]?=Sa fn)(m:fn.body=Sa c)
  {i:Γ.St->List V->Option (Γ.St×RV)}
  (h:∀s ds B r,i s ds=Sa (B,r)->∃k e',Ev P G S c (start fn.ntmps s ds) k e'/\(k=.normal\/k=.ret)/\e'.st=B/\zD2 P e' fn=Sa r):jK Γ P G f i:=by
 refine zL4.calm ?_;intro w F O s d ds B r p hG hF q E j;obtain⟨k,e',H,hk,I,u⟩:=h s ds B r j;refine calls_of_wp hf m ?_
 have vC:∀t,zX w F ⟨fun _=>0,fun _=>0⟩ (fun _=>False) ((d++Ad (fn.ntmps-d.size) undef).getD t undef) ((start fn.ntmps s ds).get t):=by
  intro t;simp[start,zIw,Env.get];by_cases J:t<ds.length
  .rw[aS (by simpa using J),bf (by omega)];rw[aA,ah J,aD (by omega)];exact E t _ _ (by grind) (by simp[J])
  .rw[aF (by grind),bt (by omega),q];simp;by_cases l:t-ds.length<fn.ntmps-ds.length
   .rw[ba,if_pos l,bN,if_pos l];exact Rd.val _
   .rw[ba,if_neg l];trivial
 have C:∀s0,(start fn.ntmps s ds).var s0=none:=by
  grind[start,Env.var]
 have z:Inv Γ G w F O { tmps:=d++Ad (fn.ntmps-d.size) undef,defers:=[] } w (start fn.ntmps s ds):=by refine Inv.of (F:=F) (O:=O) (β:=⟨fun _=>0,fun _=>0⟩) (al:=fun _=>False) ⟨xI.refl _ w,p,fun b m=>.inl m,fun b m=>⟨.inl m,hF b m⟩,.refl _ _,fun x K=>K.elim,fun x y K=>K.elim,fun b n h=>by cases h⟩ hG ?_ rfl vC ?_ (fun s h=>h.elim);all_goals grind[start,zIw]
 refine wp_mono (qHt hm hS H z) ?_;rintro ex a' w' ⟨rfl,A⟩;obtain⟨v,M,N,Q,l,W,Y,Z,h6,h7⟩:=zPy rfl A u;have g:a'.defers=[]:=by obtain⟨_,_,_,_,_,_,g,_⟩:=A;exact g
 rw[I]at l;rcases hk with rfl|rfl
 .exact⟨g,v,Q,v,M,N,rfl,l,W,Y,Z,h6,h7⟩
 .exact⟨g,v,Q,v,M,N,rfl,l,W,Y,Z,h6,h7⟩
end
section
variable {Γ:Sig}(P:j9)(G:Nat->Option (List V))(S:vG Γ)
def zAd:Nat->Code->Env Γ.St->Option (X×Env Γ.St)
 |0,_,_=>Sc
 |_+1,.skip,e=>Sa (.normal,e)
 |n+1,.seq x y,e=>match zAd n x e with
  |some (.normal,a)=>zAd n y a
  |r=>r
 |n+1,.cond c x y,e=>match evx G e c with
  |.p (.val (.bool Sb))=>zAd n x e
  |.p (.val (.bool Sd))=>zAd n y e
  |_=>Sc
 |n+1,.block id c,e=>match zAd n c e with
  |some (k,a)=>Sa (k.out id,a)
  |none=>Sc
 |n+1,.loop c,e=>match zAd n c e with
  |some (.normal,a)=>zAd n (.loop c) a
  |r=>r
 |_+1,.exit id,e=>Sa (.exit id,e)
 |_+1,.ret,e=>Sa (.ret,e)
 |_+1,.region _ d Sd,e=>match zQq P G S d d.toList e with
  |some a=>Sa (.normal,a)
  |none=>Sc
 |_+1,.region _ d Sb,e=>match zLc P G S d e with
  |some a=>Sa (.normal,a)
  |none=>Sc
 |_,_,_=>Sc
variable {P G S}
theorem Ev.loopStep{c:Code}{e e1 d:Env Γ.St}{k:X}(j:Ev P G S c e .normal e1)(f:Ev P G S (.loop c) e1 k d):Ev P G S (.loop c) e k d:=by
 cases f with
 |loop n g l m h a=>
  refine .loop (n+1) (fun i=>match i with|0=>e|i+1=>g i) rfl ?_ h a
  grind
theorem Ev.loopDone{c:Code}{e e1:Env Γ.St}{k:X}(d:Ev P G S c e k e1)(a:k≠ .normal):Ev P G S (.loop c) e k e1:=
 .loop 0 (fun _=>e) rfl (fun i f=>by omega) d a
theorem zSL:∀(n:Nat) (c:Code) (e e':Env Γ.St) (k:X),zAd P G S n c e=Sa (k,e')->Ev P G S c e k e':=by
 intro n
 induction n with
 |zero=>grind[zAd]
 |succ n d=>
  intro c e e' k h;cases c<;>(try simp only[zAd]at h)
  case skip=>simp at h;obtain⟨rfl,rfl⟩:=h;exact .skip e
  case region id l g=>
   cases g
   .simp only[zAd]at h;split at h
    .rename_i f a;simp at h;obtain⟨rfl,rfl⟩:=h;exact .seqR a
    .cases h
   .simp only[zAd]at h;split at h
    .rename_i f a;simp at h;obtain⟨rfl,rfl⟩:=h;exact .drawR a
    .cases h
  case seq x y=>
   split at h
   .rename_i f a;exact .seqN (d x e f .normal a) (d y f e' k h)
   .rename_i i;refine .seqX (d x e e' k h) ?_;simp_all
  case cond c x y=>
   split at h
   .rename_i j;exact .condT j (d x e e' k h)
   .rename_i j;exact .condF j (d y e e' k h)
   .cases h
  case block id c=>
   split at h
   .rename_i m f a;simp at h;obtain⟨rfl,rfl⟩:=h;exact .block (d c e f m a)
   .cases h
  case loop c=>
   split at h
   .rename_i f a;exact(d c e f .normal a).loopStep (d (.loop c) f e' k h)
   .rename_i i;refine(d c e e' k h).loopDone ?_;simp_all
  case exit id=>simp at h;obtain⟨rfl,rfl⟩:=h;exact .exit id e
  case ret=>simp at h;obtain⟨rfl,rfl⟩:=h;exact .ret e
  all_goals (cases h)
variable (P G S)
def zYi(n:Nat)(fn:Func)(s:Γ.St)(ds:List V):Option (Γ.St×RV):=
 match fn.body with
 |some c=>match zAd P G S n c (start fn.ntmps s ds)with
  |some (.normal,a)=>(zD2 P a fn).map (fun r=>(a.st,r))
  |some (.ret,a)=>(zD2 P a fn).map (fun r=>(a.st,r))
  |_=>Sc
 |none=>Sc
def zEQ:List V->Bool
 |.bot::_=>Sb
 |_=>Sd
def zQO(a:vG Γ)(k:Nat):Nat->vG Γ
 |0=>a
 |n+1=>fun f s c=>match a f s c with
  |some r=>Sa r
  |none=>match zEQ c with
   |true=>Sc
   |false=>match P.fn f with
    |some d=>zYi P G (zQO a k n) k d s c
    |none=>Sc
end
section
variable {Γ:Sig}{P:Program}{G:Nat->Option (List V)}{S:vG Γ}
variable {g:FuncId}
theorem qCz[Calm Γ](k:P.follows .mixedOrders=Sb)(l:qK Γ P G S){fn:Func}(m:P.funcs[g]?=Sa fn)(n:Nat):jK Γ P G g (zYi P G S n fn):=by
 cases i:fn.body with
 |none=>
  intro w F O s j p q r _ _ _ _ _ h
  grind[zYi]
 |some c=>
  refine zZZ k l m i ?_;intro s p q r h;simp[zYi,i]at h;split at h
  .rename_i e a;simp only[am,aJ]at h;obtain⟨t,f,d,rfl⟩:=h;exact⟨_,e,zSL n c _ e _ a,.inl rfl,d,f⟩
  .rename_i e a;simp only[am,aJ]at h;obtain⟨t,f,d,rfl⟩:=h;exact⟨_,e,zSL n c _ e _ a,.inr rfl,d,f⟩
  .cases h
theorem jK.or{d e:Γ.St->List V->Option (Γ.St×RV)}(l:jK Γ P G g d)(m:jK Γ P G g e):
  jK Γ P G g (fun s ds=>match d s ds with|some r=>Sa r|none=>e s ds):=by
 intro w F O s a ds f r i j a3 a4 k h;simp only at h;split at h
 .rename_i n c;cases h;exact l w F O s a ds f r i j a3 a4 k c
 .exact m w F O s a ds f r i j a3 a4 k h
theorem jK.nothing:jK Γ P G g (fun _ _=>Sc):=by intro w F O s a c d r _ _ _ _ _ h;cases h
def zRl (P : Program) : Bool := P.funcs.toList.all (fun fn => !(fn.name == "runtime.NumGoroutine"))
theorem zZb[Calm Γ](x:P.follows .mixedOrders=Sb)(y:zRl P=Sb){c:vG Γ}(g:qK Γ P G c)(k:Nat):∀n,qK Γ P G (zQO P G c k n):=by
 intro n
 induction n with
 |zero=>exact g
 |succ n z=>
  refine⟨?_,?_,?_,?_⟩
  .intro f
   cases l:P.funcs[f]? with
   |none=>
    have:zQO P G c k (n+1) f=fun s a=>match c f s a with|some r=>Sa r|none=>none:=by
     grind[zQO,zEQ]
    rw[this];exact(g.ok f).or .nothing
   |some j=>
    have:zQO P G c k (n+1) f=fun s a=>match c f s a with|some r=>Sa r|none=>match zEQ a with|true=>Sc|false=>zYi P G (zQO P G c k n) k j s a:=by
     grind[zQO]
    rw[this];refine(g.ok f).or ?_;intro w F O s i a A r B C D E H h;simp only at h;split at h
    .cases h
    .exact qCz x z l k w F O s i a A r B C D E H h
  .intro f s a r h I;simp only[zQO]at h;split at h
   .rename_i J m;exact g.is f s a J m I
   .split at h
    .cases h
    .split at h
     .rename_i j l;refine⟨j,l,?_,?_⟩
      .grind[zYi]
      .have:=au.1 y j (by grind);simpa using this
     .cases h
  .intro p st q t u bytes e d h;refine g.app p st q t u bytes e d ?_
   grind[zQO,zEQ]
  .intro f st t K a e u d h;refine g.bor f st t K a e u d ?_
   grind[zQO,zEQ]
def zG6(Γ:Sig):vG Γ:=fun _ _ _=>Sc
theorem zCp:qK Γ P G (zG6 Γ):=
 ⟨fun _=>.nothing,(fun f s c r h=>by cases h),(fun _ st q t e bytes a d h=>by cases h),(fun f st t g c a e d h=>by cases h)⟩
end
end Go.Ve

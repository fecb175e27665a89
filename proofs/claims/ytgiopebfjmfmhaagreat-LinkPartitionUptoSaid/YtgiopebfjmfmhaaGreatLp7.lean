/- law16 -/
import Derived.Test.YtgiopebfjmfmhaaGreatLp6
set_option linter.unusedVariables false
open Option renaming some->Sa,none->Sc
open Bool renaming true->Sb,false->Sd
open Go.Instr renaming storeAt->Aa,sureAddr->Ae,mapUpdate->Ag,loadAt->Al
open Go.Region renaming binds->Ab,ready->Aj,wanted->Ak,before->Ao
open Go.Result renaming andThen_ok->Ac
open Array renaming replicate->Ad
open Go.Sem renaming run_bind->Af,run_pure->Ah
open List renaming range->Ai,tail_drop->Am,replicate->An
namespace Go.Ve
open Go
def wV(cs:List V)(o:Nat):List V->List V
 |[]=>cs
 |x::r=>wV (cs.set o x) (o+1) r
theorem zGM:∀(xs cs:List V) (o:Nat),(wV cs o xs).length=cs.length:=by
 intro xs
 induction xs with
 |nil=>intro cs o;rfl
 |cons x xs c=>grind[wV]
theorem zWv:∀(xs cs:List V) (o i:Nat),o+xs.length<=cs.length->(wV cs o xs)[i]?=if o<=i/\i<o+xs.length then xs[i-o]? else cs[i]? :=by
 intro xs
 induction xs with
 |nil=>grind[wV]
 |cons x xs c=>
  intro cs o i h;simp at h;simp only[wV]
  grind
def zBV(q:V)(cs:List V):V:=
 match q with
 |.agg _=>.agg cs
 |_=>match cs with
  |[y]=>y
  |_=>q
def zG7(id k n:Nat)(q:V):T->T
 |.ow i d f=>if i=id then(if d=k then .ow i k (f.set n q)else .dead)else .ow i d f
 |.oe i d f j c=>if i=id then(if d=k then .oe i k (f.set n q) j c else .dead)else .oe i d f j c
 |.ot i t g=>if i=id then .dead else .ot i t g
 |.oet i t g j c=>if i=id then .dead else .oet i t g j c
 |.ov i t g j c=>if i=id then .dead else .ov i t g j c
 |.on n=>if n.id=id\/n.id2=id then .dead else .on n
 |x=>x
section
variable {Γ:Sig}{P:Program}{G:Nat->Option (List V)}{S:vF Γ}{o:Oper}{a:Act}{w0:World}{F0:Blk->Prop}{O0:x5}{w:World}{F:Blk->Prop}{β:Lay}{al:v6->Prop}{e e':Env Γ.St}
variable {g:Nat}
theorem w6.mapT{w':World}{F':Blk->Prop}{β':Lay}{al':v6->Prop}{f:T->T}{cs:List T}(hb:w'.heap[g]?=w.heap[g]?)(hf:∀v x,zY w F β al v x->zY w' F' β' al' v (f x))(h:w6 w F β al g cs):w6 w' F' β' al' g (cs.map f):=by
 obtain⟨c,d,b,i,j⟩:=h;refine⟨c,d,hb.trans b,by simpa using i,?_⟩
 grind
def zEF(P:j6)(e:Env Γ.St)(t:TypeId)(id k:Nat)(es:List V)(i off:Nat)(d:V):Option (Env Γ.St):=
 match es[i]? with
 |some q=>
  if wB P t=Sa d.cells.length/\off+d.cells.length<=k/\d.cells.all V.one=Sb/\q.cells.length=k/\(zBV q (wV q.cells off d.cells)).cells.length=k/\
    (q.noAgg=Sb->d.cells.length=1/\k=1)then
   Sa (e.mapT (zG7 id k i (zBV q (wV q.cells off d.cells))))
  else Sc
 |none=>Sc
theorem zIr{q d:V}{off k:Nat}(m:q.cells.length=k)(j:d.cells.all V.one=Sb)(l:off+d.cells.length<=k)
  (i:q.noAgg=Sb->d.cells.length=1/\k=1):(zBV q (wV q.cells off d.cells)).cells=wV q.cells off d.cells:=by
 have A:=zGM d.cells q.cells off
 have c:(∀g,q≠ .agg g)->d.cells.length=1/\k=1->(match wV q.cells off d.cells with|[y]=>y|_=>q).cells=wV q.cells off d.cells:=by
  intro n ⟨p,r⟩;subst r;obtain rfl:off=0:=by omega
  match hd:d.cells,p with
  |[y],_=>
   have u:y.one=true:=by grind
   match x:q.cells,m with
   |[z],_=>
    simp[wV];cases y<;>first|rfl|(simp[V.one]at u)
 cases q with
 |agg g=>rfl
 |val v=>exact c (fun g h=>by cases h) (i rfl)
 |sl B=>exact c (fun g h=>by cases h) (i rfl)
 |tup C=>exact c (fun g h=>by cases h) (i rfl)
 |clo f g=>exact c (fun g h=>by cases h) (i rfl)
 |pp g=>exact c (fun g h=>by cases h) (i rfl)
 |tl t D=>exact c (fun g h=>by cases h) (i rfl)
 |rf o=>exact c (fun g h=>by cases h) (i rfl)
 |hd o=>exact c (fun g h=>by cases h) (i rfl)
 |pt t o=>exact c (fun g h=>by cases h) (i rfl)
 |hp g=>exact c (fun g h=>by cases h) (i rfl)
 |bot=>exact c (fun g h=>by cases h) (i rfl)
variable {j:TypeId}{C:V}
theorem zTO{k i off cap:Nat}{es0:List V}{c:Array Value}{d:V}{vs:List Value}(H:∀I:Nat,F I->I≠g)(K:w.heap[g]?=Sa (.cells c j (0,0)))(L:g<w.heap.size)(g5:∀(et:Nat) (A:V) (x:Value),C.cells[et]?=Sa A->c[i*k+et]?=Sa x->Rd w F x A)(M:C.cells.length=k)(J:off+d.cells.length<=k)(N:(zBV C (wV C.cells off d.cells)).cells.length=k)(B:(zBV C (wV C.cells off d.cells)).cells=wV C.cells off d.cells)(O:vs.length=d.cells.length)(q:i*k+off+vs.length<=c.size)(h3:∀(m:Nat) (x:Value) (y:V),vs[m]?=Sa x->d.cells[m]?=Sa y->Rd w F x y)(D:qP w F g k cap es0):
  qP (setBlk w g (.cells (j5 c (i*k+off) vs) j (0,0))) F g k cap (es0.set i (zBV C (wV C.cells off d.cells))):=by
 obtain⟨c',Q,E,W,Y,Z,q5⟩:=D;rw[K]at E;simp only[ac,Obj.cells.injEq]at E;obtain⟨rfl,_,_⟩:=E;refine⟨_,j,zAS L,by rw[xG];exact W,by simpa using Y,?_,?_⟩
 .grind
 .intro b et y A x f l n;have p:=(aa.1 l).1;rw[zGN _ _ _ _ q]at n;simp only[O]at n;by_cases r:i=b
  .subst r;have t:i<es0.length:=by grind
   rw[ce t,ac]at f;subst f;rw[B]at l p;rw[zWv _ _ _ _ (by omega)]at l;rw[zGM]at p;by_cases u:off<=et/\et<off+d.cells.length
   .rw[if_pos u]at l;rw[if_pos (by omega)]at n
    grind[Rd.setBlk]
   .rw[if_neg u]at l;rw[if_neg (by omega)]at n
    grind[Rd.setBlk]
  .rw[aS r]at f;have ab:=Z y (ae f)
   have z:¬(i*k+off<=b*k+et/\b*k+et<i*k+off+d.cells.length):=by
    intro hh;rcases a8 i b with h|h
    .have:=aq k (show i+1<=b by omega)
     grind
    .have:=aq k (show b+1<=i by omega)
     grind
   rw[if_neg z]at n
   grind[Rd.setBlk]
variable {i l:Nat}
theorem zRi(hi:Inv Γ G w0 F0 O0 a w e){off:Nat}{es:List V}{ap xv:Operand}(hp:evx G e ap=.oe g i es l off)(D:evx G e xv=.p C)(h:zEF P e j g i es l off C=Sa e'):∃w',(Aa j (a.eval ap) (a.eval xv)).run P w=.ok () w'/\Inv Γ G w0 F0 O0 a w' e':=by
 obtain⟨F,O,β,hc,hG,bk,a3,ht,hv⟩:=hi;have ag:=uS hG ht ap;have an:=uS hG ht xv;rw[hp]at ag;rw[D]at an;obtain⟨ha,bn,a4,a5,c,Y,g1,g2,g3,g4,g5⟩:=ag;unfold zEF at h;split at h
 .rename_i q hq;split at h
  .rename_i Z;obtain⟨ab,L,M,ao,a6,a9⟩:=Z;cases h;have bb:=zIr ao M L a9;obtain⟨h1,h2,h3⟩:=zME (xs:=C.cells.map .p) an (by simp[T.cellsT,M]);simp at h1;have bd:(l+1)*i<=a4*i:=aq i (by omega);rw[bE]at bd
   have av:(Aa j (a.eval ap) (a.eval xv)).run P w=.ok () (setBlk w (β.ob g) (.cells (j5 c (l*i+off) (a.eval xv).cells.toList) Y (0,0))):=by
    have ax:=zBd (P:=P) (b:=β.ob g) (off:=l*i+off) (et:=Y) (a.eval xv).cells.toList 0 w c g1 (by simp[h1];omega) (fun u hu=>h2 u (by simpa using hu))
    have hw:(if(a.eval xv).cells.toList=[]then w else setBlk w (β.ob g) (.cells (j5 c (l*i+off+0) (a.eval xv).cells.toList) Y (0,0)))=setBlk w (β.ob g) (.cells (j5 c (l*i+off) (a.eval xv).cells.toList) Y (0,0)):=by
     split
     .rename_i ay;rw[ay];exact(zGQ g1).symm
     .simp
    rw[hw]at ax;simp[Aa,a5,Ae,storeVar,zK ab,h1];exact ax
   refine⟨_,av,?_⟩;obtain⟨p1,p2,p3,p4⟩:=hc.place (.o g) ha;have A:∀b':Nat,F b'->b'≠β.ob g:=fun b' hb H=>p3 (by rw[H]at hb;exact hb);have a0:∀s,zT e (.v s)->β.vb s≠β.ob g:=fun s hs H=>by have:=hc.dist (.v s) (.o g) hs ha H;cases this
   have z:∀r,r≠g->zT e (.o r)->β.ob r≠β.ob g:=fun r I hs H=>by
    have:=hc.dist (.o r) (.o g) hs ha H
    grind
   have N:∀E f,qP w F (β.ob g) i f E->qP (setBlk w (β.ob g) (.cells (j5 c (l*i+off) (a.eval xv).cells.toList) Y (0,0))) F (β.ob g) i f (E.set l (zBV q (wV q.cells off C.cells))):=
    fun E f be=>zTO A g1 p2 (fun t d' x hj D=>g5 l t q d' x hq hj D) ao L a6 bb (by simp[h1]) (by grind)
     (fun m x y D hy=>h3 m x (.p y) (by simpa using D) (by simp[hy])) be
   have hf:∀v x,zY w F β (zT e) v x->zY (setBlk w (β.ob g) (.cells (j5 c (l*i+off) (a.eval xv).cells.toList) Y (0,0))) F β (zT e) v (zG7 g i l (zBV q (wV q.cells off C.cells)) x):=by
    intro v x D
    cases x with
    |p y=>exact Rd.setBlk A D
    |ow r k' E=>
     simp only[zG7];obtain⟨k,f,B,d⟩:=D;split
     .rename_i hid;subst hid;split
      .rename_i ad;subst ad;exact⟨k,f,by simpa using B,N E f d⟩
      .trivial
     .rename_i hid;exact⟨k,f,B,d.setBlk A (z r hid k)⟩
    |oe r k' E t Q=>
     simp only[zG7];obtain⟨k,J,f,B,d⟩:=D;split
     .rename_i hid;subst hid;split
      .rename_i ad;subst ad;exact⟨k,by simpa using J,f,B,N E f d⟩
      .trivial
     .rename_i hid;exact⟨k,J,f,B,d.setBlk A (z r hid k)⟩
    |lp s Q=>exact D
    |mp r bo ck=>
     obtain⟨k,B,d⟩:=D;by_cases hid:r=g
     .grind
     .exact⟨k,B,(qU (z r hid k)).trans d⟩
    |ot r t' a1=>
     simp only[zG7];split
     .trivial
     .rename_i hid;rcases D with D|⟨I,k,f,B,d⟩
      .exact .inl D
      .exact .inr ⟨I,k,f,B,d.setBlk A (z r hid k)⟩
    |oet r t' a1 t Q=>
     simp only[zG7];split
     .trivial
     .rename_i hid;obtain⟨k,J,f,B,d⟩:=D;exact⟨k,J,f,B,d.setBlk A (z r hid k)⟩
    |ov r t' a1 bs b0=>
     simp only[zG7];split
     .trivial
     .rename_i hid;rcases D with D|⟨I,k,q1,q2,f,B,d⟩
      .exact .inl D
      .exact .inr ⟨I,k,q1,q2,f,B,d.setBlk A (z r hid k)⟩
    |on n=>
     simp only[zG7];split
     .trivial
     .rename_i hid;have hid:=not_or.1 hid;exact zPs.mono D (fun _ h=>h) (fun b' hb=>qU (A b' hb)) D.1 D.2.1 rfl rfl (qU (z _ hid.1 D.1)) (qU (z _ hid.2 D.2.1))
    |emp=>exact D
    |dead=>trivial
   refine Inv.of (al:=zT e) (hc.setBlk ha _ (fun c' b1 b2 H=>by rw[show w.heap[β.blk (.o g)]?=_ from g1]at H;simp at H;exact⟨_,_,_,rfl,by rw[xG,H.1]⟩)) (fun id cs hg=>(hG id cs hg).setBlk A) (by grind[Env.mapT]) a3 (fun j=>by rw[vN rfl];grind) ?_ ?_
   .intro s cs K;rw[jF]at K;simp at K;obtain⟨a2,W,rfl⟩:=K;have k:zT e (.v s):=⟨a2,W⟩
    exact⟨k,(hv s a2 W).mapT (qU (a0 s k)) hf⟩
   .rintro s ⟨cs,K⟩
    grind[jF]
  .cases h
 .cases h
def zT0(ty:Ty)(x:ty.El)(off:Nat)(d:V):Option ty.El:=
 match ty.uncells (wV (ty.cells x) off d.cells)with
 |some (y,[])=>Sa y
 |_=>Sc
def Ty.aggT:Ty->Bool
 |.pair _ _|.unit=>Sb
 |_=>Sd
def zIT(id:Nat)(ty:Ty)(n:Nat)(x:ty.El):T->T
 |.ow i k f=>if i=id then .dead else .ow i k f
 |.oe i k f j c=>if i=id then .dead else .oe i k f j c
 |.ot i t d=>if i=id then(if h:t=ty then .ot i ty ((h▸d).set n x)else .dead)else .ot i t d
 |.oet i t d j c=>if i=id then(if h:t=ty then .oet i ty ((h▸d).set n x) j c else .dead)else .oet i t d j c
 |.ov i t g j c=>if i=id then .dead else .ov i t g j c
 |.on n=>if n.id=id\/n.id2=id then .dead else .on n
 |y=>y
def zGj(P:j6)(e:Env Γ.St)(t:TypeId)(id:Nat)(ty:Ty)(xs:List ty.El)(i off:Nat)(d:V):Option (Env Γ.St):=
 if wB P t=Sa d.cells.length/\off+d.cells.length<=ty.size/\d.cells.all V.one=Sb/\(ty.aggT=Sd->d.cells.length=1/\ty.size=1)then
  match xs[i]? with
  |some x=>match zT0 ty x off d with
   |some y=>Sa (e.mapT (zIT id ty i y))
   |none=>Sc
  |none=>Sc
 else Sc
theorem kW.set:∀{xs ys:List V} (_:kW xs ys) {a b:V} (_:WkV a b) (n:Nat),kW (xs.set n a) (ys.set n b)
 |[],[],_,_,_,_,_=>trivial
 |x::xs,y::ys,h,a,b,c,n=>by
  cases n with
  |zero=>exact⟨c,h.2⟩
  |succ n=>exact⟨h.1,kW.set h.2 c n⟩
theorem kW.splice:∀{ds c:List V} (_:kW ds c) {cs d:List V} (_:kW cs d) (o:Nat),kW (wV cs o ds) (wV d o c)
 |[],[],_,_,_,h,_=>h
 |x::ds,y::c,hd,cs,d,h,o=>kW.splice hd.2 (h.set hd.1 o) (o+1)
theorem WkV.trans{y z:V}(h:WkV C y)(k:WkV y z):WkV C z:=fun w F v c=>k w F v (h w F v c)
theorem kW.trans:∀{xs ys zs:List V} (_:kW xs ys) (_:kW ys zs),kW xs zs
 |[],[],[],_,_=>trivial
 |_::_,_::_,_::_,h,k=>⟨h.1.trans k.1,kW.trans h.2 k.2⟩
def V.un:V->V
 |.tl t xs=>.sl (xs.map t.enc)
 |d=>d
theorem qCG(d:V):kW d.un.cells d.cells/\d.un.cells.length=d.cells.length/\d.un.cells.all V.one=d.cells.all V.one:=by
 cases d with
 |tl t c=>exact⟨⟨fun w F v h=>.tl t c v h,trivial⟩,rfl,rfl⟩
 |_=>exact⟨.refl _,rfl,rfl⟩
theorem qHw(d:V):(T.p d).un=.p d.un:=by cases d<;>rfl
variable {I:Ty}
theorem qAx{x y:I.El}{e:V}(i:kW e.cells C.cells)(f:(zBV (I.enc x) (wV (I.enc x).cells g e.cells)).cells=wV (I.enc x).cells g e.cells)(c:zT0 I x g C=Sa y):kW (zBV (I.enc x) (wV (I.enc x).cells g e.cells)).cells (I.enc y).cells:=by
 rw[f,jM,jM];unfold zT0 at c;split at c
 .rename_i j ty;simp at c;subst c;obtain⟨l,h,k⟩:=j7 I _ j [] ty;simp at h;exact(kW.splice i (.refl _) g).trans (by rw[h];exact k)
 .cases c
variable {a2:List I.El}
theorem qAq{y:I.El}(h:kW C.cells (I.enc y).cells){F:Blk->Prop}{w:World}(j:qP w F i I.size l ((a2.map I.enc).set g C)):
  qP w F i I.size l ((a2.set g y).map I.enc):=by
 refine j.weak (by simp) ?_ ?_
 .intro q c;simp only[aO]at c;obtain⟨z,_,rfl⟩:=c;exact wZ I z
 .intro m p q ty c;rw[dj]at c;by_cases k:g=m
  .grind
  .rw[aS k]at ty c;rw[ty]at c;cases c;exact .refl _
theorem zYC(hi:Inv Γ G w0 F0 O0 a w e){off:Nat}{d:V}{ap xv:Operand}(O:evx G e ap=.oet g I a2 i off)(Q:evx G e xv=.p d)(h:zGj P e j g I a2 i off d=Sa e'):∃w',(Aa j (a.eval ap) (a.eval xv)).run P w=.ok () w'/\Inv Γ G w0 F0 O0 a w' e':=by
 unfold zGj at h;split at h
 .rename_i n;obtain⟨W,l,m,E⟩:=n;split at h
  .rename_i x H;split at h
   .rename_i y Y;cases h;have hq:(a2.map I.enc)[i]?=Sa (I.enc x):=by simp[H]
    have A:((I.enc x).noAgg=Sb->d.cells.length=1/\I.size=1):=by
     intro id;refine E ?_;cases I<;>first|rfl|(simp[Ty.enc,V.noAgg]at id)
    obtain⟨Z,u2,u3⟩:=qCG d;rw[<-u2]at W l A;rw[<-u3]at m;have ty:=zIr (q:=I.enc x) (d:=d.un) (off:=off) (k:=I.size) (wZ I x) m l A;have J:zEF P (e.mapT T.un) j g I.size (a2.map I.enc) i off d.un=Sa ((e.mapT T.un).mapT (zG7 g I.size i (zBV (I.enc x) (wV (I.enc x).cells off d.un.cells)))):=by simp_all[wZ,zGM,zEF]
    obtain⟨w',h1,h2⟩:=zRi (P:=P) hi.un (ap:=ap) (xv:=xv) (by rw[zJ4,O];rfl) (by rw[zJ4,Q,qHw]) J;refine⟨w',h1,?_⟩;have K:=qAx Z ty Y
    have B:∀(t:List I.El) (F:Blk->Prop) (b c:Nat) (w:World),qP w F b I.size c ((t.map I.enc).set i (zBV (I.enc x) (wV (I.enc x).cells off d.un.cells)))->qP w F b I.size c ((t.set i y).map I.enc):=
     fun t F b c w D=>qAq K D
    have hT:∀z:T,WkT (zG7 g I.size i (zBV (I.enc x) (wV (I.enc x).cells off d.un.cells)) z.un) (zIT g I i y z):=by
     intro z
     cases z with
     |p q=>
      cases q with
      |tl j a2=>exact WkT.ofUn (.p (.tl j a2))
      |_=>exact .refl _
     |ow r k0 L=>
      simp[T.un,zG7,zIT];split
      .exact .dead _
      .exact .refl _
     |oe r k0 L M f=>
      simp[T.un,zG7,zIT];split
      .exact .dead _
      .exact .refl _
     |ot r C t=>
      simp only[zIT];split
      .rename_i hid;split
       .rename_i u;subst u
        cases t with
        |nil=>exact fun w F β al v id=>.inl ⟨rfl,id⟩
        |cons z N=>intro w F β al v id;simp[T.un,zG7,hid]at id;obtain⟨ha,c,hv,D⟩:=id;have ab:=B (z::N) F _ c w D;refine .inr ⟨by simp,by grind,c,by grind,by grind⟩
       .exact .dead _
      .rename_i hid
       cases t with
       |nil=>exact WkT.ofUn (.ot r C [])
       |cons z N=>
        simp[T.un,zG7,if_neg hid];exact WkT.ofUn (.ot r C (z::N))
     |oet r C t M f=>
      simp only[zIT];split
      .rename_i hid;split
       .rename_i u;subst u;intro w F β al v id;simp[T.un,zG7,hid]at id;obtain⟨ha,hj,c,hv,D⟩:=id;refine⟨by grind,by simpa using hj,c,by grind,by grind⟩
       .exact .dead _
      .rename_i hid;simp[T.un,zG7,if_neg hid];exact WkT.ofUn (.oet r C t M f)
     |ov r C t M f=>
      simp[T.un,zG7,zIT];exact .refl _
     |on n0=>
      simp[T.un,zG7,zIT];exact .refl _
     |_=>exact .refl _
    refine h2.weak (by simp[Env.mapT]) rfl (fun j=>by rw[vN rfl,vN rfl,vN rfl];exact hT _) ?_;intro s;rw[jF,jF,jF]
    cases e.var s with
    |none=>trivial
    |some cs=>
     grind[List.map_map,zBN.map]
   .cases h
  .cases h
 .cases h
def qA6(id:Nat)(c:List MapEntry)(d:Nat):T->T
 |.mp i f g=>if i=id then .mp i c d else .mp i f g
 |x=>x
def zUi(P:j6)(e:Env Γ.St)(t:TypeId)(id:Nat)(es:List MapEntry)(f:Nat)(k v:Value):Option (Env Γ.St):=
 match wK P.P (qF7 t es f k v)with
 |some (c,d)=>Sa (e.mapT (qA6 id c d))
 |none=>Sc
variable {a3:List MapEntry}{a1:Value}
theorem zS3{c:List MapEntry}{v:Value}(es:w.heap[g]?=Sa (.map a3.toArray i))(h:wK P (qF7 j a3 i a1 v)=Sa (c,l)):(Ag j (.map (Sa g)) a1 v).run P w=.ok () (setBlk w g (.map c.toArray l)):=by
 have hlt:=zEz es;have B:(getObj g).run P w=.ok (.map a3.toArray i) w:=by simp[getObj,Sem.run,es]
 have m:∀n,(setObj g n).run P w=.ok () (setBlk w g n):=by grind[setObj,Sem.run,setBlk]
 obtain⟨d,p,h⟩:=zGT h;have p:=zD5 p w;split at h
 .rename_i t q;obtain⟨u,x,h⟩:=zGT h;obtain⟨r,y,h⟩:=zGT h;have x:=zD5 x w;have y:=zD5 y w;split at h
  .rename_i b C;obtain⟨A,z,h⟩:=zGT h;have z:=zD5 z w;simp[wK,pure]at h;obtain⟨rfl,rfl⟩:=h;simp_all[Af,Ac,Ag]
  .simp[wK,pure]at h;obtain⟨rfl,rfl⟩:=h;simp_all[Af,Ac,Ag]
 .cases h
variable {a0 J:Operand}
theorem qEU(hi:Inv Γ G w0 F0 O0 a w e){vx:Operand}{v:Value}(hm:evx G e a0=.mp g a3 i)(hk:yW (evx G e J)=Sa a1)(z:yW (evx G e vx)=Sa v)(h:zUi P e j g a3 i a1 v=Sa e'):∃w',(Ag j (a.eval a0) (a.eval J) (a.eval vx)).run P w=.ok () w'/\Inv Γ G w0 F0 O0 a w' e':=by
 obtain⟨F,O,β,hc,hG,ax,ag,ht,hv⟩:=hi;have L:=uS hG ht a0;rw[hm]at L;have an:=zNQ (uS hG ht J) hk;have ao:=zNQ (uS hG ht vx) z;obtain⟨ha,ap,C⟩:=L;unfold zUi at h;split at h
 .rename_i M N hp;cases h;refine⟨_,by rw[ap,an,ao];exact zS3 C hp,?_⟩;obtain⟨p1,p2,p3,p4⟩:=hc.place (.o g) ha;have r:∀Q:Nat,F Q->Q≠β.ob g:=fun Q hb D=>p3 (by rw[D]at hb;exact hb);have W:∀s,zT e (.v s)->β.vb s≠β.ob g:=fun s hs D=>by have:=hc.dist (.v s) (.o g) hs ha D;cases this
  have es:∀d,d≠g->zT e (.o d)->β.ob d≠β.ob g:=fun d A hs D=>by
   have:=hc.dist (.o d) (.o g) hs ha D
   grind
  have hf:∀v x,zY w F β (zT e) v x->zY (setBlk w (β.ob g) (.map M.toArray N)) F β (zT e) v (qA6 g M N x):=by
   intro v x z
   cases x with
   |p y=>exact Rd.setBlk r z
   |ow d k' Y=>
    obtain⟨f,q,u,l⟩:=z;by_cases hid:d=g
    .subst hid;obtain⟨c,m,K,_⟩:=l;grind
    .exact⟨f,q,u,l.setBlk r (es d hid f)⟩
   |oe d k' Y t E=>
    obtain⟨f,I,q,u,l⟩:=z;by_cases hid:d=g
    .subst hid;obtain⟨c,m,K,_⟩:=l;grind
    .exact⟨f,I,q,u,l.setBlk r (es d hid f)⟩
   |lp s E=>exact z
   |mp d Y ay=>
    obtain⟨f,u,l⟩:=z;simp only[qA6];split
    .rename_i hid;subst hid;exact⟨f,u,zAS p2⟩
    .rename_i hid;exact⟨f,u,(qU (es d hid f)).trans l⟩
   |ot d t' Z=>
    rcases z with z|⟨A,f,q,u,l⟩
    .exact .inl z
    .by_cases hid:d=g
     .subst hid;obtain⟨c,m,K,_⟩:=l;grind
     .exact .inr ⟨A,f,q,u,l.setBlk r (es d hid f)⟩
   |oet d t' Z t E=>
    obtain⟨f,I,q,u,l⟩:=z;by_cases hid:d=g
    .subst hid;obtain⟨c,m,K,_⟩:=l;grind
    .exact⟨f,I,q,u,l.setBlk r (es d hid f)⟩
   |ov d t' Z ck kx=>
    rcases z with z|⟨A,f,k1,k2,q,u,l⟩
    .exact .inl z
    .by_cases hid:d=g
     .subst hid;obtain⟨c,m,K,_⟩:=l;grind
     .exact .inr ⟨A,f,k1,k2,q,u,l.setBlk r (es d hid f)⟩
   |on n=>
    have h1:n.id≠g:=by rintro rfl;obtain⟨_,_,c,m,ab,K,_⟩:=z;grind
    have h2:n.id2≠g:=by rintro rfl;obtain⟨_,_,c,m,ab,_,_,_,_,⟨c',av,K,_⟩,_⟩:=z;grind
    exact zPs.mono z (fun _ h=>h) (fun Q hb=>qU (r Q hb)) z.1 z.2.1 rfl rfl (qU (es _ h1 z.1)) (qU (es _ h2 z.2.1))
   |emp=>exact z
   |dead=>trivial
  refine Inv.of (al:=zT e) (hc.setBlk ha _ (fun c' av a2 D=>by rw[show w.heap[β.blk (.o g)]?=_ from C]at D;cases D)) (fun id cs hg=>(hG id cs hg).setBlk r) (by grind[Env.mapT]) ag (fun j=>by rw[vN rfl];grind) ?_ ?_
  .intro s cs B;rw[jF]at B;simp at B;obtain⟨ad,H,rfl⟩:=B;have f:zT e (.v s):=⟨ad,H⟩
   exact⟨f,(hv s ad H).mapT (qU (W s f)) hf⟩
  .rintro s ⟨cs,B⟩
   grind[jF]
 .cases h
def zCC(id:Nat):T->T
 |.ow i k d=>if i=id then .p (.sl d)else .ow i k d
 |.oe i k d j c=>if i=id then(match d[j]? with|some q=>.p (.pp (q.cells.drop c))|none=>.dead)else .oe i k d j c
 |.mp i d g=>if i=id then .dead else .mp i d g
 |.ot i t f=>if i=id then .p (.tl t f)else .ot i t f
 |.oet i t f j c=>if i=id then .dead else .oet i t f j c
 |.ov i t f j c=>if i=id then .dead else .ov i t f j c
 |.on n=>if n.id=id\/n.id2=id then .dead else .on n
 |x=>x
theorem Inv.frzO(hi:Inv Γ G w0 F0 O0 a w e)(E:g≠jV):Inv Γ G w0 F0 O0 a w (e.mapT (zCC g)):=by
 obtain⟨F,O,β,z,Y,ab,J,ht,Z⟩:=hi;by_cases ha:zT e (.o g)
 .obtain⟨p1,p2,p3,p4⟩:=z.place (.o g) ha;let L:Blk->Prop:=fun b=>F b\/b=β.ob g;let r:v6->Prop:=fun x=>zT e x/\x≠ .o g
  have H:zDx Γ w0 F0 O0 w L O β r e.st:=by
   refine⟨z.keep,Γ.mono z.sig zSN (fun _ _=>rfl) (fun _ _ h=>⟨.inl h,rfl⟩),z.oin,?_,z.f0.trans (zFM.addB _ _ _) (ai _),?_,fun x y hx hy=>z.dist x y hx.1 hy.1,z.lent.step (fun b n _ hb ho hf=>⟨rfl,ho,fun h=>h.elim hf (fun h=>by have h1:=zCq h;have h2:w0.heap.size<=β.ob g:=p1.o E;omega)⟩)⟩
   .rintro b (hb|hb)
    .exact z.fin b hb
    .have hb:=zCq hb;subst hb;exact⟨.inr (p1.o E),p2,p4⟩
   .intro x hx;obtain⟨q1,q2,q3,q4⟩:=z.place x hx.1;refine⟨q1,q2,fun M=>M.elim q3 (fun M=>hx.2 (z.dist x (.o g) hx.1 ha (zCq M))),q4⟩
  have d:Ext w F β r w L β r:=⟨fun _ h=>.inl h,fun _ _=>rfl,fun _ h=>h,fun _ _=>rfl,fun _ _=>rfl⟩
  have hf:∀v x,zY w F β (zT e) v x->zY w L β r v (zCC g x):=by
   intro v x hx
   cases x with
   |p y=>exact Rd.ext d hx
   |ow i k K=>
    simp only[zCC];obtain⟨A,B,C,hr⟩:=hx;split
    .rename_i hid;subst hid;rw[C];exact zHu hr (fun b hb=>.inl hb) (.inr rfl)
    grind[zY.ext,zY]
   |oe i k K j u=>
    simp only[zCC];obtain⟨A,hj,B,C,hr⟩:=hx;split
    .rename_i hid;subst hid;split
     .rename_i q hq;obtain⟨c,et,g1,g2,g3,g4,g5⟩:=hr;have ad:=g4 q (ae hq);have N:(j+1)*k<=B*k:=aq k (by omega);rw[bE]at N;rw[C];refine Rd.pp (β.ob i) (j*k+u) _ (fun m=>(c[j*k+(u+m)]?).getD undef) (.inr rfl) ?_ ?_;all_goals grind[List.length_drop,List.getElem?_eq_some_iff,Rd.ext,World.cell?]
     .trivial
    grind[zY.ext,zY]
   |lp s u=>exact⟨⟨hx.1,by simp⟩,hx.2⟩
   |mp i ag ck=>
    grind[zY.ext,zCC,zY]
   |ot i t xs=>
    simp only[zCC];split
    .rename_i hid;subst hid;refine .tl t xs v ?_;rcases hx with⟨Q,a0,rfl⟩|⟨I,A,B,rfl,hr⟩
     .rw[Q];exact .slemp a0 0
     .exact zHu (hr.mono d.f d.hf rfl) (fun _ h=>h) (.inr rfl)
    .rename_i hid;rcases hx with hx|⟨I,A,B,C,hr⟩
     .exact .inl hx
     .exact zY.ext d (show zY w F β r v (.ot i t xs)from .inr ⟨I,⟨A,by simpa using hid⟩,B,C,hr⟩)
   |oet i t xs j u=>
    grind[zY.ext,zCC,zY]
   |ov i t xs lo hi=>
    grind[zY.ext,zCC,zY]
   |on n=>
    simp only[zCC];split
    .trivial
    .rename_i hid;have hid:=not_or.1 hid;exact zY.ext d (show zY w F β r v (.on n)from⟨⟨hx.1,by simpa using hid.1⟩,⟨hx.2.1,by simpa using hid.2⟩,hx.2.2⟩)
   |emp=>exact hx
   |dead=>trivial
  refine Inv.of (al:=r) H (Y.ext d) (by grind[Env.mapT]) J (fun t=>by rw[vN rfl];grind) ?_ ?_
  .intro s W id;rw[jF]at id;simp at id;obtain⟨D,l,rfl⟩:=id;exact⟨⟨⟨D,l⟩,by simp⟩,(Z s D l).mapT rfl hf⟩
  .rintro s ⟨⟨W,id⟩,_⟩
   grind[jF]
 .have hf:∀v x,zY w F β (zT e) v x->zY w F β (zT e) v (zCC g x):=by
   intro v x hx
   cases x with
   |ow i k K=>
    simp only[zCC];split
    .rename_i hid;subst hid;exact absurd hx.1 ha
    .exact hx
   |oe i k K j u=>
    simp only[zCC];split
    .rename_i hid;subst hid;exact absurd hx.1 ha
    .exact hx
   |mp i K ck=>
    simp only[zCC];split
    .trivial
    .exact hx
   |ot i t xs=>
    simp only[zCC];split
    .rename_i hid;subst hid;rcases hx with⟨Q,a0,rfl⟩|⟨I,A,_⟩
     .exact .tl t xs _ (by rw[Q];exact .slemp a0 0)
     grind
    .exact hx
   |oet i t xs j u=>
    simp only[zCC];split
    .trivial
    .exact hx
   |ov i t xs lo hi=>
    simp only[zCC];split
    .trivial
    .exact hx
   |on n=>
    simp only[zCC];split
    .trivial
    .exact hx
   |_=>exact hx
  refine Inv.of (al:=zT e) z Y (by grind[Env.mapT]) J (fun t=>by rw[vN rfl];grind) ?_ ?_
  .intro s W id;rw[jF]at id;simp at id;obtain⟨D,l,rfl⟩:=id;exact⟨⟨D,l⟩,(Z s D l).mapT rfl hf⟩
  .rintro s ⟨W,id⟩
   grind[jF]
def zPL(s:Nat)(ds:List V):T->T
 |.lp d c=>if d=s then .p (.pp (ds.drop c))else .lp d c
 |x=>x
def Env.frzV(s:Nat)(ds:List V)(e:Env Γ.St):Env Γ.St:=({ e with vars:=e.vars.set s Sc } :Env Γ.St).mapT (zPL s ds)
theorem qCd{cs:List T}{ds:List V}(h:yN cs=Sa ds)(off:Nat):yN (cs.drop off)=Sa (ds.drop off):=by
 have:=zHd h;subst this
 have c:∀ds:List V,yN (ds.map .p)=Sa ds:=by
  intro ds
  induction ds with
  |nil=>rfl
  |cons d ds f=>simp[yN,f]
 grind[List.map_drop]
theorem Inv.frzV(hi:Inv Γ G w0 F0 O0 a w e){s:Nat}{cs:List T}{ds:List V}(M:e.var s=Sa cs)(hp:yN cs=Sa ds):Inv Γ G w0 F0 O0 a w (e.frzV s ds):=by
 obtain⟨F,O,β,r,Y,Z,I,ht,N⟩:=hi;have ha:zT e (.v s):=⟨cs,M⟩
 obtain⟨Q,p2,p3,p4⟩:=r.place (.v s) ha;let J:Blk->Prop:=fun b=>F b\/b=β.vb s;let d:v6->Prop:=fun x=>zT e x/\x≠ .v s
 have A:zDx Γ w0 F0 O0 w J O β d e.st:=by
  refine⟨r.keep,Γ.mono r.sig zSN (fun _ _=>rfl) (fun _ _ h=>⟨.inl h,rfl⟩),r.oin,?_,r.f0.trans (zFM.addB _ _ _) (ai _),?_,fun x y hx hy=>r.dist x y hx.1 hy.1,r.lent.step (fun b n _ hb ho hf=>⟨rfl,ho,fun h=>h.elim hf (fun h=>by have h1:=zCq h;have W:w0.heap.size<=β.vb s:=Q.v;omega)⟩)⟩
  .rintro b (hb|hb)
   .exact r.fin b hb
   .have hb:=zCq hb;subst hb;exact⟨.inr Q.v,p2,p4⟩
  .intro x hx;obtain⟨q1,q2,q3,q4⟩:=r.place x hx.1;refine⟨q1,q2,fun K=>K.elim q3 (fun K=>hx.2 (r.dist x (.v s) hx.1 ha (zCq K))),q4⟩
 have c:Ext w F β d w J β d:=⟨fun _ h=>.inl h,fun _ _=>rfl,fun _ h=>h,fun _ _=>rfl,fun _ _=>rfl⟩
 have hf:∀v x,zY w F β (zT e) v x->zY w J β d v (zPL s ds x):=by
  intro v x hx
  cases x with
  |p y=>exact Rd.ext c hx
  |ow i k C=>exact zY.ext c (show zY w F β d v (.ow i k C)from⟨⟨hx.1,by simp⟩,hx.2⟩)
  |oe i k C j m=>exact zY.ext c (show zY w F β d v (.oe i k C j m)from⟨⟨hx.1,by simp⟩,hx.2⟩)
  |lp u m=>
   simp only[zPL];obtain⟨q,D⟩:=hx;split
   .rename_i B;subst B;rw[D];exact qEH (N u cs M) (fun b hb=>.inl hb) (.inr rfl) (qCd hp m)
   .rename_i B;exact⟨⟨q,by simpa using B⟩,D⟩
  |mp i C ck=>exact zY.ext c (show zY w F β d v (.mp i C ck)from⟨⟨hx.1,by simp⟩,hx.2⟩)
  |ot i t xs=>
   rcases hx with hx|⟨l,q,W⟩
   .exact .inl hx
   .exact zY.ext c (show zY w F β d v (.ot i t xs)from .inr ⟨l,⟨q,by simp⟩,W⟩)
  |oet i t xs j m=>exact zY.ext c (show zY w F β d v (.oet i t xs j m)from⟨⟨hx.1,by simp⟩,hx.2⟩)
  |ov i t xs lo hi=>
   rcases hx with hx|⟨l,q,hx⟩
   .exact .inl hx
   .exact zY.ext c (show zY w F β d v (.ov i t xs lo hi)from .inr ⟨l,⟨q,by simp⟩,hx⟩)
  |on n=>exact zY.ext c (show zY w F β d v (.on n)from⟨⟨hx.1,by simp⟩,⟨hx.2.1,by simp⟩,hx.2.2⟩)
  |emp=>exact hx
  |dead=>trivial
 have E:∀u,(e.frzV s ds).var u=if u=s then Sc else(e.var u).map (List.map (zPL s ds)):=by
  intro u;simp[Env.frzV,jF];simp only[Env.var]
  grind
 have vA:∀t,(e.frzV s ds).get t=zPL s ds (e.get t):=fun t=>vN (f:=zPL s ds) rfl _ t;refine Inv.of (al:=d) A (Y.ext c) (by grind[Env.frzV,Env.mapT]) I (fun t=>by grind) ?_ ?_
 .intro u L g;rw[E]at g;split at g
  .cases g
  .rename_i l;simp at g;obtain⟨H,z,rfl⟩:=g;exact⟨⟨⟨H,z⟩,by simpa using l⟩,(N u H z).mapT rfl hf⟩
 .rintro u ⟨⟨L,g⟩,l⟩
  grind
def qDB:Nat:=999
def T.ids:T->List Nat
 |.ow i _ _=>[i]
 |.oe i _ _ _ _=>[i]
 |.mp i _ _=>[i]
 |.ot i _ _=>[i]
 |.oet i _ _ _ _=>[i]
 |.ov i _ _ _ _=>[i]
 |.on n=>[n.id,n.id2]
 |_=>[]
def T.offs(a b:Nat)(x:T):T:=if x.ids.contains a||x.ids.contains b then .dead else x
theorem T.sites_sub{al al':v6->Prop}{x:T}(h:x.sites al)(hi:∀i,i∈x.ids->al (.o i)->al' (.o i))(f:∀s,al (.v s)->al' (.v s)):x.sites al':=by
 cases x with
 |ot i t xs=>exact fun c=>hi _ (by simp[T.ids]) (h c)
 |ov i t xs lo g=>exact fun c=>hi _ (by simp[T.ids]) (h c)
 |on n=>exact⟨hi _ (by simp[T.ids]) h.1,hi _ (by simp[T.ids]) h.2⟩
 |lp s j=>exact f _ h
 |p d=>trivial
 |emp=>trivial
 |dead=>trivial
 |_=>exact hi _ (by simp[T.ids]) h
theorem zY.setAway{x:T}{ob:Obj}(h:zY w F β al a1 x)(k:∀f:Nat,F f->f≠g)(l:∀i,i∈x.ids->al (.o i)->β.ob i≠g):
  zY (setBlk w g ob) F β al a1 x:=by
 have m:zY w F β (fun s=>al s/\∀i,s=.o i->i∈x.ids) a1 x:=
  h.on (T.sites_sub h.sites (fun i c ha=>⟨ha,fun j hj=>by grind⟩) (fun s d=>⟨d,fun j hj=>by cases hj⟩))
 have v:=zY.setVar (ob:=ob) k (fun i c=>l i (c.2 i rfl) c.1) m;exact v.on (T.sites_sub v.sites (fun i _ ha=>ha.1) (fun s d=>d.1))
theorem zY.offs{v:Value}{x:T}{id id2 b:Nat}{ob:Obj}(h:zY w F β al v x)(j:∀f:Nat,F f->f≠b)(k:∀i,i≠id->i≠id2->al (.o i)->β.ob i≠b):
  zY (setBlk w b ob) F β al v (T.offs id id2 x):=by
 unfold T.offs;split
 .trivial
 .rename_i c;simp at c;exact h.setAway j (fun i g ha=>k i (fun d=>c.1 (d▸g)) (fun d=>c.2 (d▸g)) ha)
def zYr(id id2:Nat)(t:Ty)(j:Nat)(f:List t.El)(x:T):T:=
 match x with
 |.ot i c d=>if i=id then(if h:c=.sl t then .on ⟨id,id2,t,(h▸d:List (Ty.sl t).El),j,f,.s⟩else .dead)else T.offs id id2 (.ot i c d)
 |x=>T.offs id id2 x
def zEc(P:j6)(e:Env Γ.St)(t:TypeId)(id:Nat)(ty:Ty)(j off id2:Nat)(c:Ty)(d:List c.El):Option (Env Γ.St):=
 match ty with
 |.sl f=>if f=c/\off=0/\wB P t=Sa 1/\id=qDB/\id≠id2/\d.isEmpty=Sd then Sa (e.mapT (zYr id id2 c j d))else Sc
 |_=>Sc
theorem zWq(hi:Inv Γ G w0 F0 O0 a w e){off:Nat}{t2:Ty}{id:List t2.El}(hp:evx G e a0=.oet g I a2 i off)(hx:evx G e J=.ot l t2 id)(h:zEc P e j g I i off l t2 id=Sa e'):∃w',(Aa j (a.eval a0) (a.eval J)).run P w=.ok () w'/\Inv Γ G w0 F0 O0 a w' e':=by
 unfold zEc at h;split at h
 .rename_i m;split at h
  .rename_i r;obtain⟨rfl,rfl,y,an,K,a6⟩:=r;cases h;obtain⟨F,O,β,hc,hG,a9,ao,ht,hv⟩:=hi;have L:=uS hG ht a0;have M:=uS hG ht J;rw[hp]at L;rw[hx]at M;obtain⟨z,bb,bd,A,c,B,g1,g2,g3,g4,g5⟩:=L;have a4:id≠[]:=by grind
   rcases M with⟨h0,_⟩|⟨_,N,n,C,D⟩
   .simp_all
   have hz:(Ty.sl m).size=1:=rfl;rw[hz]at A g2;simp at A g2;simp at g3 C;have be:i<c.size:=by omega
   have Q:(Aa j (a.eval a0) (a.eval J)).run P w=.ok () (setBlk w (β.ob g) (.cells (c.setIfInBounds i (a.eval J)) B (0,0))):=by
    have bk:=zBd (P:=P) (b:=β.ob g) (off:=i) (et:=B) [a.eval J] 0 w c g1 (by simp;omega) (fun u hu=>by simp at hu;rw[hu,C];rfl);have av:(a.eval J).cells= #[a.eval J]:=by rw[C];rfl
    simp only[Aa,A,Ae,Af,Ah,Ac,storeVar,zK y,av,ne_eq]
    grind[j5]
   refine⟨_,Q,?_⟩;obtain⟨p1,p2,p3,p4⟩:=hc.place (.o g) z;have d:∀b':Nat,F b'->b'≠β.ob g:=fun b' hb E=>p3 (by rw[E]at hb;exact hb);have W:∀s,zT e (.v s)->β.vb s≠β.ob g:=fun s hs E=>by have:=hc.dist (.v s) (.o g) hs z E;cases this
   have f:∀k,k≠g->zT e (.o k)->β.ob k≠β.ob g:=fun k ax hs E=>by
    have:=hc.dist (.o k) (.o g) hs z E
    grind
   have hf:∀v x,zY w F β (zT e) v x->zY (setBlk w (β.ob g) (.cells (c.setIfInBounds i (a.eval J)) B (0,0))) F β (zT e) v (zYr g l m i id x):=by
    intro v x hx;have p:zY (setBlk w (β.ob g) (.cells (c.setIfInBounds i (a.eval J)) B (0,0))) F β (zT e) v (T.offs g l x):=hx.offs d (fun xs H _ z=>f xs H z)
    cases x with
    |ot xs t' Y=>
     simp only[zYr];split
     .rename_i hid;subst hid;split
      .rename_i ay;subst ay
       have hk:∀(Z:Y.length<=c.size) (a1:∀(xv:Nat) (x:List m.El) (u:Value),Y[xv]?=Sa x->c[xv]?=Sa u->Rd w F u (.tl m x)),(NM.Rel (β.ob xs) (β.ob l) c.size n Y.length id.length m.size v .s)->
         zPs (setBlk w (β.ob xs) (.cells (c.setIfInBounds i (a.eval J)) B (0,0))) F β (zT e) v ⟨xs,l,m,Y,i,id,.s⟩:=by
        intro Z a1 hm;refine⟨z,N,c.setIfInBounds i (a.eval J),B,n,zAS p2,by simpa using Z,?_,?_,D.setBlk d (f l (c9 K) N),?_⟩
        .intro xv x u H h2 h3;rw[bC (c9 H)]at h3
         grind[Rd.setBlk]
        all_goals grind
       rcases hx with⟨h0,ap,ty⟩|⟨ax,_,a5,ab,c',a3,q1,q2,q3,q4,q5⟩
       .have h0:Y=[]:=by simpa using h0
        subst h0;exact hk (by simp) (fun xv x u H=>by simp at H) (.inl ⟨rfl,ap,ty⟩)
       .rw[g1]at q1;simp only[ac,Obj.cells.injEq]at q1;obtain⟨rfl,_,_⟩:=q1;rw[hz,dJ]at q2;simp at q3 ab;refine hk (by omega) ?_ (.inr (by rw[ab,q2]));intro xv x u H h2;exact q5 xv 0 (.tl m x) (.tl m x) u (by simp only[aA,H];rfl) rfl (by grind)
      .trivial
     .exact p
    |_=>exact p
   refine Inv.of (al:=zT e) (hc.setBlk z _ (fun c' a3 bn E=>by rw[show w.heap[β.blk (.o g)]?=_ from g1]at E;grind)) (fun t cs hg=>(hG t cs hg).setBlk d) (by grind[Env.mapT]) ao (fun j=>by rw[vN rfl];grind) ?_ ?_
   .intro s cs id2;rw[jF]at id2;simp at id2;obtain⟨ad,q,rfl⟩:=id2;have ag:zT e (.v s):=⟨ad,q⟩
    exact⟨ag,(hv s ad q).mapT (qU (W s ag)) hf⟩
   .rintro s ⟨cs,id2⟩
    grind[jF]
  .cases h
 .cases h
def zUN(id id2:Nat)(t:Ty)(k:Nat)(y:t.El)(x:T):T:=
 match x with
 |.on ⟨i,c,d,f,j,g,m⟩=>if i=id/\c=id2 then(if h:d=t then .on ⟨i,c,d,f,j,g.set k (h▸y),m⟩else .dead)else T.offs id id2 (.on ⟨i,c,d,f,j,g,m⟩)
 |x=>T.offs id id2 x
def frzN(id id2:Nat)(x:T):T:=
 match x with
 |.on ⟨i,c,t,d,j,f,m⟩=>if i=id/\c=id2 then(match m with
  |.s=>.p (.tl (.sl t) (List.set d j f))
  |_=>.dead)else T.offs id id2 (.on ⟨i,c,t,d,j,f,m⟩)
 |x=>T.offs id id2 x
def zYs(id id2:Nat)(t:Ty)(k:Nat)(y:t.El)(x:T):T:=frzN id id2 (zUN id id2 t k y x)
def zDj(P:j6)(e:Env Γ.St)(t:TypeId)(n:Nst)(d:V):Option (Env Γ.St):=
 match n with
 |⟨id,c,f,_,_,h,.q k g⟩=>
  if wB P t=Sa d.cells.length/\g+d.cells.length<=f.size/\d.cells.all V.one=Sb/\(f.aggT=Sd->d.cells.length=1/\f.size=1)/\id≠c/\id≠jV/\c≠jV then
   match h[k]? with
   |some x=>match zT0 f x g d with
    |some y=>Sa (e.mapT (zYs id c f k y))
    |none=>Sc
   |none=>Sc
  else Sc
 |_=>Sc
theorem Inv.frzN(hi:Inv Γ G w0 F0 O0 a w e){id id2:Nat}(Q:id≠jV)(W:id2≠jV)(ha:zT e (.o id))(E:zT e (.o id2)):Inv Γ G w0 F0 O0 a w (e.mapT (Ve.frzN id id2)):=by
 obtain⟨F,O,β,g,hG,ad,K,ht,hv⟩:=hi;obtain⟨Y,p2,p3,p4⟩:=g.place (.o id) ha;obtain⟨Z,r2,r3,r4⟩:=g.place (.o id2) E;let k:Blk->Prop:=fun b=>F b\/b=β.ob id\/b=β.ob id2;let f:v6->Prop:=fun x=>zT e x/\x≠ .o id/\x≠ .o id2
 have C:zDx Γ w0 F0 O0 w k O β f e.st:=by
  refine⟨g.keep,Γ.mono g.sig (fun x hx=>⟨fun h=>h.elim (fun h=>h) (fun h=>by rcases h with h|h<;>(subst h;cases hx)),.inl⟩) (fun _ _=>rfl) (fun _ _ h=>⟨.inl h,rfl⟩),g.oin,?_,g.f0.trans ⟨fun _ h=>.inl h,fun _ h=>h.elim .inl (fun h=>by grind)⟩ (ai _),?_,fun x y hx hy=>g.dist x y hx.1 hy.1,
   g.lent.step (fun b n _ hb ho hf=>⟨rfl,ho,fun h=>h.elim hf (fun h=>by
    have L:w0.heap.size<=β.ob id:=Y.o Q;have M:w0.heap.size<=β.ob id2:=Z.o W
    grind)⟩)⟩
  .rintro b (hb|hb|hb)
   .exact g.fin b hb
   .have hb:=zCq hb;subst hb;exact⟨.inr (Y.o Q),p2,p4⟩
   .have hb:=zCq hb;subst hb;exact⟨.inr (Z.o W),r2,r4⟩
  .intro x hx;obtain⟨q1,q2,q3,q4⟩:=g.place x hx.1;refine⟨q1,q2,fun l=>l.elim q3 (fun l=>?_),q4⟩;rcases l with l|l
   .exact hx.2.1 (g.dist x (.o id) hx.1 ha (zCq l))
   .exact hx.2.2 (g.dist x (.o id2) hx.1 E (zCq l))
 have r:Ext w F β f w k β f:=⟨fun _ h=>.inl h,fun _ _=>rfl,fun _ h=>h,fun _ _=>rfl,fun _ _=>rfl⟩
 have hf:∀v x,zY w F β (zT e) v x->zY w k β f v (Ve.frzN id id2 x):=by
  intro v x hx
  have A:zY w k β f v (T.offs id id2 x):=by
   unfold T.offs;split
   .trivial
   .rename_i hn;simp at hn;exact zY.ext r (hx.on (T.sites_sub hx.sites (fun i hi h=>⟨h,fun l=>by grind,fun l=>by grind⟩) (fun s hs=>⟨hs,by simp,by simp⟩)))
  cases x with
  |on m=>
   obtain⟨i,i2,ty,xs,j,ys,mm⟩:=m;simp only[Ve.frzN];split
   .rename_i hid;obtain⟨rfl,rfl⟩:=hid
    cases mm with
    |s=>
     obtain⟨_,_,c,et,ab,L,M,k5,k6,k7,k8⟩:=hx;simp only at L M k5 k6 k7;refine .tl (.sl ty) _ v ?_;rcases k8 with⟨N,a0,rfl⟩|rfl
     .have N:xs=[]:=cS.1 N;subst N;exact .slemp a0 0
     .have H:qP w k (β.ob i) 1 c.size ((List.set xs j ys).map (Ty.sl ty).enc):=by
       refine⟨c,et,L,by simp,by simpa using M,?_,?_⟩
       .intro q hq;simp only[aO]at hq;obtain⟨z,_,rfl⟩:=hq;rfl
       .intro i' jj q d u h3 h4 J;simp only[aA,ak]at h3;obtain⟨z,hz,rfl⟩:=h3;have ag:jj<1:=(aa.1 h4).1;obtain rfl:jj=0:=by omega
        simp at J
        have hd:d=.tl ty z:=by
         have:Sa (V.tl ty z)=Sa d:=h4
         grind
        subst hd;by_cases D:j=i'
        .subst D;rw[k6]at J;cases J;have hlt:j<xs.length:=by grind
         rw[ce hlt]at hz;cases hz;refine .tl ty ys _ ?_;have:=zHu k7 (F':=k) (fun b hb=>.inl hb) (.inr (.inr rfl));simpa using this
        .rw[aS D]at hz;exact(k5 i' z u (c9 D) hz J).mono (fun b hb=>.inl hb) (fun _ _=>rfl)
      have:=zHu H (F':=k) (fun b hb=>hb) (.inr (.inl rfl));simpa using this
    |_=>trivial
   .exact A
  |_=>exact A
 refine Inv.of (al:=f) C (hG.ext r) (by grind[Env.mapT]) K (fun t=>by rw[vN rfl];grind) ?_ ?_
 .intro s cs p;rw[jF]at p;simp at p;obtain⟨I,B,rfl⟩:=p;exact⟨⟨⟨I,B⟩,by simp,by simp⟩,(hv s I B).mapT rfl hf⟩
 .rintro s ⟨⟨cs,p⟩,_⟩
  grind[jF]
theorem zYD(hi:Inv Γ G w0 F0 O0 a w e){t:TypeId}{n:Nst}{d:V}(hp:evx G e a0=.on n)(hx:evx G e J=.p d)(h:zDj P e t n d=Sa e'):∃w',(Aa t (a.eval a0) (a.eval J)).run P w=.ok () w'/\Inv Γ G w0 F0 O0 a w' e':=by
 obtain⟨id,l,r,xs,j,ys,mm⟩:=n
 cases mm with
 |q k A=>
  simp only[zDj]at h;split at h
  .rename_i Y;obtain⟨hs,L,M,be,ab,bk,bn⟩:=Y;split at h
   .rename_i x bo;split at h
    .rename_i y hy;cases h;obtain⟨F,O,β,hc,hG,cl,bs,ht,hv⟩:=hi;have ad:=uS hG ht a0;have ag:=uS hG ht J;rw[hp]at ad;rw[hx]at ag;obtain⟨ha,C,c0,cp,an,k1,k2,k5,k6,k7,k8⟩:=ad;simp only at ha C k1 k2 k5 k6 k7;obtain⟨b0,ao⟩:=k8;simp only at b0 ao;have b1:=k7;obtain⟨c,xv,g1,g2,g3,g4,g5⟩:=b1;have hq:(ys.map r.enc)[k]?=Sa (r.enc x):=by simp[bo]
     have av:(r.enc x).noAgg=Sb->d.cells.length=1/\r.size=1:=by
      intro D;refine be ?_;cases r<;>first|rfl|(simp[Ty.enc,V.noAgg]at D)
     have Z:=zIr (q:=r.enc x) (d:=d) (off:=A) (k:=r.size) (wZ r x) M L av;have b2:(zBV (r.enc x) (wV (r.enc x).cells A d.cells)).cells.length=r.size:=by rw[Z,zGM,wZ]
     obtain⟨h1,h2,h3⟩:=zME (xs:=d.cells.map .p) ag (by simp[T.cellsT,M]);simp at h1;have b3:(k+1)*r.size<=an*r.size:=aq r.size (by simp at g3;omega);rw[bE]at b3
     have ax:(Aa t (a.eval a0) (a.eval J)).run P w=.ok () (setBlk w (β.ob l) (.cells (j5 c (k*r.size+A) (a.eval J).cells.toList) xv (0,0))):=by
      have ay:=zBd (P:=P) (b:=β.ob l) (off:=k*r.size+A) (et:=xv) (a.eval J).cells.toList 0 w c g1 (by simp[h1];omega) (fun u hu=>h2 u (by simpa using hu))
      have hw:(if(a.eval J).cells.toList=[]then w else setBlk w (β.ob l) (.cells (j5 c (k*r.size+A+0) (a.eval J).cells.toList) xv (0,0)))=setBlk w (β.ob l) (.cells (j5 c (k*r.size+A) (a.eval J).cells.toList) xv (0,0)):=by
       split
       .rename_i ap;rw[ap];exact(zGQ g1).symm
       .simp
      rw[hw]at ay;simp[Aa,ao,Ae,storeVar,zK hs,h1];exact ay
     refine⟨_,ax,?_⟩;obtain⟨p1,p2,p3,p4⟩:=hc.place (.o l) C;have B:∀b':Nat,F b'->b'≠β.ob l:=fun b' hb D=>p3 (by rw[D]at hb;exact hb);have a4:∀s,zT e (.v s)->β.vb s≠β.ob l:=fun s hs D=>by have:=hc.dist (.v s) (.o l) hs C D;cases this
     have E:∀H,H≠l->zT e (.o H)->β.ob H≠β.ob l:=fun H cq hs D=>by
      have:=hc.dist (.o H) (.o l) hs C D
      grind
     have a5:∀(zs:List r.El) I,qP w F (β.ob l) r.size I (zs.map r.enc)->qP (setBlk w (β.ob l) (.cells (j5 c (k*r.size+A) (a.eval J).cells.toList) xv (0,0))) F (β.ob l) r.size I ((zs.set k y).map r.enc):=by
      intro zs I b4
      have hr:=zTO (es0:=zs.map r.enc) (i:=k) (off:=A) (d:=d) (vs:=(a.eval J).cells.toList) B g1 p2 (fun jj d' u hj hu=>g5 k jj (r.enc x) d' u hq hj hu) (wZ r x) L b2 Z (by simp[h1]) (by grind)
       (fun m u z hu hz=>h3 m u (.p z) (by simpa using hu) (by simp[hz])) b4
      exact qAq (qAx (.refl _) Z hy) hr
     have hf:∀v x,zY w F β (zT e) v x->zY (setBlk w (β.ob l) (.cells (j5 c (k*r.size+A) (a.eval J).cells.toList) xv (0,0))) F β (zT e) v (zUN id l r k y x):=by
      intro v x hx;have N:zY (setBlk w (β.ob l) (.cells (j5 c (k*r.size+A) (a.eval J).cells.toList) xv (0,0))) F β (zT e) v (T.offs id l x):=hx.offs B (fun i _ h2 ha=>E i h2 ha)
      cases x with
      |on m=>
       obtain⟨i,i2,t',cv,j',b5,cx⟩:=m;simp only[zUN];split
       .rename_i hid;obtain⟨rfl,rfl⟩:=hid;split
        .rename_i b6;subst b6;obtain⟨_,_,c1,cc,Q,q1,q2,q5,q6,q7,q8⟩:=hx;simp only at q1 q2 q5 q6 q7;refine⟨ha,C,c1,cc,Q,(qU (E i ab ha)).trans q1,q2,fun i' x u a1 a2 a3=>Rd.setBlk B (q5 i' x u a1 a2 a3),?_,a5 b5 Q q7,?_⟩;all_goals grind
        .trivial
       .exact N
      |_=>exact N
     have a6:Inv Γ G w0 F0 O0 a (setBlk w (β.ob l) (.cells (j5 c (k*r.size+A) (a.eval J).cells.toList) xv (0,0))) (e.mapT (zUN id l r k y)):=by
      refine Inv.of (al:=zT e) (hc.setBlk C _ (fun c' c2 c3 D=>by rw[show w.heap[β.blk (.o l)]?=_ from g1]at D;simp at D;exact⟨_,_,_,rfl,by rw[xG,D.1]⟩)) (fun g cs hg=>(hG g cs hg).setBlk B) (by grind[Env.mapT]) bs (fun t=>by rw[vN rfl];grind) ?_ ?_
      .intro s cs K;rw[jF]at K;simp at K;obtain⟨a9,W,rfl⟩:=K;have bb:zT e (.v s):=⟨a9,W⟩
       exact⟨bb,(hv s a9 W).mapT (qU (a4 s bb)) hf⟩
      .rintro s ⟨cs,K⟩
       grind[jF]
     have bd:∀i,i=id\/i=l->zT (e.mapT (zUN id l r k y)) (.o i):=by
      intro i hi
      have cf:evx G (e.mapT (zUN id l r k y)) a0=.on ⟨id,l,r,xs,j,ys.set k y,.q k A⟩:=by
       cases a0 with
       |tmp p=>
        simp only[evx]at hp ⊢;rw[vN rfl,hp];simp[zUN]
       |const v=>grind[evx]
       |global g=>grind[evx]
       |func f=>cases hp
      cases a0 with
      |tmp p=>
       rcases qAN (e:=e.mapT (zUN id l r k y)) (t:=p) cf with hm|hm
       .exact⟨_,.inl hm,by rcases hi with rfl|rfl<;>simp[T.hasO]⟩
       .cases hm
      |const v=>grind[evx]
      |global g=>grind[evx]
      |func f=>cases hp
     have ck:=a6.frzN bk bn (bd id (.inl rfl)) (bd l (.inr rfl))
     have ch:(e.mapT (zUN id l r k y)).mapT (Ve.frzN id l)=e.mapT (zYs id l r k y):=by
      simp only[Env.mapT,dD];congr 1;refine bH (fun c _=>?_)
      cases c with
      |none=>rfl
      |some cs=>simp[zYs]
     grind
    .cases h
   .cases h
  .cases h
 |_=>simp[zDj]at h
def frzOE(id:Nat)(e:Env Γ.St):Env Γ.St:=
 match Nat.beq id jV with
 |true=>e
 |false=>e.mapT (zCC id)
theorem Inv.frzOE(hi:Inv Γ G w0 F0 O0 a w e)(id:Nat):Inv Γ G w0 F0 O0 a w (Ve.frzOE id e):=by
 unfold Ve.frzOE;split
 .exact hi
 .rename_i hb;exact hi.frzO (fun h=>by simp_all)
def frzCells(e:Env Γ.St):List T->Env Γ.St
 |[]=>e
 |.ow id _ _::r=>frzCells (frzOE id e) r
 |.ot id _ _::r=>frzCells (frzOE id e) r
 |_::r=>frzCells e r
def frzT1(x:T)(e:Env Γ.St):Env Γ.St:=
 match x with
 |.ow id _ _=>frzOE id e
 |.oe id _ _ _ _=>frzOE id e
 |.ot id _ _=>frzOE id e
 |.lp s _=>match e.var s with
  |some c=>match(frzCells e c).var s with
   |some d=>match yN d with
    |some f=>(frzCells e c).frzV s f
    |none=>frzCells e c
   |none=>frzCells e c
  |none=>e
 |_=>e
theorem Inv.frzCells:∀(cs:List T) (e:Env Γ.St),Inv Γ G w0 F0 O0 a w e->Inv Γ G w0 F0 O0 a w (Ve.frzCells e cs):=by
 intro cs
 induction cs with
 |nil=>intro e h;exact h
 |cons c cs d=>
  intro e h
  cases c with
  |ow id k f=>exact d _ (h.frzOE id)
  |ot id t xs=>exact d _ (h.frzOE id)
  |_=>exact d _ h
theorem Inv.frzT1(h:Inv Γ G w0 F0 O0 a w e)(x:T):Inv Γ G w0 F0 O0 a w (Ve.frzT1 x e):=by
 unfold Ve.frzT1;split
 .exact h.frzOE _
 .exact h.frzOE _
 .exact h.frzOE _
 .split
  .rename_i g i;have d:=Inv.frzCells g e h;split
   .rename_i j c;split
    .rename_i k f;exact d.frzV c f
    .exact d
   .exact d
  .exact h
 .exact h
def frzOps(G:Nat->Option (List V)):List Operand->Env Γ.St->Env Γ.St
 |[],e=>e
 |x::r,e=>frzOps G r (frzT1 (evx G e x) e)
theorem Inv.frzOps:∀(xs:List Operand) (e:Env Γ.St),Inv Γ G w0 F0 O0 a w e->Inv Γ G w0 F0 O0 a w (Ve.frzOps G xs e):=by
 intro xs
 induction xs with
 |nil=>intro e h;exact h
 |cons x xs c=>intro e h;exact c _ (h.frzT1 _)
end
section
variable {Γ:Sig}(P:j6)(G:Nat->Option (List V))(S:vF Γ)
def evW(e:Env Γ.St)(o:Oper):Option (Env Γ.St):=
 match o.op with
 |.store t q x=>match o.dst with
  |some _=>Sc
  |none=>match evx G e q with
   |.lp s f=>zHX e P t s f (evx G e x)
   |.oe id k g i f=>match evx G e x with
    |.p d=>zEF P e t id k g i f d
    |_=>Sc
   |.oet id l r i f=>match evx G e x with
    |.p d=>zGj P e t id l r i f d
    |.ot h u y=>zEc P e t id l i f h u y
    |_=>Sc
   |.on n=>match evx G e x with
    |.p d=>zDj P e t n d
    |_=>Sc
   |_=>Sc
 |.call c=>match uH P G e o.dst c with
  |some j=>Sa j
  |none=>match yP P G e o.dst c with
   |some j=>Sa j
   |none=>zBs P G e o.dst c
 |.mapUpdate t m k v=>match o.dst with
  |some _=>Sc
  |none=>match evx G e m,yW (evx G e k),yW (evx G e v)with
   |.mp id g z,Sa k,Sa v=>zUi P e t id g z k v
   |_,_,_=>Sc
 |_=>Sc
def zLa(e:Env Γ.St)(o:Oper):Option (Env Γ.St):=
 match evQ P G S e o with
 |some r=>zAt e o.dst r
 |none=>Sc
def zR7(o:Oper):List Operand:=
 match o.op with
 |.store _ _ x=>[x]
 |.mapUpdate _ _ _ v=>[v]
 |_=>o.op.operands.toList
def qEg(e:Env Γ.St)(o:Oper):Option (Env Γ.St):=
 match zLa P G S e o with
 |some c=>Sa c
 |none=>match evW P G e o with
  |some c=>Sa c
  |none=>match zLa P G S (frzOps G (zR7 o) e) o with
   |some c=>Sa c
   |none=>evW P G (frzOps G (zR7 o) e) o
end
section
variable {Γ:Sig}{P:Program}{G:Nat->Option (List V)}{S:vF Γ}{o:Oper}{a:Act}{w0:World}{F0:Blk->Prop}{O0:x5}{w:World}{e e':Env Γ.St}
variable {g:Exit->Act->World->Prop}
theorem zQV(hi:Inv Γ G w0 F0 O0 a w e)(h:evW P G e o=Sa e'):o.wp P a w (fun a' w'=>Inv Γ G w0 F0 O0 a' w' e') g:=by
 obtain⟨r,op,d,f,c,guard⟩:=o;unfold evW at h;split at h
 .rename_i t j x Q;cases Q;split at h
  .cases h
  .rename_i l;cases l
   have n:∀w',(Aa t (a.eval j) (a.eval x)).run P w=.ok () w'->Inv Γ G w0 F0 O0 a w' e'->(⟨Sc,.store t j x,d,f,c,guard⟩:Oper).wp P a w (fun a' w'=>Inv Γ G w0 F0 O0 a' w' e') g:=by
    intro w' u i;unfold Oper.wp;have:(execOp a.eval ⟨Sc,.store t j x,d,f,c,guard⟩).run P w=.ok .skip w':=by simp[execOp,u]
    rw[this];exact i
   split at h
   .rename_i s y z;obtain⟨w',p,q⟩:=zYB (P:=P) hi z rfl h
    grind
   all_goals grind[zRi,zYC,zWq,zYD,id]
 .grind[Option.some.injEq,zP4,zYd,zZZ]
 .rename_i t m k v Q;cases Q;split at h
  .cases h
  .rename_i l;cases l;split at h
   .rename_i id D E H I A B C;obtain⟨w',p,q⟩:=qEU (P:=P) hi A B C h;unfold Oper.wp;have:(execOp a.eval ⟨Sc,.mapUpdate t m k v,d,f,c,guard⟩).run P w=.ok .skip w':=by simp[execOp,p]
    rw[this];exact q
   .cases h
 .cases h
theorem zJ5(c:qK Γ P G S)(hi:Inv Γ G w0 F0 O0 a w e)(h:zLa P G S e o=Sa e'):o.wp P a w (fun a' w'=>Inv Γ G w0 F0 O0 a' w' e') g:=by
 grind[qG8,zLa]
theorem qB4(c:qK Γ P G S)(hi:Inv Γ G w0 F0 O0 a w e)(h:qEg P G S e o=Sa e'):o.wp P a w (fun a' w'=>Inv Γ G w0 F0 O0 a' w' e') g:=by
 unfold qEg at h;split at h
 .grind[Option.some.injEq,zJ5]
 .split at h
  .grind[Option.some.injEq,zQV]
  .split at h
   .rename_i f d;simp at h;subst h;exact zJ5 c (Inv.frzOps _ _ hi) d
   .exact zQV (Inv.frzOps _ _ hi) h
end
section
variable {Γ:Sig}(P:j6)(G:Nat->Option (List V))(S:vF Γ)
def zSf(ops:Array Oper)(e:Env Γ.St)(o:Oper):Option (Env Γ.St):=
 match vG ops e o with
 |some Sb=>qEg P G S e o
 |some Sd=>Sa (e.put o.dst (.p (.val undef)))
 |none=>Sc
def zPS(ops:Array Oper):List Oper->Env Γ.St->Option (Env Γ.St)
 |[],e=>Sa e
 |o::c,e=>match zSf P G S ops e o with
  |some d=>zPS ops c d
  |none=>Sc
def isW(o:Oper):Bool:=
 match o.op with
 |.store _ _ _=>Sb
 |.mapUpdate _ _ _ _=>Sb
 |.call c=>match c.callee with
  |.builtin .append=>Sb
  |_=>Sd
 |_=>Sd
def zDW:List Oper->Nat
 |[]=>0
 |o::r=>if isW o then 0 else zDW r+1
def zJu(ops:Array Oper)(k:Nat):Bool:=
 if k=ops.size then Sb else
 let c:=Ao ops
 qEE ops c&&(Ai ops.size).all fun j=>match ops[j]? with
  |some o=>o.after.all (fun e=> !Ab .any e||decide (e.on<j))&&(decide (j<k)||(Ai j).all fun i=>(c.getD j 0).testBit i)
  |none=>Sb
def zIB(ops:Array Oper)(k:Nat):Bool:=
 (Ai k).all fun i=>match ops[i]? with
  |some o=>match o.guard with
   |some (j,_)=>decide (j<k)
   |none=>Sb
  |none=>Sb
def zBL:List Oper->List Operand
 |[]=>[]
 |o::r=>if isCall o&& !isW o then o.op.operands.toList++zBL r else zBL r
def zNS(ops:Array Oper)(k:Nat)(e:Env Γ.St):Option (Env Γ.St):=
 match zMp P G S (ops.extract 0 k) e with
 |some c=>zPS P G S ops (ops.toList.drop k) c
 |none=>Sc
def zKO(ops:Array Oper)(e:Env Γ.St):Option (Env Γ.St):=
 if zDW ops.toList<=ops.size&&zJu ops (zDW ops.toList)&&zIB ops (zDW ops.toList)then
  match zNS P G S ops (zDW ops.toList) e with
  |some c=>Sa c
  |none=>zNS P G S ops (zDW ops.toList) (frzOps G (zBL ops.toList) e)
 else Sc
end
section
variable {Γ:Sig}{P:Program}{G:Nat->Option (List V)}{S:vF Γ}{w0:World}{F0:Blk->Prop}{O0:x5}{a:Act}{w:World}{e e':Env Γ.St}{ops:Array Oper}{k:Nat}
def zYo(P:Program)(G:Nat->Option (List V))(e:Env Γ.St)(o:Oper)(e1:Env Γ.St):Prop:=
 ∀(w0:World) (F0:Blk->Prop) (O0:x5) (a:Act) (w:World) (Q:Exit->Act->World->Prop),Inv Γ G w0 F0 O0 a w e->o.wp P a w (fun c d=>Inv Γ G w0 F0 O0 c d e1) Q
def zOj(P:Program)(G:Nat->Option (List V))(ops:Array Oper)(e:Env Γ.St)(o:Oper)(e1:Env Γ.St):Prop:=
 (vG ops e o=Sa Sb/\zYo P G e o e1)\/(vG ops e o=Sa Sd/\e1=e.put o.dst (.p (.val undef)))
inductive zLi(P:Program)(G:Nat->Option (List V))(ops:Array Oper):List Oper->Env Γ.St->Env Γ.St->Prop
 |nil (e:Env Γ.St):zLi P G ops [] e e
 |cons {o:Oper} {rest:List Oper} {e e1 e':Env Γ.St} :zOj P G ops e o e1->zLi P G ops rest e1 e'->zLi P G ops (o::rest) e e'
theorem qCP(d:qK Γ P G S){o:Oper}(h:zSf P G S ops e o=Sa e'):zOj P G ops e o e':=by
 unfold zSf at h;split at h
 .rename_i c;exact .inl ⟨c,fun w0 F0 O0 a w Q f=>qB4 d f h⟩
 .rename_i c;simp at h;exact .inr ⟨c,h.symm⟩
 .cases h
theorem qAu(d:qK Γ P G S):∀{l:List Oper} {e e':Env Γ.St},zPS P G S ops l e=Sa e'->zLi P G ops l e e':=by
 intro l
 induction l with
 |nil=>intro e e' h;cases h;exact .nil e
 |cons o l f=>
  intro e e' h;simp only[zPS]at h;split at h
  .rename_i g c;exact .cons (qCP d c) (f h)
  .cases h
variable {j:Act->World->Prop}{g:Exit->Act->World->Prop}{i:Nat}
theorem zRj{o:Oper}(hi:ops[i]?=Sa o)(h:zOj P G ops e o e')(Q:Inv Γ G w0 F0 O0 a w e)(n:∀a w,Inv Γ G w0 F0 O0 a w e'->j a w):wpOp P ops g i j a w:=by
 unfold wpOp;simp only[hi];obtain⟨F,O,β,q,r,c,K,l,u⟩:=Q;rcases h with⟨m,h⟩|⟨m,h⟩
 .rw[zKw (fun t _=>l t) c m,if_pos rfl];exact .inl (Oper.wp_mono n (h w0 F0 O0 a w g ⟨F,O,β,q,r,c,K,l,u⟩))
 .rw[zKw (fun t _=>l t) c m];simp;subst h;refine n _ _ ?_;refine Inv.of (al:=zT e) (by cases o.dst<;>exact q) r ?_ ?_ ?_ ?_ ?_
  .cases x:o.dst<;>simp[Act.put,Env.put,c]
  .cases x:o.dst<;>exact K
  .intro t
   cases x:o.dst with
   |none=>exact l t
   |some d=>
    rw[zBb];simp only[Env.put];rw[yZ,c];split
    .exact Rd.val _
    .exact l t
  .intro s y f;have:(e.put o.dst (.p (.val undef))).var s=e.var s:=by cases o.dst<;>rfl
   rw[this]at f;exact⟨⟨y,f⟩,u s y f⟩
  .intro s z;have:(e.put o.dst (.p (.val undef))).var s=e.var s:=by cases o.dst<;>rfl
   rw[this];exact z
theorem qAt(ops:Array Oper){Q:Exit->Act->World->Prop}:∀(n:Nat) (l:List Oper) (e e':Env Γ.St) (a:Act) (w:World),
  ops.toList.drop n=l->zLi P G ops l e e'->Inv Γ G w0 F0 O0 a w e->(∀a w,Inv Γ G w0 F0 O0 a w e'->Q .normal a w)->
  wpOps P ops Q (List.range' n l.length) a w:=by
 intro n l
 induction l generalizing n with
 |nil=>
  intro e e' a w _ h c d;cases h;exact d a w c
 |cons o f m=>
  intro e e' a w g h c d
  cases h with
  |cons i h=>
   rename_i p
   have j:ops[n]?=Sa o:=by
    have:(ops.toList.drop n)[0]?=Sa o:=by rw[g];rfl
    grind
   grind[Am,List.length_cons,List.range'_succ,wpOps_cons,zRj]
structure qHs(ops:Array Oper)(k:Nat):Prop where
 edge:∀(i:Nat) (o:Oper) (e:Edge),ops[i]?=Sa o->e∈o.after->Ab .any e=Sb->e.on<i
 last:∀(listed:Nat->Prop),(∀(i:Nat) (o:Oper) (e:Edge),ops[i]?=Sa o->listed i->e∈o.after->Ab .any e=Sb->listed e.on)->
  ∀(j i:Nat) (o:Oper),ops[j]?=Sa o->k<=j->i<j->(∀e,e∈o.after->Ab .any e=Sb->listed e.on)->listed i
theorem qAk(h:zJu ops k=Sb)(D:k≠ops.size):qHs ops k:=by
 unfold zJu at h;rw[if_neg D]at h;simp only[am]at h;obtain⟨f,r⟩:=h;generalize Ao ops=t at f r
 have g:∀j o,ops[j]?=Sa o->(o.after.all (fun e=> !Ab .any e||decide (e.on<j))&&(decide (j<k)||(Ai j).all fun i=>(t.getD j 0).testBit i))=true:=by
  grind
 have l:∀(i:Nat) (o:Oper) (e:Edge),ops[i]?=Sa o->e∈o.after->Ab .any e=Sb->e.on<i:=by
  intro i o e m K L;have n:=g i o m;rw[am]at n
  grind[Array.all_eq_true_iff_forall_mem]
 have E:∀(c:Nat->Prop),(∀(i:Nat) (o:Oper) (e:Edge),ops[i]?=Sa o->c i->e∈o.after->Ab .any e=Sb->c e.on)->
   ∀(i:Nat) (o:Oper) (j:Nat),ops[i]?=Sa o->j<i->(t.getD i 0).testBit j=Sb->(∀e,e∈o.after->Ab .any e=Sb->c e.on)->c j:=by
  intro c d i
  induction i using Nat.strongRecOn with
  |_ i M=>
   intro o j m F u N;have hlt:i<ops.size:=(ar.1 m).1;have n:=au.1 f i (aV.2 hlt);simp only[m]at n;have x:=au.1 n j (aV.2 F);simp only[u,bI,bY,dh,am,bO,decide_eq_true_eq,beq_iff_eq]at x;obtain⟨e,K,⟨L,H⟩,O⟩:=x;have y:=N e K L;rcases O with rfl|⟨z,p⟩
   .exact y
   .have A:e.on<ops.size:=by omega
    have B:ops[e.on]?=Sa ops[e.on]:=by simp[A]
    exact M e.on H ops[e.on] j B z p (fun Q I J=>d e.on _ Q B y I J)
 refine⟨l,?_⟩;intro c d j i o m W C q;have n:=g j o m;rw[am]at n;have x:=n.2;simp only[bO,decide_eq_true_eq]at x;have Y:=x.resolve_left (by omega);exact E c d j o i m C (au.1 Y i (aV.2 C)) q
theorem zYq(D:qHs ops k):∀(l:List Oper) (j:Nat) (e e':Env Γ.St) (d:Nat) (c:Array Bool) (a:Act) (w:World),
  k<=j->ops.toList.drop j=l->zLi P G ops l e e'->c.size=ops.size->(∀i,i<ops.size->c.getD i Sb=decide (i<j))->Inv Γ G w0 F0 O0 a w e->l.length<=d->
  (∀a w,Inv Γ G w0 F0 O0 a w e'->g .normal a w)->wpAny P .any ops g d c a w:=by
 intro l
 induction l with
 |nil=>
  intro j e e' d c a w E F Q z q p f M;cases Q;have W:ops.size<=j:=by simpa using F
  have Y:Aj .any ops c=[]:=by
   apply bD.2
   grind[mem_ready,Array.getElem?_eq_some_iff]
  grind[wpAny_done]
 |cons o A Z=>
  intro j e e' d c a w E F Q z q p f M
  cases Q with
  |cons H Q=>
   rename_i e1
   have m:ops[j]?=Sa o:=by
    have:(ops.toList.drop j)[0]?=Sa o:=by rw[F];rfl
    grind
   have N:j<ops.size:=(ar.1 m).1;have r:ops.toList.drop (j+1)=A:=by grind[Am]
   cases d with
   |zero=>simp at f
   |succ d=>
    have t:∀(i:Nat) (o:Oper) (e:Edge),ops[i]?=Sa o->c.getD i Sb=Sb->e∈o.after->Ab .any e=Sb->c.getD e.on Sb=true:=by
     intro i B u C ab x I;have hlt:i<ops.size:=(ar.1 C).1;have J:=D.edge i B u C x I
     grind
    refine⟨fun Y=>?_,?_⟩
    .exfalso
     have:j∈Aj .any ops c:=by
      rw[mem_ready];refine⟨by grind,o,m,?_⟩;intro u x I;have J:=D.edge j o u m x I
      grind
     grind
    .intro i C;obtain⟨ad,B,O,K⟩:=mem_ready.1 C;have hlt:i<ops.size:=(ar.1 O).1;have ag:j<=i:=by grind
     have n:∀u,u∈B.after->Ab .any u=Sb->c.getD u.on Sb=true:=by
      grind
     have L:i=j:=by
      rcases a8 j i with h|h
      .exfalso;have:=D.last (fun k=>c.getD k Sb=Sb) t i j B O (by omega) h n
       grind
      .omega
     subst L;refine zRj m H p ?_;intro a' w' y;refine Z (i+1) e1 e' d _ a' w' (by omega) r Q (by simpa using z) ?_ y (by simpa using f) M
     grind[vW]
theorem zGY(hi:i<k):(ops.extract 0 k)[i]?=ops[i]? :=by
 grind
theorem zUL(hi:i<k)(d:zIB ops k=Sb)(h:wpOp P (ops.extract 0 k) g i j a w):wpOp P ops g i j a w:=by
 unfold wpOp at*
 rw[zGY hi]at h
 cases f:ops[i]? with
 |none=>grind
 |some o=>
  rw[f]at h;simp only at h ⊢
  have m:Ak o (yielded (ops.extract 0 k) a.tmps)=Ak o (yielded ops a.tmps):=by
   unfold Ak
   cases Q:o.guard with
   |none=>rfl
   |some l=>obtain⟨K,c⟩:=l;have n:=au.1 d i (aV.2 hi);simp_all[zGY,yielded]
  grind
theorem zV7(hm:k<=ops.size)(L:zSO (ops.extract 0 k))(Y:zJu ops k=Sb)(a1:zIB ops k=Sb)(hS:qK Γ P G S){p:Nat->Γ.St}{e1 e':Env Γ.St}(x:∀(i:Nat) (o:Oper),(ops.extract 0 k)[i]?=Sa o->zGu P G S (ops.extract 0 k) e1 (p i) o (p (i+1)))(a2:p k=e1.st)(u:zLi P G ops (ops.toList.drop k) e1 e')(hQ:∀a w,Inv Γ G w0 F0 O0 a w e'->g .normal a w):∀(d:Nat) (c:Array Bool) (a:Act) (w:World),c.size=ops.size->
  c.count Sd<=d->(∀i,k<=i->i<ops.size->c.getD i Sb=Sd)->
  (∀(i:Nat) (o:Oper) (e:Edge),ops[i]?=Sa o->c.getD i Sb=Sb->e∈o.after->Ab .any e=Sb->c.getD e.on Sb=Sb)->
  (∃F O β al m,qCA Γ G w0 F0 O0 (ops.extract 0 k) e1 p (c.extract 0 k) a w F O β al m)->wpAny P .any ops g d c a w:=by
 have bo:(ops.extract 0 k).size=k:=by simp;omega
 have Z:∀(c:Array Bool) (i:Nat),i<k->(c.extract 0 k).getD i Sb=c.getD i true:=by
  intro c i hi;simp
  grind
 have y:∀(c:Array Bool) (a:Act) (w:World),(∀i,i<k->c.getD i Sb=Sb)->(∃F O β al m,qCA Γ G w0 F0 O0 (ops.extract 0 k) e1 p (c.extract 0 k) a w F O β al m)->Inv Γ G w0 F0 O0 a w e1:=by
  rintro c a w f ⟨F,O,β,al,m,r⟩
  have ab:∀t,zLE (ops.extract 0 k) (c.extract 0 k) t:=fun t i o ho M=>by
   grind
  have bs:∀q,m+q<=k->p (m+q)=p m:=by
   intro q
   induction q with
   |zero=>intro _;rfl
   |succ q ih=>
    intro hq;have hlt:m+q< (ops.extract 0 k).size:=by omega
    have hj:(ops.extract 0 k)[m+q]?=Sa (ops.extract 0 k)[m+q]:=by grind
    have b0:isCall (ops.extract 0 k)[m+q]=false:=by
     cases hc:isCall (ops.extract 0 k)[m+q]with
     |false=>rfl
     |true=>have:=(r.calls _ _ hj hc).1 (by grind);omega
    rw[<-ih (by omega)];rcases x (m+q) _ hj with⟨_,r',be,N,_,_⟩|⟨_,N,_⟩
    all_goals grind[Nat.add_assoc,zCW,zO3]
  have bk:=r.mle
  have ad:p m=e1.st:=by
   grind[Nat.add_sub_cancel']
  refine Inv.of (al:=al) (by rw[<-ad];exact r.core) r.g r.size r.defers (fun t=>r.tm t (ab t)) ?_ r.lp;intro s cs ag;have ha:=r.vk s cs ag (ab s);exact⟨ha,r.var s cs ag ha⟩
 have B:∀(d:Nat) (c:Array Bool) (a:Act) (w:World),c.size=ops.size->c.count Sd<=d->(∀i,k<=i->i<ops.size->c.getD i Sb=Sd)->
   (∀i,i<k->c.getD i Sb=Sb)->Inv Γ G w0 F0 O0 a w e1->wpAny P .any ops g d c a w:=by
  intro d c a w A z C f an;by_cases H:k=ops.size
  .have ao:ops.toList.drop k=[]:=by rw[H];simp
   rw[ao]at u;cases u
   have hr:Aj .any ops c=[]:=by
    apply bD.2
    grind[mem_ready,Array.getElem?_eq_some_iff]
   grind[wpAny_done]
  .have l:=qAk Y H;refine zYq l _ k e1 e' d c a w (ai _) rfl u A ?_ an ?_ hQ
   .grind
   .have b1:(ops.toList.drop k).length<=c.count false:=by
     have h1:c=c.extract 0 k++c.extract k c.size:=by
      apply zQ0;intro i;rw[Array.getElem?_append];simp only[Array.size_extract,cV]
      grind
     have h2:c.extract k c.size=Ad (c.size-k) false:=by
      apply zQ0;intro i;rw[cV,bJ];by_cases hi:i<c.size-k
      .rw[if_pos (by omega),if_pos hi];have:=C (k+i) (by omega) (by omega);rw[bf,aD (by omega),dy]at this;rw[aD (by omega),this]
      grind
     rw[h1,Array.count_append,h2];simp;omega
    omega
 intro d
 induction d with
 |zero=>
  intro c a w A z C D r
  have f:∀i,i<k->c.getD i Sb=true:=by
   intro i hi
   cases M:c.getD i Sb with
   |true=>rfl
   |false=>
    exfalso;have h0:c.count Sd=0:=by omega
    rw[dI]at h0;apply h0;have h:i<c.size:=by omega
    simp[h]at M
    grind
  exact B 0 c a w A z C f (y c a w f r)
 |succ d ih=>
  intro c a w A z C D r;by_cases f:∀i,i<k->c.getD i Sb=Sb
  .exact B (d+1) c a w A z C f (y c a w f r)
  .have ap:∃i,i<k/\c.getD i Sb=Sd/\∀j,j<i->c.getD j Sb=true:=by
    have:∀n,n<=k->(∀i,i<n->c.getD i Sb=Sb)\/∃i,i<n/\c.getD i Sb=Sd/\∀j,j<i->c.getD j Sb=true:=by
     intro n
     induction n with
     |zero=>grind
     |succ n a3=>
      intro hn;rcases a3 (by omega)with h|⟨i,h1,h2,h3⟩
      .cases M:c.getD n Sb with
       |true=>grind
       |false=>grind
      grind
    rcases this k (ai _)with h|⟨i,h1,h2,h3⟩
    all_goals grind
   obtain⟨W,b2,av,bn⟩:=ap;refine⟨fun hr=>?_,?_⟩
   .exfalso;have hlt:W<ops.size:=by omega
    have:W∈Aj .any ops c:=by
     rw[mem_ready];refine⟨av,ops[W],by simp[hlt],?_⟩;intro I J hb;have a4:=L.edge W ops[W] I (by grind) J hb
     grind
    grind
   .intro i hi;obtain⟨a5,o,ho,a6⟩:=mem_ready.1 hi;have hlt:i<ops.size:=(ar.1 ho).1;have E:i<c.size:=by omega
    have K:∀I,I∈o.after->Ab .any I=Sb->c.getD I.on Sb=true:=by
     grind[Nat.lt_or_ge,qFI,Array.getD_eq_getD_getElem?,Array.getElem?_eq_none]
    have ax:i<k:=by
     rcases a8 i k with h|h
     .exact h
     .exfalso;have H:k≠ops.size:=by omega
      have l:=qAk Y H;have:=l.last (fun q=>c.getD q Sb=Sb) D i W o ho h (by omega) K
      grind
    obtain⟨F,O,β,al,m,r⟩:=r;refine zUL ax a1 ?_;refine zTV L hS x r (by simp;omega) ?_ (by rw[zGY ax];exact ho) (by grind) ?_ ?_
    .intro j oj I hj M J hb;have a9:j<k:=by grind
     have a4:=L.edge j oj I hj J hb;rw[Z c j a9]at M;rw[Z c I.on (by omega)]
     grind[zGY]
    .grind
    .intro a' w' F' O' β' bb m' ay
     have a0:(c.extract 0 k).setIfInBounds i Sb=(c.setIfInBounds i Sb).extract 0 k:=by
      apply zQ0;intro q;rw[cV];by_cases hq:q=i
      .subst hq;rw[Array.getElem?_setIfInBounds_self_of_lt (by simp;omega),if_pos (by simp;omega)]
       grind
      .rw[bC (c9 hq),cV];simp only[Array.size_setIfInBounds,bz];rw[bC (c9 hq)]
     rw[a0]at ay;refine ih (c.setIfInBounds i Sb) a' w' (by simpa using A) ?_ ?_ ?_ ⟨F',O',β',bb,m',ay⟩
     .have bd:c[i]=false:=by simpa[E]using a5
      rw[Array.setIfInBounds_def,dif_pos E,Array.count_set E,bd];simp;omega
     .intro q b3 b4;rw[vW _ _ _ E,if_neg (by omega)];grind
     .intro j oj I hj M J hb;rw[vW _ _ _ E]at M ⊢;split
      .rfl
      .by_cases b5:j=i;all_goals grind
theorem zUr(n:P.follows .mixedOrders=Sb)(Z:qK Γ P G S)(hi:Inv Γ G w0 F0 O0 a w e)(hk:k<=ops.size)(B:zJu ops k=Sb)(C:zIB ops k=Sb){e1:Env Γ.St}(Q:zMp P G S (ops.extract 0 k) e=Sa e1)(D:zLi P G ops (ops.toList.drop k) e1 e')(hQ:∀a w,Inv Γ G w0 F0 O0 a w e'->g .normal a w):(Code.region i ops Sb).wp P g a w:=by
 .unfold zMp at Q;split at Q
  .rename_i E;have p:=zTI E;have H:=zSL p 0 (ops.extract 0 k).toList (by simp)
   have I:∀d,d∈qY (ops.extract 0 k).toList->(killAll (qY (ops.extract 0 k).toList) e).var d=none:=by
    intro d Y
    cases J:(killAll (qY (ops.extract 0 k).toList) e).var d with
    |none=>rfl
    |some z=>exact absurd ⟨z,J⟩ (zB5 _ e d Y).1
   obtain⟨q,h0,hn,h,hg,J,hl⟩:=zIJ _ _ _ Q H I;have ab:(ops.extract 0 k).size=k:=by simp;omega
   have f:∀(id:Nat) (o:Oper),(ops.extract 0 k)[id]?=Sa o->zGu P G S (ops.extract 0 k) e1 (q id) o (q (id+1)):=fun id o A=>h id o (by grind);refine wp_region_any n ?_;obtain⟨F,O,β,hc,hG,ad,K,ht,ag⟩:=(hi.killAll (qY (ops.extract 0 k).toList)).drew (w.drawn+1) (cW _)
   have r:(Ad ops.size Sd).extract 0 k=Ad k false:=by
    grind
   have j:∀t,zLE (ops.extract 0 k) (Ad k Sd) t->t ∉ qY (ops.extract 0 k).toList:=by
    intro t l u;simp only[qY,br]at u;obtain⟨o,L,Y⟩:=u;obtain⟨id,M,rfl⟩:=aC L;have c:id< (ops.extract 0 k).size:=by simpa using M
    refine l id (ops.extract 0 k)[id] (aD c) (by simp_all) (by grind)
   refine zV7 hk p B C Z f (by grind) D hQ ops.size _ a _ (by simp) (by simp) ?_ ?_ ⟨F,O,β,zT (killAll (qY (ops.extract 0 k).toList) e),0,?_⟩
   .simp_all
   .intro id o ed A x;have c:id<ops.size:=(ar.1 A).1;simp[c]at x
   .rw[r];refine⟨by rw[h0];exact hc,hG,by omega,K,?_,?_,?_,?_,?_,aW _,?_⟩
    .grind
    .intro s z m N;obtain⟨W,y⟩:=N
     grind
    .intro s N;obtain⟨W,y⟩:=N
     grind
    .intro s z m l;rw[J s (j s l)]at m;exact⟨z,m⟩
    .grind[zB5,Array.mem_of_getElem?,qY]
    .intro id o A _;have c:id< (ops.extract 0 k).size:=(ar.1 A).1;have:id<k:=by omega
     simp[this]
  .cases Q
theorem zUs(d:P.follows .mixedOrders=Sb)(id:qK Γ P G S)(hi:Inv Γ G w0 F0 O0 a w e)(j:k<=ops.size)(f:zJu ops k=Sb)(Q:zIB ops k=Sb)(c:zNS P G S ops k e=Sa e')(l:∀a w,Inv Γ G w0 F0 O0 a w e'->g .normal a w):(Code.region i ops Sb).wp P g a w:=by
 unfold zNS at c;split at c
 .rename_i m h;exact zUr d id hi j f Q h (qAu id c) l
 .cases c
theorem qCe(f:P.follows .mixedOrders=Sb)(Q:qK Γ P G S)(hi:Inv Γ G w0 F0 O0 a w e)(c:zKO P G S ops e=Sa e')(h:∀a w,Inv Γ G w0 F0 O0 a w e'->g .normal a w):(Code.region i ops Sb).wp P g a w:=by
 unfold zKO at c;split at c
 .rename_i d;simp at d;obtain⟨⟨id,j⟩,l⟩:=d;split at c
  .grind[Option.some.injEq,zUs]
  .exact zUs f Q (Inv.frzOps _ _ hi) id j l c h
 .cases c
end
inductive X where
 |normal
 |exit (id:Nat)
 |ret
def X.toExit:X->Exit
 |.normal=>.normal
 |.exit id=>.exit id
 |.ret=>.ret
def X.out(id:Nat):X->X
 |.exit a=>if a=id then .normal else .exit a
 |x=>x
section
variable {Γ:Sig}(P:j6)(G:Nat->Option (List V))(S:vF Γ)
inductive Ev:Code->Env Γ.St->X->Env Γ.St->Prop
 |skip (e):Ev .skip e .normal e
 |seqN {x y:Code} {e e1 e2:Env Γ.St} {k:X} :Ev x e .normal e1->Ev y e1 k e2->Ev (.seq x y) e k e2
 |seqX {x y:Code} {e e1:Env Γ.St} {k:X} :Ev x e k e1->k≠ .normal->Ev (.seq x y) e k e1
 |condT {c:Operand} {x y:Code} {e e1:Env Γ.St} {k:X} :evx G e c=.p (.val (.bool Sb))->Ev x e k e1->Ev (.cond c x y) e k e1
 |condF {c:Operand} {x y:Code} {e e1:Env Γ.St} {k:X} :evx G e c=.p (.val (.bool Sd))->Ev y e k e1->Ev (.cond c x y) e k e1
 |block {id:Nat} {c:Code} {e e1:Env Γ.St} {k:X} :Ev c e k e1->Ev (.block id c) e (k.out id) e1
 |loop {c:Code} {e e1:Env Γ.St} {k:X} (n:Nat) (es:Nat->Env Γ.St):es 0=e->(∀i,i<n->Ev c (es i) .normal (es (i+1)))->Ev c (es n) k e1->k≠ .normal->Ev (.loop c) e k e1
 |exit (id:Nat) (e):Ev (.exit id) e (.exit id) e
 |ret (e):Ev .ret e .ret e
 |seqR {id:Nat} {ops:Array Oper} {e e1:Env Γ.St} :zPS P G S ops ops.toList e=Sa e1->Ev (.region id ops Sd) e .normal e1
 |drawR {id:Nat} {ops:Array Oper} {e e1:Env Γ.St} :zKO P G S ops e=Sa e1->Ev (.region id ops Sb) e .normal e1
end
section
variable {Γ:Sig}{P:Program}{G:Nat->Option (List V)}{S:vF Γ}{w0:World}{F0:Blk->Prop}{O0:x5}
theorem qA3{c:Code}{Q:Exit->Act->World->Prop}(J:Nat->Act->World->Prop)
  (round:∀n a w,J n a w->c.wp P (Exit.then (fun a' w'=>∃m,m<n/\J m a' w') Q) a w) {n:Nat} {a:Act} {w:World} (t:J n a w):(Code.loop c).wp P Q a w:=by
 intro b k j
 have p:∀n a w,J n a w->∃e a' w',Q e a' w'/\Arrives P (lone (b.at a (.code c:: .inLoop c::k)) j w) b k j e a' w':=by
  intro n
  induction n using Nat.strongRecOn with
  |_ n u=>
   intro a w y;obtain⟨e,h,i,f,d⟩:=round n a w y b (.inLoop c::k) j
   cases e with
   |normal=>
    obtain⟨m,hlt,q⟩:=f;obtain⟨z,A,B,r,g⟩:=u m hlt h i q;exact⟨z,A,B,r,.of_steps (Steps.trans d (.one step_inLoop)) g⟩
   |exit id=>exact⟨_,h,i,f,.pass (x:=.inLoop c) rfl (fun _ _=>.inl (by simp)) d⟩
   |goto l=>exact⟨_,h,i,f,.pass (x:=.inLoop c) rfl (fun _ _=>.inl (by simp)) d⟩
   |ret=>exact⟨_,h,i,f,.pass (x:=.inLoop c) rfl (fun _ _=>.inl (by simp)) d⟩
   |panic C=>exact⟨_,h,i,f,.pass (x:=.inLoop c) rfl (fun _ _=>.inl (by simp)) d⟩
   |outgrown=>exact⟨_,h,i,f,.pass (x:=.inLoop c) rfl (fun _ _=>.inl (by simp)) d⟩
 obtain⟨e,a',w',f,d⟩:=p n a w t;exact⟨e,a',w',f,.of_steps (.one step_loop) d⟩
theorem qGQ(N:P.follows .mixedOrders=Sb)(M:qK Γ P G S){c:Code}{e e':Env Γ.St}{k:X}(h:Ev P G S c e k e'):∀{a:Act} {w:World},Inv Γ G w0 F0 O0 a w e->
  c.wp P (fun m a' w'=>m=k.toExit/\Inv Γ G w0 F0 O0 a' w' e') a w:=by
 induction h with
 |skip e=>intro a w f;exact wp_skip ⟨rfl,f⟩
 |seqN C q d r=>
  intro a w f;refine wp_seq (wp_mono (d f) ?_);rintro m a' w' ⟨rfl,g⟩;exact r g
 |seqX C I d=>
  rename_i x y p t k;intro a w f;refine wp_seq (wp_mono (d f) ?_);rintro m a' w' ⟨rfl,g⟩
  cases k with
  |normal=>grind
  |exit id=>exact⟨rfl,g⟩
  |ret=>exact⟨rfl,g⟩
 |condT J C d=>
  rename_i K W Y p t Z;intro a w f;obtain⟨F,O,β,u,D,z,A,E,L⟩:=f;have q:=uS (e:=p) D E K;rw[J]at q;exact wp_cond_true (Rd.eq_val q) (d ⟨F,O,β,u,D,z,A,E,L⟩)
 |condF J C d=>
  rename_i K W Y p t Z;intro a w f;obtain⟨F,O,β,u,D,z,A,E,L⟩:=f;have q:=uS (e:=p) D E K;rw[J]at q;exact wp_cond_false (Rd.eq_val q) (d ⟨F,O,β,u,D,z,A,E,L⟩)
 |block C d=>
  rename_i id c p t k;intro a w f;refine wp_block (wp_mono (d f) ?_);rintro m a' w' ⟨rfl,g⟩
  cases k with
  |normal=>exact⟨rfl,g⟩
  |exit ab=>
   simp[X.toExit,Exit.inBlock,X.out]
   grind
  |ret=>exact⟨rfl,g⟩
 |loop n es h0 C q I d r=>
  rename_i c p t k;intro a w f;refine qA3 (fun j a w=>∃i,i+j=n/\Inv Γ G w0 F0 O0 a w (es i)) ?_ (n:=n) ⟨0,by omega,by rw[h0];exact f⟩;rintro j a w ⟨i,ad,g⟩;by_cases hlt:i<n
  .refine wp_mono (d i hlt g) ?_;rintro m a' w' ⟨rfl,l⟩;exact⟨j-1,by omega,i+1,by omega,l⟩
  .obtain rfl:i=n:=by omega
   refine wp_mono (r g) ?_;rintro m a' w' ⟨rfl,l⟩
   cases k with
   |normal=>grind
   |exit id=>exact⟨rfl,l⟩
   |ret=>exact⟨rfl,l⟩
 |exit id e=>intro a w f;exact wp_exit ⟨rfl,f⟩
 |ret e=>intro a w f;exact wp_ret ⟨rfl,f⟩
 |seqR B=>
  rename_i id H p t;intro a w f;refine wp_region ?_;have:=qAt (Q:=fun m a' w'=>m=X.toExit .normal/\Inv Γ G w0 F0 O0 a' w' t) H 0 H.toList p t a w (by simp) (qAu M B) f (fun a w h=>⟨rfl,h⟩)
  grind[List.range_eq_range']
 |drawR B=>intro a w f;exact qCe N M f B (fun a w h=>⟨rfl,h⟩)
end
section
variable {St:Type}(P:j6)(e:Env St)
def zYb:List T->Option (List V)
 |[]=>Sa []
 |x::r=>match zKn e x,zYb r with
  |some d,Sa c=>Sa (d::c)
  |_,_=>Sc
def zU9(t:TypeId):T->Option V
 |.p (.pp d)=>ldV P t d
 |.lp s c=>match e.var s with
  |some d=>match zGf P t with
   |some Sb=>match wB P t with
    |some n=>if n<=(d.drop c).length then(zYb e ((d.drop c).take n)).map .agg else Sc
    |none=>Sc
   |some Sd=>match(d.drop c).head? with
    |some x=>zKn e x
    |none=>Sc
   |none=>Sc
  |none=>Sc
 |_=>Sc
def qDa:ResultVar->Option V
 |.tmp t=>zKn e (e.get t)
 |.cell t c=>zU9 P e c (e.get t)
def zHG:List ResultVar->Option (List V)
 |[]=>Sa []
 |x::r=>match qDa P e x,zHG r with
  |some d,Sa c=>Sa (d::c)
  |_,_=>Sc
def zDP(fn:Func):Option RV:=
 match fn.results.toList with
 |[.tmp t]=>match e.get t with
  |.emp=>Sa (.own [])
  |.ow _ _ []=>Sa (.p (.sl []))
  |.ow _ _ (x::c)=>Sa (.own (x::c))
  |.ot _ t d=>Sa (.ownT t d)
  |x=>(zKn e x).map .p
 |[r]=>(qDa P e r).map .p
 |f=>(zHG P e f).map (fun g=>.p (.tup g))
end
def zIi(n:Nat)(ds:List V):List T:=ds.map .p++An (n-ds.length) (.p (.val undef))
def start{St:Type}(n:Nat)(s:St)(ds:List V):Env St:= { tm:=zIi n ds,vars:=An n Sc,st:=s }
section
variable {Γ:Sig}{P:Program}{G:Nat->Option (List V)}{S:vF Γ}{e:Env Γ.St}{a:Act}{w:World}{F:Blk->Prop}{β:Lay}{al:v6->Prop}
theorem qCr(c:∀s cs,e.var s=Sa cs->al (.v s)->w6 w F β al (β.vb s) cs):∀(xs:List T) (vs:List Value) (ds:List V),xs.length=vs.length->
  (∀(i:Nat) (v:Value) (x:T),vs[i]?=Sa v->xs[i]?=Sa x->zY w F β al v x)->zYb e xs=Sa ds->
  vs.length=ds.length/\∀(i:Nat) (v:Value) (d:V),vs[i]?=Sa v->ds[i]?=Sa d->Rd w (Fal F β al) v d:=by
 intro xs
 induction xs with
 |nil=>
  intro vs ds f _ h;simp[zYb]at h;grind
 |cons x xs n=>
  intro vs ds f k h
  cases vs with
  |nil=>simp at f
  |cons v vs=>
   simp only[zYb]at h;split at h
   .rename_i d g p j;cases h;obtain⟨q,z⟩:=n vs g (by simpa using f) (fun i v x r t=>k (i+1) v x (by simpa using r) (by simpa using t)) j;refine⟨by simpa using q,?_⟩;intro i u y l m
    cases i with
    |zero=>simp at l m;subst l m;exact(zKm c (k 0 v x rfl rfl) p).1
    |succ i=>grind
   .cases h
theorem zWV(f:∀s cs,e.var s=Sa cs->al (.v s)->w6 w F β al (β.vb s) cs){t:TypeId}{x:T}{v:Value}{d:V}
  (l:zY w F β al v x) (h:zU9 P e t x=Sa d):∃B u,v=.pointer (Sa B)/\(loadVar t B).run P w=.ok u w/\Rd w (Fal F β al) u d:=by
 unfold zU9 at h;split at h
 .rename_i cs
  cases l with
  |pp b c cs g Q q H=>
   obtain⟨u,r,p⟩:=zQP (P:=P) q H h;refine⟨⟨b,c,Sc⟩,u,rfl,?_,p.mono (fun b I=>.inl I) (fun _ _=>rfl)⟩
   grind[Al,Ae]
 .rename_i s c;obtain⟨J,rfl⟩:=l;split at h
  .rename_i cs y;have C:=f s cs y J;split at h
   .rename_i j;split at h
    .rename_i n K;split at h
     .rename_i z;simp at h;obtain⟨D,A,rfl⟩:=h;simp at z;let g:Nat->Value:=fun m=>(w.cell? ⟨β.vb s,c+m,Sc⟩).getD undef
      have q:∀m,m<n->w.cell? ⟨β.vb s,c+m,Sc⟩=Sa (g m)/\∀x,((cs.drop c).take n)[m]?=Sa x->zY w F β al (g m) x:=fun m E=>by
       obtain⟨x,r,p⟩:=C.at (c+m) (by omega)
       grind
      have k:=zFZ (P:=P) j K (fun m E=>(q m E).1)
      obtain⟨L,M⟩:=qCr f ((cs.drop c).take n) ((Ai n).map g) D (by simp;omega) (by
       grind) A
      refine⟨_,_,rfl,by simpa[Al,Ae]using k,?_⟩;exact Rd.agg _ D (by simpa using L) (fun i x d N O=>M i x d (by simpa using N) O)
     .cases h
    .cases h
   .rename_i j;split at h
    .rename_i x l
     have hlt:c<cs.length:=by
      grind[Nat.lt_or_ge,List.drop_eq_nil_of_le]
     rw[List.head?_drop,ah hlt,ac]at l;subst l;obtain⟨x,r,p⟩:=C.at c hlt;have k:=zCb (P:=P) j r;exact⟨_,x,rfl,by grind[Al,Ae],(zKm f p h).1⟩
    .cases h
   .cases h
  .cases h
 .cases h
def zTR(tmps:Array Value):ResultVar->Sem Value
 |.tmp t=>pure (tmps.getD t undef)
 |.cell x t=>do loadVar t (<-asAddr (tmps.getD x undef))
theorem zL6(fn:Func)(tmps:Array Value):results fn tmps=(do
  let vs<-fn.results.mapM (zTR tmps)
  pure (if h:vs.size=1 then vs[0]else .tuple vs)):=by
 unfold results;congr 1
theorem qC9(c:∀s cs,e.var s=Sa cs->al (.v s)->w6 w F β al (β.vb s) cs)(f:∀t,zY w F β al (a.tmps.getD t undef) (e.get t)){r:ResultVar}{d:V}
  (h:qDa P e r=Sa d):∃u,(zTR a.tmps r).run P w=.ok u w/\Rd w (Fal F β al) u d:=by
 cases r with
 |tmp t=>exact⟨_,rfl,(zKm c (f t) h).1⟩
 |cell t g=>
  obtain⟨i,u,j,k,l⟩:=zWV (P:=P) c (f t) h
  grind[Af,Ah,Ac,zTR,asAddr]
theorem zKy(c:∀s cs,e.var s=Sa cs->al (.v s)->w6 w F β al (β.vb s) cs)(k:∀t,zY w F β al (a.tmps.getD t undef) (e.get t)):∀(f:List ResultVar) (ds:List V),
  zHG P e f=Sa ds->∃us,(f.mapM (zTR a.tmps)).run P w=.ok us w/\us.length=ds.length/\
   ∀(i:Nat) (v:Value) (d:V),us[i]?=Sa v->ds[i]?=Sa d->Rd w (Fal F β al) v d:=by
 intro f
 induction f with
 |nil=>intro ds h;simp[zHG]at h;simp_all
 |cons r f l=>
  intro ds h;simp only[zHG]at h;split at h
  .rename_i d g m j;cases h;obtain⟨u,p,q⟩:=qC9 (P:=P) c k m;obtain⟨us,x,n,y⟩:=l g j;refine⟨u::us,?_,by simpa using n,?_⟩;all_goals grind[Af,Ac,Ah]
  .cases h
theorem zO2{j:World}{W:Blk->Prop}{K:x5}(ay:K.l=Sc)(hi:Inv Γ G j W K a w e){fn:Func}{r:RV}(h:zDP P e fn=Sa r):
  ∃(v:Value) (F':Blk->Prop) (O':Nat->Prop),(results fn a.tmps).run P w=.ok v w/\Γ.R e.st F' O' w/\xC K.o j w/\(∀b,O' b->K.o b\/j.heap.size<=b)/\zBU Γ.wk j.heap.size W F'/\
   (∀b:Nat,F' b->(W b\/j.heap.size<=b)/\b<w.heap.size/\¬O' b)/\zAM j.heap.size w F' O' v r:=by
 obtain⟨F,O,β,c,hG,a1,a2,ht,hv⟩:=hi;have f:xC K.o j w:=⟨c.keep.os,c.keep.tape,c.keep.output,c.keep.size,fun b hb ho=>c.keep.block b hb (fun h=>h.elim ho (fun⟨n,h⟩=>by grind)),c.keep.drawn⟩
 have q:∀x b,zYp j K x b->j.heap.size<=b:=fun x b h=>h.elim (fun h=>h.2) (fun⟨_,n,h⟩=>by grind);have y:∀s cs,e.var s=Sa cs->zT e (.v s)->w6 w F β (zT e) (β.vb s) cs:=fun s cs an _=>hv s cs an
 have L:∀b:Nat,Fal F β (zT e) b->(W b\/j.heap.size<=b)/\b<w.heap.size/\¬O b:=by
  rintro b (hb|⟨x,z,Y⟩)
  .exact c.fin b hb
  .have Y:=zCq Y;subst Y;obtain⟨Z,M,h3,h4⟩:=c.place x z
   grind
 have A:Γ.R e.st (Fal F β (zT e)) O w:=Γ.mono c.sig (fun x z=>⟨fun h=>h.elim (fun h=>h) (fun⟨_,_,h⟩=>by subst h;cases z),.inl⟩) (fun _ _=>rfl) (fun _ _ h=>⟨.inl h,rfl⟩);have B:zBU Γ.wk j.heap.size W (Fal F β (zT e)):=c.f0.trans ⟨fun _ h=>.inl h,fun _ h=>h.elim .inl (fun⟨_,_,h⟩=>by cases h)⟩ (ai _)
 have C:∀D,(fn.results.toList.mapM (zTR a.tmps)).run P w=.ok D w->
   (results fn a.tmps).run P w=.ok (if h:D.length=1 then D[0]else .tuple D.toArray) w:=by
  grind[zL6,Array.mapM_eq_mapM_toList,Af,Sem.run_map,Ac,Ah]
 have N:∀(v:Value) (d:V),(results fn a.tmps).run P w=.ok v w->Rd w (Fal F β (zT e)) v d->
   ∃(v:Value) (F':Blk->Prop) (O':Nat->Prop),(results fn a.tmps).run P w=.ok v w/\Γ.R e.st F' O' w/\xC K.o j w/\(∀b,O' b->K.o b\/j.heap.size<=b)/\zBU Γ.wk j.heap.size W F'/\
   (∀b:Nat,F' b->(W b\/j.heap.size<=b)/\b<w.heap.size/\¬O' b)/\zAM j.heap.size w F' O' v (.p d):=
  fun v d Z M=>⟨v,Fal F β (zT e),O,Z,A,f,c.oin,B,L,M⟩
 have ad:∀r0,fn.results.toList=[r0]->∀d,qDa P e r0=Sa d->∃v,(results fn a.tmps).run P w=.ok v w/\Rd w (Fal F β (zT e)) v d:=by
  intro r0 hr d hd;obtain⟨D,Z,M,h3⟩:=zKy (P:=P) y ht [r0] [d] (by simp[zHG,hd])
  cases D with
  |nil=>simp at M
  |cons u D=>
   cases D with
   |cons _ _=>simp at M
   |nil=>have:=C [u] (by rw[hr];exact Z);exact⟨u,by simpa using this,h3 0 u d rfl rfl⟩
 unfold zDP at h;split at h
 .rename_i t E;have g:(results fn a.tmps).run P w=.ok (a.tmps.getD t undef) w:=by have:=C [a.tmps.getD t undef] (by rw[E];rfl);simpa using this
  have Q:=ht t;split at h
  .rename_i z;cases h;rw[z]at Q;obtain⟨a0,ao⟩:=Q;exact⟨_,Fal F β (zT e),O,g,A,f,c.oin,B,L,.inl ⟨rfl,a0,ao⟩⟩
  .rename_i id k z;cases h;rw[z]at Q;obtain⟨ha,J,H,m⟩:=Q;exact N _ _ g (by rw[H];exact .slemp _ _)
  .rename_i id k x es z;cases h;rw[z]at Q;obtain⟨ha,J,H,m⟩:=Q;obtain⟨p1,p2,p3,p4⟩:=c.place (.o id) ha;refine⟨_,F,O,g,c.sig,f,c.oin,c.f0,c.fin,.inr ⟨by simp,β.ob id,J,H,q _ _ p1,p2,p3,p4,k,m⟩⟩
  .rename_i id t xs z;cases h;rw[z]at Q;rcases Q with⟨h0,a0,ap⟩|⟨ab,ha,J,H,m⟩
   .exact⟨_,F,O,g,c.sig,f,c.oin,c.f0,c.fin,.inl ⟨h0,a0,ap⟩⟩
   .obtain⟨p1,p2,p3,p4⟩:=c.place (.o id) ha;exact⟨_,F,O,g,c.sig,f,c.oin,c.f0,c.fin,.inr ⟨ab,β.ob id,J,H,q _ _ p1,p2,p3,p4,t.size,m⟩⟩
  .simp at h;obtain⟨d,hd,rfl⟩:=h;obtain⟨v,Z,M⟩:=ad _ E d hd
   grind
 .rename_i r0 _ E;simp at h
  grind
 .rename_i a3 av;simp at h;obtain⟨ds,ag,rfl⟩:=h;obtain⟨D,Z,M,h3⟩:=zKy (P:=P) y ht _ ds ag;have I:=C D Z
  have ab:D.length≠1:=by
   intro hl
   have al:∀(l:List ResultVar) (ds:List V),zHG P e l=Sa ds->ds.length=l.length:=by
    intro l
    induction l with
    |nil=>grind[zHG]
    |cons r l ih=>
     grind[Option.some.injEq,zHG]
   have:=al _ ds ag
   match ax:fn.results.toList with
   |[]=>grind
   |[r0]=>exact av r0 ax
   |_::_::_=>grind
  rw[dif_neg ab]at I;exact N _ _ I (.tup _ ds (by simpa using M) (fun i x d hi hd=>h3 i x d (by simpa using hi) hd))
theorem zZl[Calm Γ](hm:P.follows .mixedOrders=Sb)(hS:qK Γ P G S){f:FuncId}{fn:Func}{c:Code}(hf:P.funcs[f]?=Sa fn)(m:fn.body=Sa c)
  {i:Γ.St->List V->Option (Γ.St×RV)}
  (h:∀s ds B r,i s ds=Sa (B,r)->∃k e',Ev P G S c (start fn.ntmps s ds) k e'/\(k=.normal\/k=.ret)/\e'.st=B/\zDP P e' fn=Sa r):jJ Γ P G f i:=by
 refine zLF.calm ?_;intro w F O s d ds B r p hG hF q E j;obtain⟨k,e',H,hk,I,u⟩:=h s ds B r j;refine calls_of_wp hf m ?_
 have vA:∀t,zY w F ⟨fun _=>0,fun _=>0⟩ (fun _=>False) ((d++Ad (fn.ntmps-d.size) undef).getD t undef) ((start fn.ntmps s ds).get t):=by
  intro t;simp[start,zIi,Env.get];by_cases J:t<ds.length
  .rw[aT (by simpa using J),bh (by omega)];rw[aA,ah J,aD (by omega)];exact E t _ _ (by grind) (by simp[J])
  .rw[aF (by grind),bu (by omega),q];simp;by_cases l:t-ds.length<fn.ntmps-ds.length
   .rw[bc,if_pos l,bJ,if_pos l];exact Rd.val _
   .rw[bc,if_neg l];trivial
 have C:∀s0,(start fn.ntmps s ds).var s0=none:=by
  grind[start,Env.var]
 have z:Inv Γ G w F O { tmps:=d++Ad (fn.ntmps-d.size) undef,defers:=[] } w (start fn.ntmps s ds):=by refine Inv.of (F:=F) (O:=O) (β:=⟨fun _=>0,fun _=>0⟩) (al:=fun _=>False) ⟨xC.refl _ w,p,fun b m=>.inl m,fun b m=>⟨.inl m,hF b m⟩,.refl _ _,fun x K=>K.elim,fun x y K=>K.elim,fun b n h=>by cases h⟩ hG ?_ rfl vA ?_ (fun s h=>h.elim);all_goals grind[start,zIi]
 refine wp_mono (qGQ hm hS H z) ?_;rintro ex a' w' ⟨rfl,A⟩;obtain⟨v,M,N,Q,l,W,Y,Z,h6,h7⟩:=zO2 rfl A u;have g:a'.defers=[]:=by obtain⟨_,_,_,_,_,_,g,_⟩:=A;exact g
 rw[I]at l;rcases hk with rfl|rfl
 .exact⟨g,v,Q,v,M,N,rfl,l,W,Y,Z,h6,h7⟩
 .exact⟨g,v,Q,v,M,N,rfl,l,W,Y,Z,h6,h7⟩
end
section
variable {Γ:Sig}(P:j6)(G:Nat->Option (List V))(S:vF Γ)
def xZ:Nat->Code->Env Γ.St->Option (X×Env Γ.St)
 |0,_,_=>Sc
 |_+1,.skip,e=>Sa (.normal,e)
 |n+1,.seq x y,e=>match xZ n x e with
  |some (.normal,a)=>xZ n y a
  |r=>r
 |n+1,.cond c x y,e=>match evx G e c with
  |.p (.val (.bool Sb))=>xZ n x e
  |.p (.val (.bool Sd))=>xZ n y e
  |_=>Sc
 |n+1,.block id c,e=>match xZ n c e with
  |some (k,a)=>Sa (k.out id,a)
  |none=>Sc
 |n+1,.loop c,e=>match xZ n c e with
  |some (.normal,a)=>xZ n (.loop c) a
  |r=>r
 |_+1,.exit id,e=>Sa (.exit id,e)
 |_+1,.ret,e=>Sa (.ret,e)
 |_+1,.region _ d Sd,e=>match zPS P G S d d.toList e with
  |some a=>Sa (.normal,a)
  |none=>Sc
 |_+1,.region _ d Sb,e=>match zKO P G S d e with
  |some a=>Sa (.normal,a)
  |none=>Sc
 |_,_,_=>Sc
variable {P G S}
theorem Ev.loopStep{c:Code}{e e1 d:Env Γ.St}{k:X}(j:Ev P G S c e .normal e1)(f:Ev P G S (.loop c) e1 k d):Ev P G S (.loop c) e k d:=by
 cases f with
 |loop n g l m h a=>
  refine .loop (n+1) (fun i=>match i with|0=>e|i+1=>g i) rfl ?_ h a
  grind
theorem Ev.loopDone{c:Code}{e e1:Env Γ.St}{k:X}(d:Ev P G S c e k e1)(a:k≠ .normal):Ev P G S (.loop c) e k e1:=
 .loop 0 (fun _=>e) rfl (fun i f=>by omega) d a
theorem zSe:∀(n:Nat) (c:Code) (e e':Env Γ.St) (k:X),xZ P G S n c e=Sa (k,e')->Ev P G S c e k e':=by
 intro n
 induction n with
 |zero=>grind[xZ]
 |succ n d=>
  intro c e e' k h;cases c<;>(try simp only[xZ]at h)
  case skip=>simp at h;obtain⟨rfl,rfl⟩:=h;exact .skip e
  case region id l g=>
   cases g
   .simp only[xZ]at h;split at h
    .rename_i f a;simp at h;obtain⟨rfl,rfl⟩:=h;exact .seqR a
    .cases h
   .simp only[xZ]at h;split at h
    .rename_i f a;simp at h;obtain⟨rfl,rfl⟩:=h;exact .drawR a
    .cases h
  case seq x y=>
   split at h
   .rename_i f a;exact .seqN (d x e f .normal a) (d y f e' k h)
   .rename_i i;refine .seqX (d x e e' k h) ?_;simp_all
  case cond c x y=>
   split at h
   .rename_i j;exact .condT j (d x e e' k h)
   .rename_i j;exact .condF j (d y e e' k h)
   .cases h
  case block id c=>
   split at h
   .rename_i m f a;simp at h;obtain⟨rfl,rfl⟩:=h;exact .block (d c e f m a)
   .cases h
  case loop c=>
   split at h
   .rename_i f a;exact(d c e f .normal a).loopStep (d (.loop c) f e' k h)
   .rename_i i;refine(d c e e' k h).loopDone ?_;simp_all
  case exit id=>simp at h;obtain⟨rfl,rfl⟩:=h;exact .exit id e
  case ret=>simp at h;obtain⟨rfl,rfl⟩:=h;exact .ret e
  all_goals (cases h)
variable (P G S)
def zXH(n:Nat)(fn:Func)(s:Γ.St)(ds:List V):Option (Γ.St×RV):=
 match fn.body with
 |some c=>match xZ P G S n c (start fn.ntmps s ds)with
  |some (.normal,a)=>(zDP P a fn).map (fun r=>(a.st,r))
  |some (.ret,a)=>(zDP P a fn).map (fun r=>(a.st,r))
  |_=>Sc
 |none=>Sc
def zED:List V->Bool
 |.bot::_=>Sb
 |_=>Sd
def zQi(a:vF Γ)(k:Nat):Nat->vF Γ
 |0=>a
 |n+1=>fun f s c=>match a f s c with
  |some r=>Sa r
  |none=>match zED c with
   |true=>Sc
   |false=>match P.fn f with
    |some d=>zXH P G (zQi a k n) k d s c
    |none=>Sc
end
section
variable {Γ:Sig}{P:Program}{G:Nat->Option (List V)}{S:vF Γ}
variable {g:FuncId}
theorem qBS[Calm Γ](k:P.follows .mixedOrders=Sb)(l:qK Γ P G S){fn:Func}(m:P.funcs[g]?=Sa fn)(n:Nat):jJ Γ P G g (zXH P G S n fn):=by
 cases i:fn.body with
 |none=>
  intro w F O s j p q r _ _ _ _ _ h
  grind[zXH]
 |some c=>
  refine zZl k l m i ?_;intro s p q r h;simp[zXH,i]at h;split at h
  .rename_i e a;simp only[ak,aI]at h;obtain⟨t,f,d,rfl⟩:=h;exact⟨_,e,zSe n c _ e _ a,.inl rfl,d,f⟩
  .rename_i e a;simp only[ak,aI]at h;obtain⟨t,f,d,rfl⟩:=h;exact⟨_,e,zSe n c _ e _ a,.inr rfl,d,f⟩
  .cases h
theorem jJ.or{d e:Γ.St->List V->Option (Γ.St×RV)}(l:jJ Γ P G g d)(m:jJ Γ P G g e):
  jJ Γ P G g (fun s ds=>match d s ds with|some r=>Sa r|none=>e s ds):=by
 intro w F O s a ds f r i j a3 a4 k h;simp only at h;split at h
 .rename_i n c;cases h;exact l w F O s a ds f r i j a3 a4 k c
 .exact m w F O s a ds f r i j a3 a4 k h
theorem jJ.nothing:jJ Γ P G g (fun _ _=>Sc):=by intro w F O s a c d r _ _ _ _ _ h;cases h
def zQN (P : Program) : Bool := P.funcs.toList.all (fun fn => !(fn.name == "runtime.NumGoroutine"))
theorem zYy[Calm Γ](x:P.follows .mixedOrders=Sb)(y:zQN P=Sb){c:vF Γ}(g:qK Γ P G c)(k:Nat):∀n,qK Γ P G (zQi P G c k n):=by
 intro n
 induction n with
 |zero=>exact g
 |succ n z=>
  refine⟨?_,?_,?_,?_⟩
  .intro f
   cases l:P.funcs[f]? with
   |none=>
    have:zQi P G c k (n+1) f=fun s a=>match c f s a with|some r=>Sa r|none=>none:=by
     grind[zQi,zED]
    rw[this];exact(g.ok f).or .nothing
   |some j=>
    have:zQi P G c k (n+1) f=fun s a=>match c f s a with|some r=>Sa r|none=>match zED a with|true=>Sc|false=>zXH P G (zQi P G c k n) k j s a:=by
     grind[zQi]
    rw[this];refine(g.ok f).or ?_;intro w F O s i a A r B C D E H h;simp only at h;split at h
    .cases h
    .exact qBS x z l k w F O s i a A r B C D E H h
  .intro f s a r h I;simp only[zQi]at h;split at h
   .rename_i J m;exact g.is f s a J m I
   .split at h
    .cases h
    .split at h
     .rename_i j l;refine⟨j,l,?_,?_⟩
      .grind[zXH]
      .have:=au.1 y j (by grind);simpa using this
     .cases h
  .intro p st q t u bytes e d h;refine g.app p st q t u bytes e d ?_
   grind[zQi,zED]
  .intro f st t K a e u d h;refine g.bor f st t K a e u d ?_
   grind[zQi,zED]
def zGU(Γ:Sig):vF Γ:=fun _ _ _=>Sc
theorem zCg:qK Γ P G (zGU Γ):=
 ⟨fun _=>.nothing,(fun f s c r h=>by cases h),(fun _ st q t e bytes a d h=>by cases h),(fun f st t g c a e d h=>by cases h)⟩
end
end Go.Ve

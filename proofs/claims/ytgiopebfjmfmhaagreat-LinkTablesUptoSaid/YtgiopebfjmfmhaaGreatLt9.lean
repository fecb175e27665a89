/- law16 -/
import Derived.Test.YtgiopebfjmfmhaaGreatLt8
set_option linter.unusedVariables false
open Option renaming some->Sa,none->Sc
open Bool renaming true->Sb,false->Sd
open Nat renaming beq->Aa,testBit->Ac
open List renaming map->Ab,mem_cons_of_mem->Af,take_append_drop->Ag,mem_of_getElem?->Ah,range->Ai,all_eq_true->Aj
open Option renaming bind->Ad
open Go.Deferred renaming ofValue->Ae
namespace Go.Ve
open Go
def lq(Cm:Nat)(a:Array Bool):Array Bool:=a.mapIdx fun i b=>b||Ac Cm i
variable {g:Array Bool}
theorem qGa{Cm:Nat}:(lq Cm g).size=g.size:=by simp[lq]
theorem zSt{Cm:Nat}{i:Nat}:(lq Cm g).getD i Sb=(g.getD i Sb||Ac Cm i):=by
 simp[lq]
 grind
theorem qHh{Cm:Nat}{i:Nat}:lq Cm (g.setIfInBounds i Sb)=(lq Cm g).setIfInBounds i true:=by
 apply zRw
 grind[Array.size_mapIdx,lq]
def zHh{St:Type}(e:Env St)(fl:List Fl):Env St:=kC e (fl.map fun q=>⟨q.i,q.d,.c .dead⟩)
theorem zYv{St:Type}{e:Env St}{fl:List Fl}(h:zLJ e.tm.length fl):zCi (zHh e fl) e/\(∀t,(∀q,q∈fl->t≠q.d)->(zHh e fl).get t=e.get t)/\(∀q,q∈fl->(zHh e fl).get q.d=.dead):=by
 have f:zLJ e.tm.length (fl.map fun q=>⟨q.i,q.d,.c .dead⟩):=by
  refine⟨?_,?_,?_⟩
  .rw[List.pairwise_map];exact h.dist
  .intro q a;obtain⟨p,g,rfl⟩:=aO.1 a;exact h.lt p g
  grind
 obtain⟨j,k⟩:=zB8 _ e _ f (aj _);refine⟨zBp _ e,?_,?_⟩
 .intro t l;refine j t (fun q a=>?_)
  grind
 .intro q a;exact k ⟨q.i,q.d,.c .dead⟩ (aO.2 ⟨q,a,rfl⟩)
section
variable {Γ:Sig}{P:Program}{G:Nat->Option (List V)}{S:vG Γ}{w0:World}{F0:Blk->Prop}{O0:zAg}{ops:Array Oper}{anc:Array Nat}{Cm Um:Nat}
variable {g:Exit->Act->World->Prop}
theorem qBN{K:Act->World->Prop}{i:Nat}{o:Oper}{a:Act}{w:World}(d:qAV ops anc Cm Um)(f:ops[i]?=Sa o)(Q:Cm.testBit i=Sd)(h:wpOp P (u5 ops Cm) g i K a w):wpOp P ops g i K a w:=by
 unfold wpOp at*
 rw[zAv f Q]at h;rw[f];simp only at h ⊢
 have m:Region.wanted o (yielded (u5 ops Cm) a.tmps)=Region.wanted o (yielded ops a.tmps):=by
  unfold Region.wanted
  cases k:o.guard with
  |none=>rfl
  |some l=>
   obtain⟨j,c⟩:=l;have n:=d.guardQ i o j c f Q k
   grind[zHZ,yielded]
 grind
theorem zVs(n:qAV ops anc Cm Um)(hS:qK Γ P G S){e1 L b':Env Γ.St}{y:Nat->Γ.St}(C:∀(i:Nat) (o:Oper),(u5 ops Cm)[i]?=Sa o->zGF P G S (u5 ops Cm) e1 (y i) o (y (i+1)))(a5:y ops.size=e1.st){fl:List Fl}(A:zLJ e1.tm.length fl)(a6:∀i,Um.testBit i=Sb->Cm.testBit i=Sd->i<ops.size->∃q,q∈fl/\q.i=i)(H:∀q,q∈fl->Cm.testBit q.i=Sd/\Um.testBit q.i=Sb/\∃o,ops[q.i]?=Sa o/\o.dst=Sa q.d)(a9:∀q,q∈fl->e1.get q.d=q.val e1/\e1.var q.d=Sc)(I:zCi L e1)(ap:∀t,(∀q,q∈fl->t≠q.d)->L.get t=e1.get t)(bb:∀q,q∈fl->L.get q.d=.dead)(be:∀q,q∈fl->zOU P G S ops fl L q)(M:zKS P G S ops anc fl ((Ai ops.size).filter (fun i=>Cm.testBit i)) L b')(hQ:∀a w,Inv Γ G w0 F0 O0 a w (kC b' fl)->g .normal a w):∀(l:Nat) (f:Array Bool) (a:Act) (w:World),
  f.size=ops.size->f.count Sd<=l->zP3 ops (fun i=>f.getD i Sb=Sb)->(∀c,c<ops.size->Cm.testBit c=Sb->f.getD c Sb=Sd)->
  (∃F O β al m,qDe Γ G w0 F0 O0 (u5 ops Cm) e1 y (lq Cm f) a w F O β al m)->wpAny P .any ops g l f a w:=by
 have bk:∀(l:Nat) (f:Array Bool) (a:Act) (w:World),f.size=ops.size->f.count Sd<=l->zP3 ops (fun i=>f.getD i Sb=Sb)->
   (∀c,c<ops.size->Cm.testBit c=Sb->f.getD c Sb=Sd)->(∀i,i<ops.size->Cm.testBit i=Sd->Um.testBit i=Sd->f.getD i Sb=Sb)->
   (∃F O β al m,qDe Γ G w0 F0 O0 (u5 ops Cm) e1 y (lq Cm f) a w F O β al m)->wpAny P .any ops g l f a w:=by
  rintro l f a w J D B N K ⟨F,O,β,al,m,z⟩;refine zWM n hS A a6 H hQ l _ L f a w J D B K ?_ (List.Pairwise.filter _ List.pairwise_lt_range) M (fun q E _=>be q E) I.len ?_
  .grind
  .have bn:∀(i:Nat) (o:Oper),(u5 ops Cm)[i]?=Sa o->(lq Cm f).getD i Sb=Sd->ops[i]?=Sa o/\Cm.testBit i=Sd/\Um.testBit i=Sb/\f.getD i Sb=false:=by
    grind[zSt,Bool.or_eq_false_iff,Array.getElem?_eq_some_iff,zCL,zHZ,Option.map_eq_some_iff]
   have p:∀t,(∀q,q∈fl->t=q.d->f.getD q.i Sb=Sb)->zL4 (u5 ops Cm) (lq Cm f) t:=by
    intro t ht i o ho u hd
    grind
   have ab:∀k,m+k<=ops.size->y (m+k)=y m:=by
    intro k
    induction k with
    |zero=>intro _;rfl
    |succ k ih=>
     intro Z;have hlt:m+k< (u5 ops Cm).size:=by rw[zCL];omega
     have hj:(u5 ops Cm)[m+k]?=Sa (u5 ops Cm)[m+k]:=aC hlt
     have N:isCall (u5 ops Cm)[m+k]=false:=by
      cases hc:isCall (u5 ops Cm)[m+k]with
      |false=>rfl
      |true=>
       exfalso
       cases u:(lq Cm f).getD (m+k) Sb with
       |true=>have:=(z.calls _ _ hj hc).1 u;omega
       |false=>
        obtain⟨h1,h2,h3,h4⟩:=bn _ _ hj u;have:=n.call _ _ h1 h2 h3
        grind
     rw[<-ih (by omega)];rcases C (m+k) _ hj with⟨_,r',ck,ad,_,_⟩|⟨_,ad,_⟩
     all_goals grind[Nat.add_assoc,zC6,zPB]
   have cl:m<=ops.size:=by have:=z.mle;rwa [zCL]at this
   have av:y m=e1.st:=by
    grind[Nat.add_sub_cancel']
   have ag:=zBp (fl.filter (fun q=>f.getD q.i Sb)) L;obtain⟨a1,a2⟩:=zB8 (fl.filter (fun q=>f.getD q.i Sb)) L _ (A.filter _) (by rw[I.len];omega);have ax:∀s,(kC L (fl.filter (fun q=>f.getD q.i Sb))).var s=e1.var s:=fun s=>(ag.trans I).var s;refine Inv.of (al:=al) (by rw[ag.st,I.st,<-av];exact z.core) z.g (by rw[ag.len,I.len];exact z.size) z.defers ?_ ?_ ?_
   .intro t;by_cases ht:∃q,q∈fl/\t=q.d
    .obtain⟨q,E,rfl⟩:=ht
     cases u:f.getD q.i Sb with
     |true=>
      rw[a2 q (aV.2 ⟨E,u⟩)]
      have Z:=z.tm q.d (p q.d (by
       intro r hr bo;have:r.i=q.i:=by obtain⟨c1,_,o1,h1,d1⟩:=H q E;obtain⟨c2,_,o2,h2,d2⟩:=H r hr;exact(n.st.dist q.i r.i o1 o2 q.d (zAv h1 c1) (zAv h2 c2) d1 (by grind)).symm
       grind))
      rw[(a9 q E).1]at Z
      have:q.val L=q.val e1:=by
       unfold Fl.val
       cases hv:q.v with
       |c x=>rfl
       |a s=>simp only;exact ap s (fun r hr=>A.src q E s hv r hr)
      grind
     |false=>
      rw[a1 q.d (by
       intro r hr bo;obtain⟨bs,cq⟩:=aV.1 hr;obtain⟨c1,_,o1,h1,d1⟩:=H q E;obtain⟨c2,_,o2,h2,d2⟩:=H r bs;have:q.i=r.i:=n.st.dist q.i r.i o1 o2 q.d (zAv h1 c1) (zAv h2 c2) d1 (by grind)
       grind),bb q E]
      trivial
    .have an:∀q,q∈fl->t≠q.d:=fun q E hh=>ht ⟨q,E,hh⟩;rw[a1 t (fun q E=>an q (aV.1 E).1),ap t an];exact z.tm t (p t (fun q E hh=>absurd hh (an q E)))
   .intro s cs W;rw[ax]at W
    have b1:zL4 (u5 ops Cm) (lq Cm f) s:=p s (by
     grind)
    have ha:=z.vk s cs W b1;exact⟨ha,z.var s cs W ha⟩
   .intro s hs;obtain⟨cs,W⟩:=z.lp s hs
    grind
 intro l
 induction l with
 |zero=>
  intro f a w J D B N z;refine bk 0 f a w J D B N ?_ z;intro i hi _ _
  cases u:f.getD i Sb with
  |true=>rfl
  |false=>
   exfalso;have h0:f.count Sd=0:=by omega
   rw[dF]at h0;apply h0;have h:i<f.size:=by omega
   simp[h]at u
   grind
 |succ l ih=>
  intro f a w J D B N z;by_cases K:∀i,i<ops.size->Cm.testBit i=Sd->Um.testBit i=Sd->f.getD i Sb=Sb
  .grind
  .obtain⟨j,hj⟩:=Classical.not_forall.1 K;simp only[Classical.not_imp]at hj;obtain⟨ay,b2,b3,a0⟩:=hj;refine⟨fun hr=>?_,?_⟩
   .exfalso;apply a0
    have:∀i,i<ops.size->f.getD i Sb=true:=by
     intro i
     induction i using Nat.strongRecOn with
     |_ i cr=>
      intro hi
      cases u:f.getD i Sb with
      |true=>rfl
      |false=>
       exfalso
       have cp:i∈Region.ready .any ops f:=by
        rw[mem_ready];refine⟨u,ops[i],by simp[hi],?_⟩;intro e he hb;have cv:=n.edge i ops[i] e (by simp[hi]) he hb
        grind
       grind
    exact this j ay
   .intro i hi;obtain⟨b4,o,ho,b5⟩:=mem_ready.1 hi;have hlt:i<ops.size:=(ar.1 ho).1;have ao:i<f.size:=by omega
    have Y:∀e,e∈o.after->Region.binds .any e=Sb->f.getD e.on Sb=true:=by
     grind
    have hC:Cm.testBit i=false:=by
     cases hC:Cm.testBit i with
     |false=>rfl
     |true=>exfalso;have hb:=n.before i o ho hC j ay (.inr ⟨b2,b3⟩);exact a0 (n.up (fun j=>f.getD j Sb=Sb) B i o ho Y j hb.1 hb.2)
    obtain⟨F,O,β,al,m,z⟩:=z;refine qBN n ho hC ?_;refine zUC n.st hS C z (by grind[qGa,zCL]) ?_ (zAv ho hC) ?_ ?_ ?_
    .intro k ok e Z u he hb;rw[zSt,bN]at u ⊢;have cx:k<ops.size:=by grind[Array.getElem?_eq_some_iff,zCL]
     rw[zHZ]at Z;simp at Z;obtain⟨o',cc,ab⟩:=Z
     cases a3:Cm.testBit k with
     |true=>
      grind[qEd]
     |false=>simp only[a3]at ab;subst ab;rw[a3]at u;exact .inl (B k o' e cc (u.resolve_right (by simp)) he hb)
    .grind[zSt]
    .grind[zSt]
    .intro a' w' F' O' β' cf m' a4;rw[<-qHh]at a4;refine ih (f.setIfInBounds i Sb) a' w' (by simpa using J) ?_ ?_ ?_ ⟨F',O',β',cf,m',a4⟩
     .have c0:f[i]=false:=by simpa[ao]using b4
      grind
     .intro k ok e Z u he hb;show(f.setIfInBounds i Sb).getD e.on Sb=Sb;have u:(f.setIfInBounds i Sb).getD k Sb=true:=u;rw[vY _ _ _ ao]at u ⊢;split
      .rfl
      .by_cases ch:k=i
       .grind
       .rw[if_neg ch]at u;exact B k ok e Z u he hb
     .intro c hc c3;rw[vY _ _ _ ao,if_neg (fun hh=>by grind)]
      grind
theorem qCZ(u:P.follows .mixedOrders=Sb)(x:qAV ops anc Cm Um)(hS:qK Γ P G S){a:Act}{w:World}{e e1 b':Env Γ.St}(hi:Inv Γ G w0 F0 O0 a w e)(K:zDz P G S (u5 ops Cm) (u5 ops Cm).toList (killAll (qY (u5 ops Cm).toList) e)=Sa e1){fl:List Fl}(c:zLJ e1.tm.length fl)(L:∀i,Um.testBit i=Sb->Cm.testBit i=Sd->i<ops.size->∃q,q∈fl/\q.i=i)(M:∀q,q∈fl->Cm.testBit q.i=Sd/\Um.testBit q.i=Sb/\∃o,ops[q.i]?=Sa o/\o.dst=Sa q.d)(N:∀q,q∈fl->e1.get q.d=q.val e1/\e1.var q.d=Sc)(W:∀q,q∈fl->zOU P G S ops fl (zHh e1 fl) q)(k:zKS P G S ops anc fl ((Ai ops.size).filter (fun i=>Cm.testBit i)) (zHh e1 fl) b'){id:Nat}(hQ:∀a w,Inv Γ G w0 F0 O0 a w (kC b' fl)->g .normal a w):(Code.region id ops Sb).wp P g a w:=by
 have Y:=x.st;have Z:=zTm Y 0 (u5 ops Cm).toList (by simp)
 have ab:∀d,d∈qY (u5 ops Cm).toList->(killAll (qY (u5 ops Cm).toList) e).var d=none:=by
  intro d I
  cases hv:(killAll (qY (u5 ops Cm).toList) e).var d with
  |none=>rfl
  |some J=>exact absurd ⟨J,hv⟩ (zCc _ e d I).1
 obtain⟨y,h0,hn,l,hg,hv,hl⟩:=zI1 _ _ _ K Z ab;have f:∀(i:Nat) (o:Oper),(u5 ops Cm)[i]?=Sa o->zGF P G S (u5 ops Cm) e1 (y i) o (y (i+1)):=fun i o j=>l i o (by grind);refine wp_region_any u ?_;obtain⟨F,O,β,hc,hG,ap,ad,ht,av⟩:=(hi.killAll (qY (u5 ops Cm).toList)).drew (w.drawn+1) (cT _);have z:∀i,i<ops.size->Cm.testBit i=Sd->(lq Cm (Array.replicate ops.size Sd)).getD i Sb=false:=by intro i hi A;rw[zSt,A];simp_all
 have B:∀(i:Nat) (o:Oper) (d:Nat),(u5 ops Cm)[i]?=Sa o->o.dst=Sa d->d∈qY (u5 ops Cm).toList/\Cm.testBit i=false:=by
  intro i o d j I;refine⟨?_,?_⟩
  .grind[Array.mem_of_getElem?,qY]
  .cases A:Cm.testBit i with
   |false=>rfl
   |true=>rw[zHZ]at j;simp at j;obtain⟨o',_,Q⟩:=j;simp only[A]at Q;subst Q;cases I
 have m:∀t,zL4 (u5 ops Cm) (lq Cm (Array.replicate ops.size Sd)) t->t ∉ qY (u5 ops Cm).toList:=by
  intro t n C;simp only[qY,bm]at C;obtain⟨o,ag,I⟩:=C;obtain⟨i,al,rfl⟩:=aA ag;have h:i< (u5 ops Cm).size:=by simpa using al
  have D:(u5 ops Cm)[i]?=Sa (u5 ops Cm)[i]:=aC h;have E:(u5 ops Cm)[i].dst=Sa t:=by grind
  refine n i _ D (z i (by rwa [zCL]at h) (B i _ t D E).2) E
 obtain⟨d1,d2,d3⟩:=zYv c;refine zVs x hS f (by grind[zCL]) c L M N d1 d2 d3 W k hQ ops.size _ a _ (by simp) (by simp) ?_ ?_ ⟨F,O,β,zT (killAll (qY (u5 ops Cm).toList) e),0,?_⟩
 .intro i o ed j ao;have h:i<ops.size:=(ar.1 j).1;simp_all
 .simp_all
 .refine⟨by rw[h0];exact hc,hG,by omega,ad,?_,?_,?_,?_,?_,aY _,?_⟩
  .grind
  .intro s J p hs;obtain⟨an,H⟩:=hs
   grind
  .intro s hs;obtain⟨an,H⟩:=hs
   grind
  .intro s J p n;rw[hv s (m s n)]at p;exact⟨J,p⟩
  .grind[zCc]
  .intro i o j r
   cases A:Cm.testBit i with
   |false=>
    grind[Array.getElem?_eq_some_iff,zCL]
   |true=>exfalso;rw[zHZ]at j;simp at j;obtain⟨o',_,Q⟩:=j;simp only[A]at Q;subst Q;cases r
end
def zXA(a b:Nat):T->T
 |.ow i k d=>.ow (if i=a then b else i) k d
 |.oe i k d j c=>.oe (if i=a then b else i) k d j c
 |.mp i d g=>.mp (if i=a then b else i) d g
 |.ot i t f=>.ot (if i=a then b else i) t f
 |.oet i t f j c=>.oet (if i=a then b else i) t f j c
 |.ov i t f h l=>.ov (if i=a then b else i) t f h l
 |.on n=>.on { n with id:=if n.id=a then b else n.id,id2:=if n.id2=a then b else n.id2 }
 |x=>x
def noO(d:Nat):T->Bool
 |.ow i _ _=> !Aa i d
 |.oe i _ _ _ _=> !Aa i d
 |.mp i _ _=> !Aa i d
 |.ot i _ _=> !Aa i d
 |.oet i _ _ _ _=> !Aa i d
 |.ov i _ _ _ _=> !Aa i d
 |.on n=> !Aa n.id d&& !Aa n.id2 d
 |_=>Sb
def qHg{St:Type}(d:Nat)(e:Env St):Bool:=
 e.tm.all (noO d)&&e.vars.all (fun c=>match c with
  |some a=>a.all (noO d)
  |none=>Sb)
section
variable {Γ:Sig}{G:Nat->Option (List V)}{w0:World}{F0:Blk->Prop}{O0:zAg}{e:Env Γ.St}{a0:Act}{w:World}
theorem qBl{d:Nat}{x:T}(h:noO d x=Sb):¬x.hasO d:=by
 cases x<;>simp only[noO,T.hasO,cG]at h ⊢ <;>first|(intro a;exact a)|(intro a;subst a;simp at h)|(rintro⟨a,_⟩;subst a;simp at h)|(rintro(a|a)<;>(subst a;simp at h))
theorem Inv.ren(hi:Inv Γ G w0 F0 O0 a0 w e){a b:Nat}(hb:qHg b e=Sb)(Q:a≠jY)(W:b≠jY):Inv Γ G w0 F0 O0 a0 w (e.mapT (zXA a b)):=by
 obtain⟨F,O,β,B,hG,Y,H,ht,hv⟩:=hi;by_cases Z:a=b
 .subst Z
  have:e.mapT (zXA a a)=e:=by
   have hid:∀x:T,zXA a a x=x:=by
    intro x
    cases x with
    |on n=>
     have h:∀i,(if i=a then a else i)=i:=fun i=>by grind
     simp[zXA,h]
    |_=>simp only[zXA]<;>(try split)<;>simp_all
   obtain⟨tm,vars,st⟩:=e;simp[Env.mapT];refine⟨(bG (fun x _=>hid x)).trans (df _),?_⟩;refine(bG (g:=id) ?_).trans (df _);intro c _
   cases c with
   |none=>rfl
   |some N=>exact congrArg Sa ((bG (fun x _=>hid x)).trans (df _))
  rw[this];exact⟨F,O,β,B,hG,Y,H,ht,hv⟩
 have ax:¬zT e (.o b):=by
  rintro⟨x,hx,hid⟩;unfold qHg at hb;simp only[am]at hb;rcases hx with hx|⟨s,N,z,hx⟩
  .grind[qBl,Aj]
  .have hm:Sa N∈e.vars:=by
    grind[Ah,Env.var]
   grind[Aj,qBl]
 let β':Lay:= { β with ob:=fun i=>if i=b then β.ob a else β.ob i }
 let C:v8->Prop:=fun x=>match x with
  |.v s=>zT e (.v s)
  |.o i=>(i=b/\zT e (.o a))\/(i≠a/\i≠b/\zT e (.o i))
 have f:∀i,zT e (.o i)->C (.o (if i=a then b else i))/\β'.ob (if i=a then b else i)=β.ob i:=by
  grind
 have hf:∀v x,zX w F β (zT e) v x->zX w F β' C v (zXA a b x):=by
  intro v x hx
  cases x with
  |p d=>exact hx
  |ow i k es=>
   obtain⟨ha,l,A,hr⟩:=hx;obtain⟨q,r⟩:=f i ha;exact⟨q,l,by grind,by rw[r];exact hr⟩
  |oe i k es j I=>
   obtain⟨ha,hj,l,A,hr⟩:=hx;obtain⟨q,r⟩:=f i ha;exact⟨q,hj,l,by grind,by rw[r];exact hr⟩
  |lp s I=>exact hx
  |mp i es ck=>
   obtain⟨ha,A,hr⟩:=hx;obtain⟨q,r⟩:=f i ha;exact⟨q,by grind,by rw[r];exact hr⟩
  |ot i t xs=>
   rcases hx with hx|⟨E,ha,l,A,hr⟩
   .exact .inl hx
   .obtain⟨q,r⟩:=f i ha;exact .inr ⟨E,q,l,by grind,by rw[r];exact hr⟩
  |oet i t xs j I=>
   obtain⟨ha,hj,l,A,hr⟩:=hx;obtain⟨q,r⟩:=f i ha;exact⟨q,hj,l,by grind,by rw[r];exact hr⟩
  |ov i t xs lo hi=>
   rcases hx with hx|⟨E,ha,k1,k2,l,A,hr⟩
   .exact .inl hx
   .obtain⟨q,r⟩:=f i ha;exact .inr ⟨E,q,k1,k2,l,by grind,by rw[r];exact hr⟩
  |on n=>
   obtain⟨id,id2,ty,xs,j,ys,m⟩:=n;obtain⟨ha,ab,c,et,J,k1,k2,k5,k6,k7,k8⟩:=hx;obtain⟨q,r⟩:=f id ha;obtain⟨h3,h4⟩:=f id2 ab;simp only at k1 k6 k7 k8;exact⟨q,h3,c,et,J,by grind,k2,k5,by grind,by grind,by grind⟩
  |emp=>exact hx
  |dead=>trivial
 have u:∀x,C x->∃y,zT e y/\β'.blk x=β.blk y/\(∀s,x=.v s↔y=.v s)/\(x=.o b↔y=.o a)/\(x≠ .o b->x=y):=by
  intro x hx
  cases x with
  |v s=>exact⟨.v s,hx,rfl,fun _=>cD,by simp,fun _=>rfl⟩
  |o i=>
   rcases hx with⟨rfl,ha⟩|⟨q,r,ha⟩
   .exact⟨.o a,ha,by simp[Lay.blk,β'],by simp,by simp,fun h=>absurd rfl h⟩
   .exact⟨.o i,ha,by grind[Lay.blk],fun s=>cD,by simp[q,r],fun _=>rfl⟩
 refine Inv.of (al:=C) (β:=β') ⟨B.keep,B.sig,B.oin,B.fin,B.f0,?_,?_,B.lent⟩ hG (by grind[Env.mapT]) H (fun t=>by rw[vN rfl];grind) ?_ ?_
 .intro x hx;obtain⟨y,hy,ad,_,K,ag⟩:=u x hx;rw[ad];refine⟨?_,(B.place y hy).2⟩;have hp:=(B.place y hy).1;by_cases q:x=.o b
  .have r:=K.1 q;subst r;subst q;exact .inl ⟨fun h=>W (by injection h),hp.o Q⟩
  grind
 .intro x y hx hy L;obtain⟨x',an,ao,_,K,ag⟩:=u x hx;obtain⟨y',ap,av,_,ay,a1⟩:=u y hy;rw[ao,av]at L;have:=B.dist x' y' an ap L
  grind
 .intro s N z;rw[jF]at z;simp at z;obtain⟨M,D,rfl⟩:=z;exact⟨⟨M,D⟩,(hv s M D).mapT rfl hf⟩
 .rintro s ⟨N,z⟩
  grind[jF]
end
def qI(d:Nat):T->T
 |.ow i k f=>if i=d then .dead else .ow i k f
 |.oe i k f j c=>if i=d then .dead else .oe i k f j c
 |.mp i f h=>if i=d then .dead else .mp i f h
 |.ot i t g=>if i=d then .dead else .ot i t g
 |.oet i t g j c=>if i=d then .dead else .oet i t g j c
 |.ov i t g j c=>if i=d then .dead else .ov i t g j c
 |.on n=>if n.id=d\/n.id2=d then .dead else .on n
 |x=>x
def alo(d:Nat)(al:v8->Prop)(x:v8):Prop:=al x/\x≠ .o d
theorem zX.killO{w:World}{F:Blk->Prop}{β:Lay}{al:v8->Prop}{v:Value}{x:T}{d:Nat}(h:zX w F β al v x):zX w F β (alo d al) v (qI d x):=by
 cases x with
 |p d=>exact h
 |ow i k l=>
  simp only[qI];split
  .trivial
  .rename_i c;exact⟨⟨h.1,by simpa using c⟩,h.2⟩
 |oe i k l j f=>
  simp only[qI];split
  .trivial
  .rename_i c;exact⟨⟨h.1,by simpa using c⟩,h.2⟩
 |lp s f=>exact⟨⟨h.1,by simp⟩,h.2⟩
 |mp i l q=>
  simp only[qI];split
  .trivial
  .rename_i c;exact⟨⟨h.1,by simpa using c⟩,h.2⟩
 |ot i t xs=>
  simp only[qI];split
  .trivial
  .rename_i c;rcases h with h|⟨g,ha,h⟩
   .exact .inl h
   .exact .inr ⟨g,⟨ha,by simpa using c⟩,h⟩
 |oet i t xs j f=>
  simp only[qI];split
  .trivial
  .rename_i c;exact⟨⟨h.1,by simpa using c⟩,h.2⟩
 |ov i t xs lo r=>
  simp only[qI];split
  .trivial
  .rename_i c;rcases h with h|⟨g,ha,h⟩
   .exact .inl h
   .exact .inr ⟨g,⟨ha,by simpa using c⟩,h⟩
 |on n=>
  simp only[qI];split
  .trivial
  .rename_i c;have m:=not_or.1 c;exact⟨⟨h.1,by simpa using m.1⟩,⟨h.2.1,by simpa using m.2⟩,h.2.2⟩
 |emp=>exact h
 |dead=>trivial
def zL7(id:Nat)(t:Ty)(zs:List t.El):T->T
 |.ot i c d=>if i=id then(if c=t then .ot id t zs else .dead)else .ot i c d
 |x=>qI id x
def qFi:List Bool->Bool
 |[]=>Sb
 |[b]=>b
 |b::c::r=>b&&qFi (c::r)
def zLZ(id p n:Nat):Nat->List T->List Bool
 |_,[]=>[]
 |i,.ot j _ c::r=>match Aa j id with
  |true=>match Aa i p with
   |true=>zLZ id p n (i+1) r
   |false=>Aa c.length n::zLZ id p n (i+1) r
  |false=>zLZ id p n (i+1) r
 |i,_::r=>zLZ id p n (i+1) r
theorem zYT:∀{l:List Bool},qFi l=Sb->∀b,b∈l->b=Sb
 |[],_,b,d=>by simp at d
 |[c],h,b,d=>by simp at d;subst d;exact h
 |c::f::r,h,b,d=>by
  simp[qFi]at h;rcases bg.1 d with rfl|d
  .exact h.1
  .exact zYT h.2 b d
theorem zUL{id p n:Nat}:∀{l:List T} {i:Nat},(∀b,b∈zLZ id p n i l->b=Sb)->∀(k:Nat) (t:Ty) (xs:List t.El),l[k]?=Sa (.ot id t xs)->i+k≠p->xs.length=n
 |[],i,_,k,t,xs,c,_=>by simp at c
 |x::r,i,h,k,t,xs,c,d=>by
  have f:∀b,b∈zLZ id p n (i+1) r->b=true:=by
   intro b g;refine h b ?_
   cases x with
   |ot j m q=>
    grind[Af,zLZ]
   |_=>exact g
  cases k with
  |zero=>
   grind[List.getElem?_cons_zero,Option.some.injEq,Nat.eq_of_beq_eq_true,Nat.beq_refl,List.mem_cons_self,absurd,zLZ]
  |succ k=>exact zUL f k t xs (by simpa using c) (by omega)
def qDY{St:Type}(e:Env St)(id p:Nat)(t:Ty)(zs:List t.El)(st:St)(f:Option Tmp)(d:V):Env St:=
 (⟨(e.tm.map (zL7 id t zs)).set p (.ot id t zs),e.vars.map (fun c=>c.map (Ab (qI id))),st⟩:Env St).put f (.p d)
def qDW{St:Type}(e:Env St)(id:Nat)(t:Ty)(zs:List t.El)(st:St)(d:Option Tmp):Env St:=
 (⟨e.tm.map (qI id),e.vars.map (fun c=>c.map (Ab (qI id))),st⟩:Env St).put d (.ot id t zs)
section
variable {Γ:Sig}{P:Program}{G:Nat->Option (List V)}{S:vG Γ}{w0:World}{F0:Blk->Prop}{O0:zAg}{a:Act}{w:World}{e:Env Γ.St}
theorem zXC{w:World}{F:Blk->Prop}(u:Value)(h:Rd w F u .bot):False:=by cases h
theorem qGz(hS:qK Γ P G S)(hi:Inv Γ G w0 F0 O0 a w e){dst:Option Tmp}{c:Call}{type:TypeId}{pos:String}{after:Array Edge}{guard:Option (Nat×Bool)}
  {f:Operand} {g:FuncId} {p id:Nat} {xs:List Operand} {t:Ty} {ys zs:List t.El} {ds:List V} {st':Γ.St} {d:V}
  (hcal:c.callee=.value f) (hf:evx G e f=.p (.clo g [])) (hcargs:c.args.toList=.tmp p::xs) (hp:e.get p=.ot id t ys) (hxs:yX G e xs=Sa ds)
  (hlens:qFi (zLZ id p ys.length 0 e.tm)=Sb) (hdb:d=.bot->False) (hsp:S g e.st (.bot:: .tl t ys::ds)=Sa (st',.p (.tup [.tl t zs,d]))) {Q:Exit->Act->World->Prop} :
  (⟨dst,.call c,type,pos,after,guard⟩:Oper).wp P a w (fun a' w'=>Inv Γ G w0 F0 O0 a' w' (qDY e id p t zs st' dst d)) Q:=by
 obtain⟨F,O,β,hc,hG,hsz,hdf,ht,hv⟩:=hi;obtain⟨hbor,fn,hfn,hbody,hname⟩:=hS.bor g e.st t ys ds st' zs d hsp;have hops:∀x,zX w F β (zT e) (a.eval x) (evx G e x):=fun x=>uX hG ht x;have hf0:=hops f;rw[hf]at hf0;have hx0:=ht p;rw[hp]at hx0
 have hplt:p<e.tm.length:=by
  grind[Nat.lt_or_ge,List.getElem?_eq_none,Env.get]
 obtain⟨hlen,hargs⟩:=zDh (a:=a) xs ds (fun x _=>hops x) hxs
 have hrun:(execOp a.eval ⟨dst,.call c,type,pos,after,guard⟩).run P w=.ok (.enter g (c.args.map a.eval)) w:=by
  have hf1:Rd w F (a.eval f) (.clo g []):=hf0;generalize hev:a.eval f=fv at hf1
  cases hf1 with
  |clo _ cv _ hl hcap=>
   have hcv:cv= #[]:=by simpa using hl
   subst hcv;have hb:¬fn.body=none:=by grind
   have hname' : ¬ fn.name = "runtime.NumGoroutine" := by simpa using hname
   simp[execOp,resolve,hcal,hev,Ae,invoke,callFunc,hfn,hname',hb]
 have hnp:zCt ds=none:=zJ7 (fun r hr=>by
  cases xs with
  |nil=>grind
  |cons x xs'=>exact zXC _ (hargs 0 (a.eval x) .bot (by simp) (by rw[hr];rfl)))
 have hcs:c.args=(.tmp p::xs).toArray:=by grind
 have hsize:(c.args.map a.eval).size=ds.length+1:=by grind
 have ha0:(c.args.map a.eval)[0]?=Sa (a.tmps.getD p undef):=by grind[Act.eval]
 have hown:zCg w F ⟨fun _=>β.ob id,fun _=>β.ob id⟩ (fun _=>True) (a.tmps.getD p undef) 0 t.size (ys.map t.enc):=by
  rcases hx0 with h|⟨h0,_,h⟩
  .exact .inl h
  .exact .inr ⟨h0,trivial,h⟩
 have hal0:ys≠[]->zT e (.o id):=by
  intro h0;rcases hx0 with⟨h,_⟩|⟨_,h,_⟩
  all_goals simp_all
 have hcall:=(hbor.row hnp) w F O (β.ob id) (a.tmps.getD p undef) (c.args.map a.eval) hc.sig hG (fun b hb=>(hc.fin b hb).2) hown
  (fun h0=>⟨(hc.place _ (hal0 h0)).2.1,(hc.place _ (hal0 h0)).2.2.1,(hc.place _ (hal0 h0)).2.2.2⟩) hsize ha0
  (fun i x y hi hd=>hargs i x y (by grind) hd)
 unfold Oper.wp;rw[hrun];refine hcall.mono ?_;rintro ex w' ⟨v,F',O',rfl,g1,g2,g3,g4,g5,g67⟩;obtain⟨g6,g7⟩:=g67.out hdb;have hkb:∀b,b<w.heap.size->¬O b->(ys≠[]->b≠β.ob id)->w'.heap[b]?=w.heap[b]? :=fun b hb ho hne=>g2.block b hb (fun h=>h.elim ho (fun h=>hne h.1 h.2));have hne:∀x,zT e x->x≠ .o id->ys≠[]->β.blk x≠β.ob id:=fun x hx hxi h0 hh=>hxi (hc.dist x (.o id) hx (hal0 h0) hh)
 have hO':∀b,b<w.heap.size->¬O b->¬O' b:=fun b hb ho h=>by
  grind
 have hF':∀b:Nat,b<w.heap.size->¬F b->¬F' b:=fun b hb hf h=>by
  grind
 have hext:Ext w F β (alo id (zT e)) w' F' β (zT e):=
  ⟨g4.1,fun b hb=>hkb b (hc.fin b hb).2.1 (hc.fin b hb).2.2 (fun h0 hh=>(hc.place _ (hal0 h0)).2.2.1 (by rw[hh]at hb;exact hb)),fun x hx=>hx.1,fun _ _=>rfl,
   fun x hx=>hkb _ (hc.place x hx.1).2.1 (hc.place x hx.1).2.2.2 (hne x hx.1 hx.2)⟩
 have hcore:zDI Γ w0 F0 O0 w' F' O' β (zT e) st':=by
  refine⟨⟨g2.os.trans hc.keep.os,g2.tape.trans hc.keep.tape,g2.output.trans hc.keep.output,ai hc.keep.size g2.size,?_,ai hc.keep.drawn g2.drawn⟩,g1,?_,?_,hc.f0.trans g4 hc.keep.size,?_,hc.dist,?_⟩
  .intro b hb ho
   rw[hkb b (by have:=hc.keep.size;omega) (fun h=>by
    rcases hc.oin b h with h|h
    .exact ho (.inl h)
    .omega) (fun h0 hh=>ho ((hc.place _ (hal0 h0)).1.old (by show β.ob id<_;omega)|>fun h=>by rw[hh];exact h))]
   exact hc.keep.block b hb ho
  .intro b hb;rcases g3 b hb with h|h
   .exact hc.oin b h
   .exact .inr (ai hc.keep.size h)
  .intro b hb;obtain⟨h1,h2,h3⟩:=g5 b hb;refine⟨?_,h2,h3⟩;rcases h1 with h|h
   .exact(hc.fin b h).1
   .exact .inr (ai hc.keep.size h)
  .intro x hx;obtain⟨k1,k2,k3,k4⟩:=hc.place x hx;exact⟨k1,az k2 g2.size,hF' _ k2 k3,hO' _ k2 k4⟩
  .intro b n hb;obtain⟨h1,h2,h3,cc,et,fl,h4,h5⟩:=hc.lent b n hb;have hbw:b<w.heap.size:=by grind
   refine⟨h1,hO' b hbw h2,hF' b hbw h3,?_⟩;by_cases hbi:ys≠[]/\b=β.ob id
   .obtain⟨hy,rfl⟩:=hbi;rcases hown with⟨hh,_⟩|⟨_,_,cap,hv0,c0,et0,r1,r2,_⟩
    .exact absurd (by simpa using hh) hy
    .rw[r1]at h4;simp at h4;obtain⟨rfl,_,_⟩:=h4;rcases g6 with⟨hh,a0,hv1⟩|⟨_,_,cap1,hv1,c1,et1,q1,q2,_⟩
     all_goals grind
   grind
 have hnew:zX w' F' β (zT e) (a.tmps.getD p undef) (.ot id t zs):=by
  rcases g6 with h|⟨h0,_,cap,hv0,hr⟩
  .exact .inl h
  .refine .inr ⟨h0,hal0 ?_,cap,hv0,hr⟩;intro hy;subst hy;rcases hown with⟨_,a0,h1⟩|⟨h1,_⟩
   all_goals grind
 have hzl:zs.length=ys.length:=by
  have l1:∀(w:World) (F:Blk->Prop) (us:List t.El),zCg w F ⟨fun _=>β.ob id,fun _=>β.ob id⟩ (fun _=>True) (a.tmps.getD p undef) 0 t.size (us.map t.enc)->∃ad c,a.tmps.getD p undef=.slice ad us.length c:=by
   intro w F us h;rcases h with⟨h0,a0,h1⟩|⟨_,_,cap,h1,_⟩
   .have hu0:us=[]:=by simpa using h0
    grind
   grind
  grind
 have hother:∀q (us:List t.El),e.get q=.ot id t us->us.length=ys.length->zX w' F' β (zT e) (a.tmps.getD q undef) (.ot id t zs):=by
  intro q us hq hul;have hTq:=ht q;rw[hq]at hTq;rcases hTq with⟨h0,a0,h1⟩|⟨h0,hal,cap1,h1,c1,et1,k1,k2,k3,_⟩
  .have hu0:us=[]:=by simpa using h0
   subst hu0;have hz0:zs=[]:=aJ (by grind);subst hz0;exact .inl ⟨rfl,a0,h1⟩
  .have hy0:ys≠[]:=fun hh=>h0 (by grind);rcases hown with⟨hh,_⟩|⟨_,_,cap,hv0,c0,et0,r1,r2,_⟩
   .exact absurd (by simpa using hh) hy0
   .rcases g6 with⟨hh,_⟩|⟨hz0,_,cap2,hv1,c2,et2,q1,q2,q3,q4,q5⟩
    .grind
    .rw[hv0]at hv1;simp only[Value.slice.injEq]at hv1;rw[r1]at k1;simp only[ac,Obj.cells.injEq]at k1;obtain⟨rfl,_,_⟩:=k1;refine .inr ⟨hz0,hal,cap1,?_,c2,et2,q1,?_,?_,q4,q5⟩;all_goals grind
 have hlen1:((e.tm.map (zL7 id t zs)).set p (.ot id t zs)).length=e.tm.length:=by simp
 have vC:∀t',zX w' F' β (zT e) (a.tmps.getD t' undef) ((⟨(e.tm.map (zL7 id t zs)).set p (.ot id t zs),e.vars.map (fun c=>c.map (Ab (qI id))),st'⟩:Env Γ.St).get t'):=by
  intro q
  have h1:(⟨(e.tm.map (zL7 id t zs)).set p (.ot id t zs),e.vars.map (fun c=>c.map (Ab (qI id))),st'⟩:Env Γ.St).get q=if q=p then .ot id t zs else zL7 id t zs (e.get q):=by
   simp only[Env.get,a7,List.getElem?_set];split
   .grind
   .rename_i hpq;rw[if_neg (fun hh=>hpq hh.symm),aB]
    grind[zL7,qI]
  rw[h1];split
  .grind
  .rename_i hqp;have hkill:zX w' F' β (zT e) (a.tmps.getD q undef) (qI id (e.get q)):=(ht q).killO.ext hext
   cases hx:e.get q with
   |ot i t' us=>
    rw[hx]at hkill;simp only[zL7];split
    .rename_i hi;subst hi;split
     .rename_i htt;subst htt;refine hother q us hx ?_;refine zUL (zYT hlens) q t' us ?_ (by simpa using hqp)
      grind[Env.get]
     .trivial
    .rename_i hi;simp only[qI,if_neg hi]at hkill;exact hkill
   |_=>rw[hx]at hkill;exact hkill
 refine Inv.of (al:=zT e) (F:=F') (O:=O') (β:=β) ?_ (hG.ext hext) ?_ ?_ ?_ ?_ ?_
 .cases dst<;>exact hcore
 .cases dst<;>simp[qDY,Env.put,Act.put,hsz]
 .cases dst<;>exact hdf
 .intro t'
  cases dst with
  |none=>exact vC t'
  |some q=>
   have h1:(qDY e id p t zs st' (Sa q) d).get t'=if t'=q/\q< ((e.tm.map (zL7 id t zs)).set p (.ot id t zs)).length then .p d else(⟨(e.tm.map (zL7 id t zs)).set p (.ot id t zs),e.vars.map (fun c=>c.map (Ab (qI id))),st'⟩:Env Γ.St).get t':=xE (⟨(e.tm.map (zL7 id t zs)).set p (.ot id t zs),e.vars.map (fun c=>c.map (Ab (qI id))),st'⟩:Env Γ.St) q t' (.p d)
   rw[zBk,h1,hlen1,hsz];split
   .exact g7
   .exact vC t'
 .intro s cs hcs;have hcs':(e.mapT (qI id)).var s=Sa cs:=by cases dst<;>exact hcs
  rw[jF]at hcs';simp at hcs';obtain⟨cs0,hcs0,rfl⟩:=hcs';have ha:zT e (.v s):=⟨cs0,hcs0⟩
  refine⟨ha,?_⟩;obtain⟨c0,et,q1,q2,q3⟩:=hv s cs0 hcs0;refine⟨c0,et,(hext.ha (.v s) ⟨ha,by simp⟩).trans q1,by simpa using q2,?_⟩;intro i x y hi hy;simp at hy;obtain⟨y0,hy0,rfl⟩:=hy;exact(q3 i x y0 hi hy0).killO.ext hext
 .rintro s ⟨cs,hcs⟩;refine⟨cs.map (qI id),?_⟩;have:(e.mapT (qI id)).var s=Sa (cs.map (qI id)):=by rw[jF,hcs];rfl
  cases dst<;>exact this
def zMl{St:Type}(G:Nat->Option (List V))(e:Env St):List Operand->Option (Nat×Nat×List Operand)
 |[]=>Sc
 |x::r=>match evx G e x with
  |.lp s 0=>Sa (0,s,r)
  |_=>match zMl G e r with
   |some (k,s,c)=>Sa (k+1,s,x::c)
   |none=>Sc
theorem zNx{St:Type}{G:Nat->Option (List V)}{e:Env St}:∀{l:List Operand} {k s:Nat} {r:List Operand},zMl G e l=Sa (k,s,r)->
  k<=r.length/\l.length=r.length+1/\(∃x,l[k]?=Sa x/\evx G e x=.lp s 0)/\∀(i:Nat) (x:Operand),r[i]?=Sa x->l[if i<k then i else i+1]?=Sa x
 |[],_,_,_,h=>by simp[zMl]at h
 |x::d,k,s,r,h=>by
  simp only[zMl]at h;split at h
  .grind
  .split at h
   .rename_i f g j c;simp at h;obtain⟨rfl,rfl,rfl⟩:=h;obtain⟨m,n,⟨y,p,q⟩,t⟩:=zNx c
    grind
   .cases h
def zMy:List T->Option (List V)
 |[]=>Sa []
 |.p d::r=>match zMy r with
  |some c=>Sa (d::c)
  |none=>Sc
 |_=>Sc
theorem zNO:∀{cs:List T} {vs:List V},zMy cs=Sa vs->cs=vs.map T.p
 |[],vs,h=>by grind[zMy]
 |x::r,vs,h=>by
  cases x with
  |p d=>
   simp only[zMy]at h;split at h
   .rename_i f c;simp only[ac]at h;subst h;rw[List.map_cons,<-zNO c]
   .cases h
  |_=>simp[zMy]at h
def qDV{St:Type}(e:Env St)(s:Nat)(t:Ty)(z:t.El)(st:St)(c:Option Tmp)(d:V):Env St:=
 (⟨e.tm,e.vars.set s (Sa ((t.cells z).map T.p)),st⟩:Env St).put c (.p d)
theorem zX.extV{w w':World}{F F':Blk->Prop}{β:Lay}{al:v8->Prop}{v:Value}{x:T}{s:Nat}(h:Ext w F β (fun y=>al y/\y≠ .v s) w' F' β al)(hx:zX w F β al v x):zX w' F' β al v x:=by
 cases x with
 |lp q c=>exact hx
 |p d=>exact zX.ext (x:=.p d) h hx
 |ow id k g=>exact zX.ext (x:=.ow id k g) h ⟨⟨hx.1,by simp⟩,hx.2⟩
 |oe id k g i c=>exact zX.ext (x:=.oe id k g i c) h ⟨⟨hx.1,by simp⟩,hx.2⟩
 |mp id g l=>exact zX.ext (x:=.mp id g l) h ⟨⟨hx.1,by simp⟩,hx.2⟩
 |ot id t xs=>
  refine zX.ext (x:=.ot id t xs) h ?_;rcases hx with f|⟨f,ha,j⟩
  .exact .inl f
  .exact .inr ⟨f,⟨ha,by simp⟩,j⟩
 |oet id t xs i c=>exact zX.ext (x:=.oet id t xs i c) h ⟨⟨hx.1,by simp⟩,hx.2⟩
 |ov id t xs lo m=>
  refine zX.ext (x:=.ov id t xs lo m) h ?_;rcases hx with f|⟨f,ha,j⟩
  .exact .inl f
  .exact .inr ⟨f,⟨ha,by simp⟩,j⟩
 |on n=>exact zX.ext (x:=.on n) h ⟨⟨hx.1,by simp⟩,⟨hx.2.1,by simp⟩,hx.2.2⟩
 |emp=>exact hx
 |dead=>trivial
theorem qF1(hS:qK Γ P G S)(hi:Inv Γ G w0 F0 O0 a w e){dst:Option Tmp}{c:Call}{type:TypeId}{pos:String}{after:Array Edge}{guard:Option (Nat×Bool)}
  {f:Operand} {g:FuncId} {k s:Nat} {xs:List Operand} {cs:List T} {vs:List V} {t:Ty} {y z:t.El} {ds:List V} {st':Γ.St} {d:V}
  (hcal:c.callee=.value f) (hf:evx G e f=.p (.clo g [])) (hspl:zMl G e c.args.toList=Sa (k,s,xs)) (hxs:yX G e xs=Sa ds)
  (hcs:e.var s=Sa cs) (hvs:zMy cs=Sa vs) (hy:t.dec (.agg vs)=Sa y)
  (hsp:S g e.st (.bot:: .tl t [y]:: .bot:: .val (.int .i64 (k:Int))::ds)=Sa (st',.p (.tup [.tl t [z],d]))) {Q:Exit->Act->World->Prop} :
  (⟨dst,.call c,type,pos,after,guard⟩:Oper).wp P a w (fun a' w'=>Inv Γ G w0 F0 O0 a' w' (qDV e s t z st' dst d)) Q:=by
 obtain⟨F,O,β,hc,hG,hsz,hdf,ht,hv⟩:=hi;obtain⟨hbor,fn,hfn,hbody,hname⟩:=hS.bor g e.st t [y] (.bot:: .val (.int .i64 (k:Int))::ds) st' [z] d hsp;have hptr:qBK Γ P G g e.st t k [y] ds st' [z] d:=hbor;have hops:∀x,zX w F β (zT e) (a.eval x) (evx G e x):=fun x=>uX hG ht x;have hf0:=hops f;rw[hf]at hf0;obtain⟨s1,s2,⟨x0,s3,s4⟩,s5⟩:=zNx hspl;have hx0:=hops x0;rw[s4]at hx0;obtain⟨hal,hpv⟩:=hx0;obtain⟨hlen,hargs⟩:=zDh (a:=a) xs ds (fun x _=>hops x) hxs
 have hrun:(execOp a.eval ⟨dst,.call c,type,pos,after,guard⟩).run P w=.ok (.enter g (c.args.map a.eval)) w:=by
  have hf1:Rd w F (a.eval f) (.clo g []):=hf0;generalize hev:a.eval f=fv at hf1
  cases hf1 with
  |clo _ cv _ hl hcap=>
   have hcv:cv= #[]:=by simpa using hl
   subst hcv;have hb:¬fn.body=none:=by grind
   have hname' : ¬ fn.name = "runtime.NumGoroutine" := by simpa using hname
   simp[execOp,resolve,hcal,hev,Ae,invoke,callFunc,hfn,hname',hb]
 have hsize:(c.args.map a.eval).size=ds.length+1:=by grind
 have hat:∀(i:Nat) (x:Operand),c.args.toList[i]?=Sa x->(c.args.map a.eval)[i]?=Sa (a.eval x):=by
  grind
 have hak:(c.args.map a.eval)[k]?=Sa (.pointer (Sa ⟨β.vb s,0,Sc⟩)):=by grind
 have hrest:∀(i:Nat) (x:Value) (d:V),(c.args.map a.eval)[if i<k then i else i+1]?=Sa x->ds[i]?=Sa d->Rd w F x d:=by
  grind
 obtain⟨c0,et,q1,q2,q3⟩:=hv s cs hcs;have hcv:=zNO hvs;subst hcv;have hws:kY vs (t.enc y).cells:=zPR hy
 have hrow:qP w F (β.vb s) t.size 1 ([y].map t.enc):=by
  refine⟨c0,et,q1,?_,by simp,?_,?_⟩
  .rw[q2,aL,hws.len,w7];simp
  .grind[List.mem_singleton,w7]
  .intro i j e0 d0 x h1 h2 h3
   cases i with
   |succ i=>simp at h1
   |zero=>
    cases h1;have hlt:j<vs.length:=by grind
    have h4:vs[j]?=Sa vs[j]:=by simp[hlt]
    have h5:Rd w F x vs[j]:=q3 j x (.p vs[j]) (by simpa using h3) (by grind);exact hws.get j _ d0 h4 h2 w F x h5
 obtain⟨p1,p2,p3,p4⟩:=hc.place (.v s) hal;have hcall:=hptr w F O (β.vb s) 1 (c.args.map a.eval) hc.sig hG (fun b hb=>(hc.fin b hb).2) hrow rfl ⟨p2,p3,p4⟩ hsize (by omega) hak hrest;unfold Oper.wp;rw[hrun];refine hcall.mono ?_;rintro ex w' ⟨v,F',O',rfl,g1,g2,g3,g4,g5,g6,_,g7⟩;have hkb:∀b,b<w.heap.size->¬O b->b≠β.vb s->w'.heap[b]?=w.heap[b]? :=fun b hb ho hne=>g2.block b hb (fun h=>h.elim ho hne);have hne:∀x,zT e x->x≠ .v s->β.blk x≠β.vb s:=fun x hx hxi hh=>hxi (hc.dist x (.v s) hx hal hh);have hnew0:w0.heap.size<=β.vb s:=p1.v
 have hO':∀b,b<w.heap.size->¬O b->¬O' b:=fun b hb ho h=>by
  grind
 have hF':∀b:Nat,b<w.heap.size->¬F b->¬F' b:=fun b hb hf h=>by
  grind
 have hext:Ext w F β (fun x=>zT e x/\x≠ .v s) w' F' β (zT e):=
  ⟨g4.1,fun b hb=>hkb b (hc.fin b hb).2.1 (hc.fin b hb).2.2 (fun hh=>p3 (by rw[hh]at hb;exact hb)),fun x hx=>hx.1,fun _ _=>rfl,
   fun x hx=>hkb _ (hc.place x hx.1).2.1 (hc.place x hx.1).2.2.2 (hne x hx.1 hx.2)⟩
 have hext0:Ext w F β (fun _=>False) w' F' β (fun _=>False):=
  ⟨g4.1,hext.hf,fun x hx=>hx,fun _ _=>rfl,fun x hx=>hx.elim⟩
 have hcore:zDI Γ w0 F0 O0 w' F' O' β (zT e) st':=by
  refine⟨⟨g2.os.trans hc.keep.os,g2.tape.trans hc.keep.tape,g2.output.trans hc.keep.output,ai hc.keep.size g2.size,?_,ai hc.keep.drawn g2.drawn⟩,g1,?_,?_,hc.f0.trans g4 hc.keep.size,?_,hc.dist,?_⟩
  .intro b hb ho
   rw[hkb b (by grind) (fun h=>by
    rcases hc.oin b h with h|h
    .exact ho (.inl h)
    .omega) (fun hh=>by omega)]
   exact hc.keep.block b hb ho
  .intro b hb;rcases g3 b hb with h|h
   .exact hc.oin b h
   grind
  .intro b hb;obtain⟨h1,h2,h3⟩:=g5 b hb;refine⟨?_,h2,h3⟩;rcases h1 with h|h
   .exact(hc.fin b h).1
   grind
  .intro x hx;obtain⟨k1,k2,k3,k4⟩:=hc.place x hx;exact⟨k1,az k2 g2.size,hF' _ k2 k3,hO' _ k2 k4⟩
  .intro b n hb;obtain⟨h1,h2,h3,cc,et,fl,h4,h5⟩:=hc.lent b n hb
   grind
 have hsl:s<e.vars.length:=by
  grind[Nat.lt_or_ge,List.getElem?_eq_none,Env.var]
 have hvar:∀s',(⟨e.tm,e.vars.set s (Sa ((t.cells z).map T.p)),st'⟩:Env Γ.St).var s'=if s'=s then Sa ((t.cells z).map T.p)else e.var s':=by
  intro s';simp only[Env.var]
  grind
 have vC:∀t',zX w' F' β (zT e) (a.tmps.getD t' undef) (e.get t'):=fun t'=>(ht t').extV hext;refine Inv.of (al:=zT e) (F:=F') (O:=O') (β:=β) ?_ (hG.ext hext0) ?_ ?_ ?_ ?_ ?_
 .cases dst<;>exact hcore
 .cases dst<;>simp[qDV,Env.put,Act.put,hsz]
 .cases dst<;>exact hdf
 .intro t'
  cases dst with
  |none=>exact vC t'
  |some q=>
   have h1:(qDV e s t z st' (Sa q) d).get t'=if t'=q/\q<e.tm.length then .p d else e.get t':=xE (⟨e.tm,e.vars.set s (Sa ((t.cells z).map T.p)),st'⟩:Env Γ.St) q t' (.p d)
   rw[zBk,h1,hsz];split
   .exact g7
   .exact vC t'
 .intro s' cs' hcs';have hcs2:(⟨e.tm,e.vars.set s (Sa ((t.cells z).map T.p)),st'⟩:Env Γ.St).var s'=Sa cs':=by cases dst<;>exact hcs'
  rw[hvar]at hcs2;split at hcs2
  .rename_i hss;subst hss;cases hcs2;obtain⟨c1,et1,k1,k2,k3,k4,k5⟩:=g6;refine⟨hal,c1,et1,k1,?_,?_⟩
   .rw[k2,aL,kS];simp
   .intro i x y0 hx hy0;simp at hy0;obtain⟨d0,hd0,rfl⟩:=hy0;exact k5 0 i (t.enc z) d0 x rfl (by grind[jN]) (by simpa using hx)
  .rename_i hss;have ha':zT e (.v s'):=⟨cs',hcs2⟩
   refine⟨ha',?_⟩;obtain⟨c',et',r1,r2,r3⟩:=hv s' cs' hcs2;exact⟨c',et',(hext.ha (.v s') ⟨ha',by simpa using hss⟩).trans r1,r2,fun i u y0 hu hy0=>(r3 i u y0 hu hy0).extV hext⟩
 .rintro s' ⟨cs',hcs'⟩;by_cases hss:s'=s
  .refine⟨(t.cells z).map T.p,?_⟩;have:=hvar s';rw[if_pos hss]at this;cases dst<;>exact this
  .refine⟨cs',?_⟩;have:=hvar s';rw[if_neg hss,hcs']at this;cases dst<;>exact this
theorem qEj(hS:qK Γ P G S)(hi:Inv Γ G w0 F0 O0 a w e){dst:Option Tmp}{c:Call}{type:TypeId}{pos:String}{after:Array Edge}{guard:Option (Nat×Bool)}
  {f:Operand} {g:FuncId} {p id:Nat} {xs:List Operand} {t:Ty} {ys zs:List t.El} {ds:List V} {st':Γ.St}
  (hcal:c.callee=.value f) (hf:evx G e f=.p (.clo g [])) (hcargs:c.args.toList=.tmp p::xs) (hp:e.get p=.ot id t ys) (hxs:yX G e xs=Sa ds)
  (hid:id≠jY) (hsp:S g e.st (.bot:: .tl t ys::ds)=Sa (st',.p (.tup [.tl t zs,.bot]))) {Q:Exit->Act->World->Prop} :
  (⟨dst,.call c,type,pos,after,guard⟩:Oper).wp P a w (fun a' w'=>Inv Γ G w0 F0 O0 a' w' (qDW e id t zs st' dst)) Q:=by
 obtain⟨F,O,β,hc,hG,hsz,hdf,ht,hv⟩:=hi;obtain⟨hbor,fn,hfn,hbody,hname⟩:=hS.bor g e.st t ys ds st' zs .bot hsp;have hops:∀x,zX w F β (zT e) (a.eval x) (evx G e x):=fun x=>uX hG ht x;have hf0:=hops f;rw[hf]at hf0;have hx0:=ht p;rw[hp]at hx0;obtain⟨hlen,hargs⟩:=zDh (a:=a) xs ds (fun x _=>hops x) hxs
 have hrun:(execOp a.eval ⟨dst,.call c,type,pos,after,guard⟩).run P w=.ok (.enter g (c.args.map a.eval)) w:=by
  have hf1:Rd w F (a.eval f) (.clo g []):=hf0;generalize hev:a.eval f=fv at hf1
  cases hf1 with
  |clo _ cv _ hl hcap=>
   have hcv:cv= #[]:=by simpa using hl
   subst hcv;have hb:¬fn.body=none:=by grind
   have hname' : ¬ fn.name = "runtime.NumGoroutine" := by simpa using hname
   simp[execOp,resolve,hcal,hev,Ae,invoke,callFunc,hfn,hname',hb]
 have hnp:zCt ds=none:=zJ7 (fun r hr=>by
  cases xs with
  |nil=>grind
  |cons x xs'=>exact zXC _ (hargs 0 (a.eval x) .bot (by simp) (by rw[hr];rfl)))
 have hcs:c.args=(.tmp p::xs).toArray:=by grind
 have hsize:(c.args.map a.eval).size=ds.length+1:=by grind
 have ha0:(c.args.map a.eval)[0]?=Sa (a.tmps.getD p undef):=by grind[Act.eval]
 have hown:zCg w F ⟨fun _=>β.ob id,fun _=>β.ob id⟩ (fun _=>True) (a.tmps.getD p undef) 0 t.size (ys.map t.enc):=by
  rcases hx0 with h|⟨h0,_,h⟩
  .exact .inl h
  .exact .inr ⟨h0,trivial,h⟩
 have hal0:ys≠[]->zT e (.o id):=by
  intro h0;rcases hx0 with⟨h,_⟩|⟨_,h,_⟩
  all_goals simp_all
 have hcall:=(hbor.row hnp) w F O (β.ob id) (a.tmps.getD p undef) (c.args.map a.eval) hc.sig hG (fun b hb=>(hc.fin b hb).2) hown
  (fun h0=>⟨(hc.place _ (hal0 h0)).2.1,(hc.place _ (hal0 h0)).2.2.1,(hc.place _ (hal0 h0)).2.2.2⟩) hsize ha0
  (fun i x y hi hd=>hargs i x y (by grind) hd)
 unfold Oper.wp;rw[hrun];refine hcall.mono ?_;rintro ex w' ⟨v,F',O',rfl,g1,g2,g3,g4,g5,b',g7,g6⟩;have hkb:∀b,b<w.heap.size->¬O b->(ys≠[]->b≠β.ob id)->w'.heap[b]?=w.heap[b]? :=fun b hb ho hne=>g2.block b hb (fun h=>h.elim ho (fun h=>hne h.1 h.2));have hne:∀x,zT e x->x≠ .o id->ys≠[]->β.blk x≠β.ob id:=fun x hx hxi h0 hh=>hxi (hc.dist x (.o id) hx (hal0 h0) hh);have hnew0:ys≠[]->w0.heap.size<=β.ob id:=fun h0=>(hc.place _ (hal0 h0)).1.o hid
 have hO':∀b,b<w.heap.size->¬O b->¬O' b:=fun b hb ho h=>by
  grind
 have hF':∀b:Nat,b<w.heap.size->¬F b->¬F' b:=fun b hb hf h=>by
  grind
 have hext:Ext w F β (alo id (zT e)) w' F' β (zT e):=
  ⟨g4.1,fun b hb=>hkb b (hc.fin b hb).2.1 (hc.fin b hb).2.2 (fun h0 hh=>(hc.place _ (hal0 h0)).2.2.1 (by rw[hh]at hb;exact hb)),fun x hx=>hx.1,fun _ _=>rfl,
   fun x hx=>hkb _ (hc.place x hx.1).2.1 (hc.place x hx.1).2.2.2 (hne x hx.1 hx.2)⟩
 have hcore:zDI Γ w0 F0 O0 w' F' O' β (zT e) st':=by
  refine⟨⟨g2.os.trans hc.keep.os,g2.tape.trans hc.keep.tape,g2.output.trans hc.keep.output,ai hc.keep.size g2.size,?_,ai hc.keep.drawn g2.drawn⟩,g1,?_,?_,hc.f0.trans g4 hc.keep.size,?_,hc.dist,?_⟩
  .intro b hb ho
   rw[hkb b (by have:=hc.keep.size;omega) (fun h=>by
    rcases hc.oin b h with h|h
    .exact ho (.inl h)
    .omega) (fun h0 hh=>by grind)]
   exact hc.keep.block b hb ho
  .intro b hb;rcases g3 b hb with h|h
   .exact hc.oin b h
   .exact .inr (ai hc.keep.size h)
  .intro b hb;obtain⟨h1,h2,h3⟩:=g5 b hb;refine⟨?_,h2,h3⟩;rcases h1 with h|h
   .exact(hc.fin b h).1
   .exact .inr (ai hc.keep.size h)
  .intro x hx;obtain⟨k1,k2,k3,k4⟩:=hc.place x hx;exact⟨k1,az k2 g2.size,hF' _ k2 k3,hO' _ k2 k4⟩
  .intro b n hb;obtain⟨h1,h2,h3,cc,et,fl,h4,h5⟩:=hc.lent b n hb
   grind
 have hboth:∃(β':Lay) (al':v8->Prop),Ext w F β (alo id (zT e)) w' F' β' al'/\zDI Γ w0 F0 O0 w' F' O' β' al' st'/\zX w' F' β' al' v (.ot id t zs)/\(∀s,al' (.v s)↔zT e (.v s))/\β'.vb=β.vb:=by
  rcases g7 with⟨rfl,g7⟩|⟨k1,k2,k3,k4⟩
  .refine⟨β,zT e,hext,hcore,?_,fun _=>cD,rfl⟩;rcases g6 with h|⟨h0,_,cap,hv0,hr⟩
   .exact .inl h
   .exact .inr ⟨h0,hal0 (fun hy=>h0 (by rw[g7 hy];rfl)),cap,hv0,hr⟩
  .let β':Lay:= { β with ob:=fun i=>if i=id then b' else β.ob i }
   have hb:∀x,x≠ .o id->β'.blk x=β.blk x:=by
    intro x hx
    cases x with
    |v s=>rfl
    |o i=>
     grind[id,Lay.blk]
   have hb0:β'.blk (.o id)=b':=by simp[Lay.blk,β']
   refine⟨β',fun x=>(zT e x/\x≠ .o id)\/x=.o id,⟨hext.f,hext.hf,fun x hx=>.inl hx,fun x hx=>hb x hx.2,hext.ha⟩,⟨hcore.keep,hcore.sig,hcore.oin,hcore.fin,hcore.f0,?_,?_,hcore.lent⟩,?_,?_,rfl⟩
   .rintro x (⟨hx,hne'⟩|rfl)
    .rw[hb x hne'];exact hcore.place x hx
    .rw[hb0];exact⟨.inl ⟨fun h=>hid (by injection h),ai hc.keep.size k1⟩,k2,k3,k4⟩
   .rintro x y (⟨hx,hnx⟩|rfl) (⟨hy,hny⟩|rfl) h
    .rw[hb x hnx,hb y hny]at h;exact hc.dist x y hx hy h
    .rw[hb x hnx,hb0]at h;have:=(hc.place x hx).2.1;omega
    .rw[hb0,hb y hny]at h;have:=(hc.place y hy).2.1;omega
    .rfl
   .have hob:β'.ob id=b':=hb0;rcases g6 with h|⟨h0,_,cap,hv0,hr⟩
    .exact .inl h
    .refine .inr ⟨h0,.inr rfl,cap,?_,?_⟩;all_goals grind
   grind
 obtain⟨β',al',hext,hcore,hnew,hals,hvb⟩:=hboth;have vC:∀t',zX w' F' β' al' (a.tmps.getD t' undef) ((e.mapT (qI id)).get t'):=by intro q;rw[vN rfl];exact(ht q).killO.ext hext
 refine Inv.of (al:=al') (F:=F') (O:=O') (β:=β') ?_ (hG.ext hext) ?_ ?_ ?_ ?_ ?_
 .cases dst<;>exact hcore
 .cases dst<;>simp[qDW,Env.put,Act.put,hsz]
 .cases dst<;>exact hdf
 .intro t'
  cases dst with
  |none=>exact vC t'
  |some q=>
   have h1:(qDW e id t zs st' (Sa q)).get t'=if t'=q/\q< (e.tm.map (qI id)).length then .ot id t zs else(e.mapT (qI id)).get t':=xE (⟨e.tm.map (qI id),e.vars.map (fun c=>c.map (Ab (qI id))),st'⟩:Env Γ.St) q t' (.ot id t zs)
   grind[zBk,List.length_map]
 .intro s cs hcs;have hcs':(e.mapT (qI id)).var s=Sa cs:=by cases dst<;>exact hcs
  rw[jF]at hcs';simp at hcs';obtain⟨cs0,hcs0,rfl⟩:=hcs';have ha:zT e (.v s):=⟨cs0,hcs0⟩
  refine⟨(hals s).2 ha,?_⟩;obtain⟨c0,et,q1,q2,q3⟩:=hv s cs0 hcs0;rw[hvb];refine⟨c0,et,(hext.ha (.v s) ⟨ha,by simp⟩).trans q1,by simpa using q2,?_⟩;intro i x y hi hy;simp at hy;obtain⟨y0,hy0,rfl⟩:=hy;exact(q3 i x y0 hi hy0).killO.ext hext
 .intro s hs;obtain⟨cs,hcs⟩:=(hals s).1 hs;refine⟨cs.map (qI id),?_⟩;have:(e.mapT (qI id)).var s=Sa (cs.map (qI id)):=by rw[jF,hcs];rfl
  cases dst<;>exact this
def zO1{St:Type}(G:Nat->Option (List V))(e:Env St):List Operand->Option (Nat×Nat×((t:Ty)×t.El)×List Operand)
 |[]=>Sc
 |x::r=>match evx G e x with
  |.oet id t [y] 0 0=>Sa (0,id,⟨t,y⟩,r)
  |_=>match zO1 G e r with
   |some (k,id,q,c)=>Sa (k+1,id,q,x::c)
   |none=>Sc
theorem zNy{St:Type}{G:Nat->Option (List V)}{e:Env St}:∀{l:List Operand} {k id:Nat} {q:(t:Ty)×t.El} {r:List Operand},zO1 G e l=Sa (k,id,q,r)->
  k<=r.length/\l.length=r.length+1/\(∃x,l[k]?=Sa x/\evx G e x=.oet id q.1 [q.2] 0 0)/\∀(i:Nat) (x:Operand),r[i]?=Sa x->l[if i<k then i else i+1]?=Sa x
 |[],_,_,_,_,h=>by simp[zO1]at h
 |x::d,k,s,q,r,h=>by
  simp only[zO1]at h;split at h
  .grind
  .split at h
   .rename_i f g j m c;simp at h;obtain⟨rfl,rfl,rfl,rfl⟩:=h;obtain⟨n,p,⟨y,u,z⟩,A⟩:=zNy c
    grind
   .cases h
def zNo(id:Nat)(t:Ty)(z:t.El):T->T
 |.oet i d f j c=>if i=id then(if d=t/\j=0 then .oet id t [z] 0 c else .dead)else .oet i d f j c
 |x=>qI id x
def qDX{St:Type}(e:Env St)(id:Nat)(t:Ty)(z:t.El)(st:St)(f:Option Tmp)(d:V):Env St:=
 (⟨e.tm.map (zNo id t z),e.vars.map (fun c=>c.map (Ab (qI id))),st⟩:Env St).put f (.p d)
theorem qD1(hS:qK Γ P G S)(hi:Inv Γ G w0 F0 O0 a w e){dst:Option Tmp}{c:Call}{type:TypeId}{pos:String}{after:Array Edge}{guard:Option (Nat×Bool)}
  {f:Operand} {g:FuncId} {k id:Nat} {xs:List Operand} {t:Ty} {y z:t.El} {ds:List V} {st':Γ.St} {d:V}
  (hcal:c.callee=.value f) (hf:evx G e f=.p (.clo g [])) (hspl:zO1 G e c.args.toList=Sa (k,id,⟨t,y⟩,xs)) (hxs:yX G e xs=Sa ds)
  (hsp:S g e.st (.bot:: .tl t [y]:: .bot:: .val (.int .i64 (k:Int))::ds)=Sa (st',.p (.tup [.tl t [z],d]))) {Q:Exit->Act->World->Prop} :
  (⟨dst,.call c,type,pos,after,guard⟩:Oper).wp P a w (fun a' w'=>Inv Γ G w0 F0 O0 a' w' (qDX e id t z st' dst d)) Q:=by
 obtain⟨F,O,β,hc,hG,hsz,hdf,ht,hv⟩:=hi;obtain⟨hbor,fn,hfn,hbody,hname⟩:=hS.bor g e.st t [y] (.bot:: .val (.int .i64 (k:Int))::ds) st' [z] d hsp;have hptr:qBK Γ P G g e.st t k [y] ds st' [z] d:=hbor;have hops:∀x,zX w F β (zT e) (a.eval x) (evx G e x):=fun x=>uX hG ht x;have hf0:=hops f;rw[hf]at hf0;obtain⟨s1,s2,⟨x0,s3,s4⟩,s5⟩:=zNy hspl;have hx0:=hops x0;rw[s4]at hx0;obtain⟨hal,_,cap,hpv,hrow⟩:=hx0;simp at hpv;obtain⟨hlen,hargs⟩:=zDh (a:=a) xs ds (fun x _=>hops x) hxs
 have hrun:(execOp a.eval ⟨dst,.call c,type,pos,after,guard⟩).run P w=.ok (.enter g (c.args.map a.eval)) w:=by
  have hf1:Rd w F (a.eval f) (.clo g []):=hf0;generalize hev:a.eval f=fv at hf1
  cases hf1 with
  |clo _ cv _ hl hcap=>
   have hcv:cv= #[]:=by simpa using hl
   subst hcv;have hb:¬fn.body=none:=by grind
   have hname' : ¬ fn.name = "runtime.NumGoroutine" := by simpa using hname
   simp[execOp,resolve,hcal,hev,Ae,invoke,callFunc,hfn,hname',hb]
 have hsize:(c.args.map a.eval).size=ds.length+1:=by grind
 have hat:∀(i:Nat) (x:Operand),c.args.toList[i]?=Sa x->(c.args.map a.eval)[i]?=Sa (a.eval x):=by
  grind
 have hak:(c.args.map a.eval)[k]?=Sa (.pointer (Sa ⟨β.ob id,0,Sc⟩)):=by grind
 have hrest:∀(i:Nat) (x:Value) (d:V),(c.args.map a.eval)[if i<k then i else i+1]?=Sa x->ds[i]?=Sa d->Rd w F x d:=by
  grind
 obtain⟨p1,p2,p3,p4⟩:=hc.place (.o id) hal;have hcall:=hptr w F O (β.ob id) cap (c.args.map a.eval) hc.sig hG (fun b hb=>(hc.fin b hb).2) hrow rfl ⟨p2,p3,p4⟩ hsize (by omega) hak hrest;unfold Oper.wp;rw[hrun];refine hcall.mono ?_;rintro ex w' ⟨v,F',O',rfl,g1,g2,g3,g4,g5,g6,_,g7⟩;have hkb:∀b,b<w.heap.size->¬O b->b≠β.ob id->w'.heap[b]?=w.heap[b]? :=fun b hb ho hne=>g2.block b hb (fun h=>h.elim ho hne);have hne:∀x,zT e x->x≠ .o id->β.blk x≠β.ob id:=fun x hx hxi hh=>hxi (hc.dist x (.o id) hx hal hh)
 have hO':∀b,b<w.heap.size->¬O b->¬O' b:=fun b hb ho h=>by
  grind
 have hF':∀b:Nat,b<w.heap.size->¬F b->¬F' b:=fun b hb hf h=>by
  grind
 have hext:Ext w F β (alo id (zT e)) w' F' β (zT e):=
  ⟨g4.1,fun b hb=>hkb b (hc.fin b hb).2.1 (hc.fin b hb).2.2 (fun hh=>p3 (by show F (Blk.b (β.ob id));grind)),fun x hx=>hx.1,fun _ _=>rfl,
   fun x hx=>hkb _ (hc.place x hx.1).2.1 (hc.place x hx.1).2.2.2 (hne x hx.1 hx.2)⟩
 have hcore:zDI Γ w0 F0 O0 w' F' O' β (zT e) st':=by
  refine⟨⟨g2.os.trans hc.keep.os,g2.tape.trans hc.keep.tape,g2.output.trans hc.keep.output,ai hc.keep.size g2.size,?_,ai hc.keep.drawn g2.drawn⟩,g1,?_,?_,hc.f0.trans g4 hc.keep.size,?_,hc.dist,?_⟩
  .intro b hb ho
   rw[hkb b (by have:=hc.keep.size;omega) (fun h=>by
    rcases hc.oin b h with h|h
    .exact ho (.inl h)
    .omega) (fun hh=>ho (p1.old (by show β.ob id<_;omega)|>fun h=>by rw[hh];exact h))]
   exact hc.keep.block b hb ho
  .intro b hb;rcases g3 b hb with h|h
   .exact hc.oin b h
   .exact .inr (ai hc.keep.size h)
  .intro b hb;obtain⟨h1,h2,h3⟩:=g5 b hb;refine⟨?_,h2,h3⟩;rcases h1 with h|h
   .exact(hc.fin b h).1
   .exact .inr (ai hc.keep.size h)
  .intro x hx;obtain⟨k1,k2,k3,k4⟩:=hc.place x hx;exact⟨k1,az k2 g2.size,hF' _ k2 k3,hO' _ k2 k4⟩
  .intro b n hb;obtain⟨h1,h2,h3,cc,et,fl,h4,h5⟩:=hc.lent b n hb;have hbw:b<w.heap.size:=by grind
   refine⟨h1,hO' b hbw h2,hF' b hbw h3,?_⟩;by_cases hbi:b=β.ob id
   .subst hbi;obtain⟨c0,et0,r1,r2,_⟩:=hrow;obtain⟨c1,et1,q1,q2,_⟩:=g6
    grind
   grind
 have vC:∀t',zX w' F' β (zT e) (a.tmps.getD t' undef) ((⟨e.tm.map (zNo id t z),e.vars.map (fun c=>c.map (Ab (qI id))),st'⟩:Env Γ.St).get t'):=by
  intro q
  have h1:(⟨e.tm.map (zNo id t z),e.vars.map (fun c=>c.map (Ab (qI id))),st'⟩:Env Γ.St).get q=zNo id t z (e.get q):=by
   grind[Env.get,zNo,qI]
  rw[h1];have hkill:zX w' F' β (zT e) (a.tmps.getD q undef) (qI id (e.get q)):=(ht q).killO.ext hext;have hq:=ht q
  cases hx:e.get q with
  |oet i t' us j off=>
   rw[hx]at hkill hq;simp only[zNo];split
   .rename_i hi;subst hi;split
    .rename_i htt;obtain⟨htt,hj⟩:=htt;subst htt;subst hj;obtain⟨_,_,cap',hv',_⟩:=hq;exact⟨hal,by simp,cap,hv',g6⟩
    .trivial
   .rename_i hi;simp only[qI,if_neg hi]at hkill;exact hkill
  |_=>rw[hx]at hkill;exact hkill
 refine Inv.of (al:=zT e) (F:=F') (O:=O') (β:=β) ?_ (hG.ext hext) ?_ ?_ ?_ ?_ ?_
 .cases dst<;>exact hcore
 .cases dst<;>simp[qDX,Env.put,Act.put,hsz]
 .cases dst<;>exact hdf
 .intro t'
  cases dst with
  |none=>exact vC t'
  |some q=>
   have h1:(qDX e id t z st' (Sa q) d).get t'=if t'=q/\q< (e.tm.map (zNo id t z)).length then .p d else(⟨e.tm.map (zNo id t z),e.vars.map (fun c=>c.map (Ab (qI id))),st'⟩:Env Γ.St).get t':=xE (⟨e.tm.map (zNo id t z),e.vars.map (fun c=>c.map (Ab (qI id))),st'⟩:Env Γ.St) q t' (.p d)
   rw[zBk,h1,aL,hsz];split
   .exact g7
   .exact vC t'
 .intro s cs hcs;have hcs':(e.mapT (qI id)).var s=Sa cs:=by cases dst<;>exact hcs
  rw[jF]at hcs';simp at hcs';obtain⟨cs0,hcs0,rfl⟩:=hcs';have ha:zT e (.v s):=⟨cs0,hcs0⟩
  refine⟨ha,?_⟩;obtain⟨c0,et,q1,q2,q3⟩:=hv s cs0 hcs0;refine⟨c0,et,(hext.ha (.v s) ⟨ha,by simp⟩).trans q1,by simpa using q2,?_⟩;intro i x y hi hy;simp at hy;obtain⟨y0,hy0,rfl⟩:=hy;exact(q3 i x y0 hi hy0).killO.ext hext
 .rintro s ⟨cs,hcs⟩;refine⟨cs.map (qI id),?_⟩;have:(e.mapT (qI id)).var s=Sa (cs.map (qI id)):=by rw[jF,hcs];rfl
  cases dst<;>exact this
end
section
variable {Γ:Sig}{ρ:Type}(P:j9)(G:Nat->Option (List V))(S:zU Γ)
def zYS(e:Env Γ.St)(f:Option Tmp)(c:Call):Option (Kex Γ ρ):=
 match c.callee,c.args.toList,c.argTypes.toList,f with
 |.builtin .append,[.tmp p,g],[i,j],Sa d=>
  match e.get p with
  |.ov id k l 0 m=>match P.und i,P.und j with
   |some (.slice n),Sa (.slice _)=>match P.inf n with
    |some a=>match a.zero,zZl (evx G e g)with
     |some z,Sa ⟨t,y::q⟩=>
      if qEg p g=Sd then Sc else
      if h:k=t then
       if t.size=a.size/\1<=a.bytes/\zRz z=a.size/\id≠jY then
        Sa (fun K=>Ad (app a.bytes (List.take m (h▸l)) (y::q)) fun r=>K { (e.kill id)with tm:=(e.kill id).tm.set d (.ot id t r) })
       else Sc
      else Sc
     |_,_=>Sc
    |none=>Sc
   |_,_=>Sc
  |_=>Sc
 |_,_,_,_=>Sc
def wX(e:Env Γ.St)(o:Oper):Option (Kex Γ ρ):=
 match o.op with
 |.store t r x=>match o.dst with
  |some _=>Sc
  |none=>match evx G e r,evx G e x with
   |.oet id g m i f,.p d=>
    if wE P t=Sa d.cells.length/\f+d.cells.length<=g.size/\d.cells.all V.one=Sb/\(g.aggT=Sd->d.cells.length=1/\g.size=1)then
     Sa (fun K=>Ad (atN m i) fun y=>match zUH g y f d with
      |some z=>K (e.mapT (zJc id g i z))
      |none=>Sc)
    else Sc
   |.oet id g _ i f,.ot h n j=>match g with
    |.sl u=>if u=n/\f=0/\wE P t=Sa 1/\id=qEf/\id≠h then Sa (fun K=>zLx (!j.isEmpty) (K (e.mapT (zY5 id h n i j))))else Sc
    |_=>Sc
   |.on ⟨id,h,g,_,_,j,.q k f⟩,.p d=>
    if wE P t=Sa d.cells.length/\f+d.cells.length<=g.size/\d.cells.all V.one=Sb/\(g.aggT=Sd->d.cells.length=1/\g.size=1)/\id≠h/\id≠jY/\h≠jY then
     Sa (fun K=>Ad (atN j k) fun y=>match zUH g y f d with
      |some z=>K (e.mapT (zY6 id h g k z))
      |none=>Sc)
    else Sc
   |_,_=>Sc
 |.call c=>match zYS P G e o.dst c with
  |some q=>Sa q
  |none=>match c.callee,c.args.toList,c.argTypes.toList,o.dst with
  |.builtin .append,[A,B],[C,D],Sa d=>match P.und C,P.und D with
   |some (.slice E),Sa (.slice _)=>match P.inf E with
    |some a=>match a.zero,zZl (evx G e B)with
     |some z,Sa ⟨t,j⟩=>match zYq t (evx G e A)with
      |some (l,m)=>
       if t.size=a.size/\1<=a.bytes/\zRz z=a.size/\l.getD d≠jY then
        Sa (fun K=>Ad (app a.bytes m j) fun F=>
         K { (e.kill (l.getD d))with tm:=(e.kill (l.getD d)).tm.set d (.ot (l.getD d) t F) })
       else Sc
      |none=>Sc
     |_,_=>Sc
    |none=>Sc
   |_,_=>Sc
  |_,_,_,_=>Sc
 |_=>Sc
def wXs(e:Env Γ.St)(o:Oper):Option (Kex Γ ρ):=
 match wX P G e o with
 |some q=>Sa q
 |none=>match evW P G e o with
  |some a=>Sa (fun K=>K a)
  |none=>Sc
def zMv(e:Env Γ.St)(o:Oper):Option (Kex Γ ρ):=
 match qXs P G S e o with
 |some q=>Sa (fun K=>q (fun r=>match zAC e o.dst r with
  |some a=>K a
  |none=>Sc))
 |none=>wXs P G e o
def qHE(e:Env Γ.St)(o:Oper):Option (Kex Γ ρ):=
 match o.op with
 |.call c=>match c.callee,c.args.toList with
  |.value f,.tmp p::l=>match evx G e f,e.get p,yX G e l with
   |.p (.clo g []),.ot id t k,Sa n=>match S g e.st (.bot:: .tl t k::n)with
    |some a=>match a.pl with
     |false=>Sa (fun K=>zLx (qFi (zLZ id p k.length 0 e.tm)) (Ad a.m fun y=>match a.res y with
      |.p (.tup [.tl _ _,.bot])=>Sc
      |.p (.tup [.tl i j,d])=>if h:i=t then K (qDY e id p t (h▸j) (a.st y) o.dst d)else Sc
      |_=>Sc))
     |true=>match Aa id jY with
      |true=>Sc
      |false=>Sa (fun K=>Ad a.m fun y=>match a.res y with
       |.p (.tup [.tl i j,.bot])=>if h:i=t then K (qDW e id t (h▸j) (a.st y) o.dst)else Sc
       |_=>Sc)
    |none=>Sc
   |_,_,_=>Sc
  |_,_=>Sc
 |_=>Sc
def qHR(a:List TypeId)(k:Nat):Option Ty:=
 match a[k]? with
 |some c=>match P.und c with
  |some (.pointer d)=>P.ty d
  |_=>P.ty c
 |none=>Sc
def qHc(e:Env Γ.St)(o:Oper):Option (Kex Γ ρ):=
 match o.op with
 |.call c=>match c.callee with
  |.value f=>match evx G e f,zMl G e c.args.toList with
   |.p (.clo g []),Sa (k,s,i)=>match yX G e i,e.var s,qHR P c.argTypes.toList k with
    |some j,Sa l,Sa t=>match zMy l with
     |some n=>match t.dec (.agg n)with
      |some y=>match S g e.st (.bot:: .tl t [y]:: .bot:: .val (.int .i64 (k:Int))::j)with
       |some a=>match a.pl with
        |false=>Sa (fun K=>Ad a.m fun u=>match a.res u with
         |.p (.tup [.tl q [z],d])=>if h:q=t then K (qDV e s t (h▸z) (a.st u) o.dst d)else Sc
         |_=>Sc)
        |true=>Sc
       |none=>Sc
      |none=>Sc
     |none=>Sc
    |_,_,_=>Sc
   |_,_=>Sc
  |_=>Sc
 |_=>Sc
def qD2(e:Env Γ.St)(o:Oper):Option (Kex Γ ρ):=
 match o.op with
 |.call c=>match c.callee with
  |.value f=>match evx G e f,zO1 G e c.args.toList with
   |.p (.clo g []),Sa (k,id,⟨t,y⟩,i)=>match yX G e i with
    |some j=>match S g e.st (.bot:: .tl t [y]:: .bot:: .val (.int .i64 (k:Int))::j)with
     |some a=>match a.pl with
      |false=>Sa (fun K=>Ad a.m fun u=>match a.res u with
       |.p (.tup [.tl l [z],d])=>if h:l=t then K (qDX e id t (h▸z) (a.st u) o.dst d)else Sc
       |_=>Sc)
      |true=>Sc
     |none=>Sc
    |none=>Sc
   |_,_=>Sc
  |_=>Sc
 |_=>Sc
def qH2:Option (Nat×Nat×List Operand)->Nat
 |some (_,s,_)=>2^(2*s+1)
 |none=>0
def zIu(e:Env Γ.St)(o:Oper):Nat:=
 kH G e o|||match o.op with
 |.call c=>qH2 (zMl G e c.args.toList)
 |_=>0
def zVK(e:Env Γ.St)(o:Oper):Option (Kex Γ ρ):=
 match zMv P G S e o with
 |some q=>Sa q
 |none=>match qHE G S e o with
  |some q=>Sa q
  |none=>match qHc P G S e o with
   |some q=>Sa q
   |none=>qD2 G S e o
def qFh(e:Env Γ.St)(c:Nat)(o:Oper)(K:Env Γ.St->Nat->Option ρ):Option ρ:=
 match zVK P G S e o with
 |some q=>q (fun a=>K a (c|||zIu G e o))
 |none=>match zVK P G S (frzOps G (zSG o) e) o with
  |some q=>q (fun a=>K a (c|||(zMa G (zSG o) e|||zIu G (frzOps G (zSG o) e) o)))
  |none=>Sc
def qA3(ops:Array Oper)(e:Env Γ.St)(c:Nat)(o:Oper)(K:Env Γ.St->Nat->Option ρ):Option ρ:=
 match o.guard with
 |none=>qFh P G S e c o K
 |some (j,a)=>match(ops[j]?).bind (·.dst)with
  |none=>K (e.put o.dst (.p (.val undef))) (c|||zCZ o.dst)
  |some t=>match e.get t with
   |.p (.val (.bool b))=>if t<e.tm.length then
     cond b (match a with
      |true=>zMM t (e.lit t Sb) (fun e=>qFh P G S e c o K)
      |false=>K ((e.lit t Sb).put o.dst (.p (.val undef))) (c|||zCZ o.dst))
     (match a with
      |true=>K ((e.lit t Sd).put o.dst (.p (.val undef))) (c|||zCZ o.dst)
      |false=>zMM t (e.lit t Sd) (fun e=>qFh P G S e c o K))
    else Sc
   |.p (.val (.tuple _))=>K (e.put o.dst (.p (.val undef))) (c|||zCZ o.dst)
   |_=>Sc
def seqX(ops:Array Oper):List Oper->Env Γ.St->Nat->(Env Γ.St->Nat->Option ρ)->Option ρ
 |[],e,a,K=>K e a
 |o::c,e,a,K=>qA3 P G S ops e a o (fun d a=>kOp o d (fun d=>seqX ops c d a K))
def qHd(e:Env Γ.St)(o:Oper)(K:Env Γ.St->Option ρ):Option ρ:=
 match o.guard with
 |none=>match qXs P G S e o with
  |some q=>q (fun r=>match r with
   |.frzT t a=>match zAC e o.dst (.ownT t a)with
    |some c=>K c
    |none=>Sc
   |_=>Sc)
  |none=>Sc
 |some _=>Sc
def qDE(ops:Array Oper)(k:Nat)(e:Env Γ.St)(c:Nat)(K:Env Γ.St->Nat->Option ρ):Option ρ:=
 seqX P G S ops (ops.toList.take k) e c (fun e c=>match ops.toList.drop k with
  |o::a=>qHd P G S e o (fun d=>kOp o d (fun d=>seqX P G S ops a d (c|||zCZ o.dst) K))
  |[]=>Sc)
def qDF(ops:Array Oper)(k t:Nat)(e:Env Γ.St)(a:Nat)(K:Env Γ.St->Nat->Option ρ):Option ρ:=
 seqX P G S ops (ops.toList.take k) e a (fun e a=>match ops.toList.drop k with
  |o::c=>match o.guard with
   |none=>zEP (frzOps G [.tmp t] e) (fun f=>qA3 P G S ops f (a|||zMa G [.tmp t] e) o (fun d a=>kOp o d (fun d=>seqX P G S ops c d a K)))
   |some _=>Sc
  |[]=>Sc)
def zF3(e:Env Γ.St)(a:Nat)(o:Oper)(K:Env Γ.St->Nat->Option ρ):Option ρ:=
 match qXs P G S e o with
 |some q=>q (fun r=>match zNa e o.dst r with
  |some c=>K c (a|||zCZ o.dst)
  |none=>Sc)
 |none=>Sc
def zBQ(ops:Array Oper):List Oper->Env Γ.St->Nat->(Env Γ.St->Nat->Option ρ)->Option ρ
 |[],e,d,K=>K e d
 |o::a,e,d,K=>
  match o.guard with
  |none=>if zPc G (qY (o::a)) e o then zF3 P G S e d o (fun c d=>kOp o c (fun c=>zBQ ops a c d K))else Sc
  |some (j,f)=>match(ops[j]?).bind (·.dst)with
   |none=>zMM (o.dst.getD 0) (e.put o.dst (.p (.val undef))) (fun c=>zBQ ops a c (d|||zCZ o.dst) K)
   |some t=>match e.get t with
    |.p (.val (.bool b))=>if t<e.tm.length then
      cond b (match f with
       |true=>zMM t (e.lit t Sb) (fun e=>if zPc G (qY (o::a)) e o then zF3 P G S e d o (fun c d=>kOp o c (fun c=>zBQ ops a c d K))else Sc)
       |false=>zMM (o.dst.getD 0) ((e.lit t Sb).put o.dst (.p (.val undef))) (fun c=>zBQ ops a c (d|||zCZ o.dst) K))
      (match f with
       |true=>zMM (o.dst.getD 0) ((e.lit t Sd).put o.dst (.p (.val undef))) (fun c=>zBQ ops a c (d|||zCZ o.dst) K)
       |false=>zMM t (e.lit t Sd) (fun e=>if zPc G (qY (o::a)) e o then zF3 P G S e d o (fun c d=>kOp o c (fun c=>zBQ ops a c d K))else Sc))
     else Sc
    |.p (.val (.tuple _))=>zMM (o.dst.getD 0) (e.put o.dst (.p (.val undef))) (fun c=>zBQ ops a c (d|||zCZ o.dst) K)
    |_=>Sc
def zYJ:List Nat->Nat
 |[]=>0
 |d::r=>2^(2*d)|||zYJ r
def zTc(ops:Array Oper)(k:Nat)(e:Env Γ.St)(a:Nat)(K:Env Γ.St->Nat->Option ρ):Option ρ:=
 if k<=ops.size&&zJR ops k&&zIR ops k&&zPQ (ops.extract 0 k)then
  zEP (killAll (qY (ops.extract 0 k).toList) e) (fun e=>zBQ P G S (ops.extract 0 k) (ops.extract 0 k).toList e (a|||zYJ (qY (ops.extract 0 k).toList))
   (fun c a=>seqX P G S ops (ops.toList.drop k) c a K))
 else Sc
def qE2(ops:Array Oper)(e:Env Γ.St)(a:Nat)(K:Env Γ.St->Nat->Option ρ):Option ρ:=zTc P G S ops (zEa ops.toList) e a K
def zZS:T->Bool
 |.p _=>Sb
 |.lp _ _=>Sb
 |_=>Sd
def zZ8{St:Type}(ops:Array Oper)(e1:Env St):List Nat->Option (List Fl)
 |[]=>Sa []
 |i::r=>match ops[i]? with
  |some o=>match o.dst with
   |some d=>match zZS (e1.get d)with
    |true=>(zZ8 ops e1 r).map (⟨i,d,.c (e1.get d)⟩:: ·)
    |false=>match o.op with
     |.move (.tmp s)=>(zZ8 ops e1 r).map (⟨i,d,.a s⟩:: ·)
     |_=>Sc
   |none=>Sc
  |none=>Sc
def flD(fl:List Fl)(t:Nat):Bool:=fl.any (fun q=>Aa q.d t)
def flC(fl:List Fl)(t:Nat):Bool:=fl.any (fun q=>Aa q.d t&&(match q.v with
 |.c _=>Sb
 |.a _=>Sd))
def zYc(n:Nat):List Fl->Bool
 |[]=>Sb
 |q::r=> !flD r q.d&&Nat.blt q.d n&&zYc n r
def qEH(fl:List Fl):Bool:=fl.all (fun q=>match q.v with
 |.c _=>Sb
 |.a s=> !flD fl s)
def noD(d:Nat):T->Bool
 |.ow i _ _=> !Aa i d
 |.oe i _ _ _ _=> !Aa i d
 |.lp s _=> !Aa s d
 |.mp i _ _=> !Aa i d
 |.ot i _ _=> !Aa i d
 |.oet i _ _ _ _=> !Aa i d
 |.ov i _ _ _ _=> !Aa i d
 |.on n=> !Aa n.id d&& !Aa n.id2 d
 |_=>Sb
def qGV{St:Type}(d:Nat)(e:Env St):Bool:=
 e.tm.all (noD d)&&e.vars.all (fun c=>match c with
  |some a=>a.all (noD d)
  |none=>Sb)&&(e.var d).isNone&&Nat.blt d e.vars.length
def qEa{St:Type}(fl:List Fl)(m:Nat)(e1:Env St):Operand->Bool
 |.tmp t=>(flC fl t||(!flD fl t&& !Ac m (2*t)))&&(match e1.get t with
  |.p _=>Sb
  |.lp s _=> !Ac m (2*s)&&(match e1.var s with
   |some a=>a.all (fun x=>match x with|.p _=>Sb|_=>Sd)&& !Ac m (2*s+1)
   |none=>Sd)
  |_=>Sd)
 |_=>Sb
def qF7{St:Type}(ops:Array Oper)(fl:List Fl)(m:Nat)(e1 b:Env St)(q:Fl):Bool:=
 match ops[q.i]? with
 |some o=>match q.v with
  |.a s=>match o.op with
   |.move (.tmp f)=>Aa f s
   |_=>Sd
  |.c _=>o.op.operands.toList.all (qEa fl m e1)&&qGV q.d b&&fl.all (fun r=>match r.v with
   |.c x=>noD q.d x
   |.a _=>Sb)
 |none=>Sd
def zZj(m:Nat)(f:Option Nat)(q:Fl):Bool:=
 (match f with
  |some d=> !Aa d q.d
  |none=>Sb)&&(match q.v with
  |.c (.p _)=>Sb
  |.c (.lp s _)=> !Ac m (2*s)
  |.c _=>Sd
  |.a s=>match f with
   |some d=> !Aa d s
   |none=>Sb)
def qId(fl:List Fl)(A:Fl->Bool)(o:Oper):Bool:=
 o.op.operands.toList.all (fun x=>match x with
  |.tmp t=>fl.all (fun q=> !Aa q.d t||A q)
  |_=>Sb)
def zDE:List Fl->Nat
 |[]=>0
 |q::r=>2^(2*q.d)|||zDE r
def qAG(a:Array Nat)(c:Nat)(q:Fl):Bool:=(a.getD c 0).testBit q.i&&decide (q.i<c)
def zZy(e:Env Γ.St)(o:Oper):Option (Kex Γ ρ):=
 match zMv P G S e o with
 |some q=>Sa q
 |none=>match zK6 o with
  |true=>zMv P G S (zX5 G o e) o
  |false=>Sc
def zKH(ops:Array Oper)(a:Array Nat)(fl:List Fl)(e1:Env Γ.St):List Nat->Env Γ.St->Nat->(Env Γ.St->Nat->Option ρ)->Option ρ
 |[],b,m,K=>zEP (kC b fl) (fun e=>K e (m|||zDE fl))
 |c::d,b,m,K=>match ops[c]? with
  |some o=>zEP (kC b (fl.filter (qAG a c))) (fun f=>match qId fl (qAG a c) o&&fl.all (zZj (kH G f o) o.dst)with
   |true=>match zZy P G S f o with
    |some q=>q (fun g=>kOp o g (fun g=>match fl.all (fun q=>qAG a c q||qF7 ops fl (m|||(zDE fl|||kH G f o)) e1 g q)with
     |true=>zKH ops a fl e1 d g (m|||(zDE fl|||kH G f o)) K
     |false=>Sc))
    |none=>Sc
   |false=>Sc)
  |none=>Sc
def qAw(ops:Array Oper)(c h:Nat)(e:Env Γ.St)(g:Nat)(K:Env Γ.St->Nat->Option ρ):Option ρ:=
 if qHC ops (Region.before ops) c h then
  zEP (killAll (qY (u5 ops c).toList) e) (fun e=>zBQ P G S (u5 ops c) (u5 ops c).toList e (g|||zYJ (qY (u5 ops c).toList))
   (fun f g=>match zZ8 ops f ((Ai ops.size).filter (fun i=>Ac h i&& !Ac c i))with
    |some a=>match zYc f.tm.length a&&qEH a&&a.all (fun q=>(f.var q.d).isNone)&&a.all (qF7 ops a (zDE a) f (zHh f a))with
     |true=>zEP (zHh f a) (fun b=>zKH P G S ops (Region.before ops) a f ((Ai ops.size).filter (fun i=>Ac c i)) b (zDE a) (fun j m=>K j (g|||m)))
     |false=>Sc
    |none=>Sc))
 else Sc
def qB3:List (Nat×Nat×Nat)->Env Γ.St->(Env Γ.St->Option ρ)->Option ρ
 |[],e,K=>K e
 |(a,b,n)::r,e,K=>match n with
  |1=>match qHg b e&&(!Aa a jY&& !Aa b jY)with
   |true=>zEP (e.mapT (zXA a b)) (fun e=>qB3 r e K)
   |false=>Sc
  |2=>zEP (frzOE a e) (fun e=>qB3 r e K)
  |_=>qB3 r e K
def qBv:List (Nat×Nat×Nat)->List Operand
 |[]=>[]
 |(t,_,n)::r=>match n with
  |0=>.tmp t::qBv r
  |_=>qBv r
def zXB(ops:Array Oper)(d:Bool)(f:Option (List (Nat×Nat×Nat)))(e:Env Γ.St)(a:Nat)(K:Env Γ.St->Nat->Option ρ):Option ρ:=
 match d with
 |false=>match f with
  |none=>seqX P G S ops ops.toList e a K
  |some []=>seqX P G S ops ops.toList e a K
  |some ((k,t,n)::_)=>match n with
   |7=>qDE P G S ops k e a K
   |6=>qDF P G S ops k t e a K
   |_=>seqX P G S ops ops.toList e a K
 |true=>match f with
  |none=>qE2 P G S ops e a K
  |some []=>zEP (frzOps G (zBS ops.toList) e) (fun c=>qE2 P G S ops c (a|||zMa G (zBS ops.toList) e) K)
  |some ((g,i,n)::h)=>match n with
   |9=>qE2 P G S ops e a K
   |8=>zTc P G S ops g e a K
   |_=>zEP (frzOps G (qBv h) e) (fun c=>qAw P G S ops g i c (a|||zMa G (qBv h) e) K)
def qFW(ops:Array Oper)(d:Bool)(a:Option (List (Nat×Nat×Nat)))(e:Env Γ.St)(c:Nat)(K:Env Γ.St->Nat->Option ρ):Option ρ:=
 match a with
 |none=>zXB P G S ops d a e c K
 |some []=>zXB P G S ops d a e c K
 |some (x::g)=>zXB P G S ops d a e c (fun h f=>qB3 g h (fun i=>K i f))
end
section
variable {Γ:Sig}{ρ:Type}{P:Program}{G:Nat->Option (List V)}{S:zU Γ}{e:Env Γ.St}{o:Oper}{ops:Array Oper}{v:ρ}
variable {j:Env Γ.St->Option ρ}{i:Kex Γ ρ}
theorem zYR{a:Option Tmp}{c:Call}(h:zYS P G e a c=Sa i)(K:i j=Sa v):∃e1,yQ P G e a c=Sa e1/\j e1=Sa v:=by
 unfold zYS at h;split at h
 .rename_i p D E F d k f l;split at h
  .rename_i id H I J vC;split at h
   .rename_i L r u x;split at h
    .rename_i m g;split at h
     .rename_i z t y M N n;split at h
      .cases h
      .rename_i A;split at h
       .rename_i q;subst q;split at h
        .rename_i B;simp at h;subst h;obtain⟨O,C,K⟩:=bind_some K;simp_all[app,yQ]
        .cases h
       .cases h
     .cases h
    .cases h
   .cases h
  .cases h
 .cases h
theorem qAF{a:Option Tmp}{c:Call}(h:zYS P G e a c=Sa i):uL P G e a c=none:=by
 unfold zYS at h;split at h
 .rename_i p j k l d g f q;split at h
  .rename_i id m n r vC;unfold uL
   grind[evx,zYq]
  .cases h
 .cases h
theorem qDg(h:wX P G e o=Sa i)(f:i j=Sa v):∃e1,evW P G e o=Sa e1/\j e1=Sa v:=by
 obtain⟨N,op,D,O,l,guard⟩:=o;cases op<;>simp only[wX,reduceCtorEq]at h
 case store t ap x=>
  split at h
  .cases h
  .rename_i hd;split at h
   .rename_i id E m q g d n p;split at h
    .rename_i a;cases h;obtain⟨y,r,u⟩:=bind_some f;unfold atN at r;split at u;all_goals simp_all[evW,zGv]
    .cases h
   .rename_i id E m q g A t2 F n p;split at h
    .rename_i t3;split at h
     .rename_i a;cases h;obtain⟨Q,f⟩:=yP.1 f;simp only[cG]at Q;refine⟨_,?_,f⟩;simp only[evW,n,p,zEm]
      grind
     .cases h
    .cases h
   .rename_i id A E m K F k g d n p;split at h
    .rename_i a;cases h;obtain⟨y,r,u⟩:=bind_some f;unfold atN at r;split at u;all_goals simp_all[evW,zDs]
    .cases h
   .cases h
 case call c=>
  split at h
  .rename_i q' W;simp at h;subst h;obtain⟨e1,h1,h2⟩:=zYR W f
   grind[qAF,evW]
  .split at h
   .rename_i x0 x1 t0 t1 d H B I _;split at h
    .rename_i el Y Z ab;split at h
     .rename_i J C;split at h
      .rename_i z t F hz L;split at h
       .rename_i nm m M;split at h
        .rename_i ad;cases h;obtain⟨zs,ag,f⟩:=bind_some f;simp_all[app,evW,uL]
        .cases h
       .cases h
      .cases h
     .cases h
    .cases h
   .cases h
theorem zUj(h:wXs P G e o=Sa i)(a:i j=Sa v):∃e1,evW P G e o=Sa e1/\j e1=Sa v:=by
 unfold wXs at h;split at h
 .simp_all[qDg]
 grind
theorem zVI(j:qK Γ P G S.toS){q:Kex Γ ρ}{K:Env Γ.St->Option ρ}(h:zMv P G S e o=Sa q)(g:q K=Sa v):
  ∃e1,zY1 P G e o e1/\qA (kH G e o) e e1/\K e1=Sa v:=by
 unfold zMv at h;split at h
 .rename_i t k;cases h;obtain⟨r,u,c⟩:=zKY k g;split at c
  .rename_i e1 d;refine⟨e1,fun l m n a w Q f=>zKu (P:=P) j f ?_,?_,c⟩
   .grind[zLz]
   .refine(zI9 d).mono ?_
    grind[zBE,kH]
  .cases c
 .obtain⟨e1,i,p⟩:=zUj h g;exact⟨e1,fun l m n a w Q f=>zRs f i,zVk i,p⟩
theorem qAK(e:Env Γ.St)(id p:Nat)(t:Ty)(k zs:List t.El)(st:Γ.St)(g:Option Tmp)(d:V)(q:e.get p=.ot id t k):qA (zCZ g) e (qDY e id p t zs st g d):=by
 have j:∀a,a≠p->(⟨(e.tm.map (zL7 id t zs)).set p (.ot id t zs),e.vars.map (fun c=>c.map (Ab (qI id))),st⟩:Env Γ.St).get a=zL7 id t zs (e.get a):=by
  intro a f;simp[Env.get];rw[aQ (cY f),aB]
  grind[zL7,qI]
 have l:qA 0 e (⟨(e.tm.map (zL7 id t zs)).set p (.ot id t zs),e.vars.map (fun c=>c.map (Ab (qI id))),st⟩:Env Γ.St):=by
  refine⟨by simp,by simp,?_,?_,?_⟩
  .intro a r m i;have f:a≠p:=fun h=>by grind
   rw[j a f,i];rfl
  .intro a s n _ _ i;have f:a≠p:=fun h=>by grind
   rw[j a f,i];rfl
  .intro s u _ _ i;have x:(⟨(e.tm.map (zL7 id t zs)).set p (.ot id t zs),e.vars.map (fun c=>c.map (Ab (qI id))),st⟩:Env Γ.St).var s=(e.mapT (qI id)).var s:=rfl;simp_all[jF,cm,qI]
 exact(l.mono (fun a _=>by simp)).same (zA7 _ g _)
theorem qAI(e:Env Γ.St)(id:Nat)(t:Ty)(zs:List t.El)(st:Γ.St)(a:Option Tmp):qA (zCZ a) e (qDW e id t zs st a):=by
 have h:∀d,(⟨e.tm.map (qI id),e.vars.map (fun c=>c.map (Ab (qI id))),st⟩:Env Γ.St).get d=qI id (e.get d):=vN (f:=qI id) rfl e
 have i:qA 0 e (⟨e.tm.map (qI id),e.vars.map (fun c=>c.map (Ab (qI id))),st⟩:Env Γ.St):=by
  refine⟨by simp,by simp,?_,?_,?_⟩
  .intro d l j g;rw[h d,g];rfl
  .intro d s k _ _ g;rw[h d,g];rfl
  .intro s m _ _ g;have n:(⟨e.tm.map (qI id),e.vars.map (fun c=>c.map (Ab (qI id))),st⟩:Env Γ.St).var s=(e.mapT (qI id)).var s:=rfl;simp_all[jF,cm,qI]
 exact(i.mono (fun d _=>by simp)).same (zA7 _ a _)
theorem qAy(B:qK Γ P G S.toS){q:Kex Γ ρ}{K:Env Γ.St->Option ρ}(h:qHE G S e o=Sa q)(i:q K=Sa v):
  ∃e1,zY1 P G e o e1/\qA (kH G e o) e e1/\K e1=Sa v:=by
 obtain⟨F,op,C,H,r,guard⟩:=o;unfold qHE at h;split at h
 .rename_i c u;subst u;split at h
  .rename_i f p Y k j;split at h
   .rename_i g id t Z ds D E m;split at h
    .rename_i cx I;split at h
     .simp at h;subst h;obtain⟨l,i⟩:=yP.1 i;obtain⟨y,J,i⟩:=bind_some i;split at i
      .cases i
      .rename_i L M d x n;split at i
       .rename_i z;subst z;refine⟨_,fun N O W a w Q A=>qGz B A k D j E m l x (by grind[zIv]),?_,i⟩
        grind[qAK,zBE,id,kH]
       .cases i
      .cases i
     .split at h
      .cases h
      .rename_i hid;have hid:id≠jY:=fun hh=>by simp_all
       simp at h;subst h;obtain⟨y,J,i⟩:=bind_some i;split at i
       .rename_i L M n;split at i
        .rename_i z;subst z;refine⟨_,fun N O W a w Q A=>qEj B A k D j E m hid (by grind[zIv]),?_,i⟩
         grind[qAI,zBE,id,kH]
        .cases i
       .cases i
    .cases h
   .cases h
  .cases h
 .cases h
theorem qAH(e:Env Γ.St)(s:Nat)(t:Ty)(z:t.El)(st:Γ.St)(a:Option Tmp)(d:V):qA (zCZ a|||2^(2*s+1)) e (qDV e s t z st a d):=by
 have c:qA (2^(2*s+1)) e (⟨e.tm,e.vars.set s (Sa ((t.cells z).map T.p)),st⟩:Env Γ.St):=
  (zTn s _ e).same ((zON st _).mono (fun t _=>by simp))
 refine(c.trans (zA7 _ a (.p d))).mono ?_
 grind
theorem zZB(C:qK Γ P G S.toS){q:Kex Γ ρ}{K:Env Γ.St->Option ρ}(h:qHc P G S e o=Sa q)(i:q K=Sa v):
  ∃e1,zY1 P G e o e1/\qA (zIu G e o) e e1/\K e1=Sa v:=by
 obtain⟨D,op,A,E,m,guard⟩:=o;unfold qHc at h;split at h
 .rename_i c n;subst n;split at h
  .rename_i f j;split at h
   .rename_i g k s N F l;split at h
    .rename_i O W t p r H;split at h
     .rename_i Y x;split at h
      .rename_i y I;split at h
       .rename_i Z J;split at h
        .simp at h;subst h;obtain⟨u,hu,i⟩:=bind_some i;split at i
         .rename_i t' z d B;split at i
          .rename_i L;subst L;refine⟨_,fun w0 F0 O0 a w Q M=>qF1 C M j F l p r x I (by grind[zIv]),?_,i⟩
           grind[qAH,zBE,zIu,kH,qH2]
          .cases i
         .cases i
        .cases h
       .cases h
      .cases h
     .cases h
    .cases h
   .cases h
  .cases h
 .cases h
theorem qAJ(e:Env Γ.St)(id:Nat)(t:Ty)(z:t.El)(st:Γ.St)(a:Option Tmp)(d:V):qA (zCZ a) e (qDX e id t z st a d):=by
 have h:∀f,(⟨e.tm.map (zNo id t z),e.vars.map (fun c=>c.map (Ab (qI id))),st⟩:Env Γ.St).get f=zNo id t z (e.get f):=by
  grind[Env.get,zNo,qI]
 have i:qA 0 e (⟨e.tm.map (zNo id t z),e.vars.map (fun c=>c.map (Ab (qI id))),st⟩:Env Γ.St):=by
  refine⟨by simp,by simp,?_,?_,?_⟩
  .intro f l j g;rw[h f,g];rfl
  .intro f s k _ _ g;rw[h f,g];rfl
  .intro s m _ _ g;have n:(⟨e.tm.map (zNo id t z),e.vars.map (fun c=>c.map (Ab (qI id))),st⟩:Env Γ.St).var s=(e.mapT (qI id)).var s:=rfl;simp_all[jF,cm,qI]
 exact(i.mono (fun f _=>by simp)).same (zA7 _ a _)
theorem zXF(B:qK Γ P G S.toS){q:Kex Γ ρ}{K:Env Γ.St->Option ρ}(h:qD2 G S e o=Sa q)(i:q K=Sa v):
  ∃e1,zY1 P G e o e1/\qA (zIu G e o) e e1/\K e1=Sa v:=by
 obtain⟨m,op,x,C,n,guard⟩:=o;unfold qD2 at h;split at h
 .rename_i c p;subst p;split at h
  .rename_i f j;split at h
   .rename_i g k id t y J D l;split at h
    .rename_i L r;split at h
     .rename_i M E;split at h
      .simp at h;subst h;obtain⟨u,N,i⟩:=bind_some i;split at i
       .rename_i F z d A;split at i
        .rename_i H;subst H;refine⟨_,fun O W Y a w Q I=>qD1 B I j D l r (by grind[zIv]),?_,i⟩;refine(qAJ e id F z _ m d).mono ?_
         grind[zBE,zIu,kH]
        .cases i
       .cases i
      .cases h
     .cases h
    .cases h
   .cases h
  .cases h
 .cases h
theorem zNI(c:qK Γ P G S.toS){q:Kex Γ ρ}{K:Env Γ.St->Option ρ}(h:zVK P G S e o=Sa q)(d:q K=Sa v):
  ∃e1,zY1 P G e o e1/\qA (zIu G e o) e e1/\K e1=Sa v:=by
 have j:∀b,(zIu G e o).testBit b=Sd->(kH G e o).testBit b=false:=fun b l=>by
  grind[zBE,zIu]
 unfold zVK at h;split at h
 .rename_i k a;simp at h;subst h;obtain⟨e1,f,g,i⟩:=zVI c a d;exact⟨e1,f,g.mono j,i⟩
 .split at h
  .rename_i k a;simp at h;subst h;obtain⟨e1,f,g,i⟩:=qAy c a d;exact⟨e1,f,g.mono j,i⟩
  .split at h
   .rename_i k a;simp at h;subst h;exact zZB c a d
   .exact zXF c h d
variable {g:Nat}
theorem zNb(f:qK Γ P G S.toS){K:Env Γ.St->Nat->Option ρ}(h:qFh P G S e g o K=Sa v):
  ∃e1 d,zY1 P G e o e1/\qA d e e1/\K e1 (g|||d)=Sa v:=by
 unfold qFh at h;split at h
 .rename_i q c;obtain⟨e1,i,j,k⟩:=zNI f c h
  grind
 .split at h
  .rename_i q c;obtain⟨e1,i,j,k⟩:=zNI f c h;exact⟨e1,_,fun l m n a w Q p=>i l m n a w Q (Inv.frzOps _ _ p),(zFW _ e).trans j,k⟩
  .cases h
theorem zQa(l:qK Γ P G S.toS){K:Env Γ.St->Nat->Option ρ}(h:qA3 P G S ops e g o K=Sa v):
  ∃e1 d,zOO P G ops e o e1/\qA d e e1/\K e1 (g|||d)=Sa v:=by
 unfold qA3 at h;split at h
 .rename_i n;obtain⟨e1,d,a,c,f⟩:=zNb l h;exact⟨e1,d,.inl ⟨by grind[vH],a⟩,c,f⟩
 .rename_i j m n;split at h
  .rename_i p;exact⟨_,_,.inr ⟨by grind[vH],rfl⟩,zA7 e o.dst _,h⟩
  .rename_i t p;split at h
   .rename_i b i;split at h
    .rename_i hlt;have k:vH ops e o=Sa (b==m):=by simp_all[vH]
     cases b with
     |true=>
      simp at h;split at h
      .rw[zK3,zPo i]at h;obtain⟨e1,d,a,c,f⟩:=zNb l h;exact⟨e1,d,.inl ⟨k,a⟩,c,f⟩
      .rw[zPo i]at h;exact⟨_,_,.inr ⟨k,rfl⟩,zA7 e o.dst _,h⟩
     |false=>
      simp at h;split at h
      .rw[zPo i]at h;exact⟨_,_,.inr ⟨k,rfl⟩,zA7 e o.dst _,h⟩
      .rw[zK3,zPo i]at h;obtain⟨e1,d,a,c,f⟩:=zNb l h;exact⟨e1,d,.inl ⟨k,a⟩,c,f⟩
    .cases h
   .rename_i q i;exact⟨_,_,.inr ⟨by grind[vH],rfl⟩,zA7 e o.dst _,h⟩
   .cases h
theorem zEh(g:qK Γ P G S.toS){K:Env Γ.St->Nat->Option ρ}:∀(l:List Oper) (e:Env Γ.St) (a:Nat),seqX P G S ops l e a K=Sa v->∃e' d,zLI P G ops l e e'/\qA d e e'/\K e' (a|||d)=Sa v:=by
 intro l
 induction l with
 |nil=>intro e a h;exact⟨e,0,.nil e,qA.refl e,by rw[dI];exact h⟩
 |cons o c i=>
  intro e a h;simp only[seqX]at h;obtain⟨j,d,k,m,f⟩:=zQa g h;rw[zSA]at f;obtain⟨e',n,p,q,r⟩:=i j _ f;exact⟨e',d|||n,.cons k p,m.trans q,by grind⟩
variable {I:Env Γ.St}
theorem zLI.app{a c:List Oper}{d f:Env Γ.St}(h:zLI P G ops a I d)(g:zLI P G ops c d f):zLI P G ops (a++c) I f:=by
 induction h with
 |nil=>exact g
 |cons i _ j=>exact .cons i (j g)
theorem zZG(f:qK Γ P G S.toS){K:Env Γ.St->Option ρ}(h:qHd P G S e o K=Sa v):∃e1,zOO P G ops e o e1/\qA (zCZ o.dst) e e1/\K e1=Sa v:=by
 unfold qHd at h;split at h
 .rename_i k;split at h
  .rename_i q g;obtain⟨r,i,c⟩:=zKY g h;split at c
   .rename_i t l;split at c
    .rename_i e1 d;exact⟨e1,.inl ⟨by grind[vH],fun m n p a w Q j=>qFN (P:=P) f j i d⟩,zI9 d,c⟩
    .cases c
   .cases c
  .cases h
 .cases h
variable {l:Nat}
theorem zXm(a:qK Γ P G S.toS){K:Env Γ.St->Nat->Option ρ}(h:qDE P G S ops g e l K=Sa v):∃e' d,zLI P G ops ops.toList e e'/\qA d e e'/\K e' (l|||d)=Sa v:=by
 unfold qDE at h;obtain⟨x,j,f,m,c⟩:=zEh a _ _ _ h;split at c
 .rename_i o k y;obtain⟨z,n,p,i⟩:=zZG (ops:=ops) a c;rw[zSA]at i;obtain⟨q,r,t,u,A⟩:=zEh a _ _ _ i;refine⟨q,j|||zCZ o.dst|||r,?_,(m.trans p).trans u,by grind⟩;have:=f.app (.cons n t)
  grind[Ag]
 .cases c
theorem zOO.frz{e1:Env Γ.St}{xs:List Operand}(j:o.guard=Sc)(h:zOO P G ops (frzOps G xs I) o e1):zOO P G ops I o e1:=by
 have c:∀I:Env Γ.St,vH ops I o=Sa true:=fun I=>by grind[vH]
 rcases h with⟨_,h⟩|⟨h,_⟩
 .exact .inl ⟨c I,fun d f g a w Q i=>h d f g a w Q (Inv.frzOps _ _ i)⟩
 grind
theorem zXn(c:qK Γ P G S.toS){K:Env Γ.St->Nat->Option ρ}{f:Nat}(h:qDF P G S ops g l e f K=Sa v):∃e' d,zLI P G ops ops.toList e e'/\qA d e e'/\K e' (f|||d)=Sa v:=by
 unfold qDF at h;obtain⟨k,t,m,n,a⟩:=zEh c _ _ _ h;split at a
 .rename_i o i B;split at a
  .rename_i p;rw[yG]at a;obtain⟨C,q,r,u,j⟩:=zQa c a;rw[zSA]at j;obtain⟨x,y,z,A,D⟩:=zEh c _ _ _ j;refine⟨x,t|||zMa G [.tmp l] k|||q|||y,?_,((n.trans (zFW _ k)).trans u).trans A,by grind⟩;have:=m.app (.cons (zOO.frz p r) z)
   grind[Ag]
  .cases a
 .cases a
variable {a1:Env Γ.St->Nat->Option ρ}
theorem zRe(h:zF3 P G S e g o a1=Sa v):∃r e1,evQ P G S.toS e o=Sa r/\zNa e o.dst r=Sa e1/\a1 e1 (g|||zCZ o.dst)=Sa v:=by
 unfold zF3 at h;split at h
 .rename_i q c;obtain⟨r,d,f⟩:=zKY c h
  grind
 .cases h
theorem zL0:∀(l:List Oper) (e:Env Γ.St) (c:Nat),zBQ P G S ops l e c a1=Sa v->∃e' d,zDz P G S.toS ops l e=Sa e'/\qA d e e'/\a1 e' (c|||d)=Sa v:=by
 intro l
 induction l with
 |nil=>intro e c h;exact⟨e,0,rfl,qA.refl e,by rw[dI];exact h⟩
 |cons o a u=>
  intro e c h
  have n:∀f:Env Γ.St,f=e->vH ops e o=Sa Sb->(if zPc G (qY (o::a)) f o then zF3 P G S f c o (fun g c=>kOp o g (fun g=>zBQ P G S ops a g c a1))else Sc)=Sa v->
    ∃e' d,zDz P G S.toS ops (o::a) e=Sa e'/\qA d e e'/\a1 e' (c|||d)=Sa v:=by
   intro f i x k;subst i;split at k
   .rename_i F;obtain⟨r,g,H,z,y⟩:=zRe k;rw[zSA]at y;obtain⟨e',d,A,q,B⟩:=u g _ y;refine⟨e',zCZ o.dst|||d,?_,(zWD z).trans q,by grind⟩;simp_all[zDz]
   .cases k
  have skip:∀f:Env Γ.St,f=e->vH ops e o=Sa Sd->zMM (o.dst.getD 0) (f.put o.dst (.p (.val undef))) (fun g=>zBQ P G S ops a g (c|||zCZ o.dst) a1)=Sa v->
    ∃e' d,zDz P G S.toS ops (o::a) e=Sa e'/\qA d e e'/\a1 e' (c|||d)=Sa v:=by
   intro f i x k;subst i;rw[zK3]at k;obtain⟨e',d,A,q,B⟩:=u _ _ k;refine⟨e',zCZ o.dst|||d,?_,(zA7 _ o.dst _).trans q,by grind⟩
   grind[zDz]
  unfold zBQ at h;split at h
  .rename_i C;exact n e rfl (by grind[vH]) h
  .rename_i j m C;split at h
   .rename_i D;exact skip e rfl (by grind[vH]) h
   .rename_i t D;split at h
    .rename_i b E;split at h
     .rename_i hlt;have x:vH ops e o=Sa (b==m):=by simp_all[vH]
      cases b with
      |true=>
       simp at h
       grind[zK3,zPo]
      |false=>
       simp at h
       grind[zPo,zK3]
     .cases h
    .rename_i I E;exact skip e rfl (by grind[vH]) h
    .cases h
theorem zL3:∀(ds:List Nat) (e:Env Γ.St),qA (zYJ ds) e (killAll ds e):=by
 intro ds
 induction ds with
 |nil=>intro e;exact qA.refl e
 |cons d r a=>intro e;exact(zNf d e).trans (a _)
theorem zWp(c:P.follows .mixedOrders=Sb)(j:qK Γ P G S.toS){K:Env Γ.St->Nat->Option ρ}(h:zTc P G S ops l e g K=Sa v):∃e' d,(∀(id:Nat) (f:World) (k:Blk->Prop) (i:zAg) (a:Act) (w:World) (Q:Exit->Act->World->Prop),
  Inv Γ G f k i a w e->(∀a w,Inv Γ G f k i a w e'->Q .normal a w)->(Code.region id ops Sb).wp P Q a w)/\qA d e e'/\K e' (g|||d)=Sa v:=by
 unfold zTc at h;split at h
 .rename_i m;simp at m;obtain⟨⟨⟨p,q⟩,r⟩,E⟩:=m;rw[yG]at h;obtain⟨n,t,F,u,x⟩:=zL0 _ _ _ h;obtain⟨e',y,z,A,B⟩:=zEh j _ _ _ x;refine⟨e',_|||t|||y,fun id f k i a w Q C D=>zU8 c j C p q r (e1:=n) ?_ z D,((zL3 _ e).trans u).trans A,?_⟩;all_goals simp_all[Nat.or_assoc,zMQ]
 .cases h
variable {J:Type}
theorem qCC{e1:Env J}:∀(l:List Nat) (fl:List Fl),zZ8 ops e1 l=Sa fl->
  (∀q,q∈fl->q.i∈l/\∃o,ops[q.i]?=Sa o/\o.dst=Sa q.d/\((zZS (e1.get q.d)=Sb/\q.v=.c (e1.get q.d))\/∃s,o.op=.move (.tmp s)/\q.v=.a s))/\∀i,i∈l->∃q,q∈fl/\q.i=i:=by
 intro l
 induction l with
 |nil=>grind[Option.some.injEq,zZ8]
 |cons i r k=>
  intro fl h;simp only[zZ8]at h;split at h
  .rename_i o m;split at h
   .rename_i d n
    have step:∀f:Fl,f.i=i->f.d=d->((zZS (e1.get d)=Sb/\f.v=.c (e1.get d))\/∃s,o.op=.move (.tmp s)/\f.v=.a s)->(zZ8 ops e1 r).map (f:: ·)=Sa fl->
      (∀q,q∈fl->q.i∈i::r/\∃o,ops[q.i]?=Sa o/\o.dst=Sa q.d/\((zZS (e1.get q.d)=Sb/\q.v=.c (e1.get q.d))\/∃s,o.op=.move (.tmp s)/\q.v=.a s))/\∀j,j∈i::r->∃q,q∈fl/\q.i=j:=by
     intro f p t u g;simp at g
     grind
    grind
   .cases h
  .cases h
variable {C:List Fl}
theorem zV9:flD C g=Sb↔ ∃q,q∈C/\q.d=g:=by simp only[flD,bC];simp_all
theorem zYb(a:zYc g C=Sb)(f:qEH C=Sb):zLJ g C:=by
 have c:∀l:List Fl,zYc g l=Sb->l.Pairwise (fun p q=>p.d≠q.d)/\∀q,q∈l->q.d<g:=by
  intro l
  induction l with
  |nil=>simp_all
  |cons q r n=>
   intro h;simp only[zYc,am,cG]at h;obtain⟨⟨m,t⟩,i⟩:=h;obtain⟨j,u⟩:=n i;refine⟨bp.2 ⟨?_,j⟩,?_⟩
   .grind[zV9,flD]
   simp_all
 refine⟨(c C a).1,(c C a).2,?_⟩;intro q k s x p y z;have:=au.1 f q k
 grind[Bool.not_eq_true',zV9,flD]
theorem zXS{x:T}(h:noD g x=Sb):jO g x=x:=by
 cases x<;>simp only[noD,jO]at h ⊢ <;>first|rfl|(rw[if_neg];intro a;subst a;simp at h)|(rw[if_neg];rintro(a|a)<;>(subst a;simp at h))
theorem qAv{d:Nat}{e:Env J}(f:∀x,x∈e.tm->noD d x=Sb)(h:∀cs,Sa cs∈e.vars->∀x,x∈cs->noD d x=Sb)(k:e.var d=Sc):e.kill d=e:=by
 obtain⟨tm,vars,st⟩:=e;simp only[Env.kill,Env.mk.injEq,and_true];refine⟨?_,?_⟩
 .exact(bG (fun x a=>zXS (f x a))).trans (df _)
 .have i:vars.set d Sc=vars:=by
   apply bQ
   grind[List.getElem?_eq_getElem,List.getElem?_eq_none,Env.var]
  rw[i];refine(bG (g:=id) ?_).trans (df _);intro c j
  cases c with
  |none=>rfl
  |some cs=>exact congrArg Sa ((bG (fun x a=>zXS (h cs j x a))).trans (df _))
theorem qEO{S:vG Γ}{L:j9}(st:Γ.St)(a:isCall o=Sd):evQ L G S { e with st:=st } o=evQ L G S e o:=
 zSQ (fun x _=>by cases x<;>rfl) (fun _ _ _ _ _=>rfl) (fun h=>by grind)
theorem qF0{b:Env J}:∀(L:List Fl) (b:Env J) (x:T),x∈(kC b L).tm->x∈b.tm\/(∃q,q∈L/\∃y,q.v=.c y/\x=y)\/x=.dead:=by
 intro L
 induction L with
 |nil=>intro b x h;exact .inl h
 |cons q L a=>
  intro b x h;rcases a (zFF b q) x h with h|⟨r,d,y,f⟩|h;all_goals grind[List.mem_or_eq_of_mem_set,Ah,Af,zFF,Fl.val,Env.get]
theorem zSq{Sp:vG Γ}{ap:Array Nat}(O:qAV ops ap g l){b:Env Γ.St}{m:Nat}(H:zLJ I.tm.length C)(k:∀q,q∈C->g.testBit q.i=Sd/\l.testBit q.i=Sb/\∃o,ops[q.i]?=Sa o/\o.dst=Sa q.d/\((zZS (I.get q.d)=Sb/\q.v=.c (I.get q.d))\/∃s,o.op=.move (.tmp s)/\q.v=.a s))(a6:∀q,q∈C->I.var q.d=Sc)(hA:qA m (zHh I C) b){q:Fl}(hq:q∈C)(av:∀o,ops[q.i]?=Sa o->∃st Q,zGF P G Sp (u5 ops g) I st o Q)(h:qF7 ops C m I b q=Sb):zOU P G Sp ops C b q:=by
 intro o p W hp;obtain⟨hC,hU,o',Y,hd,e1⟩:=k q hq;rw[W]at Y;cases Y;have hg:=O.guardC q.i o W (.inr hU);have J:=O.call q.i o W hC hU;obtain⟨d1,d2,d3⟩:=zYv H;have a9:b.tm.length=I.tm.length:=hA.tl.trans d1.len;obtain⟨a1,a2⟩:=zB8 (C.filter p) b I.tm.length (H.filter p) (by omega);have z:=zBp (C.filter p) b;unfold qF7 at h;rw[W]at h;simp only at h;rcases e1 with⟨bk,hv⟩|⟨s,Z,hv⟩
 .-- a ax
  rw[hv]at h;simp only[am]at h;obtain⟨⟨h1,h2⟩,h3⟩:=h;obtain⟨st,Q,zBZ⟩:=av o W;rcases zBZ with⟨_,r,ab,_,ay,ad⟩|⟨hw,_⟩
  .obtain⟨g1,g2,g3⟩:=ad q.d hd;have vC:=g1 (H.lt q hq)
   have ag:evQ P G Sp (kC b (C.filter p)) o=Sa r:=by
    rw[<-ab,qEO st J,<-qEO (e:=I) (kC b (C.filter p)).st J]
    have D:∀x,x∈o.op.operands->evx G (kC b (C.filter p)) x=evx G I x/\∀s f,evx G I x=.lp s f->(kC b (C.filter p)).var s=I.var s:=by
     intro x A;have Cm:=au.1 h1 x (by simpa using A)
     cases x with
     |tmp t=>
      simp only[qEa,am,bN]at Cm;obtain⟨B,j⟩:=Cm
      have K:∀s f,I.get t=.lp s f->(kC b (C.filter p)).var s=I.var s:=by
       intro s f al;rw[al]at j;simp at j;obtain⟨a0,j⟩:=j;split at j
       .rename_i cs Um;simp only[am,cG]at j
        have L:∃ds:List V,cs=ds.map T.p:=by
         have n:=j.1;clear Um j
         induction cs with
         |nil=>simp_all
         |cons c cs ih=>
          simp only[cQ,am]at n;obtain⟨ds,L⟩:=ih n.2
          cases c with
          |p d0=>exact⟨d0::ds,by rw[L];rfl⟩
          |_=>simp at n
        obtain⟨ds,rfl⟩:=L;have a3:=hA.v s ds a0 j.2 (by rw[d1.var];exact Um);rw[z.var,a3,Um]
       .cases j
      refine⟨?_,fun s f hs=>K s f hs⟩;show(kC b (C.filter p)).get t=I.get t;rcases B with Cm|Cm
      .simp only[flC,bC,am]at Cm;obtain⟨M,fl,N,bn⟩:=Cm;have N:=aM N;subst N;obtain⟨_,_,o2,bo,bs,ao⟩:=k M fl
       grind[Fl.val]
      .simp at Cm;obtain⟨b0,E⟩:=Cm
       have F:∀M,M∈C->t≠M.d:=by
        grind[zV9,flD]
       have b1:=d2 t F;have b2:=a1 t (fun M fl=>F M (aV.1 fl).1);split at j
       .rename_i dv b3;have:=hA.p t dv E (by grind)
        grind
       .rename_i s f al;simp at j;have:=hA.lp t s f E j.1 (by grind)
        grind
       .cases j
     |_=>exact⟨rfl,fun s f hs=>by
       grind[evx]⟩
    exact zPC (fun x A=>(D x A).1) (fun x A s f hs=>(D x A).2 s f (by grind)) rfl
   have an:=zPB ab J;refine .inl ?_;simp[zLz,ag,hd]
   have u:∀e2:Env Γ.St,e2= { (kC b (C.filter p))with tm:=(kC b (C.filter p)).tm.set q.d (zTH q.d r) } ->Sa e2=Sa (zFF (kC b (C.filter p)) q):=by
    grind[zFF,Fl.val]
   unfold zAC
   cases hn:r.needs with
   |false=>
    simp only[bO,if_false];apply u
    cases r with
    |ret x=>rfl
    |call _ _ _=>cases an
    |_=>cases hn
   |true=>
    simp only[if_true];unfold qGV at h2;simp only[am]at h2;obtain⟨⟨⟨k1,k2⟩,k3⟩,k4⟩:=h2;have a4:q.d< (kC b (C.filter p)).vars.length:=by rw[z.vars];simpa using k4
    rw[if_pos ⟨a4,by grind⟩]
    have hk:(kC b (C.filter p)).kill q.d=kC b (C.filter p):=by
     refine qAv ?_ ?_ ?_
     .intro x A;rcases qF0 (b:=b) _ _ x A with A|⟨M,fl,y,hy,rfl⟩|rfl
      .grind
      .grind
      .rfl
     .intro cs Um x A;rw[z.vars]at Um
      grind
     .rw[z.var];simp_all
    rw[hk];apply u
    cases r with
    |var cs=>grind
    |call _ _ _=>cases an
    |ret x=>cases hn
    |_=>rfl
  grind[vH]
 .-- a bb
  refine .inl ?_;obtain⟨b4,op,be,b5,a5,guard⟩:=o;simp only at Z hd;subst Z hd;simp only[zLz,evQ,zAC,R.needs,bO,if_false];simp only[zFF,Fl.val,hv];rfl
theorem zLT(h:zMv P G S e o=Sa i)(d:i j=Sa v):
  ∃e1,(zLz P G S.toS e o=Sa e1\/evW P G e o=Sa e1)/\qA (kH G e o) e e1/\j e1=Sa v:=by
 unfold zMv at h;split at h
 .rename_i g f;cases h;obtain⟨r,q,a⟩:=zKY f d;split at a
  .rename_i e1 c;refine⟨e1,.inl ?_,?_,a⟩
   .grind[zLz]
   .refine(zI9 c).mono ?_
    grind[zBE,kH]
  .cases a
 .obtain⟨e1,K,k⟩:=zUj h d
  grind[zVk]
theorem qAM:∀(l:List Nat) (e:Env Γ.St),qA 0 e (frzI l e):=by
 intro l
 induction l with
 |nil=>intro e;exact qA.refl e
 |cons i r a=>intro e;exact((zCR i e).trans (a _)).mono (fun t _=>by simp)
theorem zVJ(h:zZy P G S e o=Sa i)(f:i j=Sa v):
  ∃e1,zJw P G S.toS e o e1/\qA (kH G e o) e e1/\j e1=Sa v:=by
 unfold zZy at h;split at h
 .rename_i k q;simp at h;subst h;obtain⟨e1,a,c,d⟩:=zLT q f;exact⟨e1,a.elim .inl (fun h=>.inr (.inl h)),c,d⟩
 .split at h
  .rename_i g;obtain⟨e1,a,c,d⟩:=zLT h f;refine⟨e1,?_,?_,d⟩
   .rcases a with a|a
    .exact .inr (.inr ⟨g,a⟩)
    grind[qCJ]
   .rw[zIt g]at c ⊢;exact((qAM _ e).trans c).mono (fun t K=>by simpa using K)
  .cases h
theorem qC3:∀{fl:List Fl} {t:Nat},(zDE fl).testBit t=Sd->∀q,q∈fl->t≠2*q.d:=by
 intro fl
 induction fl with
 |nil=>grind
 |cons p r a=>
  intro t h q c;simp[zDE]at h
  grind
theorem zNe:∀(L:List Fl) (e:Env J),qA (zDE L) e (kC e L):=by
 intro L
 induction L with
 |nil=>intro e;exact qA.refl e
 |cons q L a=>intro e;exact(zF4 q.d (q.val e) e).trans (a (zFF e q))
theorem zVh{fl:List Fl}(h:∀q,q∈C->∃r,r∈fl/\r.d=q.d)(a:(zDE fl).testBit g=Sd):(zDE C).testBit g=false:=by
 induction C with
 |nil=>simp[zDE]
 |cons q C c=>
  grind[zBE,qGE,Af,qC3,zDE]
theorem zVx{a:Option Nat}{q:Fl}(h:zZj g a q=Sb):zY0 g a q:=by
 unfold zZj at h;simp at h;obtain⟨m,c⟩:=h;refine⟨?_,?_⟩
 .intro d;simp_all
 .split at c
  .grind
  .grind
  .cases c
  .rename_i s f;rw[f];intro d;simp_all
theorem zTi{f:Array Nat}(Y:qAV ops f g l)(Z:zLJ I.tm.length C)(z:∀q,q∈C->g.testBit q.i=Sd/\l.testBit q.i=Sb/\∃o,ops[q.i]?=Sa o/\o.dst=Sa q.d/\((zZS (I.get q.d)=Sb/\q.v=.c (I.get q.d))\/∃s,o.op=.move (.tmp s)/\q.v=.a s))(N:∀q,q∈C->I.var q.d=Sc)(ab:∀q,q∈C->∀o,ops[q.i]?=Sa o->∃st A,zGF P G S.toS (u5 ops g) I st o A):∀(L:List Nat) (b:Env Γ.St) (m:Nat),
  zKH P G S ops f C I L b m a1=Sa v->qA m (zHh I C) b->(∀t,m.testBit t=Sd->(zDE C).testBit t=Sd)->
  ∃n M,zKS P G S.toS ops f C L b n/\qA M (zHh I C) (kC n C)/\(∀t,M.testBit t=Sd->(zDE C).testBit t=Sd)/\a1 (kC n C) M=Sa v:=by
 intro L
 induction L with
 |nil=>
  intro b m h B O;simp only[zKH]at h;rw[yG]at h;exact⟨b,_,.nil b,B.trans (zNe C b),fun t p=>((zBE _ _ _).1 p).2,h⟩
 |cons c Q ih=>
  intro b m h B O;simp only[zKH]at h;split at h
  .rename_i o ho;rw[yG]at h;split at h
   .rename_i k;simp only[am]at k;obtain⟨r,j⟩:=k;split at h
    .rename_i q fl;obtain⟨W,h1,h2,x⟩:=zVJ fl h;rw[zSA]at x;split at x
     .rename_i D;have E:qA (m|||(zDE C|||kH G (kC b (C.filter (qAG f c))) o)) (zHh I C) W:=by have u:qA (zDE C) b (kC b (C.filter (qAG f c))):=(zNe _ b).mono (fun t p=>zVh (fun q fl=>⟨q,(aV.1 fl).1,rfl⟩) p);exact B.trans (u.trans h2)
      obtain⟨n,M,g1,g2,g3,g4⟩:=ih W _ x E (fun t p=>O t ((zBE _ _ _).1 p).1);refine⟨n,M,.cons ho h1 ?_ ?_ ?_ g1,g2,g3,g4⟩
      .intro q y F;have H:=au.1 r (.tmp q.d) (by simpa using F);have e1:=au.1 H q y;simpa[qAG]using e1
      .intro q y;exact zVx (au.1 j q y)
      .intro q y J;have F:=au.1 D q y;rw[show qAG f c q=Sd from J,bU]at F
       grind[zSq]
     .cases x
    .cases h
   .cases h
  .cases h
theorem zWx(B:P.follows .mixedOrders=Sb)(hS:qK Γ P G S.toS){lg:Nat}{K:Env Γ.St->Nat->Option ρ}(h:qAw P G S ops g l e lg K=Sa v):∃e' d,(∀(id:Nat) (L:World) (N:Blk->Prop) (O:zAg) (a:Act) (w:World) (Q:Exit->Act->World->Prop),
  Inv Γ G L N O a w e->(∀a w,Inv Γ G L N O a w e'->Q .normal a w)->(Code.region id ops Sb).wp P Q a w)/\qA d e e'/\K e' (lg|||d)=Sa v:=by
 unfold qAw at h;split at h
 .rename_i C;have Um:=qGx C;rw[yG]at h;obtain⟨j,d1,h1,h2,A⟩:=zL0 _ _ _ h;split at A
  .rename_i m W;split at A
   .rename_i hc;simp only[am]at hc;obtain⟨⟨⟨c1,c2⟩,c3⟩,c4⟩:=hc;have f:=zYb c1 c2;obtain⟨s1,s2⟩:=qCC _ _ W
    have u:∀q,q∈m->g.testBit q.i=Sd/\l.testBit q.i=Sb/\∃o,ops[q.i]?=Sa o/\o.dst=Sa q.d/\((zZS (j.get q.d)=Sb/\q.v=.c (j.get q.d))\/∃s,o.op=.move (.tmp s)/\q.v=.a s):=by
     grind
    have n:∀q,q∈m->j.var q.d=none:=fun q k=>c7.1 (au.1 c3 q k);have Y:=zTm Um.st 0 (u5 ops g).toList (by simp)
    have Z:∀d,d∈qY (u5 ops g).toList->(killAll (qY (u5 ops g).toList) e).var d=none:=by
     intro d hd
     cases J:(killAll (qY (u5 ops g).toList) e).var d with
     |none=>rfl
     |some cs=>exact absurd ⟨cs,J⟩ (zCc _ e d hd).1
    obtain⟨al,_,_,p,_,_,_⟩:=zI1 _ _ _ h1 Y Z;have x:∀q,q∈m->∀o,ops[q.i]?=Sa o->∃st D,zGF P G S.toS (u5 ops g) j st o D:=by intro q k o ho;exact⟨_,_,p q.i o (by grind[zAv])⟩
    rw[yG]at A
    have y:qA (zDE m) j (zHh j m):=(zNe _ j).mono (fun t E=>zVh (fun q k=>by
     grind) E)
    have F:qA (zDE m) (zHh j m) (zHh j m):=(qA.refl _).mono (fun t _=>by simp);obtain⟨b',M,g1,g2,g3,g4⟩:=zTi Um f u n x _ _ _ A F (fun t E=>E)
    have ab:∀q,q∈m->j.get q.d=q.val j/\j.var q.d=none:=by
     intro q k;refine⟨?_,n q k⟩;obtain⟨hC,hU,o,ho,hd,z⟩:=u q k;rcases z with⟨_,J⟩|⟨s,ad,J⟩
     .grind[Fl.val]
     .obtain⟨st,D,zBZ⟩:=x q k o ho;have hg:=Um.guardC q.i o ho (.inr hU);rcases zBZ with⟨_,r,H,_,_,I⟩|⟨hw,_⟩
      .obtain⟨k1,_,_⟩:=I q.d hd;rw[k1 (f.lt q k)];simp[evQ,ad]at H;subst H;unfold Fl.val;rw[J];rfl
      grind[vH]
    refine⟨kC b' m,(zYJ (qY (u5 ops g).toList)|||d1)|||M,?_,?_,?_⟩
    .intro id L N O a w Q hi hQ;refine qCZ B Um hS hi h1 f ?_ ?_ ab ?_ g1 hQ
     .simp_all
     .grind
     .intro q k;exact zSq Um f u n F k (x q k) (au.1 c4 q k)
    .have ag:qA M j (kC b' m):=(y.mono (fun t E=>g3 t E)).same g2;exact((zL3 _ e).trans h2).trans ag
    grind
   .cases A
  .cases A
 .cases h
variable {a2:Option (List (Nat×Nat×Nat))}
theorem zJ3(i:P.follows .mixedOrders=Sb)(u:qK Γ P G S.toS){d:Bool}{K:Env Γ.St->Nat->Option ρ}{id:Nat}(h:zXB P G S ops d a2 e g K=Sa v):
  ∃e' n,vK P G (.region id ops d) e .normal e'/\qA n e e'/\K e' (g|||n)=Sa v:=by
 have c:∀(e:Env Γ.St) (g k:Nat),zTc P G S ops k e g K=Sa v->∃e' n,vK P G (.region id ops Sb) e .normal e'/\qA n e e'/\K e' (g|||n)=Sa v:=by intro e g k h;obtain⟨x,n,j,l,t⟩:=zWp i u h;exact⟨x,n,fun m p q a w r=>j id m p q a w _ r (fun a w h=>⟨rfl,h⟩),l,t⟩
 unfold zXB at h;split at h
 .have y:(∃e' d,zLI P G ops ops.toList e e'/\qA d e e'/\K e' (g|||d)=Sa v)->∃e' n,vK P G (.region id ops Sd) e .normal e'/\qA n e e'/\K e' (g|||n)=Sa v:=by
   rintro⟨x,n,j,l,t⟩;refine⟨x,n,?_,l,t⟩;intro m p q a w r;refine wp_region ?_;have:=qA8 (Q:=fun z A B=>z=X.toExit .normal/\Inv Γ G m p q A B x) ops 0 ops.toList e x a w (by simp) j r (fun a w h=>⟨rfl,h⟩)
   grind[List.range_eq_range']
  grind[zEh,zXm,zXn]
 .split at h
  .exact c e g _ h
  .rw[yG]at h;obtain⟨x,n,j,l,t⟩:=c _ _ _ h;exact⟨x,_,fun m p q a w r=>j m p q a w (Inv.frzOps _ _ r),(zFW _ e).trans l,by grind⟩
  .split at h
   .exact c e g _ h
   .grind
   .rw[yG]at h;obtain⟨x,n,j,l,t⟩:=zWx i u h;exact⟨x,_,fun m p q a w r=>j id m p q a w _ (Inv.frzOps _ _ r) (fun a w h=>⟨rfl,h⟩),(zFW _ e).trans l,by grind⟩
theorem qCD(a b:Nat):qFq (zXA a b):=⟨fun _=>rfl,fun _ _=>rfl,rfl⟩
theorem zZz:∀(l:List (Nat×Nat×Nat)) (e:Env Γ.St),qB3 l e j=Sa v->∃e',qA 0 e e'/\j e'=Sa v/\∀(c:World) (d:Blk->Prop) (f:zAg) (a:Act) (w:World),Inv Γ G c d f a w e->Inv Γ G c d f a w e':=by
 intro l
 induction l with
 |nil=>intro e h;exact⟨e,qA.refl e,h,fun _ _ _ _ _ h=>h⟩
 |cons x r g=>
  intro e h;obtain⟨a,b,n⟩:=x;simp only[qB3]at h;split at h
  .split at h
   .rename_i q;rw[yG]at h;obtain⟨e',i,K,k⟩:=g _ h
    exact⟨e',(zCC (qCD a b) e).same i,K,fun c d f m w p=>k c d f m w (by
     simp at q
     exact p.ren q.1 (fun h=>by simp_all) (fun h=>by simp_all))⟩
   .cases h
  .rw[yG]at h;obtain⟨e',i,K,k⟩:=g _ h;exact⟨e',(zCR _ e).same i,K,fun c d f m w p=>k c d f m w (p.frzOE _)⟩
  .exact g e h
theorem zR3(c:P.follows .mixedOrders=Sb)(f:qK Γ P G S.toS){d:Bool}{K:Env Γ.St->Nat->Option ρ}{id:Nat}(h:qFW P G S ops d a2 e g K=Sa v):
  ∃e' n,vK P G (.region id ops d) e .normal e'/\qA n e e'/\K e' (g|||n)=Sa v:=by
 unfold qFW at h;split at h
 .exact zJ3 c f h
 .exact zJ3 c f h
 .obtain⟨D,n,p,q,r⟩:=zJ3 c f (id:=id) h;obtain⟨u,x,y,z⟩:=zZz (G:=G) _ _ r;refine⟨u,n,?_,q.same (x.mono (fun t _=>by simp)),y⟩;intro i j k a w A;exact wp_mono (p i j k a w A) (fun E B C l=>⟨l.1,z i j k B C l.2⟩)
end
end Go.Ve

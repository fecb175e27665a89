/- law16 -/
import Derived.Test.YtgiopebfjmfmhaaGreatLp8
set_option linter.unusedVariables false
open Option renaming some->Sa,none->Sc
open Bool renaming true->Sb,false->Sd
open Nat renaming beq->Aa,testBit->Ac
open List renaming map->Ab,mem_cons_of_mem->Af,take_append_drop->Ag,mem_of_getElem?->Ah,range->Ai,all_eq_true->Aj
open Option renaming bind->Ad
open Go.Deferred renaming ofValue->Ae
namespace Go.Ve
open Go
def lq(Cm:Nat)(a:Array Bool):Array Bool:=a.mapIdx fun i b=>b||Ac Cm i
variable {g:Array Bool}
theorem qFv{Cm:Nat}:(lq Cm g).size=g.size:=by simp[lq]
theorem zRV{Cm:Nat}{i:Nat}:(lq Cm g).getD i Sb=(g.getD i Sb||Ac Cm i):=by
 simp[lq]
 grind
theorem qGB{Cm:Nat}{i:Nat}:lq Cm (g.setIfInBounds i Sb)=(lq Cm g).setIfInBounds i true:=by
 apply zQ0
 grind[Array.size_mapIdx,lq]
def zG3{St:Type}(e:Env St)(fl:List Fl):Env St:=kA e (fl.map fun q=>⟨q.i,q.d,.c .dead⟩)
theorem zXT{St:Type}{e:Env St}{fl:List Fl}(h:zLj e.tm.length fl):zCa (zG3 e fl) e/\(∀t,(∀q,q∈fl->t≠q.d)->(zG3 e fl).get t=e.get t)/\(∀q,q∈fl->(zG3 e fl).get q.d=.dead):=by
 have f:zLj e.tm.length (fl.map fun q=>⟨q.i,q.d,.c .dead⟩):=by
  refine⟨?_,?_,?_⟩
  .rw[List.pairwise_map];exact h.dist
  .intro q a;obtain⟨p,g,rfl⟩:=aO.1 a;exact h.lt p g
  grind
 obtain⟨j,k⟩:=zB1 _ e _ f (ai _);refine⟨zBh _ e,?_,?_⟩
 .intro t l;refine j t (fun q a=>?_)
  grind
 .intro q a;exact k ⟨q.i,q.d,.c .dead⟩ (aO.2 ⟨q,a,rfl⟩)
section
variable {Γ:Sig}{P:Program}{G:Nat->Option (List V)}{S:vF Γ}{w0:World}{F0:Blk->Prop}{O0:x5}{ops:Array Oper}{anc:Array Nat}{Cm Um:Nat}
variable {g:Exit->Act->World->Prop}
theorem qA5{K:Act->World->Prop}{i:Nat}{o:Oper}{a:Act}{w:World}(d:qAg ops anc Cm Um)(f:ops[i]?=Sa o)(Q:Cm.testBit i=Sd)(h:wpOp P (uZ ops Cm) g i K a w):wpOp P ops g i K a w:=by
 unfold wpOp at*
 rw[zAl f Q]at h;rw[f];simp only at h ⊢
 have m:Region.wanted o (yielded (uZ ops Cm) a.tmps)=Region.wanted o (yielded ops a.tmps):=by
  unfold Region.wanted
  cases k:o.guard with
  |none=>rfl
  |some l=>
   obtain⟨j,c⟩:=l;have n:=d.guardQ i o j c f Q k
   grind[zHJ,yielded]
 grind
theorem zUM(n:qAg ops anc Cm Um)(hS:qK Γ P G S){e1 L b':Env Γ.St}{y:Nat->Γ.St}(C:∀(i:Nat) (o:Oper),(uZ ops Cm)[i]?=Sa o->zGu P G S (uZ ops Cm) e1 (y i) o (y (i+1)))(a5:y ops.size=e1.st){fl:List Fl}(A:zLj e1.tm.length fl)(a6:∀i,Um.testBit i=Sb->Cm.testBit i=Sd->i<ops.size->∃q,q∈fl/\q.i=i)(H:∀q,q∈fl->Cm.testBit q.i=Sd/\Um.testBit q.i=Sb/\∃o,ops[q.i]?=Sa o/\o.dst=Sa q.d)(a9:∀q,q∈fl->e1.get q.d=q.val e1/\e1.var q.d=Sc)(I:zCa L e1)(ap:∀t,(∀q,q∈fl->t≠q.d)->L.get t=e1.get t)(bb:∀q,q∈fl->L.get q.d=.dead)(bd:∀q,q∈fl->zOp P G S ops fl L q)(M:zKu P G S ops anc fl ((Ai ops.size).filter (fun i=>Cm.testBit i)) L b')(hQ:∀a w,Inv Γ G w0 F0 O0 a w (kA b' fl)->g .normal a w):∀(l:Nat) (f:Array Bool) (a:Act) (w:World),
  f.size=ops.size->f.count Sd<=l->zPt ops (fun i=>f.getD i Sb=Sb)->(∀c,c<ops.size->Cm.testBit c=Sb->f.getD c Sb=Sd)->
  (∃F O β al m,qCA Γ G w0 F0 O0 (uZ ops Cm) e1 y (lq Cm f) a w F O β al m)->wpAny P .any ops g l f a w:=by
 have be:∀(l:Nat) (f:Array Bool) (a:Act) (w:World),f.size=ops.size->f.count Sd<=l->zPt ops (fun i=>f.getD i Sb=Sb)->
   (∀c,c<ops.size->Cm.testBit c=Sb->f.getD c Sb=Sd)->(∀i,i<ops.size->Cm.testBit i=Sd->Um.testBit i=Sd->f.getD i Sb=Sb)->
   (∃F O β al m,qCA Γ G w0 F0 O0 (uZ ops Cm) e1 y (lq Cm f) a w F O β al m)->wpAny P .any ops g l f a w:=by
  rintro l f a w J D B N K ⟨F,O,β,al,m,z⟩;refine zV8 n hS A a6 H hQ l _ L f a w J D B K ?_ (List.Pairwise.filter _ List.pairwise_lt_range) M (fun q E _=>bd q E) I.len ?_
  .grind
  .have bk:∀(i:Nat) (o:Oper),(uZ ops Cm)[i]?=Sa o->(lq Cm f).getD i Sb=Sd->ops[i]?=Sa o/\Cm.testBit i=Sd/\Um.testBit i=Sb/\f.getD i Sb=false:=by
    grind[zRV,Bool.or_eq_false_iff,Array.getElem?_eq_some_iff,zCB,zHJ,Option.map_eq_some_iff]
   have p:∀t,(∀q,q∈fl->t=q.d->f.getD q.i Sb=Sb)->zLE (uZ ops Cm) (lq Cm f) t:=by
    intro t ht i o ho u hd
    grind
   have ab:∀k,m+k<=ops.size->y (m+k)=y m:=by
    intro k
    induction k with
    |zero=>intro _;rfl
    |succ k ih=>
     intro Z;have hlt:m+k< (uZ ops Cm).size:=by rw[zCB];omega
     have hj:(uZ ops Cm)[m+k]?=Sa (uZ ops Cm)[m+k]:=aD hlt
     have N:isCall (uZ ops Cm)[m+k]=false:=by
      cases hc:isCall (uZ ops Cm)[m+k]with
      |false=>rfl
      |true=>
       exfalso
       cases u:(lq Cm f).getD (m+k) Sb with
       |true=>have:=(z.calls _ _ hj hc).1 u;omega
       |false=>
        obtain⟨h1,h2,h3,h4⟩:=bk _ _ hj u;have:=n.call _ _ h1 h2 h3
        grind
     rw[<-ih (by omega)];rcases C (m+k) _ hj with⟨_,r',cf,ad,_,_⟩|⟨_,ad,_⟩
     all_goals grind[Nat.add_assoc,zCW,zO3]
   have ch:m<=ops.size:=by have:=z.mle;rwa [zCB]at this
   have av:y m=e1.st:=by
    grind[Nat.add_sub_cancel']
   have ag:=zBh (fl.filter (fun q=>f.getD q.i Sb)) L;obtain⟨a1,a2⟩:=zB1 (fl.filter (fun q=>f.getD q.i Sb)) L _ (A.filter _) (by rw[I.len];omega);have ax:∀s,(kA L (fl.filter (fun q=>f.getD q.i Sb))).var s=e1.var s:=fun s=>(ag.trans I).var s;refine Inv.of (al:=al) (by rw[ag.st,I.st,<-av];exact z.core) z.g (by rw[ag.len,I.len];exact z.size) z.defers ?_ ?_ ?_
   .intro t;by_cases ht:∃q,q∈fl/\t=q.d
    .obtain⟨q,E,rfl⟩:=ht
     cases u:f.getD q.i Sb with
     |true=>
      rw[a2 q (aU.2 ⟨E,u⟩)]
      have Z:=z.tm q.d (p q.d (by
       intro r hr bn;have:r.i=q.i:=by obtain⟨c1,_,o1,h1,d1⟩:=H q E;obtain⟨c2,_,o2,h2,d2⟩:=H r hr;exact(n.st.dist q.i r.i o1 o2 q.d (zAl h1 c1) (zAl h2 c2) d1 (by grind)).symm
       grind))
      rw[(a9 q E).1]at Z
      have:q.val L=q.val e1:=by
       unfold Fl.val
       cases hv:q.v with
       |c x=>rfl
       |a s=>simp only;exact ap s (fun r hr=>A.src q E s hv r hr)
      grind
     |false=>
      rw[a1 q.d (by
       intro r hr bn;obtain⟨bo,cl⟩:=aU.1 hr;obtain⟨c1,_,o1,h1,d1⟩:=H q E;obtain⟨c2,_,o2,h2,d2⟩:=H r bo;have:q.i=r.i:=n.st.dist q.i r.i o1 o2 q.d (zAl h1 c1) (zAl h2 c2) d1 (by grind)
       grind),bb q E]
      trivial
    .have an:∀q,q∈fl->t≠q.d:=fun q E hh=>ht ⟨q,E,hh⟩;rw[a1 t (fun q E=>an q (aU.1 E).1),ap t an];exact z.tm t (p t (fun q E hh=>absurd hh (an q E)))
   .intro s cs W;rw[ax]at W
    have bs:zLE (uZ ops Cm) (lq Cm f) s:=p s (by
     grind)
    have ha:=z.vk s cs W bs;exact⟨ha,z.var s cs W ha⟩
   .intro s hs;obtain⟨cs,W⟩:=z.lp s hs
    grind
 intro l
 induction l with
 |zero=>
  intro f a w J D B N z;refine be 0 f a w J D B N ?_ z;intro i hi _ _
  cases u:f.getD i Sb with
  |true=>rfl
  |false=>
   exfalso;have h0:f.count Sd=0:=by omega
   rw[dI]at h0;apply h0;have h:i<f.size:=by omega
   simp[h]at u
   grind
 |succ l ih=>
  intro f a w J D B N z;by_cases K:∀i,i<ops.size->Cm.testBit i=Sd->Um.testBit i=Sd->f.getD i Sb=Sb
  .grind
  .obtain⟨j,hj⟩:=Classical.not_forall.1 K;simp only[Classical.not_imp]at hj;obtain⟨ay,b1,b2,a0⟩:=hj;refine⟨fun hr=>?_,?_⟩
   .exfalso;apply a0
    have:∀i,i<ops.size->f.getD i Sb=true:=by
     intro i
     induction i using Nat.strongRecOn with
     |_ i cp=>
      intro hi
      cases u:f.getD i Sb with
      |true=>rfl
      |false=>
       exfalso
       have ck:i∈Region.ready .any ops f:=by
        rw[mem_ready];refine⟨u,ops[i],by simp[hi],?_⟩;intro e he hb;have cq:=n.edge i ops[i] e (by simp[hi]) he hb
        grind
       grind
    exact this j ay
   .intro i hi;obtain⟨b3,o,ho,b4⟩:=mem_ready.1 hi;have hlt:i<ops.size:=(ar.1 ho).1;have ao:i<f.size:=by omega
    have Y:∀e,e∈o.after->Region.binds .any e=Sb->f.getD e.on Sb=true:=by
     grind
    have hC:Cm.testBit i=false:=by
     cases hC:Cm.testBit i with
     |false=>rfl
     |true=>exfalso;have hb:=n.before i o ho hC j ay (.inr ⟨b1,b2⟩);exact a0 (n.up (fun j=>f.getD j Sb=Sb) B i o ho Y j hb.1 hb.2)
    obtain⟨F,O,β,al,m,z⟩:=z;refine qA5 n ho hC ?_;refine zTV n.st hS C z (by grind[qFv,zCB]) ?_ (zAl ho hC) ?_ ?_ ?_
    .intro k ok e Z u he hb;rw[zRV,bO]at u ⊢;have cr:k<ops.size:=by grind[Array.getElem?_eq_some_iff,zCB]
     rw[zHJ]at Z;simp at Z;obtain⟨o',b5,ab⟩:=Z
     cases a3:Cm.testBit k with
     |true=>
      grind[qDz]
     |false=>simp only[a3]at ab;subst ab;rw[a3]at u;exact .inl (B k o' e b5 (u.resolve_right (by simp)) he hb)
    .grind[zRV]
    .grind[zRV]
    .intro a' w' F' O' β' b6 m' a4;rw[<-qGB]at a4;refine ih (f.setIfInBounds i Sb) a' w' (by simpa using J) ?_ ?_ ?_ ⟨F',O',β',b6,m',a4⟩
     .have cv:f[i]=false:=by simpa[ao]using b3
      grind
     .intro k ok e Z u he hb;show(f.setIfInBounds i Sb).getD e.on Sb=Sb;have u:(f.setIfInBounds i Sb).getD k Sb=true:=u;rw[vW _ _ _ ao]at u ⊢;split
      .rfl
      .by_cases cc:k=i
       .grind
       .rw[if_neg cc]at u;exact B k ok e Z u he hb
     .intro c hc cx;rw[vW _ _ _ ao,if_neg (fun hh=>by grind)]
      grind
theorem qCj(u:P.follows .mixedOrders=Sb)(x:qAg ops anc Cm Um)(hS:qK Γ P G S){a:Act}{w:World}{e e1 b':Env Γ.St}(hi:Inv Γ G w0 F0 O0 a w e)(K:zDp P G S (uZ ops Cm) (uZ ops Cm).toList (killAll (qY (uZ ops Cm).toList) e)=Sa e1){fl:List Fl}(c:zLj e1.tm.length fl)(L:∀i,Um.testBit i=Sb->Cm.testBit i=Sd->i<ops.size->∃q,q∈fl/\q.i=i)(M:∀q,q∈fl->Cm.testBit q.i=Sd/\Um.testBit q.i=Sb/\∃o,ops[q.i]?=Sa o/\o.dst=Sa q.d)(N:∀q,q∈fl->e1.get q.d=q.val e1/\e1.var q.d=Sc)(W:∀q,q∈fl->zOp P G S ops fl (zG3 e1 fl) q)(k:zKu P G S ops anc fl ((Ai ops.size).filter (fun i=>Cm.testBit i)) (zG3 e1 fl) b'){id:Nat}(hQ:∀a w,Inv Γ G w0 F0 O0 a w (kA b' fl)->g .normal a w):(Code.region id ops Sb).wp P g a w:=by
 have Y:=x.st;have Z:=zSL Y 0 (uZ ops Cm).toList (by simp)
 have ab:∀d,d∈qY (uZ ops Cm).toList->(killAll (qY (uZ ops Cm).toList) e).var d=none:=by
  intro d I
  cases hv:(killAll (qY (uZ ops Cm).toList) e).var d with
  |none=>rfl
  |some J=>exact absurd ⟨J,hv⟩ (zB5 _ e d I).1
 obtain⟨y,h0,hn,l,hg,hv,hl⟩:=zIJ _ _ _ K Z ab;have f:∀(i:Nat) (o:Oper),(uZ ops Cm)[i]?=Sa o->zGu P G S (uZ ops Cm) e1 (y i) o (y (i+1)):=fun i o j=>l i o (by grind);refine wp_region_any u ?_;obtain⟨F,O,β,hc,hG,ap,ad,ht,av⟩:=(hi.killAll (qY (uZ ops Cm).toList)).drew (w.drawn+1) (cW _);have z:∀i,i<ops.size->Cm.testBit i=Sd->(lq Cm (Array.replicate ops.size Sd)).getD i Sb=false:=by intro i hi A;rw[zRV,A];simp_all
 have B:∀(i:Nat) (o:Oper) (d:Nat),(uZ ops Cm)[i]?=Sa o->o.dst=Sa d->d∈qY (uZ ops Cm).toList/\Cm.testBit i=false:=by
  intro i o d j I;refine⟨?_,?_⟩
  .grind[Array.mem_of_getElem?,qY]
  .cases A:Cm.testBit i with
   |false=>rfl
   |true=>rw[zHJ]at j;simp at j;obtain⟨o',_,Q⟩:=j;simp only[A]at Q;subst Q;cases I
 have m:∀t,zLE (uZ ops Cm) (lq Cm (Array.replicate ops.size Sd)) t->t ∉ qY (uZ ops Cm).toList:=by
  intro t n C;simp only[qY,br]at C;obtain⟨o,ag,I⟩:=C;obtain⟨i,al,rfl⟩:=aC ag;have h:i< (uZ ops Cm).size:=by simpa using al
  have D:(uZ ops Cm)[i]?=Sa (uZ ops Cm)[i]:=aD h;have E:(uZ ops Cm)[i].dst=Sa t:=by grind
  refine n i _ D (z i (by rwa [zCB]at h) (B i _ t D E).2) E
 obtain⟨d1,d2,d3⟩:=zXT c;refine zUM x hS f (by grind[zCB]) c L M N d1 d2 d3 W k hQ ops.size _ a _ (by simp) (by simp) ?_ ?_ ⟨F,O,β,zT (killAll (qY (uZ ops Cm).toList) e),0,?_⟩
 .intro i o ed j ao;have h:i<ops.size:=(ar.1 j).1;simp_all
 .simp_all
 .refine⟨by rw[h0];exact hc,hG,by omega,ad,?_,?_,?_,?_,?_,aW _,?_⟩
  .grind
  .intro s J p hs;obtain⟨an,H⟩:=hs
   grind
  .intro s hs;obtain⟨an,H⟩:=hs
   grind
  .intro s J p n;rw[hv s (m s n)]at p;exact⟨J,p⟩
  .grind[zB5]
  .intro i o j r
   cases A:Cm.testBit i with
   |false=>
    grind[Array.getElem?_eq_some_iff,zCB]
   |true=>exfalso;rw[zHJ]at j;simp at j;obtain⟨o',_,Q⟩:=j;simp only[A]at Q;subst Q;cases r
end
def zWW(a b:Nat):T->T
 |.ow i k d=>.ow (if i=a then b else i) k d
 |.oe i k d j c=>.oe (if i=a then b else i) k d j c
 |.mp i d g=>.mp (if i=a then b else i) d g
 |.ot i t f=>.ot (if i=a then b else i) t f
 |.oet i t f j c=>.oet (if i=a then b else i) t f j c
 |.ov i t f h l=>.ov (if i=a then b else i) t f h l
 |.on n=>.on { n with id:=if n.id=a then b else n.id,id2:=if n.id2=a then b else n.id2 }
 |x=>x
def noO(d:Nat):T->Bool
 |.ow i _ _=> !Aa i d
 |.oe i _ _ _ _=> !Aa i d
 |.mp i _ _=> !Aa i d
 |.ot i _ _=> !Aa i d
 |.oet i _ _ _ _=> !Aa i d
 |.ov i _ _ _ _=> !Aa i d
 |.on n=> !Aa n.id d&& !Aa n.id2 d
 |_=>Sb
def qGA{St:Type}(d:Nat)(e:Env St):Bool:=
 e.tm.all (noO d)&&e.vars.all (fun c=>match c with
  |some a=>a.all (noO d)
  |none=>Sb)
section
variable {Γ:Sig}{G:Nat->Option (List V)}{w0:World}{F0:Blk->Prop}{O0:x5}{e:Env Γ.St}{a0:Act}{w:World}
theorem qAE{d:Nat}{x:T}(h:noO d x=Sb):¬x.hasO d:=by
 cases x<;>simp only[noO,T.hasO,cM]at h ⊢ <;>first|(intro a;exact a)|(intro a;subst a;simp at h)|(rintro⟨a,_⟩;subst a;simp at h)|(rintro(a|a)<;>(subst a;simp at h))
theorem Inv.ren(hi:Inv Γ G w0 F0 O0 a0 w e){a b:Nat}(hb:qGA b e=Sb)(Q:a≠jV)(W:b≠jV):Inv Γ G w0 F0 O0 a0 w (e.mapT (zWW a b)):=by
 obtain⟨F,O,β,B,hG,Y,H,ht,hv⟩:=hi;by_cases Z:a=b
 .subst Z
  have:e.mapT (zWW a a)=e:=by
   have hid:∀x:T,zWW a a x=x:=by
    intro x
    cases x with
    |on n=>
     have h:∀i,(if i=a then a else i)=i:=fun i=>by grind
     simp[zWW,h]
    |_=>simp only[zWW]<;>(try split)<;>simp_all
   obtain⟨tm,vars,st⟩:=e;simp[Env.mapT];refine⟨(bH (fun x _=>hid x)).trans (dt _),?_⟩;refine(bH (g:=id) ?_).trans (dt _);intro c _
   cases c with
   |none=>rfl
   |some N=>exact congrArg Sa ((bH (fun x _=>hid x)).trans (dt _))
  rw[this];exact⟨F,O,β,B,hG,Y,H,ht,hv⟩
 have ax:¬zT e (.o b):=by
  rintro⟨x,hx,hid⟩;unfold qGA at hb;simp only[am]at hb;rcases hx with hx|⟨s,N,z,hx⟩
  .grind[qAE,Aj]
  .have hm:Sa N∈e.vars:=by
    grind[Ah,Env.var]
   grind[Aj,qAE]
 let β':Lay:= { β with ob:=fun i=>if i=b then β.ob a else β.ob i }
 let C:v6->Prop:=fun x=>match x with
  |.v s=>zT e (.v s)
  |.o i=>(i=b/\zT e (.o a))\/(i≠a/\i≠b/\zT e (.o i))
 have f:∀i,zT e (.o i)->C (.o (if i=a then b else i))/\β'.ob (if i=a then b else i)=β.ob i:=by
  grind
 have hf:∀v x,zY w F β (zT e) v x->zY w F β' C v (zWW a b x):=by
  intro v x hx
  cases x with
  |p d=>exact hx
  |ow i k es=>
   obtain⟨ha,l,A,hr⟩:=hx;obtain⟨q,r⟩:=f i ha;exact⟨q,l,by grind,by rw[r];exact hr⟩
  |oe i k es j I=>
   obtain⟨ha,hj,l,A,hr⟩:=hx;obtain⟨q,r⟩:=f i ha;exact⟨q,hj,l,by grind,by rw[r];exact hr⟩
  |lp s I=>exact hx
  |mp i es ck=>
   obtain⟨ha,A,hr⟩:=hx;obtain⟨q,r⟩:=f i ha;exact⟨q,by grind,by rw[r];exact hr⟩
  |ot i t xs=>
   rcases hx with hx|⟨E,ha,l,A,hr⟩
   .exact .inl hx
   .obtain⟨q,r⟩:=f i ha;exact .inr ⟨E,q,l,by grind,by rw[r];exact hr⟩
  |oet i t xs j I=>
   obtain⟨ha,hj,l,A,hr⟩:=hx;obtain⟨q,r⟩:=f i ha;exact⟨q,hj,l,by grind,by rw[r];exact hr⟩
  |ov i t xs lo hi=>
   rcases hx with hx|⟨E,ha,k1,k2,l,A,hr⟩
   .exact .inl hx
   .obtain⟨q,r⟩:=f i ha;exact .inr ⟨E,q,k1,k2,l,by grind,by rw[r];exact hr⟩
  |on n=>
   obtain⟨id,id2,ty,xs,j,ys,m⟩:=n;obtain⟨ha,ab,c,et,J,k1,k2,k5,k6,k7,k8⟩:=hx;obtain⟨q,r⟩:=f id ha;obtain⟨h3,h4⟩:=f id2 ab;simp only at k1 k6 k7 k8;exact⟨q,h3,c,et,J,by grind,k2,k5,by grind,by grind,by grind⟩
  |emp=>exact hx
  |dead=>trivial
 have u:∀x,C x->∃y,zT e y/\β'.blk x=β.blk y/\(∀s,x=.v s↔y=.v s)/\(x=.o b↔y=.o a)/\(x≠ .o b->x=y):=by
  intro x hx
  cases x with
  |v s=>exact⟨.v s,hx,rfl,fun _=>cI,by simp,fun _=>rfl⟩
  |o i=>
   rcases hx with⟨rfl,ha⟩|⟨q,r,ha⟩
   .exact⟨.o a,ha,by simp[Lay.blk,β'],by simp,by simp,fun h=>absurd rfl h⟩
   .exact⟨.o i,ha,by grind[Lay.blk],fun s=>cI,by simp[q,r],fun _=>rfl⟩
 refine Inv.of (al:=C) (β:=β') ⟨B.keep,B.sig,B.oin,B.fin,B.f0,?_,?_,B.lent⟩ hG (by grind[Env.mapT]) H (fun t=>by rw[vN rfl];grind) ?_ ?_
 .intro x hx;obtain⟨y,hy,ad,_,K,ag⟩:=u x hx;rw[ad];refine⟨?_,(B.place y hy).2⟩;have hp:=(B.place y hy).1;by_cases q:x=.o b
  .have r:=K.1 q;subst r;subst q;exact .inl ⟨fun h=>W (by injection h),hp.o Q⟩
  grind
 .intro x y hx hy L;obtain⟨x',an,ao,_,K,ag⟩:=u x hx;obtain⟨y',ap,av,_,ay,a1⟩:=u y hy;rw[ao,av]at L;have:=B.dist x' y' an ap L
  grind
 .intro s N z;rw[jF]at z;simp at z;obtain⟨M,D,rfl⟩:=z;exact⟨⟨M,D⟩,(hv s M D).mapT rfl hf⟩
 .rintro s ⟨N,z⟩
  grind[jF]
end
def qI(d:Nat):T->T
 |.ow i k f=>if i=d then .dead else .ow i k f
 |.oe i k f j c=>if i=d then .dead else .oe i k f j c
 |.mp i f h=>if i=d then .dead else .mp i f h
 |.ot i t g=>if i=d then .dead else .ot i t g
 |.oet i t g j c=>if i=d then .dead else .oet i t g j c
 |.ov i t g j c=>if i=d then .dead else .ov i t g j c
 |.on n=>if n.id=d\/n.id2=d then .dead else .on n
 |x=>x
def alo(d:Nat)(al:v6->Prop)(x:v6):Prop:=al x/\x≠ .o d
theorem zY.killO{w:World}{F:Blk->Prop}{β:Lay}{al:v6->Prop}{v:Value}{x:T}{d:Nat}(h:zY w F β al v x):zY w F β (alo d al) v (qI d x):=by
 cases x with
 |p d=>exact h
 |ow i k l=>
  simp only[qI];split
  .trivial
  .rename_i c;exact⟨⟨h.1,by simpa using c⟩,h.2⟩
 |oe i k l j f=>
  simp only[qI];split
  .trivial
  .rename_i c;exact⟨⟨h.1,by simpa using c⟩,h.2⟩
 |lp s f=>exact⟨⟨h.1,by simp⟩,h.2⟩
 |mp i l q=>
  simp only[qI];split
  .trivial
  .rename_i c;exact⟨⟨h.1,by simpa using c⟩,h.2⟩
 |ot i t xs=>
  simp only[qI];split
  .trivial
  .rename_i c;rcases h with h|⟨g,ha,h⟩
   .exact .inl h
   .exact .inr ⟨g,⟨ha,by simpa using c⟩,h⟩
 |oet i t xs j f=>
  simp only[qI];split
  .trivial
  .rename_i c;exact⟨⟨h.1,by simpa using c⟩,h.2⟩
 |ov i t xs lo r=>
  simp only[qI];split
  .trivial
  .rename_i c;rcases h with h|⟨g,ha,h⟩
   .exact .inl h
   .exact .inr ⟨g,⟨ha,by simpa using c⟩,h⟩
 |on n=>
  simp only[qI];split
  .trivial
  .rename_i c;have m:=not_or.1 c;exact⟨⟨h.1,by simpa using m.1⟩,⟨h.2.1,by simpa using m.2⟩,h.2.2⟩
 |emp=>exact h
 |dead=>trivial
def zLI(id:Nat)(t:Ty)(zs:List t.El):T->T
 |.ot i c d=>if i=id then(if c=t then .ot id t zs else .dead)else .ot i c d
 |x=>qI id x
def qED:List Bool->Bool
 |[]=>Sb
 |[b]=>b
 |b::c::r=>b&&qED (c::r)
def zLz(id p n:Nat):Nat->List T->List Bool
 |_,[]=>[]
 |i,.ot j _ c::r=>match Aa j id with
  |true=>match Aa i p with
   |true=>zLz id p n (i+1) r
   |false=>Aa c.length n::zLz id p n (i+1) r
  |false=>zLz id p n (i+1) r
 |i,_::r=>zLz id p n (i+1) r
theorem zYg:∀{l:List Bool},qED l=Sb->∀b,b∈l->b=Sb
 |[],_,b,d=>by simp at d
 |[c],h,b,d=>by simp at d;subst d;exact h
 |c::f::r,h,b,d=>by
  simp[qED]at h;rcases bi.1 d with rfl|d
  .exact h.1
  .exact zYg h.2 b d
theorem zT4{id p n:Nat}:∀{l:List T} {i:Nat},(∀b,b∈zLz id p n i l->b=Sb)->∀(k:Nat) (t:Ty) (xs:List t.El),l[k]?=Sa (.ot id t xs)->i+k≠p->xs.length=n
 |[],i,_,k,t,xs,c,_=>by simp at c
 |x::r,i,h,k,t,xs,c,d=>by
  have f:∀b,b∈zLz id p n (i+1) r->b=true:=by
   intro b g;refine h b ?_
   cases x with
   |ot j m q=>
    grind[Af,zLz]
   |_=>exact g
  cases k with
  |zero=>
   grind[List.getElem?_cons_zero,Option.some.injEq,Nat.eq_of_beq_eq_true,Nat.beq_refl,List.mem_cons_self,absurd,zLz]
  |succ k=>exact zT4 f k t xs (by simpa using c) (by omega)
def qDk{St:Type}(e:Env St)(id p:Nat)(t:Ty)(zs:List t.El)(st:St)(f:Option Tmp)(d:V):Env St:=
 (⟨(e.tm.map (zLI id t zs)).set p (.ot id t zs),e.vars.map (fun c=>c.map (Ab (qI id))),st⟩:Env St).put f (.p d)
def qDi{St:Type}(e:Env St)(id:Nat)(t:Ty)(zs:List t.El)(st:St)(d:Option Tmp):Env St:=
 (⟨e.tm.map (qI id),e.vars.map (fun c=>c.map (Ab (qI id))),st⟩:Env St).put d (.ot id t zs)
section
variable {Γ:Sig}{P:Program}{G:Nat->Option (List V)}{S:vF Γ}{w0:World}{F0:Blk->Prop}{O0:x5}{a:Act}{w:World}{e:Env Γ.St}
theorem zWY{w:World}{F:Blk->Prop}(u:Value)(h:Rd w F u .bot):False:=by cases h
theorem qFT(hS:qK Γ P G S)(hi:Inv Γ G w0 F0 O0 a w e){dst:Option Tmp}{c:Call}{type:TypeId}{pos:String}{after:Array Edge}{guard:Option (Nat×Bool)}
  {f:Operand} {g:FuncId} {p id:Nat} {xs:List Operand} {t:Ty} {ys zs:List t.El} {ds:List V} {st':Γ.St} {d:V}
  (hcal:c.callee=.value f) (hf:evx G e f=.p (.clo g [])) (hcargs:c.args.toList=.tmp p::xs) (hp:e.get p=.ot id t ys) (hxs:yU G e xs=Sa ds)
  (hlens:qED (zLz id p ys.length 0 e.tm)=Sb) (hdb:d=.bot->False) (hsp:S g e.st (.bot:: .tl t ys::ds)=Sa (st',.p (.tup [.tl t zs,d]))) {Q:Exit->Act->World->Prop} :
  (⟨dst,.call c,type,pos,after,guard⟩:Oper).wp P a w (fun a' w'=>Inv Γ G w0 F0 O0 a' w' (qDk e id p t zs st' dst d)) Q:=by
 obtain⟨F,O,β,hc,hG,hsz,hdf,ht,hv⟩:=hi;obtain⟨hbor,fn,hfn,hbody,hname⟩:=hS.bor g e.st t ys ds st' zs d hsp;have hops:∀x,zY w F β (zT e) (a.eval x) (evx G e x):=fun x=>uS hG ht x;have hf0:=hops f;rw[hf]at hf0;have hx0:=ht p;rw[hp]at hx0
 have hplt:p<e.tm.length:=by
  grind[Nat.lt_or_ge,List.getElem?_eq_none,Env.get]
 obtain⟨hlen,hargs⟩:=zC8 (a:=a) xs ds (fun x _=>hops x) hxs
 have hrun:(execOp a.eval ⟨dst,.call c,type,pos,after,guard⟩).run P w=.ok (.enter g (c.args.map a.eval)) w:=by
  have hf1:Rd w F (a.eval f) (.clo g []):=hf0;generalize hev:a.eval f=fv at hf1
  cases hf1 with
  |clo _ cv _ hl hcap=>
   have hcv:cv= #[]:=by simpa using hl
   subst hcv;have hb:¬fn.body=none:=by grind
   have hname' : ¬ fn.name = "runtime.NumGoroutine" := by simpa using hname
   simp[execOp,resolve,hcal,hev,Ae,invoke,callFunc,hfn,hname',hb]
 have hnp:zCk ds=none:=zJK (fun r hr=>by
  cases xs with
  |nil=>grind
  |cons x xs'=>exact zWY _ (hargs 0 (a.eval x) .bot (by simp) (by rw[hr];rfl)))
 have hcs:c.args=(.tmp p::xs).toArray:=by grind
 have hsize:(c.args.map a.eval).size=ds.length+1:=by grind
 have ha0:(c.args.map a.eval)[0]?=Sa (a.tmps.getD p undef):=by grind[Act.eval]
 have hown:zB8 w F ⟨fun _=>β.ob id,fun _=>β.ob id⟩ (fun _=>True) (a.tmps.getD p undef) 0 t.size (ys.map t.enc):=by
  rcases hx0 with h|⟨h0,_,h⟩
  .exact .inl h
  .exact .inr ⟨h0,trivial,h⟩
 have hal0:ys≠[]->zT e (.o id):=by
  intro h0;rcases hx0 with⟨h,_⟩|⟨_,h,_⟩
  all_goals simp_all
 have hcall:=(hbor.row hnp) w F O (β.ob id) (a.tmps.getD p undef) (c.args.map a.eval) hc.sig hG (fun b hb=>(hc.fin b hb).2) hown
  (fun h0=>⟨(hc.place _ (hal0 h0)).2.1,(hc.place _ (hal0 h0)).2.2.1,(hc.place _ (hal0 h0)).2.2.2⟩) hsize ha0
  (fun i x y hi hd=>hargs i x y (by grind) hd)
 unfold Oper.wp;rw[hrun];refine hcall.mono ?_;rintro ex w' ⟨v,F',O',rfl,g1,g2,g3,g4,g5,g67⟩;obtain⟨g6,g7⟩:=g67.out hdb;have hkb:∀b,b<w.heap.size->¬O b->(ys≠[]->b≠β.ob id)->w'.heap[b]?=w.heap[b]? :=fun b hb ho hne=>g2.block b hb (fun h=>h.elim ho (fun h=>hne h.1 h.2));have hne:∀x,zT e x->x≠ .o id->ys≠[]->β.blk x≠β.ob id:=fun x hx hxi h0 hh=>hxi (hc.dist x (.o id) hx (hal0 h0) hh)
 have hO':∀b,b<w.heap.size->¬O b->¬O' b:=fun b hb ho h=>by
  grind
 have hF':∀b:Nat,b<w.heap.size->¬F b->¬F' b:=fun b hb hf h=>by
  grind
 have hext:Ext w F β (alo id (zT e)) w' F' β (zT e):=
  ⟨g4.1,fun b hb=>hkb b (hc.fin b hb).2.1 (hc.fin b hb).2.2 (fun h0 hh=>(hc.place _ (hal0 h0)).2.2.1 (by rw[hh]at hb;exact hb)),fun x hx=>hx.1,fun _ _=>rfl,
   fun x hx=>hkb _ (hc.place x hx.1).2.1 (hc.place x hx.1).2.2.2 (hne x hx.1 hx.2)⟩
 have hcore:zDx Γ w0 F0 O0 w' F' O' β (zT e) st':=by
  refine⟨⟨g2.os.trans hc.keep.os,g2.tape.trans hc.keep.tape,g2.output.trans hc.keep.output,aj hc.keep.size g2.size,?_,aj hc.keep.drawn g2.drawn⟩,g1,?_,?_,hc.f0.trans g4 hc.keep.size,?_,hc.dist,?_⟩
  .intro b hb ho
   rw[hkb b (by have:=hc.keep.size;omega) (fun h=>by
    rcases hc.oin b h with h|h
    .exact ho (.inl h)
    .omega) (fun h0 hh=>ho ((hc.place _ (hal0 h0)).1.old (by show β.ob id<_;omega)|>fun h=>by rw[hh];exact h))]
   exact hc.keep.block b hb ho
  .intro b hb;rcases g3 b hb with h|h
   .exact hc.oin b h
   .exact .inr (aj hc.keep.size h)
  .intro b hb;obtain⟨h1,h2,h3⟩:=g5 b hb;refine⟨?_,h2,h3⟩;rcases h1 with h|h
   .exact(hc.fin b h).1
   .exact .inr (aj hc.keep.size h)
  .intro x hx;obtain⟨k1,k2,k3,k4⟩:=hc.place x hx;exact⟨k1,az k2 g2.size,hF' _ k2 k3,hO' _ k2 k4⟩
  .intro b n hb;obtain⟨h1,h2,h3,cc,et,fl,h4,h5⟩:=hc.lent b n hb;have hbw:b<w.heap.size:=by grind
   refine⟨h1,hO' b hbw h2,hF' b hbw h3,?_⟩;by_cases hbi:ys≠[]/\b=β.ob id
   .obtain⟨hy,rfl⟩:=hbi;rcases hown with⟨hh,_⟩|⟨_,_,cap,hv0,c0,et0,r1,r2,_⟩
    .exact absurd (by simpa using hh) hy
    .rw[r1]at h4;simp at h4;obtain⟨rfl,_,_⟩:=h4;rcases g6 with⟨hh,a0,hv1⟩|⟨_,_,cap1,hv1,c1,et1,q1,q2,_⟩
     all_goals grind
   grind
 have hnew:zY w' F' β (zT e) (a.tmps.getD p undef) (.ot id t zs):=by
  rcases g6 with h|⟨h0,_,cap,hv0,hr⟩
  .exact .inl h
  .refine .inr ⟨h0,hal0 ?_,cap,hv0,hr⟩;intro hy;subst hy;rcases hown with⟨_,a0,h1⟩|⟨h1,_⟩
   all_goals grind
 have hzl:zs.length=ys.length:=by
  have l1:∀(w:World) (F:Blk->Prop) (us:List t.El),zB8 w F ⟨fun _=>β.ob id,fun _=>β.ob id⟩ (fun _=>True) (a.tmps.getD p undef) 0 t.size (us.map t.enc)->∃ad c,a.tmps.getD p undef=.slice ad us.length c:=by
   intro w F us h;rcases h with⟨h0,a0,h1⟩|⟨_,_,cap,h1,_⟩
   .have hu0:us=[]:=by simpa using h0
    grind
   grind
  grind
 have hother:∀q (us:List t.El),e.get q=.ot id t us->us.length=ys.length->zY w' F' β (zT e) (a.tmps.getD q undef) (.ot id t zs):=by
  intro q us hq hul;have hTq:=ht q;rw[hq]at hTq;rcases hTq with⟨h0,a0,h1⟩|⟨h0,hal,cap1,h1,c1,et1,k1,k2,k3,_⟩
  .have hu0:us=[]:=by simpa using h0
   subst hu0;have hz0:zs=[]:=aJ (by grind);subst hz0;exact .inl ⟨rfl,a0,h1⟩
  .have hy0:ys≠[]:=fun hh=>h0 (by grind);rcases hown with⟨hh,_⟩|⟨_,_,cap,hv0,c0,et0,r1,r2,_⟩
   .exact absurd (by simpa using hh) hy0
   .rcases g6 with⟨hh,_⟩|⟨hz0,_,cap2,hv1,c2,et2,q1,q2,q3,q4,q5⟩
    .grind
    .rw[hv0]at hv1;simp only[Value.slice.injEq]at hv1;rw[r1]at k1;simp only[ac,Obj.cells.injEq]at k1;obtain⟨rfl,_,_⟩:=k1;refine .inr ⟨hz0,hal,cap1,?_,c2,et2,q1,?_,?_,q4,q5⟩;all_goals grind
 have hlen1:((e.tm.map (zLI id t zs)).set p (.ot id t zs)).length=e.tm.length:=by simp
 have vA:∀t',zY w' F' β (zT e) (a.tmps.getD t' undef) ((⟨(e.tm.map (zLI id t zs)).set p (.ot id t zs),e.vars.map (fun c=>c.map (Ab (qI id))),st'⟩:Env Γ.St).get t'):=by
  intro q
  have h1:(⟨(e.tm.map (zLI id t zs)).set p (.ot id t zs),e.vars.map (fun c=>c.map (Ab (qI id))),st'⟩:Env Γ.St).get q=if q=p then .ot id t zs else zLI id t zs (e.get q):=by
   simp only[Env.get,ba,List.getElem?_set];split
   .grind
   .rename_i hpq;rw[if_neg (fun hh=>hpq hh.symm),aA]
    grind[zLI,qI]
  rw[h1];split
  .grind
  .rename_i hqp;have hkill:zY w' F' β (zT e) (a.tmps.getD q undef) (qI id (e.get q)):=(ht q).killO.ext hext
   cases hx:e.get q with
   |ot i t' us=>
    rw[hx]at hkill;simp only[zLI];split
    .rename_i hi;subst hi;split
     .rename_i htt;subst htt;refine hother q us hx ?_;refine zT4 (zYg hlens) q t' us ?_ (by simpa using hqp)
      grind[Env.get]
     .trivial
    .rename_i hi;simp only[qI,if_neg hi]at hkill;exact hkill
   |_=>rw[hx]at hkill;exact hkill
 refine Inv.of (al:=zT e) (F:=F') (O:=O') (β:=β) ?_ (hG.ext hext) ?_ ?_ ?_ ?_ ?_
 .cases dst<;>exact hcore
 .cases dst<;>simp[qDk,Env.put,Act.put,hsz]
 .cases dst<;>exact hdf
 .intro t'
  cases dst with
  |none=>exact vA t'
  |some q=>
   have h1:(qDk e id p t zs st' (Sa q) d).get t'=if t'=q/\q< ((e.tm.map (zLI id t zs)).set p (.ot id t zs)).length then .p d else(⟨(e.tm.map (zLI id t zs)).set p (.ot id t zs),e.vars.map (fun c=>c.map (Ab (qI id))),st'⟩:Env Γ.St).get t':=yZ (⟨(e.tm.map (zLI id t zs)).set p (.ot id t zs),e.vars.map (fun c=>c.map (Ab (qI id))),st'⟩:Env Γ.St) q t' (.p d)
   rw[zBb,h1,hlen1,hsz];split
   .exact g7
   .exact vA t'
 .intro s cs hcs;have hcs':(e.mapT (qI id)).var s=Sa cs:=by cases dst<;>exact hcs
  rw[jF]at hcs';simp at hcs';obtain⟨cs0,hcs0,rfl⟩:=hcs';have ha:zT e (.v s):=⟨cs0,hcs0⟩
  refine⟨ha,?_⟩;obtain⟨c0,et,q1,q2,q3⟩:=hv s cs0 hcs0;refine⟨c0,et,(hext.ha (.v s) ⟨ha,by simp⟩).trans q1,by simpa using q2,?_⟩;intro i x y hi hy;simp at hy;obtain⟨y0,hy0,rfl⟩:=hy;exact(q3 i x y0 hi hy0).killO.ext hext
 .rintro s ⟨cs,hcs⟩;refine⟨cs.map (qI id),?_⟩;have:(e.mapT (qI id)).var s=Sa (cs.map (qI id)):=by rw[jF,hcs];rfl
  cases dst<;>exact this
def zLW{St:Type}(G:Nat->Option (List V))(e:Env St):List Operand->Option (Nat×Nat×List Operand)
 |[]=>Sc
 |x::r=>match evx G e x with
  |.lp s 0=>Sa (0,s,r)
  |_=>match zLW G e r with
   |some (k,s,c)=>Sa (k+1,s,x::c)
   |none=>Sc
theorem zM3{St:Type}{G:Nat->Option (List V)}{e:Env St}:∀{l:List Operand} {k s:Nat} {r:List Operand},zLW G e l=Sa (k,s,r)->
  k<=r.length/\l.length=r.length+1/\(∃x,l[k]?=Sa x/\evx G e x=.lp s 0)/\∀(i:Nat) (x:Operand),r[i]?=Sa x->l[if i<k then i else i+1]?=Sa x
 |[],_,_,_,h=>by simp[zLW]at h
 |x::d,k,s,r,h=>by
  simp only[zLW]at h;split at h
  .grind
  .split at h
   .rename_i f g j c;simp at h;obtain⟨rfl,rfl,rfl⟩:=h;obtain⟨m,n,⟨y,p,q⟩,t⟩:=zM3 c
    grind
   .cases h
def zL8:List T->Option (List V)
 |[]=>Sa []
 |.p d::r=>match zL8 r with
  |some c=>Sa (d::c)
  |none=>Sc
 |_=>Sc
theorem zNl:∀{cs:List T} {vs:List V},zL8 cs=Sa vs->cs=vs.map T.p
 |[],vs,h=>by grind[zL8]
 |x::r,vs,h=>by
  cases x with
  |p d=>
   simp only[zL8]at h;split at h
   .rename_i f c;simp only[ac]at h;subst h;rw[List.map_cons,<-zNl c]
   .cases h
  |_=>simp[zL8]at h
def qDh{St:Type}(e:Env St)(s:Nat)(t:Ty)(z:t.El)(st:St)(c:Option Tmp)(d:V):Env St:=
 (⟨e.tm,e.vars.set s (Sa ((t.cells z).map T.p)),st⟩:Env St).put c (.p d)
theorem zY.extV{w w':World}{F F':Blk->Prop}{β:Lay}{al:v6->Prop}{v:Value}{x:T}{s:Nat}(h:Ext w F β (fun y=>al y/\y≠ .v s) w' F' β al)(hx:zY w F β al v x):zY w' F' β al v x:=by
 cases x with
 |lp q c=>exact hx
 |p d=>exact zY.ext (x:=.p d) h hx
 |ow id k g=>exact zY.ext (x:=.ow id k g) h ⟨⟨hx.1,by simp⟩,hx.2⟩
 |oe id k g i c=>exact zY.ext (x:=.oe id k g i c) h ⟨⟨hx.1,by simp⟩,hx.2⟩
 |mp id g l=>exact zY.ext (x:=.mp id g l) h ⟨⟨hx.1,by simp⟩,hx.2⟩
 |ot id t xs=>
  refine zY.ext (x:=.ot id t xs) h ?_;rcases hx with f|⟨f,ha,j⟩
  .exact .inl f
  .exact .inr ⟨f,⟨ha,by simp⟩,j⟩
 |oet id t xs i c=>exact zY.ext (x:=.oet id t xs i c) h ⟨⟨hx.1,by simp⟩,hx.2⟩
 |ov id t xs lo m=>
  refine zY.ext (x:=.ov id t xs lo m) h ?_;rcases hx with f|⟨f,ha,j⟩
  .exact .inl f
  .exact .inr ⟨f,⟨ha,by simp⟩,j⟩
 |on n=>exact zY.ext (x:=.on n) h ⟨⟨hx.1,by simp⟩,⟨hx.2.1,by simp⟩,hx.2.2⟩
 |emp=>exact hx
 |dead=>trivial
theorem qFm(hS:qK Γ P G S)(hi:Inv Γ G w0 F0 O0 a w e){dst:Option Tmp}{c:Call}{type:TypeId}{pos:String}{after:Array Edge}{guard:Option (Nat×Bool)}
  {f:Operand} {g:FuncId} {k s:Nat} {xs:List Operand} {cs:List T} {vs:List V} {t:Ty} {y z:t.El} {ds:List V} {st':Γ.St} {d:V}
  (hcal:c.callee=.value f) (hf:evx G e f=.p (.clo g [])) (hspl:zLW G e c.args.toList=Sa (k,s,xs)) (hxs:yU G e xs=Sa ds)
  (hcs:e.var s=Sa cs) (hvs:zL8 cs=Sa vs) (hy:t.dec (.agg vs)=Sa y)
  (hsp:S g e.st (.bot:: .tl t [y]:: .bot:: .val (.int .i64 (k:Int))::ds)=Sa (st',.p (.tup [.tl t [z],d]))) {Q:Exit->Act->World->Prop} :
  (⟨dst,.call c,type,pos,after,guard⟩:Oper).wp P a w (fun a' w'=>Inv Γ G w0 F0 O0 a' w' (qDh e s t z st' dst d)) Q:=by
 obtain⟨F,O,β,hc,hG,hsz,hdf,ht,hv⟩:=hi;obtain⟨hbor,fn,hfn,hbody,hname⟩:=hS.bor g e.st t [y] (.bot:: .val (.int .i64 (k:Int))::ds) st' [z] d hsp;have hptr:qA2 Γ P G g e.st t k [y] ds st' [z] d:=hbor;have hops:∀x,zY w F β (zT e) (a.eval x) (evx G e x):=fun x=>uS hG ht x;have hf0:=hops f;rw[hf]at hf0;obtain⟨s1,s2,⟨x0,s3,s4⟩,s5⟩:=zM3 hspl;have hx0:=hops x0;rw[s4]at hx0;obtain⟨hal,hpv⟩:=hx0;obtain⟨hlen,hargs⟩:=zC8 (a:=a) xs ds (fun x _=>hops x) hxs
 have hrun:(execOp a.eval ⟨dst,.call c,type,pos,after,guard⟩).run P w=.ok (.enter g (c.args.map a.eval)) w:=by
  have hf1:Rd w F (a.eval f) (.clo g []):=hf0;generalize hev:a.eval f=fv at hf1
  cases hf1 with
  |clo _ cv _ hl hcap=>
   have hcv:cv= #[]:=by simpa using hl
   subst hcv;have hb:¬fn.body=none:=by grind
   have hname' : ¬ fn.name = "runtime.NumGoroutine" := by simpa using hname
   simp[execOp,resolve,hcal,hev,Ae,invoke,callFunc,hfn,hname',hb]
 have hsize:(c.args.map a.eval).size=ds.length+1:=by grind
 have hat:∀(i:Nat) (x:Operand),c.args.toList[i]?=Sa x->(c.args.map a.eval)[i]?=Sa (a.eval x):=by
  grind
 have hak:(c.args.map a.eval)[k]?=Sa (.pointer (Sa ⟨β.vb s,0,Sc⟩)):=by grind
 have hrest:∀(i:Nat) (x:Value) (d:V),(c.args.map a.eval)[if i<k then i else i+1]?=Sa x->ds[i]?=Sa d->Rd w F x d:=by
  grind
 obtain⟨c0,et,q1,q2,q3⟩:=hv s cs hcs;have hcv:=zNl hvs;subst hcv;have hws:kW vs (t.enc y).cells:=zPi hy
 have hrow:qP w F (β.vb s) t.size 1 ([y].map t.enc):=by
  refine⟨c0,et,q1,?_,by simp,?_,?_⟩
  .rw[q2,aK,hws.len,wZ];simp
  .grind[List.mem_singleton,wZ]
  .intro i j e0 d0 x h1 h2 h3
   cases i with
   |succ i=>simp at h1
   |zero=>
    cases h1;have hlt:j<vs.length:=by grind
    have h4:vs[j]?=Sa vs[j]:=by simp[hlt]
    have h5:Rd w F x vs[j]:=q3 j x (.p vs[j]) (by simpa using h3) (by grind);exact hws.get j _ d0 h4 h2 w F x h5
 obtain⟨p1,p2,p3,p4⟩:=hc.place (.v s) hal;have hcall:=hptr w F O (β.vb s) 1 (c.args.map a.eval) hc.sig hG (fun b hb=>(hc.fin b hb).2) hrow rfl ⟨p2,p3,p4⟩ hsize (by omega) hak hrest;unfold Oper.wp;rw[hrun];refine hcall.mono ?_;rintro ex w' ⟨v,F',O',rfl,g1,g2,g3,g4,g5,g6,_,g7⟩;have hkb:∀b,b<w.heap.size->¬O b->b≠β.vb s->w'.heap[b]?=w.heap[b]? :=fun b hb ho hne=>g2.block b hb (fun h=>h.elim ho hne);have hne:∀x,zT e x->x≠ .v s->β.blk x≠β.vb s:=fun x hx hxi hh=>hxi (hc.dist x (.v s) hx hal hh);have hnew0:w0.heap.size<=β.vb s:=p1.v
 have hO':∀b,b<w.heap.size->¬O b->¬O' b:=fun b hb ho h=>by
  grind
 have hF':∀b:Nat,b<w.heap.size->¬F b->¬F' b:=fun b hb hf h=>by
  grind
 have hext:Ext w F β (fun x=>zT e x/\x≠ .v s) w' F' β (zT e):=
  ⟨g4.1,fun b hb=>hkb b (hc.fin b hb).2.1 (hc.fin b hb).2.2 (fun hh=>p3 (by rw[hh]at hb;exact hb)),fun x hx=>hx.1,fun _ _=>rfl,
   fun x hx=>hkb _ (hc.place x hx.1).2.1 (hc.place x hx.1).2.2.2 (hne x hx.1 hx.2)⟩
 have hext0:Ext w F β (fun _=>False) w' F' β (fun _=>False):=
  ⟨g4.1,hext.hf,fun x hx=>hx,fun _ _=>rfl,fun x hx=>hx.elim⟩
 have hcore:zDx Γ w0 F0 O0 w' F' O' β (zT e) st':=by
  refine⟨⟨g2.os.trans hc.keep.os,g2.tape.trans hc.keep.tape,g2.output.trans hc.keep.output,aj hc.keep.size g2.size,?_,aj hc.keep.drawn g2.drawn⟩,g1,?_,?_,hc.f0.trans g4 hc.keep.size,?_,hc.dist,?_⟩
  .intro b hb ho
   rw[hkb b (by grind) (fun h=>by
    rcases hc.oin b h with h|h
    .exact ho (.inl h)
    .omega) (fun hh=>by omega)]
   exact hc.keep.block b hb ho
  .intro b hb;rcases g3 b hb with h|h
   .exact hc.oin b h
   grind
  .intro b hb;obtain⟨h1,h2,h3⟩:=g5 b hb;refine⟨?_,h2,h3⟩;rcases h1 with h|h
   .exact(hc.fin b h).1
   grind
  .intro x hx;obtain⟨k1,k2,k3,k4⟩:=hc.place x hx;exact⟨k1,az k2 g2.size,hF' _ k2 k3,hO' _ k2 k4⟩
  .intro b n hb;obtain⟨h1,h2,h3,cc,et,fl,h4,h5⟩:=hc.lent b n hb
   grind
 have hsl:s<e.vars.length:=by
  grind[Nat.lt_or_ge,List.getElem?_eq_none,Env.var]
 have hvar:∀s',(⟨e.tm,e.vars.set s (Sa ((t.cells z).map T.p)),st'⟩:Env Γ.St).var s'=if s'=s then Sa ((t.cells z).map T.p)else e.var s':=by
  intro s';simp only[Env.var]
  grind
 have vA:∀t',zY w' F' β (zT e) (a.tmps.getD t' undef) (e.get t'):=fun t'=>(ht t').extV hext;refine Inv.of (al:=zT e) (F:=F') (O:=O') (β:=β) ?_ (hG.ext hext0) ?_ ?_ ?_ ?_ ?_
 .cases dst<;>exact hcore
 .cases dst<;>simp[qDh,Env.put,Act.put,hsz]
 .cases dst<;>exact hdf
 .intro t'
  cases dst with
  |none=>exact vA t'
  |some q=>
   have h1:(qDh e s t z st' (Sa q) d).get t'=if t'=q/\q<e.tm.length then .p d else e.get t':=yZ (⟨e.tm,e.vars.set s (Sa ((t.cells z).map T.p)),st'⟩:Env Γ.St) q t' (.p d)
   rw[zBb,h1,hsz];split
   .exact g7
   .exact vA t'
 .intro s' cs' hcs';have hcs2:(⟨e.tm,e.vars.set s (Sa ((t.cells z).map T.p)),st'⟩:Env Γ.St).var s'=Sa cs':=by cases dst<;>exact hcs'
  rw[hvar]at hcs2;split at hcs2
  .rename_i hss;subst hss;cases hcs2;obtain⟨c1,et1,k1,k2,k3,k4,k5⟩:=g6;refine⟨hal,c1,et1,k1,?_,?_⟩
   .rw[k2,aK,kQ];simp
   .intro i x y0 hx hy0;simp at hy0;obtain⟨d0,hd0,rfl⟩:=hy0;exact k5 0 i (t.enc z) d0 x rfl (by grind[jM]) (by simpa using hx)
  .rename_i hss;have ha':zT e (.v s'):=⟨cs',hcs2⟩
   refine⟨ha',?_⟩;obtain⟨c',et',r1,r2,r3⟩:=hv s' cs' hcs2;exact⟨c',et',(hext.ha (.v s') ⟨ha',by simpa using hss⟩).trans r1,r2,fun i u y0 hu hy0=>(r3 i u y0 hu hy0).extV hext⟩
 .rintro s' ⟨cs',hcs'⟩;by_cases hss:s'=s
  .refine⟨(t.cells z).map T.p,?_⟩;have:=hvar s';rw[if_pos hss]at this;cases dst<;>exact this
  .refine⟨cs',?_⟩;have:=hvar s';rw[if_neg hss,hcs']at this;cases dst<;>exact this
theorem qDF(hS:qK Γ P G S)(hi:Inv Γ G w0 F0 O0 a w e){dst:Option Tmp}{c:Call}{type:TypeId}{pos:String}{after:Array Edge}{guard:Option (Nat×Bool)}
  {f:Operand} {g:FuncId} {p id:Nat} {xs:List Operand} {t:Ty} {ys zs:List t.El} {ds:List V} {st':Γ.St}
  (hcal:c.callee=.value f) (hf:evx G e f=.p (.clo g [])) (hcargs:c.args.toList=.tmp p::xs) (hp:e.get p=.ot id t ys) (hxs:yU G e xs=Sa ds)
  (hid:id≠jV) (hsp:S g e.st (.bot:: .tl t ys::ds)=Sa (st',.p (.tup [.tl t zs,.bot]))) {Q:Exit->Act->World->Prop} :
  (⟨dst,.call c,type,pos,after,guard⟩:Oper).wp P a w (fun a' w'=>Inv Γ G w0 F0 O0 a' w' (qDi e id t zs st' dst)) Q:=by
 obtain⟨F,O,β,hc,hG,hsz,hdf,ht,hv⟩:=hi;obtain⟨hbor,fn,hfn,hbody,hname⟩:=hS.bor g e.st t ys ds st' zs .bot hsp;have hops:∀x,zY w F β (zT e) (a.eval x) (evx G e x):=fun x=>uS hG ht x;have hf0:=hops f;rw[hf]at hf0;have hx0:=ht p;rw[hp]at hx0;obtain⟨hlen,hargs⟩:=zC8 (a:=a) xs ds (fun x _=>hops x) hxs
 have hrun:(execOp a.eval ⟨dst,.call c,type,pos,after,guard⟩).run P w=.ok (.enter g (c.args.map a.eval)) w:=by
  have hf1:Rd w F (a.eval f) (.clo g []):=hf0;generalize hev:a.eval f=fv at hf1
  cases hf1 with
  |clo _ cv _ hl hcap=>
   have hcv:cv= #[]:=by simpa using hl
   subst hcv;have hb:¬fn.body=none:=by grind
   have hname' : ¬ fn.name = "runtime.NumGoroutine" := by simpa using hname
   simp[execOp,resolve,hcal,hev,Ae,invoke,callFunc,hfn,hname',hb]
 have hnp:zCk ds=none:=zJK (fun r hr=>by
  cases xs with
  |nil=>grind
  |cons x xs'=>exact zWY _ (hargs 0 (a.eval x) .bot (by simp) (by rw[hr];rfl)))
 have hcs:c.args=(.tmp p::xs).toArray:=by grind
 have hsize:(c.args.map a.eval).size=ds.length+1:=by grind
 have ha0:(c.args.map a.eval)[0]?=Sa (a.tmps.getD p undef):=by grind[Act.eval]
 have hown:zB8 w F ⟨fun _=>β.ob id,fun _=>β.ob id⟩ (fun _=>True) (a.tmps.getD p undef) 0 t.size (ys.map t.enc):=by
  rcases hx0 with h|⟨h0,_,h⟩
  .exact .inl h
  .exact .inr ⟨h0,trivial,h⟩
 have hal0:ys≠[]->zT e (.o id):=by
  intro h0;rcases hx0 with⟨h,_⟩|⟨_,h,_⟩
  all_goals simp_all
 have hcall:=(hbor.row hnp) w F O (β.ob id) (a.tmps.getD p undef) (c.args.map a.eval) hc.sig hG (fun b hb=>(hc.fin b hb).2) hown
  (fun h0=>⟨(hc.place _ (hal0 h0)).2.1,(hc.place _ (hal0 h0)).2.2.1,(hc.place _ (hal0 h0)).2.2.2⟩) hsize ha0
  (fun i x y hi hd=>hargs i x y (by grind) hd)
 unfold Oper.wp;rw[hrun];refine hcall.mono ?_;rintro ex w' ⟨v,F',O',rfl,g1,g2,g3,g4,g5,b',g7,g6⟩;have hkb:∀b,b<w.heap.size->¬O b->(ys≠[]->b≠β.ob id)->w'.heap[b]?=w.heap[b]? :=fun b hb ho hne=>g2.block b hb (fun h=>h.elim ho (fun h=>hne h.1 h.2));have hne:∀x,zT e x->x≠ .o id->ys≠[]->β.blk x≠β.ob id:=fun x hx hxi h0 hh=>hxi (hc.dist x (.o id) hx (hal0 h0) hh);have hnew0:ys≠[]->w0.heap.size<=β.ob id:=fun h0=>(hc.place _ (hal0 h0)).1.o hid
 have hO':∀b,b<w.heap.size->¬O b->¬O' b:=fun b hb ho h=>by
  grind
 have hF':∀b:Nat,b<w.heap.size->¬F b->¬F' b:=fun b hb hf h=>by
  grind
 have hext:Ext w F β (alo id (zT e)) w' F' β (zT e):=
  ⟨g4.1,fun b hb=>hkb b (hc.fin b hb).2.1 (hc.fin b hb).2.2 (fun h0 hh=>(hc.place _ (hal0 h0)).2.2.1 (by rw[hh]at hb;exact hb)),fun x hx=>hx.1,fun _ _=>rfl,
   fun x hx=>hkb _ (hc.place x hx.1).2.1 (hc.place x hx.1).2.2.2 (hne x hx.1 hx.2)⟩
 have hcore:zDx Γ w0 F0 O0 w' F' O' β (zT e) st':=by
  refine⟨⟨g2.os.trans hc.keep.os,g2.tape.trans hc.keep.tape,g2.output.trans hc.keep.output,aj hc.keep.size g2.size,?_,aj hc.keep.drawn g2.drawn⟩,g1,?_,?_,hc.f0.trans g4 hc.keep.size,?_,hc.dist,?_⟩
  .intro b hb ho
   rw[hkb b (by have:=hc.keep.size;omega) (fun h=>by
    rcases hc.oin b h with h|h
    .exact ho (.inl h)
    .omega) (fun h0 hh=>by grind)]
   exact hc.keep.block b hb ho
  .intro b hb;rcases g3 b hb with h|h
   .exact hc.oin b h
   .exact .inr (aj hc.keep.size h)
  .intro b hb;obtain⟨h1,h2,h3⟩:=g5 b hb;refine⟨?_,h2,h3⟩;rcases h1 with h|h
   .exact(hc.fin b h).1
   .exact .inr (aj hc.keep.size h)
  .intro x hx;obtain⟨k1,k2,k3,k4⟩:=hc.place x hx;exact⟨k1,az k2 g2.size,hF' _ k2 k3,hO' _ k2 k4⟩
  .intro b n hb;obtain⟨h1,h2,h3,cc,et,fl,h4,h5⟩:=hc.lent b n hb
   grind
 have hboth:∃(β':Lay) (al':v6->Prop),Ext w F β (alo id (zT e)) w' F' β' al'/\zDx Γ w0 F0 O0 w' F' O' β' al' st'/\zY w' F' β' al' v (.ot id t zs)/\(∀s,al' (.v s)↔zT e (.v s))/\β'.vb=β.vb:=by
  rcases g7 with⟨rfl,g7⟩|⟨k1,k2,k3,k4⟩
  .refine⟨β,zT e,hext,hcore,?_,fun _=>cI,rfl⟩;rcases g6 with h|⟨h0,_,cap,hv0,hr⟩
   .exact .inl h
   .exact .inr ⟨h0,hal0 (fun hy=>h0 (by rw[g7 hy];rfl)),cap,hv0,hr⟩
  .let β':Lay:= { β with ob:=fun i=>if i=id then b' else β.ob i }
   have hb:∀x,x≠ .o id->β'.blk x=β.blk x:=by
    intro x hx
    cases x with
    |v s=>rfl
    |o i=>
     grind[id,Lay.blk]
   have hb0:β'.blk (.o id)=b':=by simp[Lay.blk,β']
   refine⟨β',fun x=>(zT e x/\x≠ .o id)\/x=.o id,⟨hext.f,hext.hf,fun x hx=>.inl hx,fun x hx=>hb x hx.2,hext.ha⟩,⟨hcore.keep,hcore.sig,hcore.oin,hcore.fin,hcore.f0,?_,?_,hcore.lent⟩,?_,?_,rfl⟩
   .rintro x (⟨hx,hne'⟩|rfl)
    .rw[hb x hne'];exact hcore.place x hx
    .rw[hb0];exact⟨.inl ⟨fun h=>hid (by injection h),aj hc.keep.size k1⟩,k2,k3,k4⟩
   .rintro x y (⟨hx,hnx⟩|rfl) (⟨hy,hny⟩|rfl) h
    .rw[hb x hnx,hb y hny]at h;exact hc.dist x y hx hy h
    .rw[hb x hnx,hb0]at h;have:=(hc.place x hx).2.1;omega
    .rw[hb0,hb y hny]at h;have:=(hc.place y hy).2.1;omega
    .rfl
   .have hob:β'.ob id=b':=hb0;rcases g6 with h|⟨h0,_,cap,hv0,hr⟩
    .exact .inl h
    .refine .inr ⟨h0,.inr rfl,cap,?_,?_⟩;all_goals grind
   grind
 obtain⟨β',al',hext,hcore,hnew,hals,hvb⟩:=hboth;have vA:∀t',zY w' F' β' al' (a.tmps.getD t' undef) ((e.mapT (qI id)).get t'):=by intro q;rw[vN rfl];exact(ht q).killO.ext hext
 refine Inv.of (al:=al') (F:=F') (O:=O') (β:=β') ?_ (hG.ext hext) ?_ ?_ ?_ ?_ ?_
 .cases dst<;>exact hcore
 .cases dst<;>simp[qDi,Env.put,Act.put,hsz]
 .cases dst<;>exact hdf
 .intro t'
  cases dst with
  |none=>exact vA t'
  |some q=>
   have h1:(qDi e id t zs st' (Sa q)).get t'=if t'=q/\q< (e.tm.map (qI id)).length then .ot id t zs else(e.mapT (qI id)).get t':=yZ (⟨e.tm.map (qI id),e.vars.map (fun c=>c.map (Ab (qI id))),st'⟩:Env Γ.St) q t' (.ot id t zs)
   grind[zBb,List.length_map]
 .intro s cs hcs;have hcs':(e.mapT (qI id)).var s=Sa cs:=by cases dst<;>exact hcs
  rw[jF]at hcs';simp at hcs';obtain⟨cs0,hcs0,rfl⟩:=hcs';have ha:zT e (.v s):=⟨cs0,hcs0⟩
  refine⟨(hals s).2 ha,?_⟩;obtain⟨c0,et,q1,q2,q3⟩:=hv s cs0 hcs0;rw[hvb];refine⟨c0,et,(hext.ha (.v s) ⟨ha,by simp⟩).trans q1,by simpa using q2,?_⟩;intro i x y hi hy;simp at hy;obtain⟨y0,hy0,rfl⟩:=hy;exact(q3 i x y0 hi hy0).killO.ext hext
 .intro s hs;obtain⟨cs,hcs⟩:=(hals s).1 hs;refine⟨cs.map (qI id),?_⟩;have:(e.mapT (qI id)).var s=Sa (cs.map (qI id)):=by rw[jF,hcs];rfl
  cases dst<;>exact this
def zOw{St:Type}(G:Nat->Option (List V))(e:Env St):List Operand->Option (Nat×Nat×((t:Ty)×t.El)×List Operand)
 |[]=>Sc
 |x::r=>match evx G e x with
  |.oet id t [y] 0 0=>Sa (0,id,⟨t,y⟩,r)
  |_=>match zOw G e r with
   |some (k,id,q,c)=>Sa (k+1,id,q,x::c)
   |none=>Sc
theorem zM4{St:Type}{G:Nat->Option (List V)}{e:Env St}:∀{l:List Operand} {k id:Nat} {q:(t:Ty)×t.El} {r:List Operand},zOw G e l=Sa (k,id,q,r)->
  k<=r.length/\l.length=r.length+1/\(∃x,l[k]?=Sa x/\evx G e x=.oet id q.1 [q.2] 0 0)/\∀(i:Nat) (x:Operand),r[i]?=Sa x->l[if i<k then i else i+1]?=Sa x
 |[],_,_,_,_,h=>by simp[zOw]at h
 |x::d,k,s,q,r,h=>by
  simp only[zOw]at h;split at h
  .grind
  .split at h
   .rename_i f g j m c;simp at h;obtain⟨rfl,rfl,rfl,rfl⟩:=h;obtain⟨n,p,⟨y,u,z⟩,A⟩:=zM4 c
    grind
   .cases h
def zMV(id:Nat)(t:Ty)(z:t.El):T->T
 |.oet i d f j c=>if i=id then(if d=t/\j=0 then .oet id t [z] 0 c else .dead)else .oet i d f j c
 |x=>qI id x
def qDj{St:Type}(e:Env St)(id:Nat)(t:Ty)(z:t.El)(st:St)(f:Option Tmp)(d:V):Env St:=
 (⟨e.tm.map (zMV id t z),e.vars.map (fun c=>c.map (Ab (qI id))),st⟩:Env St).put f (.p d)
theorem qDn(hS:qK Γ P G S)(hi:Inv Γ G w0 F0 O0 a w e){dst:Option Tmp}{c:Call}{type:TypeId}{pos:String}{after:Array Edge}{guard:Option (Nat×Bool)}
  {f:Operand} {g:FuncId} {k id:Nat} {xs:List Operand} {t:Ty} {y z:t.El} {ds:List V} {st':Γ.St} {d:V}
  (hcal:c.callee=.value f) (hf:evx G e f=.p (.clo g [])) (hspl:zOw G e c.args.toList=Sa (k,id,⟨t,y⟩,xs)) (hxs:yU G e xs=Sa ds)
  (hsp:S g e.st (.bot:: .tl t [y]:: .bot:: .val (.int .i64 (k:Int))::ds)=Sa (st',.p (.tup [.tl t [z],d]))) {Q:Exit->Act->World->Prop} :
  (⟨dst,.call c,type,pos,after,guard⟩:Oper).wp P a w (fun a' w'=>Inv Γ G w0 F0 O0 a' w' (qDj e id t z st' dst d)) Q:=by
 obtain⟨F,O,β,hc,hG,hsz,hdf,ht,hv⟩:=hi;obtain⟨hbor,fn,hfn,hbody,hname⟩:=hS.bor g e.st t [y] (.bot:: .val (.int .i64 (k:Int))::ds) st' [z] d hsp;have hptr:qA2 Γ P G g e.st t k [y] ds st' [z] d:=hbor;have hops:∀x,zY w F β (zT e) (a.eval x) (evx G e x):=fun x=>uS hG ht x;have hf0:=hops f;rw[hf]at hf0;obtain⟨s1,s2,⟨x0,s3,s4⟩,s5⟩:=zM4 hspl;have hx0:=hops x0;rw[s4]at hx0;obtain⟨hal,_,cap,hpv,hrow⟩:=hx0;simp at hpv;obtain⟨hlen,hargs⟩:=zC8 (a:=a) xs ds (fun x _=>hops x) hxs
 have hrun:(execOp a.eval ⟨dst,.call c,type,pos,after,guard⟩).run P w=.ok (.enter g (c.args.map a.eval)) w:=by
  have hf1:Rd w F (a.eval f) (.clo g []):=hf0;generalize hev:a.eval f=fv at hf1
  cases hf1 with
  |clo _ cv _ hl hcap=>
   have hcv:cv= #[]:=by simpa using hl
   subst hcv;have hb:¬fn.body=none:=by grind
   have hname' : ¬ fn.name = "runtime.NumGoroutine" := by simpa using hname
   simp[execOp,resolve,hcal,hev,Ae,invoke,callFunc,hfn,hname',hb]
 have hsize:(c.args.map a.eval).size=ds.length+1:=by grind
 have hat:∀(i:Nat) (x:Operand),c.args.toList[i]?=Sa x->(c.args.map a.eval)[i]?=Sa (a.eval x):=by
  grind
 have hak:(c.args.map a.eval)[k]?=Sa (.pointer (Sa ⟨β.ob id,0,Sc⟩)):=by grind
 have hrest:∀(i:Nat) (x:Value) (d:V),(c.args.map a.eval)[if i<k then i else i+1]?=Sa x->ds[i]?=Sa d->Rd w F x d:=by
  grind
 obtain⟨p1,p2,p3,p4⟩:=hc.place (.o id) hal;have hcall:=hptr w F O (β.ob id) cap (c.args.map a.eval) hc.sig hG (fun b hb=>(hc.fin b hb).2) hrow rfl ⟨p2,p3,p4⟩ hsize (by omega) hak hrest;unfold Oper.wp;rw[hrun];refine hcall.mono ?_;rintro ex w' ⟨v,F',O',rfl,g1,g2,g3,g4,g5,g6,_,g7⟩;have hkb:∀b,b<w.heap.size->¬O b->b≠β.ob id->w'.heap[b]?=w.heap[b]? :=fun b hb ho hne=>g2.block b hb (fun h=>h.elim ho hne);have hne:∀x,zT e x->x≠ .o id->β.blk x≠β.ob id:=fun x hx hxi hh=>hxi (hc.dist x (.o id) hx hal hh)
 have hO':∀b,b<w.heap.size->¬O b->¬O' b:=fun b hb ho h=>by
  grind
 have hF':∀b:Nat,b<w.heap.size->¬F b->¬F' b:=fun b hb hf h=>by
  grind
 have hext:Ext w F β (alo id (zT e)) w' F' β (zT e):=
  ⟨g4.1,fun b hb=>hkb b (hc.fin b hb).2.1 (hc.fin b hb).2.2 (fun hh=>p3 (by show F (Blk.b (β.ob id));grind)),fun x hx=>hx.1,fun _ _=>rfl,
   fun x hx=>hkb _ (hc.place x hx.1).2.1 (hc.place x hx.1).2.2.2 (hne x hx.1 hx.2)⟩
 have hcore:zDx Γ w0 F0 O0 w' F' O' β (zT e) st':=by
  refine⟨⟨g2.os.trans hc.keep.os,g2.tape.trans hc.keep.tape,g2.output.trans hc.keep.output,aj hc.keep.size g2.size,?_,aj hc.keep.drawn g2.drawn⟩,g1,?_,?_,hc.f0.trans g4 hc.keep.size,?_,hc.dist,?_⟩
  .intro b hb ho
   rw[hkb b (by have:=hc.keep.size;omega) (fun h=>by
    rcases hc.oin b h with h|h
    .exact ho (.inl h)
    .omega) (fun hh=>ho (p1.old (by show β.ob id<_;omega)|>fun h=>by rw[hh];exact h))]
   exact hc.keep.block b hb ho
  .intro b hb;rcases g3 b hb with h|h
   .exact hc.oin b h
   .exact .inr (aj hc.keep.size h)
  .intro b hb;obtain⟨h1,h2,h3⟩:=g5 b hb;refine⟨?_,h2,h3⟩;rcases h1 with h|h
   .exact(hc.fin b h).1
   .exact .inr (aj hc.keep.size h)
  .intro x hx;obtain⟨k1,k2,k3,k4⟩:=hc.place x hx;exact⟨k1,az k2 g2.size,hF' _ k2 k3,hO' _ k2 k4⟩
  .intro b n hb;obtain⟨h1,h2,h3,cc,et,fl,h4,h5⟩:=hc.lent b n hb;have hbw:b<w.heap.size:=by grind
   refine⟨h1,hO' b hbw h2,hF' b hbw h3,?_⟩;by_cases hbi:b=β.ob id
   .subst hbi;obtain⟨c0,et0,r1,r2,_⟩:=hrow;obtain⟨c1,et1,q1,q2,_⟩:=g6
    grind
   grind
 have vA:∀t',zY w' F' β (zT e) (a.tmps.getD t' undef) ((⟨e.tm.map (zMV id t z),e.vars.map (fun c=>c.map (Ab (qI id))),st'⟩:Env Γ.St).get t'):=by
  intro q
  have h1:(⟨e.tm.map (zMV id t z),e.vars.map (fun c=>c.map (Ab (qI id))),st'⟩:Env Γ.St).get q=zMV id t z (e.get q):=by
   grind[Env.get,zMV,qI]
  rw[h1];have hkill:zY w' F' β (zT e) (a.tmps.getD q undef) (qI id (e.get q)):=(ht q).killO.ext hext;have hq:=ht q
  cases hx:e.get q with
  |oet i t' us j off=>
   rw[hx]at hkill hq;simp only[zMV];split
   .rename_i hi;subst hi;split
    .rename_i htt;obtain⟨htt,hj⟩:=htt;subst htt;subst hj;obtain⟨_,_,cap',hv',_⟩:=hq;exact⟨hal,by simp,cap,hv',g6⟩
    .trivial
   .rename_i hi;simp only[qI,if_neg hi]at hkill;exact hkill
  |_=>rw[hx]at hkill;exact hkill
 refine Inv.of (al:=zT e) (F:=F') (O:=O') (β:=β) ?_ (hG.ext hext) ?_ ?_ ?_ ?_ ?_
 .cases dst<;>exact hcore
 .cases dst<;>simp[qDj,Env.put,Act.put,hsz]
 .cases dst<;>exact hdf
 .intro t'
  cases dst with
  |none=>exact vA t'
  |some q=>
   have h1:(qDj e id t z st' (Sa q) d).get t'=if t'=q/\q< (e.tm.map (zMV id t z)).length then .p d else(⟨e.tm.map (zMV id t z),e.vars.map (fun c=>c.map (Ab (qI id))),st'⟩:Env Γ.St).get t':=yZ (⟨e.tm.map (zMV id t z),e.vars.map (fun c=>c.map (Ab (qI id))),st'⟩:Env Γ.St) q t' (.p d)
   rw[zBb,h1,aK,hsz];split
   .exact g7
   .exact vA t'
 .intro s cs hcs;have hcs':(e.mapT (qI id)).var s=Sa cs:=by cases dst<;>exact hcs
  rw[jF]at hcs';simp at hcs';obtain⟨cs0,hcs0,rfl⟩:=hcs';have ha:zT e (.v s):=⟨cs0,hcs0⟩
  refine⟨ha,?_⟩;obtain⟨c0,et,q1,q2,q3⟩:=hv s cs0 hcs0;refine⟨c0,et,(hext.ha (.v s) ⟨ha,by simp⟩).trans q1,by simpa using q2,?_⟩;intro i x y hi hy;simp at hy;obtain⟨y0,hy0,rfl⟩:=hy;exact(q3 i x y0 hi hy0).killO.ext hext
 .rintro s ⟨cs,hcs⟩;refine⟨cs.map (qI id),?_⟩;have:(e.mapT (qI id)).var s=Sa (cs.map (qI id)):=by rw[jF,hcs];rfl
  cases dst<;>exact this
end
section
variable {Γ:Sig}{ρ:Type}(P:j6)(G:Nat->Option (List V))(S:zU Γ)
def zYf(e:Env Γ.St)(f:Option Tmp)(c:Call):Option (Kex Γ ρ):=
 match c.callee,c.args.toList,c.argTypes.toList,f with
 |.builtin .append,[.tmp p,g],[i,j],Sa d=>
  match e.get p with
  |.ov id k l 0 m=>match P.und i,P.und j with
   |some (.slice n),Sa (.slice _)=>match P.inf n with
    |some a=>match a.zero,zYG (evx G e g)with
     |some z,Sa ⟨t,y::q⟩=>
      if qDC p g=Sd then Sc else
      if h:k=t then
       if t.size=a.size/\1<=a.bytes/\zQ3 z=a.size/\id≠jV then
        Sa (fun K=>Ad (app a.bytes (List.take m (h▸l)) (y::q)) fun r=>K { (e.kill id)with tm:=(e.kill id).tm.set d (.ot id t r) })
       else Sc
      else Sc
     |_,_=>Sc
    |none=>Sc
   |_,_=>Sc
  |_=>Sc
 |_,_,_,_=>Sc
def wX(e:Env Γ.St)(o:Oper):Option (Kex Γ ρ):=
 match o.op with
 |.store t r x=>match o.dst with
  |some _=>Sc
  |none=>match evx G e r,evx G e x with
   |.oet id g m i f,.p d=>
    if wB P t=Sa d.cells.length/\f+d.cells.length<=g.size/\d.cells.all V.one=Sb/\(g.aggT=Sd->d.cells.length=1/\g.size=1)then
     Sa (fun K=>Ad (atN m i) fun y=>match zT0 g y f d with
      |some z=>K (e.mapT (zIT id g i z))
      |none=>Sc)
    else Sc
   |.oet id g _ i f,.ot h n j=>match g with
    |.sl u=>if u=n/\f=0/\wB P t=Sa 1/\id=qDB/\id≠h then Sa (fun K=>zK8 (!j.isEmpty) (K (e.mapT (zYr id h n i j))))else Sc
    |_=>Sc
   |.on ⟨id,h,g,_,_,j,.q k f⟩,.p d=>
    if wB P t=Sa d.cells.length/\f+d.cells.length<=g.size/\d.cells.all V.one=Sb/\(g.aggT=Sd->d.cells.length=1/\g.size=1)/\id≠h/\id≠jV/\h≠jV then
     Sa (fun K=>Ad (atN j k) fun y=>match zT0 g y f d with
      |some z=>K (e.mapT (zYs id h g k z))
      |none=>Sc)
    else Sc
   |_,_=>Sc
 |.call c=>match zYf P G e o.dst c with
  |some q=>Sa q
  |none=>match c.callee,c.args.toList,c.argTypes.toList,o.dst with
  |.builtin .append,[A,B],[C,D],Sa d=>match P.und C,P.und D with
   |some (.slice E),Sa (.slice _)=>match P.inf E with
    |some a=>match a.zero,zYG (evx G e B)with
     |some z,Sa ⟨t,j⟩=>match zXN t (evx G e A)with
      |some (l,m)=>
       if t.size=a.size/\1<=a.bytes/\zQ3 z=a.size/\l.getD d≠jV then
        Sa (fun K=>Ad (app a.bytes m j) fun F=>
         K { (e.kill (l.getD d))with tm:=(e.kill (l.getD d)).tm.set d (.ot (l.getD d) t F) })
       else Sc
      |none=>Sc
     |_,_=>Sc
    |none=>Sc
   |_,_=>Sc
  |_,_,_,_=>Sc
 |_=>Sc
def wXs(e:Env Γ.St)(o:Oper):Option (Kex Γ ρ):=
 match wX P G e o with
 |some q=>Sa q
 |none=>match evW P G e o with
  |some a=>Sa (fun K=>K a)
  |none=>Sc
def zL5(e:Env Γ.St)(o:Oper):Option (Kex Γ ρ):=
 match qXs P G S e o with
 |some q=>Sa (fun K=>q (fun r=>match zAt e o.dst r with
  |some a=>K a
  |none=>Sc))
 |none=>wXs P G e o
def qGZ(e:Env Γ.St)(o:Oper):Option (Kex Γ ρ):=
 match o.op with
 |.call c=>match c.callee,c.args.toList with
  |.value f,.tmp p::l=>match evx G e f,e.get p,yU G e l with
   |.p (.clo g []),.ot id t k,Sa n=>match S g e.st (.bot:: .tl t k::n)with
    |some a=>match a.pl with
     |false=>Sa (fun K=>zK8 (qED (zLz id p k.length 0 e.tm)) (Ad a.m fun y=>match a.res y with
      |.p (.tup [.tl _ _,.bot])=>Sc
      |.p (.tup [.tl i j,d])=>if h:i=t then K (qDk e id p t (h▸j) (a.st y) o.dst d)else Sc
      |_=>Sc))
     |true=>match Aa id jV with
      |true=>Sc
      |false=>Sa (fun K=>Ad a.m fun y=>match a.res y with
       |.p (.tup [.tl i j,.bot])=>if h:i=t then K (qDi e id t (h▸j) (a.st y) o.dst)else Sc
       |_=>Sc)
    |none=>Sc
   |_,_,_=>Sc
  |_,_=>Sc
 |_=>Sc
def qHc(a:List TypeId)(k:Nat):Option Ty:=
 match a[k]? with
 |some c=>match P.und c with
  |some (.pointer d)=>P.ty d
  |_=>P.ty c
 |none=>Sc
def qGw(e:Env Γ.St)(o:Oper):Option (Kex Γ ρ):=
 match o.op with
 |.call c=>match c.callee with
  |.value f=>match evx G e f,zLW G e c.args.toList with
   |.p (.clo g []),Sa (k,s,i)=>match yU G e i,e.var s,qHc P c.argTypes.toList k with
    |some j,Sa l,Sa t=>match zL8 l with
     |some n=>match t.dec (.agg n)with
      |some y=>match S g e.st (.bot:: .tl t [y]:: .bot:: .val (.int .i64 (k:Int))::j)with
       |some a=>match a.pl with
        |false=>Sa (fun K=>Ad a.m fun u=>match a.res u with
         |.p (.tup [.tl q [z],d])=>if h:q=t then K (qDh e s t (h▸z) (a.st u) o.dst d)else Sc
         |_=>Sc)
        |true=>Sc
       |none=>Sc
      |none=>Sc
     |none=>Sc
    |_,_,_=>Sc
   |_,_=>Sc
  |_=>Sc
 |_=>Sc
def qDo(e:Env Γ.St)(o:Oper):Option (Kex Γ ρ):=
 match o.op with
 |.call c=>match c.callee with
  |.value f=>match evx G e f,zOw G e c.args.toList with
   |.p (.clo g []),Sa (k,id,⟨t,y⟩,i)=>match yU G e i with
    |some j=>match S g e.st (.bot:: .tl t [y]:: .bot:: .val (.int .i64 (k:Int))::j)with
     |some a=>match a.pl with
      |false=>Sa (fun K=>Ad a.m fun u=>match a.res u with
       |.p (.tup [.tl l [z],d])=>if h:l=t then K (qDj e id t (h▸z) (a.st u) o.dst d)else Sc
       |_=>Sc)
      |true=>Sc
     |none=>Sc
    |none=>Sc
   |_,_=>Sc
  |_=>Sc
 |_=>Sc
def qHn:Option (Nat×Nat×List Operand)->Nat
 |some (_,s,_)=>2^(2*s+1)
 |none=>0
def zIf(e:Env Γ.St)(o:Oper):Nat:=
 kE G e o|||match o.op with
 |.call c=>qHn (zLW G e c.args.toList)
 |_=>0
def zU5(e:Env Γ.St)(o:Oper):Option (Kex Γ ρ):=
 match zL5 P G S e o with
 |some q=>Sa q
 |none=>match qGZ G S e o with
  |some q=>Sa q
  |none=>match qGw P G S e o with
   |some q=>Sa q
   |none=>qDo G S e o
def qEC(e:Env Γ.St)(c:Nat)(o:Oper)(K:Env Γ.St->Nat->Option ρ):Option ρ:=
 match zU5 P G S e o with
 |some q=>q (fun a=>K a (c|||zIf G e o))
 |none=>match zU5 P G S (frzOps G (zR7 o) e) o with
  |some q=>q (fun a=>K a (c|||(zLL G (zR7 o) e|||zIf G (frzOps G (zR7 o) e) o)))
  |none=>Sc
def qAo(ops:Array Oper)(e:Env Γ.St)(c:Nat)(o:Oper)(K:Env Γ.St->Nat->Option ρ):Option ρ:=
 match o.guard with
 |none=>qEC P G S e c o K
 |some (j,a)=>match(ops[j]?).bind (·.dst)with
  |none=>K (e.put o.dst (.p (.val undef))) (c|||zCP o.dst)
  |some t=>match e.get t with
   |.p (.val (.bool b))=>if t<e.tm.length then
     cond b (match a with
      |true=>zMl t (e.lit t Sb) (fun e=>qEC P G S e c o K)
      |false=>K ((e.lit t Sb).put o.dst (.p (.val undef))) (c|||zCP o.dst))
     (match a with
      |true=>K ((e.lit t Sd).put o.dst (.p (.val undef))) (c|||zCP o.dst)
      |false=>zMl t (e.lit t Sd) (fun e=>qEC P G S e c o K))
    else Sc
   |.p (.val (.tuple _))=>K (e.put o.dst (.p (.val undef))) (c|||zCP o.dst)
   |_=>Sc
def seqX(ops:Array Oper):List Oper->Env Γ.St->Nat->(Env Γ.St->Nat->Option ρ)->Option ρ
 |[],e,a,K=>K e a
 |o::c,e,a,K=>qAo P G S ops e a o (fun d a=>kOp o d (fun d=>seqX ops c d a K))
def qGx(e:Env Γ.St)(o:Oper)(K:Env Γ.St->Option ρ):Option ρ:=
 match o.guard with
 |none=>match qXs P G S e o with
  |some q=>q (fun r=>match r with
   |.frzT t a=>match zAt e o.dst (.ownT t a)with
    |some c=>K c
    |none=>Sc
   |_=>Sc)
  |none=>Sc
 |some _=>Sc
def qCY(ops:Array Oper)(k:Nat)(e:Env Γ.St)(c:Nat)(K:Env Γ.St->Nat->Option ρ):Option ρ:=
 seqX P G S ops (ops.toList.take k) e c (fun e c=>match ops.toList.drop k with
  |o::a=>qGx P G S e o (fun d=>kOp o d (fun d=>seqX P G S ops a d (c|||zCP o.dst) K))
  |[]=>Sc)
def qCZ(ops:Array Oper)(k t:Nat)(e:Env Γ.St)(a:Nat)(K:Env Γ.St->Nat->Option ρ):Option ρ:=
 seqX P G S ops (ops.toList.take k) e a (fun e a=>match ops.toList.drop k with
  |o::c=>match o.guard with
   |none=>zEC (frzOps G [.tmp t] e) (fun f=>qAo P G S ops f (a|||zLL G [.tmp t] e) o (fun d a=>kOp o d (fun d=>seqX P G S ops c d a K)))
   |some _=>Sc
  |[]=>Sc)
def zFR(e:Env Γ.St)(a:Nat)(o:Oper)(K:Env Γ.St->Nat->Option ρ):Option ρ:=
 match qXs P G S e o with
 |some q=>q (fun r=>match zMI e o.dst r with
  |some c=>K c (a|||zCP o.dst)
  |none=>Sc)
 |none=>Sc
def zBJ(ops:Array Oper):List Oper->Env Γ.St->Nat->(Env Γ.St->Nat->Option ρ)->Option ρ
 |[],e,d,K=>K e d
 |o::a,e,d,K=>
  match o.guard with
  |none=>if zOG G (qY (o::a)) e o then zFR P G S e d o (fun c d=>kOp o c (fun c=>zBJ ops a c d K))else Sc
  |some (j,f)=>match(ops[j]?).bind (·.dst)with
   |none=>zMl (o.dst.getD 0) (e.put o.dst (.p (.val undef))) (fun c=>zBJ ops a c (d|||zCP o.dst) K)
   |some t=>match e.get t with
    |.p (.val (.bool b))=>if t<e.tm.length then
      cond b (match f with
       |true=>zMl t (e.lit t Sb) (fun e=>if zOG G (qY (o::a)) e o then zFR P G S e d o (fun c d=>kOp o c (fun c=>zBJ ops a c d K))else Sc)
       |false=>zMl (o.dst.getD 0) ((e.lit t Sb).put o.dst (.p (.val undef))) (fun c=>zBJ ops a c (d|||zCP o.dst) K))
      (match f with
       |true=>zMl (o.dst.getD 0) ((e.lit t Sd).put o.dst (.p (.val undef))) (fun c=>zBJ ops a c (d|||zCP o.dst) K)
       |false=>zMl t (e.lit t Sd) (fun e=>if zOG G (qY (o::a)) e o then zFR P G S e d o (fun c d=>kOp o c (fun c=>zBJ ops a c d K))else Sc))
     else Sc
    |.p (.val (.tuple _))=>zMl (o.dst.getD 0) (e.put o.dst (.p (.val undef))) (fun c=>zBJ ops a c (d|||zCP o.dst) K)
    |_=>Sc
def zX7:List Nat->Nat
 |[]=>0
 |d::r=>2^(2*d)|||zX7 r
def zSB(ops:Array Oper)(k:Nat)(e:Env Γ.St)(a:Nat)(K:Env Γ.St->Nat->Option ρ):Option ρ:=
 if k<=ops.size&&zJu ops k&&zIB ops k&&zPh (ops.extract 0 k)then
  zEC (killAll (qY (ops.extract 0 k).toList) e) (fun e=>zBJ P G S (ops.extract 0 k) (ops.extract 0 k).toList e (a|||zX7 (qY (ops.extract 0 k).toList))
   (fun c a=>seqX P G S ops (ops.toList.drop k) c a K))
 else Sc
def qEm(ops:Array Oper)(e:Env Γ.St)(a:Nat)(K:Env Γ.St->Nat->Option ρ):Option ρ:=zSB P G S ops (zDW ops.toList) e a K
def zZd:T->Bool
 |.p _=>Sb
 |.lp _ _=>Sb
 |_=>Sd
def zZt{St:Type}(ops:Array Oper)(e1:Env St):List Nat->Option (List Fl)
 |[]=>Sa []
 |i::r=>match ops[i]? with
  |some o=>match o.dst with
   |some d=>match zZd (e1.get d)with
    |true=>(zZt ops e1 r).map (⟨i,d,.c (e1.get d)⟩:: ·)
    |false=>match o.op with
     |.move (.tmp s)=>(zZt ops e1 r).map (⟨i,d,.a s⟩:: ·)
     |_=>Sc
   |none=>Sc
  |none=>Sc
def flD(fl:List Fl)(t:Nat):Bool:=fl.any (fun q=>Aa q.d t)
def flC(fl:List Fl)(t:Nat):Bool:=fl.any (fun q=>Aa q.d t&&(match q.v with
 |.c _=>Sb
 |.a _=>Sd))
def zXz(n:Nat):List Fl->Bool
 |[]=>Sb
 |q::r=> !flD r q.d&&Nat.blt q.d n&&zXz n r
def qD2(fl:List Fl):Bool:=fl.all (fun q=>match q.v with
 |.c _=>Sb
 |.a s=> !flD fl s)
def noD(d:Nat):T->Bool
 |.ow i _ _=> !Aa i d
 |.oe i _ _ _ _=> !Aa i d
 |.lp s _=> !Aa s d
 |.mp i _ _=> !Aa i d
 |.ot i _ _=> !Aa i d
 |.oet i _ _ _ _=> !Aa i d
 |.ov i _ _ _ _=> !Aa i d
 |.on n=> !Aa n.id d&& !Aa n.id2 d
 |_=>Sb
def qGf{St:Type}(d:Nat)(e:Env St):Bool:=
 e.tm.all (noD d)&&e.vars.all (fun c=>match c with
  |some a=>a.all (noD d)
  |none=>Sb)&&(e.var d).isNone&&Nat.blt d e.vars.length
def qDw{St:Type}(fl:List Fl)(m:Nat)(e1:Env St):Operand->Bool
 |.tmp t=>(flC fl t||(!flD fl t&& !Ac m (2*t)))&&(match e1.get t with
  |.p _=>Sb
  |.lp s _=> !Ac m (2*s)&&(match e1.var s with
   |some a=>a.all (fun x=>match x with|.p _=>Sb|_=>Sd)&& !Ac m (2*s+1)
   |none=>Sd)
  |_=>Sd)
 |_=>Sb
def qFs{St:Type}(ops:Array Oper)(fl:List Fl)(m:Nat)(e1 b:Env St)(q:Fl):Bool:=
 match ops[q.i]? with
 |some o=>match q.v with
  |.a s=>match o.op with
   |.move (.tmp f)=>Aa f s
   |_=>Sd
  |.c _=>o.op.operands.toList.all (qDw fl m e1)&&qGf q.d b&&fl.all (fun r=>match r.v with
   |.c x=>noD q.d x
   |.a _=>Sb)
 |none=>Sd
def zYE(m:Nat)(f:Option Nat)(q:Fl):Bool:=
 (match f with
  |some d=> !Aa d q.d
  |none=>Sb)&&(match q.v with
  |.c (.p _)=>Sb
  |.c (.lp s _)=> !Ac m (2*s)
  |.c _=>Sd
  |.a s=>match f with
   |some d=> !Aa d s
   |none=>Sb)
def qHA(fl:List Fl)(A:Fl->Bool)(o:Oper):Bool:=
 o.op.operands.toList.all (fun x=>match x with
  |.tmp t=>fl.all (fun q=> !Aa q.d t||A q)
  |_=>Sb)
def zDu:List Fl->Nat
 |[]=>0
 |q::r=>2^(2*q.d)|||zDu r
def zZ2(a:Array Nat)(c:Nat)(q:Fl):Bool:=(a.getD c 0).testBit q.i&&decide (q.i<c)
def zYU(e:Env Γ.St)(o:Oper):Option (Kex Γ ρ):=
 match zL5 P G S e o with
 |some q=>Sa q
 |none=>match zKH o with
  |true=>zL5 P G S (zXs G o e) o
  |false=>Sc
def zKk(ops:Array Oper)(a:Array Nat)(fl:List Fl)(e1:Env Γ.St):List Nat->Env Γ.St->Nat->(Env Γ.St->Nat->Option ρ)->Option ρ
 |[],b,m,K=>zEC (kA b fl) (fun e=>K e (m|||zDu fl))
 |c::d,b,m,K=>match ops[c]? with
  |some o=>zEC (kA b (fl.filter (zZ2 a c))) (fun f=>match qHA fl (zZ2 a c) o&&fl.all (zYE (kE G f o) o.dst)with
   |true=>match zYU P G S f o with
    |some q=>q (fun g=>kOp o g (fun g=>match fl.all (fun q=>zZ2 a c q||qFs ops fl (m|||(zDu fl|||kE G f o)) e1 g q)with
     |true=>zKk ops a fl e1 d g (m|||(zDu fl|||kE G f o)) K
     |false=>Sc))
    |none=>Sc
   |false=>Sc)
  |none=>Sc
def zZS(ops:Array Oper)(c h:Nat)(e:Env Γ.St)(g:Nat)(K:Env Γ.St->Nat->Option ρ):Option ρ:=
 if qGX ops (Region.before ops) c h then
  zEC (killAll (qY (uZ ops c).toList) e) (fun e=>zBJ P G S (uZ ops c) (uZ ops c).toList e (g|||zX7 (qY (uZ ops c).toList))
   (fun f g=>match zZt ops f ((Ai ops.size).filter (fun i=>Ac h i&& !Ac c i))with
    |some a=>match zXz f.tm.length a&&qD2 a&&a.all (fun q=>(f.var q.d).isNone)&&a.all (qFs ops a (zDu a) f (zG3 f a))with
     |true=>zEC (zG3 f a) (fun b=>zKk P G S ops (Region.before ops) a f ((Ai ops.size).filter (fun i=>Ac c i)) b (zDu a) (fun j m=>K j (g|||m)))
     |false=>Sc
    |none=>Sc))
 else Sc
def qBl:List (Nat×Nat×Nat)->Env Γ.St->(Env Γ.St->Option ρ)->Option ρ
 |[],e,K=>K e
 |(a,b,n)::r,e,K=>match n with
  |1=>match qGA b e&&(!Aa a jV&& !Aa b jV)with
   |true=>zEC (e.mapT (zWW a b)) (fun e=>qBl r e K)
   |false=>Sc
  |2=>zEC (frzOE a e) (fun e=>qBl r e K)
  |_=>qBl r e K
def qAO:List (Nat×Nat×Nat)->List Operand
 |[]=>[]
 |(t,_,n)::r=>match n with
  |0=>.tmp t::qAO r
  |_=>qAO r
def zWX(ops:Array Oper)(d:Bool)(f:Option (List (Nat×Nat×Nat)))(e:Env Γ.St)(a:Nat)(K:Env Γ.St->Nat->Option ρ):Option ρ:=
 match d with
 |false=>match f with
  |none=>seqX P G S ops ops.toList e a K
  |some []=>seqX P G S ops ops.toList e a K
  |some ((k,t,n)::_)=>match n with
   |7=>qCY P G S ops k e a K
   |6=>qCZ P G S ops k t e a K
   |_=>seqX P G S ops ops.toList e a K
 |true=>match f with
  |none=>qEm P G S ops e a K
  |some []=>zEC (frzOps G (zBL ops.toList) e) (fun c=>qEm P G S ops c (a|||zLL G (zBL ops.toList) e) K)
  |some ((g,i,n)::h)=>match n with
   |9=>qEm P G S ops e a K
   |8=>zSB P G S ops g e a K
   |_=>zEC (frzOps G (qAO h) e) (fun c=>zZS P G S ops g i c (a|||zLL G (qAO h) e) K)
def qFh(ops:Array Oper)(d:Bool)(a:Option (List (Nat×Nat×Nat)))(e:Env Γ.St)(c:Nat)(K:Env Γ.St->Nat->Option ρ):Option ρ:=
 match a with
 |none=>zWX P G S ops d a e c K
 |some []=>zWX P G S ops d a e c K
 |some (x::g)=>zWX P G S ops d a e c (fun h f=>qBl g h (fun i=>K i f))
end
section
variable {Γ:Sig}{ρ:Type}{P:Program}{G:Nat->Option (List V)}{S:zU Γ}{e:Env Γ.St}{o:Oper}{ops:Array Oper}{v:ρ}
variable {j:Env Γ.St->Option ρ}{i:Kex Γ ρ}
theorem zYe{a:Option Tmp}{c:Call}(h:zYf P G e a c=Sa i)(K:i j=Sa v):∃e1,yP P G e a c=Sa e1/\j e1=Sa v:=by
 unfold zYf at h;split at h
 .rename_i p D E F d k f l;split at h
  .rename_i id H I J vA;split at h
   .rename_i L r u x;split at h
    .rename_i m g;split at h
     .rename_i z t y M N n;split at h
      .cases h
      .rename_i A;split at h
       .rename_i q;subst q;split at h
        .rename_i B;simp at h;subst h;obtain⟨O,C,K⟩:=bind_some K;simp_all[app,yP]
        .cases h
       .cases h
     .cases h
    .cases h
   .cases h
  .cases h
 .cases h
theorem zZ1{a:Option Tmp}{c:Call}(h:zYf P G e a c=Sa i):uH P G e a c=none:=by
 unfold zYf at h;split at h
 .rename_i p j k l d g f q;split at h
  .rename_i id m n r vA;unfold uH
   grind[evx,zXN]
  .cases h
 .cases h
theorem qCC(h:wX P G e o=Sa i)(f:i j=Sa v):∃e1,evW P G e o=Sa e1/\j e1=Sa v:=by
 obtain⟨N,op,D,O,l,guard⟩:=o;cases op<;>simp only[wX,reduceCtorEq]at h
 case store t ap x=>
  split at h
  .cases h
  .rename_i hd;split at h
   .rename_i id E m q g d n p;split at h
    .rename_i a;cases h;obtain⟨y,r,u⟩:=bind_some f;unfold atN at r;split at u;all_goals simp_all[evW,zGj]
    .cases h
   .rename_i id E m q g A t2 F n p;split at h
    .rename_i t3;split at h
     .rename_i a;cases h;obtain⟨Q,f⟩:=yO.1 f;simp only[cM]at Q;refine⟨_,?_,f⟩;simp only[evW,n,p,zEc]
      grind
     .cases h
    .cases h
   .rename_i id A E m K F k g d n p;split at h
    .rename_i a;cases h;obtain⟨y,r,u⟩:=bind_some f;unfold atN at r;split at u;all_goals simp_all[evW,zDj]
    .cases h
   .cases h
 case call c=>
  split at h
  .rename_i q' W;simp at h;subst h;obtain⟨e1,h1,h2⟩:=zYe W f
   grind[zZ1,evW]
  .split at h
   .rename_i x0 x1 t0 t1 d H B I _;split at h
    .rename_i el Y Z ab;split at h
     .rename_i J C;split at h
      .rename_i z t F hz L;split at h
       .rename_i nm m M;split at h
        .rename_i ad;cases h;obtain⟨zs,ag,f⟩:=bind_some f;simp_all[app,evW,uH]
        .cases h
       .cases h
      .cases h
     .cases h
    .cases h
   .cases h
theorem zTD(h:wXs P G e o=Sa i)(a:i j=Sa v):∃e1,evW P G e o=Sa e1/\j e1=Sa v:=by
 unfold wXs at h;split at h
 .simp_all[qCC]
 grind
theorem zU3(j:qK Γ P G S.toS){q:Kex Γ ρ}{K:Env Γ.St->Option ρ}(h:zL5 P G S e o=Sa q)(g:q K=Sa v):
  ∃e1,zYo P G e o e1/\qA (kE G e o) e e1/\K e1=Sa v:=by
 unfold zL5 at h;split at h
 .rename_i t k;cases h;obtain⟨r,u,c⟩:=zKA k g;split at c
  .rename_i e1 d;refine⟨e1,fun l m n a w Q f=>zJ5 (P:=P) j f ?_,?_,c⟩
   .grind[zLa]
   .refine(zIQ d).mono ?_
    grind[zBy,kE]
  .cases c
 .obtain⟨e1,i,p⟩:=zTD h g;exact⟨e1,fun l m n a w Q f=>zQV f i,zUE i,p⟩
theorem zZ6(e:Env Γ.St)(id p:Nat)(t:Ty)(k zs:List t.El)(st:Γ.St)(g:Option Tmp)(d:V)(q:e.get p=.ot id t k):qA (zCP g) e (qDk e id p t zs st g d):=by
 have j:∀a,a≠p->(⟨(e.tm.map (zLI id t zs)).set p (.ot id t zs),e.vars.map (fun c=>c.map (Ab (qI id))),st⟩:Env Γ.St).get a=zLI id t zs (e.get a):=by
  intro a f;simp[Env.get];rw[aS (c9 f),aA]
  grind[zLI,qI]
 have l:qA 0 e (⟨(e.tm.map (zLI id t zs)).set p (.ot id t zs),e.vars.map (fun c=>c.map (Ab (qI id))),st⟩:Env Γ.St):=by
  refine⟨by simp,by simp,?_,?_,?_⟩
  .intro a r m i;have f:a≠p:=fun h=>by grind
   rw[j a f,i];rfl
  .intro a s n _ _ i;have f:a≠p:=fun h=>by grind
   rw[j a f,i];rfl
  .intro s u _ _ i;have x:(⟨(e.tm.map (zLI id t zs)).set p (.ot id t zs),e.vars.map (fun c=>c.map (Ab (qI id))),st⟩:Env Γ.St).var s=(e.mapT (qI id)).var s:=rfl;simp_all[jF,cy,qI]
 exact(l.mono (fun a _=>by simp)).same (zAX _ g _)
theorem zZ4(e:Env Γ.St)(id:Nat)(t:Ty)(zs:List t.El)(st:Γ.St)(a:Option Tmp):qA (zCP a) e (qDi e id t zs st a):=by
 have h:∀d,(⟨e.tm.map (qI id),e.vars.map (fun c=>c.map (Ab (qI id))),st⟩:Env Γ.St).get d=qI id (e.get d):=vN (f:=qI id) rfl e
 have i:qA 0 e (⟨e.tm.map (qI id),e.vars.map (fun c=>c.map (Ab (qI id))),st⟩:Env Γ.St):=by
  refine⟨by simp,by simp,?_,?_,?_⟩
  .intro d l j g;rw[h d,g];rfl
  .intro d s k _ _ g;rw[h d,g];rfl
  .intro s m _ _ g;have n:(⟨e.tm.map (qI id),e.vars.map (fun c=>c.map (Ab (qI id))),st⟩:Env Γ.St).var s=(e.mapT (qI id)).var s:=rfl;simp_all[jF,cy,qI]
 exact(i.mono (fun d _=>by simp)).same (zAX _ a _)
theorem zZU(B:qK Γ P G S.toS){q:Kex Γ ρ}{K:Env Γ.St->Option ρ}(h:qGZ G S e o=Sa q)(i:q K=Sa v):
  ∃e1,zYo P G e o e1/\qA (kE G e o) e e1/\K e1=Sa v:=by
 obtain⟨F,op,C,H,r,guard⟩:=o;unfold qGZ at h;split at h
 .rename_i c u;subst u;split at h
  .rename_i f p Y k j;split at h
   .rename_i g id t Z ds D E m;split at h
    .rename_i cx I;split at h
     .simp at h;subst h;obtain⟨l,i⟩:=yO.1 i;obtain⟨y,J,i⟩:=bind_some i;split at i
      .cases i
      .rename_i L M d x n;split at i
       .rename_i z;subst z;refine⟨_,fun N O W a w Q A=>qFT B A k D j E m l x (by grind[zIg]),?_,i⟩
        grind[zZ6,zBy,id,kE]
       .cases i
      .cases i
     .split at h
      .cases h
      .rename_i hid;have hid:id≠jV:=fun hh=>by simp_all
       simp at h;subst h;obtain⟨y,J,i⟩:=bind_some i;split at i
       .rename_i L M n;split at i
        .rename_i z;subst z;refine⟨_,fun N O W a w Q A=>qDF B A k D j E m hid (by grind[zIg]),?_,i⟩
         grind[zZ4,zBy,id,kE]
        .cases i
       .cases i
    .cases h
   .cases h
  .cases h
 .cases h
theorem zZ3(e:Env Γ.St)(s:Nat)(t:Ty)(z:t.El)(st:Γ.St)(a:Option Tmp)(d:V):qA (zCP a|||2^(2*s+1)) e (qDh e s t z st a d):=by
 have c:qA (2^(2*s+1)) e (⟨e.tm,e.vars.set s (Sa ((t.cells z).map T.p)),st⟩:Env Γ.St):=
  (zSM s _ e).same ((zOi st _).mono (fun t _=>by simp))
 refine(c.trans (zAX _ a (.p d))).mono ?_
 grind
theorem zYX(C:qK Γ P G S.toS){q:Kex Γ ρ}{K:Env Γ.St->Option ρ}(h:qGw P G S e o=Sa q)(i:q K=Sa v):
  ∃e1,zYo P G e o e1/\qA (zIf G e o) e e1/\K e1=Sa v:=by
 obtain⟨D,op,A,E,m,guard⟩:=o;unfold qGw at h;split at h
 .rename_i c n;subst n;split at h
  .rename_i f j;split at h
   .rename_i g k s N F l;split at h
    .rename_i O W t p r H;split at h
     .rename_i Y x;split at h
      .rename_i y I;split at h
       .rename_i Z J;split at h
        .simp at h;subst h;obtain⟨u,hu,i⟩:=bind_some i;split at i
         .rename_i t' z d B;split at i
          .rename_i L;subst L;refine⟨_,fun w0 F0 O0 a w Q M=>qFm C M j F l p r x I (by grind[zIg]),?_,i⟩
           grind[zZ3,zBy,zIf,kE,qHn]
          .cases i
         .cases i
        .cases h
       .cases h
      .cases h
     .cases h
    .cases h
   .cases h
  .cases h
 .cases h
theorem zZ5(e:Env Γ.St)(id:Nat)(t:Ty)(z:t.El)(st:Γ.St)(a:Option Tmp)(d:V):qA (zCP a) e (qDj e id t z st a d):=by
 have h:∀f,(⟨e.tm.map (zMV id t z),e.vars.map (fun c=>c.map (Ab (qI id))),st⟩:Env Γ.St).get f=zMV id t z (e.get f):=by
  grind[Env.get,zMV,qI]
 have i:qA 0 e (⟨e.tm.map (zMV id t z),e.vars.map (fun c=>c.map (Ab (qI id))),st⟩:Env Γ.St):=by
  refine⟨by simp,by simp,?_,?_,?_⟩
  .intro f l j g;rw[h f,g];rfl
  .intro f s k _ _ g;rw[h f,g];rfl
  .intro s m _ _ g;have n:(⟨e.tm.map (zMV id t z),e.vars.map (fun c=>c.map (Ab (qI id))),st⟩:Env Γ.St).var s=(e.mapT (qI id)).var s:=rfl;simp_all[jF,cy,qI]
 exact(i.mono (fun f _=>by simp)).same (zAX _ a _)
theorem zW1(B:qK Γ P G S.toS){q:Kex Γ ρ}{K:Env Γ.St->Option ρ}(h:qDo G S e o=Sa q)(i:q K=Sa v):
  ∃e1,zYo P G e o e1/\qA (zIf G e o) e e1/\K e1=Sa v:=by
 obtain⟨m,op,x,C,n,guard⟩:=o;unfold qDo at h;split at h
 .rename_i c p;subst p;split at h
  .rename_i f j;split at h
   .rename_i g k id t y J D l;split at h
    .rename_i L r;split at h
     .rename_i M E;split at h
      .simp at h;subst h;obtain⟨u,N,i⟩:=bind_some i;split at i
       .rename_i F z d A;split at i
        .rename_i H;subst H;refine⟨_,fun O W Y a w Q I=>qDn B I j D l r (by grind[zIg]),?_,i⟩;refine(zZ5 e id F z _ m d).mono ?_
         grind[zBy,zIf,kE]
        .cases i
       .cases i
      .cases h
     .cases h
    .cases h
   .cases h
  .cases h
 .cases h
theorem zNf(c:qK Γ P G S.toS){q:Kex Γ ρ}{K:Env Γ.St->Option ρ}(h:zU5 P G S e o=Sa q)(d:q K=Sa v):
  ∃e1,zYo P G e o e1/\qA (zIf G e o) e e1/\K e1=Sa v:=by
 have j:∀b,(zIf G e o).testBit b=Sd->(kE G e o).testBit b=false:=fun b l=>by
  grind[zBy,zIf]
 unfold zU5 at h;split at h
 .rename_i k a;simp at h;subst h;obtain⟨e1,f,g,i⟩:=zU3 c a d;exact⟨e1,f,g.mono j,i⟩
 .split at h
  .rename_i k a;simp at h;subst h;obtain⟨e1,f,g,i⟩:=zZU c a d;exact⟨e1,f,g.mono j,i⟩
  .split at h
   .rename_i k a;simp at h;subst h;exact zYX c a d
   .exact zW1 c h d
variable {g:Nat}
theorem zMJ(f:qK Γ P G S.toS){K:Env Γ.St->Nat->Option ρ}(h:qEC P G S e g o K=Sa v):
  ∃e1 d,zYo P G e o e1/\qA d e e1/\K e1 (g|||d)=Sa v:=by
 unfold qEC at h;split at h
 .rename_i q c;obtain⟨e1,i,j,k⟩:=zNf f c h
  grind
 .split at h
  .rename_i q c;obtain⟨e1,i,j,k⟩:=zNf f c h;exact⟨e1,_,fun l m n a w Q p=>i l m n a w Q (Inv.frzOps _ _ p),(zFK _ e).trans j,k⟩
  .cases h
theorem zPA(l:qK Γ P G S.toS){K:Env Γ.St->Nat->Option ρ}(h:qAo P G S ops e g o K=Sa v):
  ∃e1 d,zOj P G ops e o e1/\qA d e e1/\K e1 (g|||d)=Sa v:=by
 unfold qAo at h;split at h
 .rename_i n;obtain⟨e1,d,a,c,f⟩:=zMJ l h;exact⟨e1,d,.inl ⟨by grind[vG],a⟩,c,f⟩
 .rename_i j m n;split at h
  .rename_i p;exact⟨_,_,.inr ⟨by grind[vG],rfl⟩,zAX e o.dst _,h⟩
  .rename_i t p;split at h
   .rename_i b i;split at h
    .rename_i hlt;have k:vG ops e o=Sa (b==m):=by simp_all[vG]
     cases b with
     |true=>
      simp at h;split at h
      .rw[zKE,zOR i]at h;obtain⟨e1,d,a,c,f⟩:=zMJ l h;exact⟨e1,d,.inl ⟨k,a⟩,c,f⟩
      .rw[zOR i]at h;exact⟨_,_,.inr ⟨k,rfl⟩,zAX e o.dst _,h⟩
     |false=>
      simp at h;split at h
      .rw[zOR i]at h;exact⟨_,_,.inr ⟨k,rfl⟩,zAX e o.dst _,h⟩
      .rw[zKE,zOR i]at h;obtain⟨e1,d,a,c,f⟩:=zMJ l h;exact⟨e1,d,.inl ⟨k,a⟩,c,f⟩
    .cases h
   .rename_i q i;exact⟨_,_,.inr ⟨by grind[vG],rfl⟩,zAX e o.dst _,h⟩
   .cases h
theorem zD3(g:qK Γ P G S.toS){K:Env Γ.St->Nat->Option ρ}:∀(l:List Oper) (e:Env Γ.St) (a:Nat),seqX P G S ops l e a K=Sa v->∃e' d,zLi P G ops l e e'/\qA d e e'/\K e' (a|||d)=Sa v:=by
 intro l
 induction l with
 |nil=>intro e a h;exact⟨e,0,.nil e,qA.refl e,by rw[dK];exact h⟩
 |cons o c i=>
  intro e a h;simp only[seqX]at h;obtain⟨j,d,k,m,f⟩:=zPA g h;rw[zR2]at f;obtain⟨e',n,p,q,r⟩:=i j _ f;exact⟨e',d|||n,.cons k p,m.trans q,by grind⟩
variable {I:Env Γ.St}
theorem zLi.app{a c:List Oper}{d f:Env Γ.St}(h:zLi P G ops a I d)(g:zLi P G ops c d f):zLi P G ops (a++c) I f:=by
 induction h with
 |nil=>exact g
 |cons i _ j=>exact .cons i (j g)
theorem zY1(f:qK Γ P G S.toS){K:Env Γ.St->Option ρ}(h:qGx P G S e o K=Sa v):∃e1,zOj P G ops e o e1/\qA (zCP o.dst) e e1/\K e1=Sa v:=by
 unfold qGx at h;split at h
 .rename_i k;split at h
  .rename_i q g;obtain⟨r,i,c⟩:=zKA g h;split at c
   .rename_i t l;split at c
    .rename_i e1 d;exact⟨e1,.inl ⟨by grind[vG],fun m n p a w Q j=>qE8 (P:=P) f j i d⟩,zIQ d,c⟩
    .cases c
   .cases c
  .cases h
 .cases h
variable {l:Nat}
theorem zWI(a:qK Γ P G S.toS){K:Env Γ.St->Nat->Option ρ}(h:qCY P G S ops g e l K=Sa v):∃e' d,zLi P G ops ops.toList e e'/\qA d e e'/\K e' (l|||d)=Sa v:=by
 unfold qCY at h;obtain⟨x,j,f,m,c⟩:=zD3 a _ _ _ h;split at c
 .rename_i o k y;obtain⟨z,n,p,i⟩:=zY1 (ops:=ops) a c;rw[zR2]at i;obtain⟨q,r,t,u,A⟩:=zD3 a _ _ _ i;refine⟨q,j|||zCP o.dst|||r,?_,(m.trans p).trans u,by grind⟩;have:=f.app (.cons n t)
  grind[Ag]
 .cases c
theorem zOj.frz{e1:Env Γ.St}{xs:List Operand}(j:o.guard=Sc)(h:zOj P G ops (frzOps G xs I) o e1):zOj P G ops I o e1:=by
 have c:∀I:Env Γ.St,vG ops I o=Sa true:=fun I=>by grind[vG]
 rcases h with⟨_,h⟩|⟨h,_⟩
 .exact .inl ⟨c I,fun d f g a w Q i=>h d f g a w Q (Inv.frzOps _ _ i)⟩
 grind
theorem zWJ(c:qK Γ P G S.toS){K:Env Γ.St->Nat->Option ρ}{f:Nat}(h:qCZ P G S ops g l e f K=Sa v):∃e' d,zLi P G ops ops.toList e e'/\qA d e e'/\K e' (f|||d)=Sa v:=by
 unfold qCZ at h;obtain⟨k,t,m,n,a⟩:=zD3 c _ _ _ h;split at a
 .rename_i o i B;split at a
  .rename_i p;rw[yD]at a;obtain⟨C,q,r,u,j⟩:=zPA c a;rw[zR2]at j;obtain⟨x,y,z,A,D⟩:=zD3 c _ _ _ j;refine⟨x,t|||zLL G [.tmp l] k|||q|||y,?_,((n.trans (zFK _ k)).trans u).trans A,by grind⟩;have:=m.app (.cons (zOj.frz p r) z)
   grind[Ag]
  .cases a
 .cases a
variable {a1:Env Γ.St->Nat->Option ρ}
theorem zQF(h:zFR P G S e g o a1=Sa v):∃r e1,evQ P G S.toS e o=Sa r/\zMI e o.dst r=Sa e1/\a1 e1 (g|||zCP o.dst)=Sa v:=by
 unfold zFR at h;split at h
 .rename_i q c;obtain⟨r,d,f⟩:=zKA c h
  grind
 .cases h
theorem zLA:∀(l:List Oper) (e:Env Γ.St) (c:Nat),zBJ P G S ops l e c a1=Sa v->∃e' d,zDp P G S.toS ops l e=Sa e'/\qA d e e'/\a1 e' (c|||d)=Sa v:=by
 intro l
 induction l with
 |nil=>intro e c h;exact⟨e,0,rfl,qA.refl e,by rw[dK];exact h⟩
 |cons o a u=>
  intro e c h
  have n:∀f:Env Γ.St,f=e->vG ops e o=Sa Sb->(if zOG G (qY (o::a)) f o then zFR P G S f c o (fun g c=>kOp o g (fun g=>zBJ P G S ops a g c a1))else Sc)=Sa v->
    ∃e' d,zDp P G S.toS ops (o::a) e=Sa e'/\qA d e e'/\a1 e' (c|||d)=Sa v:=by
   intro f i x k;subst i;split at k
   .rename_i F;obtain⟨r,g,H,z,y⟩:=zQF k;rw[zR2]at y;obtain⟨e',d,A,q,B⟩:=u g _ y;refine⟨e',zCP o.dst|||d,?_,(zVW z).trans q,by grind⟩;simp_all[zDp]
   .cases k
  have skip:∀f:Env Γ.St,f=e->vG ops e o=Sa Sd->zMl (o.dst.getD 0) (f.put o.dst (.p (.val undef))) (fun g=>zBJ P G S ops a g (c|||zCP o.dst) a1)=Sa v->
    ∃e' d,zDp P G S.toS ops (o::a) e=Sa e'/\qA d e e'/\a1 e' (c|||d)=Sa v:=by
   intro f i x k;subst i;rw[zKE]at k;obtain⟨e',d,A,q,B⟩:=u _ _ k;refine⟨e',zCP o.dst|||d,?_,(zAX _ o.dst _).trans q,by grind⟩
   grind[zDp]
  unfold zBJ at h;split at h
  .rename_i C;exact n e rfl (by grind[vG]) h
  .rename_i j m C;split at h
   .rename_i D;exact skip e rfl (by grind[vG]) h
   .rename_i t D;split at h
    .rename_i b E;split at h
     .rename_i hlt;have x:vG ops e o=Sa (b==m):=by simp_all[vG]
      cases b with
      |true=>
       simp at h
       grind[zKE,zOR]
      |false=>
       simp at h
       grind[zOR,zKE]
     .cases h
    .rename_i I E;exact skip e rfl (by grind[vG]) h
    .cases h
theorem zLD:∀(ds:List Nat) (e:Env Γ.St),qA (zX7 ds) e (killAll ds e):=by
 intro ds
 induction ds with
 |nil=>intro e;exact qA.refl e
 |cons d r a=>intro e;exact(zMN d e).trans (a _)
theorem zVJ(c:P.follows .mixedOrders=Sb)(j:qK Γ P G S.toS){K:Env Γ.St->Nat->Option ρ}(h:zSB P G S ops l e g K=Sa v):∃e' d,(∀(id:Nat) (f:World) (k:Blk->Prop) (i:x5) (a:Act) (w:World) (Q:Exit->Act->World->Prop),
  Inv Γ G f k i a w e->(∀a w,Inv Γ G f k i a w e'->Q .normal a w)->(Code.region id ops Sb).wp P Q a w)/\qA d e e'/\K e' (g|||d)=Sa v:=by
 unfold zSB at h;split at h
 .rename_i m;simp at m;obtain⟨⟨⟨p,q⟩,r⟩,E⟩:=m;rw[yD]at h;obtain⟨n,t,F,u,x⟩:=zLA _ _ _ h;obtain⟨e',y,z,A,B⟩:=zD3 j _ _ _ x;refine⟨e',_|||t|||y,fun id f k i a w Q C D=>zUr c j C p q r (e1:=n) ?_ z D,((zLD _ e).trans u).trans A,?_⟩;all_goals simp_all[Nat.or_assoc,zMp]
 .cases h
variable {J:Type}
theorem qBT{e1:Env J}:∀(l:List Nat) (fl:List Fl),zZt ops e1 l=Sa fl->
  (∀q,q∈fl->q.i∈l/\∃o,ops[q.i]?=Sa o/\o.dst=Sa q.d/\((zZd (e1.get q.d)=Sb/\q.v=.c (e1.get q.d))\/∃s,o.op=.move (.tmp s)/\q.v=.a s))/\∀i,i∈l->∃q,q∈fl/\q.i=i:=by
 intro l
 induction l with
 |nil=>grind[Option.some.injEq,zZt]
 |cons i r k=>
  intro fl h;simp only[zZt]at h;split at h
  .rename_i o m;split at h
   .rename_i d n
    have step:∀f:Fl,f.i=i->f.d=d->((zZd (e1.get d)=Sb/\f.v=.c (e1.get d))\/∃s,o.op=.move (.tmp s)/\f.v=.a s)->(zZt ops e1 r).map (f:: ·)=Sa fl->
      (∀q,q∈fl->q.i∈i::r/\∃o,ops[q.i]?=Sa o/\o.dst=Sa q.d/\((zZd (e1.get q.d)=Sb/\q.v=.c (e1.get q.d))\/∃s,o.op=.move (.tmp s)/\q.v=.a s))/\∀j,j∈i::r->∃q,q∈fl/\q.i=j:=by
     intro f p t u g;simp at g
     grind
    grind
   .cases h
  .cases h
variable {C:List Fl}
theorem zVv:flD C g=Sb↔ ∃q,q∈C/\q.d=g:=by simp only[flD,bq];simp_all
theorem zXy(a:zXz g C=Sb)(f:qD2 C=Sb):zLj g C:=by
 have c:∀l:List Fl,zXz g l=Sb->l.Pairwise (fun p q=>p.d≠q.d)/\∀q,q∈l->q.d<g:=by
  intro l
  induction l with
  |nil=>simp_all
  |cons q r n=>
   intro h;simp only[zXz,am,cM]at h;obtain⟨⟨m,t⟩,i⟩:=h;obtain⟨j,u⟩:=n i;refine⟨bt.2 ⟨?_,j⟩,?_⟩
   .grind[zVv,flD]
   simp_all
 refine⟨(c C a).1,(c C a).2,?_⟩;intro q k s x p y z;have:=au.1 f q k
 grind[Bool.not_eq_true',zVv,flD]
theorem zXe{x:T}(h:noD g x=Sb):jN g x=x:=by
 cases x<;>simp only[noD,jN]at h ⊢ <;>first|rfl|(rw[if_neg];intro a;subst a;simp at h)|(rw[if_neg];rintro(a|a)<;>(subst a;simp at h))
theorem zZR{d:Nat}{e:Env J}(f:∀x,x∈e.tm->noD d x=Sb)(h:∀cs,Sa cs∈e.vars->∀x,x∈cs->noD d x=Sb)(k:e.var d=Sc):e.kill d=e:=by
 obtain⟨tm,vars,st⟩:=e;simp only[Env.kill,Env.mk.injEq,and_true];refine⟨?_,?_⟩
 .exact(bH (fun x a=>zXe (f x a))).trans (dt _)
 .have i:vars.set d Sc=vars:=by
   apply bT
   grind[List.getElem?_eq_getElem,List.getElem?_eq_none,Env.var]
  rw[i];refine(bH (g:=id) ?_).trans (dt _);intro c j
  cases c with
  |none=>rfl
  |some cs=>exact congrArg Sa ((bH (fun x a=>zXe (h cs j x a))).trans (dt _))
theorem qD9{S:vF Γ}{L:j6}(st:Γ.St)(a:isCall o=Sd):evQ L G S { e with st:=st } o=evQ L G S e o:=
 zSh (fun x _=>by cases x<;>rfl) (fun _ _ _ _ _=>rfl) (fun h=>by grind)
theorem qFl{b:Env J}:∀(L:List Fl) (b:Env J) (x:T),x∈(kA b L).tm->x∈b.tm\/(∃q,q∈L/\∃y,q.v=.c y/\x=y)\/x=.dead:=by
 intro L
 induction L with
 |nil=>intro b x h;exact .inl h
 |cons q L a=>
  intro b x h;rcases a (zFr b q) x h with h|⟨r,d,y,f⟩|h;all_goals grind[List.mem_or_eq_of_mem_set,Ah,Af,zFr,Fl.val,Env.get]
theorem zRS{Sp:vF Γ}{ap:Array Nat}(O:qAg ops ap g l){b:Env Γ.St}{m:Nat}(H:zLj I.tm.length C)(k:∀q,q∈C->g.testBit q.i=Sd/\l.testBit q.i=Sb/\∃o,ops[q.i]?=Sa o/\o.dst=Sa q.d/\((zZd (I.get q.d)=Sb/\q.v=.c (I.get q.d))\/∃s,o.op=.move (.tmp s)/\q.v=.a s))(a6:∀q,q∈C->I.var q.d=Sc)(hA:qA m (zG3 I C) b){q:Fl}(hq:q∈C)(av:∀o,ops[q.i]?=Sa o->∃st Q,zGu P G Sp (uZ ops g) I st o Q)(h:qFs ops C m I b q=Sb):zOp P G Sp ops C b q:=by
 intro o p W hp;obtain⟨hC,hU,o',Y,hd,e1⟩:=k q hq;rw[W]at Y;cases Y;have hg:=O.guardC q.i o W (.inr hU);have J:=O.call q.i o W hC hU;obtain⟨d1,d2,d3⟩:=zXT H;have a9:b.tm.length=I.tm.length:=hA.tl.trans d1.len;obtain⟨a1,a2⟩:=zB1 (C.filter p) b I.tm.length (H.filter p) (by omega);have z:=zBh (C.filter p) b;unfold qFs at h;rw[W]at h;simp only at h;rcases e1 with⟨be,hv⟩|⟨s,Z,hv⟩
 .-- a ax
  rw[hv]at h;simp only[am]at h;obtain⟨⟨h1,h2⟩,h3⟩:=h;obtain⟨st,Q,zBS⟩:=av o W;rcases zBS with⟨_,r,ab,_,ay,ad⟩|⟨hw,_⟩
  .obtain⟨g1,g2,g3⟩:=ad q.d hd;have vA:=g1 (H.lt q hq)
   have ag:evQ P G Sp (kA b (C.filter p)) o=Sa r:=by
    rw[<-ab,qD9 st J,<-qD9 (e:=I) (kA b (C.filter p)).st J]
    have D:∀x,x∈o.op.operands->evx G (kA b (C.filter p)) x=evx G I x/\∀s f,evx G I x=.lp s f->(kA b (C.filter p)).var s=I.var s:=by
     intro x A;have Cm:=au.1 h1 x (by simpa using A)
     cases x with
     |tmp t=>
      simp only[qDw,am,bO]at Cm;obtain⟨B,j⟩:=Cm
      have K:∀s f,I.get t=.lp s f->(kA b (C.filter p)).var s=I.var s:=by
       intro s f al;rw[al]at j;simp at j;obtain⟨a0,j⟩:=j;split at j
       .rename_i cs Um;simp only[am,cM]at j
        have L:∃ds:List V,cs=ds.map T.p:=by
         have n:=j.1;clear Um j
         induction cs with
         |nil=>simp_all
         |cons c cs ih=>
          simp only[cU,am]at n;obtain⟨ds,L⟩:=ih n.2
          cases c with
          |p d0=>exact⟨d0::ds,by rw[L];rfl⟩
          |_=>simp at n
        obtain⟨ds,rfl⟩:=L;have a3:=hA.v s ds a0 j.2 (by rw[d1.var];exact Um);rw[z.var,a3,Um]
       .cases j
      refine⟨?_,fun s f hs=>K s f hs⟩;show(kA b (C.filter p)).get t=I.get t;rcases B with Cm|Cm
      .simp only[flC,bq,am]at Cm;obtain⟨M,fl,N,bk⟩:=Cm;have N:=aL N;subst N;obtain⟨_,_,o2,bn,bo,ao⟩:=k M fl
       grind[Fl.val]
      .simp at Cm;obtain⟨bs,E⟩:=Cm
       have F:∀M,M∈C->t≠M.d:=by
        grind[zVv,flD]
       have b0:=d2 t F;have b1:=a1 t (fun M fl=>F M (aU.1 fl).1);split at j
       .rename_i dv b2;have:=hA.p t dv E (by grind)
        grind
       .rename_i s f al;simp at j;have:=hA.lp t s f E j.1 (by grind)
        grind
       .cases j
     |_=>exact⟨rfl,fun s f hs=>by
       grind[evx]⟩
    exact zO4 (fun x A=>(D x A).1) (fun x A s f hs=>(D x A).2 s f (by grind)) rfl
   have an:=zO3 ab J;refine .inl ?_;simp[zLa,ag,hd]
   have u:∀e2:Env Γ.St,e2= { (kA b (C.filter p))with tm:=(kA b (C.filter p)).tm.set q.d (zS5 q.d r) } ->Sa e2=Sa (zFr (kA b (C.filter p)) q):=by
    grind[zFr,Fl.val]
   unfold zAt
   cases hn:r.needs with
   |false=>
    simp only[bP,if_false];apply u
    cases r with
    |ret x=>rfl
    |call _ _ _=>cases an
    |_=>cases hn
   |true=>
    simp only[if_true];unfold qGf at h2;simp only[am]at h2;obtain⟨⟨⟨k1,k2⟩,k3⟩,k4⟩:=h2;have a4:q.d< (kA b (C.filter p)).vars.length:=by rw[z.vars];simpa using k4
    rw[if_pos ⟨a4,by grind⟩]
    have hk:(kA b (C.filter p)).kill q.d=kA b (C.filter p):=by
     refine zZR ?_ ?_ ?_
     .intro x A;rcases qFl (b:=b) _ _ x A with A|⟨M,fl,y,hy,rfl⟩|rfl
      .grind
      .grind
      .rfl
     .intro cs Um x A;rw[z.vars]at Um
      grind
     .rw[z.var];simp_all
    rw[hk];apply u
    cases r with
    |var cs=>grind
    |call _ _ _=>cases an
    |ret x=>cases hn
    |_=>rfl
  grind[vG]
 .-- a bb
  refine .inl ?_;obtain⟨b3,op,bd,b4,a5,guard⟩:=o;simp only at Z hd;subst Z hd;simp only[zLa,evQ,zAt,R.needs,bP,if_false];simp only[zFr,Fl.val,hv];rfl
theorem zLs(h:zL5 P G S e o=Sa i)(d:i j=Sa v):
  ∃e1,(zLa P G S.toS e o=Sa e1\/evW P G e o=Sa e1)/\qA (kE G e o) e e1/\j e1=Sa v:=by
 unfold zL5 at h;split at h
 .rename_i g f;cases h;obtain⟨r,q,a⟩:=zKA f d;split at a
  .rename_i e1 c;refine⟨e1,.inl ?_,?_,a⟩
   .grind[zLa]
   .refine(zIQ c).mono ?_
    grind[zBy,kE]
  .cases a
 .obtain⟨e1,K,k⟩:=zTD h d
  grind[zUE]
theorem zZ8:∀(l:List Nat) (e:Env Γ.St),qA 0 e (frzI l e):=by
 intro l
 induction l with
 |nil=>intro e;exact qA.refl e
 |cons i r a=>intro e;exact((zCH i e).trans (a _)).mono (fun t _=>by simp)
theorem zU4(h:zYU P G S e o=Sa i)(f:i j=Sa v):
  ∃e1,zJb P G S.toS e o e1/\qA (kE G e o) e e1/\j e1=Sa v:=by
 unfold zYU at h;split at h
 .rename_i k q;simp at h;subst h;obtain⟨e1,a,c,d⟩:=zLs q f;exact⟨e1,a.elim .inl (fun h=>.inr (.inl h)),c,d⟩
 .split at h
  .rename_i g;obtain⟨e1,a,c,d⟩:=zLs h f;refine⟨e1,?_,?_,d⟩
   .rcases a with a|a
    .exact .inr (.inr ⟨g,a⟩)
    grind[qB0]
   .rw[zIe g]at c ⊢;exact((zZ8 _ e).trans c).mono (fun t K=>by simpa using K)
  .cases h
theorem qCn:∀{fl:List Fl} {t:Nat},(zDu fl).testBit t=Sd->∀q,q∈fl->t≠2*q.d:=by
 intro fl
 induction fl with
 |nil=>grind
 |cons p r a=>
  intro t h q c;simp[zDu]at h
  grind
theorem zMM:∀(L:List Fl) (e:Env J),qA (zDu L) e (kA e L):=by
 intro L
 induction L with
 |nil=>intro e;exact qA.refl e
 |cons q L a=>intro e;exact(zFS q.d (q.val e) e).trans (a (zFr e q))
theorem zUB{fl:List Fl}(h:∀q,q∈C->∃r,r∈fl/\r.d=q.d)(a:(zDu fl).testBit g=Sd):(zDu C).testBit g=false:=by
 induction C with
 |nil=>simp[zDu]
 |cons q C c=>
  grind[zBy,qFY,Af,qCn,zDu]
theorem zUR{a:Option Nat}{q:Fl}(h:zYE g a q=Sb):zYn g a q:=by
 unfold zYE at h;simp at h;obtain⟨m,c⟩:=h;refine⟨?_,?_⟩
 .intro d;simp_all
 .split at c
  .grind
  .grind
  .cases c
  .rename_i s f;rw[f];intro d;simp_all
theorem zSH{f:Array Nat}(Y:qAg ops f g l)(Z:zLj I.tm.length C)(z:∀q,q∈C->g.testBit q.i=Sd/\l.testBit q.i=Sb/\∃o,ops[q.i]?=Sa o/\o.dst=Sa q.d/\((zZd (I.get q.d)=Sb/\q.v=.c (I.get q.d))\/∃s,o.op=.move (.tmp s)/\q.v=.a s))(N:∀q,q∈C->I.var q.d=Sc)(ab:∀q,q∈C->∀o,ops[q.i]?=Sa o->∃st A,zGu P G S.toS (uZ ops g) I st o A):∀(L:List Nat) (b:Env Γ.St) (m:Nat),
  zKk P G S ops f C I L b m a1=Sa v->qA m (zG3 I C) b->(∀t,m.testBit t=Sd->(zDu C).testBit t=Sd)->
  ∃n M,zKu P G S.toS ops f C L b n/\qA M (zG3 I C) (kA n C)/\(∀t,M.testBit t=Sd->(zDu C).testBit t=Sd)/\a1 (kA n C) M=Sa v:=by
 intro L
 induction L with
 |nil=>
  intro b m h B O;simp only[zKk]at h;rw[yD]at h;exact⟨b,_,.nil b,B.trans (zMM C b),fun t p=>((zBy _ _ _).1 p).2,h⟩
 |cons c Q ih=>
  intro b m h B O;simp only[zKk]at h;split at h
  .rename_i o ho;rw[yD]at h;split at h
   .rename_i k;simp only[am]at k;obtain⟨r,j⟩:=k;split at h
    .rename_i q fl;obtain⟨W,h1,h2,x⟩:=zU4 fl h;rw[zR2]at x;split at x
     .rename_i D;have E:qA (m|||(zDu C|||kE G (kA b (C.filter (zZ2 f c))) o)) (zG3 I C) W:=by have u:qA (zDu C) b (kA b (C.filter (zZ2 f c))):=(zMM _ b).mono (fun t p=>zUB (fun q fl=>⟨q,(aU.1 fl).1,rfl⟩) p);exact B.trans (u.trans h2)
      obtain⟨n,M,g1,g2,g3,g4⟩:=ih W _ x E (fun t p=>O t ((zBy _ _ _).1 p).1);refine⟨n,M,.cons ho h1 ?_ ?_ ?_ g1,g2,g3,g4⟩
      .intro q y F;have H:=au.1 r (.tmp q.d) (by simpa using F);have e1:=au.1 H q y;simpa[zZ2]using e1
      .intro q y;exact zUR (au.1 j q y)
      .intro q y J;have F:=au.1 D q y;rw[show zZ2 f c q=Sd from J,bY]at F
       grind[zRS]
     .cases x
    .cases h
   .cases h
  .cases h
theorem zVQ(B:P.follows .mixedOrders=Sb)(hS:qK Γ P G S.toS){lg:Nat}{K:Env Γ.St->Nat->Option ρ}(h:zZS P G S ops g l e lg K=Sa v):∃e' d,(∀(id:Nat) (L:World) (N:Blk->Prop) (O:x5) (a:Act) (w:World) (Q:Exit->Act->World->Prop),
  Inv Γ G L N O a w e->(∀a w,Inv Γ G L N O a w e'->Q .normal a w)->(Code.region id ops Sb).wp P Q a w)/\qA d e e'/\K e' (lg|||d)=Sa v:=by
 unfold zZS at h;split at h
 .rename_i C;have Um:=qFR C;rw[yD]at h;obtain⟨j,d1,h1,h2,A⟩:=zLA _ _ _ h;split at A
  .rename_i m W;split at A
   .rename_i hc;simp only[am]at hc;obtain⟨⟨⟨c1,c2⟩,c3⟩,c4⟩:=hc;have f:=zXy c1 c2;obtain⟨s1,s2⟩:=qBT _ _ W
    have u:∀q,q∈m->g.testBit q.i=Sd/\l.testBit q.i=Sb/\∃o,ops[q.i]?=Sa o/\o.dst=Sa q.d/\((zZd (j.get q.d)=Sb/\q.v=.c (j.get q.d))\/∃s,o.op=.move (.tmp s)/\q.v=.a s):=by
     grind
    have n:∀q,q∈m->j.var q.d=none:=fun q k=>dg.1 (au.1 c3 q k);have Y:=zSL Um.st 0 (uZ ops g).toList (by simp)
    have Z:∀d,d∈qY (uZ ops g).toList->(killAll (qY (uZ ops g).toList) e).var d=none:=by
     intro d hd
     cases J:(killAll (qY (uZ ops g).toList) e).var d with
     |none=>rfl
     |some cs=>exact absurd ⟨cs,J⟩ (zB5 _ e d hd).1
    obtain⟨al,_,_,p,_,_,_⟩:=zIJ _ _ _ h1 Y Z;have x:∀q,q∈m->∀o,ops[q.i]?=Sa o->∃st D,zGu P G S.toS (uZ ops g) j st o D:=by intro q k o ho;exact⟨_,_,p q.i o (by grind[zAl])⟩
    rw[yD]at A
    have y:qA (zDu m) j (zG3 j m):=(zMM _ j).mono (fun t E=>zUB (fun q k=>by
     grind) E)
    have F:qA (zDu m) (zG3 j m) (zG3 j m):=(qA.refl _).mono (fun t _=>by simp);obtain⟨b',M,g1,g2,g3,g4⟩:=zSH Um f u n x _ _ _ A F (fun t E=>E)
    have ab:∀q,q∈m->j.get q.d=q.val j/\j.var q.d=none:=by
     intro q k;refine⟨?_,n q k⟩;obtain⟨hC,hU,o,ho,hd,z⟩:=u q k;rcases z with⟨_,J⟩|⟨s,ad,J⟩
     .grind[Fl.val]
     .obtain⟨st,D,zBS⟩:=x q k o ho;have hg:=Um.guardC q.i o ho (.inr hU);rcases zBS with⟨_,r,H,_,_,I⟩|⟨hw,_⟩
      .obtain⟨k1,_,_⟩:=I q.d hd;rw[k1 (f.lt q k)];simp[evQ,ad]at H;subst H;unfold Fl.val;rw[J];rfl
      grind[vG]
    refine⟨kA b' m,(zX7 (qY (uZ ops g).toList)|||d1)|||M,?_,?_,?_⟩
    .intro id L N O a w Q hi hQ;refine qCj B Um hS hi h1 f ?_ ?_ ab ?_ g1 hQ
     .simp_all
     .grind
     .intro q k;exact zRS Um f u n F k (x q k) (au.1 c4 q k)
    .have ag:qA M j (kA b' m):=(y.mono (fun t E=>g3 t E)).same g2;exact((zLD _ e).trans h2).trans ag
    grind
   .cases A
  .cases A
 .cases h
variable {a2:Option (List (Nat×Nat×Nat))}
theorem zJG(i:P.follows .mixedOrders=Sb)(u:qK Γ P G S.toS){d:Bool}{K:Env Γ.St->Nat->Option ρ}{id:Nat}(h:zWX P G S ops d a2 e g K=Sa v):
  ∃e' n,vJ P G (.region id ops d) e .normal e'/\qA n e e'/\K e' (g|||n)=Sa v:=by
 have c:∀(e:Env Γ.St) (g k:Nat),zSB P G S ops k e g K=Sa v->∃e' n,vJ P G (.region id ops Sb) e .normal e'/\qA n e e'/\K e' (g|||n)=Sa v:=by intro e g k h;obtain⟨x,n,j,l,t⟩:=zVJ i u h;exact⟨x,n,fun m p q a w r=>j id m p q a w _ r (fun a w h=>⟨rfl,h⟩),l,t⟩
 unfold zWX at h;split at h
 .have y:(∃e' d,zLi P G ops ops.toList e e'/\qA d e e'/\K e' (g|||d)=Sa v)->∃e' n,vJ P G (.region id ops Sd) e .normal e'/\qA n e e'/\K e' (g|||n)=Sa v:=by
   rintro⟨x,n,j,l,t⟩;refine⟨x,n,?_,l,t⟩;intro m p q a w r;refine wp_region ?_;have:=qAt (Q:=fun z A B=>z=X.toExit .normal/\Inv Γ G m p q A B x) ops 0 ops.toList e x a w (by simp) j r (fun a w h=>⟨rfl,h⟩)
   grind[List.range_eq_range']
  grind[zD3,zWI,zWJ]
 .split at h
  .exact c e g _ h
  .rw[yD]at h;obtain⟨x,n,j,l,t⟩:=c _ _ _ h;exact⟨x,_,fun m p q a w r=>j m p q a w (Inv.frzOps _ _ r),(zFK _ e).trans l,by grind⟩
  .split at h
   .exact c e g _ h
   .grind
   .rw[yD]at h;obtain⟨x,n,j,l,t⟩:=zVQ i u h;exact⟨x,_,fun m p q a w r=>j id m p q a w _ (Inv.frzOps _ _ r) (fun a w h=>⟨rfl,h⟩),(zFK _ e).trans l,by grind⟩
theorem qBU(a b:Nat):qEK (zWW a b):=⟨fun _=>rfl,fun _ _=>rfl,rfl⟩
theorem zYV:∀(l:List (Nat×Nat×Nat)) (e:Env Γ.St),qBl l e j=Sa v->∃e',qA 0 e e'/\j e'=Sa v/\∀(c:World) (d:Blk->Prop) (f:x5) (a:Act) (w:World),Inv Γ G c d f a w e->Inv Γ G c d f a w e':=by
 intro l
 induction l with
 |nil=>intro e h;exact⟨e,qA.refl e,h,fun _ _ _ _ _ h=>h⟩
 |cons x r g=>
  intro e h;obtain⟨a,b,n⟩:=x;simp only[qBl]at h;split at h
  .split at h
   .rename_i q;rw[yD]at h;obtain⟨e',i,K,k⟩:=g _ h
    exact⟨e',(zCs (qBU a b) e).same i,K,fun c d f m w p=>k c d f m w (by
     simp at q
     exact p.ren q.1 (fun h=>by simp_all) (fun h=>by simp_all))⟩
   .cases h
  .rw[yD]at h;obtain⟨e',i,K,k⟩:=g _ h;exact⟨e',(zCH _ e).same i,K,fun c d f m w p=>k c d f m w (p.frzOE _)⟩
  .exact g e h
theorem zRz(c:P.follows .mixedOrders=Sb)(f:qK Γ P G S.toS){d:Bool}{K:Env Γ.St->Nat->Option ρ}{id:Nat}(h:qFh P G S ops d a2 e g K=Sa v):
  ∃e' n,vJ P G (.region id ops d) e .normal e'/\qA n e e'/\K e' (g|||n)=Sa v:=by
 unfold qFh at h;split at h
 .exact zJG c f h
 .exact zJG c f h
 .obtain⟨D,n,p,q,r⟩:=zJG c f (id:=id) h;obtain⟨u,x,y,z⟩:=zYV (G:=G) _ _ r;refine⟨u,n,?_,q.same (x.mono (fun t _=>by simp)),y⟩;intro i j k a w A;exact wp_mono (p i j k a w A) (fun E B C l=>⟨l.1,z i j k B C l.2⟩)
end
end Go.Ve

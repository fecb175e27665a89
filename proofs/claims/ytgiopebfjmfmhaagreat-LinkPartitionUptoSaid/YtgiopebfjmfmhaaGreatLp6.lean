/- law16 -/
import Derived.Test.YtgiopebfjmfmhaaGreatLp5
set_option linter.unusedVariables false
open Option renaming some->Sa,none->Sc
open Bool renaming true->Sb,false->Sd
open Go.Builtin renaming zeroCells->Aa,firstCells->Ab,append_->Ac,nextslicecap->Ae,growBy->Af,lenOf->Ah
open Go.Region renaming binds->Ad,before->Aj,wanted->Ak
open List renaming range->Ag,all_eq_true->Ai
namespace Go.Ve
open Go
def zKP(ops:Array Oper)(a:Array Nat)(i:Nat)(o:Oper):Bool:=
 o.after.all (fun e=> !Ad .any e||decide (e.on<i))&&
 (o.looksAt ops).all (fun t=>(Ag ops.size).all fun j=>match ops[j]? with
  |some c=> !(c.dst==Sa t)||o.after.any (fun e=>Ad .any e&&e.on==j)
  |none=>Sb)&&
 (Ag i).all (fun j=>match ops[j]? with
  |some c=> !(c.dst.isSome&&c.dst==o.dst)&&(!(isCall c&&isCall o)||(a.getD i 0).testBit j)
  |none=>Sb)&&
 (!isCall o||(Ag i).all fun j=> !(a.getD i 0).testBit j||o.after.any (fun e=>Ad .any e&&(e.on==j||(a.getD e.on 0).testBit j)))
def qEE(ops:Array Oper)(a:Array Nat):Bool:=
 (Ag ops.size).all fun i=>match ops[i]? with
  |some o=>(Ag i).all fun j=> !(a.getD i 0).testBit j||o.after.any (fun e=>Ad .any e&&decide (e.on<i)&&(e.on==j||(decide (j<e.on)&&(a.getD e.on 0).testBit j)))
  |none=>Sb
def zPh(ops:Array Oper):Bool:=
 let a:=if(ops.toList.filter isCall).length<=1 then #[]else Aj ops
 qEE ops a&&(Ag ops.size).all fun i=>match ops[i]? with
  |some o=>zKP ops a i o
  |none=>Sb
section
variable {ops:Array Oper}
structure zSO(ops:Array Oper):Prop where
 edge:∀(i:Nat) (o:Oper) (e:Edge),ops[i]?=Sa o->e∈o.after->Ad .any e=Sb->e.on<i
 look:∀(i:Nat) (o:Oper) (t j:Nat) (oj:Oper),ops[i]?=Sa o->t∈o.looksAt ops->ops[j]?=Sa oj->oj.dst=Sa t->∃e,e∈o.after/\Ad .any e=Sb/\e.on=j
 dist:∀(i j:Nat) (o oj:Oper) (d:Nat),ops[i]?=Sa o->ops[j]?=Sa oj->o.dst=Sa d->oj.dst=Sa d->i=j
 call:∀(listed:Nat->Prop),(∀(i:Nat) (o:Oper) (e:Edge),ops[i]?=Sa o->listed i->e∈o.after->Ad .any e=Sb->listed e.on)->
  ∀(i j:Nat) (o oj:Oper),ops[i]?=Sa o->ops[j]?=Sa oj->isCall o=Sb->isCall oj=Sb->j<i->listed i->listed j
theorem zTI(h:zPh ops=Sb):zSO ops:=by
 unfold zPh at h;simp only[am]at h;obtain⟨m,q⟩:=h;generalize (if(ops.toList.filter isCall).length<=1 then #[]else Aj ops)=r at m q
 have c:∀i o,ops[i]?=Sa o->zKP ops r i o=true:=by
  grind
 have y:∀(a:Nat->Prop),(∀(i:Nat) (o:Oper) (e:Edge),ops[i]?=Sa o->a i->e∈o.after->Ad .any e=Sb->a e.on)->
   ∀(i:Nat) (o:Oper) (j:Nat),ops[i]?=Sa o->j<i->(r.getD i 0).testBit j=Sb->a i->a j:=by
  intro a g i
  induction i using Nat.strongRecOn with
  |_ i K=>
   intro o j k l u B;have hlt:i<ops.size:=(ar.1 k).1;have f:=au.1 m i (aV.2 hlt);simp only[k]at f;have n:=au.1 f j (aV.2 l);simp only[u,bI,bY,dh,am,bO,decide_eq_true_eq,beq_iff_eq]at n;obtain⟨e,D,⟨E,F⟩,p⟩:=n
   grind
 refine⟨?_,?_,?_,?_⟩
 .intro i o e k D E;have f:=c i o k;simp only[zKP,am]at f
  grind[Array.all_eq_true_iff_forall_mem]
 .intro i o t j x k H p C;have f:=c i o k;simp only[zKP,am]at f;have n:=au.1 f.1.1.2 t H;have hlt:j<ops.size:=(ar.1 p).1;have I:=au.1 n j (aV.2 hlt);simp only[p,C,BEq.rfl,bI,bY,dh,am,beq_iff_eq]at I;omega
 .have hlt:∀(i j:Nat) (o x:Oper) (d:Nat),ops[i]?=Sa o->ops[j]?=Sa x->o.dst=Sa d->x.dst=Sa d->j<i->False:=by
   intro i j o x d k p C J l;have f:=c i o k;simp only[zKP,am]at f
   grind
  grind
 .intro a g i j o x k p z A l B;have f:=c i o k;simp only[zKP,am]at f;have n:=au.1 f.1.2 j (aV.2 l);simp only[p,z,A,Bool.and_true,bI,bY,am]at n;exact y a g i o j k l n.2 B
theorem zSL(k:zSO ops):∀(n:Nat) (l:List Oper),ops.toList.drop n=l->qEO (ops:=ops) l:=by
 intro n l
 induction l generalizing n with
 |nil=>intro _;trivial
 |cons o a x=>
  intro C
  have m:∀i,ops[n+i]?=(o::a)[i]? :=by
   grind
  have p:ops[n]?=Sa o:=by have:=m 0;simpa using this
  have g:∀t,t∈qY (o::a)->∃i f,ops[n+i]?=Sa f/\f.dst=Sa t:=by intro t j;simp only[qY,br]at j;obtain⟨f,q,h⟩:=j;obtain⟨i,y,rfl⟩:=aC q;exact⟨i,_,by grind,h⟩
  refine⟨?_,?_,x (n+1) ?_⟩
  .intro t j c;obtain⟨i,f,r,h⟩:=g t c;obtain⟨e,z,A,B⟩:=k.look n o t (n+i) f p j r h;have:=k.edge n o e p z A;omega
  .intro d h c;simp[qY]at c;obtain⟨f,q,u⟩:=c;obtain⟨i,y,rfl⟩:=aC q;have r:ops[n+(i+1)]?=Sa a[i]:=by simp_all
   have:=k.dist n (n+(i+1)) o _ d p r h u;omega
  grind[List.tail_drop]
end
section
variable {Γ:Sig}{P:Program}{G:Nat->Option (List V)}{S:vF Γ}{w0:World}{F0:Blk->Prop}{O0:x5}{ops:Array Oper}{e':Env Γ.St}{sts:Nat->Γ.St}
def zLE(ops:Array Oper)(a:Array Bool)(t:Nat):Prop:= ∀(i:Nat) (o:Oper),ops[i]?=Sa o->a.getD i Sb=Sd->o.dst≠Sa t
structure qCA(Γ:Sig)(G:Nat->Option (List V))(w0:World)(F0:Blk->Prop)(O0:x5)(ops:Array Oper)(e':Env Γ.St)(sts:Nat->Γ.St)(listed:Array Bool)(a:Act)(w:World)
  (F:Blk->Prop) (O:Nat->Prop) (β:Lay) (al:v6->Prop) (m:Nat):Prop where
 core:zDx Γ w0 F0 O0 w F O β al (sts m)
 g:zOo G w F
 size:a.tmps.size=e'.tm.length
 defers:a.defers=[]
 tm:∀t,zLE ops listed t->zY w F β al (a.tmps.getD t undef) (e'.get t)
 var:∀s cs,e'.var s=Sa cs->al (.v s)->w6 w F β al (β.vb s) cs
 lp:∀s,al (.v s)->∃cs,e'.var s=Sa cs
 vk:∀s cs,e'.var s=Sa cs->zLE ops listed s->al (.v s)
 fresh:∀(i:Nat) (o:Oper) (d:Nat),ops[i]?=Sa o->listed.getD i Sb=Sd->o.dst=Sa d->¬al (.v d)/\¬al (.o d)
 mle:m<=ops.size
 calls:∀(i:Nat) (o:Oper),ops[i]?=Sa o->isCall o=Sb->(listed.getD i Sb=Sb↔i<m)
theorem zKw{w:World}{F:Blk->Prop}{β:Lay}{al:v6->Prop}{a:Act}{o:Oper}{b:Bool}(l:∀t,t∈o.looksAt ops->zY w F β al (a.tmps.getD t undef) (e'.get t))(m:a.tmps.size=e'.tm.length)
  (h:vG ops e' o=Sa b):Ak o (yielded ops a.tmps)=b:=by
 unfold vG at h;unfold Ak
 cases f:o.guard with
 |none=>grind
 |some n=>
  obtain⟨j,g⟩:=n;simp only[f]at h ⊢;unfold yielded
  cases i:(ops[j]?).bind (·.dst)with
  |none=>grind
  |some t=>
   simp only[i]at h;have c:=l t (by simp[Oper.looksAt,f,i]);split at h
   .rename_i p d;split at h
    .rename_i hlt;rw[d]at c;have k:=Rd.eq_val c;simp_all
    .cases h
   .rename_i q e;rw[e]at c;have k:=Rd.eq_val c;cases h;rw[bf]at k
    grind
   .cases h
theorem vW(a:Array Bool)(i j:Nat)(hi:i<a.size):(a.setIfInBounds i Sb).getD j Sb=if j=i then Sb else a.getD j true:=by
 simp only[bf]
 grind
theorem qFI{a:Array Bool}{i:Nat}(hi:i<a.size):a.getD i Sd=a.getD i true:=by
 grind
theorem zTV(ag:zSO ops)(hS:qK Γ P G S)
  (D:∀(i:Nat) (o:Oper),ops[i]?=Sa o->zGu P G S ops e' (sts i) o (sts (i+1)))
  {c:Array Bool} {a:Act} {w:World} {F:Blk->Prop} {O:Nat->Prop} {β:Lay} {al:v6->Prop} {m:Nat} (l:qCA Γ G w0 F0 O0 ops e' sts c a w F O β al m)
  (ch:c.size=ops.size)
  (av:∀(i:Nat) (o:Oper) (e:Edge),ops[i]?=Sa o->c.getD i Sb=Sb->e∈o.after->Ad .any e=Sb->c.getD e.on Sb=Sb)
  {i:Nat} {o:Oper} (ho:ops[i]?=Sa o) (bo:c.getD i Sb=Sd) (bs:∀e,e∈o.after->Ad .any e=Sb->c.getD e.on Sb=Sb)
  {K:Act->World->Prop} {Q:Exit->Act->World->Prop}
  (hK:∀a' w' F' O' β' al' H,qCA Γ G w0 F0 O0 ops e' sts (c.setIfInBounds i Sb) a' w' F' O' β' al' H->K a' w'):wpOp P ops Q i K a w:=by
 have C:i<c.size:=by grind
 have ax:∀t,t∈o.looksAt ops->zLE ops c t:=by
  intro t L j n z E u;obtain⟨e,he,hb,ck⟩:=ag.look i o t j n ho L z u
  grind
 have ab:∀t,zLE ops (c.setIfInBounds i Sb) t->o.dst≠Sa t->zLE ops c t:=by
  intro t L b0 j n z E;by_cases p:j=i
  .grind
  .exact L j n z (by rw[vW _ _ _ C,if_neg p];exact E)
 have cl:∀t,o.dst=Sa t->∀j n,ops[j]?=Sa n->(c.setIfInBounds i Sb).getD j Sb=Sd->n.dst≠Sa t:=by intro t L j n z E u;have:=ag.dist i j o n t ho z L u;simp_all
 have an:∀j n d,ops[j]?=Sa n->(c.setIfInBounds i Sb).getD j Sb=Sd->n.dst=Sa d->j≠i/\c.getD j Sb=false:=by
  intro j n d z E u;by_cases p:j=i
  .grind
  .rw[vW _ _ _ C,if_neg p]at E;grind
 have a4:∀(ao:Bool),isCall o=ao->∃H,(∀j n,ops[j]?=Sa n->isCall n=Sb->((c.setIfInBounds i Sb).getD j Sb=Sb↔j<H))/\H<=ops.size/\
   (ao=Sd->H=m)/\(ao=Sb->H=i+1/\m<=i/\∀j n,m<=j->j<i->ops[j]?=Sa n->isCall n=Sd):=by
  intro ao hc
  cases ao with
  |false=>
   refine⟨m,?_,l.mle,fun _=>rfl,fun h=>by cases h⟩;intro j n z M;have p:j≠i:=fun hh=>by grind
   rw[vW _ _ _ C,if_neg p];exact l.calls j n z M
  |true=>
   have b1:m<=i:=by
    rcases a8 i m with h|h
    .have:=(l.calls i o ho hc).2 h;grind
    .exact h
   refine⟨i+1,?_,by omega,(fun h=>by cases h),fun _=>⟨rfl,b1,?_⟩⟩
   .intro j n z M;rw[vW _ _ _ C];constructor
    .intro h;by_cases p:j=i
     .omega
     .rw[if_neg p]at h;rcases a8 j i with h'|h'
      .omega
      .exfalso;have:=ag.call (fun k=>c.getD k Sb=Sb) av j i n o z ho M hc (by omega) h
       grind
    .intro h;by_cases p:j=i
     .rw[if_pos p]
     .rw[if_neg p]
      have h1:=ag.call (fun k=>(c.setIfInBounds i Sb).getD k Sb=Sb) (by
       intro i' o' e b2 ay he hb;rw[vW _ _ _ C]at ay ⊢
       grind) i j o n ho z hc M (by omega) (by rw[vW _ _ _ C,if_pos rfl])
      rw[vW _ _ _ C,if_neg p]at h1;exact h1
   .intro j n cp p z
    cases M:isCall n with
    |false=>rfl
    |true=>
     exfalso
     have h1:=ag.call (fun k=>(c.setIfInBounds i Sb).getD k Sb=Sb) (by
       intro i' o' e b2 ay he hb;rw[vW _ _ _ C]at ay ⊢
       grind) i j o n ho z hc M p (by rw[vW _ _ _ C,if_pos rfl])
     rw[vW _ _ _ C,if_neg (by omega)]at h1;have:=(l.calls j n z M).1 h1;omega
 unfold wpOp;simp only[ho];rcases D i o ho with⟨hw,r,a5,a6,A,Y⟩|⟨hw,a6,Y⟩
 .rw[zKw (fun t L=>l.tm t (ax t L)) l.size hw,if_pos rfl];refine .inl ?_
  have a9:∀x,x∈o.op.operands->zY w F β al (a.eval x) (evx G ({ e' with st:=sts i } :Env Γ.St) x):=by
   intro x hx
   cases x with
   |tmp t=>exact l.tm t (ax t (cO _ (br.2 ⟨.tmp t,by simpa using hx,rfl⟩)))
   |const v=>exact zNj w F v
   |global g=>
    simp[evx,Act.eval];split
    .rename_i cs hg;exact l.g g cs hg
    .exact Rd.val _
   |func f=>exact Rd.clo f #[] [] rfl (fun i x d h=>by simp at h)
  have bb:=qAT (e:= { e' with st:=sts i }) hS l.core.sig (fun s cs I ha=>l.var s cs I ha) a9 a5;have b3:∀x,al x->β.blk x<w.heap.size/\¬O (β.blk x):=fun x hx=>⟨(l.core.place x hx).2.1,(l.core.place x hx).2.2.2⟩
  obtain⟨H,B,a0,b4,b5⟩:=a4 (isCall o) rfl
  have Z:zDU Γ P S o a w F β al al (sts m) r/\zPG (sts m) r=sts H:=by
   cases hc:isCall o with
   |false=>
    have bd:=zO3 a5 hc;rw[b4 hc];refine⟨?_,zCW bd _⟩
    cases r with
    |call _ _ _=>cases bd
    |_=>exact bb
   |true=>
    obtain⟨h1,h2,h3⟩:=b5 hc
    have y:∀k,m+k<=i->sts (m+k)=sts m:=by
     intro k
     induction k with
     |zero=>intro _;rfl
     |succ k ih=>
      intro hk;have hlt:m+k<ops.size:=by omega
      have z:ops[m+k]?=Sa ops[m+k]:=by simp[hlt]
      have b6:=h3 (m+k) _ (by omega) (by omega) z;rw[<-ih (by omega)];rcases D (m+k) _ z with⟨_,r',be,N,_,_⟩|⟨_,N,_⟩
      all_goals grind[Nat.add_assoc,zCW,zO3]
    have cq:sts i=sts m:=by grind[Nat.add_sub_cancel']
    grind
  refine zNq hS l.g l.core b3 Z.1 (d:=o.dst.getD 0) (fun hn=>by grind) (fun hn=>?_) ?_
  .obtain⟨d,u,a1⟩:=A hn;have:=l.fresh i o d ho bo u
   grind
  .intro v w' F' O' β' al' q;have bk:=Z.2;refine hK _ _ F' O' β' al' H ⟨by rw[<-bk];exact q.core,l.g.ext q.ext,?_,?_,?_,?_,?_,?_,?_,a0,B⟩
   .cases u:o.dst<;>simp[Act.put,l.size]
   .cases u:o.dst<;>exact l.defers
   .intro t L
    cases u:o.dst with
    |none=>
     exact(l.tm t (ab t L (by rw[u];simp))).ext q.ext
    |some d=>
     rw[zBb];split
     .rename_i W;obtain⟨rfl,hlt⟩:=W;have:=(Y t u).1 (l.size▸hlt);rw[this];have cf:=q.res
      grind
     .rename_i W;by_cases J:t=d
      .have cc:¬d<a.tmps.size:=fun hh=>W ⟨J,hh⟩;have:e'.get t=.dead:=by simp[Env.get];rw[bB (by rw[<-l.size,J];omega)];rfl
       rw[this];trivial
      .exact(l.tm t (ab t L (by grind))).ext q.ext
   .intro s cs I hs;rcases q.new (.v s) hs with h|⟨hn,⟨y,ad,hk⟩|⟨y,_⟩⟩
    .have hb:β'.vb s=β.vb s:=q.ext.b (.v s) h;rw[hb];exact(l.var s cs I h).ext q.ext (q.ext.ha (.v s) h)
    .obtain⟨d,u,a1⟩:=A hn;simp[u]at y;subst y;have h1:=(Y s u).2.1 ad hk;rw[I]at h1;cases h1;have:=q.var cs hk
     grind
    .cases y
   .intro s hs;rcases q.new (.v s) hs with h|⟨hn,⟨y,ad,hk⟩|⟨y,_⟩⟩
    .exact l.lp s h
    all_goals grind
   .intro s cs I a2;by_cases u:o.dst=Sa s
    .by_cases hv:∃ad,r=.var ad
     .obtain⟨ad,hk⟩:=hv;have:=(q.var ad hk).1
      grind
     grind
    .exact q.ext.a _ (l.vk s cs I (ab s a2 u))
   .intro j n d z E u;obtain⟨p,ap⟩:=an j n d z E u;have hf:=l.fresh j n d z ap u
    have b0:∀d',o.dst=Sa d'->d'≠d:=fun d' bn hh=>by
     grind
    refine⟨fun hh=>?_,fun hh=>?_⟩
    .rcases q.new _ hh with h|⟨hn,⟨y,_⟩|⟨y,_⟩⟩
     .exact hf.1 h
     .obtain⟨d',bn,a1⟩:=A hn
      grind
     .cases y
    .rcases q.new _ hh with h|⟨hn,⟨y,_⟩|⟨y,_⟩⟩
     .exact hf.2 h
     .cases y
     .obtain⟨d',bn,a1⟩:=A hn
      grind
 .rw[zKw (fun t L=>l.tm t (ax t L)) l.size hw];simp only[bP,if_false]
  have a0:∃H,(∀j n,ops[j]?=Sa n->isCall n=Sb->((c.setIfInBounds i Sb).getD j Sb=Sb↔j<H))/\H<=ops.size/\sts H=sts m:=by
   obtain⟨H,h1,h2,h3,h4⟩:=a4 (isCall o) rfl;refine⟨H,h1,h2,?_⟩
   cases hc:isCall o with
   |false=>rw[h3 hc]
   |true=>
    obtain⟨g1,g2,g3⟩:=h4 hc
    have y:∀k,m+k<=i->sts (m+k)=sts m:=by
     intro k
     induction k with
     |zero=>intro _;rfl
     |succ k ih=>
      intro hk;have hlt:m+k<ops.size:=by omega
      have z:ops[m+k]?=Sa ops[m+k]:=by simp[hlt]
      have b6:=g3 (m+k) _ (by omega) (by omega) z;rw[<-ih (by omega)];rcases D (m+k) _ z with⟨_,r',be,N,_,_⟩|⟨_,N,_⟩
      all_goals grind[Nat.add_assoc,zCW,zO3]
    grind[Nat.add_sub_cancel']
  obtain⟨H,B,a3,Z⟩:=a0;refine hK _ _ F O β al H ⟨by rw[Z];exact l.core,l.g,?_,?_,?_,l.var,l.lp,?_,?_,a3,B⟩
  .cases u:o.dst<;>simp[Act.put,l.size]
  .cases u:o.dst<;>exact l.defers
  .intro t L
   cases u:o.dst with
   |none=>exact l.tm t (ab t L (by rw[u];simp))
   |some d=>
    rw[zBb];split
    .rename_i W;obtain⟨rfl,hlt⟩:=W;rw[(Y t u).1 (l.size▸hlt)];exact Rd.val _
    .rename_i W;by_cases J:t=d
     .have cc:¬d<a.tmps.size:=fun hh=>W ⟨J,hh⟩;have:e'.get t=.dead:=by simp[Env.get];rw[bB (by rw[<-l.size,J];omega)];rfl
      rw[this];trivial
     .exact l.tm t (ab t L (by grind))
  .intro s cs I a2;by_cases u:o.dst=Sa s
   .grind
   .exact l.vk s cs I (ab s a2 u)
  .intro j n d z E u;obtain⟨p,ap⟩:=an j n d z E u;exact l.fresh j n d z ap u
end
section
variable {Γ:Sig}{P:Program}{G:Nat->Option (List V)}{S:vF Γ}{w0:World}{F0:Blk->Prop}{O0:x5}{ops:Array Oper}{a:Act}{w:World}{e e':Env Γ.St}{sts:Nat->Γ.St}
theorem Inv.kill(h:Inv Γ G w0 F0 O0 a w e)(d:Nat):Inv Γ G w0 F0 O0 a w (e.kill d):=by
 obtain⟨F,O,β,k,l,m,j,q,n⟩:=h;refine Inv.of (al:=alm d (zT e)) (k.anti (fun x hx=>hx.1)) l (by grind[Env.kill]) j (fun t=>by grind[zKJ,zY.kill]) ?_ ?_
 .intro s p c;rw[zAc]at c;split at c
  .cases c
  .rename_i g;simp at c;obtain⟨i,f,rfl⟩:=c;exact⟨⟨⟨i,f⟩,by simpa using g,by simp⟩,w6.kill (n s i f)⟩
 .rintro s ⟨⟨p,c⟩,g,_⟩;simp_all[zAc]
def killAll(ds:List Nat)(e:Env Γ.St):Env Γ.St:=ds.foldl (fun e d=>e.kill d) e
theorem zXo{d:Nat}{x:T}:¬(jN d x).hasO d:=by cases x<;>simp only[jN]<;>(try split)<;>simp_all[T.hasO]
theorem zRY(d:Nat):¬zT (e.kill d) (.v d)/\¬zT (e.kill d) (.o d):=by
 refine⟨?_,?_⟩
 .rintro⟨g,c⟩;rw[zAc,if_pos rfl]at c;cases c
 .rintro⟨x,f,hid⟩;rcases f with f|⟨s,g,c,f⟩
  .simp[Env.kill]at f;obtain⟨y,_,rfl⟩:=f;exact zXo hid
  .rw[zAc]at c;split at c
   .cases c
   .simp at c;obtain⟨h,_,rfl⟩:=c;simp at f;obtain⟨y,_,rfl⟩:=f;exact zXo hid
theorem zT5{d c:Nat}{x:T}(h:(jN d x).hasO c):x.hasO c:=by cases x<;>simp only[jN]at h<;>(try split at h)<;>simp_all[T.hasO]
theorem qBE(d:Nat)(x:v6)(h:zT (e.kill d) x):zT e x:=by
 cases x with
 |v s=>
  obtain⟨k,c⟩:=h;rw[zAc]at c;split at c
  .cases c
  .simp at c;obtain⟨f,i,_⟩:=c;exact⟨f,i⟩
 |o id=>
  obtain⟨x,g,hid⟩:=h;rcases g with g|⟨s,k,c,g⟩
  .simp[Env.kill]at g;obtain⟨y,j,rfl⟩:=g;exact⟨y,.inl j,zT5 hid⟩
  .rw[zAc]at c;split at c
   .cases c
   .simp at c;obtain⟨f,i,rfl⟩:=c;simp at g;obtain⟨y,j,rfl⟩:=g;exact⟨y,.inr ⟨s,f,i,j⟩,zT5 hid⟩
theorem zNI:∀(ds:List Nat) (e:Env Γ.St) (x:v6),zT (killAll ds e) x->zT e x:=by
 intro ds
 induction ds with
 |nil=>intro e x h;exact h
 |cons d ds c=>intro e x h;exact qBE d x (c (e.kill d) x h)
theorem zB5:∀(ds:List Nat) (e:Env Γ.St) (d:Nat),d∈ds->¬zT (killAll ds e) (.v d)/\¬zT (killAll ds e) (.o d):=by
 intro ds
 induction ds with
 |nil=>grind
 |cons f ds g=>
  intro e d h;rcases bi.1 h with rfl|h
  .exact⟨fun c=>(zRY d).1 (zNI ds _ _ c),fun c=>(zRY d).2 (zNI ds _ _ c)⟩
  .exact g (e.kill f) d h
theorem Inv.killAll:∀(ds:List Nat) (e:Env Γ.St),Inv Γ G w0 F0 O0 a w e->Inv Γ G w0 F0 O0 a w (Ve.killAll ds e):=by
 intro ds
 induction ds with
 |nil=>intro e h;exact h
 |cons d ds c=>intro e h;exact c (e.kill d) (h.kill d)
theorem Inv.drew(h:Inv Γ G w0 F0 O0 a w e)(n:Nat)(j:w.drawn<=n):Inv Γ G w0 F0 O0 a { w with drawn:=n } e:=by
 obtain⟨F,O,β,c,k,f,g,l,m⟩:=h;have d:Ext w F β (zT e) { w with drawn:=n } F β (zT e):=⟨fun _ h=>h,fun _ _=>rfl,fun _ h=>h,fun _ _=>rfl,fun _ _=>rfl⟩
 exact⟨F,O,β,⟨⟨c.keep.os,c.keep.tape,c.keep.output,c.keep.size,c.keep.block,aj c.keep.drawn j⟩,Γ.mono c.sig (fun _ _=>cI) (fun _ _=>rfl) (fun _ _ h=>⟨h,rfl⟩),c.oin,c.fin,c.f0,c.place,c.dist,c.lent⟩,k.ext d,f,g,
  fun t=>(l t).ext d,fun s p i=>(m s p i).ext d rfl⟩
def zMp(P:j6)(G:Nat->Option (List V))(S:vF Γ)(ops:Array Oper)(e:Env Γ.St):Option (Env Γ.St):=
 if zPh ops then zDp P G S ops ops.toList (killAll (qY ops.toList) e)else Sc
end
def setBlk(w:World)(b:Nat)(ob:Obj):World:= { w with heap:=w.heap.setIfInBounds b ob }
variable {g:Nat}{j:Obj}{i:World}
theorem qU{c:Nat}(h:c≠g):(setBlk i g j).heap[c]?=i.heap[c]? :=by simp_all[c9,setBlk]
theorem zAS(h:g<i.heap.size):(setBlk i g j).heap[g]?=Sa j:=by simp[setBlk,h]
theorem zCw:(setBlk i g j).heap.size=i.heap.size:=by simp[setBlk]
theorem zEz(h:i.heap[g]?=Sa j):g<i.heap.size:=(ar.1 h).1
theorem zQ0{α:Type}{xs c:Array α}(h:∀i:Nat,xs[i]?=c[i]?):xs=c:=
 Array.ext' (bT (fun i=>by simpa using h i))
theorem zJE{o:Nat}{c:Array Value}{et:TypeId}(h:i.heap[g]?=Sa (.cells c et (0,0)))(v:Value):
  i.setCell ⟨g,o,Sc⟩ v=setBlk i g (.cells (c.setIfInBounds o v) et (0,0)):=by
 have hlt:=zEz h;simp only[World.setCell,setBlk];congr 1
 grind
theorem zGQ(h:i.heap[g]?=Sa j):setBlk i g j=i:=by
 have hlt:=zEz h
 have:i.heap.setIfInBounds g j=i.heap:=by
  grind
 simp[setBlk,this]
theorem zS2{c:Obj}:setBlk (setBlk i g j) g c=setBlk i g c:=by
 grind[Array.setIfInBounds_setIfInBounds,setBlk]
def j5(c:Array Value)(o:Nat):List Value->Array Value
 |[]=>c
 |v::r=>j5 (c.setIfInBounds o v) (o+1) r
theorem xG:∀(vs:List Value) (c:Array Value) (o:Nat),(j5 c o vs).size=c.size:=by
 intro vs
 induction vs with
 |nil=>intro c o;rfl
 |cons v vs d=>grind[j5]
theorem zGN:∀(vs:List Value) (c:Array Value) (o i:Nat),o+vs.length<=c.size->(j5 c o vs)[i]?=if o<=i/\i<o+vs.length then vs[i-o]? else c[i]? :=by
 intro vs
 induction vs with
 |nil=>grind[j5]
 |cons v vs d=>
  intro c o i h;simp at h;simp only[j5]
  grind
theorem zBd{P:Program}{b off:Nat}{et:TypeId}:∀(vs:List Value) (i:Nat) (w:World) (c:Array Value),w.heap[b]?=Sa (.cells c et (0,0))->off+i+vs.length<=c.size->
  (∀v,v∈vs->v.oneCell'=Sb)->(storeCells ⟨b,off,Sc⟩ vs i).run P w=.ok () (if vs=[]then w else setBlk w b (.cells (j5 c (off+i) vs) et (0,0))):=by
 intro vs
 induction vs with
 |nil=>simp_all[storeCells]
 |cons v vs k=>
  intro i w c g h d;simp at h;have f:w.cell? ⟨b,off+i,Sc⟩=Sa c[off+i]:=by grind[World.cell?]
  have j:w.frozen? ⟨b,off+i,Sc⟩=false:=by simp[World.frozen?,g]
  have hlt:=zEz g;simp only[storeCells,Sem.run_bind,zDw,run_store P w _ v _ (d v (by simp)),f,j,bP,if_false,Result.andThen_ok];rw[zJE g];rw[k (i+1) _ (c.setIfInBounds (off+i) v) (zAS hlt) (by simp;omega) (fun u l=>d u (aw _ l))];simp only[reduceCtorEq,if_false]
  cases vs with
  |nil=>simp[j5]
  |cons u vs=>simp only[reduceCtorEq,if_false,zS2];rfl
section
variable {w:World}{F:Blk->Prop}{β:Lay}{al:v6->Prop}
theorem Rd.setBlk{b:Nat}{ob:Obj}(f:∀c:Nat,F c->c≠b){v:Value}{d:V}(h:Rd w F v d):Rd (Ve.setBlk w b ob) F v d:=
 h.mono (fun _ h=>h) (fun c hb=>qU (f c hb))
theorem qP.setBlk{b d k cap:Nat}{ob:Obj}(g:∀c:Nat,F c->c≠b)(f:d≠b){es:List V}(h:qP w F d k cap es):qP (Ve.setBlk w b ob) F d k cap es:=
 h.mono (fun _ h=>h) (fun c hb=>qU (g c hb)) (qU f)
theorem zY.setVar{b:Nat}{ob:Obj}(j:∀q:Nat,F q->q≠b)(g:∀id,al (.o id)->β.ob id≠b){v:Value}{x:T}(h:zY w F β al v x):zY (Ve.setBlk w b ob) F β al v x:=by
 cases x with
 |p d=>exact Rd.setBlk j h
 |ow id k u=>obtain⟨ha,c,f,hr⟩:=h;exact⟨ha,c,f,hr.setBlk j (g id ha)⟩
 |oe id k u i m=>obtain⟨ha,r,c,f,hr⟩:=h;exact⟨ha,r,c,f,hr.setBlk j (g id ha)⟩
 |lp s m=>exact h
 |mp id u A=>obtain⟨ha,f,hr⟩:=h;exact⟨ha,f,(qU (g id ha)).trans hr⟩
 |ot id t xs=>
  rcases h with h|⟨l,ha,c,f,hr⟩
  .exact .inl h
  .exact .inr ⟨l,ha,c,f,hr.setBlk j (g id ha)⟩
 |oet id t xs i m=>obtain⟨ha,r,c,f,hr⟩:=h;exact⟨ha,r,c,f,hr.setBlk j (g id ha)⟩
 |ov id t xs lo r=>
  rcases h with h|⟨l,ha,y,z,c,f,hr⟩
  .exact .inl h
  .exact .inr ⟨l,ha,y,z,c,f,hr.setBlk j (g id ha)⟩
 |on n=>exact zPs.mono h (fun _ h=>h) (fun q hb=>qU (j q hb)) h.1 h.2.1 rfl rfl (qU (g n.id h.1)) (qU (g n.id2 h.2.1))
 |emp=>exact h
 |dead=>trivial
end
def V.one:V->Bool
 |.val (.agg _)=>Sd
 |.val (.tuple _)=>Sd
 |.agg _=>Sd
 |.tup _=>Sd
 |_=>Sb
def T.cellsT:T->Option (List T)
 |.p d=>if d.cells.all V.one then Sa (d.cells.map .p)else Sc
 |.dead=>Sc
 |x=>Sa [x]
def zCX(cs:List T)(o:Nat):List T->List T
 |[]=>cs
 |x::r=>zCX (cs.set o x) (o+1) r
theorem zWw:∀(xs cs:List T) (o:Nat),(zCX cs o xs).length=cs.length:=by
 intro xs
 induction xs with
 |nil=>intro cs o;rfl
 |cons x xs c=>grind[zCX]
theorem zWx:∀(xs cs:List T) (o i:Nat),o+xs.length<=cs.length->(zCX cs o xs)[i]?=if o<=i/\i<o+xs.length then xs[i-o]? else cs[i]? :=by
 intro xs
 induction xs with
 |nil=>grind[zCX]
 |cons x xs c=>
  intro cs o i h;simp at h;simp only[zCX]
  grind
section
variable {w:World}{F:Blk->Prop}{β:Lay}{al:v6->Prop}
theorem zTX{v:Value}{d:V}(h:Rd w F v d)(c:d.one=Sb):v.oneCell'=true:=by
 cases h with
 |val=>cases v<;>simp_all[V.one,Value.oneCell']
 |agg=>simp[V.one]at c
 |tup=>simp[V.one]at c
 |tl t i v g=>obtain⟨j,f,rfl,_⟩:=zD4 g;rfl
 |_=>rfl
theorem zME{v:Value}{x:T}{xs:List T}(h:zY w F β al v x)(g:x.cellsT=Sa xs):v.cells.size=xs.length/\(∀u,u∈v.cells->u.oneCell'=Sb)/\
  ∀(i:Nat) (u:Value) (y:T),v.cells[i]?=Sa u->xs[i]?=Sa y->zY w F β al u y:=by
 have f:∀y,xs=[y]->zY w F β al v y->v.cells= #[v]->v.oneCell'=Sb->v.cells.size=xs.length/\(∀u,u∈v.cells->u.oneCell'=Sb)/\
   ∀(i:Nat) (u:Value) (y:T),v.cells[i]?=Sa u->xs[i]?=Sa y->zY w F β al u y:=by
  grind
 cases x with
 |p d=>
  simp only[T.cellsT]at g;split at g
  .rename_i q;cases g
   have r:d.leafy=true:=by
    cases d with
    |val u=>
     cases u with
     |agg Q=>simp[V.cells,V.one]at q
     |_=>rfl
    |_=>rfl
   obtain⟨L,I⟩:=zF3 h r;refine⟨by simpa using L,?_,?_⟩
   .intro u D;obtain⟨i,A,rfl⟩:=Array.getElem_of_mem D;have B:i<d.cells.length:=by omega
    exact zTX (I i _ _ (by simp[A]) (by simp[B])) (au.1 q _ (aZ B))
   .intro i u y D J;simp at J;obtain⟨z,M,rfl⟩:=J;exact I i u z D M
  .cases g
 |dead=>simp[T.cellsT]at g
 |ow id k K=>
  simp[T.cellsT]at g;obtain⟨l,j,c,m⟩:=h;exact f _ g.symm ⟨l,j,c,m⟩ (by rw[c];rfl) (by rw[c];rfl)
 |oe id k K i C=>
  simp[T.cellsT]at g;obtain⟨l,A,j,c,m⟩:=h;exact f _ g.symm ⟨l,A,j,c,m⟩ (by rw[c];rfl) (by rw[c];rfl)
 |lp s C=>
  simp[T.cellsT]at g;obtain⟨l,c⟩:=h;exact f _ g.symm ⟨l,c⟩ (by rw[c];rfl) (by rw[c];rfl)
 |mp id K W=>
  simp[T.cellsT]at g;obtain⟨l,c,m⟩:=h;exact f _ g.symm ⟨l,c,m⟩ (by rw[c];rfl) (by rw[c];rfl)
 |ot id t xs=>
  simp[T.cellsT]at g;have E:=h;rcases h with⟨Y,H,c⟩|⟨N,l,j,c,m⟩<;>exact f _ g.symm E (by rw[c];rfl) (by rw[c];rfl)
 |oet id t xs i C=>
  simp[T.cellsT]at g;obtain⟨l,A,j,c,m⟩:=h;exact f _ g.symm ⟨l,A,j,c,m⟩ (by rw[c];rfl) (by rw[c];rfl)
 |ov id t xs Z A=>
  simp[T.cellsT]at g;have E:=h;rcases h with⟨_,_,_,H,c⟩|⟨_,_,_,_,j,c,m⟩<;>exact f _ g.symm E (by rw[c];rfl) (by rw[c];rfl)
 |on n=>
  simp[T.cellsT]at g;rcases zPs.shape h with⟨_,_,_,c⟩|⟨_,c⟩<;>exact f _ g.symm h (by rw[c];rfl) (by rw[c];rfl)
 |emp=>simp[T.cellsT]at g;obtain⟨H,c⟩:=h;exact f _ g.symm ⟨H,c⟩ (by rw[c];rfl) (by rw[c];rfl)
end
section
variable {Γ:Sig}{P:Program}{G:Nat->Option (List V)}{S:vF Γ}{o:Oper}{a:Act}{w0:World}{F0:Blk->Prop}{O0:x5}{w:World}{F:Blk->Prop}{O:Nat->Prop}{β:Lay}{al al':v6->Prop}{st:Γ.St}{e e':Env Γ.St}
theorem zDx.setBlk(d:zDx Γ w0 F0 O0 w F O β al st){x:v6}(hx:al x)(ob:Obj)(l:∀c et fl,w.heap[β.blk x]?=Sa (.cells c et fl)->∃i f g,ob=.cells i f g/\i.size=c.size):zDx Γ w0 F0 O0 (Ve.setBlk w (β.blk x) ob) F O β al st:=by
 obtain⟨m,t,p,q⟩:=d.place x hx;refine⟨⟨d.keep.os,d.keep.tape,d.keep.output,by rw[zCw];exact d.keep.size,?_,d.keep.drawn⟩,Γ.mono d.sig (fun _ _=>cI) (fun b hb=>qU (fun h=>q (h▸hb))) (fun n _ j=>⟨j,qU (fun h=>p (h▸j))⟩),d.oin,?_,d.f0,?_,d.dist,?_⟩
 .intro b hb k;rw[qU (fun r=>k (by rw[r];exact m.old (by omega)))];exact d.keep.block b hb k
 .intro b hb;rw[zCw];exact d.fin b hb
 .intro y hy;rw[zCw];exact d.place y hy
 .intro b n hb;obtain⟨u,z,A,c,et,fl,B,C⟩:=d.lent b n hb
  grind[zAS,qU]
def zHX(e:Env Γ.St)(P:j6)(t:TypeId)(s off:Nat)(x:T):Option (Env Γ.St):=
 match e.var s,x.cellsT with
 |some d,Sa c=>if wB P t=Sa c.length/\off+c.length<=d.length/\s<e.vars.length then Sa { e with vars:=e.vars.set s (Sa (zCX d off c)) }else Sc
 |_,_=>Sc
theorem zYB(hi:Inv Γ G w0 F0 O0 a w e){t:TypeId}{s off:Nat}{x:T}{ap xv:Operand}(hp:evx G e ap=.lp s off)(hx:evx G e xv=x)(h:zHX e P t s off x=Sa e'):
  ∃w',(Instr.storeAt t (a.eval ap) (a.eval xv)).run P w=.ok () w'/\Inv Γ G w0 F0 O0 a w' e':=by
 obtain⟨F,O,β,N,W,Y,Z,ht,hv⟩:=hi;have D:=uS W ht ap;have E:=uS W ht xv;rw[hp]at D;rw[hx]at E;obtain⟨H,ab⟩:=D;unfold zHX at h;split at h
 .rename_i I xs ad ag;split at h
  .rename_i p;obtain⟨q,ay,a0⟩:=p;cases h;obtain⟨Q,h2,h3⟩:=zME E ag;obtain⟨c,C,g1,g2,g3⟩:=hv s I ad;have n:(Instr.storeAt t (a.eval ap) (a.eval xv)).run P w=.ok () (if(a.eval xv).cells.toList=[]then w else setBlk w (β.vb s) (.cells (j5 c (off+0) (a.eval xv).cells.toList) C (0,0))):=by have an:=zBd (P:=P) (b:=β.vb s) (off:=off) (et:=C) (a.eval xv).cells.toList 0 w c g1 (by simp[Q];omega) (fun u k=>h2 u (by simpa using k));simp only[Instr.storeAt,ab,Instr.sureAddr,Sem.run_bind,Sem.run_pure,Result.andThen_ok,storeVar,zK q,Q,ne_eq,not_true,if_false];simpa using an
   have ao:(if(a.eval xv).cells.toList=[]then w else setBlk w (β.vb s) (.cells (j5 c (off+0) (a.eval xv).cells.toList) C (0,0)))=setBlk w (β.vb s) (.cells (j5 c off (a.eval xv).cells.toList) C (0,0)):=by
    split
    .rename_i J;rw[J];exact(zGQ g1).symm
    .simp
   rw[ao]at n;refine⟨_,n,?_⟩;obtain⟨p1,p2,p3,p4⟩:=N.place (.v s) H;have f:∀b':Nat,F b'->b'≠β.vb s:=fun b' hb l=>p3 (by rw[l]at hb;exact hb);have j:∀id,zT e (.o id)->β.ob id≠β.vb s:=fun id hid l=>by have:=N.dist (.o id) (.v s) hid H l;cases this
   refine Inv.of (al:=zT e) (N.setBlk H _ (fun c' K a1 l=>by rw[show w.heap[β.blk (.v s)]?=_ from g1]at l;simp at l;exact⟨_,_,_,rfl,by rw[xG,l.1]⟩)) (fun g I hg=>(W g I hg).setBlk f) Y Z (fun t=>(ht t).setVar f j) ?_ ?_
   .intro m r d
    have L:({ e with vars:=e.vars.set s (Sa (zCX I off xs)) } :Env Γ.St).var m=if m=s then Sa (zCX I off xs)else e.var m:=by
     simp only[Env.var]
     grind
    rw[L]at d;split at d
    .rename_i z;subst z;cases d;refine⟨H,_,C,zAS p2,by rw[xG,zWw];exact g2,?_⟩;intro i u y k A;rw[zGN _ _ _ _ (by simp[Q];omega)]at k;rw[zWx _ _ _ _ (by omega)]at A;have hl:(a.eval xv).cells.toList.length=xs.length:=by simpa using Q
     rw[hl]at k;split at k
     .rename_i B;rw[if_pos B]at A;exact(h3 _ u y (by simpa using k) A).setVar f j
     .rename_i B;rw[if_neg B]at A;exact(g3 i u y k A).setVar f j
    .rename_i z;have M:zT e (.v m):=⟨r,d⟩
     have av:β.vb m≠β.vb s:=fun l=>by
      have:=N.dist (.v m) (.v s) M H l
      grind
     refine⟨M,?_⟩;obtain⟨c',K,q1,q2,q3⟩:=hv m r d;exact⟨c',K,(qU av).trans q1,q2,fun i u y k A=>(q3 i u y k A).setVar f j⟩
   .intro m ax;by_cases z:m=s
    .grind[zCX,Env.var]
    .obtain⟨r,d⟩:=ax;simp_all[c9,Env.var]
  .cases h
 .cases h
end
theorem qBN(n:Nat):∀(r c:Nat),c<n->Af n r c<=2*n+1024:=by
 intro r
 induction r with
 |zero=>grind[Af]
 |succ r a=>
  intro c h;simp only[Af];rw[if_neg (by omega)];by_cases d:c+(c+768) / 4<n
  .exact a _ d
  .cases r with
   |zero=>simp[Af];omega
   |succ r=>simp only[Af];grind
theorem zY7{n c:Nat}(h:c<n):Ae n c<=2*n+1024:=by
 grind[qBN,Ae]
section
variable {P:Program}{w:World}
theorem run_append_room{d e:TypeId}{ts:Array TypeId}{ty el el1:TypeId}{size b off len cap n cap1:Nat}{a1:Option Addr}{cells:List Value}{c:Array Value}{et:TypeId}
  (q:ts[0]?=Sa d) (r:ts[1]?=Sa e) (j:P.underlying d=Sa (.slice el)) (k:P.underlying e=Sa (.slice el1)) (t:wB P el=Sa size)
  (f:(Ab size n (.slice a1 n cap1)).run P w=.ok cells.toArray w) (l:cells.length=n*size)
  (m:w.heap[b]?=Sa (.cells c et (0,0))) (p:off+len*size+n*size<=c.size) (g:∀v,v∈cells->v.oneCell'=Sb) (a:len+n<=cap):
  (Ac ts ty #[.slice (Sa ⟨b,off,Sc⟩) len cap,.slice a1 n cap1]).run P w=
   .ok (.slice (Sa ⟨b,off,Sc⟩) (len+n) cap) (setBlk w b (.cells (j5 c (off+len*size) cells) et (0,0))):=by
 have h:=zBd (P:=P) (b:=b) (off:=off+len*size) (et:=et) cells 0 w c m (by omega) g
 have u:(if cells=[]then w else setBlk w b (.cells (j5 c (off+len*size+0) cells) et (0,0)))=setBlk w b (.cells (j5 c (off+len*size) cells) et (0,0)):=by
  split
  .rename_i i;rw[i];exact(zGQ m).symm
  .simp
 rw[u]at h;simp only[Ac];simp[q,r,zN j,zN k,zK t,Ah,a,f,zDw,h]
theorem run_append_grow{e f:TypeId}{ts:Array TypeId}{ty el el1:TypeId}{a:TypeInfo}{z:Value}{len cap n cap1:Nat}{a0 a1:Option Addr}{cells old:List Value}
  (q:ts[0]?=Sa e) (r:ts[1]?=Sa f) (k:P.underlying e=Sa (.slice el)) (l:P.underlying f=Sa (.slice el1)) (hi:P.info? el=Sa a) (t:a.zero=Sa z)
  (g:(Ab a.size n (.slice a1 n cap1)).run P w.drew=.ok cells.toArray w.drew)
  (h:(Ab a.size len (.slice a0 len cap)).run P w.drew=.ok old.toArray w.drew)
  (m:¬len+n<=cap) (i:1<=a.bytes) (j:(2*(len+n)+1024)*a.bytes<=0x800000000000):
  ∃d:Nat,len+n<=d/\(Ac ts ty #[.slice a0 len cap,.slice a1 n cap1]).run P w=
   .ok (.slice (Sa ⟨w.heap.size,0,Sc⟩) (len+n) d) (w.drew.alloc (.cells (old.toArray++(cells.toArray++Aa z.cells (d- (len+n)))) el)):=by
 have u:wB P el=Sa a.size:=zBB hi;have x:Ae (len+n) cap*a.bytes<=281474976710656:=by have:=zY7 (n:=len+n) (c:=cap) (by omega);have:=aq a.bytes this;omega
 refine⟨(Question.appendCap (len+n) cap el).cut (w.tape w.drawn (.appendCap (len+n) cap el)),by simp[Question.cut],?_⟩;have p:(zeroValue el).run P w.drew=.ok z w.drew:=by simp[zeroValue,xJ hi,t]
 simp only[Ac]
 simp[q,r,zN k,zN l,zK u,Ah,m,xJ hi,show ¬a.bytes=0 by omega,show ¬281474976710656<Ae (len+n) cap*a.bytes by omega,
  Question.forced,g,h,p,newRow]
end
def zHl:T->Option (List V)
 |.p (.sl c)=>Sa c
 |.p (.val (.slice Sc 0 0))=>Sa []
 |.ow _ _ c=>Sa c
 |.emp=>Sa []
 |.ov _ t d f g=>Sa (((d.take g).drop f).map t.enc)
 |_=>Sc
section
variable {P:Program}{w:World}{F:Blk->Prop}{β:Lay}{al:v6->Prop}
theorem qCk{w w':World}(h:w'.heap=w.heap)(c:Addr):w'.cell? c=w.cell? c:=by simp[World.cell?,h]
theorem zYF{es:List V}{k b off cap:Nat}{g:Nat->Value}(l:∀m,m<es.length*k->w.cell? ⟨b,off+m,Sc⟩=Sa (g m))
  (n:∀(i j:Nat) (e d:V),es[i]?=Sa e->e.cells[j]?=Sa d->Rd w F (g (i*k+j)) d) (f:∀e,e∈es->e.cells.length=k):
  ∃cells:List Value,cells.length=es.length*k/\
   (∀w':World,w'.heap=w.heap->(Ab k es.length (.slice (Sa ⟨b,off,Sc⟩) es.length cap)).run P w'=.ok cells.toArray w')/\
   ∀(i j:Nat) (e d:V),es[i]?=Sa e->e.cells[j]?=Sa d->∃x,cells[i*k+j]?=Sa x/\Rd w F x d:=by
 refine⟨(Ag (es.length*k)).map g,by simp,?_,?_⟩
 .grind[zLr,qCk,Ab]
 .intro i j e d c h;have p:=(aa.1 c).1;have q:=(aa.1 h).1;have r:=f e (ae c);have:(i+1)*k<=es.length*k:=aq k (by omega)
  grind
theorem zIk{k : Nat}(a : Option Addr)(cap : Nat):∃cells : List Value, cells.length = ([] : List V).length * k /\
   (∀w':World,w'.heap=w.heap->(Ab k 0 (.slice a 0 cap)).run P w'=.ok cells.toArray w')/\
   ∀(i j:Nat) (e d:V),([]:List V)[i]?=Sa e->e.cells[j]?=Sa d->∃x,cells[i*k+j]?=Sa x/\Rd w F x d:=by
 refine⟨[],by simp,?_,fun i j e d h=>by simp at h⟩;intro w' _
 cases a with
 |none=>simp[Ab]
 |some c=>simp[Ab,loadCells,loadCellsFrom]
theorem zIj{x:T}{v:Value}{es:List V}{k:Nat}(E:zY w F β al v x)(f:zHl x=Sa es)(Y:∀e,e∈es->e.cells.length=k):
  ∃(a:Option Addr) (cap:Nat) (cells:List Value),v=.slice a es.length cap/\es.length<=cap/\cells.length=es.length*k/\
   (∀w':World,w'.heap=w.heap->(Ab k es.length v).run P w'=.ok cells.toArray w')/\
   ∀(i j:Nat) (e d:V),es[i]?=Sa e->e.cells[j]?=Sa d->∃x,cells[i*k+j]?=Sa x/\Rd w F x d:=by
 unfold zHl at f;split at f
 .rename_i B;simp at f;subst f
  cases E with
  |slemp a cap=>
   obtain⟨cells,n,r,p⟩:=zIk (P:=P) (w:=w) (F:=F) (k:=k) a cap;simp_all
  |sl b C cap y es g hF z L hg hr=>
   cases B with
   |nil=>
    obtain⟨cells,n,r,p⟩:=zIk (P:=P) (w:=w) (F:=F) (k:=k) (Sa ⟨b,C,Sc⟩) cap;simp_all
   |cons e es=>
    have u:y=k:=by simp_all
    subst u;obtain⟨cells,n,r,p⟩:=zYF (P:=P) (cap:=cap) hg hr L;exact⟨_,cap,cells,rfl,z,n,r,p⟩
 .cases f;have:=Rd.eq_val E;subst this;obtain⟨cells,n,r,p⟩:=zIk (P:=P) (w:=w) (F:=F) (k:=k) Sc 0;simp_all
 .rename_i id y B;simp at f;subst f;obtain⟨ha,cap,rfl,c,et,g1,Z,J,K,g5⟩:=E
  cases B with
  |nil=>
   obtain⟨cells,n,r,p⟩:=zIk (P:=P) (w:=w) (F:=F) (k:=k) (Sa ⟨β.ob id,0,Sc⟩) cap;simp_all
  |cons e es=>
   have u:y=k:=by simp_all
   subst u;have ab:(e::es).length*y<=cap*y:=aq y J
   obtain⟨cells,n,r,p⟩:=zYF (P:=P) (w:=w) (F:=F) (es:=e::es) (k:=y) (b:=β.ob id) (off:=0) (cap:=cap) (g:=fun m=>(c[m]?).getD undef)
    (fun m hm=>by
     grind[World.cell?])
    (fun i j q d l M=>by
     have ad:=(aa.1 l).1;have N:=(aa.1 M).1;have hq:=K q (ae l);have:(i+1)*y<=cap*y:=aq y (by omega)
     grind) K
   exact⟨_,cap,cells,rfl,J,n,r,p⟩
 .cases f;obtain⟨O,rfl⟩:=E;obtain⟨cells,n,r,p⟩:=zIk (P:=P) (w:=w) (F:=F) (k:=k) O 0;simp_all
 .rename_i id t D h l;cases f;rcases E with⟨rfl,rfl,rfl,O,rfl⟩|⟨ag,ha,an,ao,cap,rfl,c,et,g1,Z,J,K,g5⟩
  .obtain⟨cells,n,r,p⟩:=zIk (P:=P) (w:=w) (F:=F) (k:=k) O 0;simp_all
  .have A:(((D.take l).drop h).map t.enc).length=l-h:=by simp;omega
   have z:D.length<=cap:=by simpa using J
   by_cases h0:l-h=0
   .have H:((D.take l).drop h).map t.enc=[]:=aJ (by omega);rw[H,h0];obtain⟨cells,n,r,p⟩:=zIk (P:=P) (w:=w) (F:=F) (k:=k) (Sa ⟨β.ob id,if cap=h then 0 else h*t.size,Sc⟩) (cap-h);simp_all
   .have u:t.size=k:=by
     have Q:0< (((D.take l).drop h).map t.enc).length:=by omega
     have:=Y _ (aZ Q)
     grind
    subst u;rw[if_neg (by omega)]
    have I:∀(i:Nat) (q:V),(((D.take l).drop h).map t.enc)[i]?=Sa q->(D.map t.enc)[h+i]?=Sa q/\h+i<l:=by
     grind
    have ap:cap*t.size=c.size:=Z.symm
    obtain⟨cells,n,r,p⟩:=zYF (P:=P) (w:=w) (F:=F) (es:=((D.take l).drop h).map t.enc) (k:=t.size) (b:=β.ob id) (off:=h*t.size) (cap:=cap-h) (g:=fun m=>(c[h*t.size+m]?).getD undef)
     (fun m hm=>by
      rw[A]at hm;have h5:(l-h)*t.size=l*t.size-h*t.size:=dL l h t.size;have h6:l*t.size<=cap*t.size:=aq _ (by omega)
      grind[Nat.mul_le_mul_right,World.cell?])
     (fun i j q d hq M=>by
      obtain⟨W,av⟩:=I i q hq;have N:=(aa.1 M).1;have ax:=K q (ae W);have h5:(h+i+1)*t.size<=cap*t.size:=aq _ (by omega);rw[bE,bF]at h5;have hlt:h*t.size+(i*t.size+j)<c.size:=by omega
      grind) Y
    refine⟨_,_,cells,by rw[A],by omega,n,?_,p⟩
    grind
 .cases f
theorem zQJ{es:List V}{k:Nat}{cells:List Value}(n:cells.length=es.length*k)(p:∀e,e∈es->e.cells.length=k)(q:∀e,e∈es->e.cells.all V.one=Sb)
  (h:∀(i j:Nat) (e d:V),es[i]?=Sa e->e.cells[j]?=Sa d->∃x,cells[i*k+j]?=Sa x/\Rd w F x d):∀v,v∈cells->v.oneCell'=true:=by
 intro v f;obtain⟨m,r,rfl⟩:=aC f
 have c:0<k:=by
  grind
 have g:m / k<es.length:=by rw[cn c];omega
 have l:m%k< (es[m / k]).cells.length:=by simp_all[Nat.mod_lt]
 obtain⟨x,t,u⟩:=h (m / k) (m%k) _ _ (ah g) (ah l)
 grind[Nat.mul_comm,Nat.div_add_mod,List.getElem?_eq_getElem,Option.some.injEq,zTX,Ai,List.getElem_mem]
theorem zRw{w':World}{b k cap:Nat}{es es2:List V}{c:Array Value}{et:TypeId}{cells:List Value}(m:c.size=cap*k)(p:∀e,e∈es->e.cells.length=k)
  (A:∀(i j:Nat) (e d:V) (x:Value),es[i]?=Sa e->e.cells[j]?=Sa d->c[i*k+j]?=Sa x->Rd w' F x d)
  (l:∀e,e∈es2->e.cells.length=k) (B:cells.length=es2.length*k)
  (h:∀(i j:Nat) (e d:V),es2[i]?=Sa e->e.cells[j]?=Sa d->∃x,cells[i*k+j]?=Sa x/\Rd w' F x d) (f:es.length+es2.length<=cap)
  (q:w'.heap[b]?=Sa (.cells (j5 c (es.length*k) cells) et (0,0))):qP w' F b k cap (es++es2):=by
 have n:es.length*k+es2.length*k<=c.size:=by rw[<-bF,m];exact aq k f
 refine⟨_,et,q,by rw[xG];exact m,by simpa using f,?_,?_⟩
 .grind
 .intro i j e d x g r t;have u:=(aa.1 r).1;rw[zGN _ _ _ _ (by omega)]at t;by_cases hlt:i<es.length
  .rw[aT hlt]at g;have:=p e (ae g);have y:(i+1)*k<=es.length*k:=aq k (by omega)
   grind
  .rw[aF (by omega)]at g;have C:=l e (ae g);have z:=(aa.1 g).1;have y:es.length*k<=i*k:=aq k (by omega);have D:(i-es.length)*k=i*k-es.length*k:=dL ..
   grind
theorem zJF{w':World}{b k cap:Nat}{es es2:List V}{et:TypeId}{old cells:List Value}{rest:Array Value}(p:∀e,e∈es->e.cells.length=k)(h:∀e,e∈es2->e.cells.length=k)
  (g:old.length=es.length*k) (l:cells.length=es2.length*k)
  (z:∀(i j:Nat) (e d:V),es[i]?=Sa e->e.cells[j]?=Sa d->∃x,old[i*k+j]?=Sa x/\Rd w' F x d)
  (A:∀(i j:Nat) (e d:V),es2[i]?=Sa e->e.cells[j]?=Sa d->∃x,cells[i*k+j]?=Sa x/\Rd w' F x d) (c:es.length+es2.length<=cap)
  (f:rest.size=(cap- (es.length+es2.length))*k)
  (q:w'.heap[b]?=Sa (.cells (old.toArray++(cells.toArray++rest)) et (0,0))):qP w' F b k cap (es++es2):=by
 refine⟨_,et,q,?_,by simpa using c,?_,?_⟩
 .simp[g,l,f,dL,bF];have:(es.length+es2.length)*k<=cap*k:=aq k c
  grind
 .grind
 .intro i j e d x m r n;have t:=(aa.1 r).1;by_cases hlt:i<es.length
  .grind
  .rw[aF (by omega)]at m;have B:=h e (ae m);have u:=(aa.1 m).1;have C:es.length*k<=i*k:=aq k (by omega);have D:(i-es.length)*k=i*k-es.length*k:=dL ..
   have y:(i-es.length+1)*k<=es2.length*k:=aq k (by omega);rw[bE]at y;rw[bu (by simp;omega)]at n;simp[g]at n;have E:i*k+j-es.length*k=(i-es.length)*k+j:=by omega
   grind
end
section
variable {Γ:Sig}{P:Program}{G:Nat->Option (List V)}{S:vF Γ}{o:Oper}{a:Act}{w0:World}{F0:Blk->Prop}{O0:x5}{w:World}{e e':Env Γ.St}
theorem Inv.own{F:Blk->Prop}{O:Nat->Prop}{β β':Lay}{w':World}{d id k:Nat}{es:List V}{v:Value}{cap:Nat}{al':v6->Prop}
  (C:zOo G w F) (j:a.tmps.size=e.tm.length) (u:a.defers=[])
  (D:∀t,zY w F β (zT e) (a.tmps.getD t undef) (e.get t)) (E:∀s cs,e.var s=Sa cs->w6 w F β (zT e) (β.vb s) cs)
  (y:al'=fun x=>alm id (zT e) x\/x=.o id)
  (z:zDx Γ w0 F0 O0 w' F O β' al' e.st) (c:Ext w F β (alm id (zT e)) w' F β' al')
  (l:v=.slice (Sa ⟨β'.ob id,0,Sc⟩) es.length cap) (m:qP w' F (β'.ob id) k cap es):
  Inv Γ G w0 F0 O0 (a.put (Sa d) v) w' { (e.kill id)with tm:=(e.kill id).tm.set d (.ow id k es) } :=by
 have n:al' (.o id):=by grind
 refine Inv.of (al:=al') z (C.ext c) (by simp[Act.put,Env.kill,j]) u ?_ ?_ ?_
 .intro t;rw[zBb,yZ];have p:(e.kill id).tm.length=a.tmps.size:=by simp[Env.kill,j]
  rw[p];split
  .exact⟨n,cap,l,m⟩
  .rw[zKJ];exact(zY.kill (D t)).ext c
 .intro s cs q;have f:(e.kill id).var s=Sa cs:=q;rw[zAc]at f;split at f
  .cases f
  .rename_i i;simp at f;obtain⟨r,g,rfl⟩:=f;have ha:alm id (zT e) (.v s):=⟨⟨r,g⟩,by simpa using i,by simp⟩
   refine⟨c.a _ ha,?_⟩;have hb:β'.vb s=β.vb s:=c.b (.v s) ha;rw[hb];exact(w6.kill (E s r g)).ext c (c.ha (.v s) ha)
 .intro s A;rw[y]at A;rcases A with⟨⟨cs,q⟩,i,_⟩|h
  .have B:s≠id:=by simpa using i
   refine⟨cs.map (jN id),?_⟩;show(e.kill id).var s=_;simp_all[zAc]
  .cases h
theorem zDx.drew{F:Blk->Prop}{O:Nat->Prop}{β:Lay}{al:v6->Prop}{st:Γ.St}(c:zDx Γ w0 F0 O0 w F O β al st):zDx Γ w0 F0 O0 w.drew F O β al st:=
 ⟨⟨c.keep.os,c.keep.tape,c.keep.output,c.keep.size,c.keep.block,aj c.keep.drawn (cW _)⟩,Γ.mono c.sig (fun _ _=>cI) (fun _ _=>rfl) (fun _ _ h=>⟨h,rfl⟩),c.oin,c.fin,c.f0,c.place,c.dist,c.lent⟩
theorem zXP{w':World}{F F':Blk->Prop}{β β':Lay}{al al':v6->Prop}(h:Ext w.drew F β al w' F' β' al'):Ext w F β al w' F' β' al':=
 ⟨h.f,h.hf,h.a,h.b,h.ha⟩
def zQ3(z:Value):Nat:=z.cells.size
def zH7(c:TypeInfo)(z:Value)(es2:List V):Bool:=
 es2.all (fun q=>q.cells.length==c.size&&q.cells.all V.one)&&decide (1<=c.bytes)&&zQ3 z==c.size
def kN(P:j6)(G:Nat->Option (List V))(e:Env Γ.St)(h:Option Nat)(i:Option Tmp)(c:Call):Option (Env Γ.St):=
 match c.callee,c.args.toList,c.argTypes.toList,i with
 |.builtin .append,[l,m],[n,t],Sa d=>
  match P.und n,P.und t with
  |some (.slice u),Sa (.slice _)=>match P.inf u with
   |some f=>match f.zero,zHl (evx G e m)with
    |some z,Sa g=>
     if zH7 f z g then
      match evx G e l with
      |.ow id k j=>if k=f.size/\(2*(j.length+g.length)+1024)*f.bytes<=0x800000000000/\id≠jV then
        Sa { (e.kill id)with tm:=(e.kill id).tm.set d (.ow id k (j++g)) }else Sc
      |x=>match zHl x with
       |some []=>match x with
        |.p (.sl _)=>Sc
        |.ov _ _ _ _ _=>Sc
        |_=>match g with
         |[]=>Sa (e.put (Sa d) x)
         |q::r=>if(2*(q::r).length+1024)*f.bytes<=0x800000000000/\h.getD d≠jV then Sa { (e.kill (h.getD d))with tm:=(e.kill (h.getD d)).tm.set d (.ow (h.getD d) f.size (q::r)) }else Sc
       |_=>Sc
     else Sc
    |_,_=>Sc
   |none=>Sc
  |_,_=>Sc
 |_,_,_,_=>Sc
def zBs(P:j6)(G:Nat->Option (List V))(e:Env Γ.St)(d:Option Tmp)(c:Call):Option (Env Γ.St):=kN P G e Sc d c
variable {g:Exit->Act->World->Prop}{i:Option (Nat×Bool)}
theorem zEO(hi:Inv Γ G w0 F0 O0 a w e){b5:Option Tmp}{c:Call}{type:TypeId}{pos:String}{after:Array Edge}{nm:Option Nat}(h:kN P G e nm b5 c=Sa e'):
  (⟨b5,.call c,type,pos,after,i⟩:Oper).wp P a w (fun a' w'=>Inv Γ G w0 F0 O0 a' w' e') g:=by
 obtain⟨F,O,β,hc,hG,a6,a9,ht,hv⟩:=hi;unfold kN at h;split at h
 .rename_i x0 x1 t0 t1 d b6 c1 be;split at h
  .rename_i el dm an ao;split at h
   .rename_i Q J;split at h
    .rename_i z A hz cf;split at h
     .rename_i ch;simp[zH7]at ch;obtain⟨⟨bk,Y⟩,c2⟩:=ch;have ap:∀q,q∈A->q.cells.length=Q.size:=fun q hq=>(bk q hq).1;have c3:∀q,q∈A->q.cells.all V.one=true:=fun q hq=>au.2 (fun y hy=>(bk q hq).2 y hy);obtain⟨a1,B,cells,K,c4,ab,L,c5⟩:=zIj (P:=P) (uS hG ht x1) cf ap;have bb:c.args= #[x0,x1]:=by grind
      have av:c.argTypes[0]?=Sa t0:=by rw[<-bN,be];rfl
      have ax:c.argTypes[1]?=Sa t1:=by rw[<-bN,be];rfl
      have D:∀r,(Ac c.argTypes type #[a.eval x0,a.eval x1]).run P w=r->(execOp a.eval ⟨Sa d,.call c,type,pos,after,i⟩).run P w=r.andThen fun v w'=>.ok (.value v) w':=by intro r hr;simp[execOp,resolve,b6,bb,invoke,builtin,hr]
      have M:=uS hG ht x0;have hs:wB P el=Sa Q.size:=zBB J;have bo:∀m,(Aa z.cells m).size=m*Q.size:=by intro m;simp[Aa];rw[show z.cells.size=Q.size from c2]
      split at h
      .rename_i id k es ck;split at h
       .rename_i bs;obtain⟨rfl,Z,b0⟩:=bs;simp at h;subst h;rw[ck]at M;obtain⟨ha,u,ag,cc,et,g1,g2,g3,g4,g5⟩:=M;have hp:=hc.place (.o id) ha;have cl:∀x,alm id (zT e) x->β.blk x≠β.ob id:=fun x E hh=>E.2.2 (hc.dist x (.o id) E.1 ha hh);unfold Oper.wp;by_cases H:es.length+A.length<=u
        .have dk:es.length*Q.size+A.length*Q.size<=cc.size:=by rw[<-bF,g2];exact aq _ H
         have l:=run_append_room (P:=P) (w:=w) (ts:=c.argTypes) (ty:=type) (b:=β.ob id) (off:=0) (len:=es.length) (cap:=u) (n:=A.length) (cap1:=B) (a1:=a1) (cells:=cells) (c:=cc) (et:=et) av ax an ao hs
          (by grind) ab g1 (by omega) (zQJ ab ap c3 c5) H
         rw[<-ag,<-K]at l;simp at l;rw[D _ l];simp[Oper.upon];have cp:∀x,(alm id (zT e) x\/x=.o id)->zT e x:=fun x E=>E.elim (fun h=>h.1) (fun h=>h▸ha)
         have C:Ext w F β (alm id (zT e)) (setBlk w (β.ob id) (.cells (j5 cc (es.length*Q.size) cells) et (0,0))) F β (fun x=>alm id (zT e) x\/x=.o id):=
          ⟨fun _ h=>h,fun b hb=>qU (fun hh=>hp.2.2.1 (by rw[hh]at hb;exact hb)),fun _ h=>.inl h,fun _ _=>rfl,fun x E=>qU (cl x E)⟩
         refine Inv.own (cap:=u) hG a6 a9 ht hv rfl ((hc.setBlk ha _ (fun c' ds dv hh=>by rw[show w.heap[β.blk (.o id)]?=_ from g1]at hh;simp at hh;exact⟨_,_,_,rfl,by rw[xG,hh.1]⟩)).anti cp) C (by simp) ?_;refine zRw g2 g4 (fun guard j q y x hi hj E=>Rd.ext C (g5 guard j q y x hi hj E)) ap ab (fun guard j q y hi hj=>?_) H (zAS hp.2.1)
         grind[Rd.ext]
        .have cq:zY w F β (zT e) (a.eval x0) (.ow id Q.size es):=⟨ha,u,ag,cc,et,g1,g2,g3,g4,g5⟩
         obtain⟨a0,ay,old,a2,b1,b2,I,c6⟩:=zIj (P:=P) (k:=Q.size) cq rfl g4;have db:ay=u:=by grind
         subst db
         obtain⟨f,bd,l⟩:=run_append_grow (P:=P) (w:=w) (ts:=c.argTypes) (ty:=type) (len:=es.length) (cap:=ay) (n:=A.length) (cap1:=B) (a0:=a0) (a1:=a1) (cells:=cells) (old:=old) av ax an ao J hz
          (by rw[<-K];exact L w.drew rfl) (by rw[<-a2];exact I w.drew rfl) H Y Z
         rw[<-a2,<-K]at l;rw[D _ l];simp[Oper.upon];let β':Lay:= { β with ob:=fun s=>if s=id then w.heap.size else β.ob s }
         have hb:∀x,alm id (zT e) x->β'.blk x=β.blk x:=by
          intro x E
          cases x with
          |o s=>
           grind[id,Lay.blk]
          |v s=>rfl
         have N:β'.ob id=w.heap.size:=by simp[β']
         have a3:=(hc.drew.anti (al':=alm id (zT e)) (fun x E=>E.1))
         have W:=a3.push (.cells (old.toArray++(cells.toArray++Aa z.cells (f- (es.length+A.length)))) el) β' (.o id) (fun hh=>b0 (by cases hh;rfl)) N hb
         have C:Ext w F β (alm id (zT e)) (w.drew.alloc (.cells (old.toArray++(cells.toArray++Aa z.cells (f- (es.length+A.length)))) el)) F β' (fun x=>alm id (zT e) x\/x=.o id):=
          zXP (a3.push_ext (.cells (old.toArray++(cells.toArray++Aa z.cells (f- (es.length+A.length)))) el) β' (fun x=>alm id (zT e) x\/x=.o id) hb (fun x E=>.inl E))
         refine Inv.own (cap:=f) hG a6 a9 ht hv rfl W C (by rw[N];simp) ?_;rw[N];refine zJF g4 ap b2 ab (fun guard j q y hi hj=>?_) (fun guard j q y hi hj=>?_) bd (bo _) (zBi (w:=w.drew));all_goals grind[Rd.ext]
       .cases h
      .rename_i dl;split at h
       .rename_i a4
        have cr:(∀dd,evx G e x0≠ .p (.sl dd))->(∀guard t xs lo hi,evx G e x0≠ .ov guard t xs lo hi)->∃a0,a.eval x0=.slice a0 0 0:=by
         intro cv bn;unfold zHl at a4;split at a4
         .grind
         .rename_i b3;rw[b3]at M;exact⟨Sc,Rd.eq_val M⟩
         .grind
         .rename_i b3;rw[b3]at M;obtain⟨a0,d0⟩:=M
          grind
         all_goals grind
        split at h
        .cases h
        .cases h
        .rename_i cv bn;obtain⟨a0,ag⟩:=cr cv bn;unfold Oper.wp;split at h
         .cases h
          have l:(Ac c.argTypes type #[a.eval x0,a.eval x1]).run P w=.ok (.slice a0 0 0) w:=by
           rw[ag,K];have hr:=L w rfl;rw[K]at hr;have di:cells=[]:=aJ (by simpa using ab);subst di;simp at hr ⊢
           cases a0 with
           |none=>simp[Ac,av,ax,zN an,zN ao,zK hs,Ah,hr]
           |some ad=>simp[Ac,av,ax,zN an,zN ao,zK hs,Ah,hr,storeCells]
          rw[D _ l];simp[Oper.upon];refine Inv.of (al:=zT e) hc hG (by simp[Act.put,Env.put,a6]) a9 ?_ (fun s cs cx=>⟨⟨cs,cx⟩,hv s cs cx⟩) (fun s hs=>hs)
          grind[zBb,yZ,Env.put]
         .rename_i q r;split at h
          .rename_i a5;obtain⟨Z,b0⟩:=a5;simp at h;subst h;obtain⟨d1,ay,old,a2,b1,b2,I,c6⟩:=zIj (P:=P) (k:=Q.size) M a4 (by simp);rw[ag]at I;have c0:old=[]:=aJ (by simpa using b2);subst c0
           obtain⟨f,bd,l⟩:=run_append_grow (P:=P) (w:=w) (ts:=c.argTypes) (ty:=type) (len:=0) (cap:=0) (n:=(q::r).length) (cap1:=B) (a0:=a0) (a1:=a1) (cells:=cells) (old:=[]) av ax an ao J hz
            (by rw[<-K];exact L w.drew rfl) (by exact I w.drew rfl) (by simp) Y (by grind)
           rw[<-ag,<-K]at l;rw[D _ l];simp only[Result.andThen_ok,Oper.upon];simp only[bz]at bd ⊢;let β':Lay:= { β with ob:=fun s=>if s=nm.getD d then w.heap.size else β.ob s }
           have hb:∀x,alm (nm.getD d) (zT e) x->β'.blk x=β.blk x:=by
            intro x E
            cases x with
            |o s=>
             have d2:s≠nm.getD d:=fun hh=>E.2.2 (by rw[hh])
             grind[Lay.blk]
            |v s=>rfl
           have N:β'.ob (nm.getD d)=w.heap.size:=by simp[β']
           have a3:=(hc.drew.anti (al':=alm (nm.getD d) (zT e)) (fun x E=>E.1))
           have W:=a3.push (.cells (([]:List Value).toArray++(cells.toArray++Aa z.cells (f- (q::r).length))) el) β' (.o (nm.getD d)) (fun hh=>b0 (by injection hh)) N hb;have C:=a3.push_ext (.cells (([]:List Value).toArray++(cells.toArray++Aa z.cells (f- (q::r).length))) el) β' (fun x=>alm (nm.getD d) (zT e) x\/x=.o (nm.getD d)) hb (fun x E=>.inl E);have b4:Ext w F β (alm (nm.getD d) (zT e)) (w.drew.alloc (.cells (([]:List Value).toArray++(cells.toArray++Aa z.cells (f- (q::r).length))) el)) F β' (fun x=>alm (nm.getD d) (zT e) x\/x=.o (nm.getD d)):=zXP C;refine Inv.own (cap:=f) hG a6 a9 ht hv rfl W b4 (by rw[N]) ?_;rw[N]
           have:=zJF (w':=w.drew.alloc (.cells (([]:List Value).toArray++(cells.toArray++Aa z.cells (f- (q::r).length))) el)) (F:=F) (b:=w.heap.size) (k:=Q.size) (cap:=f) (es:=[]) (es2:=q::r) (et:=el) (old:=[]) (cells:=cells)
            (by simp) ap (by simp) ab (fun guard j q y hi hj=>by simp at hi) (fun guard j q' y hi hj=>by
             grind[Rd.ext]) (by simpa using bd) (by grind) (zBi (w:=w.drew))
           simpa using this
          .cases h
       .cases h
     .cases h
    .cases h
   .cases h
  .cases h
 .cases h
theorem zZZ(hi:Inv Γ G w0 F0 O0 a w e){d:Option Tmp}{c:Call}{type:TypeId}{pos:String}{after:Array Edge}(h:zBs P G e d c=Sa e'):
  (⟨d,.call c,type,pos,after,i⟩:Oper).wp P a w (fun a' w'=>Inv Γ G w0 F0 O0 a' w' e') g:=zEO hi h
end
section
variable {St:Type}
def Env.mapT(f:T->T)(e:Env St):Env St:= { e with tm:=e.tm.map f,vars:=e.vars.map (fun c=>c.map (List.map f)) }
theorem vN{f:T->T}(c:f .dead=.dead)(e:Env St)(t:Nat):(e.mapT f).get t=f (e.get t):=by
 grind[Env.mapT,Env.get]
theorem jF{f:T->T}(e:Env St)(s:Nat):(e.mapT f).var s=(e.var s).map (List.map f):=by
 grind[Env.mapT,Env.var]
end
def WkT(x y:T):Prop:= ∀(w:World) (F:Blk->Prop) (β:Lay) (c:v6->Prop) (v:Value),zY w F β c v x->zY w F β c v y
def zBN:List T->List T->Prop
 |[],[]=>True
 |x::c,y::d=>WkT x y/\zBN c d
 |_,_=>False
theorem WkT.refl(x:T):WkT x x:=fun _ _ _ _ _ h=>h
theorem WkT.dead(x:T):WkT x .dead:=fun _ _ _ _ _ _=>trivial
theorem WkT.un(x:T):WkT x x.un:=fun _ _ _ _ _ h=>zBO.1 h
theorem WkT.ofUn(x:T):WkT x.un x:=fun _ _ _ _ _ h=>zBO.2 h
theorem zBN.refl:∀(l:List T),zBN l l
 |[]=>trivial
 |x::l=>⟨.refl x,zBN.refl l⟩
theorem zBN.map{f g:T->T}(h:∀x,WkT (f x) (g x)):∀(l:List T),zBN (l.map f) (l.map g)
 |[]=>trivial
 |x::l=>⟨h x,zBN.map h l⟩
theorem zBN.get:∀{xs ys:List T} (_:zBN xs ys) (i:Nat) (x y:T),xs[i]?=Sa x->ys[i]?=Sa y->WkT x y
 |[],[],_,i,x,y,c,_=>by simp at c
 |a::xs,b::ys,h,i,x,y,c,d=>by
  cases i with
  |zero=>simp at c d;subst c d;exact h.1
  |succ i=>exact zBN.get h.2 i x y (by simpa using c) (by simpa using d)
theorem zBN.len:∀{xs ys:List T} (_:zBN xs ys),xs.length=ys.length
 |[],[],_=>rfl
 |a::xs,b::ys,h=>by simp[zBN.len h.2]
section
variable {Γ:Sig}{P:Program}{G:Nat->Option (List V)}{S:vF Γ}{o:Oper}{a:Act}{w0:World}{F0:Blk->Prop}{O0:x5}{w:World}{e e':Env Γ.St}
def qG2(e d:Env Γ.St):Prop:= ∀s,match e.var s,d.var s with
 |none,Sc=>True
 |some f,Sa c=>zBN f c
 |_,_=>False
theorem Inv.weak{g:Env Γ.St}(h:Inv Γ G w0 F0 O0 a w e)(I:g.tm.length=e.tm.length)(m:g.st=e.st)(n:∀t,WkT (e.get t) (g.get t))(j:qG2 e g):
  Inv Γ G w0 F0 O0 a w g:=by
 obtain⟨F,O,β,q,r,u,p,z,A⟩:=h;refine Inv.of (al:=zT e) (by rw[m];exact q) r (by omega) p (fun t=>n t _ _ _ _ _ (z t)) ?_ ?_
 .intro s B k;have l:=j s;rw[k]at l
  cases d:e.var s with
  |none=>grind
  |some f=>
   rw[d]at l;obtain⟨c,C,D,E,H⟩:=A s f d;refine⟨⟨f,d⟩,c,C,D,E.trans l.len,?_⟩;intro i x y hx hy;have hlt:i<f.length:=by grind
   exact l.get i f[i] y (by simp[hlt]) hy _ _ _ _ _ (H i x f[i] hx (by simp[hlt]))
 .rintro s ⟨f,d⟩;have l:=j s
  grind
theorem zJ4(x:Operand):evx G (e.mapT T.un) x=(evx G e x).un:=by
 cases x with
 |tmp t=>exact vN rfl e t
 |const v=>
  simp only[evx]
  cases v with
  |tuple c=>rfl
  |agg d=>rfl
  |_=>rfl
 |global g=>simp only[evx];cases G g<;>rfl
 |func f=>rfl
theorem Inv.un(h:Inv Γ G w0 F0 O0 a w e):Inv Γ G w0 F0 O0 a w (e.mapT T.un):=by
 refine h.weak (by simp[Env.mapT]) rfl (fun t=>by rw[vN rfl];exact WkT.un _) ?_;intro s;rw[jF]
 cases d:e.var s with
 |none=>trivial
 |some c=>have:=zBN.map (f:=id) (g:=T.un) (fun x=>WkT.un x) c;simpa using this
theorem qAH(n:Nat)(x:T):WkT (jN n x.un) (jN n x):=by
 cases x with
 |p d=>
  cases d with
  |tl t c=>exact WkT.ofUn (.p (.tl t c))
  |_=>exact .refl _
 |ot i t c=>
  cases c with
  |nil=>
   simp[jN,T.un];split
   .exact .dead _
   .exact WkT.ofUn (.ot i t [])
  |cons x c=>
   simp[jN,T.un];split
   .exact .dead _
   .exact WkT.ofUn (.ot i t (x::c))
 |oet i t c j f=>
  simp[jN,T.un];split
  .exact .dead _
  .exact WkT.ofUn (.oet i t c j f)
 |_=>exact .refl _
theorem zH4(t:Ty)(x:t.El):(t.cells x).all V.one=true:=by
 induction t with
 |pair a b c d=>simp[Ty.cells,c,d]
 |_=>rfl
def zYG:T->Option ((t:Ty)×List t.El)
 |.p (.tl t c)=>Sa ⟨t,c⟩
 |.ot _ t c=>Sa ⟨t,c⟩
 |.ov _ t c d f=>Sa ⟨t,(c.take f).drop d⟩
 |_=>Sc
def zXN(t:Ty):T->Option (Option Nat×List t.El)
 |.p (.val (.slice Sc 0 0))=>Sa (Sc,[])
 |.emp=>Sa (Sc,[])
 |.ot id c d=>if h:c=t then Sa (Sa id,h▸d)else Sc
 |_=>Sc
def uH(P:j6)(G:Nat->Option (List V))(e:Env Γ.St)(h:Option Tmp)(c:Call):Option (Env Γ.St):=
 match c.callee,c.args.toList,c.argTypes.toList,h with
 |.builtin .append,[k,l],[m,n],Sa d=>
  match P.und m,P.und n with
  |some (.slice p),Sa (.slice _)=>match P.inf p with
   |some f=>match f.zero,zYG (evx G e l)with
    |some z,Sa ⟨t,i⟩=>match zXN t (evx G e k)with
     |some (g,j)=>
      if t.size=f.size/\1<=f.bytes/\zQ3 z=f.size/\g.getD d≠jV then
       if(2*(j.length+i.length)+1024)*f.bytes<=0x800000000000 then
        Sa { (e.kill (g.getD d))with tm:=(e.kill (g.getD d)).tm.set d (.ot (g.getD d) t (j++i)) }
       else Sc
      else Sc
     |none=>Sc
    |_,_=>Sc
   |none=>Sc
  |_,_=>Sc
 |_,_,_,_=>Sc
variable {g:Nat}
theorem zMT{d:Nat}{X Y:T}(f:WkT X Y)(h:Inv Γ G w0 F0 O0 a w { ((e.mapT T.un).kill g)with tm:=((e.mapT T.un).kill g).tm.set d X }):
  Inv Γ G w0 F0 O0 a w { (e.kill g)with tm:=(e.kill g).tm.set d Y } :=by
 refine h.weak (by simp[Env.kill,Env.mapT]) rfl ?_ ?_
 .intro t;rw[yZ,yZ];have c:((e.mapT T.un).kill g).tm.length=(e.kill g).tm.length:=by simp[Env.kill,Env.mapT]
  rw[c];split
  .exact f
  .rw[zKJ,zKJ,vN rfl];exact qAH g _
 .intro s;have i:({ ((e.mapT T.un).kill g)with tm:=((e.mapT T.un).kill g).tm.set d X } :Env Γ.St).var s=((e.mapT T.un).kill g).var s:=rfl;have j:({ (e.kill g)with tm:=(e.kill g).tm.set d Y } :Env Γ.St).var s=(e.kill g).var s:=rfl;rw[i,j,zAc,zAc,jF];by_cases n:s=g
  .grind
  .rw[if_neg n,if_neg n]
   cases e.var s with
   |none=>trivial
   |some k=>
    grind[List.map_map,zBN.map,qAH]
theorem zP4(hi:Inv Γ G w0 F0 O0 a w e){M:Option Tmp}{c:Call}{type:TypeId}{pos:String}{after:Array Edge}{guard:Option (Nat×Bool)}
  (h:uH P G e M c=Sa e') {Q:Exit->Act->World->Prop} :
  (⟨M,.call c,type,pos,after,guard⟩:Oper).wp P a w (fun a' w'=>Inv Γ G w0 F0 O0 a' w' e') Q:=by
 unfold uH at h;split at h
 .rename_i x0 x1 t0 t1 d E n H;split at h
  .rename_i el ad ag an;have I:P.underlying t0=Sa (.slice el):=ag;have J:P.underlying t1=Sa (.slice ad):=an;split at h
   .rename_i j K;have l:P.info? el=Sa j:=K;split at h
    .rename_i z t m hz g;split at h
     .rename_i k C f;split at h
      .rename_i ao;obtain⟨ap,av,ax,ay⟩:=ao;split at h
       .rename_i ab;simp at h;subst h
        have N:zHl (evx G (e.mapT T.un) x1)=Sa (m.map t.enc):=by
         rw[zJ4];unfold zYG at g;split at g
         .rename_i i;simp at g;obtain⟨rfl,r⟩:=g;cases r;rw[i];rfl
         .rename_i i0 a0 i;simp at g;obtain⟨rfl,r⟩:=g;cases r;rw[i];cases a0<;>rfl
         .rename_i i0 O a4 a5 i;simp at g;obtain⟨rfl,r⟩:=g;cases r;rw[i];rfl
         .cases g
        have W:zH7 j z (m.map t.enc)=true:=by
         simp only[zH7,am,decide_eq_true_eq,beq_iff_eq,au];refine⟨⟨?_,av⟩,ax⟩;intro q hq;simp at hq;obtain⟨y,_,rfl⟩:=hq
         grind[wZ,jM,Ai,zH4]
        have Y:∀id x D,k=Sa id->C=x::D->evx G (e.mapT T.un) x0=.ow id t.size (C.map t.enc)->(⟨Sa d,.call c,type,pos,after,guard⟩:Oper).wp P a w (fun a' w'=>Inv Γ G w0 F0 O0 a' w' { (e.kill (k.getD d))with tm:=(e.kill (k.getD d)).tm.set d (.ot (k.getD d) t (C++m)) }) Q:=by
         intro id x D a1 u L;subst a1
         have A:kN P G (e.mapT T.un) (Sa id) (Sa d) c=Sa { ((e.mapT T.un).kill id)with tm:=((e.mapT T.un).kill id).tm.set d (.ow id t.size (C.map t.enc++m.map t.enc)) } :=by
          have a2:(2*((C.map t.enc).length+(m.map t.enc).length)+1024)*j.bytes<=0x800000000000:=by grind
          have a3:id≠jV:=ay;simp_all[kN]
         refine Oper.wp_mono (fun a' w' Z=>?_) (zEO hi.un A);refine zMT ?_ Z
         have:(T.ot id t (C++m)).un=.ow id t.size (C.map t.enc++m.map t.enc):=by
          grind[T.un]
         grind[WkT.ofUn]
        have B:∀x:T,evx G (e.mapT T.un) x0=x->(x=.emp\/x=.p (.val (.slice Sc 0 0)))->C=[]->(⟨Sa d,.call c,type,pos,after,guard⟩:Oper).wp P a w (fun a' w'=>Inv Γ G w0 F0 O0 a' w' { (e.kill (k.getD d))with tm:=(e.kill (k.getD d)).tm.set d (.ot (k.getD d) t (C++m)) }) Q:=by
         intro x L hx u;subst u;have a6:zHl x=Sa []:=by rcases hx with rfl|rfl<;>rfl
         cases m with
         |nil=>
          have A:kN P G (e.mapT T.un) k (Sa d) c=Sa ((e.mapT T.un).put (Sa d) x):=by
           simp only[kN,E,n,H,I,J,l,hz,N,W,if_true,L]
           grind
          refine Oper.wp_mono (fun a' w' Z=>?_) (zEO hi.un A);have hk:=Z.kill (k.getD d);have i:((e.mapT T.un).put (Sa d) x).kill (k.getD d)= { ((e.mapT T.un).kill (k.getD d))with tm:=((e.mapT T.un).kill (k.getD d)).tm.set d (jN (k.getD d) x) } :=by simp[Env.kill,Env.put]
          rw[i]at hk;refine zMT ?_ hk;rcases hx with rfl|rfl
          .exact fun w F β al v h=>.inl ⟨rfl,h⟩
          .exact fun w F β al v h=>.inl ⟨rfl,Sc,Rd.eq_val h⟩
         |cons y m=>
          have A:kN P G (e.mapT T.un) k (Sa d) c=Sa { ((e.mapT T.un).kill (k.getD d))with tm:=((e.mapT T.un).kill (k.getD d)).tm.set d (.ow (k.getD d) j.size ((y::m).map t.enc)) } :=by
           have a2:(2*(t.enc y::m.map t.enc).length+1024)*j.bytes<=0x800000000000:=by grind
           simp only[kN,E,n,H,I,J,l,hz,N,W,if_true,L]
           grind
          refine Oper.wp_mono (fun a' w' Z=>?_) (zEO hi.un A);refine zMT ?_ Z;have:(T.ot (k.getD d) t ([]++y::m)).un=.ow (k.getD d) j.size ((y::m).map t.enc):=by simp[T.un,ap]
          grind[WkT.ofUn]
        unfold zXN at f;split at f
        .rename_i i;simp only[ac,aI]at f;obtain⟨rfl,rfl⟩:=f;exact B _ rfl (by rw[zJ4,i];exact .inr rfl) rfl
        .rename_i i;simp only[ac,aI]at f;obtain⟨rfl,rfl⟩:=f;exact B _ rfl (by rw[zJ4,i];exact .inl rfl) rfl
        .rename_i id t' O i;split at f
         .rename_i ht;subst ht;simp at f;obtain⟨rfl,rfl⟩:=f
          cases u:O with
          |nil=>
           subst u;exact B _ rfl (by rw[zJ4,i];exact .inl rfl) rfl
          |cons x D=>subst u;exact Y id x D rfl rfl (by rw[zJ4,i];rfl)
         .cases f
        .cases f
       .cases h
      .cases h
     .cases h
    .cases h
   .cases h
  .cases h
 .cases h
def qDC(p:Nat):Operand->Bool
 |.tmp q=> !Nat.beq q p
 |_=>Sb
def yP(P:j6)(G:Nat->Option (List V))(e:Env Γ.St)(g:Option Tmp)(c:Call):Option (Env Γ.St):=
 match c.callee,c.args.toList,c.argTypes.toList,g with
 |.builtin .append,[.tmp p,i],[m,n],Sa d=>
  match P.und m,P.und n with
  |some (.slice q),Sa (.slice _)=>match P.inf q with
   |some f=>match f.zero,zYG (evx G e i)with
    |some z,Sa ⟨t,y::j⟩=>match e.get p with
     |.ov id r k 0 l=>
      if qDC p i=Sd then Sc else
      if h:r=t then
       if t.size=f.size/\1<=f.bytes/\zQ3 z=f.size/\id≠jV then
        if(2*((List.take l (h▸k)).length+(y::j).length)+1024)*f.bytes<=0x800000000000 then
         Sa { (e.kill id)with tm:=(e.kill id).tm.set d (.ot id t (List.take l (h▸k)++y::j)) }
        else Sc
       else Sc
      else Sc
     |_=>Sc
    |_,_=>Sc
   |none=>Sc
  |_,_=>Sc
 |_,_,_,_=>Sc
theorem zSd{x:Operand}{X:T}(h:∀t,x=.tmp t->t≠g):evx G (e.put (Sa g) X) x=evx G e x:=by
 cases x with
 |tmp t=>
  simp[evx,Env.put,Env.get]
  grind
 |_=>rfl
theorem Inv.putWeak(h:Inv Γ G w0 F0 O0 a w e){X:T}(d:WkT (e.get g) X):Inv Γ G w0 F0 O0 a w (e.put (Sa g) X):=by
 refine h.weak (by simp[Env.put]) rfl ?_ ?_
 .intro t;simp only[Env.put];rw[yZ];split
  .grind
  .exact .refl _
 .intro s;have:(e.put (Sa g) X).var s=e.var s:=rfl;rw[this]
  cases e.var s with
  |none=>trivial
  |some c=>exact zBN.refl c
theorem qP.take{w:World}{F:Blk->Prop}{b k cap:Nat}{es:List V}(h:qP w F b k cap es)(n:Nat):qP w F b k cap (es.take n):=by
 obtain⟨c,d,f,g,l,i,m⟩:=h;refine⟨c,d,f,g,by simp;omega,fun e j=>i e (dE j),?_⟩
 grind
theorem zXn{id:Nat}{X:T}(c:jN id X=.dead)(d:jN id (e.get g)=.dead)(f:g<e.tm.length):(e.put (Sa g) X).kill id=e.kill id:=by
 have:(e.tm.set g X).map (jN id)=e.tm.map (jN id):=by rw[dj,c];apply bT;simp_all[List.getElem?_set,Env.get]
 grind[Env.kill,Env.put]
theorem zYd(hi:Inv Γ G w0 F0 O0 a w e){C:Option Tmp}{c:Call}{type:TypeId}{pos:String}{after:Array Edge}{guard:Option (Nat×Bool)}
  (h:yP P G e C c=Sa e') {Q:Exit->Act->World->Prop} :
  (⟨C,.call c,type,pos,after,guard⟩:Oper).wp P a w (fun a' w'=>Inv Γ G w0 F0 O0 a' w' e') Q:=by
 unfold yP at h;split at h
 .rename_i p E t0 t1 d an J ao;split at h
  .rename_i el K L M;have ap:P.underlying t0=Sa (.slice el):=L;have av:P.underlying t1=Sa (.slice K):=M;split at h
   .rename_i k u;have H:P.info? el=Sa k:=u;split at h
    .rename_i z t y m hz g;split at h
     .rename_i id f j i vA;split at h
      .cases h
      .rename_i ax;split at h
       .rename_i N;subst N;simp only at h;split at h
        .rename_i O;obtain⟨a2,W,Y,a3⟩:=O;split at h
         .rename_i I;cases h;have ay:∀q,E=.tmp q->q≠p:=by rintro q rfl a4;simp_all[qDC]
          have hlt:p<e.tm.length:=by
           grind[Nat.lt_or_ge,List.getElem?_eq_none,Env.get]
          have D:jN id (e.get p)=.dead:=by grind[jN]
          have Z:∀(e1:Env Γ.St) (X:T),p<e1.tm.length->(e1.put (Sa p) X).get p=X:=by intro e1 X h1;simp only[Env.put];rw[yZ,if_pos ⟨rfl,h1⟩]
          cases j with
          |nil=>
           have hw:WkT (e.get p) (.ot id f []):=by
            rw[vA];rintro w F β al v (⟨_,_,_,hv⟩|⟨h0,_⟩)
            .exact .inl ⟨rfl,hv⟩
            grind
           have hk:(e.put (Sa p) (.ot id f [])).kill id=e.kill id:=zXn (by simp[jN]) D hlt
           have A:uH P G (e.put (Sa p) (.ot id f [])) (Sa d) c=Sa { ((e.put (Sa p) (.ot id f [])).kill id)with tm:=((e.put (Sa p) (.ot id f [])).kill id).tm.set d (.ot id f ([]++y::m)) } :=by
            have ab:(2*(([]:List f.El).length+(y::m).length)+1024)*k.bytes<=0x800000000000:=by grind
            have ad:zYG (evx G (e.put (Sa p) (.ot id f [])) E)=Sa ⟨f,y::m⟩:=by grind[zSd]
            have a0:zXN f (evx G (e.put (Sa p) (.ot id f [])) (.tmp p))=Sa (Sa id,[]):=by simp_all[evx,zXN]
            simp_all[uH]
           have:=zP4 (type:=type) (pos:=pos) (after:=after) (guard:=guard) (Q:=Q) (hi.putWeak hw) A
           grind
          |cons x j=>
           have hw:WkT ((e.mapT T.un).get p) (.ow id f.size (((x::j).take i).map f.enc)):=by
            rw[vN rfl,vA];rintro w F β al v (⟨h0,_⟩|⟨_,ha,h1,h2,ag,hv,hr⟩)
            .cases h0
            .refine⟨ha,ag,?_,?_⟩
             .grind
             .rw[List.map_take];exact hr.take i
           have r:p< (e.mapT T.un).tm.length:=by grind[Env.mapT]
           have B:jN id ((e.mapT T.un).get p)=.dead:=by rw[vN rfl,vA];simp[T.un,jN]
           have hk:((e.mapT T.un).put (Sa p) (.ow id f.size (((x::j).take i).map f.enc))).kill id=(e.mapT T.un).kill id:=zXn (by simp[jN]) B r
           have a5:zHl (evx G (e.mapT T.un) E)=Sa ((y::m).map f.enc):=by
            rw[zJ4];unfold zYG at g;split at g
            .rename_i l;simp at g;obtain⟨rfl,n⟩:=g;cases n;rw[l];rfl
            .rename_i i0 a6 l;simp at g;obtain⟨rfl,n⟩:=g;cases n;rw[l];rfl
            .rename_i i0 a9 bb bd l;simp at g;obtain⟨rfl,n⟩:=g;rw[l];simp only[T.un,zHl]
             grind
            .cases g
           have be:zH7 k z ((y::m).map f.enc)=true:=by
            simp only[zH7,am,decide_eq_true_eq,beq_iff_eq,au];refine⟨⟨?_,W⟩,Y⟩;intro q hq;simp only[aO]at hq;obtain⟨y,_,rfl⟩:=hq
            grind[wZ,jM,Ai,zH4]
           have A:kN P G ((e.mapT T.un).put (Sa p) (.ow id f.size (((x::j).take i).map f.enc))) (Sa id) (Sa d) c=
             Sa { (((e.mapT T.un).put (Sa p) (.ow id f.size (((x::j).take i).map f.enc))).kill id)with tm:=(((e.mapT T.un).put (Sa p) (.ow id f.size (((x::j).take i).map f.enc))).kill id).tm.set d (.ow id f.size (((x::j).take i).map f.enc++(y::m).map f.enc)) } :=by
            have ab:(2*((((x::j).take i).map f.enc).length+((y::m).map f.enc).length)+1024)*k.bytes<=0x800000000000:=by grind
            have a1:zHl (evx G ((e.mapT T.un).put (Sa p) (.ow id f.size (((x::j).take i).map f.enc))) E)=Sa ((y::m).map f.enc):=by grind[zSd]
            have bk:evx G ((e.mapT T.un).put (Sa p) (.ow id f.size (((x::j).take i).map f.enc))) (.tmp p)=.ow id f.size (((x::j).take i).map f.enc):=Z _ _ r;simp_all[kN]
           refine Oper.wp_mono (fun a' w' hh=>?_) (zEO (hi.un.putWeak hw) A);rw[hk]at hh;refine zMT ?_ hh
           have:(T.ot id f ((x::j).take i++y::m)).un=.ow id f.size (((x::j).take i).map f.enc++(y::m).map f.enc):=by
            simp only[T.un,bw]
            cases hm:((x::j).take i).map f.enc with
            |nil=>rfl
            |cons _ _=>rfl
           grind[WkT.ofUn]
         .cases h
        .cases h
       .cases h
     .cases h
    .cases h
   .cases h
  .cases h
 .cases h
end
end Go.Ve

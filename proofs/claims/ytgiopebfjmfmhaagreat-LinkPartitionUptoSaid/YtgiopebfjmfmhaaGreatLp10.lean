/- law16 -/
import Derived.Test.YtgiopebfjmfmhaaGreatLp9
set_option linter.unusedVariables false
open Option renaming some->Sa,none->Sb
open Bool renaming true->Sc,false->Sd
open Nat renaming beq->Aa,eq_of_beq_eq_true->Ab,testBit->Af,one_pos->Ag,beq_refl->Ah
open List renaming mem_of_getElem?->Ac,replicate->Ai
open Go.Builtin renaming zeroCells->Ad
open Array renaming replicate->Ae
namespace Go.Ve
open Go
inductive Cell where
 |p (ty:Ty)
 |o (id:Nat) (ty:Ty)
inductive zCQ where
 |t (i:Nat) (ty:Ty)
 |o (i id:Nat) (ty:Ty)
 |v (s:Nat) (cs:List Cell)
 |st
 |e (i id:Nat) (ty:Ty)
@[reducible] def Cell.El:Cell->Type
 |.p ty=>ty.El
 |.o _ ty=>List ty.El
@[reducible] def zUI:List Cell->Type
 |[]=>Unit
 |[c]=>c.El
 |c::a::r=>c.El×zUI (a::r)
@[reducible] def zCQ.El(St:Type):zCQ->Type
 |.t _ ty=>ty.El
 |.o _ _ ty=>List ty.El
 |.v _ a=>zUI a
 |.st=>St
 |.e _ _ ty=>ty.El
@[reducible] def yC(St:Type):List zCQ->Type
 |[]=>Unit
 |[c]=>c.El St
 |c::a::r=>c.El St×yC St (a::r)
def rdT(ty:Ty):T->Option ty.El
 |.p d=>ty.dec d
 |.emp=>ty.dec (.sl [])
 |_=>Sb
def rdO(id:Nat)(ty:Ty):T->Option (List ty.El)
 |.p (.val (.slice Sb 0 0))=>Sa []
 |.emp=>Sa []
 |.ot i t a=>match Aa i id with
  |true=>zDS t ty a
  |false=>Sb
 |_=>Sb
def rdE(id:Nat)(ty:Ty):T->Option ty.El
 |.oet i t a 0 0=>match Aa i id with
  |true=>match zDS t ty a with
   |some [z]=>Sa z
   |_=>Sb
  |false=>Sb
 |_=>Sb
def zWj:Nat->List T->Option (List V×List T)
 |0,r=>Sa ([],r)
 |n+1,.p d::r=>match zWj n r with
  |some (a,c)=>Sa (d::a,c)
  |none=>Sb
 |_+1,_=>Sb
def zOF:(c:Cell)->List T->Option (c.El×List T)
 |.p a,d=>match zWj a.size d with
  |some (f,r)=>match a.uncells f with
   |some (x,[])=>Sa (x,r)
   |_=>Sb
  |none=>Sb
 |.o id a,x::r=>match rdO id a x with
  |some g=>Sa (g,r)
  |none=>Sb
 |.o _ _,[]=>Sb
def zKz:(cs:List Cell)->List T->Option (zUI cs)
 |[],[]=>Sa ()
 |[],_::_=>Sb
 |[c],a=>match zOF c a with
  |some (x,[])=>Sa x
  |_=>Sb
 |c::f::r,a=>match zOF c a with
  |some (x,d)=>match zKz (f::r) d with
   |some g=>Sa (x,g)
   |none=>Sb
  |none=>Sb
def zOr:(c:Cell)->c.El->List T
 |.p a,x=>(a.cells x).map .p
 |.o id a,d=>[.ot id a d]
def zKv:(cs:List Cell)->zUI cs->List T
 |[],_=>[]
 |[c],x=>zOr c x
 |c::a::r,x=>zOr c x.1++zKv (a::r) x.2
section
variable {St:Type}
def zL7(e:Env St):(s:zCQ)->Option (s.El St)
 |.t i a=>rdT a (e.get i)
 |.o i id a=>rdO id a (e.get i)
 |.v s c=>match e.var s with
  |some d=>zKz c d
  |none=>Sb
 |.st=>Sa e.st
 |.e i id a=>rdE id a (e.get i)
def rdS(e:Env St):(l:List zCQ)->Option (yC St l)
 |[]=>Sa ()
 |[s]=>zL7 e s
 |s::a::r=>match zL7 e s with
  |some x=>match rdS e (a::r)with
   |some c=>Sa (x,c)
   |none=>Sb
  |none=>Sb
def zES:(s:zCQ)->s.El St->List (Nat×T)
 |.t i a,x=>[(i,.p (a.enc x))]
 |.o i id a,c=>[(i,.ot id a c)]
 |.v _ _,_=>[]
 |.st,_=>[]
 |.e i id a,x=>[(i,.oet id a [x] 0 0)]
def zGG:(s:zCQ)->s.El St->List (Nat×List T)
 |.v s a,x=>[(s,zKv a x)]
 |.t _ _,_=>[]
 |.o _ _ _,_=>[]
 |.st,_=>[]
 |.e _ _ _,_=>[]
def tmS:(l:List zCQ)->yC St l->List (Nat×T)
 |[],_=>[]
 |[s],x=>zES s x
 |s::a::r,x=>zES s x.1++tmS (a::r) x.2
def vS:(l:List zCQ)->yC St l->List (Nat×List T)
 |[],_=>[]
 |[s],x=>zGG s x
 |s::a::r,x=>zGG s x.1++vS (a::r) x.2
def zOv:(s:zCQ)->s.El St->Option St
 |.st,x=>Sa x
 |.t _ _,_=>Sb
 |.o _ _ _,_=>Sb
 |.v _ _,_=>Sb
 |.e _ _ _,_=>Sb
def stS:(l:List zCQ)->yC St l->Option St
 |[],_=>Sb
 |[s],x=>zOv s x
 |s::a::r,x=>match zOv s x.1 with
  |some y=>Sa y
  |none=>stS (a::r) x.2
def qHd(x:Option St)(y:St):St:=
 match x with
 |some z=>z
 |none=>y
def zDO:List zCQ->Bool
 |[]=>Sd
 |.st::_=>Sc
 |.t _ _::r=>zDO r
 |.o _ _ _::r=>zDO r
 |.v _ _::r=>zDO r
 |.e _ _ _::r=>zDO r
end
def zFk{α:Type}:List (Nat×α)->Nat->Option α
 |[],_=>Sb
 |(j,x)::r,i=>match Aa j i with
  |true=>Sa x
  |false=>zFk r i
def zMK:List T->Bool
 |[]=>Sc
 |.p _::r=>zMK r
 |_=>Sd
def zR1(m i:Nat):Option (List T)->Option (List T)
 |some a=>match Af m (2*i)||Af m (2*i+1)|| !zMK a with
  |true=>Sb
  |false=>Sa a
 |none=>Sb
def zAQ(m:Nat)(vs:List (Nat×List T)):Nat->List (Option (List T))->List (Option (List T))
 |_,[]=>[]
 |i,x::r=>(match zFk vs i with
  |some y=>Sa y
  |none=>zR1 m i x)::zAQ m vs (i+1) r
def zR5(vars:List (Option (List T)))(s:Nat):Bool:=
 match vars[s]? with
 |some (Sa _)=>Sc
 |_=>Sd
def zT7(m:Nat)(vars:List (Option (List T))):T->T
 |.p d=>.p d
 |.lp s a=>match !Af m (2*s)&&zR5 vars s with
  |true=>.lp s a
  |false=>.dead
 |_=>.dead
def zJZ(m:Nat)(ts:List (Nat×T))(vars:List (Option (List T))):Nat->List T->List T
 |_,[]=>[]
 |i,x::r=>(match zFk ts i with
  |some y=>y
  |none=>match Af m (2*i)with
   |true=>.dead
   |false=>zT7 m vars x)::zJZ m ts vars (i+1) r
structure JA where
 mask:Nat
 lps:List (Nat×Nat×Nat)
 sl:List zCQ
def lpT(vars:List (Option (List T)))(s off:Nat):T:=
 match zR5 vars s with
 |true=>.lp s off
 |false=>.dead
def zVl(vars:List (Option (List T))):List (Nat×Nat×Nat)->List (Nat×T)
 |[]=>[]
 |(i,s,a)::r=>(i,lpT vars s a)::zVl vars r
def zNF:List (Nat×Nat×Nat)->Nat
 |[]=>0
 |(i,_,_)::r=>2^(2*i)|||zNF r
def yR:List zCQ->Nat
 |[]=>0
 |.t i _::r=>2^(2*i)|||yR r
 |.o i _ _::r=>2^(2*i)|||yR r
 |.v s _::r=>2^(2*s+1)|||yR r
 |.st::r=>yR r
 |.e i _ _::r=>2^(2*i)|||yR r
def JA.bits(j:JA):Nat:=j.mask|||(zNF j.lps|||yR j.sl)
def qGE(s off:Nat):T->Bool
 |.lp c a=>Aa c s&&Aa a off
 |_=>Sd
section
variable {St:Type}
def qEs(e:Env St):List (Nat×Nat×Nat)->Bool
 |[]=>Sc
 |(i,s,a)::r=>qGE s a (e.get i)&&qEs e r
def rdJ(j:JA)(e:Env St):Option (yC St j.sl):=
 match qEs e j.lps with
 |true=>rdS e j.sl
 |false=>Sb
def vV(j:JA)(e:Env St)(s:yC St j.sl):Env St:=
 ⟨zJZ j.bits (zVl (zAQ j.bits (vS j.sl s) 0 e.vars) j.lps++tmS j.sl s) (zAQ j.bits (vS j.sl s) 0 e.vars) 0 e.tm,zAQ j.bits (vS j.sl s) 0 e.vars,qHd (stS j.sl s) e.st⟩
def zA2:List zCQ->Nat->Bool
 |[],_=>Sd
 |.v s _::r,i=>Aa s i||zA2 r i
 |.t _ _::r,i=>zA2 r i
 |.o _ _ _::r,i=>zA2 r i
 |.st::r,i=>zA2 r i
 |.e _ _ _::r,i=>zA2 r i
def zY5(j:JA)(e:Env St):Nat->List T->Bool
 |_,[]=>Sc
 |i,.lp s _::r=>(Af j.bits (2*i)||Af j.bits (2*s)||(zA2 j.sl s&&(e.vars[s]?).isSome)||(zR1 j.bits s (e.var s)).isSome)&&zY5 j e (i+1) r
 |i,_::r=>zY5 j e (i+1) r
def okJ(j:JA)(e:Env St):Bool:=zY5 j e 0 e.tm
def zVC(j:JA)(e:Env St)(a:Nat):Option (yC St j.sl):=
 match Aa (a|||j.bits) j.bits with
 |true=>rdJ j e
 |false=>Sb
end
def wL{σ ρ:Type}(m:Option (σ ⊕ ρ))(K:σ->Option ρ):Option ρ:=
 match m with
 |none=>Sb
 |some (.inl s)=>K s
 |some (.inr r)=>Sa r
def zDg{σ ρ:Type}(f:σ->Option (σ ⊕ ρ)):Nat->σ->Option ρ
 |0,_=>Sb
 |n+1,s=>match f s with
  |none=>Sb
  |some (.inl a)=>zDg f n a
  |some (.inr r)=>Sa r
open Classical in
noncomputable def zR{σ ρ:Type}(f:σ->Option (σ ⊕ ρ))(s:σ):Option ρ:=
 if h:∃n r,zDg f n s=Sa r then Sa (Classical.choose (dC h))else Sb
variable {g i:Type}{j:g->Option (g ⊕ i)}
theorem zR4:∀(n m:Nat) (s:g) (r:i),n<=m->zDg j n s=Sa r->zDg j m s=Sa r:=by
 intro n
 induction n with
 |zero=>grind[zDg]
 |succ n c=>
  intro m s r d h;obtain⟨a,rfl⟩:∃a,m=a+1:=⟨m-1,by omega⟩
  grind[zDg]
theorem zHS{s:g}{r:i}:zR j s=Sa r↔ ∃n,zDg j n s=Sa r:=by
 unfold zR;constructor
 .intro h;split at h;all_goals grind
 .rintro⟨n,c⟩;have a:∃n r,zDg j n s=Sa r:=⟨n,r,c⟩
  rw[dif_pos a];have d:=dC (dC a);have σ:=zR4 _ (max (Classical.choose a) n) s _ (by omega) d;have ρ:=zR4 _ (max (Classical.choose a) n) s _ (by omega) c
  grind
theorem qDI(f:g->Option (g ⊕ i))(s:g):zR f s=match f s with
  |none=>Sb
  |some (.inl a)=>zR f a
  |some (.inr r)=>Sa r:=by
 have c:∀r,zR f s=Sa r↔(match f s with
  |none=>Sb
  |some (.inl a)=>zR f a
  |some (.inr r)=>Sa r)=Sa r:=by
  intro r;rw[zHS];constructor
  .rintro⟨n,d⟩
   cases n with
   |zero=>simp[zDg]at d
   |succ n=>
    grind[zHS,zDg]
  .intro h;split at h
   .cases h
   .obtain⟨n,d⟩:=zHS.1 h;rename_i a σ;exact⟨n+1,by grind[zDg]⟩
   .rename_i ρ σ;exact⟨1,by grind[zDg]⟩
 cases j:zR f s with
 |some r=>grind
 |none=>
  generalize k:(match f s with
   |none=>Sb
   |some (.inl a)=>zR f a
   |some (.inr r)=>Sa r)=m at c ⊢
  cases m with
  |none=>rfl
  |some r=>grind
theorem qBD(J:g->Prop)(m:g->Nat)(Q:i->Prop)(step:∀s,J s->∃o,j s=Sa o/\match o with
   |.inl a=>J a/\m a<m s
   |.inr r=>Q r){s:g}(h:J s):∃r,zR j s=Sa r/\Q r:=by
 have c:∀(n:Nat) (s:g),m s=n->J s->∃r,zR j s=Sa r/\Q r:=by
  intro n
  induction n using Nat.strongRecOn with
  |_ n ρ=>
   intro s f d;obtain⟨o,σ,k⟩:=step s d;rw[qDI,σ]
   grind
 grind
def zMh:List Nat->Code->Bool
 |ids,.exit id=>ids.any (Aa id)
 |_,.ret=>Sd
 |ids,.seq a b=>zMh ids a&&zMh ids b
 |ids,.cond _ a b=>zMh ids a&&zMh ids b
 |ids,.block id a=>zMh (id::ids) a
 |ids,.loop a=>zMh ids a
 |_,_=>Sc
section
variable {Γ:Sig}(P:j6)(G:Nat->Option (List V))(S:zU Γ)(A:Nat->Option JA)
def zMW{ρ:Type}(a:(X->Env Γ.St->Nat->Option ρ)->Env Γ.St->Nat->Option ρ)(K:X->Env Γ.St->Nat->Option ρ):Nat->Env Γ.St->Nat->Option ρ
 |0,_,_=>Sb
 |n+1,e,d=>a (fun k e1 c=>match k with
  |.normal=>zMW a K n e1 c
  |k=>K k e1 c) e d
def qFy(t:Nat)(c:Code):Option JA:=
 match zRZ c with
 |some k=>A (4*k+t)
 |none=>Sb
noncomputable def exC:Code->(ρ:Type)->(X->Env Γ.St->Nat->Option ρ)->Env Γ.St->Nat->Option ρ
 |.skip,_,K,e,f=>K .normal e f
 |.seq x y,ρ,K,e,f=>match qFy A 0 y with
  |some j=>match zMh [] x with
   |true=>zK8 (okJ j e) (Option.bind (exC x (yC Γ.St j.sl) (fun k e1 a=>match k with
     |.normal=>zVC j e1 a
     |_=>Sb) e 0) (fun s=>zEC (vV j e s) (fun e1=>exC y ρ K e1 (f|||j.bits))))
   |false=>zK8 (okJ j e) (wL (exC x (yC Γ.St j.sl ⊕ ρ) (fun k e1 a=>match k with
     |.normal=>(zVC j e1 a).map .inl
     |k=>(K k e1 (f|||a)).map .inr) e 0) (fun s=>zEC (vV j e s) (fun e1=>exC y ρ K e1 (f|||j.bits))))
  |none=>exC x ρ (fun k e1 a=>match k with
   |.normal=>exC y ρ K e1 a
   |k=>K k e1 a) e f
 |.cond c x y,ρ,K,e,f=>match evx G e c with
  |.p (.val (.bool b))=>cond b (exC x ρ K e f) (exC y ρ K e f)
  |_=>Sb
 |.block id c,ρ,K,e,f=>exC c ρ (fun k e1 a=>K (k.out id) e1 a) e f
 |.loop c,ρ,K,e,f=>match qFy A 1 c with
  |some j=>zK8 (okJ j e) (Option.bind (rdJ j e) (fun h=>zR (fun s=>zEC (vV j e s) (fun i=>exC c (yC Γ.St j.sl ⊕ ρ) (fun k e1 a=>match k with
    |.normal=>(zVC j e1 a).map .inl
    |k=>(K k e1 (f|||(j.bits|||a))).map .inr) i 0)) h))
  |none=>zMW (exC c ρ) K 80 e f
 |.exit id,_,K,e,f=>K (.exit id) e f
 |.ret,_,K,e,f=>K .ret e f
 |.region id g d,_,K,e,f=>match A (4*id+2)with
  |some j=>zK8 (okJ j e) (Option.bind (qFh P G S g d ((A (4*id+3)).map (·.lps)) e 0 (fun e1 a=>zVC j e1 a)) (fun s=>zEC (vV j e s) (fun e1=>K .normal e1 (f|||j.bits))))
  |none=>qFh P G S g d ((A (4*id+3)).map (·.lps)) e f (fun e1 a=>K .normal e1 a)
 |_,_,_,_,_=>Sb
end
theorem zWi:∀(n:Nat) (ts:List T) (ds:List V) (r:List T),zWj n ts=Sa (ds,r)->ts=ds.map .p++r/\ds.length=n:=by
 intro n
 induction n with
 |zero=>intro ts ds r h;simp only[zWj,ac,aI]at h;grind
 |succ n a=>
  intro ts ds r h;unfold zWj at h
  grind
theorem zBN.append:∀{xs ys a c:List T},zBN xs ys->zBN a c->zBN (xs++a) (ys++c)
 |[],[],_,_,_,h=>h
 |_::_,_::_,_,_,h,d=>⟨h.1,zBN.append h.2 d⟩
 |[],_::_,_,_,h,_=>h.elim
 |_::_,[],_,_,h,_=>h.elim
theorem zBN.ofV:∀{xs ys:List V},kW xs ys->zBN (xs.map .p) (ys.map .p)
 |[],[],_=>trivial
 |_::_,_::_,h=>⟨fun w F _ _ v hr=>h.1 w F v hr,zBN.ofV h.2⟩
 |[],_::_,h=>h.elim
 |_::_,[],h=>h.elim
variable {g:Ty}
theorem qBm{x:T}{a:g.El}(h:rdT g x=Sa a):WkT x (.p (g.enc a)):=by
 unfold rdT at h;split at h
 .exact fun w F _ _ v c=>u5 h w F v c
 .intro w F β f v c;obtain⟨d,rfl⟩:=c;exact u5 h w F _ (.slemp d 0)
 .cases h
theorem uY{a:Ty}{xs:List g.El}{c:List a.El}(h:zDS g a xs=Sa c):zZw g a xs c:=by simp only[zZw,h]
theorem zTU{id:Nat}{x:T}{xs:List g.El}(h:rdO id g x=Sa xs):WkT x (.ot id g xs):=by
 unfold rdO at h;split at h
 .simp only[ac]at h;subst h;exact fun w F β c v a=>.inl ⟨rfl,Sb,Rd.eq_val a⟩
 .simp only[ac]at h;subst h;exact fun w F β c v a=>.inl ⟨rfl,a⟩
 .rename_i i t j;split at h
  .rename_i d;have f:=aL d;subst f;obtain⟨ty,h⟩:=u9 (uY h);subst ty;subst h;exact .refl _
  .cases h
 .cases h
theorem qBn{id:Nat}{x:T}{z:g.El}(h:rdE id g x=Sa z):WkT x (.oet id g [z] 0 0):=by
 unfold rdE at h;split at h
 .rename_i i t ty;split at h
  .rename_i a;have c:=aL a;subst c;split at h
   .rename_i j d;simp only[ac]at h;subst h;obtain⟨f,h⟩:=u9 (uY d);subst f;subst h;exact .refl _
   .cases h
  .cases h
 .cases h
theorem zNk:∀{c:Cell} {ts r:List T} {x:c.El},zOF c ts=Sa (x,r)->∃a,ts=a++r/\zBN a (zOr c x)
 |.p f,ts,r,x,h=>by
  simp only[zOF]at h;split at h
  .rename_i n q g;split at h
   .rename_i y i;simp only[ac,aI]at h;obtain⟨rfl,rfl⟩:=h;obtain⟨j,t⟩:=zWi _ _ _ _ g;obtain⟨k,d,l⟩:=j7 _ _ _ _ i;rw[cw]at d;subst d;exact⟨_,j,zBN.ofV l⟩
   .cases h
  .cases h
 |.o id f,y::ts,r,x,h=>by
  simp only[zOF]at h;split at h
  .rename_i u m;simp only[ac,aI]at h;obtain⟨rfl,rfl⟩:=h;exact⟨[y],rfl,zTU m,trivial⟩
  .cases h
 |.o _ _,[],_,_,h=>by simp[zOF]at h
theorem zLv:∀(cs:List Cell) (ts:List T) (x:zUI cs),zKz cs ts=Sa x->zBN ts (zKv cs x)
 |[],[],_,_=>trivial
 |[],_::_,_,h=>by simp[zKz]at h
 |[c],ts,x,h=>by
  simp only[zKz]at h;split at h
  .rename_i y d;simp only[ac]at h;subst h;obtain⟨f,a,g⟩:=zNk d;rw[cw]at a;subst a;exact g
  .cases h
 |c::k::r,ts,x,h=>by
  simp only[zKz]at h;split at h
  .rename_i y i d;split at h
   .rename_i l j;simp only[ac]at h;subst h;obtain⟨f,a,g⟩:=zNk d;subst a;exact g.append (zLv (k::r) i l j)
   .cases h
  .cases h
section
variable {St:Type}{e e1:Env St}
theorem zTT{s:zCQ}{x:s.El St}(h:zL7 e s=Sa x):∀i y,(i,y)∈zES s x->WkT (e.get i) y:=by
 intro i y a
 cases s with
 |t j c=>
  simp only[zES,aM,aI]at a;obtain⟨rfl,rfl⟩:=a;exact qBm h
 |o j id c=>
  simp only[zES,aM,aI]at a;obtain⟨rfl,rfl⟩:=a;exact zTU h
 |v s d=>simp[zES]at a
 |st=>simp[zES]at a
 |e j id c=>simp only[zES,aM,aI]at a;obtain⟨rfl,rfl⟩:=a;exact qBn h
theorem zW0{s:zCQ}{x:s.El St}(h:zL7 e s=Sa x):∀i c,(i,c)∈zGG s x->∃cs,e.var i=Sa cs/\zBN cs c:=by
 intro i y a
 cases s with
 |t j d=>simp[zGG]at a
 |o j id d=>simp[zGG]at a
 |st=>simp[zGG]at a
 |e j id d=>simp[zGG]at a
 |v s cs=>
  simp only[zGG,aM,aI]at a;obtain⟨rfl,rfl⟩:=a
  grind[zLv,zL7]
theorem qDd:∀{l:List zCQ} {x:yC St l},rdS e l=Sa x->∀i y,(i,y)∈tmS l x->WkT (e.get i) y
 |[],_,_,i,y,c=>by simp[tmS]at c
 |[s],x,h,i,y,c=>zTT (s:=s) h i y c
 |s::f::r,x,h,i,y,c=>by
  simp only[rdS]at h;split at h
  .rename_i a d;split at h
   .rename_i as has;simp only[ac]at h;subst h;simp only[tmS,a7]at c;rcases c with c|c
    .exact zTT d i y c
    .exact qDd has i y c
   .cases h
  .cases h
theorem qGa:∀{l:List zCQ} {x:yC St l},rdS e l=Sa x->∀i d,(i,d)∈vS l x->∃cs,e.var i=Sa cs/\zBN cs d
 |[],_,_,i,y,c=>by simp[vS]at c
 |[s],x,h,i,y,c=>zW0 (s:=s) h i y c
 |s::g::r,x,h,i,y,c=>by
  simp only[rdS]at h;split at h
  .rename_i a f;split at h
   .rename_i as has;simp only[ac]at h;subst h;simp only[vS,a7]at c;rcases c with c|c
    .exact zW0 f i y c
    .exact qGa has i y c
   .cases h
  .cases h
theorem qDe:∀{l:List zCQ} {x:yC St l},rdS e l=Sa x->∀y,stS l x=Sa y->y=e.st
 |[],_,_,y,c=>by simp[stS]at c
 |[s],x,h,y,c=>by
  cases s<;>simp[stS,zOv]at c
  grind[Option.some.injEq,rdS,zL7]
 |s::g::r,x,h,y,c=>by
  simp only[rdS]at h;split at h
  .rename_i a d;split at h
   .rename_i as has;simp only[ac]at h;subst h;simp only[stS]at c;split at c
    .rename_i z f;cases s<;>simp[zOv]at f;simp only[zL7,ac]at d;simp only[ac]at c;rw[<-c,<-f,<-d]
    .exact qDe has y c
   .cases h
  .cases h
theorem zWr:∀{l:List zCQ} (x:yC St l),zDO l=Sc->∃y,stS l x=Sa y
 |[],_,h=>by simp[zDO]at h
 |[s],x,h=>by
  cases s<;>simp[zDO]at h;exact⟨x,rfl⟩
 |s::a::r,x,h=>by
  simp only[stS]
  cases c:zOv s x.1 with
  |some y=>grind
  |none=>
   have d:zDO (a::r)=true:=by
    cases s<;>simp only[zDO]at h ⊢ <;>first|exact h|simp[zOv]at c
   simp_all[zWr]
theorem zHT{α:Type}:∀{l:List (Nat×α)} {i:Nat} {x:α},zFk l i=Sa x->(i,x)∈l
 |[],_,_,h=>by simp[zFk]at h
 |(j,y)::r,i,x,h=>by
  simp only[zFk]at h;split at h
  .rename_i a;have:=aL a;subst this;simp only[ac]at h;subst h;exact List.mem_cons_self
  .exact aw _ (zHT h)
theorem zFB(m:Nat)(vs:List (Nat×List T)):∀(l:List (Option (List T))) (n i:Nat),(zAQ m vs n l)[i]?=(l[i]?).map (fun x=>match zFk vs (n+i)with
  |some y=>Sa y
  |none=>zR1 m (n+i) x)
 |[],n,i=>by simp[zAQ]
 |x::r,n,i=>by
  cases i with
  |zero=>simp[zAQ]
  |succ i=>simp only[zAQ,bp];rw[zFB m vs r (n+1) i];rw[show n+1+i=n+(i+1) by omega]
theorem zMm(m:Nat)(ts:List (Nat×T))(vars:List (Option (List T))):∀(l:List T) (n i:Nat),(zJZ m ts vars n l)[i]?=(l[i]?).map (fun x=>match zFk ts (n+i)with
  |some y=>y
  |none=>match Af m (2*(n+i))with
   |true=>.dead
   |false=>zT7 m vars x)
 |[],n,i=>by simp[zJZ]
 |x::r,n,i=>by
  cases i with
  |zero=>simp[zJZ]
  |succ i=>simp only[zJZ,bp];rw[zMm m ts vars r (n+1) i];rw[show n+1+i=n+(i+1) by omega]
theorem zNJ(m:Nat)(vs:List (Nat×List T)):∀(l:List (Option (List T))) (n:Nat),(zAQ m vs n l).length=l.length
 |[],_=>rfl
 |_::r,n=>by simp[zAQ,zNJ m vs r (n+1)]
theorem zR3(m:Nat)(ts:List (Nat×T))(vars:List (Option (List T))):∀(l:List T) (n:Nat),(zJZ m ts vars n l).length=l.length
 |[],_=>rfl
 |_::r,n=>by simp[zJZ,zR3 m ts vars r (n+1)]
theorem qAZ:∀{cs:List T},zMK cs=Sc->∃ds:List V,cs=ds.map .p
 |[],_=>⟨[],rfl⟩
 |.p d::r,h=>by
  obtain⟨ds,a⟩:=qAZ (cs:=r) h;exact⟨d::ds,by rw[a];rfl⟩
 |.ow _ _ _::_,h=>by simp[zMK]at h
 |.oe _ _ _ _ _::_,h=>by simp[zMK]at h
 |.lp _ _::_,h=>by simp[zMK]at h
 |.mp _ _ _::_,h=>by simp[zMK]at h
 |.ot _ _ _::_,h=>by simp[zMK]at h
 |.oet _ _ _ _ _::_,h=>by simp[zMK]at h
 |.ov _ _ _ _ _::_,h=>by simp[zMK]at h
 |.on _::_,h=>by simp[zMK]at h
 |.emp::_,h=>by simp[zMK]at h
 |.dead::_,h=>by simp[zMK]at h
variable {i:List T}{g:Nat}
theorem zR0{m:Nat}{x:Option (List T)}(h:zR1 g m x=Sa i):x=Sa i/\g.testBit (2*m)=Sd/\g.testBit (2*m+1)=Sd/\∃ds:List V,i=ds.map .p:=by
 unfold zR1 at h;split at h
 .split at h
  .cases h
  .rename_i a;simp only[Bool.or_eq_false_iff,Bool.not_eq_false']at a;simp only[ac]at h;subst h;exact⟨rfl,a.1.1,a.1.2,qAZ a.2⟩
 .cases h
theorem zIc(h:e.vars[g]?=Sa (Sa i)):e.var g=Sa i:=by simp[Env.var,h]
theorem zMn(h:e.var g=Sa i):e.vars[g]?=Sa (Sa i):=by
 grind[Env.var]
theorem zT8{j:JA}{s:yC St j.sl}(h:(vV j e s).var g=Sa i):
  (g,i)∈vS j.sl s\/(e.var g=Sa i/\j.bits.testBit (2*g)=Sd/\j.bits.testBit (2*g+1)=Sd/\∃ds:List V,i=ds.map .p):=by
 have c:=zMn h;simp only[vV]at c;rw[zFB]at c;simp only[ak,bz]at c;obtain⟨x,f,d⟩:=c;split at d
 .grind[Option.some.injEq,zHT]
 .obtain⟨rfl,a,k,l⟩:=zR0 d
  grind[zIc]
theorem zRW{vars:List (Option (List T))}:∀{l:List (Nat×Nat×Nat)} {i:Nat} {y:T},(i,y)∈zVl vars l->∃s off,(i,s,off)∈l/\y=lpT vars s off
 |[],_,_,h=>by simp[zVl]at h
 |(j,s,off)::r,i,y,h=>by
  simp only[zVl,bi,aI]at h;rcases h with⟨rfl,rfl⟩|h
  .grind
  .obtain⟨c,a,d,f⟩:=zRW h;exact⟨c,a,aw _ d,f⟩
theorem qFA{off:Nat}{x:T}(h:qGE g off x=Sc):x=.lp g off:=by unfold qGE at h;split at h;all_goals simp_all
theorem zXZ:∀{l:List (Nat×Nat×Nat)},qEs e l=Sc->∀i s off,(i,s,off)∈l->e.get i=.lp s off
 |[],_,_,_,_,h=>by simp at h
 |(j,d,c)::r,h,i,s,off,a=>by
  simp only[qEs,am]at h;simp only[bi,aI]at a;rcases a with⟨rfl,rfl,rfl⟩|a
  .exact qFA h.1
  .exact zXZ h.2 i s off a
theorem qBC(vars:List (Option (List T)))(s off:Nat):lpT vars s off=.dead\/(lpT vars s off=.lp s off/\zR5 vars s=Sc):=by
 unfold lpT
 grind
theorem qBH{j:JA}{s:yC St j.sl}(hi:g<e.tm.length):
  (∃y,(g,y)∈zVl (vV j e s).vars j.lps++tmS j.sl s/\(vV j e s).get g=y)\/
   ((vV j e s).get g=.dead)\/(j.bits.testBit (2*g)=Sd/\(vV j e s).get g=zT7 j.bits (vV j e s).vars (e.get g)):=by
 have a:(vV j e s).tm[g]?=_:=zMm j.bits (zVl (vV j e s).vars j.lps++tmS j.sl s) (vV j e s).vars e.tm 0 g;rw[ah hi,bv,bz]at a;have c:(vV j e s).get g=((vV j e s).tm[g]?).getD .dead:=by simp[Env.get]
 have d:e.get g=e.tm[g]:=by simp[Env.get,hi]
 rw[c,a,d];simp only[dy];split
 .rename_i y f;exact .inl ⟨y,zHT f,rfl⟩
 grind
theorem zKG{j:JA}{s:yC St j.sl}:(vV j e s).tm.length=e.tm.length/\(vV j e s).vars.length=e.vars.length:=
 ⟨zR3 _ _ _ _ _,zNJ _ _ _ _⟩
theorem qDR(h:e.tm.length<=g):e.get g=.dead:=by simp[Env.get,h]
theorem zOS:zR5 e.vars g=Sc↔ ∃cs,e.var g=Sa cs:=by
 grind[zIc,zMn,zR5]
end
theorem qAX{St:Type}{l:List zCQ}{x:yC St l}:∀{i:Nat} {y:T},(i,y)∈tmS l x->(yR l).testBit (2*i)=true:=by
 match l,x with
 |[],_=>grind[tmS]
 |[s],x=>
  intro i y h;cases s<;>simp only[tmS,zES,aM,aI,cQ]at h
  all_goals
   obtain⟨rfl,_⟩:=h;simp[yR]
 |s::a::r,x=>
  intro i y h;simp only[tmS,a7]at h;rcases h with h|h
  .cases s<;>simp only[zES,aM,aI,cQ]at h
   all_goals
    obtain⟨rfl,_⟩:=h;simp[yR]
  .have:=qAX (l:=a::r) (x:=x.2) h;cases s<;>simp[yR]at this ⊢ <;>first|exact .inr this|exact this
theorem qEx{St:Type}{l:List zCQ}{x:yC St l}:∀{i:Nat} {y:List T},(i,y)∈vS l x->(yR l).testBit (2*i+1)=true:=by
 match l,x with
 |[],_=>grind[vS]
 |[s],x=>
  intro i y h;cases s<;>simp only[vS,zGG,aM,aI,cQ]at h
  all_goals
   obtain⟨rfl,_⟩:=h;simp[yR]
 |s::a::r,x=>
  intro i y h;simp only[vS,a7]at h;rcases h with h|h
  .cases s<;>simp only[zGG,aM,aI,cQ]at h
   all_goals
    obtain⟨rfl,_⟩:=h;simp[yR]
  .have:=qEx (l:=a::r) (x:=x.2) h;cases s<;>simp[yR]at this ⊢ <;>first|exact .inr this|exact this
theorem zUZ{St:Type}:∀{l:List zCQ} {x:yC St l} {i:Nat},zA2 l i=Sc->∃cs,zFk (vS l x) i=Sa cs:=by
 have app:∀{a b:List (Nat×List T)} {i:Nat},((∃cs,zFk a i=Sa cs)\/∃cs,zFk b i=Sa cs)->∃cs,zFk (a++b) i=Sa cs:=by
  intro a b i h
  induction a with
  |nil=>
   grind[zFk]
  |cons x a d=>obtain⟨k,y⟩:=x;simp only[dz,zFk]at h ⊢;split;all_goals simp_all
 have one:∀{s:zCQ} {x:s.El St} {i:Nat},zA2 [s] i=Sc->∃cs,zFk (zGG s x) i=Sa cs:=by
  intro s x i h;cases s<;>simp only[zA2,Bool.or_false,bP]at h;simp only[zGG,zFk,h]
  grind
 intro l
 induction l with
 |nil=>grind[zA2]
 |cons s r d=>
  intro x i h
  cases r with
  |nil=>exact one (s:=s) (x:=x) h
  |cons f r=>
   have c:zA2 [s] i=Sc\/zA2 (f::r) i=true:=by cases s<;>simp only[zA2,bO,Bool.or_false]at h ⊢;all_goals grind
   simp only[vS];rcases c with c|c;all_goals simp_all
theorem zX6:∀{l:List (Nat×Nat×Nat)} {i s off:Nat},(i,s,off)∈l->(zNF l).testBit (2*i)=Sc
 |[],_,_,_,h=>by simp at h
 |(j,c,a)::r,i,s,off,h=>by
  simp only[bi,aI]at h;simp only[zNF,Nat.testBit_or,bO,Nat.testBit_two_pow,decide_eq_true_eq];rcases h with⟨rfl,_⟩|h
  .exact .inl rfl
  .exact .inr (zX6 h)
end Go.Ve
namespace Go.Ve
open Go
section
variable {Γ:Sig}{P:Program}{G:Nat->Option (List V)}{e e1 e2:Env Γ.St}
def zTA(G:Nat->Option (List V))(e e2:Env Γ.St):Prop:=
 ∀(c:World) (d:Blk->Prop) (f:x5) (a:Act) (w:World),Inv Γ G c d f a w e->Inv Γ G c d f a w e2
theorem qFK(E:e2.tm.length=e.tm.length)(r:e2.st=e.st)(u:∀t,WkT (e.get t) (e2.get t))
  (z:∀s d,e2.var s=Sa d->∃cs,e.var s=Sa cs/\zBN cs d) (A:∀t,zI1 e2 (e2.get t)=Sc)
  (B:∀s d x,e2.var s=Sa d->x∈d->zI1 e2 x=Sc):zTA G e e2:=by
 intro w0 F0 O0 a w h;obtain⟨F,O,β,M,N,Q,C,S,W⟩:=h;let m:v6->Prop:=fun x=>zT e x/\∀s,x=.v s->∃cs,e2.var s=Sa cs
 have p:∀v x,zY w F β (zT e) v x->zI1 e2 x=Sc->zY w F β m v x:=by
  intro v x l E;refine l.on ?_;have f:=l.sites
  cases x with
  |ow i k H=>exact⟨f,fun s h=>by cases h⟩
  |oe i k H j q=>exact⟨f,fun s h=>by cases h⟩
  |mp i H ck=>exact⟨f,fun s h=>by cases h⟩
  |ot i t I=>exact fun D=>⟨f D,fun s h=>by cases h⟩
  |oet i t I j q=>exact⟨f,fun s h=>by cases h⟩
  |ov i t I lo hi=>exact fun D=>⟨f D,fun s h=>by cases h⟩
  |on n=>exact⟨⟨f.1,fun s h=>by cases h⟩,⟨f.2,fun s h=>by cases h⟩⟩
  |lp s q=>
   refine⟨f,fun Y h=>?_⟩;cases h;exact bm.1 E
  |_=>trivial
 refine Inv.of (al:=m) (by rw[r];exact M.anti (fun x l=>l.1)) N (by omega) C ?_ ?_ ?_
 .intro t;exact p _ _ (u t _ _ _ _ _ (S t)) (A t)
 .intro s d g;obtain⟨cs,J,K⟩:=z s d g;obtain⟨c,Z,g1,g2,g3⟩:=W s cs J;refine⟨⟨⟨cs,J⟩,fun Y h=>by grind⟩,c,Z,g1,g2.trans K.len,?_⟩;intro i x y l L;have hlt:i<cs.length:=by grind
  exact p _ _ (K.get i cs[i] y (by simp[hlt]) L _ _ _ _ _ (g3 i x cs[i] l (by simp[hlt]))) (B s d y g (ae L))
 grind
theorem zTC{c:Cell}{x:c.El}:∀y,y∈zOr c x->zI1 e y=true:=by
 intro y a
 cases c with
 |p f=>
  simp[zOr]at a;obtain⟨d,_,rfl⟩:=a;rfl
 |o id f=>simp[zOr]at a;subst a;rfl
theorem zQ4:∀{cs:List Cell} {x:zUI cs},∀y,y∈zKv cs x->zI1 e y=Sc
 |[],_,y,h=>by simp[zKv]at h
 |[c],x,y,h=>zTC (c:=c) (x:=x) y h
 |c::a::r,x,y,h=>by
  simp only[zKv,a7]at h;rcases h with h|h
  .exact zTC y h
  .exact zQ4 y h
variable {g:Nat}
theorem zWd{s:zCQ}{x:s.El Γ.St}{cs:List T}(h:(g,cs)∈zGG s x):∀y,y∈cs->zI1 e y=true:=by intro y a;cases s<;>simp only[zGG,aM,aI,cQ]at h;obtain⟨_,rfl⟩:=h;exact zQ4 y a
theorem qF6:∀{l:List zCQ} {x:yC Γ.St l} {i:Nat} {cs:List T},(i,cs)∈vS l x->∀y,y∈cs->zI1 e y=Sc
 |[],_,_,_,h=>by simp[vS]at h
 |[s],x,_,_,h=>zWd (s:=s) (x:=x) h
 |s::a::r,x,_,_,h=>by
  simp only[vS,a7]at h;rcases h with h|h
  .exact zWd h
  .exact qF6 h
theorem zTH{s:zCQ}{x:s.El Γ.St}{y:T}(h:(g,y)∈zES s x):zI1 e y=true:=by
 cases s<;>simp only[zES,aM,aI,cQ]at h
 all_goals
  obtain⟨_,rfl⟩:=h;rfl
theorem qCK:∀{l:List zCQ} {x:yC Γ.St l} {i:Nat} {y:T},(i,y)∈tmS l x->zI1 e y=Sc
 |[],_,_,_,h=>by simp[tmS]at h
 |[s],x,_,_,h=>zTH (s:=s) (x:=x) h
 |s::a::r,x,_,_,h=>by
  simp only[tmS,a7]at h;rcases h with h|h
  .exact zTH h
  .exact qCK h
variable {I:JA}
theorem zX5(h:I.bits.testBit g=Sd):(zNF I.lps).testBit g=Sd/\(yR I.sl).testBit g=false:=by
 grind[zBy,JA.bits]
theorem zKF{j:JA}(l:Subsingleton Γ.St\/zDO j.sl=Sc){s:yC Γ.St j.sl}(u:qA j.bits e e1)(N:rdJ j e1=Sa s):zTA G e1 (vV j e s):=by
 have q:qEs e1 j.lps=Sc/\rdS e1 j.sl=Sa s:=by
  grind[rdJ]
 obtain⟨I,J⟩:=q
 have K:∀i c,(vV j e s).var i=Sa c->∃D,e1.var i=Sa D/\zBN D c:=by
  intro i c h;rcases zT8 h with h|⟨m,z,A,E,rfl⟩
  .grind[qGa]
  .exact⟨_,u.v i E z A m,zBN.refl _⟩
 have g:∀f a,zR5 (vV j e s).vars f=Sc->zI1 (vV j e s) (.lp f a)=true:=by
  grind[zOS,Option.isSome_some,zI1]
 have vA:∀t,WkT (e1.get t) ((vV j e s).get t)/\zI1 (vV j e s) ((vV j e s).get t)=true:=by
  intro t;rcases a8 t e.tm.length with hlt|L
  .rcases qBH (j:=j) (s:=s) hlt with⟨y,k,m⟩|m|⟨F,m⟩
   .rw[m];rw[a7]at k;rcases k with k|k
    .obtain⟨f,a,z,rfl⟩:=zRW k;have A:=zXZ I t f a z;rcases qBC (vV j e s).vars f a with B|⟨B,M⟩
     .rw[B];exact⟨.dead _,rfl⟩
     .rw[B,A];exact⟨.refl _,g f a M⟩
    grind[qDd,qCK]
   .rw[m];exact⟨.dead _,rfl⟩
   .rw[m]
    cases n:e.get t with
    |p d=>rw[u.p t d F n];exact⟨.refl _,rfl⟩
    |lp f a=>
     simp only[zT7];split
     .rename_i C;simp at C;rw[u.lp t f a F C.1 n];exact⟨.refl _,g f a C.2⟩
     .exact⟨.dead _,rfl⟩
    |_=>exact⟨.dead _,rfl⟩
  .rw[qDR (e:=vV j e s) (by grind[zKG])];exact⟨.dead _,rfl⟩
 have r:(vV j e s).st=e1.st:=by
  rcases l with H|l
  .exact cY _ _
  .obtain⟨y,k⟩:=zWr s l;have:=qDe J y k;show qHd (stS j.sl s) e.st=e1.st;rw[k];exact this
 refine qFK (by rw[zKG.1,u.tl]) r (fun t=>(vA t).1) K (fun t=>(vA t).2) ?_;intro i c x h n;rcases zT8 h with h|⟨_,_,_,E,rfl⟩
 .exact qF6 h x n
 .simp at n;obtain⟨d,_,rfl⟩:=n;rfl
theorem zXb{j:JA}:∀(l:List T) (n:Nat),zY5 j e n l=Sc->∀i s off,l[i]?=Sa (.lp s off)->j.bits.testBit (2*(n+i))=Sd->j.bits.testBit (2*s)=Sd->
  (zA2 j.sl s=Sc/\(e.vars[s]?).isSome=Sc)\/(zR1 j.bits s (e.var s)).isSome=Sc
 |[],_,_,i,s,off,h,_,_=>by simp at h
 |x::r,n,a,i,s,off,h,c,d=>by
  have f:zY5 j e (n+1) r=true:=by
   cases x<;>simp only[zY5,am]at a<;>first|exact a|exact a.2
  cases i with
  |zero=>
   simp_all[zY5]
  |succ i=>simp only[bp]at h;exact zXb r (n+1) f i s off h (by rw[show n+1+i=n+(i+1) by omega];exact c) d
variable {a0:yC Γ.St I.sl}
theorem zIA(u:okJ I e=Sc):qA I.bits e (vV I e a0):=by
 have c:∀t,I.bits.testBit (2*t)=Sd->∀y,(t,y) ∉ zVl (vV I e a0).vars I.lps++tmS I.sl a0:=by
  intro t a y g;obtain⟨n,H⟩:=zX5 a
  grind[zRW,zX6,qAX]
 have vA:∀t,I.bits.testBit (2*t)=Sd->t<e.tm.length->(vV I e a0).get t=zT7 I.bits (vV I e a0).vars (e.get t):=by
  intro t a hlt;have n:(vV I e a0).tm[t]?=_:=zMm I.bits (zVl (vV I e a0).vars I.lps++tmS I.sl a0) (vV I e a0).vars e.tm 0 t;rw[ah hlt,bv,bz]at n;have z:(vV I e a0).get t=((vV I e a0).tm[t]?).getD .dead:=by simp[Env.get]
  have j:e.get t=e.tm[t]:=by simp[Env.get,hlt]
  rw[z,n,j];simp;split
  .rename_i y g;exact absurd (zHT g) (c t a y)
  .rw[a]
 have h:∀i (q:List V),I.bits.testBit (2*i)=Sd->I.bits.testBit (2*i+1)=Sd->e.var i=Sa (q.map T.p)->(vV I e a0).var i=Sa (q.map T.p):=by
  intro i q n H C;apply zIc;show(zAQ _ _ _ _)[i]?=_;rw[zFB,zMn C,bv,bz];congr 1;split
  .rename_i y g;have:=qEx (zHT g);simp_all[zX5]
  .have D:∀l:List V,zMK (l.map T.p)=true:=by
    intro l
    induction l with
    |nil=>rfl
    |cons x l K=>grind[zMK]
   grind[zR1]
 have hlt:∀t x,e.get t=x->x≠ .dead->t<e.tm.length:=by
  grind[Nat.lt_or_ge,qDR,absurd]
 refine⟨zKG.1,zKG.2,?_,?_,h⟩
 .intro t d a k;rw[vA t a (hlt t _ k (by simp)),k];rfl
 .intro t r m a A k;have J:=hlt t _ k (by simp);rw[vA t a J,k]
  have z:e.tm[t]?=Sa (.lp r m):=by
   grind[List.getElem?_eq_getElem,Env.get]
  have C:zR5 (vV I e a0).vars r=true:=by
   rcases zXb e.tm 0 u t r m z (by grind) A with⟨B,E⟩|B
   .obtain⟨F,f⟩:=zUZ (x:=a0) B;obtain⟨y,g⟩:=bm.1 E;rw[zOS];refine⟨F,zIc ?_⟩;show(zAQ _ _ _ _)[r]?=_;rw[zFB,g,bv,bz,f]
   .obtain⟨F,f⟩:=bm.1 B;obtain⟨E,L,M,q,rfl⟩:=zR0 f
    grind[zOS]
  grind[zT7]
variable {i:Code}
theorem zTA.code{k:X}(h:vJ P G i e k e1)(hf:zTA G e1 e2):vJ P G i e k e2:=by intro f g c a w j;refine wp_mono (h f g c a w j) ?_;rintro l m n ⟨rfl,d⟩;exact⟨rfl,hf _ _ _ _ _ d⟩
theorem zTA.loop{k:X}(hf:zTA G e e1)(h:zEh P G i e1 k e2):zEh P G i e k e2:=
 fun d f g a w c=>h d f g a w (hf _ _ _ _ _ c)
theorem zO8(h:zVC I e g=Sa a0):rdJ I e=Sa a0/\∀t,I.bits.testBit t=Sd->g.testBit t=false:=by
 grind[Ab,zBy,zVC]
variable {j:Nat->Option JA}
theorem zT6(h:qFy j g i=Sa I):∃k,j k=Sa I:=by
 grind[qFy]
theorem zHW{S:zU Γ}(F:∀k A,j k=Sa A->Subsingleton Γ.St\/zDO A.sl=Sc)(C:P.follows .mixedOrders=Sc)(hS:qK Γ P G S.toS):∀(c:Code) (ρ:Type) (K:X->Env Γ.St->Nat->Option ρ) (e:Env Γ.St) (f:Nat) (v:ρ),
  exC P G S j c ρ K e f=Sa v->∃k e1 d,vJ P G c e k e1/\qA d e e1/\K k e1 (f|||d)=Sa v:=by
 intro c
 induction c with
 |skip=>intro ρ K e f v h;exact⟨_,_,0,.skip e,qA.refl e,by rw[dK];exact h⟩
 |exit id=>intro ρ K e f v h;exact⟨_,_,0,.exit id e,qA.refl e,by rw[dK];exact h⟩
 |ret=>intro ρ K e f v h;exact⟨_,_,0,.ret e,qA.refl e,by rw[dK];exact h⟩
 |seq x y B H=>
  intro ρ K e f v h;simp only[exC]at h;split at h
  .rename_i A I;obtain⟨jk,W⟩:=zT6 I;have u:=F jk A W
   have Y:∀(k:X) (e1:Env Γ.St) (d:Nat) (s:yC Γ.St A.sl),vJ P G x e .normal e1->qA d e e1->zVC A e1 (0|||d)=Sa s->okJ A e=Sc->zEC (vV A e s) (fun e1=>exC P G S j y ρ K e1 (f|||A.bits))=Sa v->
     ∃k e1 d,vJ P G (.seq x y) e k e1/\qA d e e1/\K k e1 (f|||d)=Sa v:=by
    intro k e1 d s p l g m i;rw[yD]at i;obtain⟨a,D⟩:=zO8 g;have Q:qA A.bits e e1:=l.mono (fun t ht=>by grind);obtain⟨J,e2,L,M,Z,h9⟩:=H ρ K _ _ v i;exact⟨J,e2,A.bits|||L,(zTA.code p (zKF u Q a)).seqN M,(zIA m).trans Z,by grind⟩
   split at h
   .obtain⟨m,h⟩:=yO.1 h;obtain⟨s,p,l⟩:=bind_some h;obtain⟨k,e1,d,g,i,a⟩:=B _ _ _ _ _ p
    cases k with
    |normal=>exact Y .normal e1 d s g i a m l
    |exit id=>cases a
    |ret=>cases a
   .obtain⟨m,h⟩:=yO.1 h
    have h0:∃o,exC P G S j x (yC Γ.St A.sl ⊕ ρ) (fun k e1 z=>match k with
     |.normal=>(zVC A e1 z).map .inl
     |k=>(K k e1 (f|||z)).map .inr) e 0=Sa o/\match o with
     |.inl s=>zEC (vV A e s) (fun e1=>exC P G S j y ρ K e1 (f|||A.bits))=Sa v
     |.inr r=>r=v:=by
     unfold wL at h
     grind
    obtain⟨o,p,l⟩:=h0;obtain⟨k,e1,d,g,i,a⟩:=B _ _ _ _ _ p;have q:k≠ .normal->(K k e1 (f|||(0|||d))).map (Sum.inr (α:=yC Γ.St A.sl))=Sa o->∃k e1 d,vJ P G (.seq x y) e k e1/\qA d e e1/\K k e1 (f|||d)=Sa v:=by intro hk hm;rw[ak]at hm;obtain⟨r,hr,rfl⟩:=hm;simp only at l;subst l;exact⟨k,e1,d,g.seqX hk,i,by grind⟩
    cases k with
    |normal=>
     simp only[ak]at a;obtain⟨s,E,rfl⟩:=a;exact Y .normal e1 d s g i E m l
    |exit id=>grind
    |ret=>grind
  .obtain⟨k,e1,d,p,l,g⟩:=B _ _ _ _ _ h
   cases k with
   |normal=>
    obtain⟨J,e2,L,i,a,D⟩:=H _ _ _ _ _ g;exact⟨J,e2,d|||L,p.seqN i,l.trans a,by grind⟩
   |exit id=>exact⟨_,e1,d,p.seqX (by simp),l,g⟩
   |ret=>exact⟨_,e1,d,p.seqX (by simp),l,g⟩
 |cond c x y B H=>
  grind[vJ.condB,exC]
 |block id c ih=>
  intro ρ K e f v h;simp only[exC]at h;obtain⟨k,e1,d,p,l,g⟩:=ih _ _ _ _ _ h;exact⟨_,e1,d,p.block,l,g⟩
 |loop c ih=>
  intro ρ K e f v h;simp only[exC]at h;split at h
  .rename_i A I;obtain⟨jk,W⟩:=zT6 I;have u:=F jk A W;obtain⟨m,h⟩:=yO.1 h;obtain⟨s0,p,l⟩:=bind_some h;simp only[yD]at l;rw[zHS]at l;obtain⟨n,hn⟩:=l
   have ab:∀(n:Nat) (s:yC Γ.St A.sl),zDg (fun s=>exC P G S j c (yC Γ.St A.sl ⊕ ρ) (fun k e1 z=>match k with
    |.normal=>(zVC A e1 z).map .inl
    |k=>(K k e1 (f|||(A.bits|||z))).map .inr) (vV A e s) 0) n s=Sa v->∃k e1 d,zEh P G c (vV A e s) k e1/\qA (A.bits|||d) e e1/\K k e1 (f|||(A.bits|||d))=Sa v:=by
    intro n
    induction n with
    |zero=>grind[zDg]
    |succ n N=>
     intro s E;simp only[zDg]at E
     have q:∀(o:yC Γ.St A.sl ⊕ ρ) (k:X) (e1:Env Γ.St) (d:Nat),k≠ .normal->vJ P G c (vV A e s) k e1->qA d (vV A e s) e1->(K k e1 (f|||(A.bits|||(0|||d)))).map (Sum.inr (α:=yC Γ.St A.sl))=Sa o->
       (∃r,o=.inr r/\K k e1 (f|||(A.bits|||d))=Sa r)/\zEh P G c (vV A e s) k e1/\qA (A.bits|||d) e e1:=by
      intro o k e1 d hk g i hm;rw[ak]at hm;obtain⟨r,hr,rfl⟩:=hm;rw[Nat.zero_or]at hr;exact⟨⟨r,rfl,hr⟩,.last g hk,(zIA m).trans i⟩
     split at E
     .cases E
     .rename_i s' O;obtain⟨k,e1,d,g,i,a⟩:=ih _ _ _ _ _ O
      cases k with
      |normal=>
       simp only[ak]at a;obtain⟨s1,al,ad⟩:=a;simp at ad;subst ad;obtain⟨D,M⟩:=zO8 al;have Q:qA A.bits e e1:=(zIA m).same (i.mono (fun t ht=>by grind));obtain⟨J,e2,L,Z,h9,ag⟩:=N _ E;exact⟨J,e2,L,zEh.step (zTA.code g (zKF u Q D)) Z,h9,ag⟩
      |exit id=>simp_all
      |ret=>simp_all
     .rename_i r O;simp at E;subst E;obtain⟨k,e1,d,g,i,a⟩:=ih _ _ _ _ _ O
      cases k with
      |normal=>
       simp_all
      |exit id=>
       obtain⟨⟨r',hr,hK⟩,hL,Q⟩:=q _ _ _ _ (by simp) g i a
       grind
      |ret=>
       obtain⟨⟨r',hr,hK⟩,hL,Q⟩:=q _ _ _ _ (by simp) g i a
       grind
   obtain⟨k,e1,d,g,i,a⟩:=ab n s0 hn;exact⟨k,e1,_,vJ.loop (zTA.loop (zKF u ((qA.refl e).mono (fun t _=>by simp)) p) g),i,a⟩
  .have ab:∀(n:Nat) (e:Env Γ.St) (f:Nat),zMW (exC P G S j c ρ) K n e f=Sa v->∃k e1 d,zEh P G c e k e1/\qA d e e1/\K k e1 (f|||d)=Sa v:=by
    intro n
    induction n with
    |zero=>grind[zMW]
    |succ n N=>
     intro e f h;simp only[zMW]at h;obtain⟨k,e1,d,a,D,M⟩:=ih _ _ _ _ _ h
     cases k with
     |normal=>
      obtain⟨J,e2,L,Z,h9,ag⟩:=N e1 _ M;exact⟨J,e2,d|||L,zEh.step a Z,D.trans h9,by grind⟩
     |exit id=>exact⟨_,e1,d,.last a (by simp),D,M⟩
     |ret=>exact⟨_,e1,d,.last a (by simp),D,M⟩
   grind[vJ.loop]
 |region id ao an=>
  intro ρ K e f v h;simp only[exC]at h;split at h
  .rename_i A W;have u:=F _ A W;obtain⟨m,h⟩:=yO.1 h;obtain⟨s,p,l⟩:=bind_some h;obtain⟨e1,n,g,i,a⟩:=zRz C hS (id:=id) p;rw[yD]at l;obtain⟨D,M⟩:=zO8 a;have Q:qA A.bits e e1:=i.mono (fun t ht=>by grind)
   grind[zTA.code,zKF,zIA,vV]
  .obtain⟨e1,n,g,i,a⟩:=zRz C hS (id:=id) h
   grind
 |_=>intro ρ K e f v h;simp[exC]at h
inductive RTy where
 |p (ty:Ty)
 |o (ty:Ty)
 |tu (tys:List Ty)
@[reducible] def RTy.El:RTy->Type
 |.p ty=>ty.El
 |.o ty=>List ty.El
 |.tu a=>ElS a
def RTy.get:(R:RTy)->RV->Option R.El
 |.p ty,.p d=>ty.dec d
 |.p (.sl ty),.ownT a xs=>zDS a ty xs
 |.p ty,.own []=>ty.dec (.sl [])
 |.p _,_=>Sb
 |.o ty,.ownT a xs=>zDS a ty xs
 |.o _,.p (.val (.slice Sb 0 0))=>Sa []
 |.o _,.own []=>Sa []
 |.o _,_=>Sb
 |.tu c,.p (.tup f)=>zBv c f
 |.tu _,_=>Sb
def RTy.res:(R:RTy)->R.El->RV
 |.p ty,x=>.p (ty.enc x)
 |.o ty,xs=>.ownT ty xs
 |.tu a,x=>.p (.tup (yF a x))
def RTy.pl:RTy->Bool
 |.p ty=>ty.flat
 |.o _=>Sc
 |.tu a=>a.all Ty.flat
variable {l:RTy}
theorem RTy.get_sound{w:World}{F:Blk->Prop}{O:Nat->Prop}{v:Value}{r:RV}{y:l.El}(h:l.get r=Sa y)(hr:zAM g w F O v r):
  ∃F':Blk->Prop,(∀b,F b->F' b)/\(∀x:Blk,x.isB=Sd->(F' x↔F x))/\(∀b:Nat,F' b->F b\/(g<=b/\b<w.heap.size/\¬O b))/\zAM g w F' O v (l.res y):=by
 have same:zAM g w F O v (l.res y)->∃F':Blk->Prop,(∀b,F b->F' b)/\(∀x:Blk,x.isB=Sd->(F' x↔F x))/\(∀b:Nat,F' b->F b\/(g<=b/\b<w.heap.size/\¬O b))/\zAM g w F' O v (l.res y):=
  fun h=>⟨F,fun _ h=>h,fun _ _=>cI,fun _ h=>.inl h,h⟩
 unfold RTy.get at h;split at h
 .exact same (u5 h _ _ _ hr)
 .rename_i ty a xs;exact zPP (r:=.ownT a xs) (r':=.p (.tl ty y)) (uY h) hr
 .rename_i ty _;refine same ?_;rcases hr with⟨_,a0,rfl⟩|⟨d,_⟩
  .exact u5 h _ _ _ (.slemp a0 0)
  grind
 .cases h
 .rename_i ty a xs;exact zPP (r:=.ownT a xs) (r':=.ownT ty y) (uY h) hr
 .cases h;exact same (.inl ⟨rfl,Sb,Rd.eq_val hr⟩)
 .cases h;exact same hr
 .cases h
 .exact same (WkV.tup (kH _ _ _ h) _ _ _ hr)
 .cases h
noncomputable def exF(L:j6)(G:Nat->Option (List V))(S:zU Γ)(A:Nat->Option JA)(fn:Func)(c:Code)(R:RTy)(s:Γ.St)(ds:List V):Option R.El:=
 zEC (start fn.ntmps s ds) (fun e=>exC L G S A c R.El (fun k e1 _=>match k with
  |.exit _=>Sb
  |_=>match zDP L e1 fn with
   |some r=>R.get r
   |none=>Sb) e 0)
def vR{X:Type}(dec:List V->Option X)(R:RTy)(g:X->Option R.El):Γ.St->List V->Option (zER Γ.St):=fun s a=>
 match dec a with
 |some x=>Sa ⟨R.El,g x,fun _=>s,R.res,R.pl⟩
 |none=>Sb
def qQ(ts:List Ty)(R:RTy)(g:ElS ts->Option R.El):Γ.St->List V->Option (zER Γ.St):=vR (zBv ts) R g
inductive ATy where
 |d (ty:Ty)
 |pp (ty:Ty)
 |clo (f:Nat) (caps:List (Bool×Ty))
@[reducible] def qAh:List (Bool×Ty)->Type
 |[]=>Unit
 |c::r=>c.2.El×qAh r
@[reducible] def ATy.El:ATy->Type
 |.d ty=>ty.El
 |.pp ty=>ty.El
 |.clo _ a=>qAh a
@[reducible] def ElA:List ATy->Type
 |[]=>Unit
 |t::a=>t.El×ElA a
def zHk:(l:List (Bool×Ty))->qAh l->List V
 |[],_=>[]
 |(b,t)::r,x=>(match b with
  |true=>.pp (t.cells x.1)
  |false=>t.enc x.1)::zHk r x.2
def ATy.enc:(t:ATy)->t.El->V
 |.d ty,x=>ty.enc x
 |.pp ty,x=>.pp (ty.cells x)
 |.clo f a,x=>.clo f (zHk a x)
def zMr:(ts:List ATy)->ElA ts->List V
 |[],_=>[]
 |t::ts,x=>t.enc x.1::zMr ts x.2
def zUv(t:Ty):V->Option t.El
 |.pp a=>match t.uncells a with
  |some (x,[])=>Sa x
  |_=>Sb
 |_=>Sb
def zHr:(l:List (Bool×Ty))->List V->Option (qAh l)
 |[],[]=>Sa ()
 |(b,t)::r,d::c=>match b with
  |true=>match zUv t d with
   |some x=>match zHr r c with
    |some a=>Sa (x,a)
    |none=>Sb
   |none=>Sb
  |false=>match t.dec d with
   |some x=>match zHr r c with
    |some a=>Sa (x,a)
    |none=>Sb
   |none=>Sb
 |_,_=>Sb
def ATy.dec:(t:ATy)->V->Option t.El
 |.d ty,v=>ty.dec v
 |.pp ty,v=>zUv ty v
 |.clo f a,.clo g c=>match Aa g f with
  |true=>zHr a c
  |false=>Sb
 |.clo _ _,_=>Sb
def uI:(ts:List ATy)->List V->Option (ElA ts)
 |[],[]=>Sa ()
 |t::ts,d::a=>match t.dec d with
  |some x=>match uI ts a with
   |some c=>Sa (x,c)
   |none=>Sb
  |none=>Sb
 |_,_=>Sb
def zWB(ts:List ATy)(R:RTy)(g:ElA ts->Option R.El):Γ.St->List V->Option (zER Γ.St):=vR (uI ts) R g
def zU.none(Γ:Sig):zU Γ:=fun _ _ _=>Option.none
def zU.add(S:zU Γ)(f:FuncId)(sp:Γ.St->List V->Option (zER Γ.St)):zU Γ:=fun g s a=>
 match Aa g f with
 |true=>match zED a with
  |true=>S g s a
  |false=>match sp s a with
   |.some c=>Sa c
   |.none=>S g s a
 |false=>S g s a
def z7(sp:Γ.St->List V->Option (zER Γ.St)):Γ.St->List V->Option (Γ.St×RV):=fun s a=>
 match sp s a with
 |some c=>c.m.map (fun y=>(c.st y,c.res y))
 |none=>Sb
theorem jE:qK Γ P G (zU.none Γ).toS:=by
 have:(zU.none Γ).toS=zGU Γ:=by funext f s a;rfl
 grind[zCg]
variable {C:FuncId}
theorem vQ{S:zU Γ}(l:qK Γ P G S.toS){sp:Γ.St->List V->Option (zER Γ.St)}(hi:zGe P C=Sc)(h:jJ Γ P G C (z7 sp)):qK Γ P G (S.add C sp).toS:=by
 have D:∀s a,zED a=Sc->(S.add C sp).toS C s a=S.toS C s a:=by
  grind[Ah,zU.toS,zU.add]
 have e1:∀s a,zED a=Sd->(S.add C sp).toS C s a=if(sp s a).isSome then z7 sp s a else S.toS C s a:=by
  grind[Ah,zU.toS,zU.add,z7]
 have e2:∀g,g≠C->(S.add C sp).toS g=S.toS g:=by
  grind[Ab,absurd,zU.toS,zU.add]
 have J:∀k,P.funcs[k]?=Sb->k≠C:=by
  rintro k K rfl
  grind[zGe]
 refine⟨?_,?_,fun u st q t p bytes i d h=>l.app u st q t p bytes i d (by simp_all),?_⟩
 .intro g;by_cases j:g=C
  .subst j;intro w F O s c a x r y z A B f m
   cases E:zED a with
   |true=>
    rw[D s a E]at m;exact l.ok g w F O s c a x r y z A B f m
   |false=>
    rw[e1 s a E]at m;split at m
    .exact h w F O s c a x r y z A B f m
    .exact l.ok g w F O s c a x r y z A B f m
  .rw[e2 g j];exact l.ok g
 .intro g s a r H n;by_cases j:g=C
  .subst j;unfold zGe at hi
   grind
  .rw[e2 g j]at H;exact l.is g s a r H n
 .intro g st t I a i p d h;by_cases j:g=C
  .subst j;rw[D _ _ rfl]at h;exact l.bor g st t I a i p d h
  .rw[e2 g j]at h;exact l.bor g st t I a i p d h
def zU.addB(S:zU Γ)(f:FuncId)(sp:Γ.St->List V->Option (zER Γ.St)):zU Γ:=fun g s a=>
 match Aa g f with
 |true=>match a with
  |.bot::r=>match sp s r with
   |.some c=>Sa c
   |.none=>S g s a
  |_=>S g s a
 |false=>S g s a
def RTy.val:(R:RTy)->R.El->V
 |.p ty,x=>ty.enc x
 |.o ty,xs=>.tl ty xs
 |.tu a,x=>.tup (yF a x)
def zAB(t:Ty){X:Type}(dec:List V->Option X)(R:RTy)(g:List t.El->X->Option (List t.El×R.El)):Γ.St->List V->Option (zER Γ.St):=fun s a=>
 match a with
 |.tl c d::r=>match zDS c t d with
  |some f=>match dec r with
   |some x=>Sa ⟨List t.El×R.El,g f x,fun _=>s,fun y=>.p (.tup [.tl t y.1,R.val y.2]),Sd⟩
   |none=>Sb
  |none=>Sb
 |_=>Sb
def zCK(Γ:Sig)(P:Program)(G:Nat->Option (List V))(f:FuncId)(t:Ty){X:Type}(dec:List V->Option X)(R:RTy)(g:List t.El->X->Option (List t.El×R.El)):Prop:=
 ∀(s:Γ.St) (a:List t.El) (r:List V) (x:X) (c:List t.El) (y:R.El),dec r=Sa x->g a x=Sa (c,y)->zAy Γ P G f s t a r s c (R.val y)
theorem zAx{S:zU Γ}(hS:qK Γ P G S.toS){f:FuncId}{t:Ty}{X:Type}{dec:List V->Option X}{R:RTy}{g:List t.El->X->Option (List t.El×R.El)}(hi:zGe P f=Sc)
  (h:zCK Γ P G f t dec R g):qK Γ P G (S.addB f (zAB t dec R g)).toS:=by
 have e0:∀s ds,zED ds=Sd->(S.addB f (zAB t dec R g)).toS f s ds=S.toS f s ds:=by
  intro s ds hb;simp[zU.toS,zU.addB]
  cases ds with
  |nil=>rfl
  |cons d r=>cases d<;>first|rfl|cases hb
 have e1:∀s r,(S.addB f (zAB t dec R g)).toS f s (.bot::r)=match zAB (Γ:=Γ) t dec R g s r with
   |some c=>c.m.map (fun y=>(c.st y,c.res y))
   |none=>S.toS f s (.bot::r):=by
  grind[Ah,zU.toS,zU.addB,zAB]
 have e2:∀g',g'≠f->(S.addB f (zAB t dec R g)).toS g'=S.toS g':=by
  intro g' hg;funext s ds
  have:Aa g' f=false:=by
   grind[Ab,absurd]
  simp[zU.toS,zU.addB,this]
 have hnf:∀k,P.funcs[k]?=Sb->k≠f:=by
  rintro k hk rfl
  grind[zGe]
 have hisf : ∃ fn, P.funcs[f]? = some fn ∧ fn.body.isSome = true ∧ (fn.name == "runtime.NumGoroutine") = false := by
  unfold zGe at hi
  grind
 refine⟨?_,?_,fun hno st q t ys bytes st' d h=>hS.app hno st q t ys bytes st' d (by simp_all),?_⟩
 .intro g';by_cases hg:g'=f
  .subst hg;intro w F O s args ds s' r a1 a2 a3 a4 a5 a6
   cases hb:zED ds with
   |false=>
    rw[e0 s ds hb]at a6;exact hS.ok g' w F O s args ds s' r a1 a2 a3 a4 a5 a6
   |true=>
    exfalso
    cases ds with
    |nil=>cases hb
    |cons d ds=>
     cases d with
     |bot=>
      have h0:0<args.size:=by rw[a4];simp
      have hnb:∀u:Value,¬Rd w F u .bot:=fun u h=>by cases h
      exact hnb _ (a5 0 args[0] .bot (by simp[h0]) rfl)
     |_=>cases hb
  .rw[e2 g' hg];exact hS.ok g'
 .intro g' s ds r hr hbot;by_cases hg:g'=f
  .grind
  .rw[e2 g' hg]at hr;exact hS.is g' s ds r hr hbot
 .intro g' st t0 xs ds st' ys d h0;by_cases hg:g'=f
  .subst hg;rw[e1]at h0;split at h0
   .rename_i cx hc;refine⟨?_,hisf⟩;simp only[zAB]at hc
    cases hzs:zDS t0 t xs with
    |none=>grind
    |some zs=>
     rw[hzs]at hc;obtain⟨ht,hz⟩:=u9 (uY hzs);subst ht;subst hz
     cases hx:dec ds with
     |none=>grind
     |some x=>rw[hx]at hc;simp at hc;rw[<-hc]at h0;simp only[ak,aI,RV.p.injEq,V.tup.injEq,List.cons.injEq,and_true,V.tl.injEq,true_and]at h0;obtain⟨⟨ys',y⟩,h1,rfl,h2,h3⟩:=h0;have h2:=eq_of_heq h2;subst h2;subst h3;exact h _ _ _ x _ _ hx h1
   .exact hS.bor g' st t0 xs ds st' ys d h0
  .rw[e2 g' hg]at h0;exact hS.bor g' st t0 xs ds st' ys d h0
def zFp(t:Ty){X:Type}(dec:List V->Option X)(g:List t.El->X->Option (List t.El)):Γ.St->List V->Option (zER Γ.St):=fun s a=>
 match a with
 |.tl c d::r=>match zDS c t d with
  |some f=>match dec r with
   |some x=>Sa ⟨List t.El,g f x,fun _=>s,fun y=>.p (.tup [.tl t y,.bot]),Sc⟩
   |none=>Sb
  |none=>Sb
 |_=>Sb
def zGy(Γ:Sig)(P:Program)(G:Nat->Option (List V))(f:FuncId)(t:Ty){X:Type}(dec:List V->Option X)(g:List t.El->X->Option (List t.El)):Prop:=
 ∀(s:Γ.St) (a:List t.El) (r:List V) (x:X) (c:List t.El),dec r=Sa x->g a x=Sa c->zAy Γ P G f s t a r s c .bot
theorem zPy{S:zU Γ}(hS:qK Γ P G S.toS){f:FuncId}{t:Ty}{X:Type}{dec:List V->Option X}{g:List t.El->X->Option (List t.El)}(hi:zGe P f=Sc)
  (h:zGy Γ P G f t dec g):qK Γ P G (S.addB f (zFp t dec g)).toS:=by
 have e0:∀s ds,zED ds=Sd->(S.addB f (zFp t dec g)).toS f s ds=S.toS f s ds:=by
  intro s ds hb;simp[zU.toS,zU.addB]
  cases ds with
  |nil=>rfl
  |cons d r=>cases d<;>first|rfl|cases hb
 have e1:∀s r,(S.addB f (zFp t dec g)).toS f s (.bot::r)=match zFp (Γ:=Γ) t dec g s r with
   |some c=>c.m.map (fun y=>(c.st y,c.res y))
   |none=>S.toS f s (.bot::r):=by
  grind[Ah,zU.toS,zU.addB,zFp]
 have e2:∀g',g'≠f->(S.addB f (zFp t dec g)).toS g'=S.toS g':=by
  intro g' hg;funext s ds
  have:Aa g' f=false:=by
   grind[Ab,absurd]
  simp[zU.toS,zU.addB,this]
 have hnf:∀k,P.funcs[k]?=Sb->k≠f:=by
  rintro k hk rfl
  grind[zGe]
 have hisf : ∃ fn, P.funcs[f]? = some fn ∧ fn.body.isSome = true ∧ (fn.name == "runtime.NumGoroutine") = false := by
  unfold zGe at hi
  grind
 refine⟨?_,?_,fun hno st q t ys bytes st' d h=>hS.app hno st q t ys bytes st' d (by simp_all),?_⟩
 .intro g';by_cases hg:g'=f
  .subst hg;intro w F O s args ds s' r a1 a2 a3 a4 a5 a6
   cases hb:zED ds with
   |false=>
    rw[e0 s ds hb]at a6;exact hS.ok g' w F O s args ds s' r a1 a2 a3 a4 a5 a6
   |true=>
    exfalso
    cases ds with
    |nil=>cases hb
    |cons d ds=>
     cases d with
     |bot=>
      have h0:0<args.size:=by rw[a4];simp
      have hnb:∀u:Value,¬Rd w F u .bot:=fun u h=>by cases h
      exact hnb _ (a5 0 args[0] .bot (by simp[h0]) rfl)
     |_=>cases hb
  .rw[e2 g' hg];exact hS.ok g'
 .intro g' s ds r hr hbot;by_cases hg:g'=f
  .grind
  .rw[e2 g' hg]at hr;exact hS.is g' s ds r hr hbot
 .intro g' st t0 xs ds st' ys d h0;by_cases hg:g'=f
  .subst hg;rw[e1]at h0;split at h0
   .rename_i cx hc;refine⟨?_,hisf⟩;simp only[zFp]at hc
    cases hzs:zDS t0 t xs with
    |none=>grind
    |some zs=>
     rw[hzs]at hc;obtain⟨ht,hz⟩:=u9 (uY hzs);subst ht;subst hz
     cases hx:dec ds with
     |none=>grind
     |some x=>rw[hx]at hc;simp at hc;rw[<-hc]at h0;simp only[ak,aI,RV.p.injEq,V.tup.injEq,List.cons.injEq,and_true,V.tl.injEq,true_and]at h0;obtain⟨ys',h1,rfl,h2,h3⟩:=h0;have h2:=eq_of_heq h2;subst h2;subst h3;exact h _ _ _ x _ hx h1
   .exact hS.bor g' st t0 xs ds st' ys d h0
  .rw[e2 g' hg]at h0;exact hS.bor g' st t0 xs ds st' ys d h0
theorem WkV.pp{xs ys:List V}(h:kW xs ys):WkV (.pp xs) (.pp ys):=by
 intro w F v hr
 cases hr with
 |pp b a k g f i c=>
  refine .pp b a ys g f (fun m j=>i m (by rw[h.len];exact j)) ?_;intro m d hd;have hlt:m<xs.length:=by rw[h.len];exact(aa.1 hd).1
  exact h.get m xs[m] d (by simp[hlt]) hd w F _ (c m xs[m] (by simp[hlt]))
theorem WkV.clo{f:FuncId}{xs ys:List V}(h:kW xs ys):WkV (.clo f xs) (.clo f ys):=by
 intro w F v hr
 cases hr with
 |clo _ a k c g=>
  refine .clo f a ys (c.trans h.len) ?_;intro i x d j hd;have hlt:i<xs.length:=by rw[h.len];exact(aa.1 hd).1
  exact h.get i xs[i] d (by simp[hlt]) hd w F x (g i x xs[i] j (by simp[hlt]))
theorem zPX{t:Ty}{d:V}{x:t.El}(h:zUv t d=Sa x):WkV d (.pp (t.cells x)):=by
 unfold zUv at h
 grind[Option.some.injEq,j7,WkV.pp]
theorem zIK:∀(l:List (Bool×Ty)) (ds:List V) (x:qAh l),zHr l ds=Sa x->kW ds (zHk l x)
 |[],[],_,_=>trivial
 |[],_::_,_,h=>by simp[zHr]at h
 |_::_,[],_,h=>by simp[zHr]at h
 |(b,t)::r,d::ds,x,h=>by
  simp only[zHr]at h;split at h
  .split at h
   .rename_i y c;split at h
    .rename_i f a;simp only[ac]at h;subst h;exact⟨zPX c,zIK r ds f a⟩
    .cases h
   .cases h
  .split at h
   .rename_i y c;split at h
    .rename_i f a;simp only[ac]at h;subst h;exact⟨u5 c,zIK r ds f a⟩
    .cases h
   .cases h
theorem zAJ:∀(ts:List ATy) (ds:List V) (x:ElA ts),uI ts ds=Sa x->kW ds (zMr ts x)
 |[],[],_,_=>trivial
 |[],_::_,_,h=>by simp[uI]at h
 |_::_,[],_,h=>by simp[uI]at h
 |t::ts,d::ds,x,h=>by
  simp only[uI]at h;split at h
  .rename_i y a;split at h
   .rename_i l c;cases h;refine⟨?_,zAJ ts ds l c⟩
    cases t with
    |d i=>exact u5 (t:=i) (x:=y) a
    |pp i=>exact zPX (t:=i) (x:=y) a
    |clo f k=>
     cases d with
     |clo g m=>
      simp only[ATy.dec]at a;split at a
      .rename_i j;have j:=aL j;subst j;exact WkV.clo (zIK _ _ _ a)
      .cases a
     |_=>simp[ATy.dec]at a
   .cases h
  .cases h
variable {J:Func}
theorem zR8[Calm Γ][H:Subsingleton Γ.St]{S:zU Γ}(I:P.follows .mixedOrders=Sc)(hS:qK Γ P G S.toS)(hf:P.funcs[C]?=Sa J)(E:J.body=Sa i){X:Type}{dec:List V->Option X}{enc:X->List V}(fn:∀ds x,dec ds=Sa x->kW ds (enc x)){g:X->Option l.El}(h:∀s x,exF (Γ:=Γ) P G S j J i l s (enc x)=g x):jJ Γ P G C (z7 (vR dec l g)):=by
 refine zLF.calm ?_;intro w F O s A ds s' r K hG hF L ag a;simp[z7,vR]at a;split at a
 .rename_i cx B;split at B
  .rename_i x M;cases B;simp only[ak]at a;obtain⟨y,hy,N⟩:=a;simp at N;obtain⟨rfl,rfl⟩:=N;have Q:=fn ds x M;have f:A.size=(enc x).length:=L.trans Q.len
   have W:∀(c:Nat) (u:Value) (d:V),A[c]?=Sa u->(enc x)[c]?=Sa d->Rd w F u d:=by
    intro c u d hu hd;have hlt:c<ds.length:=by grind
    exact Q.get c ds[c] d (by simp[hlt]) hd w F u (ag c u ds[c] hu (by simp[hlt]))
   have m:=h s x;rw[hy]at m;unfold exF at m;rw[yD]at m;obtain⟨k,e',d,an,_,R⟩:=zHW (fun _ _ _=>.inl H) I hS i _ _ _ _ _ m
   have hk:(k=.normal\/k=.ret)/\(match zDP (j6.of P) e' J with
    |some r=>l.get r
    |none=>Sb)=Sa y:=by
    cases k with
    |normal=>grind
    |ret=>grind
    |exit id=>cases R
   obtain⟨hk,R⟩:=hk;split at R
   .rename_i r' ao;refine calls_of_wp hf E ?_
    have vA:∀t,zY w F ⟨fun _=>0,fun _=>0⟩ (fun _=>False) ((A++Ae (J.ntmps-A.size) undef).getD t undef) ((start J.ntmps s (enc x)).get t):=by
     intro t;simp[start,zIi,Env.get];by_cases ht:t< (enc x).length
     .rw[aT (by simpa using ht),bh (by omega)];rw[aA,ah ht,aD (by omega)];exact W t _ _ (by grind) (by simp[ht])
     .rw[aF (by grind),bu (by omega),f];simp;by_cases p:t- (enc x).length<J.ntmps- (enc x).length
      .rw[bc,if_pos p,bJ,if_pos p];exact Rd.val _
      .rw[bc,if_neg p];trivial
    have ab:∀s0,(start J.ntmps s (enc x)).var s0=none:=by
     grind[start,Env.var]
    have Y:Inv Γ G w F O { tmps:=A++Ae (J.ntmps-A.size) undef,defers:=[] } w (start J.ntmps s (enc x)):=by refine Inv.of (F:=F) (O:=O) (β:=⟨fun _=>0,fun _=>0⟩) (al:=fun _=>False) ⟨xC.refl _ w,K,fun b E=>.inl E,fun b E=>⟨.inl E,hF b E⟩,.refl _ _,fun x M=>M.elim,fun x y M=>M.elim,fun b n h=>by cases h⟩ hG ?_ rfl vA ?_ (fun s h=>h.elim);all_goals grind[start,zIi]
    refine wp_mono (an w F O _ w Y) ?_;rintro ex a' w' ⟨rfl,Z⟩;obtain⟨v,F',O',h1,p,h3,h4,h5,h6,h7⟩:=zO2 rfl Z ao;have q:a'.defers=[]:=by obtain⟨_,_,_,_,_,_,q,_⟩:=Z;exact q
    rw[cY e'.st s]at p;obtain⟨D,g1,gh,g2,g3⟩:=RTy.get_sound R h7;have p:=Γ.mono p gh (fun _ _=>rfl) (fun _ _ h=>⟨g1 _ h,rfl⟩)
    have z:∀b:Nat,D b->(F b\/w.heap.size<=b)/\b<w'.heap.size/\¬O' b:=by
     grind
    rcases hk with rfl|rfl
    .exact⟨q,v,h1,v,D,O',rfl,p,h3,h4,h5.trans (.of_reg g1 gh) (ai _),z,g3⟩
    .exact⟨q,v,h1,v,D,O',rfl,p,h3,h4,h5.trans (.of_reg g1 gh) (ai _),z,g3⟩
   .cases R
  .cases B
 .cases a
theorem zXv[Calm Γ][d:Subsingleton Γ.St]{S:zU Γ}(a:P.follows .mixedOrders=Sc)(f:qK Γ P G S.toS)(A:P.funcs[C]?=Sa J)(k:J.body=Sa i){ts:List Ty}{g:ElS ts->Option l.El}(h:∀s x,exF (Γ:=Γ) P G S j J i l s (yF ts x)=g x):jJ Γ P G C (z7 (qQ ts l g)):=by
 have:=zR8 a f A k (kH ts) h;exact this
theorem qD1[Calm Γ][d:Subsingleton Γ.St]{S:zU Γ}(a:P.follows .mixedOrders=Sc)(f:qK Γ P G S.toS)(A:P.funcs[C]?=Sa J)(k:J.body=Sa i){ts:List ATy}{g:ElA ts->Option l.El}(h:∀s x,exF (Γ:=Γ) P G S j J i l s (zMr ts x)=g x):jJ Γ P G C (z7 (zWB ts l g)):=
 zR8 a f A k (zAJ ts) h
end
def zJx(n:Nat)(t:Ty)(xs:List t.El)(ds:List V):List T:=.ot jV t xs::(ds.map .p++Ai (n- (ds.length+1)) (.p (.val undef)))
def zCV{St:Type}(n:Nat)(s:St)(t:Ty)(xs:List t.El)(ds:List V):Env St:= { tm:=zJx n t xs ds,vars:=Ai n Sb,st:=s }
def zZb{St:Type}(e:Env St)(t:Ty):Option (List t.El):=
 match e.get 0 with
 |.ot id a c=>match Aa id jV with
  |true=>zDS a t c
  |false=>Sb
 |_=>Sb
def RTy.getP:(R:RTy)->RV->Option R.El
 |.p ty,.p d=>ty.dec d
 |.tu a,.p (.tup c)=>zBv a c
 |_,_=>Sb
section
variable {Γ:Sig}{P:Program}{G:Nat->Option (List V)}
noncomputable def qGP(L:j6)(G:Nat->Option (List V))(S:zU Γ)(A:Nat->Option JA)(fn:Func)(c:Code)(t:Ty)(R:RTy)(s:Γ.St)(xs:List t.El)(ds:List V):Option (List t.El×R.El):=
 zEC (zCV fn.ntmps s t xs ds) (fun e=>exC L G S A c (List t.El×R.El) (fun k a _=>match k with
  |.exit _=>Sb
  |_=>match zZb a t with
   |some d=>match zDP L a fn with
    |some r=>match R.getP r with
     |some y=>zK8 (Aa d.length xs.length) (Sa (d,y))
     |none=>Sb
    |none=>Sb
   |none=>Sb) e 0)
theorem zPN(t:Ty)(x:t.El)(h:t.flat=Sc):∃u,(t.enc x).toVal1=Sa u:=by have a:=zZs t [x] h;simp_all[bm,RV.plain]
theorem qA9{d:V}{u:Value}(h:d.toVal1=Sa u):∃a,d.toVal=Sa a:=by
 cases d<;>first|exact⟨u,h⟩|(simp[V.toVal1]at h)
theorem zUg:∀(ts:List Ty) (x:ElS ts),ts.all Ty.flat=Sc->(yF ts x).all (fun d=>d.toVal1.isSome)=Sc
 |[],_,_=>rfl
 |t::ts,x,h=>by simp only[cU,am]at h;simp only[yF,cU,am];obtain⟨u,a⟩:=zPN t x.1 h.1;exact⟨by rw[a];rfl,zUg ts x.2 h.2⟩
variable {g:RTy}
theorem zWc(h:g.pl=Sc)(c:∀ty,g≠ .o ty)(y:g.El):∃u,(g.val y).toVal=Sa u:=by
 cases g with
 |p ty=>obtain⟨u,d⟩:=zPN ty y h;exact qA9 d
 |o ty=>grind
 |tu a=>have:=zUg a y h;simp_all[RTy.val,V.toVal]
theorem zR6{w:World}{F:Blk->Prop}{v:Value}{d:V}{y:g.El}(h:g.getP (.p d)=Sa y)(a:Rd w F v d):Rd w F v (g.val y):=by
 cases g with
 |p c=>exact u5 (t:=c) (x:=y) h _ _ _ a
 |o c=>simp[RTy.getP]at h
 |tu e=>
  cases d with
  |tup f=>exact WkV.tup (kH _ _ _ h) _ _ _ a
  |_=>simp[RTy.getP]at h
variable {l:Func}
theorem zUk{Z:World}{F0:Blk->Prop}{O0:x5}{a:Act}{w:World}{e:Env Γ.St}(hi:Inv Γ G Z F0 O0 a w e){d:V}(h:zDP P e l=Sa (.p d)):
  ∃v F',(results l a.tmps).run P w=.ok v w/\Rd w F' v d:=by
 obtain⟨F,O,β,hc,hG,ab,ad,I,hv⟩:=hi;have c:∀s E,e.var s=Sa E->zT e (.v s)->w6 w F β (zT e) (β.vb s) E:=fun s E J _=>hv s E J
 have f:∀g,(l.results.toList.mapM (zTR a.tmps)).run P w=.ok g w->
   (results l a.tmps).run P w=.ok (if h:g.length=1 then g[0]else .tuple g.toArray) w:=by
  grind[zL6,Array.mapM_eq_mapM_toList,Sem.run_bind,Sem.run_map,Result.andThen_ok,Sem.run_pure]
 have A:∀y,l.results.toList=[y]->∀d,qDa P e y=Sa d->∃v F',(results l a.tmps).run P w=.ok v w/\Rd w F' v d:=by
  intro y hr d B;obtain⟨g,K,H,L⟩:=zKy (P:=P) c I [y] [d] (by simp[zHG,B])
  cases g with
  |nil=>simp at H
  |cons u g=>
   cases g with
   |cons _ _=>simp at H
   |nil=>have:=f [u] (by rw[hr];exact K);exact⟨u,_,by simpa using this,L 0 u d rfl rfl⟩
 unfold zDP at h;split at h
 .rename_i t m;split at h
  .cases h
  .rename_i id k hx;have W:=I t;rw[hx]at W;obtain⟨ha,ag,M,Y⟩:=W;cases h;have n:(results l a.tmps).run P w=.ok (a.tmps.getD t undef) w:=by have:=f [a.tmps.getD t undef] (by rw[m];rfl);simpa using this
   exact⟨_,F,n,by rw[M];exact .slemp _ _⟩
  .cases h
  .cases h
  .simp only[ak]at h;obtain⟨d',B,q⟩:=h;cases q;exact A _ m d B
 .simp_all
 .rename_i al N;simp only[ak]at h;obtain⟨z,C,q⟩:=h;cases q;obtain⟨g,K,H,L⟩:=zKy (P:=P) c I _ z C;have j:=f g K
  have Q:g.length≠1:=by
   intro hl
   have D:∀(fn:List ResultVar) (z:List V),zHG P e fn=Sa z->z.length=fn.length:=by
    intro fn
    induction fn with
    |nil=>grind[zHG]
    |cons r fn ih=>
     grind[Option.some.injEq,zHG]
   have:=D _ z C
   match S:l.results.toList with
   |[]=>grind
   |[y]=>exact N y S
   |_::_::_=>grind
  rw[dif_neg Q]at j;exact⟨_,_,j,.tup _ z (by simpa using H) (fun i x d hi B=>L i x d (by simpa using hi) B)⟩
variable {j:FuncId}{I:Nat->Option JA}{C:Type}{i:List V->Option C}
theorem qD0[D:Calm Γ][ag:Subsingleton Γ.St]{S:zU Γ}(an:P.follows .mixedOrders=Sc)(hS:qK Γ P G S.toS){c:Code}(hf:P.funcs[j]?=Sa l)(hb:l.body=Sa c){t:Ty}{enc:C->List V}(ao:∀ds x,i ds=Sa x->kW ds (enc x))(a3:∀ds x,i ds=Sa x->zCk ds=Sb)(a4:g.pl=Sc)(a5:∀ty,g≠ .o ty){dec:List t.El->C->Option (List t.El×g.El)}(h:∀s xs x,qGP (Γ:=Γ) P G S I l c t g s xs (enc x)=dec xs x):zCK Γ P G j t i g dec:=by
 intro s xs r x ys y hx hy;refine zAy.of (a3 r x hx) ?_;intro w F O b v0 f ap hG hF E a6 Y b6 a9;have av:=ao r x hx;have Z:f.size=(enc x).length+1:=Y.trans (by rw[av.len])
 have ax:∀(X:Nat) (u:Value) (d:V),f[X+1]?=Sa u->(enc x)[X]?=Sa d->Rd w F u d:=by
  intro X u d hu hd;have hlt:X<r.length:=by grind
  exact av.get X r[X] d (by simp[hlt]) hd w F u (a9 X u r[X] hu (by simp[hlt]))
 have N:=h s xs x;rw[hy]at N;unfold qGP at N;rw[yD]at N;obtain⟨k,e',d,bb,_,a⟩:=zHW (fun _ _ _=>.inl ag) an hS c _ _ _ _ _ N
 have hk:(k=.normal\/k=.ret)/\(match zZb e' t with
   |some ys=>match zDP (j6.of P) e' l with
    |some r=>match g.getP r with
     |some y=>zK8 (Aa ys.length xs.length) (Sa (ys,y))
     |none=>Sb
    |none=>Sb
   |none=>Sb)=Sa (ys,y):=by
  cases k with
  |normal=>grind
  |ret=>grind
  |exit id=>cases a
 obtain⟨hk,a⟩:=hk;split at a
 .rename_i bd B;split at a
  .rename_i rv be;split at a
   .rename_i y' bk;obtain⟨z,a⟩:=yO.1 a;have z:=aL z;simp at a;obtain⟨rfl,rfl⟩:=a;refine calls_of_wp hf hb ?_
    have H:∃m,xs≠[]->v0=.slice (Sa ⟨b,0,Sb⟩) xs.length m/\xs.length<=m/\∃(c:Array Value) (et:TypeId) (fl:Nat×Nat),w.heap[b]?=Sa (.cells c et fl)/\c.size=m*t.size:=by
     rcases E with⟨fn,_⟩|⟨fn,_,m,A,c,et,h3,h4,h5,_⟩
     .simp_all
     grind
    obtain⟨m,H⟩:=H;let β:Lay:=⟨fun _=>0,fun _=>b⟩
    let al:v6->Prop:=fun q=>q=.o jV/\xs≠[];let O0:x5:=⟨O,if xs=[]then Sb else Sa (b,m*t.size)⟩
    have cc:zY w F β al v0 (.ot jV t xs):=by
     rcases E with⟨fn,A⟩|⟨fn,_,A⟩
     .exact .inl ⟨fn,A⟩
     .exact .inr ⟨fn,⟨rfl,fun J=>fn (by rw[J];rfl)⟩,A⟩
    have vA:∀q,zY w F β al ((f++Ae (l.ntmps-f.size) undef).getD q undef) ((zCV l.ntmps s t xs (enc x)).get q):=by
     intro q;simp[zCV,zJx,Env.get]
     cases q with
     |zero=>
      grind
     |succ q=>
      rw[bp];by_cases ht:q< (enc x).length
      .rw[aT (by simpa using ht),bh (by omega)];rw[aA,ah ht,aD (by omega)];exact ax q _ _ (by grind) (by simp[ht])
      .rw[aF (by grind),bu (by omega),Z];simp only[aK];by_cases A:q- (enc x).length<l.ntmps- ((enc x).length+1)
       .rw[bc,if_pos A,bJ,if_pos (by omega)];exact Rd.val _
       .rw[bc,if_neg A];trivial
    have a1:∀s0,(zCV l.ntmps s t xs (enc x)).var s0=none:=by
     grind[zCV,Env.var]
    have hl:xs≠[]->O0.l=Sa (b,m*t.size):=fun J=>by simp[O0,J]
    have ay:Inv Γ G w F O0 { tmps:=f++Ae (l.ntmps-f.size) undef,defers:=[] } w (zCV l.ntmps s t xs (enc x)):=by
     refine Inv.of (F:=F) (O:=O) (β:=β) (al:=al) ⟨xC.refl _ w,ap,fun b hb=>.inl hb,fun b hb=>⟨.inl hb,hF b hb⟩,.refl _ _,?_,?_,?_⟩ hG ?_ rfl vA ?_ ?_
     .rintro q ⟨rfl,ab⟩;exact⟨.inr ⟨rfl,_,hl ab⟩,a6 ab⟩
     .grind
     .intro b' n cf
      grind
     all_goals grind[zCV,zJx]
    refine wp_mono (bb w F O0 _ w ay) ?_;rintro ex a' w' ⟨rfl,ad⟩;have Q:a'.defers=[]:=by obtain⟨_,_,_,_,_,_,Q,_⟩:=ad;exact Q
    have bn:∃d0,rv=.p d0:=by
     cases rv with
     |p d0=>grind
     |own es=>grind[RTy.getP]
     |ownT t0 ch=>grind[RTy.getP]
    obtain⟨d0,rfl⟩:=bn;obtain⟨v,F1,fn,A⟩:=zUk ad be;have h3:=zR6 bk A;obtain⟨u,hu⟩:=zWc a4 a5 y';obtain⟨F',O',β',e,ck,b4,_,bo,cl⟩:=ad;have W:=bo 0
    have K:xC (fun c=>O c\/(xs≠[]/\c=b)) w w':=by
     refine⟨e.keep.os,e.keep.tape,e.keep.output,e.keep.size,fun c hc ho=>e.keep.block c hc ?_,e.keep.drawn⟩;rintro(J|⟨n,J⟩);all_goals grind
    have L:zB8 w' F' ⟨fun _=>b,fun _=>b⟩ (fun _=>True) v0 0 t.size (bd.map t.enc):=by
     unfold zZb at B;split at B
     .rename_i id t' zs hg;split at B
      .rename_i hid;have hid:=aL hid;subst hid;obtain⟨bs,hz⟩:=u9 (uY B);subst bs;subst hz;rw[hg]at W;by_cases M:xs=[]
       .subst M;have hz:zs=[]:=aJ z;subst hz;rcases E with⟨_,A⟩|⟨fn,_⟩
        .exact .inl ⟨rfl,A⟩
        grind
       .have ab:zs≠[]:=fun J=>M (aJ (by grind));rcases W with⟨fn,_⟩|⟨fn,b0,b5,_,c1,b1,q1,q2,q3,q4,q5⟩
        .simp_all
        .rcases(e.place _ b0).1 with⟨J,_⟩|⟨_,n,J⟩
         .grind
         .rw[hl M]at J;simp at J;have b2:β'.ob jV=b:=J.1.symm;rw[b2]at q1;obtain⟨_,_,_,c2,cp,cq,k1,k2⟩:=e.lent b _ (hl M);rw[q1]at k1;simp at k1;obtain⟨rfl,_,_⟩:=k1;obtain⟨cr,cs,_⟩:=H M;refine .inr ⟨fn,trivial,m,by grind,c1,b1,q1,k2,by grind,q4,q5⟩
      .cases B
     .cases B
    have a0:e'.st=s:=cY _ _;rcases hk with rfl|rfl
    .exact⟨Q,v,fn,v,F',O',rfl,by rw[<-a0];exact e.sig,K,e.oin,e.f0.no D.no,e.fin,zCt.of L (h3.of_flat hu)⟩
    .exact⟨Q,v,fn,v,F',O',rfl,by rw[<-a0];exact e.sig,K,e.oin,e.f0.no D.no,e.fin,zCt.of L (h3.of_flat hu)⟩
   .cases a
  .cases a
 .cases a
theorem zKh:∀(ts:List ATy) (ds:List V) (x:ElA ts),uI ts ds=Sa x->zCk ds=Sb
 |_,[],_,_=>rfl
 |[],_::_,_,h=>by simp[uI]at h
 |t::ts,d::ds,x,h=>by
  refine zJK ?_;rintro r a;simp at a;obtain⟨rfl,_⟩:=a
  have g:t.dec .bot=none:=by
   cases t with
   |d c=>cases c<;>rfl
   |pp c=>rfl
   |clo f e=>rfl
  grind[uI]
def zRk(n:Nat)(t:Ty)(k:Nat)(y:t.El)(ds:List V):List T:=
 (ds.take k).map .p++ .oet jV t [y] 0 0::((ds.drop k).map .p++Ai (n- (ds.length+1)) (.p (.val undef)))
def zLV{St:Type}(n:Nat)(s:St)(t:Ty)(k:Nat)(y:t.El)(ds:List V):Env St:= { tm:=zRk n t k y ds,vars:=Ai n Sb,st:=s }
def qDm{St:Type}(e:Env St)(k:Nat)(t:Ty):Option t.El:=
 match e.get k with
 |.oet id a c 0 0=>match Aa id jV with
  |true=>match zDS a t c with
   |some [z]=>Sa z
   |_=>Sb
  |false=>Sb
 |_=>Sb
noncomputable def qFM(L:j6)(G:Nat->Option (List V))(S:zU Γ)(A:Nat->Option JA)(fn:Func)(c:Code)(t:Ty)(R:RTy)(p:Nat)(s:Γ.St)(y:t.El)(ds:List V):Option (t.El×R.El):=
 zEC (zLV fn.ntmps s t p y ds) (fun e=>exC L G S A c (t.El×R.El) (fun k a _=>match k with
  |.exit _=>Sb
  |_=>match qDm a p t with
   |some z=>match zDP L a fn with
    |some r=>match R.getP r with
     |some u=>Sa (z,u)
     |none=>Sb
    |none=>Sb
   |none=>Sb) e 0)
def zKs(Γ:Sig)(P:Program)(G:Nat->Option (List V))(f:FuncId)(t:Ty)(p:Nat){X:Type}(dec:List V->Option X)(R:RTy)(g:t.El->X->Option (t.El×R.El)):Prop:=
 ∀(s:Γ.St) (y:t.El) (r:List V) (x:X) (z:t.El) (u:R.El),dec r=Sa x->g y x=Sa (z,u)->qA2 Γ P G f s t p [y] r s [z] (R.val u)
def zQK(t:Ty)(p:Nat){X:Type}(dec:List V->Option X)(R:RTy)(g:t.El->X->Option (t.El×R.El)):Γ.St->List V->Option (zER Γ.St):=fun s a=>
 match a with
 |.tl c d::r=>match zDS c t d with
  |some [y]=>match zCk r with
   |some (k,e)=>match Aa k p with
    |true=>match dec e with
     |some x=>Sa ⟨t.El×R.El,g y x,fun _=>s,fun u=>.p (.tup [.tl t [u.1],R.val u.2]),Sd⟩
     |none=>Sb
    |false=>Sb
   |none=>Sb
  |_=>Sb
 |_=>Sb
theorem zWl{S:zU Γ}(hS:qK Γ P G S.toS){f:FuncId}{sp:Γ.St->List V->Option (zER Γ.St)}(hi:zGe P f=Sc)
  (h:∀(s:Γ.St) (t:Ty) (xs:List t.El) (r:List V) (cx:zER Γ.St) (u:cx.ρ) (ys:List t.El) (d:V),sp s (.tl t xs::r)=Sa cx->cx.m=Sa u->cx.res u=.p (.tup [.tl t ys,d])->zAy Γ P G f s t xs r (cx.st u) ys d):
  qK Γ P G (S.addB f sp).toS:=by
 have e0:∀s ds,zED ds=Sd->(S.addB f sp).toS f s ds=S.toS f s ds:=by
  intro s ds hb;simp[zU.toS,zU.addB]
  cases ds with
  |nil=>rfl
  |cons d r=>cases d<;>first|rfl|cases hb
 have e1:∀s r,(S.addB f sp).toS f s (.bot::r)=match sp s r with
   |some c=>c.m.map (fun y=>(c.st y,c.res y))
   |none=>S.toS f s (.bot::r):=by
  grind[Ah,zU.toS,zU.addB]
 have e2:∀g',g'≠f->(S.addB f sp).toS g'=S.toS g':=by
  intro g' hg;funext s ds
  have:Aa g' f=false:=by
   grind[Ab,absurd]
  simp[zU.toS,zU.addB,this]
 have hnf:∀k,P.funcs[k]?=Sb->k≠f:=by
  rintro k hk rfl
  grind[zGe]
 have hisf : ∃ fn, P.funcs[f]? = some fn ∧ fn.body.isSome = true ∧ (fn.name == "runtime.NumGoroutine") = false := by
  unfold zGe at hi
  grind
 refine⟨?_,?_,fun hno st q t ys bytes st' d h=>hS.app hno st q t ys bytes st' d (by simp_all),?_⟩
 .intro g';by_cases hg:g'=f
  .subst hg;intro w F O s args ds s' r a1 a2 a3 a4 a5 a6
   cases hb:zED ds with
   |false=>
    rw[e0 s ds hb]at a6;exact hS.ok g' w F O s args ds s' r a1 a2 a3 a4 a5 a6
   |true=>
    exfalso
    cases ds with
    |nil=>cases hb
    |cons d ds=>
     cases d with
     |bot=>
      have h0:0<args.size:=by rw[a4];simp
      have hnb:∀u:Value,¬Rd w F u .bot:=fun u h=>by cases h
      exact hnb _ (a5 0 args[0] .bot (by simp[h0]) rfl)
     |_=>cases hb
  .rw[e2 g' hg];exact hS.ok g'
 .intro g' s ds r hr hbot;by_cases hg:g'=f
  .grind
  .rw[e2 g' hg]at hr;exact hS.is g' s ds r hr hbot
 .intro g' st t0 xs ds st' ys d h0;by_cases hg:g'=f
  .subst hg;rw[e1]at h0;split at h0
   .grind[Option.map_eq_some_iff,Prod.mk.injEq]
   .exact hS.bor g' st t0 xs ds st' ys d h0
  .rw[e2 g' hg]at h0;exact hS.bor g' st t0 xs ds st' ys d h0
theorem zPx{S:zU Γ}(X:qK Γ P G S.toS){t:Ty}{p:Nat}{R:t.El->C->Option (t.El×g.El)}(hi:zGe P j=Sc)(h:zKs Γ P G j t p i g R):qK Γ P G (S.addB j (zQK t p i g R)).toS:=by
 refine zWl X hi ?_;intro s D n r I u J d a E c;simp only[zQK]at a
 cases e:zDS D t n with
 |none=>grind
 |some z=>
  rw[e]at a;rcases z with _|⟨y,_|⟨K,z⟩⟩
  .cases a
  .obtain⟨F,l⟩:=u9 (uY e);subst F;have l:n=[y]:=l;subst l;simp only at a
   cases dec:zCk r with
   |none=>grind
   |some q=>
    obtain⟨k,A⟩:=q;rw[dec]at a;simp only at a
    cases f:Aa k p with
    |false=>grind
    |true=>
     rw[f]at a;simp only at a;have f:=aL f;subst f
     cases B:i A with
     |none=>grind
     |some x=>rw[B]at a;cases a;simp only[RV.p.injEq,V.tup.injEq,List.cons.injEq,and_true,V.tl.injEq,true_and]at c;obtain⟨m,H⟩:=c;have m:=eq_of_heq m;subst m;subst H;unfold zAy;rw[dec];exact h s y A x u.1 u.2 B E
  .cases a
theorem zXu[X:Calm Γ][ab:Subsingleton Γ.St]{S:zU Γ}(ad:P.follows .mixedOrders=Sc)(hS:qK Γ P G S.toS){c:Code}(hf:P.funcs[j]?=Sa l)(Z:l.body=Sa c){t:Ty}{p:Nat}{enc:C->List V}(ag:∀ds x,i ds=Sa x->kW ds (enc x))(a1:g.pl=Sc)(a2:∀ty,g≠ .o ty){R:t.El->C->Option (t.El×g.El)}(h:∀s y x,qFM (Γ:=Γ) P G S I l c t g p s y (enc x)=R y x):zKs Γ P G j t p i g R:=by
 intro s y r x z u0 hx hy w F O b D f an hG hF B _ a3 M hk a4 a5;have ao:=ag r x hx;have N:f.size=(enc x).length+1:=M.trans (by rw[ao.len]);have a6:p<=(enc x).length:=by omega
 have K:∀(dec:Nat) (u:Value) (d:V),f[if dec<p then dec else dec+1]?=Sa u->(enc x)[dec]?=Sa d->Rd w F u d:=by
  intro dec u d hu hd;have hlt:dec<r.length:=by grind
  exact ao.get dec r[dec] d (by simp[hlt]) hd w F u (a5 dec u r[dec] hu (by simp[hlt]))
 have A:=h s y x;rw[hy]at A;unfold qFM at A;rw[yD]at A;obtain⟨k,e',d,a9,_,e⟩:=zHW (fun _ _ _=>.inl ab) ad hS c _ _ _ _ _ A
 have hk:(k=.normal\/k=.ret)/\(match qDm e' p t with
   |some z=>match zDP (j6.of P) e' l with
    |some r=>match g.getP r with
     |some u=>Sa (z,u)
     |none=>Sb
    |none=>Sb
   |none=>Sb)=Sa (z,u0):=by
  cases k with
  |normal=>grind
  |ret=>grind
  |exit id=>cases e
 obtain⟨hk,e⟩:=hk;split at e
 .rename_i z' fn;split at e
  .rename_i rv bb;split at e
   .rename_i y' bd;simp at e;obtain⟨rfl,rfl⟩:=e;refine calls_of_wp hf Z ?_
    have b2:∃(c:Array Value) (et:TypeId) (fl:Nat×Nat),w.heap[b]?=Sa (.cells c et fl)/\c.size=D*t.size:=by
     obtain⟨c,et,h3,h4,_⟩:=B
     grind
    let β:Lay:=⟨fun _=>0,fun _=>b⟩
    let al:v6->Prop:=fun q=>q=.o jV;let O0:x5:=⟨O,Sa (b,D*t.size)⟩
    have be:zY w F β al (.pointer (Sa ⟨b,0,Sb⟩)) (.oet jV t [y] 0 0):=⟨rfl,by simp,D,by simp[β],B⟩
    have vA:∀q,zY w F β al ((f++Ae (l.ntmps-f.size) undef).getD q undef) ((zLV l.ntmps s t p y (enc x)).get q):=by
     intro q;simp only[zLV,zRk,Env.get,ba,bf];have ap:(((enc x).take p).map T.p).length=p:=by simp[a6]
     rcases dr q p with hq|hq|hq
     .rw[aT (by omega),bh (by omega)];rw[aA,cG,if_pos hq,ah (by omega),aD (by omega)];exact K q _ _ (by grind) (by grind)
     .subst hq;rw[aF (by omega),ap,Nat.sub_self,bh (by omega),a4];exact be
     .rw[aF (by omega),ap];obtain⟨m,rfl⟩:∃m,q=p+m+1:=⟨q-p-1,by omega⟩
      rw[show p+m+1-p=m+1 by omega,bp];by_cases ht:p+m< (enc x).length
      .rw[aT (by simp;omega),bh (by omega)];rw[aA,cH,ah ht,aD (by omega)];exact K (p+m) _ _ (by grind) (by simp[ht])
      .rw[aF (by simp;omega),bu (by omega),N];simp only[aK,bW];by_cases h2:m- ((enc x).length-p)<l.ntmps- ((enc x).length+1)
       .rw[bc,if_pos h2,bJ,if_pos (by omega)];exact Rd.val _
       .rw[bc,if_neg h2];trivial
    have ay:∀s0,(zLV l.ntmps s t p y (enc x)).var s0=none:=by
     grind[zLV,Env.var]
    have av:Inv Γ G w F O0 { tmps:=f++Ae (l.ntmps-f.size) undef,defers:=[] } w (zLV l.ntmps s t p y (enc x)):=by
     refine Inv.of (F:=F) (O:=O) (β:=β) (al:=al) ⟨xC.refl _ w,an,fun b Z=>.inl Z,fun b Z=>⟨.inl Z,hF b Z⟩,.refl _ _,?_,?_,?_⟩ hG ?_ rfl vA ?_ ?_
     .rintro q rfl;exact⟨.inr ⟨rfl,_,rfl⟩,a3⟩
     .grind
     .intro b' n b6
      grind
     all_goals grind[Nat.min_eq_left,zLV,zRk]
    refine wp_mono (a9 w F O0 _ w av) ?_;rintro ex a' w' ⟨rfl,Q⟩;have J:a'.defers=[]:=by obtain⟨_,_,_,_,_,_,J,_⟩:=Q;exact J
    have bk:∃d0,rv=.p d0:=by
     cases rv with
     |p d0=>grind
     |own es=>grind[RTy.getP]
     |ownT t0 cc=>grind[RTy.getP]
    obtain⟨d0,rfl⟩:=bk;obtain⟨v,F1,h1,h2⟩:=zUk Q bb;have h3:=zR6 bd h2;obtain⟨u,hu⟩:=zWc a1 a2 y';obtain⟨F',O',β',a,cf,b4,_,bn,ch⟩:=Q;have L:=bn p
    have E:xC (fun c=>O c\/c=b) w w':=by
     refine⟨a.keep.os,a.keep.tape,a.keep.output,a.keep.size,fun c hc ho=>a.keep.block c hc ?_,a.keep.drawn⟩;rintro(hh|⟨n,hh⟩);all_goals grind
    have W:1<=D:=by obtain⟨_,_,_,_,h5,_⟩:=B;simpa using h5
    have H:qP w' F' b t.size D ([z'].map t.enc):=by
     unfold qDm at fn;split at fn
     .rename_i id t' zs hg;split at fn
      .rename_i hid;have hid:=aL hid;subst hid;split at fn
       .rename_i z1 Y;simp at fn;subst fn;obtain⟨bo,hz⟩:=u9 (uY Y);subst bo;subst hz;rw[hg]at L;obtain⟨bs,_,b5,_,c1,b0,q1,q2,q3,q4,q5⟩:=L;rcases(a.place _ bs).1 with⟨hh,_⟩|⟨_,n,hh⟩
        .grind
        .simp[O0]at hh;have b1:β'.ob jV=b:=hh.1.symm;rw[b1]at q1;obtain⟨_,_,_,c2,ck,cl,k1,k2⟩:=a.lent b _ rfl;rw[q1]at k1;simp at k1;obtain⟨rfl,_,_⟩:=k1;exact⟨c1,b0,q1,k2,by simpa using W,q4,q5⟩
       .cases fn
      .cases fn
     .cases fn
    have ax:e'.st=s:=cY _ _;rcases hk with rfl|rfl
    .exact⟨J,v,h1,v,F',O',rfl,by rw[<-ax];exact a.sig,E,a.oin,a.f0.no X.no,a.fin,H,rfl,h3.of_flat hu⟩
    .exact⟨J,v,h1,v,F',O',rfl,by rw[<-ax];exact a.sig,E,a.oin,a.f0.no X.no,a.fin,H,rfl,h3.of_flat hu⟩
   .cases e
  .cases e
 .cases e
end
abbrev HSt(t:Ty):=List (Option (List t.El))
structure qAd(t:Ty)(st:HSt t)(F:Blk->Prop)(O:Nat->Prop)(w:World)(hb hc:Nat->Nat):Prop where
 hdl:∀id xs,st[id]?=Sa (Sa xs)->∀a n c,F (.h id a n c)↔(a=Sa ⟨hb id,0,Sb⟩/\n=xs.length/\c=hc id)
 out:∀id,st.length<=id->∀a n c,¬F (.h id a n c)
 row:∀id xs,st[id]?=Sa (Sa xs)->xs≠[]/\O (hb id)/\qP w (fun _=>False) (hb id) t.size (hc id) (xs.map t.enc)
 dist:∀id id' xs xs',st[id]?=Sa (Sa xs)->st[id']?=Sa (Sa xs')->hb id=hb id'->id=id'
 own:∀b,O b->∃id xs,st[id]?=Sa (Sa xs)/\hb id=b
 nok:NoK F
variable {g:Blk->Prop}{i:World}
theorem qP.same{w':World}{b k cap:Nat}{es:List V}(h:qP i (fun _=>False) b k cap es)(a:w'.heap[b]?=i.heap[b]?):qP w' g b k cap es:=by obtain⟨c,f,F,l,m,n,p⟩:=h;exact⟨c,f,a.trans F,l,m,n,fun w j e d x q r a3=>(p w j e d x q r a3).mono (fun _ h=>h.elim) (fun _ h=>h.elim)⟩
def v8(t:Ty):Sig where
 St:=HSt t
 R:=fun st F O w=>∃g i,qAd t st F O w g i
 mono:=by
  rintro s F r O w u ⟨g,i,h⟩ j k _;refine⟨g,i,?_,?_,?_,h.dist,h.own,h.nok.of j⟩
  .intro id d e a n c;rw[j _ rfl];exact h.hdl id d e a n c
  .intro id e a n c q;exact h.out id e a n c ((j _ rfl).1 q)
  .intro id d e;obtain⟨l,m,p⟩:=h.row id d e;exact⟨l,m,p.same (k _ m)⟩
 inb:=by
  rintro s F O w ⟨g,i,h⟩ b k;obtain⟨id,d,l,rfl⟩:=h.own b k;obtain⟨_,_,c,x,p,_⟩:=h.row id d l
  grind
 ld:=fun⟨_,_,h⟩ f=>absurd f (h.nok.1 _ _ _)
 eqk:=fun⟨_,_,h⟩ f=>absurd f (h.nok.1 _ _ _)
 sb:=fun⟨_,_,h⟩ f=>absurd f (h.nok.2 _)
instance (t:Ty):Calm (v8 t):=⟨fun h=>h⟩
def zNO{t:Ty}(bytes:Nat)(st:HSt t)(q:Option (Nat×Nat))(c:List t.El):Option (HSt t×Option (Nat×Nat)):=
 match c with
 |[]=>Sb
 |y::r=>match q with
  |none=>if(2*(y::r).length+1024)*bytes<=0x800000000000 then Sa (st++[Sa (y::r)],Sa (st.length,(y::r).length))else Sb
  |some (id,_)=>match st[id]? with
   |some (Sa a)=>if(2*(a.length+(y::r).length)+1024)*bytes<=0x800000000000 then Sa (st.set id Sb++[Sa (a++y::r)],Sa (st.length,(a++y::r).length))else Sb
   |_=>Sb
theorem zFQ{t:Ty}(h:t.flat=Sc){x:t.El}{d:V}(a:d∈(t.enc x).cells){w':World}{F':Blk->Prop}{v:Value}(c:Rd i g v d):Rd w' F' v d:=by rw[jM]at a;have:=zAU (zOW t x h d a);rw[this]at c ⊢;rw[Rd.eq_val c];exact .val _
theorem qC5{t:Ty}(h:t.flat=Sc){F':Blk->Prop}{b k cap:Nat}{xs:List t.El}(F:qP i g b k cap (xs.map t.enc)):qP i F' b k cap (xs.map t.enc):=by obtain⟨c,l,m,n,p,q,r⟩:=F;refine⟨c,l,m,n,p,q,fun w j e d x a f u=>?_⟩;simp at a;obtain⟨y,z,rfl⟩:=a;exact zFQ h (ae f) (r w j (t.enc y) d x (by simp[z]) f u)
theorem vA{α:Type}{st:List (Option α)}{id j:Nat}{z:α}{xs:α}(h:(st.set id Sb++[Sa z])[j]?=Sa (Sa xs)):(j=st.length/\xs=z)\/(j≠id/\j<st.length/\st[j]?=Sa (Sa xs)):=by
 grind
section
variable {t:Ty}{P:Program}
theorem zLK(x:t.flat=Sc){st:HSt t}{F:Blk->Prop}{O:Nat->Prop}{w w':World}{k D:Nat->Nat}(h:qAd t st F O w k D)(K:∀b:Nat,F b->b<w.heap.size/\¬O b)
  {id:Nat} {zs:List t.El} (L:zs≠[]) {blk cap:Nat} {O':Nat->Prop} (E:xC O w w') (l:∀b,O' b↔(b=blk\/(O b/\∀xs,st[id]?=Sa (Sa xs)->b≠k id)))
  (G:O blk\/w.heap.size<=blk) (H:blk<w'.heap.size) (p:qP w' F blk t.size cap (zs.map t.enc))
  (q:∀j xs,j≠id->st[j]?=Sa (Sa xs)->k j≠blk/\w'.heap[k j]?=w.heap[k j]?) (hid:id<st.length->∃xs,st[id]?=Sa (Sa xs)):
  qAa (v8 t) w F O (.slice (Sa ⟨blk,0,Sb⟩) zs.length cap) w' (st.set id Sb++[Sa zs]) (.rf (Sa (st.length,zs.length))):=by
 let y:Blk->Prop:=fun b=>F b\/b=.h st.length (Sa ⟨blk,0,Sb⟩) zs.length cap
 have z:∀b,O' b->O b\/w.heap.size<=b:=fun b e=>by
  grind
 refine⟨y,O',⟨fun j=>if j=st.length then blk else k j,fun j=>if j=st.length then cap else D j,?_,?_,?_,?_,?_,⟨fun _ _ _ d=>d.elim (h.nok.1 _ _ _) (fun d=>by cases d),fun _ d=>d.elim (h.nok.2 _) (fun d=>by cases d)⟩⟩,E,z,
  ⟨fun b k=>.inl k,fun n M=>M.elim .inl (fun d=>by cases d)⟩,?_,.rf _ _ _ _ (.inr rfl)⟩
 .intro j xs f a n c;rcases vA f with⟨rfl,rfl⟩|⟨i,hlt,f⟩
  .simp only[if_true,y];constructor
   .rintro(d|d)
    .exact absurd d (h.out _ (ai _) _ _ _)
    grind
   grind
  .have g:j≠st.length:=by omega
   simp only[if_neg g,y];rw[<-h.hdl j xs f]
   grind
 .intro j f a n c;simp at f;rintro(d|d)
  .exact h.out j (by omega) _ _ _ d
  grind
 .intro j xs f;rcases vA f with⟨rfl,rfl⟩|⟨i,hlt,f⟩
  .simp only[if_true];exact⟨L,(l _).2 (.inl rfl),qC5 x p⟩
  .have g:j≠st.length:=by omega
   simp only[if_neg g];obtain⟨m,r,N⟩:=h.row j xs f;refine⟨m,(l _).2 (.inr ⟨r,fun Q S d=>i (h.dist j id xs Q f S d)⟩),N.same (q j xs i f).2⟩
 .intro j I xs A f B d;rcases vA f with⟨rfl,rfl⟩|⟨i,hlt,C⟩<;>rcases vA B with⟨rfl,rfl⟩|⟨g,J,u⟩
  .rfl
  .grind
  .grind
  .have m:j≠st.length:=by omega
   have r:I≠st.length:=by omega
   simp[if_neg m,if_neg r]at d;exact h.dist j I xs A C u d
 .intro b e;rcases(l b).1 e with rfl|⟨m,r⟩
  .refine⟨st.length,zs,?_,by simp⟩
   grind
  .obtain⟨j,xs,f,rfl⟩:=h.own b m
   grind
 .intro b e;rcases e with e|e
  .obtain⟨m,r⟩:=K b e;refine⟨.inl e,az m E.size,fun W=>?_⟩
   grind
  .cases e
theorem qFH(ab:t.flat=Sc){bytes:Nat}{st a9:HSt t}{q q':Option (Nat×Nat)}{ys:List t.El}(h:zNO bytes st q ys=Sa (a9,q')):
  qGm (v8 t) P st (.rf q) t ys bytes a9 (.rf q'):=by
 intro ts ty t0 t1 el cp g z w F O v0 v1 Q S ap av I hz ad bb cq ag N hF;intro (bd:Rd w F v0 (.rf q)) ax;subst ag;obtain⟨B,hc,N⟩:=N
 have W:∀q,q∈ys.map t.enc->q.cells.length=g.size:=by
  intro q hq;simp at hq;obtain⟨y,_,rfl⟩:=hq
  grind[wZ]
 have b0:∀q,q∈ys.map t.enc->q.cells.all V.one=true:=by intro q hq;simp at hq;obtain⟨y,_,rfl⟩:=hq;rw[jM];exact zH4 t y
 obtain⟨a1,C,cells,M,ay,a2,J,an⟩:=zIj (P:=P) (β:=⟨id,id⟩) (al:=fun _=>False) (x:=.p (.sl (ys.map t.enc))) ax.untl rfl W;simp at M ay a2 J;have hs:wB P el=Sa g.size:=zBB I
 have b1:∀m,(Ad z.cells m).size=m*g.size:=by
  grind[Array.size_map,Array.size_range,Ad]
 unfold zNO at h;split at h
 .cases h
 .rename_i y r;have K:cells.length=((y::r).map t.enc).length*g.size:=by simpa using a2
  split at h
  .-- nil
   split at h
   .rename_i L;simp only[ac,aI]at h;obtain⟨rfl,rfl⟩:=h
    cases bd with
    |rfn=>
     obtain⟨f,ao,l⟩:=run_append_grow (P:=P) (w:=w) (ts:=ts) (ty:=ty) (len:=0) (cap:=0) (n:=(y::r).length) (cap1:=C) (a0:=none) (a1:=a1) (cells:=cells) (old:=[]) Q S ap av I hz
      (by rw[<-M];exact J w.drew rfl) (by simp[Builtin.firstCells]) (by simp) bb (by grind)
     rw[<-M]at l;simp only[bz]at ao l;refine⟨_,_,l,?_⟩
     have D:=zJF (w':=w.drew.alloc (.cells (([]:List Value).toArray++(cells.toArray++Ad z.cells (f- (y::r).length))) el)) (F:=F) (b:=w.heap.size) (k:=g.size) (cap:=f) (es:=[]) (es2:=(y::r).map t.enc) (et:=el) (old:=[]) (cells:=cells)
      (by simp) W (by simp) K (fun i j q y u E=>by simp at u) (fun i j e d u E=>by
       obtain⟨x,hx,a3⟩:=an i j e d u E;simp only[aA,ak]at u;obtain⟨y0,_,rfl⟩:=u
       grind[zFQ,Ac]) (by simpa using ao) (by grind) (zBi (w:=w.drew))
     rw[dH,<-ad]at D;have cf:st.set st.length Sb=st:=List.set_eq_of_length_le (ai _)
     have:=zLK (w':=w.drew.alloc (.cells (([]:List Value).toArray++(cells.toArray++Ad z.cells (f- (y::r).length))) el)) (O':=fun b=>b=w.heap.size\/O b) (id:=st.length) ab N hF (zs:=y::r) (by simp) (blk:=w.heap.size) (cap:=f)
      ⟨rfl,rfl,rfl,by simp,fun b B _=>kM (w:=w.drew) B,cW _⟩ (fun b=>by
       grind) (.inr (ai _)) (by simp) D (fun j A _ E=>by
       have hlt:=(v8 t).inb (⟨B,hc,N⟩:(v8 t).R st F O w) _ (N.row j A E).2.1
       exact⟨by omega,kM (w:=w.drew) hlt⟩) (fun hh=>by omega)
     grind
   .cases h
  .rename_i id n0;split at h
   .rename_i A Y;split at h
    .rename_i L;simp only[ac,aI]at h;obtain⟨rfl,rfl⟩:=h;obtain⟨ch,bk,a4⟩:=N.row id A Y
     cases bd with
     |rf _ a n c hh=>
      obtain⟨rfl,rfl,rfl⟩:=(N.hdl id A Y _ _ _).1 hh;obtain⟨cc,et,g1,g2,g3,g4,g5⟩:=a4;simp at g3;rw[ad]at g2 g4 g5;by_cases G:A.length+(y::r).length<=hc id
      .have ck:A.length*g.size+(y::r).length*g.size<=cc.size:=by rw[<-bF,g2];exact aq _ G
       have l:=run_append_room (P:=P) (w:=w) (ts:=ts) (ty:=ty) (b:=B id) (off:=0) (len:=A.length) (cap:=hc id) (n:=(y::r).length) (cap1:=C) (a1:=a1) (cells:=cells) (c:=cc) (et:=et) Q S ap av hs
        (by grind) a2 g1 (by omega) (zQJ K W b0 an) G
       rw[<-M]at l;simp only[bz]at l;refine⟨_,_,l,?_⟩;have hlt:B id<w.heap.size:=(ar.1 g1).1
       have D:=zRw (w':=setBlk w (B id) (.cells (j5 cc (A.length*g.size) cells) et (0,0))) (F:=F) (b:=B id) (k:=g.size) (cap:=hc id) (es:=A.map t.enc) (es2:=(y::r).map t.enc) (c:=cc) (et:=et) (cells:=cells)
        (by simpa using g2) g4 (fun i j e d x u E hx=>by
         simp at u;obtain⟨y0,b2,rfl⟩:=u
         exact zFQ ab (ae E) (g5 i j _ d x (by simp[b2]) E hx)) W K (fun i j e d u E=>by
         obtain⟨x,hx,a3⟩:=an i j e d u E;simp only[aA,ak]at u;obtain⟨y0,_,rfl⟩:=u
         grind[zFQ,Ac]) (by simpa using G) (by grind[zAS])
       rw[<-bw,<-ad]at D
       have:=zLK (w':=setBlk w (B id) (.cells (j5 cc (A.length*g.size) cells) et (0,0))) (O':=O) (id:=id) ab N hF (zs:=A++y::r) (by simp) (blk:=B id) (cap:=hc id)
        ⟨rfl,rfl,rfl,by rw[zCw];omega,fun b cs b3=>qU (fun hh=>b3 (by grind)),ai _⟩ (fun b=>by
         grind) (.inl bk) (by grind[zCw]) (by grind) (fun j a5 b4 E=>by
         have h1:B j≠B id:=fun hh=>b4 (N.dist j id a5 A E Y hh)
         grind[qU]) (fun _=>⟨A,Y⟩)
       simpa using this
      .obtain⟨a0,bn,old,bo,a6,bs,Z,ax⟩:=zIj (P:=P) (w:=w) (F:=F) (β:=⟨fun _=>B id,fun _=>B id⟩) (al:=fun _=>True) (x:=.ow 0 g.size (A.map t.enc)) (v:=.slice (Sa ⟨B id,0,Sb⟩) A.length (hc id)) (k:=g.size)
        ⟨trivial,hc id,by simp,cc,et,g1,g2,by simpa using g3,g4,fun i j e d x u E hx=>(g5 i j e d x u E hx).mono (fun _ h=>h.elim) (fun _ h=>h.elim)⟩ rfl g4
       simp only[aK]at bo a6 bs Z;have b5:bn=hc id:=by grind
       have b6:a0=Sa ⟨B id,0,Sb⟩:=by grind
       subst b5 b6
       obtain⟨f,ao,l⟩:=run_append_grow (P:=P) (w:=w) (ts:=ts) (ty:=ty) (len:=A.length) (cap:=hc id) (n:=(y::r).length) (cap1:=C) (a0:=some ⟨B id,0,Sb⟩) (a1:=a1) (cells:=cells) (old:=old) Q S ap av I hz
        (by rw[<-M];exact J w.drew rfl) (Z w.drew rfl) G bb L
       rw[<-M]at l;refine⟨_,_,l,?_⟩
       have D:=zJF (w':=w.drew.alloc (.cells (old.toArray++(cells.toArray++Ad z.cells (f- (A.length+(y::r).length)))) el)) (F:=F) (b:=w.heap.size) (k:=g.size) (cap:=f) (es:=A.map t.enc) (es2:=(y::r).map t.enc) (et:=el) (old:=old) (cells:=cells) (rest:=Ad z.cells (f- (A.length+(y::r).length)))
        g4 W (by simpa using bs) K (fun i j e d u E=>by
         obtain⟨x,hx,a3⟩:=ax i j e d u E;simp at u;obtain⟨y0,_,rfl⟩:=u
         grind[zFQ,Ac]) (fun i j e d u E=>by
         obtain⟨x,hx,a3⟩:=an i j e d u E;simp only[aA,ak]at u;obtain⟨y0,_,rfl⟩:=u
         grind[zFQ,Ac]) (by simpa using ao) (by grind) (zBi (w:=w.drew))
       rw[<-bw,<-ad]at D
       have:=zLK (w':=w.drew.alloc (.cells (old.toArray++(cells.toArray++Ad z.cells (f- (A.length+(y::r).length)))) el)) (O':=fun b=>b=w.heap.size\/(O b/\b≠B id)) (id:=id) ab N hF (zs:=A++y::r) (by simp) (blk:=w.heap.size) (cap:=f)
        ⟨rfl,rfl,rfl,by simp,fun b B _=>kM (w:=w.drew) B,cW _⟩ (fun b=>by
         grind) (.inr (ai _)) (by simp) (by omega) (fun j a5 _ E=>by
         have hlt:=(v8 t).inb (⟨B,hc,N⟩:(v8 t).R st F O w) _ (N.row j a5 E).2.1
         exact⟨by omega,kM (w:=w.drew) hlt⟩) (fun _=>⟨A,Y⟩)
       simpa using this
    .cases h
   .cases h
end
def zU.addH{t:Ty}(S:zU (v8 t)):zU (v8 t):=fun f s a=>
 match Aa f zAq with
 |true=>match a with
  |[.bot,.rf q,.tl c ys,.val (.int _ b)]=>match zDS c t ys with
   |.some d=>.some ⟨HSt t×Option (Nat×Nat),zNO b.toNat s q d,fun y=>y.1,fun y=>.p (.rf y.2),Sd⟩
   |.none=>S f s a
  |_=>S f s a
 |false=>S f s a
theorem zPz{t:Ty}{P:Program}{G:Nat->Option (List V)}{S:zU (v8 t)}(n:qK (v8 t) P G S.toS)(ab:t.flat=Sc)(H:P.funcs[zAq]?=Sb):
  qK (v8 t) P G S.addH.toS:=by
 have I:∀g,g≠zAq->S.addH.toS g=S.toS g:=by
  intro g z;funext s a
  have:Aa g zAq=false:=by
   grind[Ab,zAq,absurd]
  simp[zU.toS,zU.addH,this]
 have E:∀(s:HSt t) (a:List V) r,S.addH.toS zAq s a=Sa r->S.toS zAq s a=Sa r\/
   ∃q i x k b,a=[.bot,.rf q,.tl t i,.val (.int k b)]/\∃B,zNO b.toNat s q i=Sa (x,B)/\r=(x,.p (.rf B)):=by
  intro s a r h;have ht:Aa zAq zAq=true:=ci _;simp[zU.toS,zU.addH]at h;split at h
  .rename_i c hc;split at hc
   .rename_i q A i k b
    cases C:zDS A t i with
    |none=>grind[zU.toS]
    |some x=>rw[C]at hc;obtain⟨y,hz⟩:=u9 (uY C);subst y;subst hz;simp at hc;rw[<-hc]at h;simp only[ak]at h;obtain⟨⟨e,B⟩,M,N⟩:=h;exact .inr ⟨q,i,e,k,b,rfl,B,M,N.symm⟩
   grind[zU.toS]
  .cases h
 refine⟨?_,?_,?_,?_⟩
 .intro g;by_cases z:g=zAq
  .subst z;intro w F O s j a s' r a1 a2 a3 Q W a6;rcases E s a _ a6 with h|⟨q,i,x,k,b,rfl,_⟩
   .exact n.ok zAq w F O s j a s' r a1 a2 a3 Q W h
   .exfalso;have h0:0<j.size:=by rw[Q];simp
    have J:∀u:Value,¬Rd w F u .bot:=fun u h=>by cases h
    exact J _ (W 0 j[0] .bot (by simp[h0]) rfl)
  .rw[I g z];exact n.ok g
 .intro g s a r K m;by_cases z:g=zAq
  .subst z;rcases E s a _ K with h|⟨q,i,x,k,b,rfl,_⟩
   .exact n.is _ s a r h m
   grind
  .rw[I g z]at K;exact n.is g s a r K m
 .intro _ st q A i bytes e d h;rcases E _ _ _ h with h|⟨q0,L,x,k,b,l,B,M,N⟩
  .exact n.app H st q A i bytes e d h
  .simp at l;obtain⟨rfl,⟨y,D⟩,rfl,rfl⟩:=l;subst y;have D:=eq_of_heq D
   grind[Int.toNat_natCast,qFH]
 .intro f st A Y a e i d h;by_cases Z:f=zAq
  .subst Z;rcases E _ _ _ h with h|⟨q0,L,x,k,b,l,_⟩
   .exact n.bor _ st A Y a e i d h
   .simp at l
  .rw[I f Z]at h;exact n.bor f st A Y a e i d h
section
variable {Γ:Sig}{P:Program}{G:Nat->Option (List V)}
noncomputable def qD7(L:j6)(G:Nat->Option (List V))(S:zU Γ)(A:Nat->Option JA)(fn:Func)(c:Code)(R:RTy)(s:Γ.St)(ds:List V):Option (Γ.St×R.El):=
 zEC (start fn.ntmps s ds) (fun e=>exC L G S A c (Γ.St×R.El) (fun k a _=>match k with
  |.exit _=>Sb
  |_=>match zDP L a fn with
   |some r=>match R.get r with
    |some y=>Sa (a.st,y)
    |none=>Sb
   |none=>Sb) e 0)
def zBQ{X:Type}(dec:List V->Option X)(R:RTy)(g:Γ.St->X->Option (Γ.St×R.El)):Γ.St->List V->Option (zER Γ.St):=fun s a=>
 match dec a with
 |some x=>Sa ⟨Γ.St×R.El,g s x,fun y=>y.1,fun y=>R.res y.2,R.pl⟩
 |none=>Sb
variable {g:Nat->Option JA}
theorem zUd{S:zU Γ}(ab:∀k j,g k=Sa j->zDO j.sl=Sc)(E:P.follows .mixedOrders=Sc)(hS:qK Γ P G S.toS){f:FuncId}{fn:Func}{c:Code}(hf:P.funcs[f]?=Sa fn)(hb:fn.body=Sa c){X:Type}{dec:List V->Option X}{enc:X->List V}(H:∀ds x,dec ds=Sa x->kW ds (enc x)){R:RTy}{A:Γ.St->X->Option (Γ.St×R.El)}(h:∀s x,qD7 (Γ:=Γ) P G S g fn c R s (enc x)=A s x):zLF Γ P G f (z7 (zBQ dec R A)):=by
 intro w F O s l ds s' r I hG hF J ad e;simp[z7,zBQ]at e;split at e
 .rename_i cx B;split at B
  .rename_i x K;cases B;simp only[ak]at e;obtain⟨⟨s1,y⟩,hy,L⟩:=e;simp at L;obtain⟨rfl,rfl⟩:=L;have M:=H ds x K;have C:l.size=(enc x).length:=J.trans M.len
   have N:∀(i:Nat) (u:Value) (d:V),l[i]?=Sa u->(enc x)[i]?=Sa d->Rd w F u d:=by
    intro i u d hu hd;have hlt:i<ds.length:=by grind
    exact M.get i ds[i] d (by simp[hlt]) hd w F u (ad i u ds[i] hu (by simp[hlt]))
   have m:=h s x;rw[hy]at m;unfold qD7 at m;rw[yD]at m;obtain⟨k,e',d,ag,_,a⟩:=zHW (fun k j hj=>.inr (ab k j hj)) E hS c _ _ _ _ _ m
   have hk:(k=.normal\/k=.ret)/\(match zDP (j6.of P) e' fn with
    |some r=>match R.get r with
     |some y=>Sa (e'.st,y)
     |none=>Sb
    |none=>Sb)=Sa (s1,y):=by
    cases k with
    |normal=>grind
    |ret=>grind
    |exit id=>cases a
   obtain⟨hk,a⟩:=hk;split at a
   .rename_i r' an;split at a
    .rename_i y' ao;simp at a;obtain⟨rfl,rfl⟩:=a;refine calls_of_wp hf hb ?_
     have vA:∀t,zY w F ⟨fun _=>0,fun _=>0⟩ (fun _=>False) ((l++Ae (fn.ntmps-l.size) undef).getD t undef) ((start fn.ntmps s (enc x)).get t):=by
      intro t;simp[start,zIi,Env.get];by_cases ht:t< (enc x).length
      .rw[aT (by simpa using ht),bh (by omega)];rw[aA,ah ht,aD (by omega)];exact N t _ _ (by grind) (by simp[ht])
      .rw[aF (by grind),bu (by omega),C];simp;by_cases q:t- (enc x).length<fn.ntmps- (enc x).length
       .rw[bc,if_pos q,bJ,if_pos q];exact Rd.val _
       .rw[bc,if_neg q];trivial
     have Y:∀s0,(start fn.ntmps s (enc x)).var s0=none:=by
      grind[start,Env.var]
     have Q:Inv Γ G w F O { tmps:=l++Ae (fn.ntmps-l.size) undef,defers:=[] } w (start fn.ntmps s (enc x)):=by refine Inv.of (F:=F) (O:=O) (β:=⟨fun _=>0,fun _=>0⟩) (al:=fun _=>False) ⟨xC.refl _ w,I,fun b hb=>.inl hb,fun b hb=>⟨.inl hb,hF b hb⟩,.refl _ _,fun x K=>K.elim,fun x y K=>K.elim,fun b n h=>by cases h⟩ hG ?_ rfl vA ?_ (fun s h=>h.elim);all_goals grind[start,zIi]
     refine wp_mono (ag w F O _ w Q) ?_;rintro ex a' w' ⟨rfl,W⟩;obtain⟨v,F',O',h1,q,h3,h4,h5,h6,h7⟩:=zO2 rfl W an;have p:a'.defers=[]:=by obtain⟨_,_,_,_,_,_,p,_⟩:=W;exact p
     obtain⟨D,g1,gh,g2,g3⟩:=RTy.get_sound ao h7;have q:=Γ.mono q gh (fun _ _=>rfl) (fun _ _ h=>⟨g1 _ h,rfl⟩)
     have z:∀b:Nat,D b->(F b\/w.heap.size<=b)/\b<w'.heap.size/\¬O' b:=by
      grind
     rcases hk with rfl|rfl
     .exact⟨p,v,h1,v,D,O',rfl,q,h3,h4,h5.trans (.of_reg g1 gh) (ai _),z,g3⟩
     .exact⟨p,v,h1,v,D,O',rfl,q,h3,h4,h5.trans (.of_reg g1 gh) (ai _),z,g3⟩
    .cases a
   .cases a
  .cases B
 .cases e
theorem qDY[Calm Γ]{S:zU Γ}(e:∀k j,g k=Sa j->zDO j.sl=Sc)(a:P.follows .mixedOrders=Sc)(i:qK Γ P G S.toS){f:FuncId}{fn:Func}{c:Code}(l:P.funcs[f]?=Sa fn)(hb:fn.body=Sa c){X:Type}{dec:List V->Option X}{enc:X->List V}(d:∀ds x,dec ds=Sa x->kW ds (enc x)){R:RTy}{A:Γ.St->X->Option (Γ.St×R.El)}(h:∀s x,qD7 (Γ:=Γ) P G S g fn c R s (enc x)=A s x):jJ Γ P G f (z7 (zBQ dec R A)):=
 (zUd e a i l hb d h).calm
end
def Ty.norf:Ty->Bool
 |.rf=>Sd
 |.hd=>Sd
 |.pt _=>Sd
 |.pair a b=>a.norf&&b.norf
 |.sl t=>t.norf
 |_=>Sc
variable {g:World}
theorem zFq{F F':Blk->Prop}(z:∀b:Nat,F b->F' b):∀(t:Ty) (_:t.norf=Sc) (x:t.El) (v:Value) (d:V),d∈t.cells x->Rd g F v d->Rd g F' v d:=by
 intro t
 induction t with
 |int k=>intro _ x v d hd h;simp[Ty.cells]at hd;subst hd;rw[Rd.eq_val h];exact .val _
 |bool=>intro _ x v d hd h;simp[Ty.cells]at hd;subst hd;rw[Rd.eq_val h];exact .val _
 |str=>intro _ x v d hd h;simp[Ty.cells]at hd;subst hd;rw[Rd.eq_val h];exact .val _
 |unit=>grind[Ty.cells]
 |rf=>grind[Ty.norf]
 |hd=>grind[Ty.norf]
 |pt t=>grind[Ty.norf]
 |pair a b A B=>
  intro m x v d hd h;simp[Ty.norf]at m
  grind[Ty.cells]
 |sl t C=>
  intro m x v d hd h;simp[Ty.cells]at hd;subst hd;refine .tl t x v ?_;have h:=h.untl;generalize n:x.map t.enc=D at h
  cases h with
  |slemp a c=>exact .slemp a c
  |sl b p c k _ w q l E H I=>refine .sl b p c k D w (z b q) l E H ?_;intro i j e r u J;have f:=u;rw[<-n]at f;simp at f;obtain⟨y,_,rfl⟩:=f;exact C m y _ r (by grind[jM,Ac]) (I i j _ r u J)
theorem zA6{F F':Blk->Prop}(w:∀b:Nat,F b->F' b){t:Ty}(c:t.norf=Sc){x:t.El}{v:Value}(h:Rd g F v (t.enc x)):Rd g F' v (t.enc x):=by
 cases t with
 |int k=>rw[Rd.eq_val h];exact .val _
 |bool=>rw[Rd.eq_val h];exact .val _
 |str=>rw[Rd.eq_val h];exact .val _
 |rf=>simp[Ty.norf]at c
 |hd=>simp[Ty.norf]at c
 |pt t=>simp[Ty.norf]at c
 |unit=>
  cases h with
  |agg e _ f j=>exact .agg e _ f (fun i x d l hd=>by simp at hd)
 |pair a b=>
  cases h with
  |agg e _ f j=>exact .agg e _ f (fun i u d l hd=>zFq w (.pair a b) c x u d (ae hd) (j i u d l hd))
 |sl t=>exact zFq w (.sl t) c x v _ (by simp[Ty.cells,Ty.enc]) h
theorem zNe{F F':Blk->Prop}(q:∀b:Nat,F b->F' b){t:Ty}(r:t.norf=Sc){b k cap:Nat}{xs:List t.El}(f:qP g F b k cap (xs.map t.enc)):qP g F' b k cap (xs.map t.enc):=by
 obtain⟨c,w,h,l,m,n,u⟩:=f;refine⟨c,w,h,l,m,n,fun i j e d x p z A=>?_⟩;have a:=p;simp at a;obtain⟨y,B,rfl⟩:=a
 grind[zFq,jM,Ac]
def RTy.norf:RTy->Bool
 |.p ty=>ty.norf
 |.o ty=>ty.norf
 |.tu a=>a.all Ty.norf
theorem zH1{w:World}{F F':Blk->Prop}(e:∀b:Nat,F b->F' b):∀(ts:List Ty) (x:ElS ts),ts.all Ty.norf=Sc->∀(i:Nat) (v:Value) (d:V),(yF ts x)[i]?=Sa d->Rd w F v d->Rd w F' v d
 |[],_,_,i,v,d,a,_=>by simp[yF]at a
 |t::ts,x,c,i,v,d,a,h=>by
  simp only[cU,am]at c
  cases i with
  |zero=>simp only[yF,dq,ac]at a;subst a;exact zA6 e c.1 h
  |succ i=>exact zH1 e ts x.2 c.2 i v d (by simpa[yF]using a) h
theorem zWU{N:Nat}{F F':Blk->Prop}{O O':Nat->Prop}(e:∀b:Nat,F b->F' b)(f:∀b:Nat,N<=b->F' b->F b)(q:∀b,N<=b->O' b->O b){R:RTy}(w:R.norf=Sc){y:R.El}{v:Value}(h:zAM N g F O v (R.res y)):zAM N g F' O' v (R.res y):=by
 cases R with
 |p j=>exact zA6 (t:=j) e w h
 |o j=>
  rcases h with h|⟨r,b,l,x,m,z,A,B,k,C⟩
  .exact .inl h
  .exact .inr ⟨r,b,l,x,m,z,fun a=>A (f b m a),fun a=>B (q b m a),k,zNe (t:=j) e w C⟩
 |tu c=>
  have h:Rd g F v (.tup (yF c y)):=h
  cases h with
  |tup D _ E a=>exact .tup D _ E (fun i u d H n=>zH1 e c y w i u d n (a i u d H n))
def zIY(F:Blk->Prop):Blk->Prop
 |.b n=>F (.b n)
 |_=>False
theorem zHK(F:Blk->Prop):NoK (zIY F):=⟨fun _ _ _ h=>h,fun _ h=>h⟩
def zQu(F F':Blk->Prop):Blk->Prop
 |.b n=>F' (.b n)
 |x=>F x
theorem zB3(F F':Blk->Prop)(x:Blk)(a:x.isB=Sd):zQu F F' x↔F x:=by
 cases x with
 |b n=>cases a
 |_=>exact cI
def qAe{X:Type}(dec:List V->Option X):Prop:=
 ∀c x,dec c=Sa x->∃a,dec a=Sa x/\a.length=c.length/\∀(w:World) (F F':Blk->Prop),(∀b:Nat,F b->F' b)->∀(i:Nat) (v:Value) (d e:V),c[i]?=Sa d->a[i]?=Sa e->Rd w F v d->Rd w F' v e
theorem zHV{Γ:Sig}{P:Program}{G:Nat->Option (List V)}(I:∀g,G g=Sb){f:FuncId}{X:Type}{dec:List V->Option X}(J:qAe dec){R:RTy}{g:X->Option R.El}(K:R.norf=Sc)
  (h:jJ jT P G f (z7 (vR dec R g))):jJ Γ P G f (z7 (vR dec R g)):=by
 intro w F O s l C Z r c hG q m L a;simp[z7,vR]at a
 cases D:dec C with
 |none=>grind
 |some x=>
  rw[D]at a;simp at a;obtain⟨y,M,rfl,rfl⟩:=a;obtain⟨t,u,z,E⟩:=J C x D
  have k:=h w (zIY F) (fun _=>False) () l t () (R.res y) ⟨fun _ h=>h,zHK F⟩ (fun g cs hg=>by grind) (fun b hb=>⟨(q b hb).1,fun h=>h⟩) (m.trans z.symm)
   (fun i v d hi N=>by
    grind[List.getElem?_eq_some_iff,zIY]) (by simp[z7,vR,u,M])
  refine k.mono ?_;rintro e Q ⟨v,F',O',rfl,g1,j,g3,H,S,W⟩;have A:∀b,O b->Q.heap[b]?=w.heap[b]? :=fun b hb=>j.block b (Γ.inb c b hb) (fun h=>h)
  refine⟨v,zQu F F',O,rfl,Γ.mono c (zB3 F F') A (fun n _ hb=>⟨H.1 (.b n) hb,j.block n (q n hb).1 (fun h=>h)⟩),⟨j.os,j.tape,j.output,j.size,fun b hb _=>j.block b hb (fun h=>h),j.drawn⟩,fun b hb=>.inl hb,
   .of_reg (fun b hb=>?_) (zB3 F F'),?_,?_⟩
  .cases b with
   |b n=>exact H.1 (.b n) hb
   |_=>exact hb
  .intro b hb;obtain⟨p,Y,_⟩:=S b hb;refine⟨p,Y,fun B=>?_⟩;rcases p with p|p
   .exact(q b p).2 B
   grind
  .exact zWU (F:=F') (F':=zQu F F') (fun b hb=>hb) (fun b _ hb=>hb) (fun b hb B=>by have:=Γ.inb c b B;omega) K W
@[reducible] def x4(tE:Ty):Ty->Ty
 |.rf=>.sl tE
 |.hd=>.hd
 |.pt t=>.pt t
 |.pair a b=>.pair (x4 tE a) (x4 tE b)
 |.sl t=>.sl (x4 tE t)
 |.int k=>.int k
 |.bool=>.bool
 |.str=>.str
 |.unit=>.unit
def zCn{α β:Type}(f:α->Option β):List α->Option (List β)
 |[]=>Sa []
 |x::r=>match f x,zCn f r with
  |some y,Sa a=>Sa (y::a)
  |_,_=>Sb
def zBP{tE:Ty}(st:HSt tE):(t:Ty)->t.El->Option (x4 tE t).El
 |.rf,o=>match o with
  |none=>Sa []
  |some (id,_)=>match st[id]? with
   |some (Sa c)=>Sa c
   |_=>Sb
 |.hd,_=>Sb
 |.pt _,_=>Sb
 |.pair a b,x=>match zBP st a x.1,zBP st b x.2 with
  |some y,Sa z=>Sa (y,z)
  |_,_=>Sb
 |.sl t,c=>zCn (zBP st t) c
 |.int _,x=>Sa x
 |.bool,x=>Sa x
 |.str,x=>Sa x
 |.unit,x=>Sa x
theorem zB4{α β:Type}{f:α->Option β}:∀{xs:List α} {a:List β},zCn f xs=Sa a->xs.length=a.length/\∀(i:Nat) (y:β),a[i]?=Sa y->∃x,xs[i]?=Sa x/\f x=Sa y
 |[],a,h=>by simp only[zCn,ac]at h;grind
 |x::r,a,h=>by
  simp only[zCn]at h;split at h
  .rename_i y d e c;cases h;obtain⟨g,j⟩:=zB4 c
   grind
  .cases h
theorem zCu(tE:Ty):∀t:Ty,(x4 tE t).size=t.size
 |.rf=>rfl
 |.hd=>rfl
 |.pt _=>rfl
 |.pair a b=>by simp_all[zCu,Ty.size]
 |.sl _=>rfl
 |.int _=>rfl
 |.bool=>rfl
 |.str=>rfl
 |.unit=>rfl
section
variable {tE:Ty}{st:HSt tE}{F F':Blk->Prop}{O:Nat->Prop}{w:World}{hb hc:Nat->Nat}
theorem zOs(h:qAd tE st F O w hb hc)(hF:∀b:Nat,F b->F' b)(hO:∀b,O b->F' (.b b)):∀(t:Ty) (x:t.El) (y:(x4 tE t).El),zBP st t x=Sa y->
  ∀(i:Nat) (v:Value) (d q:V),(t.cells x)[i]?=Sa d->((x4 tE t).cells y)[i]?=Sa q->Rd w F v d->Rd w F' v q:=by
 intro t
 induction t with
 |int k=>
  intro x y f i v d q hd l m;obtain rfl:x=y:=aX f;have:=hd.symm.trans l;cases this
  cases i with
  |zero=>cases hd;rw[Rd.eq_val m];exact .val _
  |succ i=>simp[Ty.cells]at hd
 |bool=>
  intro x y f i v d q hd l m;obtain rfl:x=y:=aX f;have:=hd.symm.trans l;cases this
  cases i with
  |zero=>cases hd;rw[Rd.eq_val m];exact .val _
  |succ i=>simp[Ty.cells]at hd
 |str=>
  intro x y f i v d q hd l m;obtain rfl:x=y:=aX f;have:=hd.symm.trans l;cases this
  cases i with
  |zero=>cases hd;rw[Rd.eq_val m];exact .val _
  |succ i=>simp[Ty.cells]at hd
 |unit=>grind[Ty.cells]
 |hd=>intro x y f;cases f
 |pt t=>intro x y f;cases f
 |rf=>
  intro x y f i v d q hd l m
  cases i with
  |succ i=>simp[Ty.cells]at hd
  |zero=>
   simp[Ty.cells]at hd;simp[Ty.cells]at l;subst hd l
   cases m with
   |rfn=>
    obtain rfl:([]:List tE.El)=y:=aX f;exact .tl tE [] _ (.slemp Sb 0)
   |rf id a n c hh=>
    simp only[zBP]at f;split at f
    .rename_i H B;obtain rfl:H=y:=aX f;obtain⟨rfl,rfl,rfl⟩:=(h.hdl id H B _ _ _).1 hh;obtain⟨_,W,h3⟩:=h.row id H B;refine .tl tE H _ ?_;have:=zHu (F':=F') h3 (fun _ h=>h.elim) (hO _ W);simpa using this
    .cases f
 |pair a b ab ad=>
  intro x y f i v d q hd l m;simp only[zBP]at f;split at f
  .rename_i y1 y2 h1 W;obtain rfl:(y1,y2)=y:=aX f;simp only[Ty.cells]at hd l
   grind[List.getElem?_append_left,kQ,zCu,List.getElem?_append_right]
  .cases f
 |sl t ih=>
  intro x y f i v d q hd l m
  cases i with
  |succ i=>simp[Ty.cells]at hd
  |zero=>
   simp[Ty.cells]at hd;simp[Ty.cells]at l;subst hd l;obtain⟨C,vA⟩:=zB4 (show zCn (zBP st t) x=Sa y from f);refine .tl (x4 tE t) y v ?_;have D:=m.untl;clear m;generalize K:x.map t.enc=es at D
   cases D with
   |slemp a u=>
    have z:x=[]:=by simpa using K
    subst z;have p:y=[]:=aJ C.symm;subst p;exact .slemp a u
   |sl b L u k _ g M r hk Y m=>
    have N:es.length=(y.map (x4 tE t).enc).length:=by grind
    rw[N]at Y r ⊢
    have Q:∀e,e∈y.map (x4 tE t).enc->e.cells.length=k:=by
     intro e Z;simp at Z;obtain⟨I,p,rfl⟩:=Z;rw[wZ,zCu];obtain⟨j,J⟩:=bQ p;obtain⟨A,z,_⟩:=vA j I J;have:=hk (t.enc A) (by grind)
     grind[wZ]
    refine .sl b L u k _ g (hF b M) r Q Y ?_;intro i j e q hi J;simp at hi;obtain⟨I,p,rfl⟩:=hi;obtain⟨A,z,E⟩:=vA i I p;rw[jM]at J
    have S:j< (t.cells A).length:=by
     grind[List.getElem?_eq_some_iff,kQ,zCu]
    refine ih A I E j _ (t.cells A)[j] q (by simp[S]) J (m i j (t.enc A) _ (by grind) (by grind[jM]))
theorem qAj(h:qAd tE st F O w hb hc)(n:∀b:Nat,F b->F' b)(p:∀b,O b->F' (.b b))(t:Ty)(x:t.El)(y:(x4 tE t).El)(c:zBP st t x=Sa y){v:Value}(g:Rd w F v (t.enc x)):Rd w F' v ((x4 tE t).enc y):=by
 have one:∀(_:t.enc x=(t.cells x)[0]?.getD .bot) (_:(x4 tE t).enc y=((x4 tE t).cells y)[0]?.getD .bot) (_:0<t.size),Rd w F' v ((x4 tE t).enc y):=by
  intro z A j;have B:0< (t.cells x).length:=by rw[kQ];exact j
  have C:0< ((x4 tE t).cells y).length:=by rw[kQ,zCu];exact j
  grind[List.getElem?_eq_getElem,zOs]
 cases t with
 |int k=>exact one rfl rfl Ag
 |bool=>exact one rfl rfl Ag
 |str=>exact one rfl rfl Ag
 |rf=>exact one rfl rfl Ag
 |hd=>exact one rfl rfl Ag
 |pt t=>exact one rfl rfl Ag
 |sl t=>exact one rfl rfl Ag
 |unit=>
  cases g with
  |agg e _ f l=>exact .agg e _ f (fun i x d m hd=>by simp at hd)
 |pair a b=>
  cases g with
  |agg e _ f l=>
   have q:(a.cells x.1++b.cells x.2).length=(Ty.pair a b).size:=kQ (.pair a b) x;have r:(((x4 tE a).cells y.1)++((x4 tE b).cells y.2)).length=(x4 tE (Ty.pair a b)).size:=kQ (x4 tE (Ty.pair a b)) y;refine .agg e _ (by rw[f,q,r,zCu]) ?_;intro i u d m hd
   have hlt:i< (a.cells x.1++b.cells x.2).length:=by
    grind
   exact zOs h n p (.pair a b) x y c i u _ d (by grind[List.getElem?_eq_getElem,Ty.cells]) hd (l i u _ m (ah hlt))
end
end Go.Ve

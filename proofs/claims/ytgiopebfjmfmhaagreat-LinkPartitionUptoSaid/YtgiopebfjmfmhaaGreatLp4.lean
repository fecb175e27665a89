/- law16 -/
import Derived.Orders
import Derived.Below
import Derived.KernelRfl
import Derived.IntWalk
import Derived.Test.YtgiopebfjmfmhaaGreatLp1
set_option linter.unusedVariables false
open Option renaming some->Sa,none->Sb
open Bool renaming false->Sc,true->Sd
open Go.Value renaming cells->Aa
open Go.Builtin renaming len_->Ab
open Go.Instr renaming loadAt->Ac,indexAt->Ad,sureAddr->Ae,fieldAt->Af,checkKey->Ag,findKey->Ah
namespace Go.Ve
open Go
inductive Ty where
 |int (k:IntKind)
 |bool
 |str
 |unit
 |pair (a b:Ty)
 |sl (t:Ty)
 |rf
 |hd
 |pt (t:Ty)
 deriving DecidableEq
@[reducible] def Ty.El:Ty->Type
 |.int _=>Int
 |.bool=>Bool
 |.str=>ByteArray
 |.unit=>Unit
 |.pair a b=>a.El×b.El
 |.sl t=>List t.El
 |.rf=>Option (Nat×Nat)
 |.hd=>Nat
 |.pt t=>Option (Nat×t.El)
inductive V where
 |val (v:Value)
 |agg (cs:List V)
 |sl (es:List V)
 |tup (vs:List V)
 |clo (f:FuncId) (caps:List V)
 |pp (cs:List V)
 |tl (t:Ty) (xs:List t.El)
 |rf (o:Option (Nat×Nat))
 |hd (id:Nat)
 |pt (t:Ty) (o:Option (Nat×t.El))
 |hp (cs:List V)
 |bot
def Ty.cells:(t:Ty)->t.El->List V
 |.int k,n=>[.val (.int k n)]
 |.bool,b=>[.val (.bool b)]
 |.str,s=>[.val (.string s)]
 |.unit,_=>[]
 |.pair a b,x=>a.cells x.1++b.cells x.2
 |.sl t,xs=>[.tl t xs]
 |.rf,o=>[.rf o]
 |.hd,n=>[.hd n]
 |.pt t,o=>[.pt t o]
def Ty.enc:(t:Ty)->t.El->V
 |.int k,n=>.val (.int k n)
 |.bool,b=>.val (.bool b)
 |.str,s=>.val (.string s)
 |.unit,_=>.agg []
 |.pair a b,x=>.agg (a.cells x.1++b.cells x.2)
 |.sl t,xs=>.tl t xs
 |.rf,o=>.rf o
 |.hd,n=>.hd n
 |.pt t,o=>.pt t o
def Ty.size:Ty->Nat
 |.unit=>0
 |.pair a b=>a.size+b.size
 |_=>1
def V.cells:V->List V
 |.agg a=>a
 |d=>[d]
def V.isVal:V->Bool
 |.val _=>Sd
 |_=>Sc
def V.leaf:V->Value
 |.val v=>v
 |_=>undef
def V.toVal1:V->Option Value
 |.val v=>Sa v
 |.agg a=>if a.all V.isVal then Sa (.agg (a.map V.leaf).toArray)else Sb
 |_=>Sb
def V.toVal:V->Option Value
 |.tup a=>if a.all (fun d=>d.toVal1.isSome)then Sa (.tuple (a.map (fun d=>d.toVal1.getD undef)).toArray)else Sb
 |d=>d.toVal1
def V.ofVal1:Value->V
 |.agg a=>.agg (a.toList.map .val)
 |v=>.val v
def V.ofVal:Value->V
 |.tuple a=>.tup (a.toList.map V.ofVal1)
 |v=>V.ofVal1 v
inductive Blk where
 |b (n:Nat)
 |h (id:Nat) (a:Option Addr) (n c:Nat)
 |k (id b:Nat) (cs:List V)
 |s (n:Nat)
def Blk.isB:Blk->Bool
 |.b _=>Sd
 |_=>Sc
instance:Coe Nat Blk:=⟨Blk.b⟩
variable {i:Nat}
theorem zCq{b:Nat}(h:Blk.b i=Blk.b b):i=b:=by cases h;rfl
variable {g:Blk->Prop}
theorem zSN(x:Blk)(a:x.isB=Sc):(g x\/x=Blk.b i)↔g x:=
 ⟨fun h=>h.resolve_right (fun h=>by subst h;cases a),.inl⟩
def zFM(N:Nat)(F F':Blk->Prop):Prop:=(∀b,F b->F' b)/\∀n,F' (.s n)->F (.s n)\/N<=n
variable {l:Blk->Prop}
theorem zFM.of_reg(h:∀b,g b->l b)(a:∀x:Blk,x.isB=Sc->(l x↔g x)):zFM i g l:=⟨h,fun n c=>.inl ((a _ rfl).1 c)⟩
theorem zFM.refl(N:Nat)(F:Blk->Prop):zFM N F F:=⟨fun _ h=>h,fun _ h=>.inl h⟩
theorem zFM.addB(N:Nat)(F:Blk->Prop)(m:Nat):zFM N F (fun x=>F x\/x=Blk.b m):=⟨fun _ h=>.inl h,fun _ h=>h.elim .inl (fun h=>by cases h)⟩
def zBU(p:Prop)(N:Nat)(F F':Blk->Prop):Prop:=(∀b,F b->F' b)/\∀n,F' (.s n)->F (.s n)\/N<=n\/(p/\F (.b n))
variable {J:Prop}
theorem zFM.w{F F':Blk->Prop}(h:zFM i F F'):zBU J i F F':=⟨h.1,fun n a=>(h.2 n a).elim .inl (fun h=>.inr (.inl h))⟩
theorem zBU.no(hp:¬J)(h:zBU J i g l):zFM i g l:=⟨h.1,fun n a=>(h.2 n a).elim .inl (fun h=>h.elim .inr (fun h=>absurd h.1 hp))⟩
theorem zBU.of_reg{p:Prop}{N:Nat}{F F':Blk->Prop}(h:∀b,F b->F' b)(a:∀x:Blk,x.isB=Sc->(F' x↔F x)):zBU p N F F':=(zFM.of_reg h a).w
theorem zBU.refl{p:Prop}(N:Nat)(F:Blk->Prop):zBU p N F F:=(zFM.refl N F).w
theorem zBU.trans{d:Nat}{a:Blk->Prop}(h:zBU J i g l)(k:zFM d l a)(e:i<=d):zBU J i g a:=
 ⟨fun b hb=>k.1 b (h.1 b hb),fun n c=>(k.2 n c).elim (fun c=>h.2 n c) (fun c=>.inr (.inl (aj e c)))⟩
theorem zBU.to{q:Prop}(hp:¬J)(h:zBU J i g l):zBU q i g l:=(h.no hp).w
def qDv(N:Nat):Blk->Prop
 |.b n=>n<N
 |_=>False
def qHB(N:Nat):Blk->Prop
 |.b n=>N<=n
 |.s n=>N<=n
 |_=>True
inductive Rd(w:World)(F:Blk->Prop):Value->V->Prop
 |val (v:Value):Rd w F v (.val v)
 |agg (cs:Array Value) (ds:List V) (hl:cs.size=ds.length)
   (h:∀(i:Nat) (x:Value) (d:V),cs[i]?=Sa x->ds[i]?=Sa d->Rd w F x d):Rd w F (.agg cs) (.agg ds)
 |tup (cs:Array Value) (ds:List V) (hl:cs.size=ds.length)
   (h:∀(i:Nat) (x:Value) (d:V),cs[i]?=Sa x->ds[i]?=Sa d->Rd w F x d):Rd w F (.tuple cs) (.tup ds)
 |slemp (a:Option Addr) (cap:Nat):Rd w F (.slice a 0 cap) (.sl [])
 |sl (b off cap k:Nat) (es:List V) (g:Nat->Value) (hF:F b) (hcap:es.length<=cap) (hk:∀e,e∈es->e.cells.length=k)
   (hg:∀m,m<es.length*k->w.cell? ⟨b,off+m,Sb⟩=Sa (g m))
   (hr:∀(i j:Nat) (e d:V),es[i]?=Sa e->e.cells[j]?=Sa d->Rd w F (g (i*k+j)) d):
   Rd w F (.slice (Sa ⟨b,off,Sb⟩) es.length cap) (.sl es)
 |clo (f:FuncId) (cs:Array Value) (ds:List V) (hl:cs.size=ds.length)
   (h:∀(i:Nat) (x:Value) (d:V),cs[i]?=Sa x->ds[i]?=Sa d->Rd w F x d):Rd w F (.func (.func f) #[] cs) (.clo f ds)
 |pp (b off:Nat) (cs:List V) (g:Nat->Value) (hF:F b)
   (hg:∀m,m<cs.length->w.cell? ⟨b,off+m,Sb⟩=Sa (g m))
   (hr:∀(m:Nat) (d:V),cs[m]?=Sa d->Rd w F (g m) d):Rd w F (.pointer (Sa ⟨b,off,Sb⟩)) (.pp cs)
 |tl (t:Ty) (xs:List t.El) (v:Value) (h:Rd w F v (.sl (xs.map t.enc))):Rd w F v (.tl t xs)
 |rfn:Rd w F (.slice Sb 0 0) (.rf Sb)
 |rf (id:Nat) (a:Option Addr) (n c:Nat) (h:F (.h id a n c)):Rd w F (.slice a n c) (.rf (Sa (id,n)))
 |hd (id:Nat) (a:Addr) (h:F (.h id (Sa a) 0 0)):Rd w F (.pointer (Sa a)) (.hd id)
 |ptn (t:Ty):Rd w F (.pointer Sb) (.pt t Sb)
 |pt (t:Ty) (id b:Nat) (x:t.El) (h:F (.k id b (t.cells x))):Rd w F (.pointer (Sa ⟨b,0,Sb⟩)) (.pt t (Sa (id,x)))
 |hp (id b off:Nat) (cs cs':List V) (h:F (.k id b cs')) (hc:∀(m:Nat) (d:V),cs[m]?=Sa d->cs'[off+m]?=Sa d):Rd w F (.pointer (Sa ⟨b,off,Sb⟩)) (.hp cs)
variable {I:V}{j:Value}{C:World}
theorem Rd.mono{w:World}(h:Rd w g j I)(p:∀b,g b->l b)(B:∀b:Nat,g b->C.heap[b]?=w.heap[b]?):Rd C l j I:=by
 induction h with
 |val j=>exact .val j
 |agg v q r _ e=>exact .agg v q r e
 |tup v q r _ e=>exact .tup v q r e
 |slemp a F'=>exact .slemp a F'
 |sl b i F' k w' F hb u D y _ e=>
  exact .sl b i F' k w' F (p b hb) u D (fun m z=>(World.cell?_of_block (w:=w) (B b hb)).trans (y m z)) e
 |clo f v q r _ e=>exact .clo f v q r e
 |pp b i v F hb y _ e=>exact .pp b i v F (p b hb) (fun m z=>(World.cell?_of_block (w:=w) (B b hb)).trans (y m z)) e
 |tl t xs j _ e=>exact .tl t xs j e
 |rfn=>exact .rfn
 |rf id a n c h=>exact .rf id a n c (p _ h)
 |hd id a h=>exact .hd id a (p _ h)
 |ptn t=>exact .ptn t
 |pt t id b x h=>exact .pt t id b x (p _ h)
 |hp id b i v A h E=>exact .hp id b i v A (p _ h) E
theorem jM(t:Ty)(x:t.El):(t.enc x).cells=t.cells x:=by cases t<;>rfl
theorem kQ(t:Ty)(x:t.El):(t.cells x).length=t.size:=by
 induction t with
 |pair a b c d=>grind[Ty.cells,Ty.size]
 |_=>rfl
theorem wZ(t:Ty)(x:t.El):(t.enc x).cells.length=t.size:=by rw[jM,kQ]
theorem Rd.untl{t:Ty}{xs:List t.El}(h:Rd C g j (.tl t xs)):Rd C g j (.sl (xs.map t.enc)):=by
 cases h with
 |tl _ _ _ h=>exact h
variable {a0:Value}
theorem Rd.eq_val(h:Rd C g j (.val a0)):j=a0:=by cases h;rfl
theorem zAU(h:I.isVal=Sd):I=.val I.leaf:=by cases I<;>simp[V.isVal]at h;rfl
theorem Rd.eq_toVal1(h:Rd C g j I)(hd:I.toVal1=Sa a0):j=a0:=by
 cases h with
 |val j=>grind[V.toVal1]
 |agg w c F h=>
  simp only[V.toVal1]at hd;split at hd
  .rename_i a;cases hd;congr 1;apply Array.ext
   .simp[F]
   .intro i k m;have e:i<c.length:=by omega
    have f:=h i w[i] c[i] (by simp[k]) (by simp[e]);have l:=zAU (au.1 a c[i] (aZ e));rw[l]at f;rw[f.eq_val];simp
  .cases hd
 |_=>simp[V.toVal1]at hd
theorem Rd.eq_toVal{w:World}{F:Blk->Prop}(h:Rd w F j I)(hd:I.toVal=Sa a0):j=a0:=by
 cases h with
 |tup e a f h=>
  simp only[V.toVal]at hd;split at hd
  .rename_i c;cases hd;congr 1;apply Array.ext
   .simp[f]
   .intro i k n;have g:i<a.length:=by omega
    have l:=h i e[i] a[i] (by simp[k]) (by simp[g]);have m:=au.1 c a[i] (aZ g);obtain⟨a0,v⟩:=bm.1 m;rw[l.eq_toVal1 v];simp[v]
  .cases hd
 |val j=>exact Rd.eq_toVal1 (.val (w:=w) (F:=F) j) hd
 |agg e a f h=>exact Rd.eq_toVal1 (.agg e a f h) hd
 |_=>simp[V.toVal,V.toVal1]at hd
theorem zFO(w:World)(F:Blk->Prop)(v:Value):Rd w F v (V.ofVal1 v):=by
 cases v with
 |agg c=>
  refine .agg c _ (by simp) ?_;intro i x d e a;simp only[aA,ak]at a;obtain⟨y,f,rfl⟩:=a
  have:x=y:=by
   grind
  subst this;exact .val x
 |_=>exact .val _
theorem zNj(w:World)(F:Blk->Prop)(v:Value):Rd w F v (V.ofVal v):=by
 cases v with
 |tuple a=>
  refine .tup a _ (by simp) ?_;intro i x d e c;simp only[aA,ak]at c;obtain⟨y,f,rfl⟩:=c
  grind[Option.some.inj,zFO]
 |agg a=>exact zFO w F (.agg a)
 |_=>exact .val _
theorem Rd.of_flat{w':World}(h:Rd C g j I)(hd:I.toVal=Sa a0):Rd w' l j I:=by
 cases h with
 |val j=>exact .val j
 |agg k F' m h=>
  refine .agg k F' m ?_;intro i x I n e;simp only[V.toVal,V.toVal1]at hd;split at hd
  .rename_i a;have p:=zAU (au.1 a I (ae e));have F:=h i x I n e;rw[p]at F ⊢;rw[F.eq_val];exact .val _
  .cases hd
 |tup k F' m h=>
  refine .tup k F' m ?_;intro i x I n e;simp only[V.toVal]at hd;split at hd
  .rename_i a;have p:=au.1 a I (ae e);obtain⟨a0,v⟩:=bm.1 p;have F:=h i x I n e
   cases F with
   |val=>exact .val _
   |agg q r t B=>
    refine .agg q r t ?_;intro w D z y f;simp only[V.toVal1]at v;split at v
    .rename_i c;have E:=zAU (au.1 c z (ae f));have A:=B w D z y f;rw[E]at A ⊢;rw[A.eq_val];exact .val _
    .cases v
   |_=>simp[V.toVal1]at v
  .cases hd
 |_=>simp[V.toVal,V.toVal1]at hd
structure j6 where
 P:Program
 und:TypeId->Option TypeDesc
 inf:TypeId->Option TypeInfo
 fn:FuncId->Option Func
 ty:TypeId->Option Ty
def Ty.rep(a:Ty):Nat->Ty
 |0=>.unit
 |n+1=>.pair a (a.rep n)
def zLJ(P:Program):Nat->TypeId->Option Ty
 |0,_=>Sb
 |n+1,t=>match P.underlying t with
  |some .bool=>Sa .bool
  |some (.int k)=>Sa (.int k)
  |some .string=>Sa .str
  |some (.slice c)=>match zLJ P n c with
   |some a=>Sa (.sl a)
   |none=>Sb
  |some (.array m c)=>match zLJ P n c with
   |some a=>Sa (a.rep m)
   |none=>Sb
  |some (.struct e)=>e.toList.foldr (fun f d=>match zLJ P n f.type,d with
   |some a,Sa b=>Sa (.pair a b)
   |_,_=>Sb) (Sa .unit)
  |_=>Sb
def qEX(P:Program):Nat->TypeId->Option Ty
 |0,_=>Sb
 |n+1,t=>match P.underlying t with
  |some .bool=>Sa .bool
  |some (.int k)=>Sa (.int k)
  |some .string=>Sa .str
  |some (.slice el)=>match qEX P n el with
   |some a=>Sa (.sl a)
   |none=>Sb
  |some (.array m el)=>match qEX P n el with
   |some a=>Sa (a.rep m)
   |none=>Sb
  | some (.struct fs) => fs.toList.foldr (fun f acc => match (match f.name == "Ends" with
    |true=>Sa Ty.rf
    |false=>qEX P n f.type),acc with
   |some a,Sa b=>Sa (.pair a b)
   |_,_=>Sb) (Sa .unit)
  |_=>Sb
def qHo(P:Program)(t:TypeId):Bool:=
 match P.underlying t with
 | some (.struct fs) => fs.toList.any (fun f => f.name == "edges" || f.name == "Interfaces")
 |_=>Sc
def zUw(P:Program)(t:TypeId):Option Ty:=
 match qHo P t with
 |true=>Sb
 |false=>qEX P 12 t
@[reducible] def j6.of(P:Program):j6:=⟨P,P.underlying,P.info?,fun f=>P.funcs[f]?,zUw P⟩
instance:Coe Program j6:=⟨j6.of⟩
def wK{α:Type}(P:Program):Sem α->Option α
 |.pure a=>Sa a
 |.program k=>wK P (k P)
 |_=>Sb
theorem zD5{α:Type}{P:Program}{s:Sem α}{a:α}(h:wK P s=Sa a)(w:World):s.run P w=.ok a w:=by
 induction s with
 |pure b=>simp_all[wK]
 |program k c=>exact c P (by grind[wK])
 |_=>simp[wK]at h
theorem zGT{α β:Type}{P:Program}{s:Sem α}{f:α->Sem β}{b:β}(h:wK P (s>>=f)=Sa b):∃a,wK P s=Sa a/\wK P (f a)=Sa b:=by
 change wK P (s.bind f)=Sa b at h
 induction s with
 |pure a=>exact⟨a,rfl,h⟩
 |program k c=>grind[wK,Sem.bind]
 |_=>simp[wK,Sem.bind]at h
inductive NM where
 |s
 |p (i:Nat)
 |r
 |q (k off:Nat)
structure Nst where
 id:Nat
 id2:Nat
 t:Ty
 xs:List (List t.El)
 j:Nat
 ys:List t.El
 m:NM
inductive T where
 |p (d:V)
 |ow (id k:Nat) (es:List V)
 |oe (id k:Nat) (es:List V) (i off:Nat)
 |lp (s off:Nat)
 |mp (id:Nat) (es:List MapEntry) (ck:Nat)
 |ot (id:Nat) (t:Ty) (xs:List t.El)
 |oet (id:Nat) (t:Ty) (xs:List t.El) (i off:Nat)
 |ov (id:Nat) (t:Ty) (xs:List t.El) (lo hi:Nat)
 |on (n:Nst)
 |emp
 |dead
inductive v6 where
 |v (s:Nat)
 |o (id:Nat)
structure Lay where
 vb:Nat->Nat
 ob:Nat->Nat
def Lay.blk(β:Lay):v6->Nat
 |.v s=>β.vb s
 |.o id=>β.ob id
def qP(w:World)(F:Blk->Prop)(b k cap:Nat)(es:List V):Prop:=
 ∃(c:Array Value) (a:TypeId),w.heap[b]?=Sa (.cells c a (0,0))/\c.size=cap*k/\es.length<=cap/\
  (∀e,e∈es->e.cells.length=k)/\
  ∀(i j:Nat) (e d:V) (x:Value),es[i]?=Sa e->e.cells[j]?=Sa d->c[i*k+j]?=Sa x->Rd w F x d
def zB8(w:World)(F:Blk->Prop)(β:Lay)(al:v6->Prop)(v:Value)(id k:Nat)(es:List V):Prop:=
 (es=[]/\∃a:Option Addr,v=.slice a 0 0)\/
  (es≠[]/\al (.o id)/\∃c,v=.slice (Sa ⟨β.ob id,0,Sb⟩) es.length c/\qP w F (β.ob id) k c es)
def NM.Rel(b f cap d len c z:Nat)(v:Value):NM->Prop
 |.s=>(len=0/\∃a:Option Addr,v=.slice a 0 0)\/v=.slice (Sa ⟨b,0,Sb⟩) len cap
 |.p i=>i<len/\v=.pointer (Sa ⟨b,i,Sb⟩)
 |.r=>v=.slice (Sa ⟨f,0,Sb⟩) c d
 |.q k e=>k<c/\v=.pointer (Sa ⟨f,k*z+e,Sb⟩)
def zPs(w:World)(F:Blk->Prop)(β:Lay)(al:v6->Prop)(v:Value)(n:Nst):Prop:=
 al (.o n.id)/\al (.o n.id2)/\∃(c:Array Value) (d:TypeId) (a:Nat),
  w.heap[β.ob n.id]?=Sa (.cells c d (0,0))/\n.xs.length<=c.size/\
  (∀i x u,i≠n.j->n.xs[i]?=Sa x->c[i]?=Sa u->Rd w F u (.tl n.t x))/\
  c[n.j]?=Sa (.slice (Sa ⟨β.ob n.id2,0,Sb⟩) n.ys.length a)/\qP w F (β.ob n.id2) n.t.size a (n.ys.map n.t.enc)/\
  n.m.Rel (β.ob n.id) (β.ob n.id2) c.size a n.xs.length n.ys.length n.t.size v
def zY(w:World)(F:Blk->Prop)(β:Lay)(al:v6->Prop)(v:Value):T->Prop
 |.p d=>Rd w F v d
 |.ow id k g=>al (.o id)/\∃c,v=.slice (Sa ⟨β.ob id,0,Sb⟩) g.length c/\qP w F (β.ob id) k c g
 |.oe id k g i e=>al (.o id)/\i<g.length/\∃c,v=.pointer (Sa ⟨β.ob id,i*k+e,Sb⟩)/\qP w F (β.ob id) k c g
 |.lp s e=>al (.v s)/\v=.pointer (Sa ⟨β.vb s,e,Sb⟩)
 |.mp id g l=>al (.o id)/\v=.map (Sa (β.ob id))/\w.heap[β.ob id]?=Sa (.map g.toArray l)
 |.ot id t f=>zB8 w F β al v id t.size (f.map t.enc)
 |.oet id t f i e=>al (.o id)/\i<f.length/\∃c,v=.pointer (Sa ⟨β.ob id,i*t.size+e,Sb⟩)/\qP w F (β.ob id) t.size c (f.map t.enc)
 |.ov id t f h j=>(f=[]/\h=0/\j=0/\∃a:Option Addr,v=.slice a 0 0)\/
   (f≠[]/\al (.o id)/\h<=j/\j<=f.length/\∃c,v=.slice (Sa ⟨β.ob id,if c=h then 0 else h*t.size,Sb⟩) (j-h) (c-h)/\qP w F (β.ob id) t.size c (f.map t.enc))
 |.on n=>zPs w F β al v n
 |.emp=>∃a:Option Addr,v=.slice a 0 0
 |.dead=>True
def T.un:T->T
 |.p (.tl t xs)=>.p (.sl (xs.map t.enc))
 |.ot id t xs=>match xs.map t.enc with
  |[]=>.emp
  |e::c=>.ow id t.size (e::c)
 |.oet id t xs i a=>.oe id t.size (xs.map t.enc) i a
 |x=>x
theorem zBO{β:Lay}{al:v6->Prop}{x:T}:zY C g β al j x↔zY C g β al j x.un:=by
 cases x with
 |p d=>
  cases d with
  |tl t a=>exact⟨fun h=>Rd.untl h,fun h=>.tl t a j h⟩
  |_=>exact cI
 |ot id t a=>
  grind[zY,T.un,zB8]
 |oet id t a i c=>simp[zY,T.un]
 |_=>exact cI
def w6(w:World)(F:Blk->Prop)(β:Lay)(al:v6->Prop)(b:Nat)(cs:List T):Prop:=
 ∃(c:Array Value) (a:TypeId),w.heap[b]?=Sa (.cells c a (0,0))/\c.size=cs.length/\
  ∀(i:Nat) (x:Value) (d:T),c[i]?=Sa x->cs[i]?=Sa d->zY w F β al x d
structure Ext(w:World)(F:Blk->Prop)(β:Lay)(al:v6->Prop)(w':World)(F':Blk->Prop)(β':Lay)(al':v6->Prop):Prop where
 f:∀b,F b->F' b
 hf:∀b:Nat,F b->w'.heap[b]?=w.heap[b]?
 a:∀x,al x->al' x
 b:∀x,al x->β'.blk x=β.blk x
 ha:∀x,al x->w'.heap[β.blk x]?=w.heap[β.blk x]?
section
variable {w w' w'':World}{F F' F'':Blk->Prop}{β β' β'':Lay}{al al' al'':v6->Prop}
theorem Ext.refl:Ext w F β al w F β al:=⟨fun _ h=>h,fun _ _=>rfl,fun _ h=>h,fun _ _=>rfl,fun _ _=>rfl⟩
theorem Rd.ext(h:Ext w F β al w' F' β' al'){v:Value}{d:V}(hr:Rd w F v d):Rd w' F' v d:=hr.mono h.f h.hf
theorem qP.mono{b k cap:Nat}{es:List V}(hr:qP w F b k cap es)(a:∀b,F b->F' b)(f:∀b:Nat,F b->w'.heap[b]?=w.heap[b]?)
  (hb:w'.heap[b]?=w.heap[b]?):qP w' F' b k cap es:=by
 obtain⟨c,g,h,l,m,n,p⟩:=hr;exact⟨c,g,hb.trans h,l,m,n,fun i j e d x q r a3=>(p i j e d x q r a3).mono a f⟩
theorem zPs.mono{v:Value}{n:Nst}(hr:zPs w F β al v n)(d:∀b,F b->F' b)(e:∀b:Nat,F b->w'.heap[b]?=w.heap[b]?)
  (g:al' (.o n.id)) (h:al' (.o n.id2)) (y:β'.ob n.id=β.ob n.id) (f:β'.ob n.id2=β.ob n.id2)
  (z:w'.heap[β.ob n.id]?=w.heap[β.ob n.id]?) (j:w'.heap[β.ob n.id2]?=w.heap[β.ob n.id2]?):zPs w' F' β' al' v n:=by
 obtain⟨_,_,c,k,a,A,l,m,p,q,B⟩:=hr;refine⟨g,h,c,k,a,?_,l,fun i x u r t a3=>(m i x u r t a3).mono d e,?_,?_,?_⟩
 .grind
 .rw[f];exact p
 .rw[f];exact q.mono d e j
 grind
theorem zPs.shape{v:Value}{n:Nst}(hr:zPs w F β al v n):(∃a l k,v=.slice a l k)\/∃a,v=.pointer a:=by
 obtain⟨_,_,c,g,e,h,i,j,p,q,d⟩:=hr;cases f:n.m<;>rw[f]at d
 .rcases d with⟨_,a,d⟩|d<;>exact .inl ⟨_,_,_,d⟩
 .exact .inr ⟨_,d.2⟩
 .exact .inl ⟨_,_,_,d⟩
 .exact .inr ⟨_,d.2⟩
theorem zY.ext(h:Ext w F β al w' F' β' al'){v:Value}{x:T}(hr:zY w F β al v x):zY w' F' β' al' v x:=by
 cases x with
 |p d=>exact Rd.ext h hr
 |ow id k q=>
  obtain⟨ha,e,g,c⟩:=hr;have hb:β'.ob id=β.ob id:=h.b (.o id) ha;refine⟨h.a _ ha,e,by rw[hb];exact g,?_⟩;rw[hb];exact c.mono h.f h.hf (h.ha (.o id) ha)
 |oe id k q i l=>
  obtain⟨ha,m,e,g,c⟩:=hr;have hb:β'.ob id=β.ob id:=h.b (.o id) ha;refine⟨h.a _ ha,m,e,by rw[hb];exact g,?_⟩;rw[hb];exact c.mono h.f h.hf (h.ha (.o id) ha)
 |lp s l=>
  obtain⟨ha,g⟩:=hr;have hb:β'.vb s=β.vb s:=h.b (.v s) ha;exact⟨h.a _ ha,by rw[hb];exact g⟩
 |mp id q z=>
  obtain⟨ha,g,r⟩:=hr;have hb:β'.ob id=β.ob id:=h.b (.o id) ha;exact⟨h.a _ ha,by rw[hb];exact g,by rw[hb];exact(h.ha (.o id) ha).trans r⟩
 |ot id t xs=>
  rcases hr with hr|⟨j,ha,e,g,c⟩
  .exact .inl hr
  .have hb:β'.ob id=β.ob id:=h.b (.o id) ha;refine .inr ⟨j,h.a _ ha,e,by rw[hb];exact g,?_⟩;rw[hb];exact c.mono h.f h.hf (h.ha (.o id) ha)
 |oet id t xs i l=>
  obtain⟨ha,m,e,g,c⟩:=hr;have hb:β'.ob id=β.ob id:=h.b (.o id) ha;refine⟨h.a _ ha,m,e,by rw[hb];exact g,?_⟩;rw[hb];exact c.mono h.f h.hf (h.ha (.o id) ha)
 |ov id t xs lo m=>
  rcases hr with hr|⟨j,ha,u,y,e,g,c⟩
  .exact .inl hr
  .have hb:β'.ob id=β.ob id:=h.b (.o id) ha;refine .inr ⟨j,h.a _ ha,u,y,e,by rw[hb];exact g,?_⟩;rw[hb];exact c.mono h.f h.hf (h.ha (.o id) ha)
 |on n=>exact zPs.mono hr h.f h.hf (h.a _ hr.1) (h.a _ hr.2.1) (h.b (.o n.id) hr.1) (h.b (.o n.id2) hr.2.1) (h.ha (.o n.id) hr.1) (h.ha (.o n.id2) hr.2.1)
 |emp=>exact hr
 |dead=>trivial
theorem w6.ext(h:Ext w F β al w' F' β' al'){b:Nat}{cs:List T}(hb:w'.heap[b]?=w.heap[b]?)(hr:w6 w F β al b cs):w6 w' F' β' al' b cs:=by obtain⟨c,a,e,f,g⟩:=hr;exact⟨c,a,hb.trans e,f,fun i x d j k=>(g i x d j k).ext h⟩
end
structure Sig where
 St:Type
 R:St->(Blk->Prop)->(Nat->Prop)->World->Prop
 mono:∀{s:St} {F F':Blk->Prop} {O:Nat->Prop} {w w':World},R s F O w->(∀x:Blk,x.isB=Sc->(F' x↔F x))->(∀b,O b->w'.heap[b]?=w.heap[b]?)->
  (∀n:Nat,F (.s n)->F n->F' n/\w'.heap[n]?=w.heap[n]?)->R s F' O w'
 inb:∀{s:St} {F:Blk->Prop} {O:Nat->Prop} {w:World},R s F O w->∀b,O b->b<w.heap.size
 ld:∀{s:St} {F:Blk->Prop} {O:Nat->Prop} {w:World} {id b:Nat} {cs:List V},R s F O w->F (.k id b cs)->
  ∃(c:Array Value) (et:TypeId),w.heap[b]?=Sa (.cells c et (0,0))/\∀(m:Nat) (d:V),cs[m]?=Sa d->∃x,c[m]?=Sa x/\Rd w F x d
 eqk:∀{s:St} {F:Blk->Prop} {O:Nat->Prop} {w:World} {id id' b b':Nat} {cs cs':List V},R s F O w->F (.k id b cs)->F (.k id' b' cs')->(b=b'↔id=id')
 sb:∀{s:St} {F:Blk->Prop} {O:Nat->Prop} {w:World} {n:Nat},R s F O w->F (.s n)->F n
 wk:Prop:=False
class Calm (Γ:Sig):Prop where
 no:¬Γ.wk
def NoK(F:Blk->Prop):Prop:=(∀id b a,¬F (.k id b a))/\∀n,¬F (.s n)
variable {C:Blk->Prop}
theorem NoK.of{F:Blk->Prop}(h:NoK F)(c:∀x:Blk,x.isB=Sc->(C x↔F x)):NoK C:=
 ⟨fun _ _ _ a=>h.1 _ _ _ ((c _ rfl).1 a),fun _ a=>h.2 _ ((c _ rfl).1 a)⟩
def jT:Sig where
 St:=Unit
 R:=fun _ F O _=>(∀b,¬O b)/\NoK F
 mono:=fun h a _ _=>⟨h.1,h.2.of a⟩
 inb:=fun h b c=>absurd c (h.1 b)
 ld:=fun h a=>absurd a (h.2.1 _ _ _)
 eqk:=fun h a=>absurd a (h.2.1 _ _ _)
 sb:=fun h a=>absurd a (h.2.2 _)
instance:Calm jT:=⟨fun h=>h⟩
structure xC(O:Nat->Prop)(w w':World):Prop where
 os:w'.os=w.os
 tape:w'.tape=w.tape
 output:w'.output=w.output
 size:w.heap.size<=w'.heap.size
 block:∀b,b<w.heap.size->¬O b->w'.heap[b]?=w.heap[b]?
 drawn:w.drawn<=w'.drawn
theorem xC.refl(O:Nat->Prop)(w:World):xC O w w:=⟨rfl,rfl,rfl,ai _,fun _ _ _=>rfl,ai _⟩
inductive RV where
 |p (d:V)
 |own (es:List V)
 |ownT (t:Ty) (xs:List t.El)
def RV.isH:RV->Prop
 |.p (.pt _ _)=>True
 |_=>False
def qAb(N:Nat)(w:World)(F:Blk->Prop)(O:Nat->Prop)(v:Value)(es:List V):Prop:=
 (es=[]/\∃a:Option Addr,v=.slice a 0 0)\/
   es≠[]/\∃b c,v=.slice (Sa ⟨b,0,Sb⟩) es.length c/\N<=b/\b<w.heap.size/\¬F b/\¬O b/\∃k,qP w F b k c es
def zAM(N:Nat)(w:World)(F:Blk->Prop)(O:Nat->Prop)(v:Value):RV->Prop
 |.p d=>Rd w F v d
 |.own a=>qAb N w F O v a
 |.ownT t c=>qAb N w F O v (c.map t.enc)
def zOo(G:Nat->Option (List V))(w:World)(F:Blk->Prop):Prop:=
 ∀g a,G g=Sa a->Rd w F (.pointer (Sa ⟨g,0,Sb⟩)) (.pp a)
def jJ(Γ:Sig)(P:Program)(G:Nat->Option (List V))(f:FuncId)(c:Γ.St->List V->Option (Γ.St×RV)):Prop:=
 ∀(w:World) (F:Blk->Prop) (O:Nat->Prop) (s:Γ.St) (a:Array Value) (h:List V) (j:Γ.St) (r:RV),
  Γ.R s F O w->zOo G w F->(∀b:Nat,F b->b<w.heap.size/\¬O b)->a.size=h.length->
  (∀(i:Nat) (x:Value) (d:V),a[i]?=Sa x->h[i]?=Sa d->Rd w F x d)->
  c s h=Sa (j,r)->
  Calls P f a w fun e w'=>∃(v:Value) (F':Blk->Prop) (g:Nat->Prop),e=.returned v/\Γ.R j F' g w'/\xC O w w'/\
   (∀b,g b->O b\/w.heap.size<=b)/\zBU (Γ.wk/\r.isH) w.heap.size F F'/\(∀b:Nat,F' b->(F b\/w.heap.size<=b)/\b<w'.heap.size/\¬g b)/\
   zAM w.heap.size w' F' g v r
def zLF(Γ:Sig)(P:Program)(G:Nat->Option (List V))(f:FuncId)(c:Γ.St->List V->Option (Γ.St×RV)):Prop:=
 ∀(w:World) (F:Blk->Prop) (O:Nat->Prop) (s:Γ.St) (a:Array Value) (h:List V) (j:Γ.St) (r:RV),
  Γ.R s F O w->zOo G w F->(∀b:Nat,F b->b<w.heap.size/\¬O b)->a.size=h.length->
  (∀(i:Nat) (x:Value) (d:V),a[i]?=Sa x->h[i]?=Sa d->Rd w F x d)->
  c s h=Sa (j,r)->
  Calls P f a w fun e w'=>∃(v:Value) (F':Blk->Prop) (g:Nat->Prop),e=.returned v/\Γ.R j F' g w'/\xC O w w'/\
   (∀b,g b->O b\/w.heap.size<=b)/\zBU Γ.wk w.heap.size F F'/\(∀b:Nat,F' b->(F b\/w.heap.size<=b)/\b<w'.heap.size/\¬g b)/\
   zAM w.heap.size w' F' g v r
theorem zLF.calm{Γ:Sig}[d:Calm Γ]{P:Program}{G:Nat->Option (List V)}{f:FuncId}{a:Γ.St->List V->Option (Γ.St×RV)}(h:zLF Γ P G f a):jJ Γ P G f a:=by intro w F O s c g i r j k l m n p;refine(h w F O s c g i r j k l m n p).mono ?_;rintro e w' ⟨v,F',q,rfl,t,u,x,y,z,A⟩;exact⟨v,F',q,rfl,t,u,x,(y.no d.no).w,z,A⟩
abbrev vF(Γ:Sig):=FuncId->Γ.St->List V->Option (Γ.St×RV)
structure Env(St:Type) where
 tm:List T
 vars:List (Option (List T))
 st:St
def Env.get{St:Type}(e:Env St)(t:Nat):T:=e.tm.getD t .dead
def Env.var{St:Type}(e:Env St)(s:Nat):Option (List T):=(e.vars[s]?).getD Sb
structure x5 where
 o:Nat->Prop
 l:Option (Nat×Nat)
def x5.all(O:x5)(b:Nat):Prop:=O.o b\/∃n,O.l=Sa (b,n)
instance:Coe (Nat->Prop) x5:=⟨fun o=>⟨o,Sb⟩⟩
def jV:Nat:=1000000
def zYp(a:World)(c:x5)(x:v6)(b:Nat):Prop:=(x≠ .o jV/\a.heap.size<=b)\/(x=.o jV/\∃n,c.l=Sa (b,n))
variable {i:Nat}{g:World}{l:x5}
theorem zYp.old{x:v6}(h:zYp g l x i)(hb:i<g.heap.size):l.all i:=by
 rcases h with⟨_,h⟩|⟨_,h⟩
 .omega
 .exact .inr h
variable {j:Nat}
theorem zYp.v(h:zYp g l (.v i) j):g.heap.size<=j:=by
 rcases h with⟨_,h⟩|⟨h,_⟩
 all_goals grind
theorem zYp.o(h:zYp g l (.o i) j)(hid:i≠jV):g.heap.size<=j:=by
 rcases h with⟨_,h⟩|⟨h,_⟩
 all_goals grind
def zV1(a:World)(d:x5)(w:World)(F:Blk->Prop)(O:Nat->Prop):Prop:=
 ∀b n,d.l=Sa (b,n)->b<a.heap.size/\¬O b/\¬F b/\∃(c:Array Value) (e:TypeId) (f:Nat×Nat),w.heap[b]?=Sa (.cells c e f)/\c.size=n
theorem zV1.step{w w':World}{F':Blk->Prop}{O O':Nat->Prop}(h:zV1 g l w C O)(e:∀b n,l.l=Sa (b,n)->b<g.heap.size->¬O b->¬C b->w'.heap[b]?=w.heap[b]? /\¬O' b/\¬F' b):zV1 g l w' F' O':=by
 intro b n hb;obtain⟨f,a,i,c,j,k,m,p⟩:=h b n hb
 grind
structure zDx(Γ:Sig)(w0:World)(F0:Blk->Prop)(O0:x5)(w:World)(F:Blk->Prop)(O:Nat->Prop)(β:Lay)(al:v6->Prop)(st:Γ.St):Prop where
 keep:xC O0.all w0 w
 sig:Γ.R st F O w
 oin:∀b,O b->O0.o b\/w0.heap.size<=b
 fin:∀b:Nat,F b->(F0 b\/w0.heap.size<=b)/\b<w.heap.size/\¬O b
 f0:zBU Γ.wk w0.heap.size F0 F
 place:∀x,al x->zYp w0 O0 x (β.blk x)/\β.blk x<w.heap.size/\¬F (β.blk x)/\¬O (β.blk x)
 dist:∀x y,al x->al y->β.blk x=β.blk y->x=y
 lent:zV1 w0 O0 w F O
def WkV(x y:V):Prop:= ∀(w:World) (F:Blk->Prop) (v:Value),Rd w F v x->Rd w F v y
def kW:List V->List V->Prop
 |[],[]=>True
 |x::a,y::c=>WkV x y/\kW a c
 |_,_=>False
theorem WkV.refl(x:V):WkV x x:=fun _ _ _ h=>h
theorem kW.refl:∀(l:List V),kW l l
 |[]=>trivial
 |x::l=>⟨.refl x,kW.refl l⟩
theorem kW.get:∀{xs ys:List V} (_:kW xs ys) (i:Nat) (x y:V),xs[i]?=Sa x->ys[i]?=Sa y->WkV x y
 |[],[],_,i,x,y,c,_=>by simp at c
 |a::xs,b::ys,h,i,x,y,c,d=>by
  cases i with
  |zero=>simp at c d;subst c d;exact h.1
  |succ i=>exact kW.get h.2 i x y (by simpa using c) (by simpa using d)
theorem kW.len:∀{xs ys:List V} (_:kW xs ys),xs.length=ys.length
 |[],[],_=>rfl
 |a::xs,b::ys,h=>by simp[kW.len h.2]
theorem kW.append:∀{xs ys c d:List V} (_:kW xs ys) (_:kW c d),kW (xs++c) (ys++d)
 |[],[],_,_,_,h=>h
 |a::xs,b::ys,_,_,h,e=>⟨h.1,kW.append h.2 e⟩
theorem WkV.agg{xs ys:List V}(h:kW xs ys):WkV (.agg xs) (.agg ys):=by
 intro w F v hr
 cases hr with
 |agg a g c e=>
  refine .agg a ys (c.trans h.len) ?_;intro i x d f hd;have hlt:i<xs.length:=by grind
  exact h.get i xs[i] d (by simp[hlt]) hd w F x (e i x xs[i] f (by simp[hlt]))
def zFo(k:IntKind):List V->Option (Int×List V)
 |.val (.int a n)::r=>if a=k then Sa (n,r)else Sb
 |_=>Sb
def zCU:List V->Option (Bool×List V)
 |.val (.bool b)::r=>Sa (b,r)
 |_=>Sb
def zFn:List V->Option (ByteArray×List V)
 |.val (.string s)::r=>Sa (s,r)
 |_=>Sb
def zLP(t:Ty):List V->Option (List t.El×List V)
 |.tl a c::r=>if h:a=t then Sa (h▸c,r)else Sb
 |.val (.slice _ 0 _)::r=>Sa ([],r)
 |.sl []::r=>Sa ([],r)
 |_=>Sb
def zLQ:List V->Option (Option (Nat×Nat)×List V)
 |.rf o::r=>Sa (o,r)
 |.val (.slice Sb 0 0)::r=>Sa (Sb,r)
 |_=>Sb
def zLS:List V->Option (Nat×List V)
 |.hd o::r=>Sa (o,r)
 |_=>Sb
def zLR(t:Ty):List V->Option (Option (Nat×t.El)×List V)
 |.pt a o::r=>if h:a=t then Sa (h▸o,r)else Sb
 |.val (.pointer Sb)::r=>Sa (Sb,r)
 |_=>Sb
def Ty.uncells:(t:Ty)->List V->Option (t.El×List V)
 |.int k,c=>zFo k c
 |.bool,c=>zCU c
 |.str,c=>zFn c
 |.unit,c=>Sa ((),c)
 |.pair a b,c=>match a.uncells c with
  |some (x,r)=>match b.uncells r with
   |some (y,r)=>Sa ((x,y),r)
   |none=>Sb
  |none=>Sb
 |.sl t,c=>zLP t c
 |.rf,c=>zLQ c
 |.hd,c=>zLS c
 |.pt t,c=>zLR t c
theorem j7:∀(t:Ty) (cs:List V) (x:t.El) (r:List V),t.uncells cs=Sa (x,r)->∃d,cs=d++r/\kW d (t.cells x):=by
 intro t
 induction t with
 |int k=>
  intro cs x r h;simp[Ty.uncells,zFo]at h;split at h
  .split at h
   .rename_i j;simp at h;obtain⟨rfl,rfl⟩:=h;subst j;exact⟨[_],rfl,.refl _,trivial⟩
   .cases h
  .cases h
 |bool=>
  intro cs x r h;simp[Ty.uncells,zCU]at h;split at h
  .simp at h;obtain⟨rfl,rfl⟩:=h;exact⟨[_],rfl,.refl _,trivial⟩
  .cases h
 |str=>
  intro cs x r h;simp[Ty.uncells,zFn]at h;split at h
  .simp at h;obtain⟨rfl,rfl⟩:=h;exact⟨[_],rfl,.refl _,trivial⟩
  .cases h
 |unit=>
  intro cs x r h;simp only[Ty.uncells,ac,aI]at h;obtain⟨_,rfl⟩:=h;exact⟨[],rfl,trivial⟩
 |pair a b e f=>
  intro cs x r h;simp only[Ty.uncells]at h;split at h
  .rename_i l i m;split at h
   .rename_i n p q;simp at h;obtain⟨rfl,rfl⟩:=h;obtain⟨u,rfl,y⟩:=e cs l i m;obtain⟨z,rfl,A⟩:=f i n p q;exact⟨u++z,by simp,y.append A⟩
   .cases h
  .cases h
 |sl t _=>
  intro cs x r h;simp[Ty.uncells,zLP]at h;split at h
  .split at h
   .rename_i g;subst g;simp at h;obtain⟨rfl,rfl⟩:=h;exact⟨[_],rfl,.refl _,trivial⟩
   .cases h
  .simp only[ac,aI]at h;obtain⟨rfl,rfl⟩:=h;refine⟨[_],rfl,?_,trivial⟩;intro w F v c;rw[Rd.eq_val c];exact .tl t [] _ (.slemp _ _)
  .simp only[ac,aI]at h;obtain⟨rfl,rfl⟩:=h;exact⟨[_],rfl,fun w F v c=>.tl t [] v c,trivial⟩
  .cases h
 |rf=>
  intro cs x r h;simp[Ty.uncells,zLQ]at h;split at h
  .simp at h;obtain⟨rfl,rfl⟩:=h;exact⟨[_],rfl,.refl _,trivial⟩
  .simp at h;obtain⟨rfl,rfl⟩:=h;refine⟨[_],rfl,?_,trivial⟩;intro w F v c;rw[Rd.eq_val c];exact .rfn
  .cases h
 |hd=>
  intro cs x r h;simp[Ty.uncells,zLS]at h;split at h
  .simp at h;obtain⟨rfl,rfl⟩:=h;exact⟨[_],rfl,.refl _,trivial⟩
  .cases h
 |pt t _=>
  intro cs x r h;simp[Ty.uncells,zLR]at h;split at h
  .split at h
   .rename_i g;subst g;simp at h;obtain⟨rfl,rfl⟩:=h;exact⟨[_],rfl,.refl _,trivial⟩
   .cases h
  .simp at h;obtain⟨rfl,rfl⟩:=h;refine⟨[_],rfl,?_,trivial⟩;intro w F v c;rw[Rd.eq_val c];exact .ptn t
  .cases h
def Ty.dec(t:Ty)(d:V):Option t.El:=
 match t with
 |.pair a b=>match d with
  |.agg c=>match(Ty.pair a b).uncells c with
   |some (x,[])=>Sa x
   |_=>Sb
  |_=>Sb
 |.unit=>match d with
  |.agg []=>Sa ()
  |_=>Sb
 |.int k=>match zFo k [d]with
  |some (x,_)=>Sa x
  |none=>Sb
 |.bool=>match zCU [d]with
  |some (x,_)=>Sa x
  |none=>Sb
 |.str=>match zFn [d]with
  |some (x,_)=>Sa x
  |none=>Sb
 |.sl t=>match zLP t [d]with
  |some (x,_)=>Sa x
  |none=>Sb
 |.rf=>match zLQ [d]with
  |some (x,_)=>Sa x
  |none=>Sb
 |.hd=>match zLS [d]with
  |some (x,_)=>Sa x
  |none=>Sb
 |.pt t=>match zLR t [d]with
  |some (x,_)=>Sa x
  |none=>Sb
theorem u5{t:Ty}{d:V}{x:t.El}(h:t.dec d=Sa x):WkV d (t.enc x):=by
 have one:∀(t:Ty) (x:t.El) (r:List V),t.cells x=[t.enc x]->t.uncells [d]=Sa (x,r)->WkV d (t.enc x):=by
  intro t x r i j;obtain⟨g,f,e⟩:=j7 t [d] x r j;rw[i]at e;have:=e.len
  match g,this with
  |[y],_=>simp at f;rw[<-f.1]at e;exact e.1
 cases t with
 |pair a b=>
  simp only[Ty.dec]at h;split at h
  .rename_i l;split at h
   .rename_i m n;simp at h;subst h;obtain⟨g,f,e⟩:=j7 (.pair a b) l m [] n;simp at f;subst f;exact WkV.agg e
   .cases h
  .cases h
 |unit=>
  simp only[Ty.dec]at h;split at h
  .exact .refl _
  .cases h
 |int k=>
  simp only[Ty.dec]at h;split at h
  .rename_i y r c;simp at h;subst h;exact one (.int k) y r rfl c
  .cases h
 |bool=>
  simp only[Ty.dec]at h;split at h
  .rename_i y r c;simp at h;subst h;exact one .bool y r rfl c
  .cases h
 |str=>
  simp only[Ty.dec]at h;split at h
  .rename_i y r c;simp at h;subst h;exact one .str y r rfl c
  .cases h
 |sl t=>
  simp only[Ty.dec]at h;split at h
  .rename_i y r c;simp at h;subst h;exact one (.sl t) y r rfl c
  .cases h
 |rf=>
  simp only[Ty.dec]at h;split at h
  .rename_i y r c;simp at h;subst h;exact one .rf y r rfl c
  .cases h
 |hd=>
  simp only[Ty.dec]at h;split at h
  .rename_i y r c;simp at h;subst h;exact one .hd y r rfl c
  .cases h
 |pt t=>
  simp only[Ty.dec]at h;split at h
  .rename_i y r c;simp at h;subst h;exact one (.pt t) y r rfl c
  .cases h
def Ty.decs(t:Ty):List V->Option (List t.El)
 |[]=>Sa []
 |d::a=>match t.dec d with
  |some x=>match t.decs a with
   |some xs=>Sa (x::xs)
   |none=>Sb
  |none=>Sb
theorem qP.weak{cap:Nat}{es a:List V}(h:qP g C i j cap es)(u:es.length=a.length)(l:∀e,e∈a->e.cells.length=j)(m:∀(F:Nat) (x y:V),es[F]?=Sa x->a[F]?=Sa y->kW x.cells y.cells):qP g C i j cap a:=by
 obtain⟨c,n,p,q,z,A,r⟩:=h;refine⟨c,n,p,q,by omega,l,?_⟩;intro F b y d x t hj hx;have hlt:F<es.length:=by grind
 have w:=m F es[F] y (by simp[hlt]) t;have f:b<es[F].cells.length:=by grind
 exact w.get b _ d (by simp[f]) hj g C x (r F b es[F] es[F].cells[b] x (by simp[hlt]) (by simp[f]) hx)
def qF3(es a:List V):Prop:=es.length=a.length/\∀(i:Nat) (x y:V),es[i]?=Sa x->a[i]?=Sa y->kW x.cells y.cells
theorem zPi{t:Ty}{d:V}{x:t.El}(h:t.dec d=Sa x):kW d.cells (t.enc x).cells:=by
 have one:∀(t:Ty) (x:t.El) (r:List V),t.cells x=[t.enc x]->t.uncells [d]=Sa (x,r)->(∀e,d≠ .agg e)->kW d.cells (t.enc x).cells:=by
  intro t x r l m hd;obtain⟨i,f,g⟩:=j7 t [d] x r m;rw[jM];have j:=g.len;rw[l]at j
  match i,j with
  |[y],_=>
   simp at f;rw[<-f.1]at g;have:d.cells=[d]:=by cases d<;>first|rfl|exact absurd rfl (hd _)
   grind
 cases t with
 |pair a b=>
  simp only[Ty.dec]at h;split at h
  .rename_i e;split at h
   .rename_i n p;simp at h;subst h;obtain⟨i,f,g⟩:=j7 (.pair a b) e n [] p;simp at f;subst f;rw[jM];exact g
   .cases h
  .cases h
 |unit=>
  simp only[Ty.dec]at h;split at h
  .exact .refl _
  .cases h
 |int k=>
  simp only[Ty.dec]at h;split at h
  .rename_i y r c;simp at h;subst h;refine one (.int k) y r rfl c ?_;rintro e rfl;simp[zFo]at c
  .cases h
 |bool=>
  simp only[Ty.dec]at h;split at h
  .rename_i y r c;simp at h;subst h;refine one .bool y r rfl c ?_;rintro e rfl;simp[zCU]at c
  .cases h
 |str=>
  simp only[Ty.dec]at h;split at h
  .rename_i y r c;simp at h;subst h;refine one .str y r rfl c ?_;rintro e rfl;simp[zFn]at c
  .cases h
 |sl t=>
  simp only[Ty.dec]at h;split at h
  .rename_i y r c;simp at h;subst h;refine one (.sl t) y r rfl c ?_;rintro e rfl;simp[zLP]at c
  .cases h
 |rf=>
  simp only[Ty.dec]at h;split at h
  .rename_i y r c;simp at h;subst h;refine one .rf y r rfl c ?_;rintro e rfl;simp[zLQ]at c
  .cases h
 |hd=>
  simp only[Ty.dec]at h;split at h
  .rename_i y r c;simp at h;subst h;refine one .hd y r rfl c ?_;rintro e rfl;simp[zLS]at c
  .cases h
 |pt t=>
  simp only[Ty.dec]at h;split at h
  .rename_i y r c;simp at h;subst h;refine one (.pt t) y r rfl c ?_;rintro e rfl;simp[zLR]at c
  .cases h
def Ty.unx:(t:Ty)->List V->Option (t.El×List V)
 |.int k,c=>zFo k c
 |.bool,c=>zCU c
 |.str,c=>zFn c
 |.unit,c=>Sa ((),c)
 |.pair a b,c=>match a.unx c with
  |some (x,r)=>match b.unx r with
   |some (y,r)=>Sa ((x,y),r)
   |none=>Sb
  |none=>Sb
 |_,_=>Sb
theorem qA7:∀(t:Ty) (cs:List V) (x:t.El) (r:List V),t.unx cs=Sa (x,r)->cs=t.cells x++r:=by
 intro t
 induction t with
 |int k=>
  intro cs x r h;simp[Ty.unx,zFo]at h;split at h
  .split at h
   .rename_i c;simp at h;obtain⟨rfl,rfl⟩:=h;subst c;rfl
   .cases h
  .cases h
 |bool=>
  intro cs x r h;simp[Ty.unx,zCU]at h;split at h
  .simp at h;obtain⟨rfl,rfl⟩:=h;rfl
  .cases h
 |str=>
  intro cs x r h;simp[Ty.unx,zFn]at h;split at h
  .simp at h;obtain⟨rfl,rfl⟩:=h;rfl
  .cases h
 |unit=>
  intro cs x r h;simp only[Ty.unx,ac,aI]at h;obtain⟨_,rfl⟩:=h;rfl
 |pair a b d e=>
  intro cs x r h;simp only[Ty.unx]at h;split at h
  .rename_i f g i;split at h
   .rename_i j l m;simp at h;obtain⟨rfl,rfl⟩:=h
    grind[Ty.cells]
   .cases h
  .cases h
 |_=>grind[Ty.unx]
def Ty.unxs(t:Ty):Nat->List V->Option (List t.El)
 |0,_=>Sa []
 |n+1,a=>match t.unx a with
  |some (x,r)=>match t.unxs n r with
   |some xs=>Sa (x::xs)
   |none=>Sb
  |none=>Sb
theorem zQ8{t:Ty}:∀{n:Nat} {cs:List V} {xs:List t.El},t.unxs n cs=Sa xs->xs.length=n/\∀(i:Nat) (x:t.El),xs[i]?=Sa x->∀(m:Nat) (d:V),(t.cells x)[m]?=Sa d->cs[i*t.size+m]?=Sa d
 |0,cs,xs,h=>by
  simp[Ty.unxs]at h;grind
 |n+1,cs,xs,h=>by
  simp only[Ty.unxs]at h;split at h
  .rename_i y r c;split at h
   .rename_i f a;cases h;obtain⟨e,g⟩:=zQ8 a;have j:=qA7 t cs y r c;refine⟨by simp[e],?_⟩;intro i x k m d l
    cases i with
    |zero=>
     grind
    |succ i=>
     grind[List.getElem?_append_right,kQ,Nat.succ_mul]
   .cases h
  .cases h
theorem zSC{t:Ty}:∀{ds:List V} {xs:List t.El},t.decs ds=Sa xs->qF3 ds (xs.map t.enc)
 |[],xs,h=>by cases h;exact⟨rfl,fun i x y h=>by simp at h⟩
 |d::ds,xs,h=>by
  simp only[Ty.decs]at h;split at h
  .rename_i x e;split at h
   .rename_i f a;cases h;obtain⟨c,g⟩:=zSC a;refine⟨by simpa using c,?_⟩
    grind[zPi]
   .cases h
  .cases h
theorem qP.typed{cap:Nat}{es:List V}{t:Ty}{xs:List t.El}(h:qP g C i j cap es)(c:t.size=j)(a:qF3 es (xs.map t.enc)):
  qP g C i j cap (xs.map t.enc):=by
 refine h.weak a.1 ?_ a.2;intro q hq;simp at hq;obtain⟨z,_,rfl⟩:=hq;rw[wZ];exact c
inductive R(St:Type) where
 |ret (x:T)
 |var (cs:List T)
 |own (k:Nat) (es:List V)
 |frz (es:List V)
 |call (st:St) (view:Bool) (r:RV)
 |mk
 |frzT (t:Ty) (xs:List t.El)
 |ownT (t:Ty) (xs:List t.El)
def zVm(xType:TypeId)(es:List MapEntry)(index:Value)(commaOk:Bool):Sem Value:=do
 let .map key elem ← underlying xType | stuck "Lookup: map type expected"
 Ag es.isEmpty 10000 key index
 let (v,ok) <-match<-Ah key index es with
  |some (_,v)=>pure (v,Sd)
  |none=>pure (<-zeroValue elem,Sc)
 pure (if commaOk then .tuple #[v,.bool ok]else v)
def qF7(mapType:TypeId)(es:List MapEntry)(ck:Nat)(key value:Value):Sem (List MapEntry×Nat):=do
 let .map keyType _ ← underlying mapType | stuck "MapUpdate: map type expected"
 Ag Sc 10000 keyType key
 match<-Ah keyType key es with
 |some (i,_)=>do
  let key<-Instr.keyThatStays (((es[i]?).map (·.key)).getD key) key
  pure (es.modify i (fun e=> { e with key,val:=value }),ck)
 |none=>pure (es++[{ key,val:=value,born:=ck }],ck+1)
def zGf(P:j6)(t:TypeId):Option Bool:=
 match P.und t with
 |some (.struct _)=>Sa Sd
 |some (.array _ _)=>Sa Sd
 |some _=>Sa Sc
 |none=>Sb
def wB(P:j6)(t:TypeId):Option Nat:=(P.inf t).map (·.size)
def ldV(P:j6)(t:TypeId)(cs:List V):Option V:=
 match zGf P t with
 |some Sd=>match wB P t with
  |some n=>if n<=cs.length then Sa (.agg (cs.take n))else Sb
  |none=>Sb
 |some Sc=>cs.head?
 |none=>Sb
def yN:List T->Option (List V)
 |[]=>Sa []
 |.p d::r=>(yN r).map (d:: ·)
 |_=>Sb
def ldT(P:j6)(t:TypeId)(cs:List T):Option T:=
 match zGf P t with
 |some Sd=>match wB P t with
  |some n=>if n<=cs.length then(yN (cs.take n)).map (fun a=>.p (.agg a))else Sb
  |none=>Sb
 |some Sc=>cs.head?
 |none=>Sb
def zW5(P:j6)(t:TypeId)(cs:List V)(off:Nat):Option V:=
 match zGf P t with
 |some Sd=>match wB P t with
  |some n=>Sa (.agg ((cs.drop off).take n))
  |none=>Sb
 |some Sc=>cs[off]?
 |none=>Sb
def zID(P:j6)(t:TypeId)(i:Nat):Option Field:=
 match P.und t with
 |some (.struct a)=>a[i]?
 |_=>Sb
def V.leafy:V->Bool
 |.val (.agg _)=>Sc
 |_=>Sd
def zUh(a:Nat->Option (Nat×Nat))(cells:List V):List (Nat×V)->Option (List V)
 |[]=>Sa cells
 |(i,v)::d=>
  match a i with
  |none=>Sb
  |some (f,size)=>
   if v.leafy=Sc\/v.cells.length≠size\/f+v.cells.length>cells.length then Sb
   else zUh a (v.cells.zipIdx.foldl (fun g (c,j)=>g.set (f+j) c) cells) d
section
variable {St:Type}(P:j6)(G:Nat->Option (List V))(S:FuncId->St->List V->Option (St×RV))(e:Env St)
def evx:Operand->T
 |.tmp t=>e.get t
 |.const v=>.p (V.ofVal v)
 |.global g=>match G g with
  |some a=>.p (.pp a)
  |none=>.p (.val (.pointer (Sa ⟨g,0,Sb⟩)))
 |.func f=>.p (.clo f [])
def yW:T->Option Value
 |.p d=>d.toVal
 |_=>Sb
def zAr(o:Oper):Option (R St):=
 if o.op.operands.toList.all (fun x=>(yW (evx G e x)).isSome)then
  match wK P.P (execOp (fun x=>(yW (evx G e x)).getD undef) o)with
  |some (.value v)=>Sa (.ret (.p (V.ofVal v)))
  |_=>Sb
 else Sb
def zKn:T->Option V
 |.p d=>Sa d
 |.emp=>Sa (.sl [])
 |.ow _ _ c=>Sa (.sl c)
 |.ot _ t f=>Sa (.tl t f)
 |.lp s a=>match e.var s with
  |some g=>(yN (g.drop a)).map .pp
  |none=>Sb
 |_=>Sb
def T.isView:T->Bool
 |.ow _ _ _|.lp _ _|.ot _ _ _=>Sd
 |_=>Sc
def Ty.flat:Ty->Bool
 |.sl _=>Sc
 |.rf=>Sc
 |.hd=>Sc
 |.pt _=>Sc
 |.pair a b=>a.flat&&b.flat
 |_=>Sd
def Ty.bare:(t:Ty)->t.El->Bool
 |.sl _,xs=>xs.isEmpty
 |.rf,_=>Sc
 |.hd,_=>Sc
 |.pt _,_=>Sc
 |.pair a b,x=>a.bare x.1&&b.bare x.2
 |_,_=>Sd
def RV.plain:RV->Bool
 |.p d=>d.toVal.isSome
 |.own a=>a.all (fun d=>d.toVal1.isSome)
 |.ownT t xs=>t.flat||xs.all t.bare
def zOh:List Operand->Option (List V)
 |[]=>Sa []
 |x::r=>match zKn e (evx G e x),zOh r with
  |some d,Sa a=>Sa (d::a)
  |_,_=>Sb
def yU:List Operand->Option (List V)
 |[]=>Sa []
 |x::r=>match evx G e x,yU r with
  |.p d,Sa a=>Sa (d::a)
  |_,_=>Sb
def zAk:List (Nat×Operand)->Option (List (Nat×V))
 |[]=>Sa []
 |(i,x)::r=>match evx G e x,zAk r with
  |.p d,Sa a=>Sa ((i,d)::a)
  |_,_=>Sb
def zQX(t:TypeId)(cs:List V)(i:Nat):Option (R St):=
 match zID P t i with
 |some f=>(zW5 P f.type cs f.offset).map (fun d=>.ret (.p d))
 |none=>Sb
def zIE(t:TypeId):T->Option (R St)
 |.p (.pp c)=>(ldV P t c).map (fun d=>.ret (.p d))
 |.lp s a=>match e.var s with
  |some c=>(ldT P t (c.drop a)).map .ret
  |none=>Sb
 |.oe _ _ f i a=>match f[i]? with
  |some d=>(ldV P t (d.cells.drop a)).map (fun d=>.ret (.p d))
  |none=>Sb
 |_=>Sb
def zQW(t:TypeId):Nst->Option (R St)
 |⟨id,a,c,d,j,f,m⟩=>match m with
  |.p i=>if i=j/\zGf P t=Sa Sc then Sa (.ret (.on ⟨id,a,c,d,j,f,.r⟩))else Sb
  |_=>Sb
def zIF(t:TypeId):T->Option (R St)
 |.on n=>zQW P t n
 |.oet _ c f i a=>match f[i]? with
  |some x=>(ldV P t ((c.cells x).drop a)).map (fun d=>.ret (.p d))
  |none=>Sb
 |x=>zIE P e t x
def zAH(t:TypeId)(i:Nat)(x:T):Option (R St):=
 match zID P t i with
 |some f=>match wB P f.type with
  |some (_+1)=>match x with
   |.p (.pp c)=>Sa (.ret (.p (.pp (c.drop f.offset))))
   |.p (.hp c)=>Sa (.ret (.p (.hp (c.drop f.offset))))
   |.p (.pt d (Sa y))=>Sa (.ret (.p (.hp ((d.cells y.2).drop f.offset))))
   |.lp s a=>Sa (.ret (.lp s (a+f.offset)))
   |.oe id k g i a=>Sa (.ret (.oe id k g i (a+f.offset)))
   |_=>Sb
  |_=>Sb
 |none=>Sb
def zIG(t:TypeId)(i:Nat):Nst->Option (R St)
 |⟨id,a,d,g,j,h,m⟩=>match m with
  |.q k c=>match zID P t i with
   |some f=>match wB P f.type with
    |some (_+1)=>Sa (.ret (.on ⟨id,a,d,g,j,h,.q k (c+f.offset)⟩))
    |_=>Sb
   |none=>Sb
  |_=>Sb
def zBr(t:TypeId)(i:Nat)(x:T):Option (R St):=
 match x with
 |.on n=>zIG P t i n
 |.oet id c d j a=>match zID P t i with
  |some f=>match wB P f.type with
   |some (_+1)=>Sa (.ret (.oet id c d j (a+f.offset)))
   |_=>Sb
  |none=>Sb
 |x=>zAH P t i x
def yE(t:TypeId)(x:T)(i:Int):Option (R St):=
 if 0<=i then
  match P.und t,x with
  |some (.slice a),.p (.sl f)=>match f[i.toNat]? with
   |some d=>if wB P a=Sa d.cells.length then Sa (.ret (.p (.pp d.cells)))else Sb
   |none=>Sb
  |some (.slice a),.ow id k f=>if i.toNat<f.length/\wB P a=Sa k then Sa (.ret (.oe id k f i.toNat 0))else Sb
  |some (.array n a),.p (.pp g)=>match wB P a with
   |some z=>if i<n then Sa (.ret (.p (.pp (g.drop (i.toNat*z)))))else Sb
   |none=>Sb
  |some (.array n a),.p (.hp g)=>match P.ty a with
   |some h=>if wB P a=Sa h.size then
     match h.unxs n g with
     |some l=>match l[i.toNat]? with
      |some x=>Sa (.ret (.p (.hp (h.cells x))))
      |none=>Sb
     |none=>Sb
    else Sb
   |none=>Sb
  |some (.array n a),.lp s c=>match wB P a with
   |some z=>if i<n then Sa (.ret (.lp s (c+i.toNat*z)))else Sb
   |none=>Sb
  |some (.array n a),.oe id k f j c=>match wB P a with
   |some z=>if i<n then Sa (.ret (.oe id k f j (c+i.toNat*z)))else Sb
   |none=>Sb
  |_,_=>Sb
 else Sb
def zDk(t:TypeId)(i:Int):Nst->Option (R St)
 |⟨id,a,c,d,j,f,m⟩=>if 0<=i then
   match P.und t with
   |some (.slice g)=>match m with
    |.s=>if wB P g=Sa 1/\i.toNat<d.length then Sa (.ret (.on ⟨id,a,c,d,j,f,.p i.toNat⟩))else Sb
    |.r=>if wB P g=Sa c.size/\i.toNat<f.length then Sa (.ret (.on ⟨id,a,c,d,j,f,.q i.toNat 0⟩))else Sb
    |_=>Sb
   |_=>Sb
  else Sb
def yJ(t:TypeId)(x:T)(i:Int):Option (R St):=
 match x with
 |.on n=>zDk P t i n
 |.p (.tl a c)=>if 0<=i then
   match P.und t with
   |some (.slice d)=>if wB P d=Sa a.size then
     match c[i.toNat]? with
     |some x=>Sa (.ret (.p (.pp (a.cells x))))
     |none=>Sb
    else Sb
   |_=>Sb
  else Sb
 |.ot id a c=>if 0<=i then
   match P.und t with
   |some (.slice d)=>if wB P d=Sa a.size then
     if i.toNat<c.length then Sa (.ret (.oet id a c i.toNat 0))else Sb
    else Sb
   |_=>Sb
  else Sb
 |.oet id a c j f=>if 0<=i then
   match P.und t with
   |some (.array n d)=>match wB P d with
    |some z=>if i<n then Sa (.ret (.oet id a c j (f+i.toNat*z)))else Sb
    |none=>Sb
   |_=>Sb
  else Sb
 |x=>yE P t x i
def zAZ(d:Option T)(a c:Nat):Option Nat:=
 match d with
 |none=>Sa a
 |some (.p (.val (.int _ i)))=>if 0<=i/\i<=c then Sa i.toNat else Sb
 |_=>Sb
def zKL(t:TypeId)(es:List V)(lo hi mx:Option T):Option (R St):=
 match P.und t with
 |some (.slice a)=>
  match mx with
  |none=>match zAZ hi es.length es.length with
   |some h=>match zAZ lo 0 h with
    |some l=>match wB P a with
     |some z=>match es[l]? with
      |some d=>if d.cells.length=z then Sa (.ret (.p (.sl ((es.take h).drop l))))else Sb
      |none=>Sa (.ret (.p (.sl [])))
     |none=>Sb
    |none=>Sb
   |none=>Sb
  |some (.p (.val (.int _ 0)))=>match hi,lo with
   |some (.p (.val (.int _ 0))),Sb=>match wB P a with
    |some _=>Sa (.ret .emp)
    |none=>Sb
   |_,_=>Sb
  |_=>Sb
 |_=>Sb
def zHY(t:TypeId)(ty:Ty)(xs:List ty.El)(lo hi mx:Option T):Option (R St):=
 match P.und t with
 |some (.slice a)=>if wB P a=Sa ty.size then
   match mx with
   |none=>match zAZ hi xs.length xs.length with
    |some h=>match zAZ lo 0 h with
     |some l=>Sa (.ret (.p (.tl ty ((xs.take h).drop l))))
     |none=>Sb
    |none=>Sb
   |some _=>Sb
  else Sb
 |_=>Sb
def qAw(o:Option (Nat×Nat)):Nat:=
 match o with
 |none=>0
 |some q=>q.2
def zXG(x:T):Option (R St):=
 match x with
 |.p (.tl _ a)=>Sa (.ret (.p (.val (.int .i64 a.length))))
 |.ot _ _ a=>Sa (.ret (.p (.val (.int .i64 a.length))))
 |.p (.sl c)=>Sa (.ret (.p (.val (.int .i64 c.length))))
 |.ow _ _ c=>Sa (.ret (.p (.val (.int .i64 c.length))))
 |.emp=>Sa (.ret (.p (.val (.int .i64 0))))
 |.p (.rf o)=>Sa (.ret (.p (.val (.int .i64 (qAw o)))))
 |_=>Sb
def zNT(t:TypeId)(a:List (Nat×V)):Option (R St):=
 match(P.inf t).bind (·.zero)with
 |some z=>match P.und t with
  |some (.struct d)=>if d.toList.all (fun f=>(wB P f.type).isSome)then(zUh ((d.map fun f=>(f.offset,(wB P f.type).getD 0))[·]?) (V.ofVal1 z).cells a).map (fun c=>.ret (.p (.agg c)))else Sb
  |some (.array _ g)=>match wB P g with
   |some n=>(zUh (fun i=>Sa (i*n,n)) (V.ofVal1 z).cells a).map (fun c=>.ret (.p (.agg c)))
   |none=>Sb
  |_=>Sb
 |none=>Sb
def V.noAgg:V->Bool
 |.agg _=>Sc
 |_=>Sd
def x7(a:Bool)(k:Nat):Nat->List V->List V
 |0,_=>[]
 |n+1,flat=>(if a then .agg (flat.take k)else(flat.head?).getD (.val undef))::x7 a k n (flat.drop k)
def zDl(t:TypeId)(len:Nat)(c:List (Nat×V)):Option (R St):=
 match P.und t with
 |some (.slice f)=>match P.inf f with
  |some a=>match a.zero,zGf P f with
   |some z,Sa d=>
    if len*a.size<=16777216/\(V.ofVal1 z).cells.length=a.size/\a.size≠0/\(d=Sc->a.size=1)then
     match zUh (fun i=>Sa (i*a.size,a.size)) ((List.range (len*a.size)).map (fun i=>((V.ofVal1 z).cells[i%a.size]?).getD (.val undef))) c with
     |some flat=>if d||flat.all V.noAgg then(if len=0 then Sa (.own a.size [])else match P.ty f with
       |some g=>if g.size=a.size then match g.decs (x7 d a.size len flat)with
        |some h=>Sa (.frzT g h)
        |none=>Sa (.frz (x7 d a.size len flat))
        else Sa (.frz (x7 d a.size len flat))
       |none=>Sa (.frz (x7 d a.size len flat)))else Sb
     |none=>Sb
    else Sb
   |_,_=>Sb
  |none=>Sb
 |_=>Sb
def zCD(t:TypeId)(n:Int):Option (R St):=
 match P.und t with
 |some (.slice d)=>match P.inf d with
  |some a=>match a.zero with
   |some z=>
    if 0<=n/\n*a.bytes<=0x800000000000/\1<=a.bytes/\(V.ofVal1 z).cells.length=a.size/\a.size≠0 then
     match P.ty d with
     |some c=>match c.dec (V.ofVal1 z)with
      |some x=>if c.size=a.size then Sa (.ownT c (List.replicate n.toNat x))else Sb
      |none=>Sa (.own a.size (List.replicate n.toNat (V.ofVal1 z)))
     |none=>Sa (.own a.size (List.replicate n.toNat (V.ofVal1 z)))
    else Sb
   |none=>Sb
  |none=>Sb
 |_=>Sb
def zN9(a:Bool):Option (St×RV)->Option (R St)
 |some (st,r)=>if a&& !r.plain then Sb else Sa (.call st a r)
 |none=>Sb
def zAq:Nat:=1000000
def zGZ(t:TypeId):T->Option (R St)
 |.p (.hp a)=>(ldV P t a).map (fun d=>.ret (.p d))
 |.p (.pt c (Sa y))=>(ldV P t (c.cells y.2)).map (fun d=>.ret (.p d))
 |_=>Sb
def zRv{α β:Type}(o:Option (Nat×α))(a:Option (Nat×β)):Bool:=
 match o,a with
 |none,Sb=>Sd
 |some x,Sa y=>Nat.beq x.1 y.1
 |_,_=>Sc
def zSl(op:BinOp)(t:TypeId):T->T->Option (R St)
 |.p (.pt _ o),.p (.pt _ a)=>match P.und t with
  |some (.pointer c)=>match wB P c with
   |some (_+1)=>match op with
    |.eql=>Sa (.ret (.p (.val (.bool (zRv o a)))))
    |.neq=>Sa (.ret (.p (.val (.bool (!zRv o a)))))
    |_=>Sb
   |_=>Sb
  |_=>Sb
 |_,_=>Sb
def qFx:T->Option V
 |.p (.rf q)=>Sa (.rf q)
 |.emp=>Sa .bot
 |.p (.val (.slice Sb 0 0))=>Sa .bot
 |_=>Sb
def zMo(c:Call):Option (R St):=
 match c.args.toList,c.argTypes.toList with
 |[g,h],[i,j]=>match qFx (evx G e g),evx G e h with
  |some q,.p (.tl t k)=>match P.fn zAq with
   |some _=>Sb
   |none=>match P.und i,P.und j with
    |some (.slice l),Sa (.slice _)=>match P.inf l with
     |some a=>match a.zero with
      |some z=>if t.size=a.size/\1<=a.bytes/\z.cells.size=a.size then
        match S zAq e.st [.bot,q,.tl t k,.val (.int .i64 a.bytes)]with
        |some (f,.p d)=>Sa (.call f Sc (.p d))
        |_=>Sb
       else Sb
      |none=>Sb
     |none=>Sb
    |_,_=>Sb
  |_,_=>Sb
 |_,_=>Sb
def zJ7(c:Call)(o:Oper):Option (R St):=
 match c.callee with
 |.builtin .append=>match zMo P G S e c with
  |some r=>Sa r
  |none=>zAr P G e o
 |.builtin .len=>match c.args[0]? with
  |some x=>match zXG (evx G e x)with
   |some r=>match c.argTypes[0]? with
    |some t=>match P.und t with
     |some (.slice _)=>if c.args.size=1 then Sa r else Sb
     |_=>Sb
    |none=>Sb
   |none=>zAr P G e o
  |none=>Sb
 |.builtin _=>zAr P G e o
 |.invoke _ _=>Sb
 |.value f=>match evx G e f,zOh G e c.args.toList with
  |.p (.clo g a),Sa d=>zN9 (c.args.toList.any (fun x=>(evx G e x).isView)) (S g e.st (d++a))
  |_,_=>Sb
def T.thereS:T->Bool
 |.p (.sl (_::_))|.ow _ _ _|.p (.tl _ (_::_))=>Sd
 |_=>Sc
def zSi(op:BinOp)(t:TypeId)(x y:T):Option (R St):=
 if x.thereS then match y with
  |.p (.val (.slice Sb _ _))=>match op with
   |.eql=>match P.und t with
    |some (.slice _)=>Sa (.ret (.p (.val (.bool Sc))))
    |_=>Sb
   |.neq=>match P.und t with
    |some (.slice _)=>Sa (.ret (.p (.val (.bool Sd))))
    |_=>Sb
   |_=>Sb
  |_=>Sb
 else match x with
  |.p (.hd _)=>match y with
   |.p (.val (.pointer Sb))=>match op with
    |.eql=>match P.und t with
     |some (.pointer _)=>Sa (.ret (.p (.val (.bool Sc))))
     |_=>Sb
    |_=>Sb
   |_=>Sb
  |.p (.pt _ o)=>match y with
   |.p (.val (.pointer Sb))=>match P.und t with
    |some (.pointer _)=>match op with
     |.eql=>Sa (.ret (.p (.val (.bool o.isNone))))
     |.neq=>Sa (.ret (.p (.val (.bool (!o.isNone)))))
     |_=>Sb
    |_=>Sb
   |_=>Sb
  |_=>Sb
def qEi(eq:TypeId->V->V->Option Bool)(xs ys:List V):List Field->Option Bool
 |[]=>Sa Sd
 | f :: r => if f.name = "_" then none else
  match zW5 P f.type xs f.offset,zW5 P f.type ys f.offset with
  |some a,Sa b=>match eq f.type a b,qEi eq xs ys r with
   |some c,Sa c'=>Sa (c&&c')
   |_,_=>Sb
  |_,_=>Sb
def eqV:Nat->TypeId->V->V->Option Bool
 |0,_,_,_=>Sb
 |d+1,t,x,y=>match P.und t with
  |some .bool=>match x,y with
   |.val (.bool a),.val (.bool b)=>Sa (a==b)
   |_,_=>Sb
  |some (.int _)=>match x,y with
   |.val (.int k a),.val (.int c b)=>if k=c then Sa (a==b)else Sb
   |_,_=>Sb
  |some .string=>match x,y with
   |.val (.string a),.val (.string b)=>Sa (a==b)
   |_,_=>Sb
  |some (.struct f)=>match x,y with
   |.agg g,.agg h=>if P.P.stoodInHeld t=Sc then qEi P (eqV d) g h f.toList else Sb
   |_,_=>Sb
  |_=>Sb
def zZE(op:BinOp)(t:TypeId)(x y:T):Option (R St):=
 match x,y with
 |.p (.agg a),.p (.agg c)=>match op with
  |.eql=>if P.P.eqGuardType P.P.depth t=Sc then(eqV P 10000 t (.agg a) (.agg c)).map (fun b=>.ret (.p (.val (.bool b))))else Sb
  |.neq=>if P.P.eqGuardType P.P.depth t=Sc then(eqV P 10000 t (.agg a) (.agg c)).map (fun b=>.ret (.p (.val (.bool (!b)))))else Sb
  |_=>Sb
 |_,_=>Sb
def zHZ(t:TypeId)(id:Nat)(ty:Ty)(xs:List ty.El)(lo hi mx:Option T):Option (R St):=
 match P.und t with
 |some (.slice a)=>if wB P a=Sa ty.size then
   match mx with
   |none=>match zAZ hi xs.length xs.length with
    |some h=>match zAZ lo 0 h with
     |some l=>Sa (.ret (.ov id ty xs l h))
     |none=>Sb
    |none=>Sb
   |some _=>Sb
  else Sb
 |_=>Sb
def evQ(o:Oper):Option (R St):=
 match o.op with
 |.move x=>Sa (.ret (evx G e x))
 |.assign x=>Sa (.ret (evx G e x))
 |.field t x i=>match evx G e x with
  |.p (.agg B)=>zQX P t B i
  |_=>Sb
 |.extract x i=>match evx G e x with
  |.p (.tup L)=>(L[i]?).map (fun d=>.ret (.p d))
  |_=>Sb
 |.load t x=>match zGZ P t (evx G e x)with
  |some r=>Sa r
  |none=>zIF P e t (evx G e x)
 |.box _ x=>match evx G e x with
  |.p d=>if d.leafy then Sa (.var (d.cells.map .p))else Sb
  |.dead=>Sb
  |y=>Sa (.var [y])
 |.alloc t=>match(P.inf t).bind (·.zero)with
  |some z=>Sa (.var ((V.ofVal1 z).cells.map .p))
  |none=>Sb
 |.fieldAddr t x i=>zBr P t i (evx G e x)
 |.indexAddr t x E=>match evx G e E with
  |.p (.val (.int _ i))=>yJ P t (evx G e x) i
  |_=>Sb
 |.slice t x F H I=>match evx G e x with
  |.p (.sl C)=>zKL P t C (F.map (evx G e)) (H.map (evx G e)) (I.map (evx G e))
  |.p (.tl u A)=>zHY P t u A (F.map (evx G e)) (H.map (evx G e)) (I.map (evx G e))
  |.ot id u A=>zHZ P t id u A (F.map (evx G e)) (H.map (evx G e)) (I.map (evx G e))
  |_=>zAr P G e o
 |.nilCheck x=>match evx G e x with
  |.p (.pp B)=>Sa (.ret (.p (.pp B)))
  |.p (.hp B)=>Sa (.ret (.p (.hp B)))
  |.p (.pt u (Sa y))=>Sa (.ret (.p (.pt u (Sa y))))
  |.p (.clo f D)=>Sa (.ret (.p (.clo f D)))
  |.lp s a=>Sa (.ret (.lp s a))
  |.oe id k C i a=>Sa (.ret (.oe id k C i a))
  |.oet id u A i a=>Sa (.ret (.oet id u A i a))
  |.on ⟨id,J,u,A,j,M,.q k a⟩=>Sa (.ret (.on ⟨id,J,u,A,j,M,.q k a⟩))
  |_=>zAr P G e o
 |.build t g=>match zAk G e g.toList with
  |some K=>zNT P t K
  |none=>Sb
 |.buildSlice t n g=>match zAk G e g.toList with
  |some K=>zDl P t n K
  |none=>Sb
 |.makeSlice t l c=>match evx G e l,evx G e c with
  |.p (.val (.int .i64 n)),.p (.val (.int .i64 m))=>if n=m then zCD P t n else Sb
  |_,_=>Sb
 |.makeFunc (.func f) first h=>match yU G e h.toList with
  |some N=>if first.size=0 then Sa (.ret (.p (.clo f N)))else Sb
  |none=>Sb
 |.call c=>zJ7 P G S e c o
 |.makeMap _ Sb=>Sa .mk
 |.lookup t x E ok=>match evx G e x with
  |.mp _ C _=>match yW (evx G e E)with
   |some k=>(wK P.P (zVm t C k ok)).map (fun v=>.ret (.p (V.ofVal v)))
   |none=>Sb
  |_=>Sb
 |.binOp op t x y _=>match zSi P op t (evx G e x) (evx G e y)with
  |some r=>Sa r
  |none=>match zSl P op t (evx G e x) (evx G e y)with
   |some r=>Sa r
   |none=>match zZE P op t (evx G e x) (evx G e y)with
    |some r=>Sa r
    |none=>zAr P G e o
 |.unOp _ _ _|.convert _ _ _|.pick _ _ _|.index _ _ _=>zAr P G e o
 |_=>Sb
end
theorem zDw(b off i:Nat):Addr.add ⟨b,off,Sb⟩ i=⟨b,off+i,Sb⟩:=by
 grind[Addr.add]
variable {g:Program}{j:TypeId}
theorem zN{d:TypeDesc}(h:g.underlying j=Sa d)(w:World):(underlying j).run g w=.ok d w:=by simp[underlying,h]
theorem zZ{c:Bool}(h:zGf g j=Sa c)(w:World):(isAgg j).run g w=.ok c w:=by
 unfold zGf at h
 cases f:g.underlying j with
 |none=>simp[f]at h
 |some d=>cases d<;>simp[f]at h<;>subst h<;>simp[isAgg,underlying,f]
theorem xJ{i:TypeInfo}(h:g.info? j=Sa i)(w:World):(typeInfo j).run g w=.ok i w:=by simp[typeInfo,h]
variable {i:Nat}
theorem zK(h:wB g j=Sa i)(w:World):(sizeOf j).run g w=.ok i w:=by simp[wB]at h;obtain⟨P,c,rfl⟩:=h;simp[sizeOf,xJ c]
theorem zBB{i:TypeInfo}(h:g.info? j=Sa i):wB g j=Sa i.size:=by show(g.info? j).map (·.size)=Sa i.size;rw[h];rfl
variable {l:Nat}{a1:Nat->Value}{C:World}
theorem zNc:∀(n P:Nat) (c:Array Value),
  (∀m,m<n->C.cell? ⟨i,l+(P+m),Sb⟩=Sa (a1 (P+m)))->
  (loadCellsFrom ⟨i,l,Sb⟩ P n c).run g C=.ok (c++((List.range n).map (fun m=>a1 (P+m))).toArray) C:=by
 intro n
 induction n with
 |zero=>simp_all[loadCellsFrom]
 |succ n f=>
  intro P c h;have d:=h 0 (by omega);simp at d
  have j:=f (P+1) (c.push (a1 P)) (fun m k=>by
   grind)
  simp only[loadCellsFrom,Sem.run_bind,zDw,run_load,d,Result.andThen_ok,j];congr 1;apply Array.ext';simp[List.range_succ_eq_map,bx,Nat.add_comm 1]
theorem zLr{n:Nat}(h:∀m,m<n->C.cell? ⟨i,l+m,Sb⟩=Sa (a1 m)):
  (loadCells ⟨i,l,Sb⟩ n).run g C=.ok ((List.range n).map a1).toArray C:=by
 simp_all[zNc,loadCells]
theorem zFZ{P:Program}{n:Nat}(c:zGf P j=Sa Sd)(d:wB P j=Sa n)(h:∀m,m<n->C.cell? ⟨i,l+m,Sb⟩=Sa (a1 m)):
  (Ac j (.pointer (Sa ⟨i,l,Sb⟩))).run P C=.ok (.agg ((List.range n).map a1).toArray) C:=by
 simp[Ac,Ae,loadVar,zZ c,zK d,zLr h]
theorem zCb{P:Program}{x:Value}(c:zGf P j=Sa Sc)(h:C.cell? ⟨i,l,Sb⟩=Sa x):(Ac j (.pointer (Sa ⟨i,l,Sb⟩))).run P C=.ok x C:=by
 simp[Ac,Ae,loadVar,zZ c,h]
def qAa(Γ:Sig)(w:World)(F:Blk->Prop)(O:Nat->Prop)(u:Value)(w':World)(f:Γ.St)(d:V):Prop:=
 ∃(c:Blk->Prop) (g:Nat->Prop),Γ.R f c g w'/\xC O w w'/\(∀b,g b->O b\/w.heap.size<=b)/\zFM w.heap.size F c/\
  (∀b:Nat,c b->(F b\/w.heap.size<=b)/\b<w'.heap.size/\¬g b)/\Rd w' c u d
def qGl(w:World)(F:Blk->Prop)(v:Value):V->Prop
 |.bot=>∃a:Option Addr,v=.slice a 0 0
 |d=>Rd w F v d
def qGm(Γ:Sig)(P:Program)(st:Γ.St)(q:V)(t:Ty)(p:List t.El)(bytes:Nat)(f:Γ.St)(d:V):Prop:=
 ∀(g:Array TypeId) (r i j k h:TypeId) (c:TypeInfo) (z:Value) (w:World) (F:Blk->Prop) (O:Nat->Prop) (l m:Value),
  g[0]?=Sa i->g[1]?=Sa j->P.underlying i=Sa (.slice k)->P.underlying j=Sa (.slice h)->P.info? k=Sa c->c.zero=Sa z->
  t.size=c.size->1<=c.bytes->z.cells.size=c.size->c.bytes=bytes->Γ.R st F O w->(∀b:Nat,F b->b<w.heap.size/\¬O b)->
  qGl w F l q->Rd w F m (.tl t p)->∃u n,(Builtin.append_ g r #[l,m]).run P w=.ok u n/\qAa Γ w F O u n f d
def zCt(N:Nat)(w:World)(F:Blk->Prop)(O:Nat->Prop)(b:Nat)(g:Value)(t:Ty)(xs f:List t.El)(v:Value):V->Prop
 |.bot=>∃c:Nat,((c=b/\(xs=[]->f=[]))\/(N<=c/\c<w.heap.size/\¬F c/\¬O c))/\zB8 w F ⟨fun _=>c,fun _=>c⟩ (fun _=>True) v 0 t.size (f.map t.enc)
 |d=>zB8 w F ⟨fun _=>b,fun _=>b⟩ (fun _=>True) g 0 t.size (f.map t.enc)/\Rd w F v d
variable {a0:Ty}{J I:List a0.El}
theorem zCt.of{F:Blk->Prop}{O:Nat->Prop}{v0:Value}{v:Value}{d:V}(f:zB8 C F ⟨fun _=>l,fun _=>l⟩ (fun _=>True) v0 0 a0.size (I.map a0.enc))(c:Rd C F v d):zCt i C F O l v0 a0 J I v d:=by
 cases d with
 |bot=>cases c
 |_=>exact⟨f,c⟩
theorem zCt.out{F:Blk->Prop}{O:Nat->Prop}{v0:Value}{v:Value}{d:V}(hd:d=.bot->False)(h:zCt i C F O l v0 a0 J I v d):
  zB8 C F ⟨fun _=>l,fun _=>l⟩ (fun _=>True) v0 0 a0.size (I.map a0.enc)/\Rd C F v d:=by
 cases d with
 |bot=>grind
 |_=>exact h
def zCk:List V->Option (Nat×List V)
 |.bot:: .val (.int _ k)::r=>Sa (k.toNat,r)
 |_=>Sb
variable {a2:List V}
theorem zJK(h:∀r,a2≠ .bot::r):zCk a2=none:=by
 unfold zCk
 grind
def qA2(Γ:Sig)(P:Program)(G:Nat->Option (List V))(f:FuncId)(st:Γ.St)(t:Ty)(k:Nat)(xs:List t.El)(ds:List V)(m:Γ.St)(p:List t.El)(d:V):Prop:=
 ∀(w:World) (F:Blk->Prop) (O:Nat->Prop) (b h:Nat) (g:Array Value),
  Γ.R st F O w->zOo G w F->(∀c:Nat,F c->c<w.heap.size/\¬O c)->
  qP w F b t.size h (xs.map t.enc)->xs.length=1->b<w.heap.size/\¬F b/\¬O b->
  g.size=ds.length+1->k<=ds.length->g[k]?=Sa (.pointer (Sa ⟨b,0,Sb⟩))->
  (∀(i:Nat) (x:Value) (d:V),g[if i<k then i else i+1]?=Sa x->ds[i]?=Sa d->Rd w F x d)->
  Calls P f g w fun e j=>∃(v:Value) (l:Blk->Prop) (n:Nat->Prop),e=.returned v/\Γ.R m l n j/\xC (fun c=>O c\/c=b) w j/\
   (∀c,n c->O c\/w.heap.size<=c)/\zFM w.heap.size F l/\(∀c:Nat,l c->(F c\/w.heap.size<=c)/\c<j.heap.size/\¬n c)/\
   qP j l b t.size h (p.map t.enc)/\p.length=1/\Rd j l v d
def zUH(Γ:Sig)(P:Program)(G:Nat->Option (List V))(f:FuncId)(st:Γ.St)(t:Ty)(xs:List t.El)(ds:List V)(l:Γ.St)(n:List t.El)(d:V):Prop:=
 ∀(w:World) (F:Blk->Prop) (O:Nat->Prop) (b:Nat) (m:Value) (g:Array Value),
  Γ.R st F O w->zOo G w F->(∀c:Nat,F c->c<w.heap.size/\¬O c)->
  zB8 w F ⟨fun _=>b,fun _=>b⟩ (fun _=>True) m 0 t.size (xs.map t.enc)->(xs≠[]->b<w.heap.size/\¬F b/\¬O b)->
  g.size=ds.length+1->g[0]?=Sa m->(∀(i:Nat) (x:Value) (d:V),g[i+1]?=Sa x->ds[i]?=Sa d->Rd w F x d)->
  Calls P f g w fun e h=>∃(v:Value) (j:Blk->Prop) (k:Nat->Prop),e=.returned v/\Γ.R l j k h/\xC (fun c=>O c\/(xs≠[]/\c=b)) w h/\
   (∀c,k c->O c\/w.heap.size<=c)/\zFM w.heap.size F j/\(∀c:Nat,j c->(F c\/w.heap.size<=c)/\c<h.heap.size/\¬k c)/\
   zCt w.heap.size h j k b m t xs n v d
def zAy(Γ:Sig)(P:Program)(G:Nat->Option (List V))(f:FuncId)(st:Γ.St)(t:Ty)(xs:List t.El)(ds:List V)(c:Γ.St)(g:List t.El)(d:V):Prop:=
 match zCk ds with
 |none=>zUH Γ P G f st t xs ds c g d
 |some (k,r)=>qA2 Γ P G f st t k xs r c g d
variable {a3:Nat->Option (List V)}
theorem zAy.of{Γ:Sig}{f:FuncId}{st:Γ.St}{c:Γ.St}{d:V}(h:zCk a2=Sb)(hr:zUH Γ g a3 f st a0 J a2 c I d):zAy Γ g a3 f st a0 J a2 c I d:=by grind[zAy]
theorem zAy.row{Γ:Sig}{f:FuncId}{st:Γ.St}{c:Γ.St}{d:V}(h:zCk a2=Sb)(hr:zAy Γ g a3 f st a0 J a2 c I d):zUH Γ g a3 f st a0 J a2 c I d:=by grind[zAy]
structure qK(Γ:Sig)(P:Program)(G:Nat->Option (List V))(S:vF Γ):Prop where
 ok:∀f,jJ Γ P G f (S f)
 is : ∀ f s ds r, S f s ds = some r → (∀ ds', ds ≠ .bot :: ds') → ∃ fn, P.funcs[f]? = some fn ∧ fn.body.isSome = true ∧ (fn.name == "runtime.NumGoroutine") = false
 app:P.funcs[zAq]?=Sb->∀st q t ys (bytes:Nat) st' d,S zAq st [.bot,q,.tl t ys,.val (.int .i64 bytes)]=Sa (st',.p d)->qGm Γ P st q t ys bytes st' d
 bor : ∀ f st t xs ds st' ys d, S f st (.bot :: .tl t xs :: ds) = some (st', .p (.tup [.tl t ys, d])) → zAy Γ P G f st t xs ds st' ys d ∧ ∃ fn, P.funcs[f]? = some fn ∧ fn.body.isSome = true ∧ (fn.name == "runtime.NumGoroutine") = false
def Fal(F:Blk->Prop)(β:Lay)(al:v6->Prop)(b:Blk):Prop:=F b\/∃x,al x/\Blk.b (β.blk x)=b
def zDU(Γ:Sig)(P:Program)(S:vF Γ)(o:Oper)(a:Act)(w:World)(F:Blk->Prop)(β:Lay)(al y:v6->Prop)(st:Γ.St):R Γ.St->Prop
 |.ret x=>∃v,(execOp a.eval o).run P w=.ok (.value v) w/\zY w F β al v x
 |.var B=>∃(c:Array Value) (n:TypeId),(execOp a.eval o).run P w=.ok (.value (.pointer (Sa ⟨w.heap.size,0,Sb⟩))) { w with heap:=w.heap.push (.cells c n) } /\
   c.size=B.length/\∀(i:Nat) (x:Value) (d:T),c[i]?=Sa x->B[i]?=Sa d->zY w F β al x d
 |.own k g=>∃(c:Array Value) (n:TypeId) (h:Nat),(execOp a.eval o).run P w=.ok (.value (.slice (Sa ⟨w.heap.size,0,Sb⟩) g.length h)) { w with heap:=w.heap.push (.cells c n) } /\
   c.size=h*k/\g.length<=h/\(g=[]->h=0)/\(∀e,e∈g->e.cells.length=k)/\
   ∀(i j:Nat) (e d:V) (x:Value),g[i]?=Sa e->e.cells[j]?=Sa d->c[i*k+j]?=Sa x->Rd w F x d
 |.frz g=>∃(c:Array Value) (n:TypeId) (k:Nat),(execOp a.eval o).run P w=.ok (.value (.slice (Sa ⟨w.heap.size,0,Sb⟩) g.length g.length)) { w with heap:=w.heap.push (.cells c n) } /\
   c.size=g.length*k/\(∀e,e∈g->e.cells.length=k)/\
   ∀(i j:Nat) (e d:V) (x:Value),g[i]?=Sa e->e.cells[j]?=Sa d->c[i*k+j]?=Sa x->Rd w F x d
 |.call q l r=>(l=Sc/\∃d,r=.p d/\∀O,Γ.R st F O w->(∀b:Nat,F b->b<w.heap.size/\¬O b)->∃u C,(execOp a.eval o).run P w=.ok (.value u) C/\qAa Γ w F O u C q d)\/
   ∃(f:FuncId) (m:Array Value) (z:List V),(execOp a.eval o).run P w=.ok (.enter f m) w/\m.size=z.length/\
   (∀(i:Nat) (x:Value) (d:V),m[i]?=Sa x->z[i]?=Sa d->Rd w (if l then Fal F β y else F) x d)/\
   S f st z=Sa (q,r)/\(l=Sd->r.plain=Sd)
 |.frzT t A=>∃(g:List V) (c:Array Value) (n:TypeId),(execOp a.eval o).run P w=.ok (.value (.slice (Sa ⟨w.heap.size,0,Sb⟩) g.length g.length)) { w with heap:=w.heap.push (.cells c n) } /\
   c.size=g.length*t.size/\(∀e,e∈g->e.cells.length=t.size)/\
   (∀(i j:Nat) (e d:V) (x:Value),g[i]?=Sa e->e.cells[j]?=Sa d->c[i*t.size+j]?=Sa x->Rd w F x d)/\qF3 g (A.map t.enc)
 |.ownT t A=>∃(g:List V) (c:Array Value) (n:TypeId) (h:Nat),(execOp a.eval o).run P w=.ok (.value (.slice (Sa ⟨w.heap.size,0,Sb⟩) g.length h)) { w with heap:=w.heap.push (.cells c n) } /\
   c.size=h*t.size/\g.length<=h/\(g=[]->h=0)/\(∀e,e∈g->e.cells.length=t.size)/\
   (∀(i j:Nat) (e d:V) (x:Value),g[i]?=Sa e->e.cells[j]?=Sa d->c[i*t.size+j]?=Sa x->Rd w F x d)/\qF3 g (A.map t.enc)
 |.mk=>(execOp a.eval o).run P w=.ok (.value (.map (Sa w.heap.size))) { w with heap:=w.heap.push (.map #[] 0) }
section
variable {Γ:Sig}{P:Program}{G:Nat->Option (List V)}{S:vF Γ}{e:Env Γ.St}{o:Oper}{a:Act}{w:World}{F:Blk->Prop}{β:Lay}{al:v6->Prop}
variable {i:Value}
theorem zNQ{u:Value}{x:T}(h:zY w F β al i x)(c:yW x=Sa u):i=u:=by cases x<;>simp[yW]at c;exact Rd.eq_toVal h c
variable {g:R Γ.St}
theorem xY(f:∀cs b,o.op≠ .select cs b)(c:∀x,x∈o.op.operands->zY w F β al (a.eval x) (evx G e x))(h:zAr P G e o=Sa g){st:Γ.St}:zDU Γ P S o a w F β al al st g:=by
 unfold zAr at h;split at h
 .rename_i d
  have r:execOp a.eval o=execOp (fun x=>(yW (evx G e x)).getD undef) o:=by
   grind[execOp_congr,List.all_eq_true,Option.isSome_iff_exists,zNQ]
  split at h
  .rename_i v i;cases h;exact⟨v,by grind[zD5],zNj w F v⟩
  .cases h
 .cases h
theorem zQP{t:TypeId}{cs:List V}{d:V}{b off:Nat}{g:Nat->Value}
  (i:∀m,m<cs.length->w.cell? ⟨b,off+m,Sb⟩=Sa (g m)) (j:∀(m:Nat) (d:V),cs[m]?=Sa d->Rd w F (g m) d)
  (h:ldV P t cs=Sa d):∃v,(Ac t (.pointer (Sa ⟨b,off,Sb⟩))).run P w=.ok v w/\Rd w F v d:=by
 unfold ldV at h;split at h
 .rename_i f;split at h
  .rename_i n k;split at h
   .rename_i l;cases h;refine⟨_,zFZ f k (fun m p=>i m (by omega)),?_⟩;refine .agg _ _ (by simp;omega) ?_
    grind
   .cases h
  .cases h
 .rename_i f
  cases cs with
  |nil=>simp at h
  |cons c cs=>
   simp at h;subst h;refine⟨g 0,zCb f ?_,j 0 c rfl⟩
   grind
 .cases h
theorem zHd:∀{cs:List T} {ds:List V},yN cs=Sa ds->cs=ds.map .p:=by
 intro cs
 induction cs with
 |nil=>grind[yN]
 |cons c cs d=>
  intro ds h;cases c<;>simp[yN]at h
  grind
theorem w6.at{b:Nat}{cs:List T}(h:w6 w F β al b cs)(i:Nat)(hi:i<cs.length):
  ∃x,w.cell? ⟨b,i,Sb⟩=Sa x/\zY w F β al x cs[i]:=by
 obtain⟨c,g,j,k,f⟩:=h;have d:i<c.size:=by omega
 refine⟨c[i],by grind[World.cell?],f i _ _ (by simp[d]) (by simp[hi])⟩
theorem zPT(z:∀s cs,e.var s=Sa cs->al (.v s)->w6 w F β al (β.vb s) cs){t:TypeId}{x:T}{r:R Γ.St}(H:zY w F β al i x)(h:zIE P e t x=Sa r):∃u y,r=.ret y/\(Ac t i).run P w=.ok u w/\zY w F β al u y:=by
 unfold zIE at h;split at h
 .rename_i cs;simp at h;obtain⟨d,C,rfl⟩:=h
  cases H with
  |pp b f cs g hF I hr=>obtain⟨u,B,A⟩:=zQP I hr C;exact⟨u,_,rfl,B,A⟩
 .rename_i s f;obtain⟨Y,rfl⟩:=H;split at h
  .rename_i cs J;have Z:=z s cs J Y;simp at h;obtain⟨y,j,rfl⟩:=h;unfold ldT at j;split at j
   .rename_i l;split at j
    .rename_i n hn;split at j
     .rename_i K;simp at j;obtain⟨ds,L,rfl⟩:=j;have M:=zHd L;simp at K
      have q:ds.length=n:=by
       have:=congrArg List.length M
       grind
      have N:∀m,m<n->∃x,w.cell? ⟨β.vb s,f+m,Sb⟩=Sa x/\∀d,ds[m]?=Sa d->Rd w F x d:=by
       intro m D;obtain⟨x,B,A⟩:=Z.at (f+m) (by omega)
       refine⟨x,B,fun d C=>?_⟩;have E:((cs.drop f).take n)[m]?=Sa (.p d):=by grind
       rw[cG,if_pos D,cH]at E;rw[ah (by omega),ac]at E;rw[E]at A;exact A
      let g:Nat->Value:=fun m=>(w.cell? ⟨β.vb s,f+m,Sb⟩).getD undef
      have I:∀m,m<n->w.cell? ⟨β.vb s,f+m,Sb⟩=Sa (g m):=fun m D=>by
       grind
      refine⟨_,_,rfl,zFZ l hn I,?_⟩;refine Rd.agg _ _ (by simp[q]) ?_
      grind
     .cases j
    .cases j
   .rename_i l
    have hlt:f<cs.length:=by
     grind[Nat.lt_or_ge,List.drop_eq_nil_of_le]
    rw[List.head?_drop,ah hlt,ac]at j;subst j;obtain⟨x,B,A⟩:=Z.at f hlt;exact⟨x,_,rfl,zCb l B,A⟩
   .cases j
  .cases h
 .rename_i id k es v f;obtain⟨Y,hi,O,rfl,c,et,B,A,E,h4,h5⟩:=H;split at h
  .rename_i Q W;simp at h;obtain⟨d,C,rfl⟩:=h;have hk:=h4 Q (ae W);let g:Nat->Value:=fun m=>(c[v*k+(f+m)]?).getD undef
   have ab:∀m,f+m<k->v*k+(f+m)<c.size:=by
    intro m D;have:(v+1)*k<=O*k:=aq k (by omega)
    grind
   have q:(Q.cells.drop f).length=k-f:=by simp[hk]
   obtain⟨u,h6,h7⟩:=zQP (P:=P) (w:=w) (F:=F) (t:=t) (cs:=Q.cells.drop f) (d:=d) (b:=β.ob id) (off:=v*k+f) (g:=g)
    (fun m D=>by
     grind[World.cell?])
    (fun m d' ad=>by
     grind) C
   exact⟨u,_,rfl,h6,h7⟩
  .cases h
 .cases h
theorem zZy(d:∀s cs,e.var s=Sa cs->al (.v s)->w6 w F β al (β.vb s) cs){t:TypeId}{x:T}(r:zY w F β al i x)(h:zIF P e t x=Sa g):∃u y,g=.ret y/\(Ac t i).run P w=.ok u w/\zY w F β al u y:=by
 cases x with
 |oet id q z v A=>
  refine zPT d (zBO.1 r) ?_
  grind[jM,zIF,T.un,zIE]
 |on n=>
  obtain⟨id,k,q,z,j,B,m⟩:=n;simp[zIF,zQW]at h;split at h
  .rename_i v;split at h
   .rename_i C;obtain⟨l,D⟩:=C;subst l;cases h;obtain⟨E,H,c,I,f,J,K,L,M,N,p⟩:=r;simp only[NM.Rel]at p;obtain⟨p,rfl⟩:=p;refine⟨_,_,rfl,zCb D (x:=.slice (Sa ⟨β.ob k,0,Sb⟩) B.length f) ?_,E,H,c,I,f,J,K,L,M,N,rfl⟩
    grind[Array.getElem?_eq_some_iff,World.cell?]
   .cases h
  .cases h
 |_=>exact zPT d r h
end
section
variable {Γ:Sig}{P:Program}{G:Nat->Option (List V)}{S:vF Γ}{e:Env Γ.St}{o:Oper}{a:Act}{w:World}{F:Blk->Prop}{β:Lay}{al:v6->Prop}{st:Γ.St}
variable {l:Nat}{i:TypeId}
theorem zIC{f:Field}(h:zID P i l=Sa f):∃c,P.underlying i=Sa (.struct c)/\c[l]?=Sa f:=by
 grind[zID]
variable {I:List V}
theorem zOH{d:V}{c:Array Value}(k:c.size=I.length)(g:∀(t:Nat) (x:Value) (d:V),c[t]?=Sa x->I[t]?=Sa d->Rd w F x d)(h:zW5 P i I l=Sa d):∃v,(part i c l).run P w=.ok v w/\Rd w F v d:=by
 unfold zW5 at h;split at h
 .rename_i f;split at h
  .rename_i n j;cases h;refine⟨_,by simp[part,zZ f,zK j];rfl,?_⟩;refine .agg _ _ (by simp;omega) ?_
   grind
  .cases h
 .rename_i f;have hlt:l<c.size:=by grind
  refine⟨c[l],by simp[part,zZ f,hlt],g l _ d (by simp[hlt]) h⟩
 .cases h
variable {j:T}{g:Value}
theorem zH0{t:TypeId}{i:Nat}{r:R Γ.St}(p:zY w F β al g j)(h:zAH P t i j=Sa r):
  ∃u y,r=.ret y/\(Af t g i).run P w=.ok u w/\zY w F β al u y:=by
 unfold zAH at h;split at h
 .rename_i f E;obtain⟨K,L,H⟩:=zIC E;split at h
  .rename_i n M;have l:∀b c,(Af t (.pointer (Sa ⟨b,c,Sb⟩)) i).run P w=.ok (.pointer (Sa ⟨b,c+f.offset,Sb⟩)) w:=by simp_all[zN,zK,zDw,Af,Ae,fieldPlace]
   split at h
   .rename_i A;cases h
    cases p with
    |pp b c A v q N O=>refine⟨_,_,rfl,l b c,?_⟩;refine Rd.pp b (c+f.offset) _ (fun m=>v (f.offset+m)) q ?_ ?_;all_goals grind
   .rename_i A;cases h
    cases p with
    |hp id b c A B q Q=>
     refine⟨_,_,rfl,l b c,Rd.hp id b (c+f.offset) _ B q fun m d I=>?_⟩
     grind
   .rename_i W y;cases h
    cases p with
    |pt _ id b j q=>
     refine⟨_,_,rfl,l b 0,Rd.hp id b (0+f.offset) _ _ q fun m d I=>?_⟩
     grind
   .rename_i s c;cases h;obtain⟨C,rfl⟩:=p;exact⟨_,_,rfl,l _ _,C,rfl⟩
   .rename_i id k Y x c;cases h;obtain⟨C,J,D,rfl,z⟩:=p;exact⟨_,_,rfl,l _ _,C,J,D,by grind,z⟩
   .cases h
  .cases h
 .cases h
theorem zQz{t:TypeId}{i:Nat}{r:R Γ.St}(p:zY w F β al g j)(h:zBr P t i j=Sa r):
  ∃u y,r=.ret y/\(Af t g i).run P w=.ok u w/\zY w F β al u y:=by
 cases j with
 |oet id q C x d=>
  simp only[zBr]at h;split at h
  .rename_i f z;split at h
   .rename_i n A;cases h;obtain⟨u,y,D,E,H⟩:=zH0 (P:=P) (t:=t) (i:=i) (r:=.ret (.oe id q.size (C.map q.enc) x (d+f.offset))) (Γ:=Γ) (zBO.1 p) (by simp[T.un,zAH,z,A]);cases D;exact⟨u,_,rfl,E,zBO.2 H⟩
   .cases h
  .cases h
 |on n=>
  obtain⟨id,I,q,C,x,Z,m⟩:=n;simp[zBr,zIG]at h;split at h
  .rename_i k d;split at h
   .rename_i f z;obtain⟨fs,J,B⟩:=zIC z;split at h
    .rename_i n A;cases h;obtain⟨K,L,c,M,v,N,O,Q,W,Y,l⟩:=p;simp only[NM.Rel]at l;obtain⟨l,rfl⟩:=l;refine⟨_,_,rfl,?_,K,L,c,M,v,N,O,Q,W,Y,l,rfl⟩;simp[Af,zN J,B,Ae,fieldPlace,zK A,zDw,bx]
    .cases h
   .cases h
  .cases h
 |_=>exact zH0 p h
variable {C:TypeId}
theorem zA3{k:IntKind}{t:Int}{b off len cap:Nat}(c:P.underlying i=Sa (.slice C))(d:wB P C=Sa l)(f:0<=t)(g:t<len):(Ad i (.slice (Sa ⟨b,off,Sb⟩) len cap) (.int k t)).run P w=.ok (.pointer (Sa ⟨b,off+t.toNat*l,Sb⟩)) w:=by
 simp[Ad,asIntOf,zN c,f,g,zK d,zDw]
theorem zA4{n:Nat}{k:IntKind}{t:Int}{b off:Nat}(c:P.underlying i=Sa (.array n C))(d:wB P C=Sa l)(f:0<=t)(g:t<n):(Ad i (.pointer (Sa ⟨b,off,Sb⟩)) (.int k t)).run P w=.ok (.pointer (Sa ⟨b,off+t.toNat*l,Sb⟩)) w:=by
 simp[Ad,Ae,asIntOf,zN c,f,g,zK d,zDw]
theorem zBI{t:TypeId}{k:IntKind}{i:Int}{r:R Γ.St}(A:zY w F β al g j)(h:yE P t j i=Sa r):
  ∃u y,r=.ret y/\(Ad t g (.int k i)).run P w=.ok u w/\zY w F β al u y:=by
 unfold yE at h;split at h
 .rename_i B;split at h
  .rename_i D K c;split at h
   .rename_i d L;split at h
    .rename_i l;cases h;have hlt:=(aa.1 L).1
     cases A with
     |slemp a0 Y=>simp at hlt
     |sl b p q C K v E Z hk hg hr=>
      have H:=hk d (ae L);refine⟨_,_,rfl,zA3 c l B (by omega),?_⟩;rw[H];refine Rd.pp b _ _ (fun m=>v (i.toNat*C+m)) E ?_ ?_
      .intro m hm;rw[H]at hm;rw[bx];refine hg _ ?_;have:(i.toNat+1)*C<=K.length*C:=aq C (by omega)
       grind
      grind
    .cases h
   .cases h
  .rename_i D id C K c;split at h
   .rename_i M;cases h;obtain⟨I,q,rfl,f⟩:=A;refine⟨_,_,rfl,zA3 c M.2 B (by omega),I,M.1,q,by simp,f⟩
   .cases h
  .rename_i n D N c;split at h
   .rename_i z l;split at h
    .rename_i J;cases h
     cases A with
     |pp b p N v E hg hr=>refine⟨_,_,rfl,zA4 c l B J,?_⟩;refine Rd.pp b _ _ (fun m=>v (i.toNat*z+m)) E ?_ ?_;all_goals grind
    .cases h
   .cases h
  .rename_i n D N c;split at h
   .rename_i ty ab;split at h
    .rename_i l;split at h
     .rename_i xs O;split at h
      .rename_i j Q;cases h;obtain⟨hl,ad⟩:=zQ8 O;have hlt:=(aa.1 Q).1
       cases A with
       |hp id b p N W E M=>
        refine⟨_,_,rfl,zA4 c l B (by omega),Rd.hp id b _ _ W E fun m d L=>?_⟩
        grind
      .cases h
     .cases h
    .cases h
   .cases h
  .rename_i n D s p c;split at h
   .rename_i z l;split at h
    .rename_i J;cases h;obtain⟨I,rfl⟩:=A;exact⟨_,_,rfl,zA4 c l B J,I,rfl⟩
    .cases h
   .cases h
  .rename_i n D id C K x p c;split at h
   .rename_i z l;split at h
    .rename_i J;cases h;obtain⟨I,hi,q,rfl,f⟩:=A;exact⟨_,_,rfl,zA4 c l B J,I,hi,q,by grind,f⟩
    .cases h
   .cases h
  .cases h
 .cases h
theorem zQx{t:TypeId}{k:IntKind}{i:Int}{r:R Γ.St}(E:zY w F β al g j)(h:yJ P t j i=Sa r):
  ∃u y,r=.ret y/\(Ad t g (.int k i)).run P w=.ok u w/\zY w F β al u y:=by
 unfold yJ at h;split at h
 .rename_i n;obtain⟨id,ab,f,v,x,ys,m⟩:=n;simp only[zDk]at h;split at h
  .rename_i D;split at h
   .rename_i p q;have d:P.underlying t=Sa (.slice p):=q;obtain⟨N,O,c,Q,l,W,Y,Z,k6,k7,A⟩:=E;split at h
    .split at h
     .rename_i H;obtain⟨B,hlt⟩:=H;cases h;simp only[NM.Rel]at A;rcases A with⟨A,_⟩|A
      .omega
      subst A;refine⟨_,_,rfl,zA3 d B D (by omega),N,O,c,Q,l,W,Y,Z,k6,k7,hlt,?_⟩;simp
     .cases h
    .split at h
     .rename_i H;obtain⟨B,hlt⟩:=H;cases h;simp only[NM.Rel]at A;subst A;refine⟨_,_,rfl,zA3 d B D (by omega),N,O,c,Q,l,W,Y,Z,k6,k7,hlt,?_⟩;simp
     .cases h
    .cases h
   .cases h
  .cases h
 .rename_i f v;split at h
  .rename_i D;split at h
   .rename_i p q;have d:P.underlying t=Sa (.slice p):=q;split at h
    .rename_i B;split at h
     .rename_i j C;refine zBI (zBO.1 E) ?_;simp_all[jM,kQ,T.un,yE]
     .cases h
    .cases h
   .cases h
  .cases h
 .rename_i id f v;split at h
  .rename_i D;split at h
   .rename_i p q;have d:P.underlying t=Sa (.slice p):=q;split at h
    .rename_i B;split at h
     .rename_i hlt;cases h;have ad:v≠[]:=by grind
      have I:(T.ot id f v).un=.ow id f.size (v.map f.enc):=by
       cases v with
       |nil=>grind
       |cons j v=>rfl
      have C:=zBO.1 E;rw[I]at C;obtain⟨u,y,J,K,L⟩:=zBI (P:=P) (t:=t) (i:=i) (k:=k) (Γ:=Γ) (r:=.ret (.oe id f.size (v.map f.enc) i.toNat 0)) C (by simp[yE,D,d,hlt,B]);cases J;exact⟨u,_,rfl,K,zBO.2 L⟩
     .cases h
    .cases h
   .cases h
  .cases h
 .rename_i id f v x M;split at h
  .rename_i D;split at h
   .rename_i n p q;have d:P.underlying t=Sa (.array n p):=q;split at h
    .rename_i z B;split at h
     .rename_i hlt;cases h;obtain⟨u,y,J,K,L⟩:=zBI (P:=P) (t:=t) (i:=i) (k:=k) (Γ:=Γ) (r:=.ret (.oe id f.size (v.map f.enc) x (M+i.toNat*z))) (zBO.1 E) (by simp_all[T.un,yE]);cases J;exact⟨u,_,rfl,K,zBO.2 L⟩
     .cases h
    .cases h
   .cases h
  .cases h
 .exact zBI E h
theorem zD4(h:Rd w F g (.sl I)):∃a cap,g=.slice a I.length cap/\I.length<=cap:=by
 cases h with
 |slemp a cap=>simp_all
 |sl b d cap k I v f c i j l=>grind
theorem qB2{r:R Γ.St}{c:Call}(t:zY w F β al g j)(h:zXG j=Sa r)(d:P.underlying i=Sa (.slice C))(f:c.argTypes[0]?=Sa i)(ty:TypeId):∃u y,r=.ret y/\(Ab c.argTypes ty #[g]).run P w=.ok u w/\zY w F β al u y:=by
 unfold zXG at h;split at h
 .rename_i ty m;cases h;obtain⟨l,x,rfl,_⟩:=zD4 (Rd.untl t);exact⟨_,_,rfl,by simp[Ab,f,zN d,goInt],.val _⟩
 .rename_i id ty m;cases h;rcases t with⟨p,l,rfl⟩|⟨q,z,x,rfl,el⟩
  .have:m=[]:=by simpa using p
   subst this;exact⟨_,_,rfl,by simp[Ab,f,zN d,goInt],.val _⟩
  .exact⟨_,_,rfl,by simp[Ab,f,zN d,goInt],.val _⟩
 .rename_i A;cases h;obtain⟨l,x,rfl,_⟩:=zD4 t;exact⟨_,_,rfl,by simp[Ab,f,zN d,goInt],.val _⟩
 .rename_i id k A;cases h;obtain⟨z,x,rfl,el⟩:=t;exact⟨_,_,rfl,by simp[Ab,f,zN d,goInt],.val _⟩
 .cases h;obtain⟨l,rfl⟩:=t;exact⟨_,_,rfl,by simp[Ab,f,zN d,goInt],.val _⟩
 .cases h
  cases t with
  |rfn=>exact⟨_,_,rfl,by simp[Ab,f,zN d,goInt,qAw],.val _⟩
  |rf id a n c p=>exact⟨_,_,rfl,by simp[Ab,f,zN d,goInt,qAw],.val _⟩
 .cases h
theorem zRA{x:V}(h:Rd w F g (.sl (x::I))):∃(a:Addr) (n cap:Nat),g=.slice (Sa a) n cap:=by
 cases h with
 |sl b d cap k I v f c i j l=>grind
theorem zF3{d:V}(h:Rd w F g d)(hd:d.leafy=Sd):g.cells.size=d.cells.length/\
  ∀(i:Nat) (x:Value) (y:V),g.cells[i]?=Sa x->d.cells[i]?=Sa y->Rd w F x y:=by
 cases h with
 |agg n z r h=>exact⟨r,h⟩
 |val=>
  cases g with
  |agg n=>simp[V.leafy]at hd
  |_=>
   refine⟨rfl,?_⟩;intro i x y j c
   cases i with
   |zero=>simp[Aa,V.cells]at j c;subst j c;exact .val _
   |succ i=>simp[V.cells]at c
 |tup n z r h=>
  refine⟨rfl,?_⟩;intro i x y j c
  cases i with
  |zero=>simp[Aa,V.cells]at j c;subst j c;exact .tup n z r h
  |succ i=>simp[V.cells]at c
 |slemp q p=>
  refine⟨rfl,?_⟩;intro i x y j c
  cases i with
  |zero=>simp[Aa,V.cells]at j c;subst j c;exact .slemp q p
  |succ i=>simp[V.cells]at c
 |sl b l A k H v B u I C D=>
  refine⟨rfl,?_⟩;intro i x y j c
  cases i with
  |zero=>simp[Aa,V.cells]at j c;subst j c;exact .sl b l A k H v B u I C D
  |succ i=>simp[V.cells]at c
 |clo f n z r h=>
  refine⟨rfl,?_⟩;intro i x y j c
  cases i with
  |zero=>simp[Aa,V.cells]at j c;subst j c;exact .clo f n z r h
  |succ i=>simp[V.cells]at c
 |pp b l n v B C D=>
  refine⟨rfl,?_⟩;intro i x y j c
  cases i with
  |zero=>simp[Aa,V.cells]at j c;subst j c;exact .pp b l n v B C D
  |succ i=>simp[V.cells]at c
 |tl t J g m=>
  obtain⟨q,p,rfl,_⟩:=zD4 m;refine⟨rfl,?_⟩;intro i x y j c
  cases i with
  |zero=>simp[Aa,V.cells]at j c;subst j c;exact .tl t J _ (by simpa using m)
  |succ i=>simp[V.cells]at c
 |rfn=>
  refine⟨rfl,?_⟩;intro i x y j c
  cases i with
  |zero=>simp[Aa,V.cells]at j c;subst j c;exact .rfn
  |succ i=>simp[V.cells]at c
 |rf id q K L m=>
  refine⟨rfl,?_⟩;intro i x y j c
  cases i with
  |zero=>simp[Aa,V.cells]at j c;subst j c;exact .rf id q K L m
  |succ i=>simp[V.cells]at c
 |hd id q m=>
  refine⟨rfl,?_⟩;intro i x y j c
  cases i with
  |zero=>simp[Aa,V.cells]at j c;subst j c;exact .hd id q m
  |succ i=>simp[V.cells]at c
 |ptn t=>
  refine⟨rfl,?_⟩;intro i x y j c
  cases i with
  |zero=>simp[Aa,V.cells]at j c;subst j c;exact .ptn t
  |succ i=>simp[V.cells]at c
 |pt t id b M m=>
  refine⟨rfl,?_⟩;intro i x y j c
  cases i with
  |zero=>simp[Aa,V.cells]at j c;subst j c;exact .pt t id b M m
  |succ i=>simp[V.cells]at c
 |hp id b l n E m N=>
  refine⟨rfl,?_⟩;intro i x y j c
  cases i with
  |zero=>simp[Aa,V.cells]at j c;subst j c;exact .hp id b l n E m N
  |succ i=>simp[V.cells]at c
def zOq(w:World)(F:Blk->Prop)(c:Array Value)(ds:List V):Prop:=
 c.size=ds.length/\∀(i:Nat) (x:Value) (y:V),c[i]?=Sa x->ds[i]?=Sa y->Rd w F x y
theorem zOq.set{c:Array Value}{ds:List V}(h:zOq w F c ds)(m:Nat){x:Value}{y:V}(hx:Rd w F x y):zOq w F (c.setIfInBounds m x) (ds.set m y):=by
 refine⟨by simp[h.1],?_⟩;intro i j k d f;by_cases g:m=i
 .grind
 .rw[bC g]at d;rw[aS g]at f;exact h.2 i j k d f
theorem zZk(off:Nat):∀(vs:List Value) (ds:List V) (n:Nat) (c:Array Value) (cs:List V),
  vs.length=ds.length->(∀(i:Nat) (x:Value) (y:V),vs[i]?=Sa x->ds[i]?=Sa y->Rd w F x y)->zOq w F c cs->
  zOq w F ((vs.zipIdx n).foldl (fun cs (c,j)=>cs.setIfInBounds (off+j) c) c) ((ds.zipIdx n).foldl (fun cs (c,j)=>cs.set (off+j) c) cs):=by
 intro vs
 induction vs with
 |nil=>intro ds n c cs f _ g;cases ds with
  |nil=>exact g
  |cons d ds=>simp at f
 |cons v vs k=>
  intro ds n c cs f h g
  cases ds with
  |nil=>simp at f
  |cons d ds=>simp;exact k ds (n+1) _ _ (by simpa using f) (fun i x y l m=>h (i+1) x y (by simpa using l) (by simpa using m)) (g.set _ (h 0 v d rfl rfl))
theorem zO0(f:Nat->Option (Nat×Nat)):∀(m:List (Nat×Value)) (k:List (Nat×V)) (c:Array Value) (cs ds:List V),
  m.length=k.length->(∀(i:Nat) (x:Nat×Value) (y:Nat×V),m[i]?=Sa x->k[i]?=Sa y->x.1=y.1/\Rd w F x.2 y.2)->zOq w F c cs->
  zUh f cs k=Sa ds->∃A,Instr.fill f c m=Sa A/\zOq w F A ds:=by
 intro m
 induction m with
 |nil=>
  intro k c cs ds t _ u h
  cases k with
  |nil=>cases h;exact⟨c,rfl,u⟩
  |cons q k=>simp at t
 |cons p m D=>
  intro k c cs ds t B u h
  cases k with
  |nil=>simp at t
  |cons q k=>
   obtain⟨i,v⟩:=p;obtain⟨j,d⟩:=q;obtain⟨n,r⟩:=B 0 _ _ rfl rfl;simp only at n r;subst n;simp only[zUh]at h;simp only[Instr.fill];split at h
   .cases h
   .rename_i z size E;split at h
    .cases h
    .rename_i g;simp only[not_or]at g;obtain⟨l,H,C⟩:=g;obtain⟨I,J⟩:=zF3 r (by simpa using l);have K:=u.1;simp only[E];rw[if_neg (by simp;omega)];refine D k _ _ ds (by simpa using t) (fun i x y n r=>B (i+1) x y (by simpa using n) (by simpa using r)) ?_ h;have:=zZk (w:=w) (F:=F) z v.cells.toList d.cells 0 c cs (by simpa using I) (fun i x y n r=>J i x y (by simpa using n) r) u;rw[<-Array.foldl_toList];simpa using this
theorem zLw{a:Act}:∀(c:List (Nat×Operand)) (f:List (Nat×V)),(∀p,p∈c->zY w F β al (a.eval p.2) (evx G e p.2))->
  zAk G e c=Sa f->(c.map fun(i,x)=>(i,a.eval x)).length=f.length/\
  ∀(i:Nat) (x:Nat×Value) (y:Nat×V),(c.map fun(i,x)=>(i,a.eval x))[i]?=Sa x->f[i]?=Sa y->x.1=y.1/\Rd w F x.2 y.2:=by
 intro c
 induction c with
 |nil=>intro f _ h;simp[zAk]at h;grind
 |cons p c q=>
  intro f j h;obtain⟨i,x⟩:=p;simp only[zAk]at h;split at h
  .rename_i d r t g;cases h;obtain⟨z,B⟩:=q r (fun p A=>j p (aw _ A)) g;refine⟨by simpa using z,?_⟩;intro n u y k l
   cases n with
   |zero=>
    simp at k l;subst k l;refine⟨rfl,?_⟩;have m:=j (i,x) (by simp);simp only[t]at m;exact m
   |succ n=>grind
  .cases h
theorem zC8{a:Act}:∀(xs:List Operand) (ds:List V),(∀x,x∈xs->zY w F β al (a.eval x) (evx G e x))->
  yU G e xs=Sa ds->xs.length=ds.length/\∀(i:Nat) (x:Value) (y:V),(xs.map a.eval)[i]?=Sa x->ds[i]?=Sa y->Rd w F x y:=by
 intro xs
 induction xs with
 |nil=>intro l _ h;simp[yU]at h;grind
 |cons x xs m=>
  intro l f h;simp only[yU]at h;split at h
  .rename_i d ds q c;cases h;obtain⟨r,z⟩:=m ds (fun p t=>f p (aw _ t)) c;refine⟨by simpa using r,?_⟩;intro n u y g j
   cases n with
   |zero=>
    simp at g j;subst g j;have k:=f x (by simp);rw[q]at k;exact k
   |succ n=>grind
  .cases h
end
@[reducible] def Ty.st:List Ty->Ty
 |[]=>.unit
 |t::a=>.pair t (Ty.st a)
abbrev tI:Ty:=.int .i64
abbrev tU:Ty:=.int .u32
abbrev zD:Ty:=.st [tU,tI]
abbrev zQ:Ty:=.st [tI,tU]
abbrev zC:Ty:=.st [zD,tI,tI,tI,tI,tI,tI,tI,.sl tI,tU,tU,.sl zQ,.bool]
abbrev z6:Ty:=.st [.str,tU,tI,tI,.bool,.bool,tI,tI,.bool,.str,.str,tI]
abbrev zRh:Ty:=.st [.bool,zD,tI,tI]
abbrev zDX:Ty:=.st [.str,.sl zRh]
abbrev qAl:Ty:=.st [.bool,.str,tI,tI,tI,tI,tI]
abbrev zLl:Ty:=.st [.str,.sl qAl]
abbrev qF8:Ty:=.st [tU,tU]
abbrev zS:Ty:=.st [tI,tI]
abbrev zWm:Ty:=.st [.bool,tI,qF8,qF8,zS,zS]
abbrev zOu:Ty:=.st [.str,.sl zWm]
abbrev qG5:Ty:=.st [tI,tU,tU,tI,tI,tI,.str,tU,tU]
abbrev zM1:Ty:=.st [zD,tU,.str,.bool,tI,tI]
abbrev zGL:Ty:=.st [tI,tI,tI,.str,tI]
abbrev vK:Ty:=.st [tI,zD]
abbrev tLS:Ty:=.st [.bool,tI,.sl vK,.sl zGL]
abbrev tDV:Ty:=.st [.bool,tI,.str,.str,.sl zGL]
abbrev zAf:Ty:=.st [tU,tI,.str,.str]
abbrev zIh:Ty:=.st [zD,.bool]
abbrev zLU:Ty:=.st [zD,zD,.bool]
abbrev tPV:Ty:=.st [.bool,tI,tI,.sl zAf,.sl zD,.sl zIh,.sl zLU,.sl zGL]
abbrev zG:Ty:=.st [.str,tI,.sl z6,.sl zDX,.sl zLl,.sl zOu,.sl qG5,.sl zM1,tLS,tDV,tPV]
abbrev zI:Ty:=.st [.sl zG]
abbrev uR:Ty:=.st [zD,tI,.sl zS]
abbrev zX:Ty:=.st [zD,tI,.rf]
abbrev zLT:Ty:=.st [.sl zX,.sl tI]
abbrev zLk:Ty:=.st [.sl uR,.sl tI]
abbrev zF:Ty:=.st [zI,zLk,.sl tI]
abbrev qD:Ty:=.st [tI,tI,tI,zQ]
end Go.Ve

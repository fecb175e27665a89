/- law16 -/
import Derived.Test.YtgiopebfjmfmhaaGreatProg
import Derived.Test.YtgiopebfjmfmhaaGreatLp4
import Derived.Test.YtgiopebfjmfmhaaGreatLp8
import Derived.Test.YtgiopebfjmfmhaaGreatLp11
set_option linter.unusedVariables false
open Option renaming some->Sa,none->Sc
open Bool renaming true->Sb
open Go.Proofs.Tryz renaming prog->Aa,f113->Ae,f89->Af
open Go.Builtin renaming firstCells->Ab,append_->Ac,zeroCells->Ad
set_option maxRecDepth 1000000
set_option maxHeartbeats 0
namespace Go.Ve
open Go Go.Proofs
noncomputable abbrev LF:j6:=j6.fast Aa 388 349
def G0:Nat->Option (List V):=fun _=>Sc
abbrev U:=jT
abbrev kU(f:Func):Code:=match f.body with|some c=>c|none=>.skip
theorem mixed:Tryz.prog.follows .mixedOrders=true:=by kernel_rfl
instance:Subsingleton U.St:=inferInstanceAs (Subsingleton Unit)
variable {g:FuncId}{l:Nat->Option JA}{i:RTy}
theorem qBR{S:zU U}(d:qK U Aa G0 S.toS){fn:Func}{c:Code}(a:LF.fn g=Sa fn)(e:fn.body=Sa c){ts:List Ty}{A:ElS ts->Option i.El}(h:∀s x,exF (Γ:=U) LF G0 S l fn c i s (yF ts x)=A x):jJ U Aa G0 g (z7 (qQ ts i A)):=by
 have f:LF=j6.of Aa:=j6.fast_eq Aa 388 349;rw[f]at a h;exact zXv mixed d a e h
variable {j:List ATy}
theorem zZp{S:zU U}(d:qK U Aa G0 S.toS){fn:Func}{c:Code}(a:LF.fn g=Sa fn)(e:fn.body=Sa c){A:ElA j->Option i.El}(h:∀s x,exF (Γ:=U) LF G0 S l fn c i s (zMr j x)=A x):jJ U Aa G0 g (z7 (zWB j i A)):=by
 have f:LF=j6.of Aa:=j6.fast_eq Aa 388 349;rw[f]at a h;exact qD1 mixed d a e h
theorem zAG{S:zU U}{A:Nat->Option JA}(e:qK U Aa G0 S.toS){fn:Func}{c:Code}(d:LF.fn g=Sa fn)(R:fn.body=Sa c){X:Type}{dec:List V->Option X}{enc:X->List V}(a:∀ds x,dec ds=Sa x->kW ds (enc x)){f:X->Option i.El}(h:∀s x,exF (Γ:=U) LF G0 S A fn c i s (enc x)=f x):jJ U Aa G0 g (z7 (vR dec i f)):=by
 have j:LF=j6.of Aa:=j6.fast_eq Aa 388 349;rw[j]at d h;exact zR8 mixed e d R a h
theorem zBp{S:zU U}{A:Nat->Option JA}(R:qK U Aa G0 S.toS){fn:Func}{c:Code}(e:LF.fn g=Sa fn)(ts:fn.body=Sa c){t:Ty}(a:i.pl=Sb)(d:∀ty,i≠ .o ty){f:List t.El->ElA j->Option (List t.El×i.El)}(h:∀s xs x,qGP (Γ:=U) LF G0 S A fn c t i s xs (zMr j x)=f xs x):zCK U Aa G0 g t (uI j) i f:=by
 have k:LF=j6.of Aa:=j6.fast_eq Aa 388 349;rw[k]at e h;exact qD0 mixed R e ts (zAJ j) (zKh j) a d h
theorem zZm{S:zU U}{A:Nat->Option JA}(R:qK U Aa G0 S.toS){fn:Func}{c:Code}(e:LF.fn g=Sa fn)(ts:fn.body=Sa c){t:Ty}{p:Nat}(a:i.pl=Sb)(d:∀ty,i≠ .o ty){f:t.El->ElA j->Option (t.El×i.El)}(h:∀s y x,qFM (Γ:=U) LF G0 S A fn c t i p s y (zMr j x)=f y x):zKs U Aa G0 g t p (uI j) i f:=by
 have k:LF=j6.of Aa:=j6.fast_eq Aa 388 349;rw[k]at e h;exact zXu mixed R e ts (zAJ j) a d h
theorem zZo{tE:Ty}{S:zU (v8 tE)}{A:Nat->Option JA}(a:∀k j,A k=Sa j->zDO j.sl=Sb)(e:qK (v8 tE) Aa G0 S.toS){fn:Func}{c:Code}(d:LF.fn g=Sa fn)(R:fn.body=Sa c){ts:List Ty}{f:HSt tE->ElS ts->Option (HSt tE×i.El)}(h:∀s x,qD7 (Γ:=v8 tE) LF G0 S A fn c i s (yF ts x)=f s x):jJ (v8 tE) Aa G0 g (z7 (zBQ (zBv ts) i f)):=by
 have l:LF=j6.of Aa:=j6.fast_eq Aa 388 349;rw[l]at d h;exact qDY a mixed e d R (kH ts) h
structure Ent where
 ad:zU U->zU U
 ok:∀S:zU U,qK U Aa G0 S.toS->qK U Aa G0 (ad S).toS
def j9{f:FuncId}{sp:U.St->List V->Option (zER U.St)}(h:jJ U Aa G0 f (z7 sp))(hi:zGe Aa f=true:=by kernel_rfl):Ent:=⟨fun S=>S.add f sp,fun _ a=>vQ a hi h⟩
def qEj{f:FuncId}{t:Ty}{X:Type}{dec:List V->Option X}{R:RTy}{g:List t.El->X->Option (List t.El×R.El)}(h:zCK U Aa G0 f t dec R g)(hi:zGe Aa f=true:=by kernel_rfl):Ent:=⟨fun S=>S.addB f (zAB t dec R g),fun _ a=>zAx a hi h⟩
def qHl{f:FuncId}{t:Ty}{X:Type}{dec:List V->Option X}{g:List t.El->X->Option (List t.El)}(h:zGy U Aa G0 f t dec g)(hi:zGe Aa f=true:=by kernel_rfl):Ent:=⟨fun S=>S.addB f (zFp t dec g),fun _ a=>zPy a hi h⟩
def qB6:List Ent->zU U
 |[]=>zU.none U
 |e::r=>e.ad (qB6 r)
theorem zNU:∀l,qK U Aa G0 (qB6 l).toS
 |[]=>jE
 |e::r=>e.ok _ (zNU r)
abbrev OkX(f:FuncId)(ts:List Ty)(R:RTy)(g:ElS ts->Option R.El):Prop:=jJ U Aa G0 f (z7 (qQ ts R g))
abbrev OkA(f:FuncId)(ts:List ATy)(R:RTy)(g:ElA ts->Option R.El):Prop:=jJ U Aa G0 f (z7 (zWB ts R g))
theorem fA(l:List Ent){A:Nat->Option JA}{fn:Func}(a:LF.fn g=Sa fn)(c:fn.body=Sa (kU fn)){ts:List ATy}{f:ElA ts->Option i.El}(h:∀s x,exF (Γ:=U) LF G0 (qB6 l) A fn (kU fn) i s (zMr ts x)=f x):OkA g ts i f:=zZp (zNU l) a c h
def jj(k b:Nat)(l:List (Nat×Nat×Nat))(s:List zCQ):Nat×JA:=(k,⟨b,l,s⟩)
def jl:List (Nat×JA)->Nat->Option JA
 |[],_=>Sc
 |(a,j)::r,k=>match Nat.beq a k with
  |true=>Sa j
  |false=>jl r k
noncomputable def zTo(f:FuncId):Func:=match LF.fn f with
 |some a=>a
 |none=>Tryz.f0
theorem fX(l:List Ent)(a:List (Nat×JA):=[]){ts:List Ty}{f:ElS ts->Option i.El}(h:∀s x,exF (Γ:=U) LF G0 (qB6 l) (jl a) (zTo g) (kU (zTo g)) i s (yF ts x)=f x:=by intros;kernel_rfl)(c:LF.fn g=Sa (zTo g):=by kernel_rfl)(d:(zTo g).body=Sa (kU (zTo g)):=by kernel_rfl):OkX g ts i f:=qBR (zNU l) c d h
end Go.Ve
namespace Go.Ve
open Go Go.Proofs
set_option maxRecDepth 1000000
theorem zUu(t:Ty)(x:t.El):zUv t (.pp (t.cells x))=Sa x:=by
 have h:=zEk t x []
 grind[zUv]
theorem zMB:∀(l:List (Bool×Ty)) (x:qAh l),zHr l (zHk l x)=Sa x
 |[],_=>rfl
 |(Sb,t)::r,x=>by simp[zHk,zHr,zUu,zMB r]
 |(false,t)::r,x=>by simp[zHk,zHr,zVK,zMB r]
theorem zXS:∀(ts:List ATy) (x:ElA ts),uI ts (zMr ts x)=Sa x
 |[],_=>rfl
 |t::ts,x=>by
  have h:t.dec (t.enc x.1)=Sa x.1:=by
   cases t with
   |d a=>exact zVK a x.1
   |pp a=>exact zUu a x.1
   |clo f c=>simp[ATy.dec,ATy.enc,zMB]
  simp[zMr,uI,h,zXS ts]
section
variable {Γ:Sig}{P:Program}{G:Nat->Option (List V)}{f:FuncId}
theorem zOI{w:World}{F F':Blk->Prop}(c:∀b:Nat,F b->F' b){t:Ty}(d:t.norf=Sb){β:Lay}{al:v6->Prop}{v:Value}{id k:Nat}{xs:List t.El}(h:zB8 w F β al v id k (xs.map t.enc)):zB8 w F' β al v id k (xs.map t.enc):=by
 rcases h with h|⟨e,g,a,i,j⟩
 .exact .inl h
 .exact .inr ⟨e,g,a,i,zNe c d j⟩
theorem qFa{w:World}{F F':Blk->Prop}(c:∀b:Nat,F b->F' b){R:RTy}(e:R.norf=Sb){y:R.El}{v:Value}(h:Rd w F v (R.val y)):Rd w F' v (R.val y):=by
 cases R with
 |p g=>exact zA6 (t:=g) c e h
 |o g=>exact zA6 (t:=.sl g) c e h
 |tu a=>
  have h:Rd w F v (.tup (yF a y)):=h
  cases h with
  |tup k _ l m=>exact .tup k _ l (fun i u d n j=>zH1 c a y e i u d j (m i u d n j))
variable {i:Type}{g:List V->Option i}
theorem zYS(ab:∀dec,G dec=Sc)(hd:qAe g){t:Ty}(B:t.norf=Sb){xs Q:List t.El}{x:i}{d:V}(C:∀(w:World) (F F':Blk->Prop),(∀b:Nat,F b->F' b)->∀v,d≠ .bot->Rd w F v d->Rd w F' v d){r:List V}(hx:g r=Sa x)(h:∀r',g r'=Sa x->zUH jT P G f () t xs r' () Q d)(s:Γ.St):zUH Γ P G f s t xs r s Q d:=by
 intro w F O b v0 q k hG D u a y h0 ad;obtain⟨r',E,H,S⟩:=hd r x hx
 have m:=h r' E w (zIY F) (fun _=>False) b v0 q ⟨fun _ h=>h,zHK F⟩ (fun dec cs hg=>by grind) (fun c p=>⟨(D c p).1,fun h=>h⟩)
  (zOI (F:=F) (F':=zIY F) (fun _ a=>a) B u) (fun z=>⟨(a z).1,(a z).2.1,fun h=>h⟩) (by rw[y,H]) h0
  (fun X v d' hi ag=>by
   grind[List.getElem?_eq_some_iff,zIY])
 refine m.mono ?_;rintro e I ⟨v,F',O',rfl,g1,l,g3,W,g5,Y⟩
 have J:∀c,O c->I.heap[c]?=w.heap[c]? :=fun c p=>l.block c (Γ.inb k c p) (fun h=>by
  grind)
 have K:∀n:Nat,F (.s n)->F n->I.heap[n]?=w.heap[n]? :=fun n _ A=>l.block n (D n A).1 (fun h=>by
  grind)
 refine⟨v,zQu F F',O,rfl,Γ.mono k (zB3 F F') J (fun n hs A=>⟨W.1 (.b n) A,K n hs A⟩),⟨l.os,l.tape,l.output,l.size,fun c p L=>l.block c p (fun h=>L (h.elim (fun h=>h.elim) .inr)),l.drawn⟩,fun b a=>.inl a,
  .of_reg (fun b a=>?_) (zB3 F F'),?_,?_⟩
 .cases b with
  |b n=>exact W.1 (.b n) a
  |_=>exact a
 .intro c p;obtain⟨j,M,_⟩:=g5 c p;refine⟨j,M,fun Z=>?_⟩;rcases j with j|j
  .exact(D c j).2 Z
  grind
 .cases d with
  |bot=>
   obtain⟨b',j,M⟩:=Y;refine⟨b',?_,zOI (F:=F') (F':=zQu F F') (fun _ a=>a) B M⟩;rcases j with j|⟨j,h3,h4,h5⟩
   .exact .inl j
   .exact .inr ⟨j,h3,h4,fun Z=>by grind⟩
  |_=>obtain⟨k1,k2⟩:=zCt.out (by intro N;cases N) Y;exact .of (zOI (F:=F') (F':=zQu F F') (fun _ a=>a) B k1) (C I F' (zQu F F') (fun _ a=>a) v (by intro N;cases N) k2)
theorem zZr(d:∀dec,G dec=Sc){t:Ty}(j:t.norf=Sb)(k:qAe g)(a:∀ds x,g ds=Sa x->zCk ds=Sc){dec:List t.El->i->Option (List t.El)}(h:zGy jT P G f t g dec):zGy Γ P G f t g dec:=by intro s l r x m e n;exact .of (a r x e) (zYS d k j (fun _ _ _ _ _ p=>absurd rfl p) e (fun X c=>zAy.row (a X x c) (h () l X x m c n)) s)
theorem zZq(Z:∀dec,G dec=Sc){t:Ty}(N:t.norf=Sb){p:Nat}(hd:qAe g){R:RTy}(hR:R.norf=Sb){dec:t.El->i->Option (t.El×R.El)}(h:zKs jT P G f t p g R dec):zKs Γ P G f t p g R dec:=by
 intro s y r x z u hx Q;intro w F O b E A j hG H B l a C hk h0 ab;obtain⟨r',I,J,S⟩:=hd r x hx
 have m:=h () y r' x z u I Q w (zIY F) (fun _=>False) b E A ⟨fun _ h=>h,zHK F⟩ (fun dec cs Q=>by grind) (fun c q=>⟨(H c q).1,fun h=>h⟩)
  (zNe (F:=F) (F':=zIY F) (t:=t) (fun _ a=>a) N B) l ⟨a.1,a.2.1,fun h=>h⟩ (by rw[C,J]) (by omega) h0
  (fun X v d' hi ad=>by
   grind[List.getElem?_eq_some_iff,zIY])
 refine m.mono ?_;rintro e W ⟨v,d,O',rfl,g1,k,g3,Y,g5,g6,g7,g8⟩
 have K:∀c,O c->W.heap[c]?=w.heap[c]? :=fun c q=>k.block c (Γ.inb j c q) (fun h=>by
  grind)
 have L:∀n:Nat,F (.s n)->F n->W.heap[n]?=w.heap[n]? :=fun n _ D=>k.block n (H n D).1 (fun h=>by
  grind)
 refine⟨v,zQu F d,O,rfl,Γ.mono j (zB3 F d) K (fun n hs D=>⟨Y.1 (.b n) D,L n hs D⟩),⟨k.os,k.tape,k.output,k.size,fun c q M=>k.block c q (fun h=>M (h.elim (fun h=>h.elim) .inr)),k.drawn⟩,fun b a=>.inl a,
  .of_reg (fun b a=>?_) (zB3 F d),?_,zNe (F:=d) (F':=zQu F d) (t:=t) (fun _ a=>a) N g6,g7,qFa (F:=d) (F':=zQu F d) (fun _ a=>a) hR g8⟩
 .cases b with
  |b n=>exact Y.1 (.b n) a
  |_=>exact a
 .intro c q;obtain⟨l,h2,_⟩:=g5 c q;refine⟨l,h2,fun ho=>?_⟩;rcases l with l|l
  .exact(H c l).2 ho
  grind
theorem zZO{ts:List ATy}(g:ts.all ATy.norf=Sb):qAe (uI ts):=by intro h x j;have a:=zAJ ts h x j;refine⟨zMr ts x,zXS ts x,a.len.symm,fun w F n k i v d e l c m=>?_⟩;exact zUp k ts x g i v e c (a.get i d e l c w F v m)
end
structure xQ(Γ:Sig) where
 ad:zU Γ->zU Γ
 ok:∀S:zU Γ,qK Γ Aa G0 S.toS->qK Γ Aa G0 (ad S).toS
variable {Γ:Sig}
def zXK:List (xQ Γ)->zU Γ
 |[]=>zU.none Γ
 |e::r=>e.ad (zXK r)
theorem zNV:∀l:List (xQ Γ),qK Γ Aa G0 (zXK l).toS
 |[]=>jE
 |e::r=>e.ok _ (zNV r)
def enG{f:FuncId}{sp:Γ.St->List V->Option (zER Γ.St)}(hi:zGe Aa f=Sb)(h:jJ Γ Aa G0 f (z7 sp)):xQ Γ:=⟨fun S=>S.add f sp,fun _ a=>vQ a hi h⟩
def liS{f:FuncId}{ts:List Ty}{R:RTy}{g:ElS ts->Option R.El}(hi:zGe Aa f=Sb)(a:ts.all Ty.norf=Sb)(c:R.norf=Sb)(h:jJ U Aa G0 f (z7 (qQ ts R g))):xQ Γ:=
 enG (sp:=qQ ts R g) hi (zHV (fun _=>rfl) (zMC a) c h)
def liM{f:FuncId}{t:Ty}{ts:List ATy}{g:List t.El->ElA ts->Option (List t.El)}(hi:zGe Aa f=Sb)(a:t.norf=Sb)(c:ts.all ATy.norf=Sb)(h:zGy U Aa G0 f t (uI ts) g):xQ Γ:=
 ⟨fun S=>S.addB f (zFp t (uI ts) g),fun _ d=>zPy d hi (zZr (fun _=>rfl) a (zZO c) (zKh ts) h)⟩
def liP{f:FuncId}{t:Ty}{p:Nat}{ts:List ATy}{R:RTy}{g:t.El->ElA ts->Option (t.El×R.El)}(hi:zGe Aa f=Sb)(a:t.norf=Sb)(c:ts.all ATy.norf=Sb)(d:R.norf=Sb)(h:zKs U Aa G0 f t p (uI ts) R g):xQ Γ:=
 ⟨fun S=>S.addB f (zQK t p (uI ts) R g),fun _ e=>zPx e hi (zZq (fun _=>rfl) a (zZO c) d h)⟩
def liA{f:FuncId}{ts:List ATy}{R:RTy}{g:ElA ts->Option R.El}(hi:zGe Aa f=Sb)(a:ts.all ATy.norf=Sb)(c:R.norf=Sb)(h:jJ U Aa G0 f (z7 (zWB ts R g))):xQ Γ:=
 enG (sp:=zWB ts R g) hi (zHV (fun _=>rfl) (zZO a) c h)
variable {g:FuncId}{i:RTy}
theorem fG[Calm Γ][Subsingleton Γ.St](l:List (xQ Γ))(a:List (Nat×JA):=[]){ts:List Ty}{f:ElS ts->Option i.El}(h:∀s x,exF (Γ:=Γ) LF G0 (zXK l) (jl a) (zTo g) (kU (zTo g)) i s (yF ts x)=f x:=by intros;kernel_rfl)(c:LF.fn g=Sa (zTo g):=by kernel_rfl)(d:(zTo g).body=Sa (kU (zTo g)):=by kernel_rfl):jJ Γ Aa G0 g (z7 (qQ ts i f)):=by have e:LF=j6.of Aa:=j6.fast_eq Aa 388 349;rw[e]at c h;exact zXv mixed (zNV l) c d h
theorem fGP[Calm Γ][Subsingleton Γ.St](l:List (xQ Γ)){A:Nat->Option JA}{fn:Func}(d:LF.fn g=Sa fn)(e:fn.body=Sa (kU fn)){t:Ty}{p:Nat}{ts:List ATy}(a:i.pl=Sb)(c:∀ty,i≠ .o ty){f:t.El->ElA ts->Option (t.El×i.El)}(h:∀s y x,qFM (Γ:=Γ) LF G0 (zXK l) A fn (kU fn) t i p s y (zMr ts x)=f y x):zKs Γ Aa G0 g t p (uI ts) i f:=by
 have R:LF=j6.of Aa:=j6.fast_eq Aa 388 349;rw[R]at d h;exact zXu mixed (zNV l) d e (zAJ ts) a c h
theorem fHb{H:zSQ}(l:List (xQ (ptB H))){A:Nat->Option JA}(a:∀k j,A k=Sa j->zDO j.sl=Sb){fn:Func}(c:LF.fn g=Sa fn)(d:fn.body=Sa (kU fn)){ts:List Ty}{f:Bool->ElS ts->Option (Bool×i.El)}(h:∀s x,qD7 (Γ:=ptB H) LF G0 (zXK l) A fn (kU fn) i s (yF ts x)=f s x):zLF (ptB H) Aa G0 g (z7 (zBQ (zBv ts) i f)):=by
 have e:LF=j6.of Aa:=j6.fast_eq Aa 388 349;rw[e]at c h;exact zUd a mixed (zNV l) c d (kH ts) h
theorem zVq:∀l:List (Nat×JA),(l.all fun a=>zDO a.2.sl)=Sb->∀k j,jl l k=Sa j->zDO j.sl=Sb
 |[],_,_,_,h=>by cases h
 |(a,i)::r,c,k,j,h=>by
  simp only[cU,am]at c;simp only[jl]at h;split at h
  .grind
  .exact zVq r c.2 k j h
def onX{X ρ:Type}(g:X->Option ρ):Bool->X->Option (Bool×ρ):=fun s x=>match s with
 |true=>(g x).map (fun y=>(Sb,y))
 |false=>Sc
theorem qDW{H:zSQ}{X:Type}{dec:List V->Option X}{f:X->Option i.El}(h:jJ (zRE H) Aa G0 g (z7 (vR dec i f))):
  jJ (ptB H) Aa G0 g (z7 (zBQ dec i (onX f))):=by
 intro w F O s d n l r R t u j m a;simp[z7,zBQ]at a
 cases p:dec n with
 |none=>grind
 |some x=>
  rw[p]at a
  cases s with
  |false=>
   have k:(Sc:Option ((ptB H).St×RV))=Sa (l,r):=a;simp at k
  |true=>
   have k:((f x).map (fun y=>(Sb,y))).map (fun y=>(y.1,i.res y.2))=Sa (l,r):=a
   cases q:f x with
   |none=>grind
   |some y=>
   rw[q]at k;have z:((Sb,i.res y):Bool×RV)=(l,r):=aX k;obtain⟨rfl,rfl⟩:=Prod.mk.inj z;have c:=h w F O () d n () (i.res y) R t u j m (by simp[z7,vR,p,q]);refine c.mono ?_;rintro e L ⟨v,A,B,rfl,C,D,E,I,J,K⟩;exact⟨v,A,B,rfl,C,D,E,I.to (fun h=>h.1),J,K⟩
def onG{H:zSQ}{f:FuncId}{ts:List Ty}{R:RTy}{g:ElS ts->Option R.El}(hi:zGe Aa f=Sb)(h:jJ (zRE H) Aa G0 f (z7 (qQ ts R g))):xQ (ptB H):=
 enG (sp:=zBQ (zBv ts) R (onX g)) hi (qDW h)
def qHE{f:FuncId}{t:Ty}{p:Nat}{X:Type}{dec:List V->Option X}{R:RTy}{g:t.El->X->Option (t.El×R.El)}(hi:zGe Aa f=Sb)(h:zKs Γ Aa G0 f t p dec R g):xQ Γ:=⟨fun S=>S.addB f (zQK t p dec R g),fun _ a=>zPx a hi h⟩
end Go.Ve
namespace Go.Ve
noncomputable section
open Go Go.Proofs
theorem zRO:OkX 281 [(.int .u8)] (.p .bool) zEp:=fX [] [jj 6 5726623056 [] [.t 2 .bool]]
def zTq:Ent:=j9 zRO
theorem zVd:OkX 231 [.str] (.p .bool) zCy:=fX [zTq] [jj 6 91625968640 [] [.t 18 .bool],jj 30 0x5555555555555500000000000000 [] [.t 55 .bool],jj 17 0x5555555555555555554000000150 [] [.t 3 tI],jj 36 0x5555555555555555554000000150 [] []]
def zEJ:Ent:=j9 zVd
theorem zRN:OkX 232 [tI,tI,tI] (.p .bool) qB:=fX [] [jj 6 357912576 [] [.t 6 .bool]]
def kB:Ent:=j9 zRN
theorem zVe:OkX 74 [tI] (.p tU) zCz:=fX [] [jj 16 22906404928 [] [.t 3 tU],jj 13 22906492224 [] [.t 4 tI,.t 3 tU],jj 28 22906492224 [] [.t 3 tU]]
def zKe:Ent:=j9 zVe
theorem zIZ:OkX 36 [tU,tI] (.p zD) uC:=fX [zKe]
def zKd:Ent:=j9 zIZ
theorem zON:OkX 223 [zD,tU] (.p .bool) zAT:=fX [zKe]
def zQD:Ent:=j9 zON
theorem zRP:OkX 165 [zD,zD] (.p .bool) zBg:=fX [zQD] [jj 6 1431655680 [] [.t 4 .bool]]
def zTr:Ent:=j9 zRP
theorem zOM:OkX 282 [zD,zD] (.p .bool) xX:=fX [zTr] [jj 6 22369536 [] [.t 4 .bool]]
def zI4:Ent:=j9 zOM
theorem zMb:OkX 233 [(.sl z6)] (.p tI) xD:=fX [zI4,zKd,kB,zEJ] [jj 41 0x1555555000000000410 [] [.t 5 tI],jj 56 0x1555555000000000410 [] [],jj 58 0x155555554000000000000000000 [] [.t 52 .bool],jj 66 0x15555555555555555555555400000000000000000000000000 [] [.t 98 .bool],jj 74 0x5555555555555540000000000000000000000000000000000000000000000000 [] [.t 127 .bool],jj 94 0x1555555555555554000000000000000000000000000000000000000000000000000000000000000000 [] [.t 162 .bool],jj 85 0x1555555555555555550000000000000000000000000000000000000000000000000000000000001010 [] [.t 6 tI],jj 20 0x1555555555555555555555555555555555555555555555555555555555555555555555555500001710 [] [],jj 17 0x1555555555555555555555555555555555555555555555555555555555555555555555555555501750 [] [.t 3 tI],jj 100 0x1555555555555555555555555555555555555555555555555555555555555555555555555555501750 [] []]
def zNZ:Ent:=j9 zMb
theorem zTd:OkX 64 [zD] (.p .bool) u7:=fX [zKe] [jj 6 366503875920 [] [.t 2 .bool]]
def zFC:Ent:=j9 zTd
theorem zHO:OkX 283 [zRh] (.p .bool) xL:=fX [zFC] [jj 6 0x5555555555550 [] [.t 2 .bool]]
def zII:Ent:=j9 zHO
theorem zK0:OkX 234 [(.sl zDX)] (.p tI) zAh:=fX [zII,zEJ] [jj 37 0x5555555500000000110 [] [.t 4 tI],jj 52 0x5555555500000000110 [] [],jj 73 0x555555555500000000000000000000000410 [] [.t 5 tI],jj 20 0x555555555555555555555555555540000510 [] [],jj 17 0x555555555555555555555555555555540550 [] [.t 3 tI],jj 88 0x555555555555555555555555555555540550 [] []]
def zMv:Ent:=j9 zK0
theorem zMc:OkX 284 [zG,.str] (.p tI) u6:=fX [] [jj 9 5864062014720 [] [.t 5 tI],jj 24 5864062014720 [] []]
def zG0:Ent:=j9 zMc
theorem zNu:OkX 235 [zG] (.p tI) zBe:=fX [kB,zG0,zEJ] [jj 41 0x555555550000000000410 [] [.t 5 tI],jj 56 0x555555550000000000410 [] [],jj 90 0x555550000000000000000000000000000000000000 [] [.t 83 .bool],jj 98 0x55555555555555000000000000000000000000000000000000000000 [] [.t 111 .bool],jj 77 0x5555555555555555555555555555000000000000000000000000d010 [] [.t 6 tI],jj 24 0x5555555555555555555555555555555555555555555555400000d410 [] [],jj 21 0x5555555555555555555555555555555555555555555555555400d510 [] [.t 4 tI],jj 104 0x5555555555555555555555555555555555555555555555555400d510 [] []]
def zPb:Ent:=j9 zNu
theorem zTb:OkX 318 [zS] (.p .bool) zF1:=fX [] [jj 6 22906492240 [] [.t 2 .bool]]
def zVE:Ent:=j9 zTb
theorem zW8:OkX 319 [zS] (.p .bool) zJH:=fX []
def zZK:Ent:=j9 zW8
theorem zNx:OkX 285 [zWm] (.p .bool) zC6:=fX [zZK,zVE,kB] [jj 6 0x15555555555555555540 [] [.t 38 .bool],jj 14 0x15555555540000000000000000010 [] [.t 2 .bool]]
def zPe:Ent:=j9 zNx
theorem zK1:OkX 236 [(.sl zOu)] (.p tI) zAi:=fX [zPe,zEJ] [jj 37 0x5555555500000000110 [] [.t 4 tI],jj 52 0x5555555500000000110 [] [],jj 73 0x555555555500000000000000000000000410 [] [.t 5 tI],jj 20 0x555555555555555555555555555540000510 [] [],jj 17 0x555555555555555555555555555555540550 [] [.t 3 tI],jj 88 0x555555555555555555555555555555540550 [] []]
def zMw:Ent:=j9 zK1
theorem zW9:OkX 286 [zG,.str] (.p tI) zF2:=fX [] [jj 9 5864062014720 [] [.t 5 tI],jj 24 5864062014720 [] []]
def zSy:Ent:=j9 zW9
theorem zJR:OkX 237 [zG] (.p tI) xK:=fX [zSy,kB] [jj 42 0x15555555550000000000400 [] [.t 5 .bool],jj 50 0x555555555555555400000000000000000000400 [] [.t 5 .bool],jj 58 0x15555555555555555555550000000000000000000000000000000000000400 [] [.t 5 .bool],jj 60 0x15555555555555555555555555555555555555555555555555500000000400 [] [.t 5 .bool],jj 70 0x15555400000000000000000000000000000000000000000000000000000000000000 [] [.t 134 .bool],jj 17 0x15555555555555555555555555555555555555555555555555555555555555500750 [] [.t 3 tI],jj 76 0x15555555555555555555555555555555555555555555555555555555555555500750 [] []]
def zLd:Ent:=j9 zJR
theorem zQm:OkX 238 [zG] (.p tI) zC5:=fX [zSy] [jj 22 0x15555555555400000000 [] [.t 38 .bool],jj 9 0x15555555555555555750 [] [.t 3 tI],jj 28 0x15555555555555555750 [] []]
def zSx:Ent:=j9 zQm
theorem zQn:OkX 182 [zG,tU] (.p tI) zAF:=fX [] [jj 18 0x555555554000000 [] [.t 29 .bool],jj 9 0x1555555555555500 [] [.t 5 tI],jj 24 0x1555555555555500 [] []]
def zKc:Ent:=j9 zQn
theorem zNy:OkX 287 [zG,.str] (.p tI) zAj:=fX [] [jj 9 5864062014720 [] [.t 5 tI],jj 24 5864062014720 [] []]
def zPf:Ent:=j9 zNy
theorem zQl:OkX 239 [zG] (.p tI) zBD:=fX [zPf,kB,zKc,zFC] [jj 40 95982967058334720 [] [.t 5 tI],jj 48 0x55400000000000400 [] [.t 5 tI],jj 56 0x5500000000000000400 [] [.t 5 tI],jj 58 0x55555555555555550000000000000000000 [] [.t 69 .bool],jj 88 0x5555555500000000000000000000000000000001000 [] [],jj 102 0x15555555554000000000000000000000000000000000000000000000 [] [.t 110 .bool],jj 93 0x15555555555550000000000000000000000000000000000000004010 [] [.t 7 tI],jj 20 0x15555555555555555555555555555555555555555555554000005710 [] [],jj 17 0x15555555555555555555555555555555555555555555555555005750 [] [.t 3 tI],jj 108 0x15555555555555555555555555555555555555555555555555005750 [] []]
def zSw:Ent:=j9 zQl
theorem zOL:OkX 320 [zG,.str] (.p tI) xV:=fX [] [jj 9 5864062014720 [] [.t 5 tI],jj 24 5864062014720 [] []]
def zI3:Ent:=j9 zOL
theorem zHN:OkX 288 [zG,(.sl zGL),tI,tI,tI] (.p tI) kK:=fX [zI3,kB] [jj 30 0x15555555555540000000000000 [] [.t 50 .bool],jj 38 0x555555555540000000000000000000000000 [] [.t 71 .bool],jj 46 0x55555000000000000000000000000000000000000 [] [.t 81 .bool],jj 57 0x155555500000000000000000000000000000000004100000 [] [.t 13 tI],jj 20 0x155555555555555555555555555555555555400007100000 [] [],jj 17 0x155555555555555555555555555555555555555407500000 [] [.t 11 tI],jj 72 0x155555555555555555555555555555555555555407500000 [] []]
def zAI:Ent:=j9 zHN
theorem zNw:OkX 240 [zG] (.p tI) zBf:=fX [zAI,zI4,zFC,kB] [jj 14 0x5555555400000 [] [.t 25 .bool],jj 54 0x155555555400000000000000000000 [] [.t 58 .bool],jj 74 0x5555555555555500000000000000000000000000000000 [] [.t 91 .bool],jj 65 0x5555555555555555400000000000000000000000000410 [] [.t 5 tI],jj 48 0x5555555555555555555555555400000000000000000410 [] [],jj 45 0x5555555555555555555555555555500000000000000510 [] [.t 4 tI],jj 80 0x5555555555555555555555555555500000000000000510 [] []]
def zPd:Ent:=j9 zNw
theorem zOK:OkX 241 [zG] (.p tI) zB0:=fX [zAI,zG0,kB] [jj 14 0x55555555540000 [] [.t 27 .bool],jj 34 0x555555555550000000000000000 [] [.t 53 .bool]]
def zQC:Ent:=j9 zOK
theorem zNv:OkX 289 [zG] (.p tI) zC4:=fX [zI3,kB] [jj 30 0x15555555000000000 [] [.t 32 .bool],jj 38 0x1555555555555555540000000000000000 [] [.t 66 .bool],jj 49 0x155555554000000000000000000000000000000410 [] [.t 5 tI],jj 24 0x155555555555555555555555555555555000000410 [] [],jj 21 0x155555555555555555555555555555555555000510 [] [.t 4 tI],jj 64 0x155555555555555555555555555555555555000510 [] []]
def zPc:Ent:=j9 zNv
theorem zJS:OkX 290 [tPV] (.p tI) zA5:=fX [zFC] [jj 37 0x5555555500000000000110 [] [.t 4 tI],jj 20 0x5555555555540000000110 [] [],jj 17 0x5555555555555550000150 [] [.t 3 tI],jj 52 0x5555555555555550000150 [] [],jj 85 0x15555555540000000000000000000000000001010 [] [.t 6 tI],jj 68 0x15555555555554000000000000000000000001010 [] [],jj 65 0x15555555555555555000000000000000000001410 [] [.t 5 tI],jj 100 0x15555555555555555000000000000000000001410 [] [],jj 126 0x155554000000000000000000000000000000000000000000000000 [] [.t 106 .bool],jj 145 0x555555500000000000000000000000000000000000000000000000000040010 [] [.t 9 tI],jj 116 0x555555555555555550000000000000000000000000000000000000000070010 [] [],jj 113 0x555555555555555555554000000000000000000000000000000000000074010 [] [.t 7 tI],jj 160 0x555555555555555555554000000000000000000000000000000000000074010 [] []]
def zLe:Ent:=j9 zJS
theorem zMa:OkX 242 [zG] (.p tI) zAO:=fX [zAI,zLe,zPc,kB] [jj 14 0x155555555555555400000 [] [.t 40 .bool],jj 26 0x5555555400000000000000000000 [] [.t 55 .bool]]
def zNY:Ent:=j9 zMa
theorem zK2:OkX 181 [zG] (.p tI) yM:=fX [zNY,zQC,zPd,zSw,zSx,zLd,zMw,zPb,zMv,zNZ,kB,zEJ] [jj 29 0x55555554000000000000000110 [] [.t 4 tI],jj 44 0x55555554000000000000000110 [] []]
def zMx:Ent:=j9 zK2
theorem zTc:OkX 128 [zI] (.p tI) xW:=fX [zKc,zMx] [jj 41 0x155555555400000000000410 [] [.t 5 tI],jj 56 0x155555555400000000000410 [] [],jj 86 0x5555555000000000000000000000000000000000000 [] [.t 85 .bool],jj 77 0x5555555554000000000000000000000000000010010 [] [.t 8 tI],jj 64 0x555555555555550000000000000000000000001c010 [] [],jj 61 0x555555555555555555540000000000000000001d010 [] [.t 6 tI],jj 20 0x555555555555555555555555555545555000001d510 [] [],jj 17 0x555555555555555555555555555555555555401d550 [] [.t 3 tI],jj 92 0x555555555555555555555555555555555555401d550 [] []]
theorem zTg:OkX 75 [zG] (.p .bool) zIy:=fX [] [jj 6 0x555555555555555555555555555555555555555555555000 [] [.t 95 .bool],jj 17 0x15555555000000000000000000000000000000000000000000000050 [] [.t 3 tI],jj 32 0x15555555000000000000000000000000000000000000000000000050 [] [],jj 37 0x555555540000000000000000000000000000000000000000000000000000110 [] [.t 4 tI],jj 52 0x555555540000000000000000000000000000000000000000000000000000110 [] [],jj 57 0x15555555000000000000000000000000000000000000000000000000000000000000410 [] [.t 5 tI],jj 72 0x15555555000000000000000000000000000000000000000000000000000000000000410 [] []]
def zVH:Ent:=j9 zTg
theorem zRR:OkX 38 [zI] (.p .bool) zGW:=fX [zVH] [jj 17 5864061993040 [] [.t 3 tI],jj 32 5864061993040 [] []]
def zTt:Ent:=j9 zRR
theorem zQo:OkX 70 [zD,zD] (.p tI) zC7:=fX [] [jj 6 93824992236544 [] [.t 23 .bool]]
def zHv:Nat->Option JA:=fun k=>match k with|84=>Sa ⟨0x100000000000000000000000000000000000000000000000000000000000000000000000000000000000000000000000000000000000000000000000000000000000000000000000000000000000000000000000000000000000000000000000000000000000000000000000000000000000000000000000000000000000000000000000000000000000000000000000000000000000000000000000000000000000000000000000000000000000000000000000000000000000000000000000000000000000000000000000000000000000000000000000000000000000000000000000000000000000000155555555555555555555555555555555555555555555555555555555555555555555500005f5800,[],[.v 5 [.o 1100 zX,.o 1101 tI],.st]⟩|25=>Sa ⟨0x100000000000000000000000000000000000000000000000000000000000000000000000000000000000000000000000000000000000000000000000000000000000000000000000000000000000000000000000000000000000000000000000000000000000000000000000000000000000000000000000000000000000000000000000000000000000000000000000000000000000000000000000000000000000000000000000000000000000000000000000000000000000000000000000000000000000000000000000000000000000000000000000000000000000000000000000000000000000000155555555555555555555555555555555555555555555555555555555555555555555500005f5800,[],[.t 6 tI,.v 5 [.o 1100 zX,.o 1101 tI],.st]⟩|28=>Sa ⟨0x100000000000000000000000000000000000000000000000000000000000000000000000000000000000000000000000000000000000000000000000000000000000000000000000000000000000000000000000000000000000000000000000000000000000000000000000000000000000000000000000000000000000000000000000000000000000000000000000000000000000000000000000000000000000000000000000000000000000000000000000000000000000000000000000000000000000000000000000000000000000000000000000000000000000000000000000000000000000000155555555555555555555555555555555555555555555555555555555555555555400000005f4800,[],[.v 5 [.o 1100 zX,.o 1101 tI],.st]⟩|37=>Sa ⟨0x100000000000000000000000000000000000000000000000000000000000000000000000000000000000000000000000000000000000000000000000000000000000000000000000000000000000000000000000000000000000000000000000000000000000000000000000000000000000000000000000000000000000000000000000000000000000000000000000000000000000000000000000000000000000000000000000000000000000000000000000000000000000000000000000000000000000000000000000000000000000000000000000000000000000000000000000000000000000000155555555555555555555555555555555555555555555555555555555555555555400000005f4800,[],[.t 7 tI,.v 5 [.o 1100 zX,.o 1101 tI],.st]⟩|40=>Sa ⟨0x100000000000000000000000000000000000000000000000000000000000000000000000000000000000000000000000000000000000000000000000000000000000000000000000000000000000000000000000000000000000000000000000000000000000000000000000000000000000000000000000000000000000000000000000000000000000000000000000000000000000000000000000000000000000000000000000000000000000000000000000000000000000000000000000000000000000000000000000000000000000000000000000000000000000000000000000000000000000000155555555555555555555555555555555555555555555555555555555555500000000000005f0800,[],[.v 5 [.o 1100 zX,.o 1101 tI],.st]⟩|80=>Sa ⟨0x10000000000000000000000000000000000000000000000000000000000000000000000000000000000000000000000000000000000000000000000000000000000000000000000000000000000000000000000000000000000000000000000000000000000000000000000000000000000000000000000000000000000000000000000000000000000000000000000000000000000000000000000000000000000000000000000000000000000000000000000000000000000000000000000000000000000000000000000000000000000000000000000000000000000000000000000000000000000000000000000155555555555555555555550000000000000000000000000000000000000000000400800,[],[.v 5 [.o 1100 zX,.o 1101 tI],.st]⟩|70=>Sa ⟨0x55555555555550000000000000000000000000000000000000000000000000,[],[.t 123 .bool,.v 5 [.o 1100 zX,.o 1101 tI],.st]⟩|68=>Sa ⟨0x5555555555555555555400000000000000000000000100800,[],[.t 10 tI,.v 5 [.o 1100 zX,.o 1101 tI],.st]⟩|61=>Sa ⟨0x5555555555555555555400000000000000000000000100800,[],[.t 10 tI,.v 5 [.o 1100 zX,.o 1101 tI],.st]⟩|62=>Sa ⟨0x555555555555555555400000000000000000000000000000,[],[.t 95 .bool,.v 5 [.o 1100 zX,.o 1101 tI],.st]⟩|50=>Sa ⟨0x555400000000000000000000000,[],[.t 53 .bool,.v 5 [.o 1100 zX,.o 1101 tI],.st]⟩|92=>Sa ⟨0x40000000000000000000000000000000000000000000000000000000000000000000000000000000000000000000000000000000000000000000000000000000000000000000000000000000000000000000000000000000000000000000000000000000000000000000000000000000000000000000000000000000000000000000000000000000000000000000000000000000000000000000000000000000000000000000000000000000000000000000000000000000000000000000000000000000000000000000000000000000000000000000000000000000000000000000000000000555555500000000000000000000000000000000000000000000000000000000000000000000000000000000800,[],[.v 5 [.o 1100 zX,.o 1101 tI],.st]⟩|89=>Sa ⟨0x40000000000000000000000000000000000000000000000000000000000000000000000000000000000000000000000000000000000000000000000000000000000000000000000000000000000000000000000000000000000000000000000000000000000000000000000000000000000000000000000000000000000000000000000000000000000000000000000000000000000000000000000000000000000000000000000000000000000000000000000000000000000000000000000000000000000000000000000000000000000000000000000000000000000000000000000000000555555555540000000000000000000000000000000000000000000000000000000000000000000000001000800,[],[.t 12 tI,.v 5 [.o 1100 zX,.o 1101 tI],.st]⟩|104=>Sa ⟨0x40000000000000000000000000000000000000000000000000000000000000000000000000000000000000000000000000000000000000000000000000000000000000000000000000000000000000000000000000000000000000000000000000000000000000000000000000000000000000000000000000000000000000000000000000000000000000000000000000000000000000000000000000000000000000000000000000000000000000000000000000000000000000000000000000000000000000000000000000000000000000000000000000000000000000000000000000000555555555540000000000000000000000000000000000000000000000000000000000000000000000001000800,[],[.v 5 [.o 1100 zX,.o 1101 tI],.st]⟩|83=>Sa ⟨0,[(16,0,8)],[.st]⟩|79=>Sa ⟨0,[(14848,1024,0)],[.st]⟩|_=>Sc
theorem zQv:∀k j,zHv k=Sa j->zDO j.sl=true:=by
 intro k j h
 unfold zHv at h
 split at h<;>(cases h<;>rfl)
theorem zQs:jJ (v8 zS) Aa G0 76 (z7 (zBQ (zBv [zI]) (.tu [zLT,tI]) zEl)):=zZo (fn:=Tryz.f76) (c:=kU Tryz.f76) (S:=(((((zU.none (v8 zS)).add 128 (qQ [zI] (.p tI) xW)).add 36 (qQ [tU,tI] (.p zD) uC)).add 70 (qQ [zD,zD] (.p tI) zC7)).addH)) (A:=zHv) zQv (zPz (vQ (vQ (vQ jE (by kernel_rfl) (zHV (fun _=>rfl) (zMC (by kernel_rfl)) (by kernel_rfl) zTc)) (by kernel_rfl) (zHV (fun _=>rfl) (zMC (by kernel_rfl)) (by kernel_rfl) zIZ)) (by kernel_rfl) (zHV (fun _=>rfl) (zMC (by kernel_rfl)) (by kernel_rfl) zQo)) (by kernel_rfl) (by kernel_rfl)) (by kernel_rfl) (by kernel_rfl) (by rintro a ⟨e,⟨⟩⟩;kernel_rfl)
theorem zRQ:jJ U Aa G0 76 (z7 (qQ [zI] (.tu [zLk,tI]) zGS)):=zPM (fun _=>rfl) (by kernel_rfl) zQs
def zTs:Ent:=j9 zRQ
theorem zMe:OkX 77 [(.sl tI),tI] (.p .bool) zCd:=fX [] [jj 26 0x5555555555555540000000 [] [.t 43 .bool],jj 17 0x5555555555555555540500 [] [.t 5 tI],jj 32 0x5555555555555555540500 [] []]
def zN1:Ent:=j9 zMe
theorem zTe:OkX 39 [zI,(.sl tI)] (.tu [zF,tI]) zIp:=fX [zN1,zTs] [jj 27 0 [(240,3,0)] []]
def zVF:Ent:=j9 zTe
theorem zTi:OkX 11 [zI,(.sl tI)] (.tu [zF,.bool]) zIz:=fX [zVF,zTt] [jj 6 1431633920 [] [.t 15 .bool]]
def zVI:Ent:=j9 zTi
theorem zTk:OkX 152 [tI] (.p tI) zGs:=fX []
def zN4:Ent:=j9 zTk
theorem zVf:OkX 151 [tI] (.p tU) zH9:=fX [zN4]
def zPV:Ent:=j9 zVf
theorem zI0:OkX 91 [tU,tI] (.p zD) zBM:=fX [zN4,zPV]
theorem zKY:OkX 183 [(.sl zS),zS] (.p tI) yL:=fX [] [jj 9 91625948416 [] [.t 8 tI],jj 28 91625968896 [] []]
def zMs:Ent:=j9 zKY
theorem zIu:OkX 130 [(.sl zS),zS] (.p .bool) uG:=fX [zMs]
def zJq:Ent:=j9 zIu
theorem zRK:OkX 79 [zF,tI,tI] (.p tI) zAw:=fX [zJq] [jj 13 0x555554000d1000 [] [.t 17 tI],jj 32 0x555555540d1000 [] []]
def zHn:Ent:=j9 zRK
theorem zKX:OkX 86 [(.sl tI),tI] (.p tI) uO:=fX [] [jj 9 91625948416 [] [.t 8 tI],jj 28 91625968896 [] []]
def zGl:Ent:=j9 zKX
theorem zVc:OkX 129 [zF,tI,tI] (.p tI) zFN:=fX [zGl,zHn]
def zXL:Ent:=j9 zVc
theorem zIt:OkX 49 [(.sl tI),tI] (.p .bool) vZ:=fX [zGl]
def zDQ:Ent:=j9 zIt
theorem zRJ:OkX 78 [zF,tI,tI] (.p .bool) zGK:=fX [zDQ,zXL,zHn] [jj 18 0x5555400001000 [] [.t 6 .bool]]
def zUq:Ent:=j9 zRJ
theorem zOP:OkX 154 [tI] (.p .bool) zAW:=fX []
def zI5:Ent:=j9 zOP
theorem zGc:OkX 94 [tI,tI] (.p tI) qH:=fX [zI5]
def xP:Ent:=j9 zGc
theorem zK6:OkX 228 [tU] (.p .bool) zBK:=fX []
def zMA:Ent:=j9 zK6
theorem zJl:OkX 174 [tU,tU] (.p tI) kI:=fX [zMA]
def uV:Ent:=j9 zJl
theorem zOQ:OkX 218 [zD,tU] (.p .bool) zB7:=fX [zPV]
def zQE:Ent:=j9 zOQ
theorem zQr:OkX 117 [zD,zD] (.p tI) zFL:=fX [xP,uV]
def zSA:Ent:=j9 zQr
theorem zQp:OkX 72 [zF,tI,tI] (.p tI) zBE:=fX [] [jj 21 0x5555555555555400011000 [] [.t 8 tI],jj 12 0x5555555555555400011000 [] [],jj 9 0x5555555555555555555000 [] [.t 7 tI],jj 36 0x5555555555555555555000 [] []]
def zGm:Ent:=j9 zQp
theorem zTf:OkX 73 [zF,tI,tI] (.p tI) zIq:=fX [zGm] [jj 22 0x15555540000000000 [] [.t 32 .bool],jj 13 0x55555555554011000 [] [.t 8 tI],jj 28 0x55555555554011000 [] []]
def zVG:Ent:=j9 zTf
theorem zXa:OkX 35 [zF,tI,tI] (.p .bool) zJI:=fX [zVG,zGm] [jj 21 0x5555555000011000 [] [.t 8 tI],jj 36 0x5555555000011000 [] []]
def zSz:Ent:=j9 zXa
theorem zJU:OkX 159 [zD,zD] (.p .bool) zCI:=fX [zQE] [jj 6 1431655680 [] [.t 4 .bool]]
def zTu:Ent:=j9 zJU
def zMP:Nat->Option JA:=fun k=>match k with|12=>Sa ⟨336,[],[.t 0 (.sl zQ)]⟩|_=>Sc
theorem zFi:jJ U Aa G0 113 (z7 (qQ [(.sl zQ)] (.p (.sl zQ)) uP)):=zR9 (t:=zQ) (bytes:=16) (zAG (fn:=Ae) (c:=kU Ae) (S:=zU.none U) (A:=fun _=>Sc) jE (by kernel_rfl) (by kernel_rfl) (enc:=fun q=>[.tl zQ (q.1::q.2)]) (fun _ _ h=>zKg h) (by rintro⟨⟩ ⟨y,r⟩;kernel_rfl)) (fun c=>zAG (fn:=Ae) (c:=kU Ae) (S:=zU.none U) (A:=fun _=>Sc) jE (by kernel_rfl) (by kernel_rfl) (enc:=fun _=>[.val (.slice Sc 0 c)]) (fun _ _ h=>zCF h) (by rintro⟨⟩ _;kernel_rfl)) (fun a c=>zAG (fn:=Ae) (c:=kU Ae) (S:=zU.none U) (A:=zMP) jE (by kernel_rfl) (by kernel_rfl) (enc:=fun _=>[.val (.slice (Sa a) 0 c)]) (fun _ _ h=>zCF h) (by rintro⟨⟩ _;kernel_rfl))
def zMu:Ent:=j9 zFi
def zMO:Nat->Option JA:=fun k=>match k with|12=>Sa ⟨336,[],[.t 0 (.sl tI)]⟩|_=>Sc
theorem zKZ:jJ U Aa G0 89 (z7 (qQ [(.sl tI)] (.p (.sl tI)) zBA)):=zR9 (t:=tI) (bytes:=8) (zAG (fn:=Af) (c:=kU Af) (S:=zU.none U) (A:=fun _=>Sc) jE (by kernel_rfl) (by kernel_rfl) (enc:=fun q=>[.tl tI (q.1::q.2)]) (fun _ _ h=>zKg h) (by rintro⟨⟩ ⟨y,r⟩;kernel_rfl)) (fun c=>zAG (fn:=Af) (c:=kU Af) (S:=zU.none U) (A:=fun _=>Sc) jE (by kernel_rfl) (by kernel_rfl) (enc:=fun _=>[.val (.slice Sc 0 c)]) (fun _ _ h=>zCF h) (by rintro⟨⟩ _;kernel_rfl)) (fun a c=>zAG (fn:=Af) (c:=kU Af) (S:=zU.none U) (A:=zMO) jE (by kernel_rfl) (by kernel_rfl) (enc:=fun _=>[.val (.slice (Sa a) 0 c)]) (fun _ _ h=>zCF h) (by rintro⟨⟩ _;kernel_rfl))
def zMt:Ent:=j9 zKZ
theorem zNr:OkX 41 [zF,tI,tI] (.p (.sl zS)) zAe:=fX [zHn,zUq] [jj 30 0x55555000000000000000 [] [.t 39 .bool,.o 7 7 zS],jj 36 0x55555555000000000c4000 [] [.o 7 7 zS],jj 21 0x155555555500000000c4000 [] [.t 26 tI,.o 7 7 zS],jj 40 0x155555555555555400c4000 [] [.o 7 7 zS]]
def zO9:Ent:=j9 zNr
theorem zMd:OkX 71 [zF,tI,tI] (.p (.sl zS)) zCc:=fX [zGm,zSz] [jj 28 0x15555554000000000004000 [] [.o 7 7 zS],jj 25 0x15555555554000000044000 [] [.t 9 tI,.o 7 7 zS],jj 40 0x15555555554000000044000 [] [.o 7 7 zS]]
def zN0:Ent:=j9 zMd
end
end Go.Ve
namespace Go.Ve
open Go Go.Proofs
section
variable {Γ:Sig}{P:Program}{G:Nat->Option (List V)}
def qDG{St:Type}(e:Env St)(fn:Func)(t:Ty):Option (List t.El):=match fn.results.toList with
 |[.tmp q]=>match e.get q with
  |.ot _ a c=>zDS a t c
  |_=>Sc
 |_=>Sc
noncomputable def qGO(L:j6)(G:Nat->Option (List V))(S:zU Γ)(A:Nat->Option JA)(fn:Func)(c:Code)(t:Ty)(s:Γ.St)(xs:List t.El)(ds:List V):Option (List t.El):=
 zEC (zCV fn.ntmps s t xs ds) (fun e=>exC L G S A c (List t.El) (fun k a _=>match k with
  |.exit _=>Sc
  |_=>qDG a fn t) e 0)
theorem qDZ[p:Calm Γ][W:Subsingleton Γ.St]{S:zU Γ}{A:Nat->Option JA}(Y:P.follows .mixedOrders=Sb)(hS:qK Γ P G S.toS){f:FuncId}{fn:Func}{c:Code}(hf:P.funcs[f]?=Sa fn)(Q:fn.body=Sa c)
  {t:Ty} {X:Type} {dec:List V->Option X} {enc:X->List V} (Z:∀ds x,dec ds=Sa x->kW ds (enc x)) (a4:∀ds x,dec ds=Sa x->zCk ds=Sc) {g:List t.El->X->Option (List t.El)}
  (h:∀s xs x,qGO (Γ:=Γ) P G S A fn c t s xs (enc x)=g xs x):zGy Γ P G f t dec g:=by
 intro s xs r x ys hx hy;refine zAy.of (a4 r x hx) ?_;intro w F O b v0 j ab hG hF I a5 M bo a6;have ad:=Z r x hx;have N:j.size=(enc x).length+1:=M.trans (by rw[ad.len])
 have ag:∀(i:Nat) (u:Value) (d:V),j[i+1]?=Sa u->(enc x)[i]?=Sa d->Rd w F u d:=by
  intro i u d hu hd;have hlt:i<r.length:=by grind
  exact ad.get i r[i] d (by simp[hlt]) hd w F u (a6 i u r[i] hu (by simp[hlt]))
 have E:=h s xs x;rw[hy]at E;unfold qGO at E;rw[yD]at E;obtain⟨k,e',d,a9,_,e⟩:=zHW (fun _ _ _=>.inl W) Y hS c _ _ _ _ _ E
 have hk:(k=.normal\/k=.ret)/\qDG e' fn t=Sa ys:=by
  cases k with
  |normal=>grind
  |ret=>grind
  |exit id=>cases e
 obtain⟨hk,e⟩:=hk;unfold qDG at e;split at e
 .rename_i q an;split at e
  .rename_i id J zs hg;obtain⟨bb,hz⟩:=u9 (uY e);subst bb;subst hz;refine calls_of_wp hf Q ?_
   have K:∃m,xs≠[]->v0=.slice (Sa ⟨b,0,Sc⟩) xs.length m/\xs.length<=m/\∃(c:Array Value) (et:TypeId) (fl:Nat×Nat),w.heap[b]?=Sa (.cells c et fl)/\c.size=m*J.size:=by
    rcases I with⟨y,_⟩|⟨y,_,m,z,c,et,h3,h4,h5,_⟩
    .simp_all
    grind
   obtain⟨m,K⟩:=K;let β:Lay:=⟨fun _=>0,fun _=>b⟩
   let al:v6->Prop:=fun q=>q=.o jV/\xs≠[];let O0:x5:=⟨O,if xs=[]then Sc else Sa (b,m*J.size)⟩
   have bs:zY w F β al v0 (.ot jV J xs):=by
    rcases I with⟨y,z⟩|⟨y,_,z⟩
    .exact .inl ⟨y,z⟩
    .exact .inr ⟨y,⟨rfl,fun B=>y (by rw[B];rfl)⟩,z⟩
   have vA:∀q,zY w F β al ((j++Array.replicate (fn.ntmps-j.size) undef).getD q undef) ((zCV fn.ntmps s J xs (enc x)).get q):=by
    intro q;simp[zCV,zJx,Env.get]
    cases q with
    |zero=>
     grind
    |succ q=>
     rw[bp];by_cases ht:q< (enc x).length
     .rw[aT (by simpa using ht),bh (by omega)];rw[aA,ah ht,aD (by omega)];exact ag q _ _ (by grind) (by simp[ht])
     .rw[aF (by grind),bu (by omega),N];simp only[aK];by_cases z:q- (enc x).length<fn.ntmps- ((enc x).length+1)
      .rw[bc,if_pos z,bJ,if_pos (by omega)];exact Rd.val _
      .rw[bc,if_neg z];trivial
   have a2:∀s0,(zCV fn.ntmps s J xs (enc x)).var s0=none:=by
    grind[zCV,Env.var]
   have hl:xs≠[]->O0.l=Sa (b,m*J.size):=fun B=>by simp[O0,B]
   have ao:Inv Γ G w F O0 { tmps:=j++Array.replicate (fn.ntmps-j.size) undef,defers:=[] } w (zCV fn.ntmps s J xs (enc x)):=by
    refine Inv.of (F:=F) (O:=O) (β:=β) (al:=al) ⟨xC.refl _ w,ab,fun b Q=>.inl Q,fun b Q=>⟨.inl Q,hF b Q⟩,.refl _ _,?_,?_,?_⟩ hG ?_ rfl vA ?_ ?_
    .rintro q ⟨rfl,ap⟩;exact⟨.inr ⟨rfl,_,hl ap⟩,a5 ap⟩
    .grind
    .intro b' n b0
     grind
    all_goals grind[zCV,zJx]
   refine wp_mono (a9 w F O0 _ w ao) ?_;rintro ex a' w' ⟨rfl,av⟩;have H:a'.defers=[]:=by obtain⟨_,_,_,_,_,_,H,_⟩:=av;exact H
   obtain⟨F',O',β',a,b1,bn,_,bd,b2⟩:=av;have hT:=bd q;rw[hg]at hT;have C:(results fn a'.tmps).run P w'=.ok (a'.tmps.getD q undef) w':=by rw[zL6,cP,an];simp only[Sem.run_bind,Sem.run_map,Sem.run_pure];rfl
   have D:xC (fun c=>O c\/(xs≠[]/\c=b)) w w':=by
    refine⟨a.keep.os,a.keep.tape,a.keep.output,a.keep.size,fun c hc ho=>a.keep.block c hc ?_,a.keep.drawn⟩;rintro(B|⟨n,B⟩);all_goals grind
   have L:zCt w.heap.size w' F' O' b v0 J xs zs (a'.tmps.getD q undef) .bot:=by
    rcases hT with⟨y,z⟩|⟨y,be,ax,z,ay⟩
    .have hz:zs=[]:=by simpa using y
     exact⟨b,.inl ⟨rfl,fun _=>hz⟩,.inl ⟨y,z⟩⟩
    .obtain⟨p1,p2,p3,p4⟩:=a.place _ be;refine⟨β'.ob id,?_,.inr ⟨y,trivial,ax,z,ay⟩⟩;rcases p1 with⟨_,B⟩|⟨_,n,B⟩
     .exact .inr ⟨B,p2,p3,p4⟩
     .by_cases a0:xs=[]
      .grind
      .rw[hl a0]at B;simp at B;exact .inl ⟨B.1.symm,fun h=>absurd h a0⟩
   have a1:e'.st=s:=cY _ _;rcases hk with rfl|rfl
   .exact⟨H,_,C,_,F',O',rfl,by rw[<-a1];exact a.sig,D,a.oin,a.f0.no p.no,a.fin,L⟩
   .exact⟨H,_,C,_,F',O',rfl,by rw[<-a1];exact a.sig,D,a.oin,a.f0.no p.no,a.fin,L⟩
  .cases e
 .cases e
end
theorem zZn{S:zU U}{A:Nat->Option JA}(d:qK U Aa G0 S.toS){f:FuncId}{fn:Func}{c:Code}(a:LF.fn f=Sa fn)(e:fn.body=Sa c)
  {t:Ty} {ts:List ATy} {g:List t.El->ElA ts->Option (List t.El)} (h:∀s xs x,qGO (Γ:=U) LF G0 S A fn c t s xs (zMr ts x)=g xs x):zGy U Aa G0 f t (uI ts) g:=by
 have i:LF=j6.of Aa:=j6.fast_eq Aa 388 349;rw[i]at a h;exact qDZ mixed d a e (zAJ ts) (zKh ts) h
end Go.Ve
namespace Go.Ve
open Go Go.Proofs
set_option maxRecDepth 1000000
variable {P:Program}
theorem zZ0{w:World}{F:Blk->Prop}{b:Nat}{M v1:Value}{t:Ty}{xs A:List t.El}{ts:Array TypeId}{ty t0 t1 el el1:TypeId}{f:TypeInfo}{z:Value}
  (h0:ts[0]?=Sa t0) (h1:ts[1]?=Sa t1) (ag:P.underlying t0=Sa (.slice el)) (al:P.underlying t1=Sa (.slice el1)) (H:P.info? el=Sa f) (hz:f.zero=Sa z)
  (a6:t.size=f.size) (a9:1<=f.bytes) (ck:z.cells.size=f.size) (N:(2*(xs.length+A.length)+1024)*f.bytes<=0x800000000000)
  (S:zB8 w F ⟨fun _=>b,fun _=>b⟩ (fun _=>True) M 0 t.size (xs.map t.enc)) (hb:xs≠[]->b<w.heap.size/\¬F b) (hF:∀c:Nat,F c->c<w.heap.size) (av:Rd w F v1 (.tl t A)):
  ∃u w',(Ac ts ty #[M,v1]).run P w=.ok u w'/\xC (fun c=>xs≠[]/\c=b) w w'/\
   ∃I,((I=b/\(xs=[]->A=[]))\/(w.heap.size<=I/\I<w'.heap.size))/\zB8 w' F ⟨fun _=>I,fun _=>I⟩ (fun _=>True) u 0 t.size ((xs++A).map t.enc):=by
 have ax:∀q,q∈xs.map t.enc->q.cells.length=f.size:=by
  intro q hq;obtain⟨y,_,rfl⟩:=aO.1 hq
  grind[wZ]
 have O:∀q,q∈A.map t.enc->q.cells.length=f.size:=by
  intro q hq;obtain⟨y,_,rfl⟩:=aO.1 hq
  grind[wZ]
 have bb:∀q,q∈A.map t.enc->q.cells.all V.one=true:=by intro q hq;obtain⟨y,_,rfl⟩:=aO.1 hq;rw[jM];exact zH4 t y
 let β:Lay:=⟨fun _=>b,fun _=>b⟩
 have bd:zY w F β (fun _=>True) v1 (.p (.sl (A.map t.enc))):=(zBO (x:=.p (.tl t A))).1 av;obtain⟨a1,C,cells,an,be,G,J,bk⟩:=zIj (P:=P) (k:=f.size) bd rfl O;have hs:wB P el=Sa f.size:=zBB H
 have ao:∀m,(Ad z.cells m).size=m*f.size:=by
  grind[Array.size_map,Array.size_range,Ad]
 rw[a6]at S ⊢
 have K:∀(a0:Option Addr) (g:Nat) (old:List Value),M=.slice a0 xs.length g->(∀w':World,w'.heap=w.heap->(Ab f.size xs.length M).run P w'=.ok old.toArray w')->old.length=xs.length*f.size->
   (∀(i j:Nat) (e d:V),(xs.map t.enc)[i]?=Sa e->e.cells[j]?=Sa d->∃x,old[i*f.size+j]?=Sa x/\Rd w F x d)->¬xs.length+A.length<=g->
   ∃u w',(Ac ts ty #[M,v1]).run P w=.ok u w'/\xC (fun c=>xs≠[]/\c=b) w w'/\
   ∃I,((I=b/\(xs=[]->A=[]))\/(w.heap.size<=I/\I<w'.heap.size))/\zB8 w' F ⟨fun _=>I,fun _=>I⟩ (fun _=>True) u 0 f.size ((xs++A).map t.enc):=by
  intro a0 g old B L ap ay l;have b6:cells.length=A.length*f.size:=by simpa using G
  obtain⟨E,bn,r⟩:=run_append_grow (P:=P) (w:=w) (ts:=ts) (ty:=ty) (len:=xs.length) (cap:=g) (n:=A.length) (cap1:=C) (a0:=a0) (a1:=a1) (cells:=cells) (old:=old) h0 h1 ag al H hz
   (by have:=J w.drew rfl;grind) (by rw[<-B];exact L w.drew rfl) l a9 N
  rw[<-B,show(Value.slice a1 A.length C)=v1 by rw[an];simp]at r;generalize bo:(Obj.cells (old.toArray++(cells.toArray++Ad z.cells (E- (xs.length+A.length)))) el (0,0))=ob at r;have cl:(w.drew.alloc ob).heap=w.heap.push ob:=rfl;have hlt:∀c,c<w.heap.size->(w.drew.alloc ob).heap[c]?=w.heap[c]? :=fun c W=>by grind
  have cc:(w.drew.alloc ob).heap.size=w.heap.size+1:=by grind
  refine⟨_,_,r,⟨rfl,rfl,rfl,by omega,fun c W _=>hlt c W,cW _⟩,w.heap.size,.inr ⟨ai _,by omega⟩,.inr ⟨?_,trivial,E,by grind,?_⟩⟩
  .grind[List.length_map,List.length_append]
  .have a2:∀(v:Value) (d:V),Rd w F v d->Rd (w.drew.alloc ob) F v d:=fun v d h=>h.mono (fun _ Q=>Q) (fun c W=>hlt c (hF c W));rw[bw];refine zJF ax O (by simpa using ap) (by simpa using G) (fun i j q y hi hj=>?_) (fun i j q y hi hj=>?_) (by simpa using bn) (by simpa using ao _) (by show(w.drew.alloc ob).heap[w.heap.size]?=_;rw[<-bo];exact zBi (w:=w.drew));all_goals grind
 rcases S with⟨he,a,B⟩|⟨bs,_,g,B,c,et,g2,g3,g4,g5,g6⟩
 .have D:xs=[]:=by simpa using he
  by_cases a3:A=[]
  .subst D;subst a3
   have b0:(Ac ts ty #[M,v1]).run P w=.ok M w:=by
    have hr:=J w rfl;have hl:cells=[]:=by simpa using G
    subst hl;rw[an]at hr ⊢;rw[B];simp only[Ac];simp[h0,h1,zN ag,zN al,zK hs,Builtin.lenOf]at hr ⊢;cases a<;>simp_all[storeCells,Ab]
   exact⟨M,w,b0,xC.refl _ _,b,.inl ⟨rfl,fun _=>rfl⟩,.inl ⟨rfl,a,B⟩⟩
  .subst D;have cf:0<A.length:=de.2 a3;refine K a 0 [] B (fun w' _=>?_) (by simp) (fun i j e d h=>by simp at h) (by simp;omega);rw[B]
   cases a with
   |none=>simp[Ab]
   |some ad=>simp[Ab,loadCells,loadCellsFrom]
 .have D:xs≠[]:=by simpa using bs
  obtain⟨b1,b2⟩:=hb D;have a4:M=.slice (Sa ⟨b,0,Sc⟩) xs.length g:=by simpa using B
  by_cases l:xs.length+A.length<=g
  .have ch:xs.length*f.size+A.length*f.size<=c.size:=by rw[<-bF,g3];exact aq _ l
   have r:=run_append_room (P:=P) (w:=w) (ts:=ts) (ty:=ty) (b:=b) (off:=0) (len:=xs.length) (cap:=g) (n:=A.length) (cap1:=C) (a1:=a1) (cells:=cells) (c:=c) (et:=et) h0 h1 ag al hs
    (by grind) (by simpa using G) g2 (by omega) (zQJ G O bb bk) l
   rw[<-a4,show(Value.slice a1 A.length C)=v1 by rw[an];simp]at r;simp at r;have Y:∀Z:Nat,Z≠b->(setBlk w b (.cells (j5 c (xs.length*f.size) cells) et (0,0))).heap[Z]?=w.heap[Z]? :=fun Z W=>qU W;refine⟨_,_,r,⟨rfl,rfl,rfl,by rw[zCw];omega,fun Z _ hn=>Y Z (fun Q=>hn ⟨D,Q⟩),ai _⟩,b,.inl ⟨rfl,fun Q=>absurd Q D⟩,.inr ⟨by simp[D],trivial,g,by simp,?_⟩⟩;have a2:∀(v:Value) (d:V),Rd w F v d->Rd (setBlk w b (.cells (j5 c (xs.length*f.size) cells) et (0,0))) F v d:=fun v d h=>h.mono (fun _ Q=>Q) (fun Z W=>Y Z (fun Q=>b2 (Q▸W)));rw[bw];refine zRw g3 g5 (fun i j q y x hi hj hx=>a2 _ _ (g6 i j q y x hi hj hx)) O G (fun i j q y hi hj=>?_) (by simpa using l) (by simpa using zAS b1)
   grind
  .have b3:zY w F β (fun _=>True) M (.ow 0 f.size (xs.map t.enc)):=⟨trivial,g,B,c,et,g2,g3,g4,g5,g6⟩
   obtain⟨a0,ab,old,a5,b4,ap,L,ay⟩:=zIj (P:=P) (k:=f.size) b3 rfl ax;have b5:ab=g:=by grind
   subst b5;exact K a0 ab old (by simpa using a5) (fun w' hw=>by grind) (by simpa using ap) ay l
end Go.Ve

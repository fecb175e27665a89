/- law16 -/
import Derived.Test.YtgiopebfjmfmhaaGreatProg
import Derived.Test.YtgiopebfjmfmhaaGreatLt4
import Derived.Test.YtgiopebfjmfmhaaGreatLt8
import Derived.Test.YtgiopebfjmfmhaaGreatLt11
import Derived.Test.YtgiopebfjmfmhaaGreatLt12
set_option linter.unusedVariables false
open Option renaming some->Sa,none->Sc
open Bool renaming true->Sb
open Go.Proofs.Tryz renaming prog->Aa,f113->Ae,f89->Af
open Go.Builtin renaming firstCells->Ab,append_->Ac,zeroCells->Ad
set_option maxRecDepth 1000000
set_option maxHeartbeats 0
namespace Go.Ve
open Go Go.Proofs
noncomputable abbrev LF:j9:=j9.fast Aa 388 349
def G0:Nat->Option (List V):=fun _=>Sc
abbrev U:=jV
abbrev kX(f:Func):Code:=match f.body with|some c=>c|none=>.skip
theorem mixed:Tryz.prog.follows .mixedOrders=true:=by kernel_rfl
instance:Subsingleton U.St:=inferInstanceAs (Subsingleton Unit)
variable {g:FuncId}{l:Nat->Option JA}{i:RTy}
theorem qCA{S:zU U}(d:qK U Aa G0 S.toS){fn:Func}{c:Code}(a:LF.fn g=Sa fn)(e:fn.body=Sa c){ts:List Ty}{A:ElS ts->Option i.El}(h:∀s x,exF (Γ:=U) LF G0 S l fn c i s (yI ts x)=A x):jK U Aa G0 g (z6 (qQ ts i A)):=by
 have f:LF=j9.of Aa:=j9.fast_eq Aa 388 349;rw[f]at a h;exact zX8 mixed d a e h
variable {j:List ATy}
theorem zZ4{S:zU U}(d:qK U Aa G0 S.toS){fn:Func}{c:Code}(a:LF.fn g=Sa fn)(e:fn.body=Sa c){A:ElA j->Option i.El}(h:∀s x,exF (Γ:=U) LF G0 S l fn c i s (zMT j x)=A x):jK U Aa G0 g (z6 (zXg j i A)):=by
 have f:LF=j9.of Aa:=j9.fast_eq Aa 388 349;rw[f]at a h;exact qEG mixed d a e h
theorem zAQ{S:zU U}{A:Nat->Option JA}(e:qK U Aa G0 S.toS){fn:Func}{c:Code}(d:LF.fn g=Sa fn)(R:fn.body=Sa c){X:Type}{dec:List V->Option X}{enc:X->List V}(a:∀ds x,dec ds=Sa x->kY ds (enc x)){f:X->Option i.El}(h:∀s x,exF (Γ:=U) LF G0 S A fn c i s (enc x)=f x):jK U Aa G0 g (z6 (vT dec i f)):=by
 have j:LF=j9.of Aa:=j9.fast_eq Aa 388 349;rw[j]at d h;exact zSH mixed e d R a h
theorem zBv{S:zU U}{A:Nat->Option JA}(R:qK U Aa G0 S.toS){fn:Func}{c:Code}(e:LF.fn g=Sa fn)(ts:fn.body=Sa c){t:Ty}(a:i.pl=Sb)(d:∀ty,i≠ .o ty){f:List t.El->ElA j->Option (List t.El×i.El)}(h:∀s xs x,qHu (Γ:=U) LF G0 S A fn c t i s xs (zMT j x)=f xs x):zCU U Aa G0 g t (uM j) i f:=by
 have k:LF=j9.of Aa:=j9.fast_eq Aa 388 349;rw[k]at e h;exact qEF mixed R e ts (zAU j) (zKF j) a d h
theorem zZ1{S:zU U}{A:Nat->Option JA}(R:qK U Aa G0 S.toS){fn:Func}{c:Code}(e:LF.fn g=Sa fn)(ts:fn.body=Sa c){t:Ty}{p:Nat}(a:i.pl=Sb)(d:∀ty,i≠ .o ty){f:t.El->ElA j->Option (t.El×i.El)}(h:∀s y x,qGs (Γ:=U) LF G0 S A fn c t i p s y (zMT j x)=f y x):zKQ U Aa G0 g t p (uM j) i f:=by
 have k:LF=j9.of Aa:=j9.fast_eq Aa 388 349;rw[k]at e h;exact zX7 mixed R e ts (zAU j) a d h
theorem zZ3{tE:Ty}{S:zU (kB tE)}{A:Nat->Option JA}(a:∀k j,A k=Sa j->zD2 j.sl=Sb)(e:qK (kB tE) Aa G0 S.toS){fn:Func}{c:Code}(d:LF.fn g=Sa fn)(R:fn.body=Sa c){ts:List Ty}{f:HSt tE->ElS ts->Option (HSt tE×i.El)}(h:∀s x,qEM (Γ:=kB tE) LF G0 S A fn c i s (yI ts x)=f s x):jK (kB tE) Aa G0 g (z6 (zBX (zBB ts) i f)):=by
 have l:LF=j9.of Aa:=j9.fast_eq Aa 388 349;rw[l]at d h;exact qED a mixed e d R (kK ts) h
structure Ent where
 ad:zU U->zU U
 ok:∀S:zU U,qK U Aa G0 S.toS->qK U Aa G0 (ad S).toS
def jJ{f:FuncId}{sp:U.St->List V->Option (zE3 U.St)}(h:jK U Aa G0 f (z6 sp))(hi:zGr Aa f=true:=by kernel_rfl):Ent:=⟨fun S=>S.add f sp,fun _ a=>vR a hi h⟩
def qEY{f:FuncId}{t:Ty}{X:Type}{dec:List V->Option X}{R:RTy}{g:List t.El->X->Option (List t.El×R.El)}(h:zCU U Aa G0 f t dec R g)(hi:zGr Aa f=true:=by kernel_rfl):Ent:=⟨fun S=>S.addB f (zAM t dec R g),fun _ a=>zAH a hi h⟩
def qH0{f:FuncId}{t:Ty}{X:Type}{dec:List V->Option X}{g:List t.El->X->Option (List t.El)}(h:zGI U Aa G0 f t dec g)(hi:zGr Aa f=true:=by kernel_rfl):Ent:=⟨fun S=>S.addB f (zFD t dec g),fun _ a=>zP8 a hi h⟩
def qCP:List Ent->zU U
 |[]=>zU.none U
 |e::r=>e.ad (qCP r)
theorem zOp:∀l,qK U Aa G0 (qCP l).toS
 |[]=>jE
 |e::r=>e.ok _ (zOp r)
abbrev OkX(f:FuncId)(ts:List Ty)(R:RTy)(g:ElS ts->Option R.El):Prop:=jK U Aa G0 f (z6 (qQ ts R g))
abbrev OkA(f:FuncId)(ts:List ATy)(R:RTy)(g:ElA ts->Option R.El):Prop:=jK U Aa G0 f (z6 (zXg ts R g))
theorem fA(l:List Ent){A:Nat->Option JA}{fn:Func}(a:LF.fn g=Sa fn)(c:fn.body=Sa (kX fn)){ts:List ATy}{f:ElA ts->Option i.El}(h:∀s x,exF (Γ:=U) LF G0 (qCP l) A fn (kX fn) i s (zMT ts x)=f x):OkA g ts i f:=zZ4 (zOp l) a c h
def jj(k b:Nat)(l:List (Nat×Nat×Nat))(s:List zC0):Nat×JA:=(k,⟨b,l,s⟩)
def jl:List (Nat×JA)->Nat->Option JA
 |[],_=>Sc
 |(a,j)::r,k=>match Nat.beq a k with
  |true=>Sa j
  |false=>jl r k
noncomputable def zT0(f:FuncId):Func:=match LF.fn f with
 |some a=>a
 |none=>Tryz.f0
theorem fX(l:List Ent)(a:List (Nat×JA):=[]){ts:List Ty}{f:ElS ts->Option i.El}(h:∀s x,exF (Γ:=U) LF G0 (qCP l) (jl a) (zT0 g) (kX (zT0 g)) i s (yI ts x)=f x:=by intros;kernel_rfl)(c:LF.fn g=Sa (zT0 g):=by kernel_rfl)(d:(zT0 g).body=Sa (kX (zT0 g)):=by kernel_rfl):OkX g ts i f:=qCA (zOp l) c d h
end Go.Ve
namespace Go.Ve
open Go Go.Proofs
set_option maxRecDepth 1000000
theorem zVb(t:Ty)(x:t.El):zVc t (.pp (t.cells x))=Sa x:=by
 have h:=zEu t x []
 grind[zVc]
theorem zM2:∀(l:List (Bool×Ty)) (x:qAW l),zHH l (zHA l x)=Sa x
 |[],_=>rfl
 |(Sb,t)::r,x=>by simp[zHA,zHH,zVb,zM2 r]
 |(false,t)::r,x=>by simp[zHA,zHH,zWq,zM2 r]
theorem zYu:∀(ts:List ATy) (x:ElA ts),uM ts (zMT ts x)=Sa x
 |[],_=>rfl
 |t::ts,x=>by
  have h:t.dec (t.enc x.1)=Sa x.1:=by
   cases t with
   |d a=>exact zWq a x.1
   |pp a=>exact zVb a x.1
   |clo f c=>simp[ATy.dec,ATy.enc,zM2]
  simp[zMT,uM,h,zYu ts]
section
variable {Γ:Sig}{P:Program}{G:Nat->Option (List V)}{f:FuncId}
theorem zPe{w:World}{F F':Blk->Prop}(c:∀b:Nat,F b->F' b){t:Ty}(d:t.norf=Sb){β:Lay}{al:v8->Prop}{v:Value}{id k:Nat}{xs:List t.El}(h:zCg w F β al v id k (xs.map t.enc)):zCg w F' β al v id k (xs.map t.enc):=by
 rcases h with h|⟨e,g,a,i,j⟩
 .exact .inl h
 .exact .inr ⟨e,g,a,i,zNH c d j⟩
theorem qFP{w:World}{F F':Blk->Prop}(c:∀b:Nat,F b->F' b){R:RTy}(e:R.norf=Sb){y:R.El}{v:Value}(h:Rd w F v (R.val y)):Rd w F' v (R.val y):=by
 cases R with
 |p g=>exact zBf (t:=g) c e h
 |o g=>exact zBf (t:=.sl g) c e h
 |tu a=>
  have h:Rd w F v (.tup (yI a y)):=h
  cases h with
  |tup k _ l m=>exact .tup k _ l (fun i u d n j=>zIh c a y e i u d j (m i u d n j))
variable {i:Type}{g:List V->Option i}
theorem zZw(ab:∀dec,G dec=Sc)(hd:qAT g){t:Ty}(B:t.norf=Sb){xs Q:List t.El}{x:i}{d:V}(C:∀(w:World) (F F':Blk->Prop),(∀b:Nat,F b->F' b)->∀v,d≠ .bot->Rd w F v d->Rd w F' v d){r:List V}(hx:g r=Sa x)(h:∀r',g r'=Sa x->zVn jV P G f () t xs r' () Q d)(s:Γ.St):zVn Γ P G f s t xs r s Q d:=by
 intro w F O b v0 q k hG D u a y h0 ad;obtain⟨r',E,H,S⟩:=hd r x hx
 have m:=h r' E w (zJi F) (fun _=>False) b v0 q ⟨fun _ h=>h,zH0 F⟩ (fun dec cs hg=>by grind) (fun c p=>⟨(D c p).1,fun h=>h⟩)
  (zPe (F:=F) (F':=zJi F) (fun _ a=>a) B u) (fun z=>⟨(a z).1,(a z).2.1,fun h=>h⟩) (by rw[y,H]) h0
  (fun X v d' hi ag=>by
   grind[List.getElem?_eq_some_iff,zJi])
 refine m.mono ?_;rintro e I ⟨v,F',O',rfl,g1,l,g3,W,g5,Y⟩
 have J:∀c,O c->I.heap[c]?=w.heap[c]? :=fun c p=>l.block c (Γ.inb k c p) (fun h=>by
  grind)
 have K:∀n:Nat,F (.s n)->F n->I.heap[n]?=w.heap[n]? :=fun n _ A=>l.block n (D n A).1 (fun h=>by
  grind)
 refine⟨v,zQ1 F F',O,rfl,Γ.mono k (zCa F F') J (fun n hs A=>⟨W.1 (.b n) A,K n hs A⟩),⟨l.os,l.tape,l.output,l.size,fun c p L=>l.block c p (fun h=>L (h.elim (fun h=>h.elim) .inr)),l.drawn⟩,fun b a=>.inl a,
  .of_reg (fun b a=>?_) (zCa F F'),?_,?_⟩
 .cases b with
  |b n=>exact W.1 (.b n) a
  |_=>exact a
 .intro c p;obtain⟨j,M,_⟩:=g5 c p;refine⟨j,M,fun Z=>?_⟩;rcases j with j|j
  .exact(D c j).2 Z
  grind
 .cases d with
  |bot=>
   obtain⟨b',j,M⟩:=Y;refine⟨b',?_,zPe (F:=F') (F':=zQ1 F F') (fun _ a=>a) B M⟩;rcases j with j|⟨j,h3,h4,h5⟩
   .exact .inl j
   .exact .inr ⟨j,h3,h4,fun Z=>by grind⟩
  |_=>obtain⟨k1,k2⟩:=zCD.out (by intro N;cases N) Y;exact .of (zPe (F:=F') (F':=zQ1 F F') (fun _ a=>a) B k1) (C I F' (zQ1 F F') (fun _ a=>a) v (by intro N;cases N) k2)
theorem zZ6(d:∀dec,G dec=Sc){t:Ty}(j:t.norf=Sb)(k:qAT g)(a:∀ds x,g ds=Sa x->zCt ds=Sc){dec:List t.El->i->Option (List t.El)}(h:zGI jV P G f t g dec):zGI Γ P G f t g dec:=by intro s l r x m e n;exact .of (a r x e) (zZw d k j (fun _ _ _ _ _ p=>absurd rfl p) e (fun X c=>zAJ.row (a X x c) (h () l X x m c n)) s)
theorem zZ5(Z:∀dec,G dec=Sc){t:Ty}(N:t.norf=Sb){p:Nat}(hd:qAT g){R:RTy}(hR:R.norf=Sb){dec:t.El->i->Option (t.El×R.El)}(h:zKQ jV P G f t p g R dec):zKQ Γ P G f t p g R dec:=by
 intro s y r x z u hx Q;intro w F O b E A j hG H B l a C hk h0 ab;obtain⟨r',I,J,S⟩:=hd r x hx
 have m:=h () y r' x z u I Q w (zJi F) (fun _=>False) b E A ⟨fun _ h=>h,zH0 F⟩ (fun dec cs Q=>by grind) (fun c q=>⟨(H c q).1,fun h=>h⟩)
  (zNH (F:=F) (F':=zJi F) (t:=t) (fun _ a=>a) N B) l ⟨a.1,a.2.1,fun h=>h⟩ (by rw[C,J]) (by omega) h0
  (fun X v d' hi ad=>by
   grind[List.getElem?_eq_some_iff,zJi])
 refine m.mono ?_;rintro e W ⟨v,d,O',rfl,g1,k,g3,Y,g5,g6,g7,g8⟩
 have K:∀c,O c->W.heap[c]?=w.heap[c]? :=fun c q=>k.block c (Γ.inb j c q) (fun h=>by
  grind)
 have L:∀n:Nat,F (.s n)->F n->W.heap[n]?=w.heap[n]? :=fun n _ D=>k.block n (H n D).1 (fun h=>by
  grind)
 refine⟨v,zQ1 F d,O,rfl,Γ.mono j (zCa F d) K (fun n hs D=>⟨Y.1 (.b n) D,L n hs D⟩),⟨k.os,k.tape,k.output,k.size,fun c q M=>k.block c q (fun h=>M (h.elim (fun h=>h.elim) .inr)),k.drawn⟩,fun b a=>.inl a,
  .of_reg (fun b a=>?_) (zCa F d),?_,zNH (F:=d) (F':=zQ1 F d) (t:=t) (fun _ a=>a) N g6,g7,qFP (F:=d) (F':=zQ1 F d) (fun _ a=>a) hR g8⟩
 .cases b with
  |b n=>exact Y.1 (.b n) a
  |_=>exact a
 .intro c q;obtain⟨l,h2,_⟩:=g5 c q;refine⟨l,h2,fun ho=>?_⟩;rcases l with l|l
  .exact(H c l).2 ho
  grind
theorem qAs{ts:List ATy}(g:ts.all ATy.norf=Sb):qAT (uM ts):=by intro h x j;have a:=zAU ts h x j;refine⟨zMT ts x,zYu ts x,a.len.symm,fun w F n k i v d e l c m=>?_⟩;exact zU6 k ts x g i v e c (a.get i d e l c w F v m)
end
structure xY(Γ:Sig) where
 ad:zU Γ->zU Γ
 ok:∀S:zU Γ,qK Γ Aa G0 S.toS->qK Γ Aa G0 (ad S).toS
variable {Γ:Sig}
def zYn:List (xY Γ)->zU Γ
 |[]=>zU.none Γ
 |e::r=>e.ad (zYn r)
theorem zOq:∀l:List (xY Γ),qK Γ Aa G0 (zYn l).toS
 |[]=>jE
 |e::r=>e.ok _ (zOq r)
def enG{f:FuncId}{sp:Γ.St->List V->Option (zE3 Γ.St)}(hi:zGr Aa f=Sb)(h:jK Γ Aa G0 f (z6 sp)):xY Γ:=⟨fun S=>S.add f sp,fun _ a=>vR a hi h⟩
def liS{f:FuncId}{ts:List Ty}{R:RTy}{g:ElS ts->Option R.El}(hi:zGr Aa f=Sb)(a:ts.all Ty.norf=Sb)(c:R.norf=Sb)(h:jK U Aa G0 f (z6 (qQ ts R g))):xY Γ:=
 enG (sp:=qQ ts R g) hi (zIb (fun _=>rfl) (zM3 a) c h)
def liM{f:FuncId}{t:Ty}{ts:List ATy}{g:List t.El->ElA ts->Option (List t.El)}(hi:zGr Aa f=Sb)(a:t.norf=Sb)(c:ts.all ATy.norf=Sb)(h:zGI U Aa G0 f t (uM ts) g):xY Γ:=
 ⟨fun S=>S.addB f (zFD t (uM ts) g),fun _ d=>zP8 d hi (zZ6 (fun _=>rfl) a (qAs c) (zKF ts) h)⟩
def liP{f:FuncId}{t:Ty}{p:Nat}{ts:List ATy}{R:RTy}{g:t.El->ElA ts->Option (t.El×R.El)}(hi:zGr Aa f=Sb)(a:t.norf=Sb)(c:ts.all ATy.norf=Sb)(d:R.norf=Sb)(h:zKQ U Aa G0 f t p (uM ts) R g):xY Γ:=
 ⟨fun S=>S.addB f (zRj t p (uM ts) R g),fun _ e=>zP7 e hi (zZ5 (fun _=>rfl) a (qAs c) d h)⟩
def liA{f:FuncId}{ts:List ATy}{R:RTy}{g:ElA ts->Option R.El}(hi:zGr Aa f=Sb)(a:ts.all ATy.norf=Sb)(c:R.norf=Sb)(h:jK U Aa G0 f (z6 (zXg ts R g))):xY Γ:=
 enG (sp:=zXg ts R g) hi (zIb (fun _=>rfl) (qAs a) c h)
variable {g:FuncId}{i:RTy}
theorem fG[Calm Γ][Subsingleton Γ.St](l:List (xY Γ))(a:List (Nat×JA):=[]){ts:List Ty}{f:ElS ts->Option i.El}(h:∀s x,exF (Γ:=Γ) LF G0 (zYn l) (jl a) (zT0 g) (kX (zT0 g)) i s (yI ts x)=f x:=by intros;kernel_rfl)(c:LF.fn g=Sa (zT0 g):=by kernel_rfl)(d:(zT0 g).body=Sa (kX (zT0 g)):=by kernel_rfl):jK Γ Aa G0 g (z6 (qQ ts i f)):=by have e:LF=j9.of Aa:=j9.fast_eq Aa 388 349;rw[e]at c h;exact zX8 mixed (zOq l) c d h
theorem fGP[Calm Γ][Subsingleton Γ.St](l:List (xY Γ)){A:Nat->Option JA}{fn:Func}(d:LF.fn g=Sa fn)(e:fn.body=Sa (kX fn)){t:Ty}{p:Nat}{ts:List ATy}(a:i.pl=Sb)(c:∀ty,i≠ .o ty){f:t.El->ElA ts->Option (t.El×i.El)}(h:∀s y x,qGs (Γ:=Γ) LF G0 (zYn l) A fn (kX fn) t i p s y (zMT ts x)=f y x):zKQ Γ Aa G0 g t p (uM ts) i f:=by
 have R:LF=j9.of Aa:=j9.fast_eq Aa 388 349;rw[R]at d h;exact zX7 mixed (zOq l) d e (zAU ts) a c h
theorem fHb{H:zTr}(l:List (xY (ptB H))){A:Nat->Option JA}(a:∀k j,A k=Sa j->zD2 j.sl=Sb){fn:Func}(c:LF.fn g=Sa fn)(d:fn.body=Sa (kX fn)){ts:List Ty}{f:Bool->ElS ts->Option (Bool×i.El)}(h:∀s x,qEM (Γ:=ptB H) LF G0 (zYn l) A fn (kX fn) i s (yI ts x)=f s x):zL5 (ptB H) Aa G0 g (z6 (zBX (zBB ts) i f)):=by
 have e:LF=j9.of Aa:=j9.fast_eq Aa 388 349;rw[e]at c h;exact zUU a mixed (zOq l) c d (kK ts) h
theorem zV4:∀l:List (Nat×JA),(l.all fun a=>zD2 a.2.sl)=Sb->∀k j,jl l k=Sa j->zD2 j.sl=Sb
 |[],_,_,_,h=>by cases h
 |(a,i)::r,c,k,j,h=>by
  simp only[cQ,am]at c;simp only[jl]at h;split at h
  .grind
  .exact zV4 r c.2 k j h
def onX{X ρ:Type}(g:X->Option ρ):Bool->X->Option (Bool×ρ):=fun s x=>match s with
 |true=>(g x).map (fun y=>(Sb,y))
 |false=>Sc
theorem qEB{H:zTr}{X:Type}{dec:List V->Option X}{f:X->Option i.El}(h:jK (zR8 H) Aa G0 g (z6 (vT dec i f))):
  jK (ptB H) Aa G0 g (z6 (zBX dec i (onX f))):=by
 intro w F O s d n l r R t u j m a;simp[z6,zBX]at a
 cases p:dec n with
 |none=>grind
 |some x=>
  rw[p]at a
  cases s with
  |false=>
   have k:(Sc:Option ((ptB H).St×RV))=Sa (l,r):=a;simp at k
  |true=>
   have k:((f x).map (fun y=>(Sb,y))).map (fun y=>(y.1,i.res y.2))=Sa (l,r):=a
   cases q:f x with
   |none=>grind
   |some y=>
   rw[q]at k;have z:((Sb,i.res y):Bool×RV)=(l,r):=aW k;obtain⟨rfl,rfl⟩:=Prod.mk.inj z;have c:=h w F O () d n () (i.res y) R t u j m (by simp[z6,vT,p,q]);refine c.mono ?_;rintro e L ⟨v,A,B,rfl,C,D,E,I,J,K⟩;exact⟨v,A,B,rfl,C,D,E,I.to (fun h=>h.1),J,K⟩
def onG{H:zTr}{f:FuncId}{ts:List Ty}{R:RTy}{g:ElS ts->Option R.El}(hi:zGr Aa f=Sb)(h:jK (zR8 H) Aa G0 f (z6 (qQ ts R g))):xY (ptB H):=
 enG (sp:=zBX (zBB ts) R (onX g)) hi (qEB h)
def qIh{f:FuncId}{t:Ty}{p:Nat}{X:Type}{dec:List V->Option X}{R:RTy}{g:t.El->X->Option (t.El×R.El)}(hi:zGr Aa f=Sb)(h:zKQ Γ Aa G0 f t p dec R g):xY Γ:=⟨fun S=>S.addB f (zRj t p dec R g),fun _ a=>zP7 a hi h⟩
end Go.Ve
namespace Go.Ve
noncomputable section
open Go Go.Proofs
theorem zSi:OkX 281 [(.int .u8)] (.p .bool) zEB:=fX [] [jj 6 5726623056 [] [.t 2 .bool]]
def zT2:Ent:=jJ zSi
theorem zVQ:OkX 231 [.str] (.p .bool) zCI:=fX [zT2] [jj 6 91625968640 [] [.t 18 .bool],jj 30 0x5555555555555500000000000000 [] [.t 55 .bool],jj 17 0x5555555555555555554000000150 [] [.t 3 tI],jj 36 0x5555555555555555554000000150 [] []]
def zEW:Ent:=jJ zVQ
theorem zSh:OkX 232 [tI,tI,tI] (.p .bool) qB:=fX [] [jj 6 357912576 [] [.t 6 .bool]]
def kE:Ent:=jJ zSh
theorem zVR:OkX 74 [tI] (.p tU) zCJ:=fX [] [jj 16 22906404928 [] [.t 3 tU],jj 13 22906492224 [] [.t 4 tI,.t 3 tU],jj 28 22906492224 [] [.t 3 tU]]
def zKD:Ent:=jJ zVR
theorem zJj:OkX 36 [tU,tI] (.p zD) uF:=fX [zKD]
def zKC:Ent:=jJ zJj
theorem zPj:OkX 223 [zD,tU] (.p .bool) zA4:=fX [zKD]
def zRb:Ent:=jJ zPj
theorem zSj:OkX 165 [zD,zD] (.p .bool) zBo:=fX [zRb] [jj 6 1431655680 [] [.t 4 .bool]]
def zT3:Ent:=jJ zSj
theorem zPi:OkX 282 [zD,zD] (.p .bool) x9:=fX [zT3] [jj 6 22369536 [] [.t 4 .bool]]
def zJp:Ent:=jJ zPi
theorem zMB:OkX 233 [(.sl zZ)] (.p tI) xJ:=fX [zJp,zKC,kE,zEW] [jj 41 0x1555555000000000410 [] [.t 5 tI],jj 56 0x1555555000000000410 [] [],jj 58 0x155555554000000000000000000 [] [.t 52 .bool],jj 66 0x15555555555555555555555400000000000000000000000000 [] [.t 98 .bool],jj 74 0x5555555555555540000000000000000000000000000000000000000000000000 [] [.t 127 .bool],jj 94 0x1555555555555554000000000000000000000000000000000000000000000000000000000000000000 [] [.t 162 .bool],jj 85 0x1555555555555555550000000000000000000000000000000000000000000000000000000000001010 [] [.t 6 tI],jj 20 0x1555555555555555555555555555555555555555555555555555555555555555555555555500001710 [] [],jj 17 0x1555555555555555555555555555555555555555555555555555555555555555555555555555501750 [] [.t 3 tI],jj 100 0x1555555555555555555555555555555555555555555555555555555555555555555555555555501750 [] []]
def zOt:Ent:=jJ zMB
theorem zTP:OkX 64 [zD] (.p .bool) uE:=fX [zKD] [jj 6 366503875920 [] [.t 2 .bool]]
def zBP:Ent:=jJ zTP
theorem zH4:OkX 283 [zRL] (.p .bool) xQ:=fX [zBP] [jj 6 0x5555555555550 [] [.t 2 .bool]]
def zIZ:Ent:=jJ zH4
theorem zLp:OkX 234 [(.sl zEb)] (.p tI) zAr:=fX [zIZ,zEW] [jj 37 0x5555555500000000110 [] [.t 4 tI],jj 52 0x5555555500000000110 [] [],jj 73 0x555555555500000000000000000000000410 [] [.t 5 tI],jj 20 0x555555555555555555555555555540000510 [] [],jj 17 0x555555555555555555555555555555540550 [] [.t 3 tI],jj 88 0x555555555555555555555555555555540550 [] []]
def zMX:Ent:=jJ zLp
theorem zMC:OkX 284 [zG,.str] (.p tI) u9:=fX [] [jj 9 5864062014720 [] [.t 5 tI],jj 24 5864062014720 [] []]
def zHe:Ent:=jJ zMC
theorem zNY:OkX 235 [zG] (.p tI) zBn:=fX [kE,zHe,zEW] [jj 41 0x555555550000000000410 [] [.t 5 tI],jj 56 0x555555550000000000410 [] [],jj 90 0x555550000000000000000000000000000000000000 [] [.t 83 .bool],jj 98 0x55555555555555000000000000000000000000000000000000000000 [] [.t 111 .bool],jj 77 0x5555555555555555555555555555000000000000000000000000d010 [] [.t 6 tI],jj 24 0x5555555555555555555555555555555555555555555555400000d410 [] [],jj 21 0x5555555555555555555555555555555555555555555555555400d510 [] [.t 4 tI],jj 104 0x5555555555555555555555555555555555555555555555555400d510 [] []]
def zPJ:Ent:=jJ zNY
theorem zTN:OkX 318 [zR] (.p .bool) zGf:=fX [] [jj 6 22906492240 [] [.t 2 .bool]]
def zWk:Ent:=jJ zTN
theorem zXL:OkX 319 [zR] (.p .bool) zJ4:=fX []
def qAo:Ent:=jJ zXL
theorem zN1:OkX 285 [zW0] (.p .bool) zDg:=fX [qAo,zWk,kE] [jj 6 0x15555555555555555540 [] [.t 38 .bool],jj 14 0x15555555540000000000000000010 [] [.t 2 .bool]]
def zPM:Ent:=jJ zN1
theorem zLq:OkX 236 [(.sl zOZ)] (.p tI) zAs:=fX [zPM,zEW] [jj 37 0x5555555500000000110 [] [.t 4 tI],jj 52 0x5555555500000000110 [] [],jj 73 0x555555555500000000000000000000000410 [] [.t 5 tI],jj 20 0x555555555555555555555555555540000510 [] [],jj 17 0x555555555555555555555555555555540550 [] [.t 3 tI],jj 88 0x555555555555555555555555555555540550 [] []]
def zMY:Ent:=jJ zLq
theorem zXM:OkX 286 [zG,.str] (.p tI) zGg:=fX [] [jj 9 5864062014720 [] [.t 5 tI],jj 24 5864062014720 [] []]
def zS7:Ent:=jJ zXM
theorem zKe:OkX 237 [zG] (.p tI) xP:=fX [zS7,kE] [jj 42 0x15555555550000000000400 [] [.t 5 .bool],jj 50 0x555555555555555400000000000000000000400 [] [.t 5 .bool],jj 58 0x15555555555555555555550000000000000000000000000000000000000400 [] [.t 5 .bool],jj 60 0x15555555555555555555555555555555555555555555555555500000000400 [] [.t 5 .bool],jj 70 0x15555400000000000000000000000000000000000000000000000000000000000000 [] [.t 134 .bool],jj 17 0x15555555555555555555555555555555555555555555555555555555555555500750 [] [.t 3 tI],jj 76 0x15555555555555555555555555555555555555555555555555555555555555500750 [] []]
def zLC:Ent:=jJ zKe
theorem zQT:OkX 238 [zG] (.p tI) zDf:=fX [zS7] [jj 22 0x15555555555400000000 [] [.t 38 .bool],jj 9 0x15555555555555555750 [] [.t 3 tI],jj 28 0x15555555555555555750 [] []]
def zS6:Ent:=jJ zQT
theorem zQU:OkX 182 [zG,tU] (.p tI) zAP:=fX [] [jj 18 0x555555554000000 [] [.t 29 .bool],jj 9 0x1555555555555500 [] [.t 5 tI],jj 24 0x1555555555555500 [] []]
def zKB:Ent:=jJ zQU
theorem zN2:OkX 287 [zG,.str] (.p tI) zAt:=fX [] [jj 9 5864062014720 [] [.t 5 tI],jj 24 5864062014720 [] []]
def zPN:Ent:=jJ zN2
theorem zQS:OkX 239 [zG] (.p tI) zBJ:=fX [zPN,kE,zKB,zBP] [jj 40 95982967058334720 [] [.t 5 tI],jj 48 0x55400000000000400 [] [.t 5 tI],jj 56 0x5500000000000000400 [] [.t 5 tI],jj 58 0x55555555555555550000000000000000000 [] [.t 69 .bool],jj 88 0x5555555500000000000000000000000000000001000 [] [],jj 102 0x15555555554000000000000000000000000000000000000000000000 [] [.t 110 .bool],jj 93 0x15555555555550000000000000000000000000000000000000004010 [] [.t 7 tI],jj 20 0x15555555555555555555555555555555555555555555554000005710 [] [],jj 17 0x15555555555555555555555555555555555555555555555555005750 [] [.t 3 tI],jj 108 0x15555555555555555555555555555555555555555555555555005750 [] []]
def zS5:Ent:=jJ zQS
theorem zPh:OkX 320 [zG,.str] (.p tI) x7:=fX [] [jj 9 5864062014720 [] [.t 5 tI],jj 24 5864062014720 [] []]
def zJo:Ent:=jJ zPh
theorem zH3:OkX 288 [zG,(.sl zGV),tI,tI,tI] (.p tI) kN:=fX [zJo,kE] [jj 30 0x15555555555540000000000000 [] [.t 50 .bool],jj 38 0x555555555540000000000000000000000000 [] [.t 71 .bool],jj 46 0x55555000000000000000000000000000000000000 [] [.t 81 .bool],jj 57 0x155555500000000000000000000000000000000004100000 [] [.t 13 tI],jj 20 0x155555555555555555555555555555555555400007100000 [] [],jj 17 0x155555555555555555555555555555555555555407500000 [] [.t 11 tI],jj 72 0x155555555555555555555555555555555555555407500000 [] []]
def zAS:Ent:=jJ zH3
theorem zN0:OkX 240 [zG] (.p tI) yV:=fX [zAS,zJp,zBP,kE] [jj 14 0x5555555400000 [] [.t 25 .bool],jj 54 0x155555555400000000000000000000 [] [.t 58 .bool],jj 74 0x5555555555555500000000000000000000000000000000 [] [.t 91 .bool],jj 65 0x5555555555555555400000000000000000000000000410 [] [.t 5 tI],jj 48 0x5555555555555555555555555400000000000000000410 [] [],jj 45 0x5555555555555555555555555555500000000000000510 [] [.t 4 tI],jj 80 0x5555555555555555555555555555500000000000000510 [] []]
def zPL:Ent:=jJ zN0
theorem zPg:OkX 241 [zG] (.p tI) zB7:=fX [zAS,zHe,kE] [jj 14 0x55555555540000 [] [.t 27 .bool],jj 34 0x555555555550000000000000000 [] [.t 53 .bool]]
def zRa:Ent:=jJ zPg
theorem zNZ:OkX 289 [zG] (.p tI) zDe:=fX [zJo,kE] [jj 30 0x15555555000000000 [] [.t 32 .bool],jj 38 0x1555555555555555540000000000000000 [] [.t 66 .bool],jj 49 0x155555554000000000000000000000000000000410 [] [.t 5 tI],jj 24 0x155555555555555555555555555555555000000410 [] [],jj 21 0x155555555555555555555555555555555555000510 [] [.t 4 tI],jj 64 0x155555555555555555555555555555555555000510 [] []]
def zPK:Ent:=jJ zNZ
theorem zKf:OkX 290 [tPV] (.p tI) zBe:=fX [zBP] [jj 37 0x5555555500000000000110 [] [.t 4 tI],jj 20 0x5555555555540000000110 [] [],jj 17 0x5555555555555550000150 [] [.t 3 tI],jj 52 0x5555555555555550000150 [] [],jj 85 0x15555555540000000000000000000000000001010 [] [.t 6 tI],jj 68 0x15555555555554000000000000000000000001010 [] [],jj 65 0x15555555555555555000000000000000000001410 [] [.t 5 tI],jj 100 0x15555555555555555000000000000000000001410 [] [],jj 126 0x155554000000000000000000000000000000000000000000000000 [] [.t 106 .bool],jj 145 0x555555500000000000000000000000000000000000000000000000000040010 [] [.t 9 tI],jj 116 0x555555555555555550000000000000000000000000000000000000000070010 [] [],jj 113 0x555555555555555555554000000000000000000000000000000000000074010 [] [.t 7 tI],jj 160 0x555555555555555555554000000000000000000000000000000000000074010 [] []]
def zLD:Ent:=jJ zKf
theorem zMA:OkX 242 [zG] (.p tI) zAZ:=fX [zAS,zLD,zPK,kE] [jj 14 0x155555555555555400000 [] [.t 40 .bool],jj 26 0x5555555400000000000000000000 [] [.t 55 .bool]]
def zOs:Ent:=jJ zMA
theorem zLr:OkX 181 [zG] (.p tI) yN:=fX [zOs,zRa,zPL,zS5,zS6,zLC,zMY,zPJ,zMX,zOt,kE,zEW] [jj 29 0x55555554000000000000000110 [] [.t 4 tI],jj 44 0x55555554000000000000000110 [] []]
def zMZ:Ent:=jJ zLr
theorem zTO:OkX 128 [zJ] (.p tI) x8:=fX [zKB,zMZ] [jj 41 0x155555555400000000000410 [] [.t 5 tI],jj 56 0x155555555400000000000410 [] [],jj 86 0x5555555000000000000000000000000000000000000 [] [.t 85 .bool],jj 77 0x5555555554000000000000000000000000000010010 [] [.t 8 tI],jj 64 0x555555555555550000000000000000000000001c010 [] [],jj 61 0x555555555555555555540000000000000000001d010 [] [.t 6 tI],jj 20 0x555555555555555555555555555545555000001d510 [] [],jj 17 0x555555555555555555555555555555555555401d550 [] [.t 3 tI],jj 92 0x555555555555555555555555555555555555401d550 [] []]
theorem zTT:OkX 75 [zG] (.p .bool) zIN:=fX [] [jj 6 0x555555555555555555555555555555555555555555555000 [] [.t 95 .bool],jj 17 0x15555555000000000000000000000000000000000000000000000050 [] [.t 3 tI],jj 32 0x15555555000000000000000000000000000000000000000000000050 [] [],jj 37 0x555555540000000000000000000000000000000000000000000000000000110 [] [.t 4 tI],jj 52 0x555555540000000000000000000000000000000000000000000000000000110 [] [],jj 57 0x15555555000000000000000000000000000000000000000000000000000000000000410 [] [.t 5 tI],jj 72 0x15555555000000000000000000000000000000000000000000000000000000000000410 [] []]
def zWn:Ent:=jJ zTT
theorem zSp:OkX 38 [zJ] (.p .bool) zHa:=fX [zWn] [jj 17 5864061993040 [] [.t 3 tI],jj 32 5864061993040 [] []]
def zT8:Ent:=jJ zSp
theorem zJk:OkX 70 [zD,zD] (.p tI) xR:=fX [] [jj 6 93824992236544 [] [.t 23 .bool]]
def zS8:Ent:=jJ zJk
def zHL:Nat->Option JA:=fun k=>match k with|84=>Sa ⟨0x100000000000000000000000000000000000000000000000000000000000000000000000000000000000000000000000000000000000000000000000000000000000000000000000000000000000000000000000000000000000000000000000000000000000000000000000000000000000000000000000000000000000000000000000000000000000000000000000000000000000000000000000000000000000000000000000000000000000000000000000000000000000000000000000000000000000000000000000000000000000000000000000000000000000000000000000000000000000000155555555555555555555555555555555555555555555555555555555555555555555500005f5800,[],[.v 5 [.o 1100 zW,.o 1101 tI],.st]⟩|25=>Sa ⟨0x100000000000000000000000000000000000000000000000000000000000000000000000000000000000000000000000000000000000000000000000000000000000000000000000000000000000000000000000000000000000000000000000000000000000000000000000000000000000000000000000000000000000000000000000000000000000000000000000000000000000000000000000000000000000000000000000000000000000000000000000000000000000000000000000000000000000000000000000000000000000000000000000000000000000000000000000000000000000000155555555555555555555555555555555555555555555555555555555555555555555500005f5800,[],[.t 6 tI,.v 5 [.o 1100 zW,.o 1101 tI],.st]⟩|28=>Sa ⟨0x100000000000000000000000000000000000000000000000000000000000000000000000000000000000000000000000000000000000000000000000000000000000000000000000000000000000000000000000000000000000000000000000000000000000000000000000000000000000000000000000000000000000000000000000000000000000000000000000000000000000000000000000000000000000000000000000000000000000000000000000000000000000000000000000000000000000000000000000000000000000000000000000000000000000000000000000000000000000000155555555555555555555555555555555555555555555555555555555555555555400000005f4800,[],[.v 5 [.o 1100 zW,.o 1101 tI],.st]⟩|37=>Sa ⟨0x100000000000000000000000000000000000000000000000000000000000000000000000000000000000000000000000000000000000000000000000000000000000000000000000000000000000000000000000000000000000000000000000000000000000000000000000000000000000000000000000000000000000000000000000000000000000000000000000000000000000000000000000000000000000000000000000000000000000000000000000000000000000000000000000000000000000000000000000000000000000000000000000000000000000000000000000000000000000000155555555555555555555555555555555555555555555555555555555555555555400000005f4800,[],[.t 7 tI,.v 5 [.o 1100 zW,.o 1101 tI],.st]⟩|40=>Sa ⟨0x100000000000000000000000000000000000000000000000000000000000000000000000000000000000000000000000000000000000000000000000000000000000000000000000000000000000000000000000000000000000000000000000000000000000000000000000000000000000000000000000000000000000000000000000000000000000000000000000000000000000000000000000000000000000000000000000000000000000000000000000000000000000000000000000000000000000000000000000000000000000000000000000000000000000000000000000000000000000000155555555555555555555555555555555555555555555555555555555555500000000000005f0800,[],[.v 5 [.o 1100 zW,.o 1101 tI],.st]⟩|80=>Sa ⟨0x10000000000000000000000000000000000000000000000000000000000000000000000000000000000000000000000000000000000000000000000000000000000000000000000000000000000000000000000000000000000000000000000000000000000000000000000000000000000000000000000000000000000000000000000000000000000000000000000000000000000000000000000000000000000000000000000000000000000000000000000000000000000000000000000000000000000000000000000000000000000000000000000000000000000000000000000000000000000000000000000155555555555555555555550000000000000000000000000000000000000000000400800,[],[.v 5 [.o 1100 zW,.o 1101 tI],.st]⟩|70=>Sa ⟨0x55555555555550000000000000000000000000000000000000000000000000,[],[.t 123 .bool,.v 5 [.o 1100 zW,.o 1101 tI],.st]⟩|68=>Sa ⟨0x5555555555555555555400000000000000000000000100800,[],[.t 10 tI,.v 5 [.o 1100 zW,.o 1101 tI],.st]⟩|61=>Sa ⟨0x5555555555555555555400000000000000000000000100800,[],[.t 10 tI,.v 5 [.o 1100 zW,.o 1101 tI],.st]⟩|62=>Sa ⟨0x555555555555555555400000000000000000000000000000,[],[.t 95 .bool,.v 5 [.o 1100 zW,.o 1101 tI],.st]⟩|50=>Sa ⟨0x555400000000000000000000000,[],[.t 53 .bool,.v 5 [.o 1100 zW,.o 1101 tI],.st]⟩|92=>Sa ⟨0x40000000000000000000000000000000000000000000000000000000000000000000000000000000000000000000000000000000000000000000000000000000000000000000000000000000000000000000000000000000000000000000000000000000000000000000000000000000000000000000000000000000000000000000000000000000000000000000000000000000000000000000000000000000000000000000000000000000000000000000000000000000000000000000000000000000000000000000000000000000000000000000000000000000000000000000000000000555555500000000000000000000000000000000000000000000000000000000000000000000000000000000800,[],[.v 5 [.o 1100 zW,.o 1101 tI],.st]⟩|89=>Sa ⟨0x40000000000000000000000000000000000000000000000000000000000000000000000000000000000000000000000000000000000000000000000000000000000000000000000000000000000000000000000000000000000000000000000000000000000000000000000000000000000000000000000000000000000000000000000000000000000000000000000000000000000000000000000000000000000000000000000000000000000000000000000000000000000000000000000000000000000000000000000000000000000000000000000000000000000000000000000000000555555555540000000000000000000000000000000000000000000000000000000000000000000000001000800,[],[.t 12 tI,.v 5 [.o 1100 zW,.o 1101 tI],.st]⟩|104=>Sa ⟨0x40000000000000000000000000000000000000000000000000000000000000000000000000000000000000000000000000000000000000000000000000000000000000000000000000000000000000000000000000000000000000000000000000000000000000000000000000000000000000000000000000000000000000000000000000000000000000000000000000000000000000000000000000000000000000000000000000000000000000000000000000000000000000000000000000000000000000000000000000000000000000000000000000000000000000000000000000000555555555540000000000000000000000000000000000000000000000000000000000000000000000001000800,[],[.v 5 [.o 1100 zW,.o 1101 tI],.st]⟩|83=>Sa ⟨0,[(16,0,8)],[.st]⟩|79=>Sa ⟨0,[(14848,1024,0)],[.st]⟩|_=>Sc
theorem zQ3:∀k j,zHL k=Sa j->zD2 j.sl=true:=by
 intro k j h
 unfold zHL at h
 split at h<;>(cases h<;>rfl)
theorem zQZ:jK (kB zR) Aa G0 76 (z6 (zBX (zBB [zJ]) (.tu [zMi,tI]) zEx)):=zZ3 (fn:=Tryz.f76) (c:=kX Tryz.f76) (S:=(((((zU.none (kB zR)).add 128 (qQ [zJ] (.p tI) x8)).add 36 (qQ [tU,tI] (.p zD) uF)).add 70 (qQ [zD,zD] (.p tI) xR)).addH)) (A:=zHL) zQ3 (zP9 (vR (vR (vR jE (by kernel_rfl) (zIb (fun _=>rfl) (zM3 (by kernel_rfl)) (by kernel_rfl) zTO)) (by kernel_rfl) (zIb (fun _=>rfl) (zM3 (by kernel_rfl)) (by kernel_rfl) zJj)) (by kernel_rfl) (zIb (fun _=>rfl) (zM3 (by kernel_rfl)) (by kernel_rfl) zJk)) (by kernel_rfl) (by kernel_rfl)) (by kernel_rfl) (by kernel_rfl) (by rintro a ⟨e,⟨⟩⟩;kernel_rfl)
theorem zSo:jK U Aa G0 76 (z6 (qQ [zJ] (.tu [zLK,tI]) zG5)):=zQl (fun _=>rfl) (by kernel_rfl) zQZ
def zT7:Ent:=jJ zSo
theorem zMF:OkX 77 [(.sl tI),tI] (.p .bool) zCm:=fX [] [jj 26 0x5555555555555540000000 [] [.t 43 .bool],jj 17 0x5555555555555555540500 [] [.t 5 tI],jj 32 0x5555555555555555540500 [] []]
def zOw:Ent:=jJ zMF
theorem zTR:OkX 39 [zJ,(.sl tI)] (.tu [zH,tI]) zIE:=fX [zOw,zT7] [jj 27 0 [(240,3,0)] []]
def zWl:Ent:=jJ zTR
theorem zTV:OkX 11 [zJ,(.sl tI)] (.tu [zH,.bool]) zIO:=fX [zWl,zT8] [jj 6 1431633920 [] [.t 15 .bool]]
def zWo:Ent:=jJ zTV
theorem zTX:OkX 152 [tI] (.p tI) zGE:=fX []
def zOy:Ent:=jJ zTX
theorem zVS:OkX 151 [tI] (.p tU) zIo:=fX [zOy]
def zQu:Ent:=jJ zVS
theorem zJl:OkX 91 [tU,tI] (.p zD) zBT:=fX [zOy,zQu]
theorem zLn:OkX 183 [(.sl zR),zR] (.p tI) yM:=fX [] [jj 9 91625948416 [] [.t 8 tI],jj 28 91625968896 [] []]
def zMU:Ent:=jJ zLn
theorem zIJ:OkX 130 [(.sl zR),zR] (.p .bool) uK:=fX [zMU]
def zJK:Ent:=jJ zIJ
theorem zSe:OkX 79 [zH,tI,tI] (.p tI) zAG:=fX [zJK] [jj 13 0x555554000d1000 [] [.t 17 tI],jj 32 0x555555540d1000 [] []]
def zHD:Ent:=jJ zSe
theorem zLm:OkX 86 [(.sl tI),tI] (.p tI) uT:=fX [] [jj 9 91625948416 [] [.t 8 tI],jj 28 91625968896 [] []]
def zGx:Ent:=jJ zLm
theorem zVP:OkX 129 [zH,tI,tI] (.p tI) zFZ:=fX [zGx,zHD]
def zYo:Ent:=jJ zVP
theorem zII:OkX 49 [(.sl tI),tI] (.p .bool) v7:=fX [zGx]
def zD4:Ent:=jJ zII
theorem zSd:OkX 78 [zH,tI,tI] (.p .bool) zGU:=fX [zD4,zYo,zHD] [jj 18 0x5555400001000 [] [.t 6 .bool]]
def zU7:Ent:=jJ zSd
theorem zPm:OkX 154 [tI] (.p .bool) zA6:=fX []
def zJq:Ent:=jJ zPm
theorem zGq:OkX 94 [tI,tI] (.p tI) qH:=fX [zJq]
def xW:Ent:=jJ zGq
theorem zLv:OkX 228 [tU] (.p .bool) zBR:=fX []
def zM1:Ent:=jJ zLv
theorem zJF:OkX 174 [tU,tU] (.p tI) kM:=fX [zM1]
def uZ:Ent:=jJ zJF
theorem zPn:OkX 218 [zD,tU] (.p .bool) zCf:=fX [zQu]
def zRd:Ent:=jJ zPn
theorem zQY:OkX 117 [zD,zD] (.p tI) zFX:=fX [xW,uZ]
def zTb:Ent:=jJ zQY
theorem zPk:OkX 180 [zP,zP] (.p .bool) zEw:=fX [] [jj 6 93824992236800 [] [.t 4 .bool]]
def zRc:Ent:=jJ zPk
theorem zQW:OkX 72 [zH,tI,tI] (.p tI) zBK:=fX [] [jj 21 0x5555555555555400011000 [] [.t 8 tI],jj 12 0x5555555555555400011000 [] [],jj 9 0x5555555555555555555000 [] [.t 7 tI],jj 36 0x5555555555555555555000 [] []]
def zGy:Ent:=jJ zQW
theorem zTS:OkX 73 [zH,tI,tI] (.p tI) zIF:=fX [zGy] [jj 22 0x15555540000000000 [] [.t 32 .bool],jj 13 0x55555555554011000 [] [.t 8 tI],jj 28 0x55555555554011000 [] []]
def zWm:Ent:=jJ zTS
theorem zXN:OkX 35 [zH,tI,tI] (.p .bool) zJ5:=fX [zWm,zGy] [jj 21 0x5555555000011000 [] [.t 8 tI],jj 36 0x5555555000011000 [] []]
def zS9:Ent:=jJ zXN
theorem zQV:OkX 121 [tI,tI,tI] (.p .bool) wY:=fX [] [jj 6 357912576 [] [.t 6 .bool]]
def zBz:Ent:=jJ zQV
theorem zSk:OkX 122 [zC,.bool,.bool,.bool] (.p .bool) zAI:=fX [] [jj 6 0x555555555555555550000 [] [.t 8 .bool]]
def zCd:Ent:=jJ zSk
theorem zTQ:OkX 123 [(.sl zP),.bool] (.p .bool) yW:=fX [zRc] [jj 18 0x15555555555555555000000 [] [.t 44 .bool],jj 9 0x15555555555555555555500 [] [.t 5 tI],jj 24 0x15555555555555555555500 [] []]
def zDy:Ent:=jJ zTQ
theorem zKg:OkX 124 [zC] (.p .bool) zG3:=fX [zDy,zCd,zBz] [jj 6 5864062014784 [] [.t 21 .bool],jj 18 0x155550000000000010 [] [.t 2 .bool],jj 30 0x15555000000000000000000010 [] [.t 2 .bool]]
def zLE:Ent:=jJ zKg
theorem zH5:OkX 125 [zC] (.p .bool) xS:=fX [zDy,zCd,zBz] [jj 6 93824992236864 [] [.t 23 .bool],jj 14 0x5555555000000000000 [] [.t 37 .bool],jj 26 0x155555555500000000000000000010 [] [.t 2 .bool],jj 30 0x5555400000000000000000000000000010 [] [.t 2 .bool]]
def zI0:Ent:=jJ zH5
theorem zIK:OkX 126 [zC] (.p .bool) zFt:=fX [zDy,zCd,zBz] [jj 6 5864062014784 [] [.t 21 .bool],jj 22 0x15555555550000000000010 [] [.t 2 .bool],jj 38 0x5555400000000000000000000000010 [] [.t 2 .bool]]
def zJL:Ent:=jJ zIK
theorem zMD:OkX 127 [zC] (.p .bool) zJg:=fX [zDy,zCd,zBz] [jj 6 93824992236864 [] [.t 23 .bool],jj 24 94575592174780416 [] [.t 26 .bool],jj 26 0x55555555555400000000000010 [] [.t 2 .bool],jj 36 0x1500000000000000000000000000 [] [.t 52 .bool],jj 38 0x155555555555555555554000000000000000000000000010 [] [.t 2 .bool]]
def zOu:Ent:=jJ zMD
theorem zSl:OkX 69 [zC] (.p .bool) zEC:=fX [zOu,zJL,zI0,zLE,zDy,zCd,zBz,zBP] [jj 6 366503875840 [] [.t 19 .bool],jj 17 0x55555550000000050 [] [.t 3 tI],jj 32 0x55555550000000050 [] [],jj 42 0x55555555555555555550000000000000000010 [] [.t 2 .bool]]
def zT4:Ent:=jJ zSl
theorem zSm:OkX 32 [(.sl zC),tI] (.p .bool) zG4:=fX [zS8,zT4] [jj 18 0x5555555555555555555000000 [] [.t 49 .bool],jj 9 0x5555555555555555555555500 [] [.t 5 tI],jj 24 0x5555555555555555555555500 [] []]
def zT5:Ent:=jJ zSm
theorem zKi:OkX 159 [zD,zD] (.p .bool) zCS:=fX [zRd] [jj 6 1431655680 [] [.t 4 .bool]]
def zT9:Ent:=jJ zKi
def zNh:Nat->Option JA:=fun k=>match k with|12=>Sa ⟨336,[],[.t 0 (.sl zP)]⟩|_=>Sc
theorem zFv:jK U Aa G0 113 (z6 (qQ [(.sl zP)] (.p (.sl zP)) uU)):=zSI (t:=zP) (bytes:=16) (zAQ (fn:=Ae) (c:=kX Ae) (S:=zU.none U) (A:=fun _=>Sc) jE (by kernel_rfl) (by kernel_rfl) (enc:=fun q=>[.tl zP (q.1::q.2)]) (fun _ _ h=>zKE h) (by rintro⟨⟩ ⟨y,r⟩;kernel_rfl)) (fun c=>zAQ (fn:=Ae) (c:=kX Ae) (S:=zU.none U) (A:=fun _=>Sc) jE (by kernel_rfl) (by kernel_rfl) (enc:=fun _=>[.val (.slice Sc 0 c)]) (fun _ _ h=>zCP h) (by rintro⟨⟩ _;kernel_rfl)) (fun a c=>zAQ (fn:=Ae) (c:=kX Ae) (S:=zU.none U) (A:=zNh) jE (by kernel_rfl) (by kernel_rfl) (enc:=fun _=>[.val (.slice (Sa a) 0 c)]) (fun _ _ h=>zCP h) (by rintro⟨⟩ _;kernel_rfl))
def zMW:Ent:=jJ zFv
def zNg:Nat->Option JA:=fun k=>match k with|12=>Sa ⟨336,[],[.t 0 (.sl tI)]⟩|_=>Sc
theorem zLo:jK U Aa G0 89 (z6 (qQ [(.sl tI)] (.p (.sl tI)) zBG)):=zSI (t:=tI) (bytes:=8) (zAQ (fn:=Af) (c:=kX Af) (S:=zU.none U) (A:=fun _=>Sc) jE (by kernel_rfl) (by kernel_rfl) (enc:=fun q=>[.tl tI (q.1::q.2)]) (fun _ _ h=>zKE h) (by rintro⟨⟩ ⟨y,r⟩;kernel_rfl)) (fun c=>zAQ (fn:=Af) (c:=kX Af) (S:=zU.none U) (A:=fun _=>Sc) jE (by kernel_rfl) (by kernel_rfl) (enc:=fun _=>[.val (.slice Sc 0 c)]) (fun _ _ h=>zCP h) (by rintro⟨⟩ _;kernel_rfl)) (fun a c=>zAQ (fn:=Af) (c:=kX Af) (S:=zU.none U) (A:=zNg) jE (by kernel_rfl) (by kernel_rfl) (enc:=fun _=>[.val (.slice (Sa a) 0 c)]) (fun _ _ h=>zCP h) (by rintro⟨⟩ _;kernel_rfl))
def zMV:Ent:=jJ zLo
theorem zNV:OkX 41 [zH,tI,tI] (.p (.sl zR)) zAo:=fX [zHD,zU7] [jj 30 0x55555000000000000000 [] [.t 39 .bool,.o 7 7 zR],jj 36 0x55555555000000000c4000 [] [.o 7 7 zR],jj 21 0x155555555500000000c4000 [] [.t 26 tI,.o 7 7 zR],jj 40 0x155555555555555400c4000 [] [.o 7 7 zR]]
def zPH:Ent:=jJ zNV
theorem zME:OkX 71 [zH,tI,tI] (.p (.sl zR)) zCl:=fX [zGy,zS9] [jj 28 0x15555554000000000004000 [] [.o 7 7 zR],jj 25 0x15555555554000000044000 [] [.t 9 tI,.o 7 7 zR],jj 40 0x15555555554000000044000 [] [.o 7 7 zR]]
def zOv:Ent:=jJ zME
theorem zXO:OkX 34 [zH,zR] (.p zZ) zGh:=fX []
def zTa:Ent:=jJ zXO
theorem zSn:OkX 33 [zH,tI,tI,tU] (.tu [zR,.bool]) zED:=fX [zTa,zOv] [jj 13 0x155555555500460000 [] [.t 11 tI,.v 8 [.p zR]],jj 28 0x155555555500460000 [] [.v 8 [.p zR]]]
def zT6:Ent:=jJ zSn
end
end Go.Ve
namespace Go.Ve
open Go Go.Proofs
section
variable {Γ:Sig}{P:Program}{G:Nat->Option (List V)}
def qEk{St:Type}(e:Env St)(fn:Func)(t:Ty):Option (List t.El):=match fn.results.toList with
 |[.tmp q]=>match e.get q with
  |.ot _ a c=>zD6 a t c
  |_=>Sc
 |_=>Sc
noncomputable def qHt(L:j9)(G:Nat->Option (List V))(S:zU Γ)(A:Nat->Option JA)(fn:Func)(c:Code)(t:Ty)(s:Γ.St)(xs:List t.El)(ds:List V):Option (List t.El):=
 zEP (zC5 fn.ntmps s t xs ds) (fun e=>exC L G S A c (List t.El) (fun k a _=>match k with
  |.exit _=>Sc
  |_=>qEk a fn t) e 0)
theorem qEE[p:Calm Γ][W:Subsingleton Γ.St]{S:zU Γ}{A:Nat->Option JA}(Y:P.follows .mixedOrders=Sb)(hS:qK Γ P G S.toS){f:FuncId}{fn:Func}{c:Code}(hf:P.funcs[f]?=Sa fn)(Q:fn.body=Sa c)
  {t:Ty} {X:Type} {dec:List V->Option X} {enc:X->List V} (Z:∀ds x,dec ds=Sa x->kY ds (enc x)) (a4:∀ds x,dec ds=Sa x->zCt ds=Sc) {g:List t.El->X->Option (List t.El)}
  (h:∀s xs x,qHt (Γ:=Γ) P G S A fn c t s xs (enc x)=g xs x):zGI Γ P G f t dec g:=by
 intro s xs r x ys hx hy;refine zAJ.of (a4 r x hx) ?_;intro w F O b v0 j ab hG hF I a5 M bs a6;have ad:=Z r x hx;have N:j.size=(enc x).length+1:=M.trans (by rw[ad.len])
 have ag:∀(i:Nat) (u:Value) (d:V),j[i+1]?=Sa u->(enc x)[i]?=Sa d->Rd w F u d:=by
  intro i u d hu hd;have hlt:i<r.length:=by grind
  exact ad.get i r[i] d (by simp[hlt]) hd w F u (a6 i u r[i] hu (by simp[hlt]))
 have E:=h s xs x;rw[hy]at E;unfold qHt at E;rw[yG]at E;obtain⟨k,e',d,a9,_,e⟩:=zIc (fun _ _ _=>.inl W) Y hS c _ _ _ _ _ E
 have hk:(k=.normal\/k=.ret)/\qEk e' fn t=Sa ys:=by
  cases k with
  |normal=>grind
  |ret=>grind
  |exit id=>cases e
 obtain⟨hk,e⟩:=hk;unfold qEk at e;split at e
 .rename_i q an;split at e
  .rename_i id J zs hg;obtain⟨bb,hz⟩:=yA (u4 e);subst bb;subst hz;refine calls_of_wp hf Q ?_
   have K:∃m,xs≠[]->v0=.slice (Sa ⟨b,0,Sc⟩) xs.length m/\xs.length<=m/\∃(c:Array Value) (et:TypeId) (fl:Nat×Nat),w.heap[b]?=Sa (.cells c et fl)/\c.size=m*J.size:=by
    rcases I with⟨y,_⟩|⟨y,_,m,z,c,et,h3,h4,h5,_⟩
    .simp_all
    grind
   obtain⟨m,K⟩:=K;let β:Lay:=⟨fun _=>0,fun _=>b⟩
   let al:v8->Prop:=fun q=>q=.o jY/\xs≠[];let O0:zAg:=⟨O,if xs=[]then Sc else Sa (b,m*J.size)⟩
   have b0:zX w F β al v0 (.ot jY J xs):=by
    rcases I with⟨y,z⟩|⟨y,_,z⟩
    .exact .inl ⟨y,z⟩
    .exact .inr ⟨y,⟨rfl,fun B=>y (by rw[B];rfl)⟩,z⟩
   have vC:∀q,zX w F β al ((j++Array.replicate (fn.ntmps-j.size) undef).getD q undef) ((zC5 fn.ntmps s J xs (enc x)).get q):=by
    intro q;simp[zC5,zJU,Env.get]
    cases q with
    |zero=>
     grind
    |succ q=>
     rw[bl];by_cases ht:q< (enc x).length
     .rw[aR (by simpa using ht),bf (by omega)];rw[aB,ah ht,aC (by omega)];exact ag q _ _ (by grind) (by simp[ht])
     .rw[aD (by grind),bq (by omega),N];simp only[aL];by_cases z:q- (enc x).length<fn.ntmps- ((enc x).length+1)
      .rw[a8,if_pos z,bI,if_pos (by omega)];exact Rd.val _
      .rw[a8,if_neg z];trivial
   have a2:∀s0,(zC5 fn.ntmps s J xs (enc x)).var s0=none:=by
    grind[zC5,Env.var]
   have hl:xs≠[]->O0.l=Sa (b,m*J.size):=fun B=>by simp[O0,B]
   have ao:Inv Γ G w F O0 { tmps:=j++Array.replicate (fn.ntmps-j.size) undef,defers:=[] } w (zC5 fn.ntmps s J xs (enc x)):=by
    refine Inv.of (F:=F) (O:=O) (β:=β) (al:=al) ⟨xI.refl _ w,ab,fun b Q=>.inl Q,fun b Q=>⟨.inl Q,hF b Q⟩,.refl _ _,?_,?_,?_⟩ hG ?_ rfl vC ?_ ?_
    .rintro q ⟨rfl,ap⟩;exact⟨.inr ⟨rfl,_,hl ap⟩,a5 ap⟩
    .grind
    .intro b' n b1
     grind
    all_goals grind[zC5,zJU]
   refine wp_mono (a9 w F O0 _ w ao) ?_;rintro ex a' w' ⟨rfl,av⟩;have H:a'.defers=[]:=by obtain⟨_,_,_,_,_,_,H,_⟩:=av;exact H
   obtain⟨F',O',β',a,b2,bo,_,be,b3⟩:=av;have hT:=be q;rw[hg]at hT;have C:(results fn a'.tmps).run P w'=.ok (a'.tmps.getD q undef) w':=by rw[zMw,cJ,an];simp only[Sem.run_bind,Sem.run_map,Sem.run_pure];rfl
   have D:xI (fun c=>O c\/(xs≠[]/\c=b)) w w':=by
    refine⟨a.keep.os,a.keep.tape,a.keep.output,a.keep.size,fun c hc ho=>a.keep.block c hc ?_,a.keep.drawn⟩;rintro(B|⟨n,B⟩);all_goals grind
   have L:zCD w.heap.size w' F' O' b v0 J xs zs (a'.tmps.getD q undef) .bot:=by
    rcases hT with⟨y,z⟩|⟨y,bk,ax,z,ay⟩
    .have hz:zs=[]:=by simpa using y
     exact⟨b,.inl ⟨rfl,fun _=>hz⟩,.inl ⟨y,z⟩⟩
    .obtain⟨p1,p2,p3,p4⟩:=a.place _ bk;refine⟨β'.ob id,?_,.inr ⟨y,trivial,ax,z,ay⟩⟩;rcases p1 with⟨_,B⟩|⟨_,n,B⟩
     .exact .inr ⟨B,p2,p3,p4⟩
     .by_cases a0:xs=[]
      .grind
      .rw[hl a0]at B;simp at B;exact .inl ⟨B.1.symm,fun h=>absurd h a0⟩
   have a1:e'.st=s:=cV _ _;rcases hk with rfl|rfl
   .exact⟨H,_,C,_,F',O',rfl,by rw[<-a1];exact a.sig,D,a.oin,a.f0.no p.no,a.fin,L⟩
   .exact⟨H,_,C,_,F',O',rfl,by rw[<-a1];exact a.sig,D,a.oin,a.f0.no p.no,a.fin,L⟩
  .cases e
 .cases e
end
theorem zZ2{S:zU U}{A:Nat->Option JA}(d:qK U Aa G0 S.toS){f:FuncId}{fn:Func}{c:Code}(a:LF.fn f=Sa fn)(e:fn.body=Sa c)
  {t:Ty} {ts:List ATy} {g:List t.El->ElA ts->Option (List t.El)} (h:∀s xs x,qHt (Γ:=U) LF G0 S A fn c t s xs (zMT ts x)=g xs x):zGI U Aa G0 f t (uM ts) g:=by
 have i:LF=j9.of Aa:=j9.fast_eq Aa 388 349;rw[i]at a h;exact qEE mixed d a e (zAU ts) (zKF ts) h
end Go.Ve
namespace Go.Ve
open Go Go.Proofs
set_option maxRecDepth 1000000
variable {P:Program}
theorem qAE{w:World}{F:Blk->Prop}{b:Nat}{M v1:Value}{t:Ty}{xs A:List t.El}{ts:Array TypeId}{ty t0 t1 el el1:TypeId}{f:TypeInfo}{z:Value}
  (h0:ts[0]?=Sa t0) (h1:ts[1]?=Sa t1) (ag:P.underlying t0=Sa (.slice el)) (al:P.underlying t1=Sa (.slice el1)) (H:P.info? el=Sa f) (hz:f.zero=Sa z)
  (a6:t.size=f.size) (a9:1<=f.bytes) (cp:z.cells.size=f.size) (N:(2*(xs.length+A.length)+1024)*f.bytes<=0x800000000000)
  (S:zCg w F ⟨fun _=>b,fun _=>b⟩ (fun _=>True) M 0 t.size (xs.map t.enc)) (hb:xs≠[]->b<w.heap.size/\¬F b) (hF:∀c:Nat,F c->c<w.heap.size) (av:Rd w F v1 (.tl t A)):
  ∃u w',(Ac ts ty #[M,v1]).run P w=.ok u w'/\xI (fun c=>xs≠[]/\c=b) w w'/\
   ∃I,((I=b/\(xs=[]->A=[]))\/(w.heap.size<=I/\I<w'.heap.size))/\zCg w' F ⟨fun _=>I,fun _=>I⟩ (fun _=>True) u 0 t.size ((xs++A).map t.enc):=by
 have ax:∀q,q∈xs.map t.enc->q.cells.length=f.size:=by
  intro q hq;obtain⟨y,_,rfl⟩:=aO.1 hq
  grind[w7]
 have O:∀q,q∈A.map t.enc->q.cells.length=f.size:=by
  intro q hq;obtain⟨y,_,rfl⟩:=aO.1 hq
  grind[w7]
 have bb:∀q,q∈A.map t.enc->q.cells.all V.one=true:=by intro q hq;obtain⟨y,_,rfl⟩:=aO.1 hq;rw[jN];exact zIk t y
 let β:Lay:=⟨fun _=>b,fun _=>b⟩
 have be:zX w F β (fun _=>True) v1 (.p (.sl (A.map t.enc))):=(zBV (x:=.p (.tl t A))).1 av;obtain⟨a1,C,cells,an,bk,G,J,bn⟩:=zIy (P:=P) (k:=f.size) be rfl O;have hs:wE P el=Sa f.size:=zBH H
 have ao:∀m,(Ad z.cells m).size=m*f.size:=by
  grind[Array.size_map,Array.size_range,Ad]
 rw[a6]at S ⊢
 have K:∀(a0:Option Addr) (g:Nat) (old:List Value),M=.slice a0 xs.length g->(∀w':World,w'.heap=w.heap->(Ab f.size xs.length M).run P w'=.ok old.toArray w')->old.length=xs.length*f.size->
   (∀(i j:Nat) (e d:V),(xs.map t.enc)[i]?=Sa e->e.cells[j]?=Sa d->∃x,old[i*f.size+j]?=Sa x/\Rd w F x d)->¬xs.length+A.length<=g->
   ∃u w',(Ac ts ty #[M,v1]).run P w=.ok u w'/\xI (fun c=>xs≠[]/\c=b) w w'/\
   ∃I,((I=b/\(xs=[]->A=[]))\/(w.heap.size<=I/\I<w'.heap.size))/\zCg w' F ⟨fun _=>I,fun _=>I⟩ (fun _=>True) u 0 f.size ((xs++A).map t.enc):=by
  intro a0 g old B L ap ay l;have cf:cells.length=A.length*f.size:=by simpa using G
  obtain⟨E,bo,r⟩:=run_append_grow (P:=P) (w:=w) (ts:=ts) (ty:=ty) (len:=xs.length) (cap:=g) (n:=A.length) (cap1:=C) (a0:=a0) (a1:=a1) (cells:=cells) (old:=old) h0 h1 ag al H hz
   (by have:=J w.drew rfl;grind) (by rw[<-B];exact L w.drew rfl) l a9 N
  rw[<-B,show(Value.slice a1 A.length C)=v1 by rw[an];simp]at r;generalize bs:(Obj.cells (old.toArray++(cells.toArray++Ad z.cells (E- (xs.length+A.length)))) el (0,0))=ob at r;have cq:(w.drew.alloc ob).heap=w.heap.push ob:=rfl;have hlt:∀c,c<w.heap.size->(w.drew.alloc ob).heap[c]?=w.heap[c]? :=fun c W=>by grind
  have ch:(w.drew.alloc ob).heap.size=w.heap.size+1:=by grind
  refine⟨_,_,r,⟨rfl,rfl,rfl,by omega,fun c W _=>hlt c W,cT _⟩,w.heap.size,.inr ⟨aj _,by omega⟩,.inr ⟨?_,trivial,E,by grind,?_⟩⟩
  .grind[List.length_map,List.length_append]
  .have a2:∀(v:Value) (d:V),Rd w F v d->Rd (w.drew.alloc ob) F v d:=fun v d h=>h.mono (fun _ Q=>Q) (fun c W=>hlt c (hF c W));rw[bu];refine zJ2 ax O (by simpa using ap) (by simpa using G) (fun i j q y hi hj=>?_) (fun i j q y hi hj=>?_) (by simpa using bo) (by simpa using ao _) (by show(w.drew.alloc ob).heap[w.heap.size]?=_;rw[<-bs];exact zBq (w:=w.drew));all_goals grind
 rcases S with⟨he,a,B⟩|⟨b0,_,g,B,c,et,g2,g3,g4,g5,g6⟩
 .have D:xs=[]:=by simpa using he
  by_cases a3:A=[]
  .subst D;subst a3
   have b1:(Ac ts ty #[M,v1]).run P w=.ok M w:=by
    have hr:=J w rfl;have hl:cells=[]:=by simpa using G
    subst hl;rw[an]at hr ⊢;rw[B];simp only[Ac];simp[h0,h1,zQ ag,zQ al,zL hs,Builtin.lenOf]at hr ⊢;cases a<;>simp_all[storeCells,Ab]
   exact⟨M,w,b1,xI.refl _ _,b,.inl ⟨rfl,fun _=>rfl⟩,.inl ⟨rfl,a,B⟩⟩
  .subst D;have ck:0<A.length:=cM.2 a3;refine K a 0 [] B (fun w' _=>?_) (by simp) (fun i j e d h=>by simp at h) (by simp;omega);rw[B]
   cases a with
   |none=>simp[Ab]
   |some ad=>simp[Ab,loadCells,loadCellsFrom]
 .have D:xs≠[]:=by simpa using b0
  obtain⟨b2,b3⟩:=hb D;have a4:M=.slice (Sa ⟨b,0,Sc⟩) xs.length g:=by simpa using B
  by_cases l:xs.length+A.length<=g
  .have cl:xs.length*f.size+A.length*f.size<=c.size:=by rw[<-bE,g3];exact aq _ l
   have r:=run_append_room (P:=P) (w:=w) (ts:=ts) (ty:=ty) (b:=b) (off:=0) (len:=xs.length) (cap:=g) (n:=A.length) (cap1:=C) (a1:=a1) (cells:=cells) (c:=c) (et:=et) h0 h1 ag al hs
    (by grind) (by simpa using G) g2 (by omega) (zRi G O bb bn) l
   rw[<-a4,show(Value.slice a1 A.length C)=v1 by rw[an];simp]at r;simp at r;have Y:∀Z:Nat,Z≠b->(setBlk w b (.cells (j8 c (xs.length*f.size) cells) et (0,0))).heap[Z]?=w.heap[Z]? :=fun Z W=>qU W;refine⟨_,_,r,⟨rfl,rfl,rfl,by rw[zCG];omega,fun Z _ hn=>Y Z (fun Q=>hn ⟨D,Q⟩),aj _⟩,b,.inl ⟨rfl,fun Q=>absurd Q D⟩,.inr ⟨by simp[D],trivial,g,by simp,?_⟩⟩;have a2:∀(v:Value) (d:V),Rd w F v d->Rd (setBlk w b (.cells (j8 c (xs.length*f.size) cells) et (0,0))) F v d:=fun v d h=>h.mono (fun _ Q=>Q) (fun Z W=>Y Z (fun Q=>b3 (Q▸W)));rw[bu];refine zR0 g3 g5 (fun i j q y x hi hj hx=>a2 _ _ (g6 i j q y x hi hj hx)) O G (fun i j q y hi hj=>?_) (by simpa using l) (by simpa using zA3 b2)
   grind
  .have b4:zX w F β (fun _=>True) M (.ow 0 f.size (xs.map t.enc)):=⟨trivial,g,B,c,et,g2,g3,g4,g5,g6⟩
   obtain⟨a0,ab,old,a5,b5,ap,L,ay⟩:=zIy (P:=P) (k:=f.size) b4 rfl ax;have cc:ab=g:=by grind
   subst cc;exact K a0 ab old (by simpa using a5) (fun w' hw=>by grind) (by simpa using ap) ay l
end Go.Ve

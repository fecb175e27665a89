/- law16 -/
import Derived.Test.YtgiopebfjmfmhaaGreatProg
import Derived.Test.YtgiopebfjmfmhaaGreatLt4
import Derived.Test.YtgiopebfjmfmhaaGreatLt8
import Derived.Test.YtgiopebfjmfmhaaGreatLt11
import Derived.Test.YtgiopebfjmfmhaaGreatLt12
set_option linter.unusedVariables false
open Option renaming some->Sa,none->Sc
open Bool renaming true->Sb
open Go.Proofs.Tryz renaming prog->Aa,f113->Ae,f89->Af
open Go.Builtin renaming firstCells->Ab,append_->Ac,zeroCells->Ad
set_option maxRecDepth 1000000
set_option maxHeartbeats 0
namespace Go.Ve
open Go Go.Proofs
noncomputable abbrev LF:j9:=j9.fast Aa 388 349
def G0:Nat->Option (List V):=fun _=>Sc
abbrev U:=jV
abbrev kW(f:Func):Code:=match f.body with|some c=>c|none=>.skip
theorem mixed:Tryz.prog.follows .mixedOrders=true:=by kernel_rfl
instance:Subsingleton U.St:=inferInstanceAs (Subsingleton Unit)
variable {i:FuncId}{l:Nat->Option JA}{g:RTy}
theorem qCy{S:zU U}(d:qK U Aa G0 S.toS){fn:Func}{c:Code}(a:LF.fn i=Sa fn)(e:fn.body=Sa c){ts:List Ty}{f:ElS ts->Option g.El}(h:∀s x,exF (Γ:=U) LF G0 S l fn c g s (yH ts x)=f x):jK U Aa G0 i (z6 (qQ ts g f)):=by
 have A:LF=j9.of Aa:=j9.fast_eq Aa 388 349;rw[A]at a h;exact zX6 mixed d a e h
variable {j:List ATy}
theorem zZ3{S:zU U}(d:qK U Aa G0 S.toS){fn:Func}{c:Code}(a:LF.fn i=Sa fn)(e:fn.body=Sa c){f:ElA j->Option g.El}(h:∀s x,exF (Γ:=U) LF G0 S l fn c g s (zMS j x)=f x):jK U Aa G0 i (z6 (zXe j g f)):=by
 have A:LF=j9.of Aa:=j9.fast_eq Aa 388 349;rw[A]at a h;exact qEE mixed d a e h
theorem zAQ{S:zU U}{A:Nat->Option JA}(e:qK U Aa G0 S.toS){fn:Func}{c:Code}(d:LF.fn i=Sa fn)(f:fn.body=Sa c){X:Type}{dec:List V->Option X}{enc:X->List V}(a:∀ds x,dec ds=Sa x->kX ds (enc x)){R:X->Option g.El}(h:∀s x,exF (Γ:=U) LF G0 S A fn c g s (enc x)=R x):jK U Aa G0 i (z6 (vR dec g R)):=by
 have j:LF=j9.of Aa:=j9.fast_eq Aa 388 349;rw[j]at d h;exact zSF mixed e d f a h
theorem zBv{S:zU U}{A:Nat->Option JA}(f:qK U Aa G0 S.toS){fn:Func}{c:Code}(e:LF.fn i=Sa fn)(ts:fn.body=Sa c){t:Ty}(a:g.pl=Sb)(d:∀ty,g≠ .o ty){R:List t.El->ElA j->Option (List t.El×g.El)}(h:∀s xs x,qHs (Γ:=U) LF G0 S A fn c t g s xs (zMS j x)=R xs x):zCU U Aa G0 i t (uM j) g R:=by
 have k:LF=j9.of Aa:=j9.fast_eq Aa 388 349;rw[k]at e h;exact qED mixed f e ts (zAU j) (zKF j) a d h
theorem zZ0{S:zU U}{A:Nat->Option JA}(f:qK U Aa G0 S.toS){fn:Func}{c:Code}(e:LF.fn i=Sa fn)(ts:fn.body=Sa c){t:Ty}{p:Nat}(a:g.pl=Sb)(d:∀ty,g≠ .o ty){R:t.El->ElA j->Option (t.El×g.El)}(h:∀s y x,qGq (Γ:=U) LF G0 S A fn c t g p s y (zMS j x)=R y x):zKP U Aa G0 i t p (uM j) g R:=by
 have k:LF=j9.of Aa:=j9.fast_eq Aa 388 349;rw[k]at e h;exact zX5 mixed f e ts (zAU j) a d h
theorem zZ2{tE:Ty}{S:zU (kB tE)}{A:Nat->Option JA}(a:∀k j,A k=Sa j->zD1 j.sl=Sb)(e:qK (kB tE) Aa G0 S.toS){fn:Func}{c:Code}(d:LF.fn i=Sa fn)(f:fn.body=Sa c){ts:List Ty}{R:HSt tE->ElS ts->Option (HSt tE×g.El)}(h:∀s x,qEK (Γ:=kB tE) LF G0 S A fn c g s (yH ts x)=R s x):jK (kB tE) Aa G0 i (z6 (zBX (zBB ts) g R)):=by
 have l:LF=j9.of Aa:=j9.fast_eq Aa 388 349;rw[l]at d h;exact qEB a mixed e d f (kJ ts) h
structure Ent where
 ad:zU U->zU U
 ok:∀S:zU U,qK U Aa G0 S.toS->qK U Aa G0 (ad S).toS
def jJ{f:FuncId}{sp:U.St->List V->Option (zE3 U.St)}(h:jK U Aa G0 f (z6 sp))(hi:zGr Aa f=true:=by kernel_rfl):Ent:=⟨fun S=>S.add f sp,fun _ a=>vQ a hi h⟩
def qEW{f:FuncId}{t:Ty}{X:Type}{dec:List V->Option X}{R:RTy}{g:List t.El->X->Option (List t.El×R.El)}(h:zCU U Aa G0 f t dec R g)(hi:zGr Aa f=true:=by kernel_rfl):Ent:=⟨fun S=>S.addB f (zAM t dec R g),fun _ a=>zAG a hi h⟩
def qHY{f:FuncId}{t:Ty}{X:Type}{dec:List V->Option X}{g:List t.El->X->Option (List t.El)}(h:zGH U Aa G0 f t dec g)(hi:zGr Aa f=true:=by kernel_rfl):Ent:=⟨fun S=>S.addB f (zFD t dec g),fun _ a=>zP7 a hi h⟩
def qCN:List Ent->zU U
 |[]=>zU.none U
 |e::r=>e.ad (qCN r)
theorem zOn:∀l,qK U Aa G0 (qCN l).toS
 |[]=>jE
 |e::r=>e.ok _ (zOn r)
abbrev OkX(f:FuncId)(ts:List Ty)(R:RTy)(g:ElS ts->Option R.El):Prop:=jK U Aa G0 f (z6 (qQ ts R g))
abbrev OkA(f:FuncId)(ts:List ATy)(R:RTy)(g:ElA ts->Option R.El):Prop:=jK U Aa G0 f (z6 (zXe ts R g))
theorem fA(l:List Ent){A:Nat->Option JA}{fn:Func}(a:LF.fn i=Sa fn)(c:fn.body=Sa (kW fn)){ts:List ATy}{f:ElA ts->Option g.El}(h:∀s x,exF (Γ:=U) LF G0 (qCN l) A fn (kW fn) g s (zMS ts x)=f x):OkA i ts g f:=zZ3 (zOn l) a c h
def jj(k b:Nat)(l:List (Nat×Nat×Nat))(s:List zC0):Nat×JA:=(k,⟨b,l,s⟩)
def jl:List (Nat×JA)->Nat->Option JA
 |[],_=>Sc
 |(a,j)::r,k=>match Nat.beq a k with
  |true=>Sa j
  |false=>jl r k
noncomputable def zTY(f:FuncId):Func:=match LF.fn f with
 |some a=>a
 |none=>Tryz.f0
theorem fX(l:List Ent)(a:List (Nat×JA):=[]){ts:List Ty}{f:ElS ts->Option g.El}(h:∀s x,exF (Γ:=U) LF G0 (qCN l) (jl a) (zTY i) (kW (zTY i)) g s (yH ts x)=f x:=by intros;kernel_rfl)(c:LF.fn i=Sa (zTY i):=by kernel_rfl)(d:(zTY i).body=Sa (kW (zTY i)):=by kernel_rfl):OkX i ts g f:=qCy (zOn l) c d h
end Go.Ve
namespace Go.Ve
open Go Go.Proofs
set_option maxRecDepth 1000000
theorem zU9(t:Ty)(x:t.El):zVa t (.pp (t.cells x))=Sa x:=by
 have h:=zEu t x []
 grind[zVa]
theorem zM1:∀(l:List (Bool×Ty)) (x:qAU l),zHF l (zHy l x)=Sa x
 |[],_=>rfl
 |(Sb,t)::r,x=>by simp[zHy,zHF,zU9,zM1 r]
 |(false,t)::r,x=>by simp[zHy,zHF,zWo,zM1 r]
theorem zYs:∀(ts:List ATy) (x:ElA ts),uM ts (zMS ts x)=Sa x
 |[],_=>rfl
 |t::ts,x=>by
  have h:t.dec (t.enc x.1)=Sa x.1:=by
   cases t with
   |d a=>exact zWo a x.1
   |pp a=>exact zU9 a x.1
   |clo f c=>simp[ATy.dec,ATy.enc,zM1]
  simp[zMS,uM,h,zYs ts]
section
variable {Γ:Sig}{P:Program}{G:Nat->Option (List V)}{f:FuncId}
variable {g:Ty}
theorem zPc{w:World}{F F':Blk->Prop}(c:∀b:Nat,F b->F' b)(d:g.norf=Sb){β:Lay}{al:v8->Prop}{v:Value}{id k:Nat}{xs:List g.El}(h:zCg w F β al v id k (xs.map g.enc)):zCg w F' β al v id k (xs.map g.enc):=by
 rcases h with h|⟨e,t,a,i,j⟩
 .exact .inl h
 .exact .inr ⟨e,t,a,i,zNF c d j⟩
theorem qFO{w:World}{F F':Blk->Prop}(c:∀b:Nat,F b->F' b){R:RTy}(e:R.norf=Sb){y:R.El}{v:Value}(h:Rd w F v (R.val y)):Rd w F' v (R.val y):=by
 cases R with
 |p g=>exact zBf (t:=g) c e h
 |o g=>exact zBf (t:=.sl g) c e h
 |tu a=>
  have h:Rd w F v (.tup (yH a y)):=h
  cases h with
  |tup k _ l m=>exact .tup k _ l (fun i u d n j=>zIf c a y e i u d j (m i u d n j))
variable {i:Type}{j:List V->Option i}
theorem zZu(ab:∀t,G t=Sc)(hd:qAR j)(B:g.norf=Sb){xs Q:List g.El}{x:i}{d:V}(C:∀(w:World) (F F':Blk->Prop),(∀b:Nat,F b->F' b)->∀v,d≠ .bot->Rd w F v d->Rd w F' v d){r:List V}(hx:j r=Sa x)(h:∀r',j r'=Sa x->zVl jV P G f () g xs r' () Q d)(s:Γ.St):zVl Γ P G f s g xs r s Q d:=by
 intro w F O b v0 q k hG D u a y h0 ad;obtain⟨r',E,H,S⟩:=hd r x hx
 have m:=h r' E w (zJj F) (fun _=>False) b v0 q ⟨fun _ h=>h,zHY F⟩ (fun t cs hg=>by grind) (fun c p=>⟨(D c p).1,fun h=>h⟩)
  (zPc (F:=F) (F':=zJj F) (fun _ a=>a) B u) (fun z=>⟨(a z).1,(a z).2.1,fun h=>h⟩) (by rw[y,H]) h0
  (fun X v d' hi ag=>by
   grind[List.getElem?_eq_some_iff,zJj])
 refine m.mono ?_;rintro e I ⟨v,F',O',rfl,g1,l,g3,W,g5,Y⟩
 have J:∀c,O c->I.heap[c]?=w.heap[c]? :=fun c p=>l.block c (Γ.inb k c p) (fun h=>by
  grind)
 have K:∀n:Nat,F (.s n)->F n->I.heap[n]?=w.heap[n]? :=fun n _ A=>l.block n (D n A).1 (fun h=>by
  grind)
 refine⟨v,zQ0 F F',O,rfl,Γ.mono k (zCa F F') J (fun n hs A=>⟨W.1 (.b n) A,K n hs A⟩),⟨l.os,l.tape,l.output,l.size,fun c p L=>l.block c p (fun h=>L (h.elim (fun h=>h.elim) .inr)),l.drawn⟩,fun b a=>.inl a,
  .of_reg (fun b a=>?_) (zCa F F'),?_,?_⟩
 .cases b with
  |b n=>exact W.1 (.b n) a
  |_=>exact a
 .intro c p;obtain⟨dec,M,_⟩:=g5 c p;refine⟨dec,M,fun Z=>?_⟩;rcases dec with dec|dec
  .exact(D c dec).2 Z
  grind
 .cases d with
  |bot=>
   obtain⟨b',dec,M⟩:=Y;refine⟨b',?_,zPc (F:=F') (F':=zQ0 F F') (fun _ a=>a) B M⟩;rcases dec with dec|⟨dec,h3,h4,h5⟩
   .exact .inl dec
   .exact .inr ⟨dec,h3,h4,fun Z=>by grind⟩
  |_=>obtain⟨k1,k2⟩:=zCD.out (by intro N;cases N) Y;exact .of (zPc (F:=F') (F':=zQ0 F F') (fun _ a=>a) B k1) (C I F' (zQ0 F F') (fun _ a=>a) v (by intro N;cases N) k2)
theorem zZ5(d:∀t,G t=Sc)(dec:g.norf=Sb)(k:qAR j)(a:∀ds x,j ds=Sa x->zCt ds=Sc){t:List g.El->i->Option (List g.El)}(h:zGH jV P G f g j t):zGH Γ P G f g j t:=by intro s l r x m e n;exact .of (a r x e) (zZu d k dec (fun _ _ _ _ _ p=>absurd rfl p) e (fun X c=>zAJ.row (a X x c) (h () l X x m c n)) s)
theorem zZ4(Z:∀t,G t=Sc)(N:g.norf=Sb){p:Nat}(hd:qAR j){R:RTy}(hR:R.norf=Sb){t:g.El->i->Option (g.El×R.El)}(h:zKP jV P G f g p j R t):zKP Γ P G f g p j R t:=by
 intro s y r x z u hx Q;intro w F O b E A dec hG H B l a C hk h0 ab;obtain⟨r',I,J,S⟩:=hd r x hx
 have m:=h () y r' x z u I Q w (zJj F) (fun _=>False) b E A ⟨fun _ h=>h,zHY F⟩ (fun t cs Q=>by grind) (fun c q=>⟨(H c q).1,fun h=>h⟩)
  (zNF (F:=F) (F':=zJj F) (t:=g) (fun _ a=>a) N B) l ⟨a.1,a.2.1,fun h=>h⟩ (by rw[C,J]) (by omega) h0
  (fun X v d' hi ad=>by
   grind[List.getElem?_eq_some_iff,zJj])
 refine m.mono ?_;rintro e W ⟨v,d,O',rfl,g1,k,g3,Y,g5,g6,g7,g8⟩
 have K:∀c,O c->W.heap[c]?=w.heap[c]? :=fun c q=>k.block c (Γ.inb dec c q) (fun h=>by
  grind)
 have L:∀n:Nat,F (.s n)->F n->W.heap[n]?=w.heap[n]? :=fun n _ D=>k.block n (H n D).1 (fun h=>by
  grind)
 refine⟨v,zQ0 F d,O,rfl,Γ.mono dec (zCa F d) K (fun n hs D=>⟨Y.1 (.b n) D,L n hs D⟩),⟨k.os,k.tape,k.output,k.size,fun c q M=>k.block c q (fun h=>M (h.elim (fun h=>h.elim) .inr)),k.drawn⟩,fun b a=>.inl a,
  .of_reg (fun b a=>?_) (zCa F d),?_,zNF (F:=d) (F':=zQ0 F d) (t:=g) (fun _ a=>a) N g6,g7,qFO (F:=d) (F':=zQ0 F d) (fun _ a=>a) hR g8⟩
 .cases b with
  |b n=>exact Y.1 (.b n) a
  |_=>exact a
 .intro c q;obtain⟨l,h2,_⟩:=g5 c q;refine⟨l,h2,fun ho=>?_⟩;rcases l with l|l
  .exact(H c l).2 ho
  grind
theorem qAr{ts:List ATy}(g:ts.all ATy.norf=Sb):qAR (uM ts):=by intro h x j;have a:=zAU ts h x j;refine⟨zMS ts x,zYs ts x,a.len.symm,fun w F n k i v d e l c m=>?_⟩;exact zU4 k ts x g i v e c (a.get i d e l c w F v m)
end
structure xY(Γ:Sig) where
 ad:zU Γ->zU Γ
 ok:∀S:zU Γ,qK Γ Aa G0 S.toS->qK Γ Aa G0 (ad S).toS
variable {Γ:Sig}
def zYl:List (xY Γ)->zU Γ
 |[]=>zU.none Γ
 |e::r=>e.ad (zYl r)
theorem zOo:∀l:List (xY Γ),qK Γ Aa G0 (zYl l).toS
 |[]=>jE
 |e::r=>e.ok _ (zOo r)
def enG{f:FuncId}{sp:Γ.St->List V->Option (zE3 Γ.St)}(hi:zGr Aa f=Sb)(h:jK Γ Aa G0 f (z6 sp)):xY Γ:=⟨fun S=>S.add f sp,fun _ a=>vQ a hi h⟩
def liS{f:FuncId}{ts:List Ty}{R:RTy}{g:ElS ts->Option R.El}(hi:zGr Aa f=Sb)(a:ts.all Ty.norf=Sb)(c:R.norf=Sb)(h:jK U Aa G0 f (z6 (qQ ts R g))):xY Γ:=
 enG (sp:=qQ ts R g) hi (zH9 (fun _=>rfl) (zM2 a) c h)
def liM{f:FuncId}{t:Ty}{ts:List ATy}{g:List t.El->ElA ts->Option (List t.El)}(hi:zGr Aa f=Sb)(a:t.norf=Sb)(c:ts.all ATy.norf=Sb)(h:zGH U Aa G0 f t (uM ts) g):xY Γ:=
 ⟨fun S=>S.addB f (zFD t (uM ts) g),fun _ d=>zP7 d hi (zZ5 (fun _=>rfl) a (qAr c) (zKF ts) h)⟩
def liP{f:FuncId}{t:Ty}{p:Nat}{ts:List ATy}{R:RTy}{g:t.El->ElA ts->Option (t.El×R.El)}(hi:zGr Aa f=Sb)(a:t.norf=Sb)(c:ts.all ATy.norf=Sb)(d:R.norf=Sb)(h:zKP U Aa G0 f t p (uM ts) R g):xY Γ:=
 ⟨fun S=>S.addB f (zRi t p (uM ts) R g),fun _ e=>zP6 e hi (zZ4 (fun _=>rfl) a (qAr c) d h)⟩
def liA{f:FuncId}{ts:List ATy}{R:RTy}{g:ElA ts->Option R.El}(hi:zGr Aa f=Sb)(a:ts.all ATy.norf=Sb)(c:R.norf=Sb)(h:jK U Aa G0 f (z6 (zXe ts R g))):xY Γ:=
 enG (sp:=zXe ts R g) hi (zH9 (fun _=>rfl) (qAr a) c h)
variable {i:FuncId}{g:RTy}
theorem fG[Calm Γ][Subsingleton Γ.St](l:List (xY Γ))(a:List (Nat×JA):=[]){ts:List Ty}{f:ElS ts->Option g.El}(h:∀s x,exF (Γ:=Γ) LF G0 (zYl l) (jl a) (zTY i) (kW (zTY i)) g s (yH ts x)=f x:=by intros;kernel_rfl)(c:LF.fn i=Sa (zTY i):=by kernel_rfl)(d:(zTY i).body=Sa (kW (zTY i)):=by kernel_rfl):jK Γ Aa G0 i (z6 (qQ ts g f)):=by have e:LF=j9.of Aa:=j9.fast_eq Aa 388 349;rw[e]at c h;exact zX6 mixed (zOo l) c d h
theorem fGP[Calm Γ][Subsingleton Γ.St](l:List (xY Γ)){A:Nat->Option JA}{fn:Func}(d:LF.fn i=Sa fn)(e:fn.body=Sa (kW fn)){t:Ty}{p:Nat}{ts:List ATy}(a:g.pl=Sb)(c:∀ty,g≠ .o ty){R:t.El->ElA ts->Option (t.El×g.El)}(h:∀s y x,qGq (Γ:=Γ) LF G0 (zYl l) A fn (kW fn) t g p s y (zMS ts x)=R y x):zKP Γ Aa G0 i t p (uM ts) g R:=by
 have f:LF=j9.of Aa:=j9.fast_eq Aa 388 349;rw[f]at d h;exact zX5 mixed (zOo l) d e (zAU ts) a c h
theorem fHb{H:zTp}(l:List (xY (ptB H))){A:Nat->Option JA}(a:∀k j,A k=Sa j->zD1 j.sl=Sb){fn:Func}(c:LF.fn i=Sa fn)(d:fn.body=Sa (kW fn)){ts:List Ty}{f:Bool->ElS ts->Option (Bool×g.El)}(h:∀s x,qEK (Γ:=ptB H) LF G0 (zYl l) A fn (kW fn) g s (yH ts x)=f s x):zL4 (ptB H) Aa G0 i (z6 (zBX (zBB ts) g f)):=by
 have e:LF=j9.of Aa:=j9.fast_eq Aa 388 349;rw[e]at c h;exact zUS a mixed (zOo l) c d (kJ ts) h
theorem zV2:∀l:List (Nat×JA),(l.all fun a=>zD1 a.2.sl)=Sb->∀k j,jl l k=Sa j->zD1 j.sl=Sb
 |[],_,_,_,h=>by cases h
 |(a,i)::r,c,k,j,h=>by
  simp only[cG,ak]at c;simp only[jl]at h;split at h
  .grind
  .exact zV2 r c.2 k j h
def onX{X ρ:Type}(g:X->Option ρ):Bool->X->Option (Bool×ρ):=fun s x=>match s with
 |true=>(g x).map (fun y=>(Sb,y))
 |false=>Sc
theorem qEz{H:zTp}{X:Type}{dec:List V->Option X}{R:X->Option g.El}(h:jK (zR7 H) Aa G0 i (z6 (vR dec g R))):
  jK (ptB H) Aa G0 i (z6 (zBX dec g (onX R))):=by
 intro w F O s d n l r f t u j m a;simp[z6,zBX]at a
 cases p:dec n with
 |none=>grind
 |some x=>
  rw[p]at a
  cases s with
  |false=>
   have k:(Sc:Option ((ptB H).St×RV))=Sa (l,r):=a;simp at k
  |true=>
   have k:((R x).map (fun y=>(Sb,y))).map (fun y=>(y.1,g.res y.2))=Sa (l,r):=a
   cases q:R x with
   |none=>grind
   |some y=>
   rw[q]at k;have z:((Sb,g.res y):Bool×RV)=(l,r):=aZ k;obtain⟨rfl,rfl⟩:=Prod.mk.inj z;have c:=h w F O () d n () (g.res y) f t u j m (by simp[z6,vR,p,q]);refine c.mono ?_;rintro e L ⟨v,A,B,rfl,C,D,E,I,J,K⟩;exact⟨v,A,B,rfl,C,D,E,I.to (fun h=>h.1),J,K⟩
def onG{H:zTp}{f:FuncId}{ts:List Ty}{R:RTy}{g:ElS ts->Option R.El}(hi:zGr Aa f=Sb)(h:jK (zR7 H) Aa G0 f (z6 (qQ ts R g))):xY (ptB H):=
 enG (sp:=zBX (zBB ts) R (onX g)) hi (qEz h)
def qIf{f:FuncId}{t:Ty}{p:Nat}{X:Type}{dec:List V->Option X}{R:RTy}{g:t.El->X->Option (t.El×R.El)}(hi:zGr Aa f=Sb)(h:zKP Γ Aa G0 f t p dec R g):xY Γ:=⟨fun S=>S.addB f (zRi t p dec R g),fun _ a=>zP6 a hi h⟩
end Go.Ve
namespace Go.Ve
noncomputable section
open Go Go.Proofs
theorem zSh:OkX 281 [(.int .u8)] (.p .bool) zEB:=fX [] [jj 6 5726623056 [] [.t 2 .bool]]
def zT0:Ent:=jJ zSh
theorem zVO:OkX 231 [.str] (.p .bool) zCI:=fX [zT0] [jj 6 91625968640 [] [.t 18 .bool],jj 30 0x5555555555555500000000000000 [] [.t 55 .bool],jj 17 0x5555555555555555554000000150 [] [.t 3 tI],jj 36 0x5555555555555555554000000150 [] []]
def zEW:Ent:=jJ zVO
theorem zSg:OkX 232 [tI,tI,tI] (.p .bool) qB:=fX [] [jj 6 357912576 [] [.t 6 .bool]]
def kD:Ent:=jJ zSg
theorem zVP:OkX 74 [tI] (.p tU) zCJ:=fX [] [jj 16 22906404928 [] [.t 3 tU],jj 13 22906492224 [] [.t 4 tI,.t 3 tU],jj 28 22906492224 [] [.t 3 tU]]
def zKD:Ent:=jJ zVP
theorem zJk:OkX 36 [tU,tI] (.p zD) uE:=fX [zKD]
def zKC:Ent:=jJ zJk
theorem zPh:OkX 223 [zD,tU] (.p .bool) zA4:=fX [zKD]
def zRa:Ent:=jJ zPh
theorem zSi:OkX 165 [zD,zD] (.p .bool) zBo:=fX [zRa] [jj 6 1431655680 [] [.t 4 .bool]]
def zT1:Ent:=jJ zSi
theorem zPg:OkX 282 [zD,zD] (.p .bool) x9:=fX [zT1] [jj 6 22369536 [] [.t 4 .bool]]
def zJq:Ent:=jJ zPg
theorem zMA:OkX 233 [(.sl zZ)] (.p tI) xJ:=fX [zJq,zKC,kD,zEW] [jj 41 0x1555555000000000410 [] [.t 5 tI],jj 56 0x1555555000000000410 [] [],jj 58 0x155555554000000000000000000 [] [.t 52 .bool],jj 66 0x15555555555555555555555400000000000000000000000000 [] [.t 98 .bool],jj 74 0x5555555555555540000000000000000000000000000000000000000000000000 [] [.t 127 .bool],jj 94 0x1555555555555554000000000000000000000000000000000000000000000000000000000000000000 [] [.t 162 .bool],jj 85 0x1555555555555555550000000000000000000000000000000000000000000000000000000000001010 [] [.t 6 tI],jj 20 0x1555555555555555555555555555555555555555555555555555555555555555555555555500001710 [] [],jj 17 0x1555555555555555555555555555555555555555555555555555555555555555555555555555501750 [] [.t 3 tI],jj 100 0x1555555555555555555555555555555555555555555555555555555555555555555555555555501750 [] []]
def zOr:Ent:=jJ zMA
theorem zTN:OkX 64 [zD] (.p .bool) uD:=fX [zKD] [jj 6 366503875920 [] [.t 2 .bool]]
def zBP:Ent:=jJ zTN
theorem zH2:OkX 283 [zRK] (.p .bool) xR:=fX [zBP] [jj 6 0x5555555555550 [] [.t 2 .bool]]
def zIZ:Ent:=jJ zH2
theorem zLo:OkX 234 [(.sl zEa)] (.p tI) zAq:=fX [zIZ,zEW] [jj 37 0x5555555500000000110 [] [.t 4 tI],jj 52 0x5555555500000000110 [] [],jj 73 0x555555555500000000000000000000000410 [] [.t 5 tI],jj 20 0x555555555555555555555555555540000510 [] [],jj 17 0x555555555555555555555555555555540550 [] [.t 3 tI],jj 88 0x555555555555555555555555555555540550 [] []]
def zMW:Ent:=jJ zLo
theorem zMB:OkX 284 [zG,.str] (.p tI) u9:=fX [] [jj 9 5864062014720 [] [.t 5 tI],jj 24 5864062014720 [] []]
def zHd:Ent:=jJ zMB
theorem zNW:OkX 235 [zG] (.p tI) zBn:=fX [kD,zHd,zEW] [jj 41 0x555555550000000000410 [] [.t 5 tI],jj 56 0x555555550000000000410 [] [],jj 90 0x555550000000000000000000000000000000000000 [] [.t 83 .bool],jj 98 0x55555555555555000000000000000000000000000000000000000000 [] [.t 111 .bool],jj 77 0x5555555555555555555555555555000000000000000000000000d010 [] [.t 6 tI],jj 24 0x5555555555555555555555555555555555555555555555400000d410 [] [],jj 21 0x5555555555555555555555555555555555555555555555555400d510 [] [.t 4 tI],jj 104 0x5555555555555555555555555555555555555555555555555400d510 [] []]
def zPH:Ent:=jJ zNW
theorem zTL:OkX 318 [zR] (.p .bool) zGf:=fX [] [jj 6 22906492240 [] [.t 2 .bool]]
def zWi:Ent:=jJ zTL
theorem zXJ:OkX 319 [zR] (.p .bool) zJ4:=fX []
def qAn:Ent:=jJ zXJ
theorem zNZ:OkX 285 [zWY] (.p .bool) zDg:=fX [qAn,zWi,kD] [jj 6 0x15555555555555555540 [] [.t 38 .bool],jj 14 0x15555555540000000000000000010 [] [.t 2 .bool]]
def zPK:Ent:=jJ zNZ
theorem zLp:OkX 236 [(.sl zOX)] (.p tI) zAr:=fX [zPK,zEW] [jj 37 0x5555555500000000110 [] [.t 4 tI],jj 52 0x5555555500000000110 [] [],jj 73 0x555555555500000000000000000000000410 [] [.t 5 tI],jj 20 0x555555555555555555555555555540000510 [] [],jj 17 0x555555555555555555555555555555540550 [] [.t 3 tI],jj 88 0x555555555555555555555555555555540550 [] []]
def zMX:Ent:=jJ zLp
theorem zXK:OkX 286 [zG,.str] (.p tI) zGg:=fX [] [jj 9 5864062014720 [] [.t 5 tI],jj 24 5864062014720 [] []]
def zS5:Ent:=jJ zXK
theorem zKe:OkX 237 [zG] (.p tI) xQ:=fX [zS5,kD] [jj 42 0x15555555550000000000400 [] [.t 5 .bool],jj 50 0x555555555555555400000000000000000000400 [] [.t 5 .bool],jj 58 0x15555555555555555555550000000000000000000000000000000000000400 [] [.t 5 .bool],jj 60 0x15555555555555555555555555555555555555555555555555500000000400 [] [.t 5 .bool],jj 70 0x15555400000000000000000000000000000000000000000000000000000000000000 [] [.t 134 .bool],jj 17 0x15555555555555555555555555555555555555555555555555555555555555500750 [] [.t 3 tI],jj 76 0x15555555555555555555555555555555555555555555555555555555555555500750 [] []]
def zLB:Ent:=jJ zKe
theorem zQS:OkX 238 [zG] (.p tI) zDf:=fX [zS5] [jj 22 0x15555555555400000000 [] [.t 38 .bool],jj 9 0x15555555555555555750 [] [.t 3 tI],jj 28 0x15555555555555555750 [] []]
def zS4:Ent:=jJ zQS
theorem zQT:OkX 182 [zG,tU] (.p tI) zAP:=fX [] [jj 18 0x555555554000000 [] [.t 29 .bool],jj 9 0x1555555555555500 [] [.t 5 tI],jj 24 0x1555555555555500 [] []]
def zKB:Ent:=jJ zQT
theorem zN0:OkX 287 [zG,.str] (.p tI) zAs:=fX [] [jj 9 5864062014720 [] [.t 5 tI],jj 24 5864062014720 [] []]
def zPL:Ent:=jJ zN0
theorem zQR:OkX 239 [zG] (.p tI) zBJ:=fX [zPL,kD,zKB,zBP] [jj 40 95982967058334720 [] [.t 5 tI],jj 48 0x55400000000000400 [] [.t 5 tI],jj 56 0x5500000000000000400 [] [.t 5 tI],jj 58 0x55555555555555550000000000000000000 [] [.t 69 .bool],jj 88 0x5555555500000000000000000000000000000001000 [] [],jj 102 0x15555555554000000000000000000000000000000000000000000000 [] [.t 110 .bool],jj 93 0x15555555555550000000000000000000000000000000000000004010 [] [.t 7 tI],jj 20 0x15555555555555555555555555555555555555555555554000005710 [] [],jj 17 0x15555555555555555555555555555555555555555555555555005750 [] [.t 3 tI],jj 108 0x15555555555555555555555555555555555555555555555555005750 [] []]
def zS3:Ent:=jJ zQR
theorem zPf:OkX 320 [zG,.str] (.p tI) x7:=fX [] [jj 9 5864062014720 [] [.t 5 tI],jj 24 5864062014720 [] []]
def zJp:Ent:=jJ zPf
theorem zH1:OkX 288 [zG,(.sl zGU),tI,tI,tI] (.p tI) kM:=fX [zJp,kD] [jj 30 0x15555555555540000000000000 [] [.t 50 .bool],jj 38 0x555555555540000000000000000000000000 [] [.t 71 .bool],jj 46 0x55555000000000000000000000000000000000000 [] [.t 81 .bool],jj 57 0x155555500000000000000000000000000000000004100000 [] [.t 13 tI],jj 20 0x155555555555555555555555555555555555400007100000 [] [],jj 17 0x155555555555555555555555555555555555555407500000 [] [.t 11 tI],jj 72 0x155555555555555555555555555555555555555407500000 [] []]
def zAS:Ent:=jJ zH1
theorem zNY:OkX 240 [zG] (.p tI) yV:=fX [zAS,zJq,zBP,kD] [jj 14 0x5555555400000 [] [.t 25 .bool],jj 54 0x155555555400000000000000000000 [] [.t 58 .bool],jj 74 0x5555555555555500000000000000000000000000000000 [] [.t 91 .bool],jj 65 0x5555555555555555400000000000000000000000000410 [] [.t 5 tI],jj 48 0x5555555555555555555555555400000000000000000410 [] [],jj 45 0x5555555555555555555555555555500000000000000510 [] [.t 4 tI],jj 80 0x5555555555555555555555555555500000000000000510 [] []]
def zPJ:Ent:=jJ zNY
theorem zPe:OkX 241 [zG] (.p tI) zB7:=fX [zAS,zHd,kD] [jj 14 0x55555555540000 [] [.t 27 .bool],jj 34 0x555555555550000000000000000 [] [.t 53 .bool]]
def zQ9:Ent:=jJ zPe
theorem zNX:OkX 289 [zG] (.p tI) zDe:=fX [zJp,kD] [jj 30 0x15555555000000000 [] [.t 32 .bool],jj 38 0x1555555555555555540000000000000000 [] [.t 66 .bool],jj 49 0x155555554000000000000000000000000000000410 [] [.t 5 tI],jj 24 0x155555555555555555555555555555555000000410 [] [],jj 21 0x155555555555555555555555555555555555000510 [] [.t 4 tI],jj 64 0x155555555555555555555555555555555555000510 [] []]
def zPI:Ent:=jJ zNX
theorem zKf:OkX 290 [tPV] (.p tI) zBe:=fX [zBP] [jj 37 0x5555555500000000000110 [] [.t 4 tI],jj 20 0x5555555555540000000110 [] [],jj 17 0x5555555555555550000150 [] [.t 3 tI],jj 52 0x5555555555555550000150 [] [],jj 85 0x15555555540000000000000000000000000001010 [] [.t 6 tI],jj 68 0x15555555555554000000000000000000000001010 [] [],jj 65 0x15555555555555555000000000000000000001410 [] [.t 5 tI],jj 100 0x15555555555555555000000000000000000001410 [] [],jj 126 0x155554000000000000000000000000000000000000000000000000 [] [.t 106 .bool],jj 145 0x555555500000000000000000000000000000000000000000000000000040010 [] [.t 9 tI],jj 116 0x555555555555555550000000000000000000000000000000000000000070010 [] [],jj 113 0x555555555555555555554000000000000000000000000000000000000074010 [] [.t 7 tI],jj 160 0x555555555555555555554000000000000000000000000000000000000074010 [] []]
def zLC:Ent:=jJ zKf
theorem zMz:OkX 242 [zG] (.p tI) zAZ:=fX [zAS,zLC,zPI,kD] [jj 14 0x155555555555555400000 [] [.t 40 .bool],jj 26 0x5555555400000000000000000000 [] [.t 55 .bool]]
def zOq:Ent:=jJ zMz
theorem zLq:OkX 181 [zG] (.p tI) yM:=fX [zOq,zQ9,zPJ,zS3,zS4,zLB,zMX,zPH,zMW,zOr,kD,zEW] [jj 29 0x55555554000000000000000110 [] [.t 4 tI],jj 44 0x55555554000000000000000110 [] []]
def zMY:Ent:=jJ zLq
theorem zTM:OkX 128 [zJ] (.p tI) x8:=fX [zKB,zMY] [jj 41 0x155555555400000000000410 [] [.t 5 tI],jj 56 0x155555555400000000000410 [] [],jj 86 0x5555555000000000000000000000000000000000000 [] [.t 85 .bool],jj 77 0x5555555554000000000000000000000000000010010 [] [.t 8 tI],jj 64 0x555555555555550000000000000000000000001c010 [] [],jj 61 0x555555555555555555540000000000000000001d010 [] [.t 6 tI],jj 20 0x555555555555555555555555555545555000001d510 [] [],jj 17 0x555555555555555555555555555555555555401d550 [] [.t 3 tI],jj 92 0x555555555555555555555555555555555555401d550 [] []]
theorem zTR:OkX 75 [zG] (.p .bool) zIM:=fX [] [jj 6 0x555555555555555555555555555555555555555555555000 [] [.t 95 .bool],jj 17 0x15555555000000000000000000000000000000000000000000000050 [] [.t 3 tI],jj 32 0x15555555000000000000000000000000000000000000000000000050 [] [],jj 37 0x555555540000000000000000000000000000000000000000000000000000110 [] [.t 4 tI],jj 52 0x555555540000000000000000000000000000000000000000000000000000110 [] [],jj 57 0x15555555000000000000000000000000000000000000000000000000000000000000410 [] [.t 5 tI],jj 72 0x15555555000000000000000000000000000000000000000000000000000000000000410 [] []]
def zWl:Ent:=jJ zTR
theorem zSo:OkX 38 [zJ] (.p .bool) zG9:=fX [zWl] [jj 17 5864061993040 [] [.t 3 tI],jj 32 5864061993040 [] []]
def zT6:Ent:=jJ zSo
theorem zJl:OkX 70 [zD,zD] (.p tI) xS:=fX [] [jj 6 93824992236544 [] [.t 23 .bool]]
def zS6:Ent:=jJ zJl
def zHJ:Nat->Option JA:=fun k=>match k with|84=>Sa ⟨0x100000000000000000000000000000000000000000000000000000000000000000000000000000000000000000000000000000000000000000000000000000000000000000000000000000000000000000000000000000000000000000000000000000000000000000000000000000000000000000000000000000000000000000000000000000000000000000000000000000000000000000000000000000000000000000000000000000000000000000000000000000000000000000000000000000000000000000000000000000000000000000000000000000000000000000000000000000000000000155555555555555555555555555555555555555555555555555555555555555555555500005f5800,[],[.v 5 [.o 1100 zW,.o 1101 tI],.st]⟩|25=>Sa ⟨0x100000000000000000000000000000000000000000000000000000000000000000000000000000000000000000000000000000000000000000000000000000000000000000000000000000000000000000000000000000000000000000000000000000000000000000000000000000000000000000000000000000000000000000000000000000000000000000000000000000000000000000000000000000000000000000000000000000000000000000000000000000000000000000000000000000000000000000000000000000000000000000000000000000000000000000000000000000000000000155555555555555555555555555555555555555555555555555555555555555555555500005f5800,[],[.t 6 tI,.v 5 [.o 1100 zW,.o 1101 tI],.st]⟩|28=>Sa ⟨0x100000000000000000000000000000000000000000000000000000000000000000000000000000000000000000000000000000000000000000000000000000000000000000000000000000000000000000000000000000000000000000000000000000000000000000000000000000000000000000000000000000000000000000000000000000000000000000000000000000000000000000000000000000000000000000000000000000000000000000000000000000000000000000000000000000000000000000000000000000000000000000000000000000000000000000000000000000000000000155555555555555555555555555555555555555555555555555555555555555555400000005f4800,[],[.v 5 [.o 1100 zW,.o 1101 tI],.st]⟩|37=>Sa ⟨0x100000000000000000000000000000000000000000000000000000000000000000000000000000000000000000000000000000000000000000000000000000000000000000000000000000000000000000000000000000000000000000000000000000000000000000000000000000000000000000000000000000000000000000000000000000000000000000000000000000000000000000000000000000000000000000000000000000000000000000000000000000000000000000000000000000000000000000000000000000000000000000000000000000000000000000000000000000000000000155555555555555555555555555555555555555555555555555555555555555555400000005f4800,[],[.t 7 tI,.v 5 [.o 1100 zW,.o 1101 tI],.st]⟩|40=>Sa ⟨0x100000000000000000000000000000000000000000000000000000000000000000000000000000000000000000000000000000000000000000000000000000000000000000000000000000000000000000000000000000000000000000000000000000000000000000000000000000000000000000000000000000000000000000000000000000000000000000000000000000000000000000000000000000000000000000000000000000000000000000000000000000000000000000000000000000000000000000000000000000000000000000000000000000000000000000000000000000000000000155555555555555555555555555555555555555555555555555555555555500000000000005f0800,[],[.v 5 [.o 1100 zW,.o 1101 tI],.st]⟩|80=>Sa ⟨0x10000000000000000000000000000000000000000000000000000000000000000000000000000000000000000000000000000000000000000000000000000000000000000000000000000000000000000000000000000000000000000000000000000000000000000000000000000000000000000000000000000000000000000000000000000000000000000000000000000000000000000000000000000000000000000000000000000000000000000000000000000000000000000000000000000000000000000000000000000000000000000000000000000000000000000000000000000000000000000000000155555555555555555555550000000000000000000000000000000000000000000400800,[],[.v 5 [.o 1100 zW,.o 1101 tI],.st]⟩|70=>Sa ⟨0x55555555555550000000000000000000000000000000000000000000000000,[],[.t 123 .bool,.v 5 [.o 1100 zW,.o 1101 tI],.st]⟩|68=>Sa ⟨0x5555555555555555555400000000000000000000000100800,[],[.t 10 tI,.v 5 [.o 1100 zW,.o 1101 tI],.st]⟩|61=>Sa ⟨0x5555555555555555555400000000000000000000000100800,[],[.t 10 tI,.v 5 [.o 1100 zW,.o 1101 tI],.st]⟩|62=>Sa ⟨0x555555555555555555400000000000000000000000000000,[],[.t 95 .bool,.v 5 [.o 1100 zW,.o 1101 tI],.st]⟩|50=>Sa ⟨0x555400000000000000000000000,[],[.t 53 .bool,.v 5 [.o 1100 zW,.o 1101 tI],.st]⟩|92=>Sa ⟨0x40000000000000000000000000000000000000000000000000000000000000000000000000000000000000000000000000000000000000000000000000000000000000000000000000000000000000000000000000000000000000000000000000000000000000000000000000000000000000000000000000000000000000000000000000000000000000000000000000000000000000000000000000000000000000000000000000000000000000000000000000000000000000000000000000000000000000000000000000000000000000000000000000000000000000000000000000000555555500000000000000000000000000000000000000000000000000000000000000000000000000000000800,[],[.v 5 [.o 1100 zW,.o 1101 tI],.st]⟩|89=>Sa ⟨0x40000000000000000000000000000000000000000000000000000000000000000000000000000000000000000000000000000000000000000000000000000000000000000000000000000000000000000000000000000000000000000000000000000000000000000000000000000000000000000000000000000000000000000000000000000000000000000000000000000000000000000000000000000000000000000000000000000000000000000000000000000000000000000000000000000000000000000000000000000000000000000000000000000000000000000000000000000555555555540000000000000000000000000000000000000000000000000000000000000000000000001000800,[],[.t 12 tI,.v 5 [.o 1100 zW,.o 1101 tI],.st]⟩|104=>Sa ⟨0x40000000000000000000000000000000000000000000000000000000000000000000000000000000000000000000000000000000000000000000000000000000000000000000000000000000000000000000000000000000000000000000000000000000000000000000000000000000000000000000000000000000000000000000000000000000000000000000000000000000000000000000000000000000000000000000000000000000000000000000000000000000000000000000000000000000000000000000000000000000000000000000000000000000000000000000000000000555555555540000000000000000000000000000000000000000000000000000000000000000000000001000800,[],[.v 5 [.o 1100 zW,.o 1101 tI],.st]⟩|83=>Sa ⟨0,[(16,0,8)],[.st]⟩|79=>Sa ⟨0,[(14848,1024,0)],[.st]⟩|_=>Sc
theorem zQ2:∀k j,zHJ k=Sa j->zD1 j.sl=true:=by
 intro k j h
 unfold zHJ at h
 split at h<;>(cases h<;>rfl)
theorem zQY:jK (kB zR) Aa G0 76 (z6 (zBX (zBB [zJ]) (.tu [zMh,tI]) zEx)):=zZ2 (fn:=Tryz.f76) (c:=kW Tryz.f76) (S:=(((((zU.none (kB zR)).add 128 (qQ [zJ] (.p tI) x8)).add 36 (qQ [tU,tI] (.p zD) uE)).add 70 (qQ [zD,zD] (.p tI) xS)).addH)) (A:=zHJ) zQ2 (zP8 (vQ (vQ (vQ jE (by kernel_rfl) (zH9 (fun _=>rfl) (zM2 (by kernel_rfl)) (by kernel_rfl) zTM)) (by kernel_rfl) (zH9 (fun _=>rfl) (zM2 (by kernel_rfl)) (by kernel_rfl) zJk)) (by kernel_rfl) (zH9 (fun _=>rfl) (zM2 (by kernel_rfl)) (by kernel_rfl) zJl)) (by kernel_rfl) (by kernel_rfl)) (by kernel_rfl) (by kernel_rfl) (by rintro a ⟨e,⟨⟩⟩;kernel_rfl)
theorem zSn:jK U Aa G0 76 (z6 (qQ [zJ] (.tu [zLJ,tI]) zG4)):=zQk (fun _=>rfl) (by kernel_rfl) zQY
def zT5:Ent:=jJ zSn
theorem zME:OkX 77 [(.sl tI),tI] (.p .bool) zCm:=fX [] [jj 26 0x5555555555555540000000 [] [.t 43 .bool],jj 17 0x5555555555555555540500 [] [.t 5 tI],jj 32 0x5555555555555555540500 [] []]
def zOu:Ent:=jJ zME
theorem zTP:OkX 39 [zJ,(.sl tI)] (.tu [zI,tI]) zID:=fX [zOu,zT5] [jj 27 0 [(240,3,0)] []]
def zWj:Ent:=jJ zTP
theorem zTT:OkX 11 [zJ,(.sl tI)] (.tu [zI,.bool]) zIN:=fX [zWj,zT6] [jj 6 1431633920 [] [.t 15 .bool]]
def zWm:Ent:=jJ zTT
theorem zTV:OkX 152 [tI] (.p tI) zGD:=fX []
def zOw:Ent:=jJ zTV
theorem zVQ:OkX 151 [tI] (.p tU) zIm:=fX [zOw]
def zQt:Ent:=jJ zVQ
theorem zJm:OkX 91 [tU,tI] (.p zD) zBT:=fX [zOw,zQt]
theorem zLm:OkX 183 [(.sl zR),zR] (.p tI) yL:=fX [] [jj 9 91625948416 [] [.t 8 tI],jj 28 91625968896 [] []]
def zMT:Ent:=jJ zLm
theorem zII:OkX 130 [(.sl zR),zR] (.p .bool) uK:=fX [zMT]
def zJL:Ent:=jJ zII
theorem zSd:OkX 79 [zI,tI,tI] (.p tI) zAF:=fX [zJL] [jj 13 0x555554000d1000 [] [.t 17 tI],jj 32 0x555555540d1000 [] []]
def zHB:Ent:=jJ zSd
theorem zLl:OkX 86 [(.sl tI),tI] (.p tI) uT:=fX [] [jj 9 91625948416 [] [.t 8 tI],jj 28 91625968896 [] []]
def zGw:Ent:=jJ zLl
theorem zVN:OkX 129 [zI,tI,tI] (.p tI) zFZ:=fX [zGw,zHB]
def zYm:Ent:=jJ zVN
theorem zIH:OkX 49 [(.sl tI),tI] (.p .bool) v7:=fX [zGw]
def zD3:Ent:=jJ zIH
theorem zSc:OkX 78 [zI,tI,tI] (.p .bool) zGT:=fX [zD3,zYm,zHB] [jj 18 0x5555400001000 [] [.t 6 .bool]]
def zU5:Ent:=jJ zSc
theorem zPk:OkX 154 [tI] (.p .bool) zA6:=fX []
def zJr:Ent:=jJ zPk
theorem zGq:OkX 94 [tI,tI] (.p tI) qH:=fX [zJr]
def xX:Ent:=jJ zGq
theorem zLu:OkX 228 [tU] (.p .bool) zBR:=fX []
def zM0:Ent:=jJ zLu
theorem zJG:OkX 174 [tU,tU] (.p tI) kK:=fX [zM0]
def uZ:Ent:=jJ zJG
theorem zPl:OkX 218 [zD,tU] (.p .bool) zCf:=fX [zQt]
def zRc:Ent:=jJ zPl
theorem zQX:OkX 117 [zD,zD] (.p tI) zFX:=fX [xX,uZ]
def zS9:Ent:=jJ zQX
theorem zPi:OkX 180 [zP,zP] (.p .bool) zEw:=fX [] [jj 6 93824992236800 [] [.t 4 .bool]]
def zRb:Ent:=jJ zPi
theorem zQV:OkX 72 [zI,tI,tI] (.p tI) zBK:=fX [] [jj 21 0x5555555555555400011000 [] [.t 8 tI],jj 12 0x5555555555555400011000 [] [],jj 9 0x5555555555555555555000 [] [.t 7 tI],jj 36 0x5555555555555555555000 [] []]
def zGx:Ent:=jJ zQV
theorem zTQ:OkX 73 [zI,tI,tI] (.p tI) zIE:=fX [zGx] [jj 22 0x15555540000000000 [] [.t 32 .bool],jj 13 0x55555555554011000 [] [.t 8 tI],jj 28 0x55555555554011000 [] []]
def zWk:Ent:=jJ zTQ
theorem zXL:OkX 35 [zI,tI,tI] (.p .bool) zJ5:=fX [zWk,zGx] [jj 21 0x5555555000011000 [] [.t 8 tI],jj 36 0x5555555000011000 [] []]
def zS7:Ent:=jJ zXL
theorem zQU:OkX 121 [tI,tI,tI] (.p .bool) wY:=fX [] [jj 6 357912576 [] [.t 6 .bool]]
def zBz:Ent:=jJ zQU
theorem zSj:OkX 122 [zC,.bool,.bool,.bool] (.p .bool) zAH:=fX [] [jj 6 0x555555555555555550000 [] [.t 8 .bool]]
def zCd:Ent:=jJ zSj
theorem zTO:OkX 123 [(.sl zP),.bool] (.p .bool) yW:=fX [zRb] [jj 18 0x15555555555555555000000 [] [.t 44 .bool],jj 9 0x15555555555555555555500 [] [.t 5 tI],jj 24 0x15555555555555555555500 [] []]
def zDx:Ent:=jJ zTO
theorem zKg:OkX 124 [zC] (.p .bool) zG2:=fX [zDx,zCd,zBz] [jj 6 5864062014784 [] [.t 21 .bool],jj 18 0x155550000000000010 [] [.t 2 .bool],jj 30 0x15555000000000000000000010 [] [.t 2 .bool]]
def zLD:Ent:=jJ zKg
theorem zH3:OkX 125 [zC] (.p .bool) xT:=fX [zDx,zCd,zBz] [jj 6 93824992236864 [] [.t 23 .bool],jj 14 0x5555555000000000000 [] [.t 37 .bool],jj 26 0x155555555500000000000000000010 [] [.t 2 .bool],jj 30 0x5555400000000000000000000000000010 [] [.t 2 .bool]]
def zI0:Ent:=jJ zH3
theorem zIJ:OkX 126 [zC] (.p .bool) zFt:=fX [zDx,zCd,zBz] [jj 6 5864062014784 [] [.t 21 .bool],jj 22 0x15555555550000000000010 [] [.t 2 .bool],jj 38 0x5555400000000000000000000000010 [] [.t 2 .bool]]
def zJM:Ent:=jJ zIJ
theorem zMC:OkX 127 [zC] (.p .bool) zJh:=fX [zDx,zCd,zBz] [jj 6 93824992236864 [] [.t 23 .bool],jj 24 94575592174780416 [] [.t 26 .bool],jj 26 0x55555555555400000000000010 [] [.t 2 .bool],jj 36 0x1500000000000000000000000000 [] [.t 52 .bool],jj 38 0x155555555555555555554000000000000000000000000010 [] [.t 2 .bool]]
def zOs:Ent:=jJ zMC
theorem zSk:OkX 69 [zC] (.p .bool) zEC:=fX [zOs,zJM,zI0,zLD,zDx,zCd,zBz,zBP] [jj 6 366503875840 [] [.t 19 .bool],jj 17 0x55555550000000050 [] [.t 3 tI],jj 32 0x55555550000000050 [] [],jj 42 0x55555555555555555550000000000000000010 [] [.t 2 .bool]]
def zT2:Ent:=jJ zSk
theorem zSl:OkX 32 [(.sl zC),tI] (.p .bool) zG3:=fX [zS6,zT2] [jj 18 0x5555555555555555555000000 [] [.t 49 .bool],jj 9 0x5555555555555555555555500 [] [.t 5 tI],jj 24 0x5555555555555555555555500 [] []]
def zT3:Ent:=jJ zSl
theorem zKi:OkX 159 [zD,zD] (.p .bool) zCS:=fX [zRc] [jj 6 1431655680 [] [.t 4 .bool]]
def zT7:Ent:=jJ zKi
def zNg:Nat->Option JA:=fun k=>match k with|12=>Sa ⟨336,[],[.t 0 (.sl zP)]⟩|_=>Sc
theorem zFv:jK U Aa G0 113 (z6 (qQ [(.sl zP)] (.p (.sl zP)) uU)):=zSG (t:=zP) (bytes:=16) (zAQ (fn:=Ae) (c:=kW Ae) (S:=zU.none U) (A:=fun _=>Sc) jE (by kernel_rfl) (by kernel_rfl) (enc:=fun q=>[.tl zP (q.1::q.2)]) (fun _ _ h=>zKE h) (by rintro⟨⟩ ⟨y,r⟩;kernel_rfl)) (fun c=>zAQ (fn:=Ae) (c:=kW Ae) (S:=zU.none U) (A:=fun _=>Sc) jE (by kernel_rfl) (by kernel_rfl) (enc:=fun _=>[.val (.slice Sc 0 c)]) (fun _ _ h=>zCP h) (by rintro⟨⟩ _;kernel_rfl)) (fun a c=>zAQ (fn:=Ae) (c:=kW Ae) (S:=zU.none U) (A:=zNg) jE (by kernel_rfl) (by kernel_rfl) (enc:=fun _=>[.val (.slice (Sa a) 0 c)]) (fun _ _ h=>zCP h) (by rintro⟨⟩ _;kernel_rfl))
def zMV:Ent:=jJ zFv
def zNf:Nat->Option JA:=fun k=>match k with|12=>Sa ⟨336,[],[.t 0 (.sl tI)]⟩|_=>Sc
theorem zLn:jK U Aa G0 89 (z6 (qQ [(.sl tI)] (.p (.sl tI)) zBG)):=zSG (t:=tI) (bytes:=8) (zAQ (fn:=Af) (c:=kW Af) (S:=zU.none U) (A:=fun _=>Sc) jE (by kernel_rfl) (by kernel_rfl) (enc:=fun q=>[.tl tI (q.1::q.2)]) (fun _ _ h=>zKE h) (by rintro⟨⟩ ⟨y,r⟩;kernel_rfl)) (fun c=>zAQ (fn:=Af) (c:=kW Af) (S:=zU.none U) (A:=fun _=>Sc) jE (by kernel_rfl) (by kernel_rfl) (enc:=fun _=>[.val (.slice Sc 0 c)]) (fun _ _ h=>zCP h) (by rintro⟨⟩ _;kernel_rfl)) (fun a c=>zAQ (fn:=Af) (c:=kW Af) (S:=zU.none U) (A:=zNf) jE (by kernel_rfl) (by kernel_rfl) (enc:=fun _=>[.val (.slice (Sa a) 0 c)]) (fun _ _ h=>zCP h) (by rintro⟨⟩ _;kernel_rfl))
def zMU:Ent:=jJ zLn
theorem zNT:OkX 41 [zI,tI,tI] (.p (.sl zR)) zAn:=fX [zHB,zU5] [jj 30 0x55555000000000000000 [] [.t 39 .bool,.o 7 7 zR],jj 36 0x55555555000000000c4000 [] [.o 7 7 zR],jj 21 0x155555555500000000c4000 [] [.t 26 tI,.o 7 7 zR],jj 40 0x155555555555555400c4000 [] [.o 7 7 zR]]
def zPF:Ent:=jJ zNT
theorem zMD:OkX 71 [zI,tI,tI] (.p (.sl zR)) zCl:=fX [zGx,zS7] [jj 28 0x15555554000000000004000 [] [.o 7 7 zR],jj 25 0x15555555554000000044000 [] [.t 9 tI,.o 7 7 zR],jj 40 0x15555555554000000044000 [] [.o 7 7 zR]]
def zOt:Ent:=jJ zMD
theorem zXM:OkX 34 [zI,zR] (.p zZ) zGh:=fX []
def zS8:Ent:=jJ zXM
theorem zSm:OkX 33 [zI,tI,tI,tU] (.tu [zR,.bool]) zED:=fX [zS8,zOt] [jj 13 0x155555555500460000 [] [.t 11 tI,.v 8 [.p zR]],jj 28 0x155555555500460000 [] [.v 8 [.p zR]]]
def zT4:Ent:=jJ zSm
end
end Go.Ve
namespace Go.Ve
open Go Go.Proofs
section
variable {Γ:Sig}{P:Program}{G:Nat->Option (List V)}
def qEi{St:Type}(e:Env St)(fn:Func)(t:Ty):Option (List t.El):=match fn.results.toList with
 |[.tmp q]=>match e.get q with
  |.ot _ a c=>zD5 a t c
  |_=>Sc
 |_=>Sc
noncomputable def qHr(L:j9)(G:Nat->Option (List V))(S:zU Γ)(A:Nat->Option JA)(fn:Func)(c:Code)(t:Ty)(s:Γ.St)(xs:List t.El)(ds:List V):Option (List t.El):=
 zEP (zC5 fn.ntmps s t xs ds) (fun e=>exC L G S A c (List t.El) (fun k a _=>match k with
  |.exit _=>Sc
  |_=>qEi a fn t) e 0)
theorem qEC[p:Calm Γ][W:Subsingleton Γ.St]{S:zU Γ}{A:Nat->Option JA}(Y:P.follows .mixedOrders=Sb)(hS:qK Γ P G S.toS){f:FuncId}{fn:Func}{c:Code}(hf:P.funcs[f]?=Sa fn)(Q:fn.body=Sa c)
  {t:Ty} {X:Type} {dec:List V->Option X} {enc:X->List V} (Z:∀ds x,dec ds=Sa x->kX ds (enc x)) (a4:∀ds x,dec ds=Sa x->zCt ds=Sc) {g:List t.El->X->Option (List t.El)}
  (h:∀s xs x,qHr (Γ:=Γ) P G S A fn c t s xs (enc x)=g xs x):zGH Γ P G f t dec g:=by
 intro s xs r x ys hx hy;refine zAJ.of (a4 r x hx) ?_;intro w F O b v0 j ab hG hF I a5 M bs a6;have ad:=Z r x hx;have N:j.size=(enc x).length+1:=M.trans (by rw[ad.len])
 have ag:∀(i:Nat) (u:Value) (d:V),j[i+1]?=Sa u->(enc x)[i]?=Sa d->Rd w F u d:=by
  intro i u d hu hd;have hlt:i<r.length:=by grind
  exact ad.get i r[i] d (by simp[hlt]) hd w F u (a6 i u r[i] hu (by simp[hlt]))
 have E:=h s xs x;rw[hy]at E;unfold qHr at E;rw[yF]at E;obtain⟨k,e',d,a9,_,e⟩:=zIa (fun _ _ _=>.inl W) Y hS c _ _ _ _ _ E
 have hk:(k=.normal\/k=.ret)/\qEi e' fn t=Sa ys:=by
  cases k with
  |normal=>grind
  |ret=>grind
  |exit id=>cases e
 obtain⟨hk,e⟩:=hk;unfold qEi at e;split at e
 .rename_i q an;split at e
  .rename_i id J zs hg;obtain⟨bb,hz⟩:=yA (u4 e);subst bb;subst hz;refine calls_of_wp hf Q ?_
   have K:∃m,xs≠[]->v0=.slice (Sa ⟨b,0,Sc⟩) xs.length m/\xs.length<=m/\∃(c:Array Value) (et:TypeId) (fl:Nat×Nat),w.heap[b]?=Sa (.cells c et fl)/\c.size=m*J.size:=by
    rcases I with⟨y,_⟩|⟨y,_,m,z,c,et,h3,h4,h5,_⟩
    .simp_all
    grind
   obtain⟨m,K⟩:=K;let β:Lay:=⟨fun _=>0,fun _=>b⟩
   let al:v8->Prop:=fun q=>q=.o jX/\xs≠[];let O0:zAf:=⟨O,if xs=[]then Sc else Sa (b,m*J.size)⟩
   have b0:zX w F β al v0 (.ot jX J xs):=by
    rcases I with⟨y,z⟩|⟨y,_,z⟩
    .exact .inl ⟨y,z⟩
    .exact .inr ⟨y,⟨rfl,fun B=>y (by rw[B];rfl)⟩,z⟩
   have vC:∀q,zX w F β al ((j++Array.replicate (fn.ntmps-j.size) undef).getD q undef) ((zC5 fn.ntmps s J xs (enc x)).get q):=by
    intro q;simp[zC5,zJU,Env.get]
    cases q with
    |zero=>
     grind
    |succ q=>
     rw[bq];by_cases ht:q< (enc x).length
     .rw[aS (by simpa using ht),bf (by omega)];rw[aA,ah ht,aD (by omega)];exact ag q _ _ (by grind) (by simp[ht])
     .rw[aF (by grind),bt (by omega),N];simp only[aL];by_cases z:q- (enc x).length<fn.ntmps- ((enc x).length+1)
      .rw[ba,if_pos z,bN,if_pos (by omega)];exact Rd.val _
      .rw[ba,if_neg z];trivial
   have a2:∀s0,(zC5 fn.ntmps s J xs (enc x)).var s0=none:=by
    grind[zC5,Env.var]
   have hl:xs≠[]->O0.l=Sa (b,m*J.size):=fun B=>by simp[O0,B]
   have ao:Inv Γ G w F O0 { tmps:=j++Array.replicate (fn.ntmps-j.size) undef,defers:=[] } w (zC5 fn.ntmps s J xs (enc x)):=by
    refine Inv.of (F:=F) (O:=O) (β:=β) (al:=al) ⟨xI.refl _ w,ab,fun b Q=>.inl Q,fun b Q=>⟨.inl Q,hF b Q⟩,.refl _ _,?_,?_,?_⟩ hG ?_ rfl vC ?_ ?_
    .rintro q ⟨rfl,ap⟩;exact⟨.inr ⟨rfl,_,hl ap⟩,a5 ap⟩
    .grind
    .intro b' n b1
     grind
    all_goals grind[zC5,zJU]
   refine wp_mono (a9 w F O0 _ w ao) ?_;rintro ex a' w' ⟨rfl,av⟩;have H:a'.defers=[]:=by obtain⟨_,_,_,_,_,_,H,_⟩:=av;exact H
   obtain⟨F',O',β',a,b2,bo,_,be,b3⟩:=av;have hT:=be q;rw[hg]at hT;have C:(results fn a'.tmps).run P w'=.ok (a'.tmps.getD q undef) w':=by rw[zMv,cI,an];simp only[Sem.run_bind,Sem.run_map,Sem.run_pure];rfl
   have D:xI (fun c=>O c\/(xs≠[]/\c=b)) w w':=by
    refine⟨a.keep.os,a.keep.tape,a.keep.output,a.keep.size,fun c hc ho=>a.keep.block c hc ?_,a.keep.drawn⟩;rintro(B|⟨n,B⟩);all_goals grind
   have L:zCD w.heap.size w' F' O' b v0 J xs zs (a'.tmps.getD q undef) .bot:=by
    rcases hT with⟨y,z⟩|⟨y,bk,ax,z,ay⟩
    .have hz:zs=[]:=by simpa using y
     exact⟨b,.inl ⟨rfl,fun _=>hz⟩,.inl ⟨y,z⟩⟩
    .obtain⟨p1,p2,p3,p4⟩:=a.place _ bk;refine⟨β'.ob id,?_,.inr ⟨y,trivial,ax,z,ay⟩⟩;rcases p1 with⟨_,B⟩|⟨_,n,B⟩
     .exact .inr ⟨B,p2,p3,p4⟩
     .by_cases a0:xs=[]
      .grind
      .rw[hl a0]at B;simp at B;exact .inl ⟨B.1.symm,fun h=>absurd h a0⟩
   have a1:e'.st=s:=cX _ _;rcases hk with rfl|rfl
   .exact⟨H,_,C,_,F',O',rfl,by rw[<-a1];exact a.sig,D,a.oin,a.f0.no p.no,a.fin,L⟩
   .exact⟨H,_,C,_,F',O',rfl,by rw[<-a1];exact a.sig,D,a.oin,a.f0.no p.no,a.fin,L⟩
  .cases e
 .cases e
end
theorem zZ1{S:zU U}{A:Nat->Option JA}(d:qK U Aa G0 S.toS){f:FuncId}{fn:Func}{c:Code}(a:LF.fn f=Sa fn)(e:fn.body=Sa c)
  {t:Ty} {ts:List ATy} {g:List t.El->ElA ts->Option (List t.El)} (h:∀s xs x,qHr (Γ:=U) LF G0 S A fn c t s xs (zMS ts x)=g xs x):zGH U Aa G0 f t (uM ts) g:=by
 have i:LF=j9.of Aa:=j9.fast_eq Aa 388 349;rw[i]at a h;exact qEC mixed d a e (zAU ts) (zKF ts) h
end Go.Ve
namespace Go.Ve
open Go Go.Proofs
set_option maxRecDepth 1000000
variable {P:Program}
theorem qAD{w:World}{F:Blk->Prop}{b:Nat}{M v1:Value}{t:Ty}{xs A:List t.El}{ts:Array TypeId}{ty t0 t1 el el1:TypeId}{f:TypeInfo}{z:Value}
  (h0:ts[0]?=Sa t0) (h1:ts[1]?=Sa t1) (ag:P.underlying t0=Sa (.slice el)) (al:P.underlying t1=Sa (.slice el1)) (H:P.info? el=Sa f) (hz:f.zero=Sa z)
  (a6:t.size=f.size) (a9:1<=f.bytes) (cp:z.cells.size=f.size) (N:(2*(xs.length+A.length)+1024)*f.bytes<=0x800000000000)
  (S:zCg w F ⟨fun _=>b,fun _=>b⟩ (fun _=>True) M 0 t.size (xs.map t.enc)) (hb:xs≠[]->b<w.heap.size/\¬F b) (hF:∀c:Nat,F c->c<w.heap.size) (av:Rd w F v1 (.tl t A)):
  ∃u w',(Ac ts ty #[M,v1]).run P w=.ok u w'/\xI (fun c=>xs≠[]/\c=b) w w'/\
   ∃I,((I=b/\(xs=[]->A=[]))\/(w.heap.size<=I/\I<w'.heap.size))/\zCg w' F ⟨fun _=>I,fun _=>I⟩ (fun _=>True) u 0 t.size ((xs++A).map t.enc):=by
 have ax:∀q,q∈xs.map t.enc->q.cells.length=f.size:=by
  intro q hq;obtain⟨y,_,rfl⟩:=aQ.1 hq
  grind[w7]
 have O:∀q,q∈A.map t.enc->q.cells.length=f.size:=by
  intro q hq;obtain⟨y,_,rfl⟩:=aQ.1 hq
  grind[w7]
 have bb:∀q,q∈A.map t.enc->q.cells.all V.one=true:=by intro q hq;obtain⟨y,_,rfl⟩:=aQ.1 hq;rw[jN];exact zIi t y
 let β:Lay:=⟨fun _=>b,fun _=>b⟩
 have be:zX w F β (fun _=>True) v1 (.p (.sl (A.map t.enc))):=(zBV (x:=.p (.tl t A))).1 av;obtain⟨a1,C,cells,an,bk,G,J,bn⟩:=zIx (P:=P) (k:=f.size) be rfl O;have hs:wE P el=Sa f.size:=zBH H
 have ao:∀m,(Ad z.cells m).size=m*f.size:=by
  grind[Array.size_map,Array.size_range,Ad]
 rw[a6]at S ⊢
 have K:∀(a0:Option Addr) (g:Nat) (old:List Value),M=.slice a0 xs.length g->(∀w':World,w'.heap=w.heap->(Ab f.size xs.length M).run P w'=.ok old.toArray w')->old.length=xs.length*f.size->
   (∀(i j:Nat) (e d:V),(xs.map t.enc)[i]?=Sa e->e.cells[j]?=Sa d->∃x,old[i*f.size+j]?=Sa x/\Rd w F x d)->¬xs.length+A.length<=g->
   ∃u w',(Ac ts ty #[M,v1]).run P w=.ok u w'/\xI (fun c=>xs≠[]/\c=b) w w'/\
   ∃I,((I=b/\(xs=[]->A=[]))\/(w.heap.size<=I/\I<w'.heap.size))/\zCg w' F ⟨fun _=>I,fun _=>I⟩ (fun _=>True) u 0 f.size ((xs++A).map t.enc):=by
  intro a0 g old B L ap ay l;have cf:cells.length=A.length*f.size:=by simpa using G
  obtain⟨E,bo,r⟩:=run_append_grow (P:=P) (w:=w) (ts:=ts) (ty:=ty) (len:=xs.length) (cap:=g) (n:=A.length) (cap1:=C) (a0:=a0) (a1:=a1) (cells:=cells) (old:=old) h0 h1 ag al H hz
   (by have:=J w.drew rfl;grind) (by rw[<-B];exact L w.drew rfl) l a9 N
  rw[<-B,show(Value.slice a1 A.length C)=v1 by rw[an];simp]at r;generalize bs:(Obj.cells (old.toArray++(cells.toArray++Ad z.cells (E- (xs.length+A.length)))) el (0,0))=ob at r;have cq:(w.drew.alloc ob).heap=w.heap.push ob:=rfl;have hlt:∀c,c<w.heap.size->(w.drew.alloc ob).heap[c]?=w.heap[c]? :=fun c W=>by grind
  have ch:(w.drew.alloc ob).heap.size=w.heap.size+1:=by grind
  refine⟨_,_,r,⟨rfl,rfl,rfl,by omega,fun c W _=>hlt c W,cU _⟩,w.heap.size,.inr ⟨aj _,by omega⟩,.inr ⟨?_,trivial,E,by grind,?_⟩⟩
  .grind[List.length_map,List.length_append]
  .have a2:∀(v:Value) (d:V),Rd w F v d->Rd (w.drew.alloc ob) F v d:=fun v d h=>h.mono (fun _ Q=>Q) (fun c W=>hlt c (hF c W));rw[br];refine zJ2 ax O (by simpa using ap) (by simpa using G) (fun i j q y hi hj=>?_) (fun i j q y hi hj=>?_) (by simpa using bo) (by simpa using ao _) (by show(w.drew.alloc ob).heap[w.heap.size]?=_;rw[<-bs];exact zBq (w:=w.drew));all_goals grind
 rcases S with⟨he,a,B⟩|⟨b0,_,g,B,c,et,g2,g3,g4,g5,g6⟩
 .have D:xs=[]:=by simpa using he
  by_cases a3:A=[]
  .subst D;subst a3
   have b1:(Ac ts ty #[M,v1]).run P w=.ok M w:=by
    have hr:=J w rfl;have hl:cells=[]:=by simpa using G
    subst hl;rw[an]at hr ⊢;rw[B];simp only[Ac];simp[h0,h1,zQ ag,zQ al,zL hs,Builtin.lenOf]at hr ⊢;cases a<;>simp_all[storeCells,Ab]
   exact⟨M,w,b1,xI.refl _ _,b,.inl ⟨rfl,fun _=>rfl⟩,.inl ⟨rfl,a,B⟩⟩
  .subst D;have ck:0<A.length:=cO.2 a3;refine K a 0 [] B (fun w' _=>?_) (by simp) (fun i j e d h=>by simp at h) (by simp;omega);rw[B]
   cases a with
   |none=>simp[Ab]
   |some ad=>simp[Ab,loadCells,loadCellsFrom]
 .have D:xs≠[]:=by simpa using b0
  obtain⟨b2,b3⟩:=hb D;have a4:M=.slice (Sa ⟨b,0,Sc⟩) xs.length g:=by simpa using B
  by_cases l:xs.length+A.length<=g
  .have cl:xs.length*f.size+A.length*f.size<=c.size:=by rw[<-bK,g3];exact aq _ l
   have r:=run_append_room (P:=P) (w:=w) (ts:=ts) (ty:=ty) (b:=b) (off:=0) (len:=xs.length) (cap:=g) (n:=A.length) (cap1:=C) (a1:=a1) (cells:=cells) (c:=c) (et:=et) h0 h1 ag al hs
    (by grind) (by simpa using G) g2 (by omega) (zRh G O bb bn) l
   rw[<-a4,show(Value.slice a1 A.length C)=v1 by rw[an];simp]at r;simp at r;have Y:∀Z:Nat,Z≠b->(setBlk w b (.cells (j8 c (xs.length*f.size) cells) et (0,0))).heap[Z]?=w.heap[Z]? :=fun Z W=>qU W;refine⟨_,_,r,⟨rfl,rfl,rfl,by rw[zCG];omega,fun Z _ hn=>Y Z (fun Q=>hn ⟨D,Q⟩),aj _⟩,b,.inl ⟨rfl,fun Q=>absurd Q D⟩,.inr ⟨by simp[D],trivial,g,by simp,?_⟩⟩;have a2:∀(v:Value) (d:V),Rd w F v d->Rd (setBlk w b (.cells (j8 c (xs.length*f.size) cells) et (0,0))) F v d:=fun v d h=>h.mono (fun _ Q=>Q) (fun Z W=>Y Z (fun Q=>b3 (Q▸W)));rw[br];refine zRZ g3 g5 (fun i j q y x hi hj hx=>a2 _ _ (g6 i j q y x hi hj hx)) O G (fun i j q y hi hj=>?_) (by simpa using l) (by simpa using zA3 b2)
   grind
  .have b4:zX w F β (fun _=>True) M (.ow 0 f.size (xs.map t.enc)):=⟨trivial,g,B,c,et,g2,g3,g4,g5,g6⟩
   obtain⟨a0,ab,old,a5,b5,ap,L,ay⟩:=zIx (P:=P) (k:=f.size) b4 rfl ax;have cc:ab=g:=by grind
   subst cc;exact K a0 ab old (by simpa using a5) (fun w' hw=>by grind) (by simpa using ap) ay l
end Go.Ve

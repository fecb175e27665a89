/- law16 -/
import Derived.Test.YtgiopebfjmfmhaaGreatLp10
import Derived.Test.YtgiopebfjmfmhaaGreatLp4
set_option linter.unusedVariables false
open Option renaming some->Sa,none->Sd
open Bool renaming true->Sb,false->Sc
open Option renaming bind->Aa,map->Ao
open Go.IntKind renaming wrap->Ab,bits->Ag,u64->Ah,u32->Aj,signed->Ap
open Sum renaming inr->Ac,inl->Ae
open List renaming length->Ad,set->Am
open Int renaming toNat->Af,fdiv->Ai
open BitVec renaming ofInt->Ak,toNat->An
open Nat renaming beq->Al
set_option maxRecDepth 1000000
set_option maxHeartbeats 4000000
namespace Go.Ve
open Go
theorem zEk:∀(t:Ty) (x:t.El) (r:List V),t.uncells (t.cells x++r)=Sa (x,r)
 |.int k,x,r=>by simp[Ty.cells,Ty.uncells,zFo]
 |.bool,x,r=>by simp[Ty.cells,Ty.uncells,zCU]
 |.str,x,r=>by simp[Ty.cells,Ty.uncells,zFn]
 |.unit,x,r=>by simp[Ty.cells,Ty.uncells]
 |.rf,x,r=>by simp[Ty.cells,Ty.uncells,zLQ]
 |.hd,x,r=>by simp[Ty.cells,Ty.uncells,zLS]
 |.pt t,x,r=>by simp[Ty.cells,Ty.uncells,zLR]
 |.sl t,x,r=>by simp[Ty.cells,Ty.uncells,zLP]
 |.pair a b,x,r=>by simp[Ty.cells,Ty.uncells];rw[zEk a x.1];simp only;rw[zEk b x.2]
theorem zVK(t:Ty)(x:t.El):t.dec (t.enc x)=Sa x:=by
 cases t with
 |int k=>simp[Ty.enc,Ty.dec,zFo]
 |bool=>simp[Ty.enc,Ty.dec,zCU]
 |str=>simp[Ty.enc,Ty.dec,zFn]
 |unit=>rfl
 |rf=>simp[Ty.enc,Ty.dec,zLQ]
 |hd=>simp[Ty.enc,Ty.dec,zLS]
 |pt t=>simp[Ty.enc,Ty.dec,zLR]
 |sl t=>simp[Ty.enc,Ty.dec,zLP]
 |pair a b=>
  have:=zEk (.pair a b) x []
  grind[Ty.enc,Ty.dec,Ty.cells]
theorem zBu:∀(ts:List Ty) (x:ElS ts),zBv ts (yF ts x)=Sa x
 |[],_=>rfl
 |t::ts,x=>by simp[yF,zBv,zVK,zBu ts]
@[reducible] def zJs(tE:Ty):List Ty->List Ty
 |[]=>[]
 |t::r=>x4 tE t::zJs tE r
def zQ9{tE:Ty}(st:HSt tE):(ts:List Ty)->ElS ts->Option (ElS (zJs tE ts))
 |[],_=>Sa ()
 |t::r,x=>match zBP st t x.1,zQ9 st r x.2 with
  |some y,Sa z=>Sa (y,z)
  |_,_=>Sd
@[reducible] def zWf(tE:Ty):RTy->RTy
 |.p a=>.p (x4 tE a)
 |.o a=>.o (x4 tE a)
 |.tu c=>.tu (zJs tE c)
def qCF{tE:Ty}(st:HSt tE):(R:RTy)->R.El->Option (zWf tE R).El
 |.p a,x=>zBP st a x
 |.o a,d=>zCn (zBP st a) d
 |.tu c,x=>zQ9 st c x
section
variable {tE:Ty}{st:HSt tE}{F F':Blk->Prop}{O:Nat->Prop}{w:World}{hb hc:Nat->Nat}
theorem zWe(h:qAd tE st F O w hb hc)(f:∀b:Nat,F b->F' b)(g:∀b,O b->F' (.b b)):∀(ts:List Ty) (x:ElS ts) (y:ElS (zJs tE ts)),zQ9 st ts x=Sa y->
  (yF ts x).length=(yF (zJs tE ts) y).length/\∀(i:Nat) (v:Value) (d c:V),(yF ts x)[i]?=Sa d->(yF (zJs tE ts) y)[i]?=Sa c->Rd w F v d->Rd w F' v c
 |[],_,_,_=>⟨rfl,fun i v d c j=>by simp[yF]at j⟩
 |t::ts,x,y,a=>by
  simp only[zQ9]at a;split at a
  .rename_i k e m l;obtain rfl:(k,e)=y:=aX a;obtain⟨n,p⟩:=zWe h f g ts x.2 e l
   grind[List.length_cons,List.getElem?_cons_zero,Option.some.injEq,qAj,yF]
  .cases a
theorem qCD(h:qAd tE st F O w hb hc)(z:∀b:Nat,F b->F' b)(A:∀b,O b->F' (.b b)){t:Ty}{xs:List t.El}{q:List (x4 tE t).El}(n:zCn (zBP st t) xs=Sa q){b k cap:Nat}
  (B:qP w F b k cap (xs.map t.enc)):qP w F' b k cap (q.map (x4 tE t).enc):=by
 obtain⟨r,vA⟩:=zB4 n;obtain⟨c,C,D,E,K,G,H⟩:=B;refine⟨c,C,D,E,by grind,?_,?_⟩
 .intro e u;simp at u;obtain⟨l,a,rfl⟩:=u;rw[wZ,zCu];obtain⟨j,m⟩:=bQ a;obtain⟨f,d,_⟩:=vA j l m;have:=G (t.enc f) (List.mem_map_of_mem (ae d))
  grind[wZ]
 .intro i j e I x y m J;simp at y;obtain⟨l,a,rfl⟩:=y;obtain⟨f,d,g⟩:=vA i l a;rw[jM]at m
  have p:j< (t.cells f).length:=by
   grind[List.getElem?_eq_some_iff,kQ,zCu]
  exact zOs h z A t f l g j _ (t.cells f)[j] I (by simp[p]) m (H i j (t.enc f) _ x (by simp[d]) (by grind[jM]) J)
theorem qCE(h:qAd tE st F O w hb hc)(g:∀b:Nat,F b->F' b)(i:∀b,O b->F' (.b b))(j:∀b:Nat,F' b->F b\/O b){N:Nat}{R:RTy}{x:R.El}{y:(zWf tE R).El}(a:qCF st R x=Sa y){v:Value}
  (d:zAM N w F O v (R.res x)):zAM N w F' (fun _=>False) v ((zWf tE R).res y):=by
 cases R with
 |p l=>exact qAj h g i l x y a d
 |o l=>
  have a:zCn (zBP st l) x=Sa y:=a;obtain⟨e,_⟩:=zB4 a;rcases d with⟨r,t⟩|⟨r,b,m,H,u,z,A,B,k,C⟩
  .have n:x=[]:=by simpa using r
   subst n;have q:y=[]:=aJ e.symm;subst q;exact .inl ⟨rfl,t⟩
  .refine .inr ⟨?_,b,m,by grind,u,z,fun f=>(j b f).elim A B,fun f=>f,k,qCD h g i a C⟩;intro f;simp_all
 |tu c=>
  have d:Rd w F v (.tup (yF c x)):=d;obtain⟨D,I⟩:=zWe h g i c x y a
  cases d with
  |tup E _ G f=>
   refine Rd.tup E (yF (zJs tE c) y) (G.trans D) ?_
   grind
end
def zRb{tE:Ty}{X:Type}(R:RTy)(g:HSt tE->X->Option (HSt tE×R.El))(x:X):Option (zWf tE R).El:=
 match g [] x with
 |some (st,y)=>qCF st R y
 |none=>Sd
variable {i:Program}
theorem zPM{tE:Ty}{G:Nat->Option (List V)}(W:∀g,G g=Sd){f:FuncId}{ts:List Ty}(E:ts.all Ty.norf=Sb){R:RTy}{g:HSt tE->ElS ts->Option (HSt tE×R.El)}(h:jJ (v8 tE) i G f (z7 (zBQ (zBv ts) R g))):jJ jT i G f (z7 (qQ ts (zWf tE R) (zRb R g))):=by
 intro w F O s q t s' r z hG Y A H k;simp[z7,qQ,vR]at k
 cases K:zBv ts t with
 |none=>grind
 |some x=>
  rw[K]at k;simp at k;obtain⟨y,D,rfl,rfl⟩:=k;unfold zRb at D;split at D
  .rename_i st Z L;have B:=kH ts t x K;let I:Blk->Prop:=zIY F;have J:(v8 tE).R [] I (fun _=>False) w:=⟨fun _=>0,fun _=>0,fun id M j=>by simp at j,fun id _ a n c j=>j,fun id M j=>by simp at j,fun id ab M ad j=>by simp at j,fun b j=>j.elim,zHK F⟩
   have m:=h w I (fun _=>False) [] q (yF ts x) st (R.res Z) J (fun g cs L=>by grind) (fun b hb=>⟨(Y b hb).1,fun j=>j⟩) (A.trans B.len) (by
    intro P u d hu N;have hlt:P<t.length:=by grind
    have:=B.get P t[P] d (by simp[hlt]) N w F u (H P u t[P] hu (by simp[hlt]))
    exact zH1 (F:=F) (F':=I) (fun b hb=>hb) ts x E P u d N this) (by simp[z7,zBQ,zBu];rw[L];rfl)
   refine m.mono ?_;rintro e w' ⟨v,F',Q,rfl,⟨hb,hc,S⟩,p,g3,g4,g5,g6⟩
   let C:Blk->Prop:=zQu F fun b=>match b with
    |.b n=>F' (.b n)\/Q n
    |_=>False
   refine⟨v,C,fun _=>False,rfl,⟨fun _ j=>j,z.2.of (zB3 _ _)⟩,⟨p.os,p.tape,p.output,p.size,fun b hb _=>p.block b hb (fun j=>j),p.drawn⟩,fun b j=>j.elim,?_,?_,?_⟩
   .refine .of_reg (fun b l=>?_) (zB3 _ _)
    cases b with
    |b n=>exact .inl (g4.1 (.b n) l)
    |_=>exact l
   .intro b l;rcases l with l|l
    .obtain⟨k1,k2,_⟩:=g5 b l;exact⟨k1,k2,fun j=>j⟩
    .refine⟨.inr ((g3 b l).elim (fun j=>j.elim) (fun j=>j)),(v8 tE).inb (⟨hb,hc,S⟩:(v8 tE).R st F' Q w') b l,fun j=>j⟩
   .exact qCE (F':=C) S (fun b j=>.inl j) (fun b j=>.inr j) (fun b j=>j) D g6
  .cases D
def qC2{St:Type}(S:St->List V->Option (St×RV))(ts:List Ty)(R:RTy)(s:St)(x:ElS ts):Option (St×R.El):=
 match S s (yF ts x)with
 |some (a,r)=>match R.get r with
  |some y=>Sa (a,y)
  |none=>Sd
 |none=>Sd
variable {g:FuncId}{C:Nat->Option (List V)}
theorem zUc{Γ:Sig}[c:Calm Γ]{S:Γ.St->List V->Option (Γ.St×RV)}(h:jJ Γ i C g S)(ts:List Ty)(R:RTy):
  jJ Γ i C g (z7 (zBQ (zBv ts) R (qC2 S ts R))):=by
 intro w F O s k l s' r m D E n q a;simp[z7,zBQ]at a
 cases A:zBv ts l with
 |none=>grind
 |some x=>
  rw[A]at a;simp only[ak,aI]at a;obtain⟨⟨s1,y⟩,f,rfl,rfl⟩:=a;unfold qC2 at f;split at f
  .rename_i H I J;split at f
   .rename_i y0 t;simp at f;obtain⟨rfl,rfl⟩:=f;have p:=kH ts l x A
    have j:=h w F O s k (yF ts x) H I m D E (n.trans p.len) (by
     intro P u d K L;have hlt:P<l.length:=by grind
     exact p.get P l[P] d (by simp[hlt]) L w F u (q P u l[P] K (by simp[hlt]))) J
    refine j.mono ?_;rintro e w' ⟨v,F',M,rfl,N,Q,W,Y,g5,Z⟩;obtain⟨z,B,G,k2,k3⟩:=RTy.get_sound t Z;refine⟨v,z,M,rfl,Γ.mono N G (fun _ _=>rfl) (fun _ _ h=>⟨B _ h,rfl⟩),Q,W,(Y.to (fun h=>c.no h.1)).trans (.of_reg B G) (ai _),?_,k3⟩
    grind
   .cases f
  .cases f
theorem zXt{Γ:Sig}{S c:Γ.St->List V->Option (Γ.St×RV)}(h:jJ Γ i C g S)(d:∀s ds r,c s ds=Sa r->S s ds=Sa r):jJ Γ i C g c:=
 fun w F O s a ds e r G P j k l m=>h w F O s a ds e r G P j k l (d _ _ _ m)
abbrev zJv:Ty:=.st [tI,zD,tI]
abbrev tB8:Ty:=.st [.bool,.bool,.bool,.bool,.bool,.bool,.bool,.bool]
abbrev tI8:Ty:=.st [tI,tI,tI,tI,tI,tI,tI,tI]
abbrev qG6:Ty:=.st [tI8,tI8,tI8,tI8,tI8,tI8,tI8,tI8]
abbrev qN:Ty:=.st [tI,.sl zJv,.sl qD,tB8,qG6]
abbrev qL:Ty:=.st [zF,tI,.sl (.pt qN)]
abbrev zL:Ty:=.st [zD,tI]
abbrev wA:Ty:=.st [tI,.sl zQ]
def stF(F:Blk->Prop):Blk->Prop
 |.b n=>F (.s n)
 |x=>F x
abbrev zSQ:=Int->List qD.El->Int->Option (List (List zQ.El))
structure zIa(H:zSQ)(F:Blk->Prop)(O:Nat->Prop)(w:World):Prop where
 own:∀b,O b->b<w.heap.size
 sb:∀n:Nat,F (.s n)->F n
 ld:∀id b cs,F (.k id b cs)->(O b\/F (.s b))/\∃(c:Array Value) (et:TypeId),w.heap[b]?=Sa (.cells c et (0,0))/\∀(m:Nat) (d:V),cs[m]?=Sa d->∃x,c[m]?=Sa x/\Rd w (stF F) x d
 eqk:∀id id' b b' cs cs',F (.k id b cs)->F (.k id' b' cs')->(b=b'↔id=id')
 kl:∀id b (x:qN.El),F (.k id b (qN.cells x))->∀id' cs,F (.k id' b cs)->cs.length<=75
 memo:∀id b (x:qN.El),F (.k id b (qN.cells x))->O b/\∃(c:Array Value) (et:TypeId),w.heap[b]?=Sa (.cells c et (0,0))/\
  ∀r:Nat,r<8->∃u,c[75+r]?=Sa u/\(u=.slice Sd 0 0\/∃hs,H ((id%16:Nat):Int) x.2.2.1 (r:Int)=Sa hs/\Rd w (stF F) u (.tl (.sl zQ) hs))
variable {l:Blk->Prop}{j:World}
theorem zWs{F':Blk->Prop}{w':World}(e:∀x:Blk,x.isB=Sc->(F' x↔l x))(i:∀n:Nat,l (.s n)->w'.heap[n]?=j.heap[n]?){v:Value}{d:V}(h:Rd j (stF l) v d):Rd w' (stF F') v d:=by
 refine h.mono (fun x g=>?_) (fun n w=>i n w)
 cases x with
 |b n=>exact(e (.s n) rfl).2 g
 |h id a n c=>exact(e _ rfl).2 g
 |k id b F=>exact(e _ rfl).2 g
 |s n=>exact(e _ rfl).2 g
theorem qCQ(a:∀n:Nat,l (.s n)->l n){v:Value}{d:V}(h:Rd j (stF l) v d):Rd j l v d:=by
 refine h.mono (fun x c=>?_) (fun n e=>rfl)
 cases x with
 |b n=>exact a n c
 |_=>exact c
theorem zIa.mono{H:zSQ}{F':Blk->Prop}{O:Nat->Prop}{w':World}(h:zIa H l O j)(g:∀x:Blk,x.isB=Sc->(F' x↔l x))(hO:∀b,O b->w'.heap[b]?=j.heap[b]?)(y:∀n:Nat,l (.s n)->l n->F' n/\w'.heap[n]?=j.heap[n]?):zIa H F' O w':=by
 have p:∀n:Nat,l (.s n)->w'.heap[n]?=j.heap[n]? :=fun n i=>(y n i (h.sb n i)).2;have hb:∀id b e,l (.k id b e)->w'.heap[b]?=j.heap[b]? :=fun id b e a=>(h.ld id b e a).1.elim (hO b) (p b);refine⟨fun b hb=>?_,fun n i=>(y n ((g _ rfl).1 i) (h.sb n ((g _ rfl).1 i))).1,fun id b e a=>?_,fun id w b z e q t F=>h.eqk id w b z e q ((g _ rfl).1 t) ((g _ rfl).1 F),fun id b x a w e F=>h.kl id b x ((g _ rfl).1 a) w e ((g _ rfl).1 F),fun id b x a=>?_⟩
 .have hlt:=h.own b hb
  grind
 .have a:=(g _ rfl).1 a;obtain⟨t,c,u,F,A⟩:=h.ld id b e a;refine⟨t.elim .inl (fun i=>.inr ((g _ rfl).2 i)),c,u,(hb id b e a).trans F,fun m d hd=>?_⟩
  grind[zWs]
 .have a:=(g _ rfl).1 a;obtain⟨B,c,u,F,A⟩:=h.memo id b x a;refine⟨B,c,u,(hb id b _ a).trans F,fun r hr=>?_⟩
  grind[zWs]
def zRE(H:zSQ):Sig where
 St:=Unit
 R:=fun _ F O w=>zIa H F O w
 mono:=fun h a j e=>zIa.mono h a j e
 inb:=fun h b k=>h.own b k
 ld:=fun h a=>by obtain⟨_,c,l,g,n⟩:=h.ld _ _ _ a;exact⟨c,l,g,fun m d p=>(n m d p).elim fun x i=>⟨x,i.1,qCQ h.sb i.2⟩⟩
 eqk:=fun h q g=>h.eqk _ _ _ _ _ _ q g
 sb:=fun h e=>h.sb _ e
instance (H:zSQ):Calm (zRE H):=⟨fun h=>h⟩
instance (H:zSQ):Subsingleton (zRE H).St:=inferInstanceAs (Subsingleton Unit)
def ptB(H:zSQ):Sig where
 St:=Bool
 wk:=True
 R:=fun s F O w=>match s with
  |true=>zIa H F O w
  |false=>(∀b,¬O b)/\NoK F
 mono:=fun {s} _ _ _ _ _ h a g c=>match s,h with
  |true,h=>zIa.mono h a g c
  |false,h=>⟨h.1,h.2.of a⟩
 inb:=fun {s} _ _ _ h b d=>match s,h with
  |true,h=>zIa.own h b d
  |false,h=>absurd d (h.1 b)
 ld:=fun {s} _ _ _ _ _ _ h a=>match s,h with
  |true,h=>(zRE H).ld (s:=()) h a
  |false,h=>absurd a (h.2.1 _ _ _)
 eqk:=fun {s} _ _ _ _ _ _ _ _ _ h e i=>match s,h with
  |true,h=>(zRE H).eqk (s:=()) h e i
  |false,h=>absurd e (h.2.1 _ _ _)
 sb:=fun {s} _ _ _ _ h c=>match s,h with
  |true,h=>zIa.sb h _ c
  |false,h=>absurd c (h.2.2 _)
section
variable {H:zSQ}{P:Program}{G:Nat->Option (List V)}{f:FuncId}
def zRa{X:Type}{ρ:Type}(g:Bool->X->Option (Bool×ρ))(x:X):Option ρ:=(g Sc x).map Prod.snd
theorem zOU(J:∀g,G g=Sd){X:Type}{dec:List V->Option X}(K:qAe dec){R:RTy}(L:R.norf=Sb){g:Bool->X->Option (Bool×R.El)}
  (h:zLF (ptB H) P G f (z7 (zBQ dec R g))):jJ jT P G f (z7 (vR dec R (zRa g))):=by
 intro w F O s p D s' r q hG M t N a;simp[z7,vR]at a
 cases E:dec D with
 |none=>grind
 |some x=>
  rw[E]at a;simp only[zRa,Option.map_map,ak,Function.comp,aI]at a;obtain⟨⟨Q,y⟩,S,rfl,rfl⟩:=a;obtain⟨z,A,B,I⟩:=K D x E
  have k:=h w (zIY F) (fun _=>False) Sc p z Q (R.res y) ⟨fun _ h=>h,zHK F⟩ (fun g cs hg=>by grind) (fun b c=>⟨(M b c).1,fun h=>h⟩) (t.trans B.symm)
   (fun i v d hi W=>by
    grind[List.getElem?_eq_some_iff,zIY]) (by simp[z7,zBQ,A,S];rfl)
  refine k.mono ?_;rintro e w' ⟨v,C,O',rfl,g1,m,g3,Y,Z,g6⟩;let u:Blk->Prop:=zQu F C;refine⟨v,u,fun _=>False,rfl,⟨fun _ l=>l,q.2.of (zB3 _ _)⟩,⟨m.os,m.tape,m.output,m.size,fun b c _=>m.block b c (fun l=>l),m.drawn⟩,fun b l=>l.elim,.of_reg (fun b j=>?_) (zB3 _ _),fun b j=>?_,?_⟩
  .cases b with
   |b n=>exact Y.1 (.b n) j
   |_=>exact j
  .obtain⟨k1,k2,_⟩:=Z b j;exact⟨k1,k2,fun l=>l⟩
  .exact zWU (F:=C) (F':=u) (fun b c=>c) (fun b _ c=>c) (fun b _ c=>c.elim) L g6
end
theorem zMC{ts:List Ty}(g:ts.all Ty.norf=Sb):qAe (zBv ts):=by intro h x j;have a:=kH ts h x j;refine⟨yF ts x,zBu ts x,a.len.symm,fun w F n k i v d e l c m=>?_⟩;exact zH1 k ts x g i v e c (a.get i d e l c w F v m)
def ATy.norf:ATy->Bool
 |.d ty=>ty.norf
 |.pp ty=>ty.norf
 |.clo _ a=>a.all fun c=>c.2.norf
theorem qAA{w:World}{F F':Blk->Prop}(e:∀b:Nat,F b->F' b){t:Ty}(i:t.norf=Sb){x:t.El}{v:Value}(h:Rd w F v (.pp (t.cells x))):Rd w F' v (.pp (t.cells x)):=by
 generalize p:t.cells x=j at h
 cases h with
 |pp b a _ g c k l=>exact .pp b a j g (e b c) k (fun m d n=>zFq e t i x _ d (by grind) (l m d n))
theorem zPU{w:World}{F F':Blk->Prop}(g:∀b:Nat,F b->F' b):∀(l:List (Bool×Ty)) (x:qAh l),(l.all fun c=>c.2.norf)=Sb->∀(i:Nat) (v:Value) (d:V),(zHk l x)[i]?=Sa d->Rd w F v d->Rd w F' v d
 |[],_,_,i,v,d,a,_=>by simp[zHk]at a
 |(b,t)::r,x,e,i,v,d,a,h=>by
  simp only[cU,am]at e
  cases i with
  |zero=>
   simp[zHk]at a
   grind[qAA,zA6]
  |succ i=>exact zPU g r x.2 e.2 i v d (by simpa[zHk]using a) h
theorem zUp{w:World}{F F':Blk->Prop}(g:∀b:Nat,F b->F' b):∀(ts:List ATy) (x:ElA ts),ts.all ATy.norf=Sb->∀(i:Nat) (v:Value) (d:V),(zMr ts x)[i]?=Sa d->Rd w F v d->Rd w F' v d
 |[],_,_,i,v,d,a,_=>by simp[zMr]at a
 |t::ts,x,c,i,v,d,a,h=>by
  simp only[cU,am]at c
  cases i with
  |zero=>
   cases a
   cases t with
   |d k=>exact zA6 g c.1 h
   |pp k=>exact qAA g c.1 h
   |clo f e=>
    simp only[ATy.enc]at h ⊢
    cases h with
    |clo _ l _ m n=>exact .clo f l _ m (fun j u d p a=>zPU g e x.1 c.1 j u d a (n j u d p a))
  |succ i=>exact zUp g ts x.2 c.2 i v d (by grind[zMr]) h
def Wp{α:Type}(m:Option α)(Q:α->Prop):Prop:= ∃r,m=Sa r/\Q r
section
variable {α β ρ σ:Type}
variable {i:Option α}{l:α->Prop}
theorem Wp.mono{Q:α->Prop}(h:Wp i Q)(hq:∀r,Q r->l r):Wp i l:=by obtain⟨r,c,d⟩:=h;exact⟨r,c,hq r d⟩
theorem zA{x:α}(h:l x):Wp (Sa x) l:=⟨x,rfl,h⟩
variable {I:α->Option β}{C:β->Prop}
theorem zB(h:Wp i (fun y=>Wp (I y) C)):Wp (Aa i I) C:=by obtain⟨y,rfl,h⟩:=h;exact h
theorem zBZ(h:Wp i (fun _=>True))(k:∀y,i=Sa y->Wp (I y) C):Wp (Aa i I) C:=by obtain⟨y,rfl,_⟩:=h;exact k y rfl
theorem zH{c:Bool}{y:Option α}(a:c=Sb->Wp i l)(d:c=Sc->Wp y l):Wp (bif c then i else y) l:=by
 grind
theorem zIb{f:α->β}(h:Wp i (fun y=>C (f y))):Wp (Ao f i) C:=by obtain⟨y,rfl,h⟩:=h;exact⟨_,rfl,h⟩
def vH(P:σ->Prop)(Q:ρ->Prop):σ ⊕ ρ->Prop
 |.inl s=>P s
 |.inr r=>Q r
variable {g:ρ->Prop}
theorem e2l{P:σ->Prop}{s:σ}(h:P s):vH P g (.inl s):=h
theorem e2r{P:σ->Prop}{r:ρ}(h:g r):vH P g (.inr r):=h
theorem wU{m:Option (σ ⊕ ρ)}{K:σ->Option ρ}(h:Wp m (vH (fun s=>Wp (K s) g) g)):Wp (wL m K) g:=by
 obtain⟨o,rfl,h⟩:=h
 cases o with
 |inl s=>exact h
 |inr r=>exact⟨r,rfl,h⟩
theorem kY{f:σ->Option (σ ⊕ ρ)}(J:σ->Prop)(m:σ->Nat){c:σ}(e:J c)(step:∀s,J s->Wp (f s) (vH (fun a=>J a/\m a<m s) g)):Wp (zR f c) g:=by
 refine qBD J m g ?_ e;intro s Q;obtain⟨o,h,d⟩:=step s Q;refine⟨o,h,?_⟩
 cases o with
 |inl a=>exact d
 |inr r=>exact d
variable {j:Int}
theorem zAz{d:Int}{a c:Int->Option (Int ⊕ ρ)}(step:∀s,d<=s->s<j->Wp (a s) (vH (fun e=>e=s+1) g))(h:∀s,d<=s->j<=s->Wp (c s) (vH (fun _=>False) g)):Wp (zR (fun s=>bif decide (s<j)then a s else c s) d) g:=by
 refine kY (fun s=>d<=s) (fun s=>(j-s).toNat) (cX _) ?_;intro s i;refine zH ?_ ?_
 .intro f;have f:s<j:=by simpa using f
  refine(step s i f).mono ?_;intro o n
  cases o with
  |inl e=>have:e=s+1:=n;subst this;exact⟨by omega,by omega⟩
  |inr r=>exact n
 grind
theorem qEP{γ:Type}{c:Int}{f:γ}{a d:Int×γ->Option ((Int×γ) ⊕ ρ)}(J:Int->γ->Prop)(k:J c f)(step:∀s Q,c<=s->s<j->J s Q->Wp (a (s,Q)) (vH (fun o=>o.1=s+1/\J (s+1) o.2) g))(l:∀s Q,c<=s->j<=s->J s Q->Wp (d (s,Q)) (vH (fun _=>False) g)):Wp (zR (fun o=>bif decide (o.1<j)then a o else d o) (c,f)) g:=by
 refine kY (fun o=>c<=o.1/\J o.1 o.2) (fun o=>(j-o.1).toNat) ⟨cX _,k⟩ ?_;rintro⟨s,Q⟩ ⟨m,p⟩;refine zH ?_ ?_
 .intro e;have e:s<j:=by simpa using e
  refine(step s Q m e p).mono ?_;intro o h
  cases o with
  |inl q=>obtain⟨t,u⟩:=q;obtain⟨i,n⟩:=h;simp only at i n;subst i;exact⟨⟨by omega,n⟩,by simp only;omega⟩
  |inr r=>exact h
 grind
theorem zAa{xs:List α}(c:0<=j)(d:j<xs.length)(h:∀y,y∈xs->xs[j.toNat]?=Sa y->l y):Wp (idx xs j) l:=by
 unfold idx;rw[if_pos c];have a:j.toNat<xs.length:=by omega
 exact⟨xs[j.toNat],by simp[a],h _ (aZ a) (by simp[a])⟩
theorem qA4{s:ByteArray}{Q:Int->Prop}(a:0<=j)(d:j<s.size)(h:∀y,0<=y->y<256->Q y):Wp (zPl s j) Q:=by
 unfold zPl;rw[if_pos a];have c:j.toNat<s.size:=by omega
 refine⟨(s[j.toNat].toNat:Int),by simp[c],h _ (by omega) ?_⟩;have:=s[j.toNat].toNat_lt;omega
theorem zAb{bytes:Nat}{xs a:List α}{Q:List α->Prop}(c:(2*(xs.length+a.length)+1024)*bytes<=0x800000000000)(h:Q (xs++a)):Wp (app bytes xs a) Q:=by unfold app;rw[if_pos c];exact⟨_,rfl,h⟩
end
theorem zJ{x:Int}(d: -0x8000000000000000<=x)(e:x<0x8000000000000000):Ab .i64 x=x:=by
 have a:((2:Int)^Ag .i64)=0x10000000000000000:=by decide
 have c:((2:Int)^(Ag .i64-1))=0x8000000000000000:=by decide
 simp only[Ab,Ap,bR,decide_eq_true_eq,a,c];split<;>omega
theorem zMR{x:Int}(c:0<=x)(d:x<0x10000000000000000):Ab .u64 x=x:=by
 have a:((2:Int)^Ag .u64)=0x10000000000000000:=by decide
 simp[Ab,Ap,a];omega
variable {g:Type}{i:Option g}{j:g->Prop}
theorem zP{p:Prop}[Decidable p]{y:Option g}(a:p->Wp i j)(c:¬p->Wp y j):Wp (bif decide p then i else y) j:=by
 grind
theorem x6{p:Prop}[Decidable p]{y:Option g}(a:¬p->Wp i j)(c:p->Wp y j):Wp (bif !decide p then i else y) j:=by
 grind
theorem zO{xs:List g}{i:Nat}{x:g}(h:xs[i]?=Sa x):idx xs (i:Int)=Sa x:=by simp_all[idx]
theorem qFE{xs:List g}{i:Int}{x:g}(a:0<=i)(h:xs[i.toNat]?=Sa x):idx xs i=Sa x:=by rw[idx,if_pos a];exact h
theorem zM{x:g}(h:i=Sa x)(a:j x):Wp i j:=⟨x,h,a⟩
section
variable {α γ ρ:Type}
variable {g:Int×γ->Option γ}
theorem kZ{xs:List α}{c:γ}{Q:γ->Prop}(k:xs.length<0x4000000000000000)(J:Nat->γ->Prop)(e:J 0 c)(step:∀i x a,xs[i]?=Sa x->J i a->Wp (g ((i:Int),a)) (J (i+1)))(f:∀a,J xs.length a->Q a):
  Wp (zR (fun s:Int×γ=>bif decide (s.1< (xs.length:Int))then Aa (g s) (fun a=>Sa (Ae (Ab .i64 (s.1+(1:Int)),a)))else Sa (Ac s.2)) ((0:Int),c)) Q:=by
 refine kY (fun(s:Int×γ)=>∃i:Nat,s.1=(i:Int)/\i<=xs.length/\J i s.2) (fun(s:Int×γ)=>((xs.length:Int) -s.1).toNat) ⟨(0:Nat),rfl,aW _,e⟩ ?_;rintro⟨s,a⟩ ⟨i,d,h,j⟩;simp only at d;subst d;refine zP ?_ ?_
 .intro l;have hlt:i<xs.length:=by omega
  refine zB ((step i xs[i] a (by simp[hlt]) j).mono ?_)
  grind[zA,e2l,zJ]
 grind[zA,e2r]
theorem zHw{n:Nat}{c:Int×γ->Int}{f:γ}{Q:γ->Prop}(q:n<0x4000000000000000)(J:Nat->γ->Prop)(k:J 0 f)(l:∀i a,J i a->c ((i:Int),a)=n)(step:∀i a,i<n->J i a->Wp (g ((i:Int),a)) (J (i+1)))(m:∀a,J n a->Q a):
  Wp (zR (fun s:Int×γ=>bif decide (s.1<c s)then Aa (g s) (fun a=>Sa (Ae (Ab .i64 (s.1+(1:Int)),a)))else Sa (Ac s.2)) ((0:Int),f)) Q:=by
 refine kY (fun(s:Int×γ)=>∃i:Nat,s.1=(i:Int)/\i<=n/\J i s.2) (fun(s:Int×γ)=>((n:Int) -s.1).toNat) ⟨(0:Nat),rfl,aW _,k⟩ ?_;rintro⟨s,a⟩ ⟨i,h,p,j⟩;simp only at h;subst h;have d:=l i a j;refine zP ?_ ?_
 .intro e;simp only[d]at e;have hlt:i<n:=by omega
  refine zB ((step i a hlt j).mono ?_)
  grind[zA,e2l,zJ]
 grind[zA,e2r]
theorem zA1{xs:List α}{a:Int->Option (Int ⊕ (Unit ⊕ ρ))}{K:Unit->Option ρ}{Q:ρ->Prop}(m:xs.length<0x4000000000000000)(J:Nat->Prop)(g:J 0)
  (step:∀i x,xs[i]?=Sa x->J i->Wp (a (i:Int)) (vH (fun e=>e=Ab .i64 ((i:Int)+1)/\J (i+1)) (vH (fun _=>False) Q))) (c:J xs.length->Wp (K ()) Q):
  Wp (wL (zR (fun s:Int=>bif decide (s< (xs.length:Int))then a s else Sa (Ac (Ae ()))) (0:Int)) K) Q:=by
 refine wU ?_;refine kY (fun(s:Int)=>∃i:Nat,s=(i:Int)/\i<=xs.length/\J i) (fun(s:Int)=>((xs.length:Int) -s).toNat) ⟨(0:Nat),rfl,aW _,g⟩ ?_;rintro s ⟨i,h,j,f⟩;subst h;refine zP ?_ ?_
 .intro k;have hlt:i<xs.length:=by omega
  refine(step i xs[i] (by simp[hlt]) f).mono ?_;intro o d
  cases o with
  |inl e=>
   obtain⟨rfl,l⟩:=d;rw[zJ (by omega) (by omega)];exact⟨⟨i+1,by omega,hlt,l⟩,by omega⟩
  |inr o=>
   cases o with
   |inl _=>exact d.elim
   |inr r=>exact d
 .intro k;have:i=xs.length:=by omega
  subst this;exact zA (e2r (c f))
end
def zHi{α:Type}(p:α->Bool)(xs:List α):Int:=
 match xs.findIdx? p with
 |some i=>i
 |none=> -1
variable {g:Type}{i:List g}
theorem zO1{p:g->Bool}(h:∀x,x∈i->p x=Sc):zHi p i= -1:=by
 grind[List.findIdx?_eq_none_iff,zHi]
theorem qAR{p:g->Bool}{α:Nat}{x:g}(h:i[α]?=Sa x)(a:p x=Sb)(c:∀j y,j<α->i[j]?=Sa y->p y=Sc):zHi p i=α:=by
 have hlt:=(aa.1 h).1;have d:=(aa.1 h).2
 have:i.findIdx? p=Sa α:=by
  grind[List.findIdx?_eq_some_iff_getElem]
 simp[zHi,this]
theorem zGi(p:g->Bool)(xs:List g):(zHi p xs= -1/\∀x,x∈xs->p x=Sc)\/∃i x,zHi p xs=(i:Nat)/\xs[i]?=Sa x/\p x=Sb/\∀j y,j<i->xs[j]?=Sa y->p y=false:=by
 cases h:xs.findIdx? p with
 |none=>grind[List.findIdx?_eq_none_iff,zHi]
 |some i=>
  right;rw[bg]at h;obtain⟨a,c,e⟩:=h;have d:xs.findIdx? p=Sa i:=by grind[List.findIdx?_eq_some_iff_getElem]
  refine⟨i,xs[i],by simp[zHi,d],by simp[a],c,?_⟩
  grind
theorem zFm{p:g->Bool}{a:Int->Option (Int ⊕ (Unit ⊕ Int))}{Q:Int->Prop}(f:i.length<0x4000000000000000)(step:∀(xs:Nat) x,i[xs]?=Sa x->a (xs:Int)=Sa (bif p x then Ac (Ac (xs:Int))else Ae (Ab .i64 ((xs:Int)+1))))(c:Q (zHi p i)):
  Wp (wL (zR (fun s:Int=>bif decide (s< (i.length:Int))then a s else Sa (Ac (Ae ()))) (0:Int)) (fun _=>Sa (-1:Int))) Q:=by
 refine zA1 f (fun xs=>∀j y,j<xs->i[j]?=Sa y->p y=Sc) (fun j y e=>by omega) ?_ ?_
 .intro xs x d e;refine zM (step xs x d) ?_
  cases h:p x with
  |true=>
   simp
   grind[e2r,qAR]
  |false=>
   simp;refine e2l ⟨rfl,?_⟩
   grind
 .intro e;refine zA ?_;rw[zO1]at c
  .exact c
  .intro x d;obtain⟨j,α,rfl⟩:=aC d
   grind
section
variable {α ρ:Type}
variable {i:Int->Option (Int ⊕ (Unit ⊕ ρ))}{g:Unit ⊕ ρ->Prop}
theorem zV6{xs:List α}(l:xs.length<0x4000000000000000)(J:Nat->Prop)(e:J 0)(step:∀a x,xs[a]?=Sa x->J a->Wp (i (a:Int)) (vH (fun c=>c=Ab .i64 ((a:Int)+1)/\J (a+1)) (fun o=>(∀u,o≠Ae u)/\g o)))(f:J xs.length->g (Ae ())):
  Wp (zR (fun s:Int=>bif decide (s< (xs.length:Int))then i s else Sa (Ac (Ae ()))) (0:Int)) g:=by
 refine kY (fun(s:Int)=>∃a:Nat,s=(a:Int)/\a<=xs.length/\J a) (fun(s:Int)=>((xs.length:Int) -s).toNat) ⟨(0:Nat),rfl,aW _,e⟩ ?_;rintro s ⟨a,Q,h,j⟩;subst Q;refine zP ?_ ?_
 .intro m;have hlt:a<xs.length:=by omega
  refine(step a xs[a] (by simp[hlt]) j).mono ?_;intro o d
  cases o with
  |inl c=>
   obtain⟨rfl,k⟩:=d;rw[zJ (by omega) (by omega)];exact⟨⟨a+1,by omega,hlt,k⟩,by omega⟩
  |inr o=>exact d.2
 grind[zA,e2r]
theorem qES{xs:List α}{P:α->Prop}(e:xs.length<0x4000000000000000)(step:∀(a:Nat) x,xs[a]?=Sa x->Wp (i (a:Int)) (vH (fun f=>f=Ab .i64 ((a:Int)+1)/\P x) (fun o=>(∀u,o≠Ae u)/\g o)))(c:(∀x,x∈xs->P x)->g (Ae ())):
  Wp (zR (fun s:Int=>bif decide (s< (xs.length:Int))then i s else Sa (Ac (Ae ()))) (0:Int)) g:=by
 refine zV6 e (fun a=>∀j y,j<a->xs[j]?=Sa y->P y) (fun j y Q=>by omega) ?_ (fun h=>c ?_)
 .intro a x d Q;refine(step a x d).mono ?_
  grind
 .intro x d;obtain⟨j,k,rfl⟩:=aC d;simp_all
end
section
variable {α:Type}{lt:α->α->Prop}
structure Ord(lt:α->α->Prop):Prop where
 asym:∀x y,lt x y->¬lt y x
 tr:∀x y z,¬lt y x->¬lt z y->¬lt z x
theorem zD2(d:Ord lt):∀{xs a:List α},xs.Pairwise lt->a.Pairwise lt->(∀z,z∈xs↔z∈a)->xs=a
 |[],[],_,_,_=>rfl
 |[],y::a,_,_,h=>by have:=(h y).2 (by simp);cases this
 |x::xs,[],_,_,h=>by have:=(h x).1 (by simp);cases this
 |x::xs,y::a,f,g,h=>by
  rw[bt]at f g;have k:∀z,¬lt z z:=fun z c=>d.asym z z c c
  have e:x=y:=by
   rcases bi.1 ((h x).1 (by simp))with i|i
   .exact i
   .rcases bi.1 ((h y).2 (by simp))with j|j
    .exact j.symm
    .exact absurd (f.1 y j) (d.asym _ _ (g.1 x i))
  subst e;have:xs=a:=by refine zD2 d f.2 g.2 (fun z=>⟨fun c=>?_,fun c=>?_⟩);all_goals grind
  rw[this]
end
section
variable {α:Type}
def swF(a b n:Nat)(xs:List α)(k:Nat):Option α:=
 if a<=k/\k<a+n then xs[b+(k-a)]? else if b<=k/\k<b+n then xs[a+(k-b)]? else xs[k]?
def zAv(lo m hi:Nat)(xs:List α)(k:Nat):Option α:=
 if lo<=k/\k<lo+(hi-m)then xs[k+(m-lo)]? else if lo+(hi-m)<=k/\k<hi then xs[k- (hi-m)]? else xs[k]?
variable {g:List α}{i j:Nat}
theorem qCL{k:Nat}:swF i j 0 g k=g[k]? :=by simp_all[if_neg,swF]
theorem qCM{n:Nat}{zs:List α}(e:i+n<j)(a:j+n<g.length)(b:zs.length=g.length)(h:∀k,zs[k]?=swF i j n g k){x y:α}(f:zs[i+n]?=Sa x)(xs:zs[j+n]?=Sa y):
  ∀k,((zs.set (i+n) y).set (j+n) x)[k]?=swF i j (n+1) g k:=by
 intro k;have c:=h (i+n);have d:=h (j+n);unfold swF at c d;rw[if_neg (by omega),if_neg (by omega),f]at c;rw[if_neg (by omega),if_neg (by omega),xs]at d;unfold swF;by_cases l:k=j+n
 .grind
 .rw[aS (by omega)];by_cases m:k=i+n
  .grind
  .rw[aS (by omega),h k];unfold swF
   grind
theorem zHh(h:i=j):g[i]?=g[j]? :=by rw[h]
theorem qC6{lo m hi:Nat}{xs zs:List α}(c:lo<m)(d:m<hi)(a:hi-m<m-lo)(h:∀k,zs[k]?=swF lo m (hi-m) xs k)(k:Nat):zAv (lo+(hi-m)) m hi zs k=zAv lo m hi xs k:=by
 grind[zHh,zAv,swF]
theorem qBk{lo m hi:Nat}{xs zs:List α}(c:lo<m)(d:m<hi)(a:m-lo<hi-m)(h:∀k,zs[k]?=swF lo (hi- (m-lo)) (m-lo) xs k)(k:Nat):zAv lo m (hi- (m-lo)) zs k=zAv lo m hi xs k:=by
 grind[zHh,zAv,swF]
theorem qC7{hi:Nat}{zs:List α}(c:i<=j)(d:j<=hi)(a:j-i=hi-j)(h:∀k,zs[k]?=swF i j (j-i) g k)(k:Nat):zs[k]?=zAv i j hi g k:=by
 grind[zHh,zAv,swF]
end
def qEo{α:Type}(f:List V->Option (α×List V)):List V->Option (List α)
 |[]=>Sa []
 |e::r=>match f e.cells with
  |some (x,[])=>match qEo f r with
   |some a=>Sa (x::a)
   |none=>Sd
  |_=>Sd
def Ty.unc:(t:Ty)->List V->Option (t.El×List V)
 |.pair a b,c=>match a.unc c with
  |some (x,r)=>match b.unc r with
   |some (y,r)=>Sa ((x,y),r)
   |none=>Sd
  |none=>Sd
 |.sl t,c=>match c with
  |.sl d::r=>match qEo t.unc d with
   |some xs=>Sa (xs,r)
   |none=>Sd
  |c=>zLP t c
 |.int k,c=>zFo k c
 |.bool,c=>zCU c
 |.str,c=>zFn c
 |.unit,c=>Sa ((),c)
 |.rf,c=>zLQ c
 |.hd,c=>zLS c
 |.pt t,c=>zLR t c
theorem zXR{α:Type}{f:List V->Option (α×List V)}:∀{es:List V} {xs:List α},qEo f es=Sa xs->es.length=xs.length/\∀(i:Nat) (x:α),xs[i]?=Sa x->∃e,es[i]?=Sa e/\f e.cells=Sa (x,[])
 |[],xs,h=>by simp only[qEo,ac]at h;grind
 |e::r,xs,h=>by
  simp only[qEo]at h;split at h
  .rename_i x d;split at h
   .rename_i c a;cases h;obtain⟨g,j⟩:=zXR a
    grind
   .cases h
  .cases h
theorem qET{t:Ty}{es:List V}{xs:List t.El}(A:es.length=xs.length)(h:∀(i:Nat) (e:V) (x:t.El),es[i]?=Sa e->xs[i]?=Sa x->kW e.cells (t.cells x)):WkV (.sl es) (.tl t xs):=by
 intro w F v p;refine .tl t xs v ?_
 cases p with
 |slemp a l=>
  have:xs=[]:=aJ A.symm;subst this;exact .slemp a l
 |sl b q l k _ g r f E B p=>
  have u:es.length=(xs.map t.enc).length:=by simpa using A
  rw[u]at B f ⊢;refine .sl b q l k _ g r f ?_ B ?_
  .intro e C;simp at C;obtain⟨x,y,rfl⟩:=C;obtain⟨j,n⟩:=bQ y;have c:j<es.length:=by grind
   have z:=(h j es[j] x (by simp[c]) n).len
   grind[jM,List.getElem_mem]
  .intro i j e d D n;simp at D;obtain⟨x,y,rfl⟩:=D;rw[jM]at n;have m:i<es.length:=by grind
   have z:=h i es[i] x (by simp[m]) y;have c:j< (es[i]).cells.length:=by rw[z.len];grind
   exact z.get j _ d (ah c) n w F _ (p i j es[i] _ (by simp[m]) (ah c))
theorem zTF:∀(t:Ty) (cs:List V) (x:t.El) (r:List V),t.unc cs=Sa (x,r)->∃c,cs=c++r/\kW c (t.cells x):=by
 intro t
 induction t with
 |int k=>exact fun cs x r h=>j7 (.int k) cs x r h
 |bool=>exact fun cs x r h=>j7 .bool cs x r h
 |str=>exact fun cs x r h=>j7 .str cs x r h
 |unit=>exact fun cs x r h=>j7 .unit cs x r h
 |rf=>exact fun cs x r h=>j7 .rf cs x r h
 |hd=>exact fun cs x r h=>j7 .hd cs x r h
 |pt t _=>exact fun cs x r h=>j7 (.pt t) cs x r h
 |pair a b d e=>
  intro cs x r h;simp only[Ty.unc]at h;split at h
  .rename_i l i f;split at h
   .rename_i m n j;simp at h;obtain⟨rfl,rfl⟩:=h;obtain⟨p,rfl,q⟩:=d cs l i f;obtain⟨u,rfl,y⟩:=e i m n j;exact⟨p++u,by grind,q.append y⟩
   .cases h
  .cases h
 |sl t A=>
  intro cs x r h;simp only[Ty.unc]at h;split at h
  .rename_i z B;split at h
   .rename_i C g;simp at h;obtain⟨rfl,rfl⟩:=h;obtain⟨f,j⟩:=zXR g;refine⟨[.sl z],rfl,qET f ?_,trivial⟩
    grind
   .cases h
  .exact j7 (.sl t) _ x r h
def Ty.decW(t:Ty)(d:V):Option t.El:=
 match t with
 |.pair a b=>match d with
  |.agg c=>match(Ty.pair a b).unc c with
   |some (x,[])=>Sa x
   |_=>Sd
  |_=>Sd
 |.unit=>Sd
 |.sl t=>match(Ty.sl t).unc [d]with
  |some (x,[])=>Sa x
  |_=>Sd
 |.int k=>(Ty.int k).dec d
 |.bool=>Ty.bool.dec d
 |.str=>Ty.str.dec d
 |.rf=>Ty.rf.dec d
 |.hd=>Ty.hd.dec d
 |.pt t=>(Ty.pt t).dec d
theorem zZN{t:Ty}{d:V}{x:t.El}(h:t.decW d=Sa x):WkV d (t.enc x):=by
 cases t with
 |pair a b=>
  simp only[Ty.decW]at h;split at h
  .rename_i i;split at h
   .rename_i e f;simp at h;subst h;obtain⟨j,c,g⟩:=zTF (.pair a b) i e [] f;simp at c;subst c;exact WkV.agg g
   .cases h
  .cases h
 |unit=>simp[Ty.decW]at h
 |sl t=>
  simp only[Ty.decW]at h;split at h
  .rename_i e f;simp at h;subst h;obtain⟨j,c,g⟩:=zTF (.sl t) [d] e [] f;rw[cw]at c;subst c;exact g.1
  .cases h
 |int k=>exact u5 h
 |bool=>exact u5 h
 |str=>exact u5 h
 |rf=>exact u5 h
 |hd=>exact u5 h
 |pt t=>exact u5 h
def zH3:(ts:List Ty)->List V->Option (ElS ts)
 |[],[]=>Sa ()
 |t::ts,d::a=>match t.decW d with
  |some x=>match zH3 ts a with
   |some c=>Sa (x,c)
   |none=>Sd
  |none=>Sd
 |_,_=>Sd
theorem zPW:∀(ts:List Ty) (ds:List V) (x:ElS ts),zH3 ts ds=Sa x->kW ds (yF ts x)
 |[],[],_,_=>trivial
 |[],_::_,_,h=>by simp[zH3]at h
 |_::_,[],_,h=>by simp[zH3]at h
 |t::ts,d::ds,x,h=>by
  simp only[zH3]at h;split at h
  .rename_i y c;split at h
   .rename_i e a;cases h;exact⟨zZN c,zPW ts ds e a⟩
   .cases h
  .cases h
variable {g:List Ty}{i:Nat->Option (List V)}
theorem qBQ{Γ:Sig}{P:Program}{f:FuncId}{R:RTy}{ts:ElS g->Option R.El}(h:jJ Γ P i f (z7 (qQ g R ts))):jJ Γ P i f (z7 (vR (zH3 g) R ts)):=by
 intro w F O s c e p r j q t k m a;simp[z7,vR]at a
 cases n:zH3 g e with
 |none=>grind
 |some x=>
  rw[n]at a;have l:=zPW g e x n;refine h w F O s c (yF g x) p r j q t (k.trans l.len) ?_ ?_
  .intro G u d y z;have hlt:G<e.length:=by grind
   exact l.get G e[G] d (by simp[hlt]) z w F u (m G u e[G] y (by simp[hlt]))
  simp_all[zBu,z7,qQ,vR]
def zXl{α:Type}(f:α->α->Bool):List α->List α->Bool
 |[],[]=>Sb
 |x::a,y::c=>f x y&&zXl f a c
 |_,_=>Sc
theorem zJX{α:Type}{f:α->α->Bool}(c:∀x y,f x y=Sb->x=y):∀{xs a:List α},zXl f xs a=Sb->xs=a
 |[],[],_=>rfl
 |x::xs,y::a,h=>by
  simp[zXl]at h;rw[c x y h.1,zJX c h.2]
 |[],_::_,h=>by cases h
 |_::_,[],h=>by cases h
def Ty.eqb:(t:Ty)->t.El->t.El->Bool
 |.int _,a,b=>decide (a=b)
 |.bool,a,b=>match a,b with
  |true,Sb=>Sb
  |false,Sc=>Sb
  |_,_=>Sc
 |.str,a,b=>zXl (fun(x y:UInt8)=>Al x.toNat y.toNat) a.data.toList b.data.toList
 |.unit,_,_=>Sb
 |.pair s t,a,b=>s.eqb a.1 b.1&&t.eqb a.2 b.2
 |.sl t,a,b=>zXl t.eqb a b
 |.rf,_,_=>Sc
 |.hd,_,_=>Sc
 |.pt _,_,_=>Sc
theorem qB5:∀(t:Ty) (a b:t.El),t.eqb a b=Sb->a=b:=by
 intro t
 induction t with
 |int k=>exact fun a b h=>of_decide_eq_true h
 |bool=>
  intro a b h;cases a<;>cases b<;>first|rfl|cases h
 |str=>
  intro a b h;have h:=zJX (fun(x y:UInt8) h=>UInt8.toNat_inj.1 (aL h)) h;cases a;simp_all
 |unit=>grind
 |pair s t c d=>
  intro a b h;simp[Ty.eqb]at h
  grind
 |sl t e=>exact fun a b h=>zJX e h
 |rf=>exact fun _ _ h=>by cases h
 |hd=>exact fun _ _ h=>by cases h
 |pt t _=>exact fun _ _ h=>by cases h
def eqS:(ts:List Ty)->ElS ts->ElS ts->Bool
 |[],_,_=>Sb
 |t::ts,a,b=>t.eqb a.1 b.1&&eqS ts a.2 b.2
theorem zUo:∀(ts:List Ty) (a b:ElS ts),eqS ts a b=Sb->a=b
 |[],_,_,_=>rfl
 |t::ts,a,b,h=>by simp[eqS]at h;exact Prod.ext (qB5 t _ _ h.1) (zUo ts _ _ h.2)
def atP(ts:List Ty){α:Type}(a:ElS ts)(c:α)(f:ElS ts->Option α):ElS ts->Option α:=fun x=>bif eqS ts x a then Sa c else f x
def noF{X α:Type}:X->Option α:=fun _=>Sd
theorem zQT{Γ:Sig}{P:Program}{f:FuncId}{R:RTy}{G h:ElS g->Option R.El}(a:jJ Γ P i f (z7 (qQ g R G)))(c:∀x y,h x=Sa y->G x=Sa y):
  jJ Γ P i f (z7 (vR (zH3 g) R h)):=by
 refine zXt (qBQ a) ?_
 grind[Option.map_eq_some_iff,z7,vR,zH3]
theorem zOg{α:Type}{a:ElS g}{c:α}{f ts:ElS g->Option α}(d:ts a=Sa c)(e:∀x y,f x=Sa y->ts x=Sa y):∀x y,atP g a c f x=Sa y->ts x=Sa y:=by
 grind[zUo,atP,eqS]
theorem zQZ{X α:Type}{g:X->Option α}:∀x y,noF (X:=X) (α:=α) x=Sa y->g x=Sa y:=fun _ _ h=>by cases h
end Go.Ve
namespace Go.Ve
open Go
def zPY(t:Ty)(ds:List V):Option (t.El×List t.El):=
 match zBv [.sl t] ds with
 |some (y::r,_)=>Sa (y,r)
 |_=>Sd
theorem zKg{t:Ty}{ds:List V}{q:t.El×List t.El}(h:zPY t ds=Sa q):kW ds [.tl t (q.1::q.2)]:=by
 unfold zPY at h;split at h
 .rename_i y r u a;cases h;exact kH [.sl t] ds (y::r,u) a
 .cases h
open Classical in
noncomputable def zI6(v:Value)(ds:List V):Option Unit:=if ds=[.val v]then Sa ()else Sd
theorem zCF{v:Value}{ds:List V}{q:Unit}(h:zI6 v ds=Sa q):kW ds [.val v]:=by
 unfold zI6 at h;split at h
 .rename_i a;subst a;exact⟨.refl _,trivial⟩
 .cases h
theorem zWZ{w:World}{F:Blk->Prop}{v:Value}{t:Ty}(h:Rd w F v (.tl t [])):∃a c,v=.slice a 0 c:=by
 have e:=Rd.untl h;simp at e;generalize i:V.sl []=d at e
 cases e with
 |slemp a c=>grind
 |sl b j l k m g n f p q r=>
  grind
 |_=>cases i
variable {i:FuncId}{g:Nat->Option (List V)}{j:Program}
theorem zR9{t:Ty}{bytes:Nat}(Z:jJ jT j g i (z7 (vR (zPY t) (.p (.sl t)) (fun q=>Aa (app bytes [] (q.1::q.2)) fun z=>Sa z))))(h2:∀c,jJ jT j g i (z7 (vR (zI6 (.slice Sd 0 c)) (.p (.sl t)) (fun _=>Sa []))))(h3:∀a c,jJ jT j g i (z7 (vR (zI6 (.slice (Sa a) 0 c)) (.p (.sl t)) (fun _=>Sa [])))):
  jJ jT j g i (z7 (qQ [.sl t] (.p (.sl t)) (fun x=>Aa (app bytes [] x.1) fun z=>Sa z))):=by
 intro w F O s G D n r k Q S A J P;simp only[z7,qQ,vR]at P
 cases W:zBv [.sl t] D with
 |none=>grind
 |some x=>
  rw[W]at P;have B:=kH [.sl t] D x W;have K:D.length=1:=B.len;have C:G.size=1:=A.trans K;obtain⟨L,u⟩:=x;have hv:Rd w F G[0] (.tl t L):=B.get 0 (D[0]'(by omega)) (.tl t L) (by simp) rfl w F _ (J 0 _ _ (by simp) (by simp))
  cases L with
  |cons y m=>
   refine Z w F O s G [.tl t (y::m)] n r k Q S (by simpa using C) ?_ ?_
   .grind
   .have M:zPY t [.tl t (y::m)]=Sa (y,m):=by unfold zPY;rw[show zBv [.sl t] [.tl t (y::m)]=Sa (y::m,())from zBu [.sl t] (y::m,())]
    grind[z7,vR]
  |nil=>
   obtain⟨a,c,ha⟩:=zWZ hv
   have l:Sa (n,r)=Sa (s,(RTy.p (.sl t)).res []):=by
    have:(app bytes ([]:List t.El) [])=Sa []\/app bytes ([]:List t.El) []=none:=by unfold app;grind
    grind
   simp at l;obtain⟨rfl,rfl⟩:=l
   have go:∀v,G[0]=v->jJ jT j g i (z7 (vR (zI6 v) (.p (.sl t)) (fun _=>Sa [])))->Calls j i G w fun e E=>∃(v:Value) (H:Blk->Prop) (I:Nat->Prop),e=.returned v/\jT.R n H I E/\xC O w E/\
     (∀b,I b->O b\/w.heap.size<=b)/\zBU (jT.wk/\((RTy.p (.sl t)).res []).isH) w.heap.size F H/\(∀b:Nat,H b->(F b\/w.heap.size<=b)/\b<E.heap.size/\¬I b)/\zAM w.heap.size E H I v ((RTy.p (.sl t)).res []):=by
    intro v N h;refine h w F O n G [.val v] n _ k Q S (by simpa using C) ?_ ?_
    .intro f u d hi Y
     match f with
     |0=>
      cases Y
      have:u=G[0]:=by
       grind
      rw[this,N];exact .val _
     |f+1=>simp at Y
    .have M:zI6 v [.val v]=Sa ():=by unfold zI6;rw[if_pos rfl]
     grind[z7,vR]
   cases a with
   |none=>grind
   |some a=>grind
theorem zXw{t:Ty}{bytes:Nat}(Y:jJ jT j g i (z7 (vR (zPY t) (.o t) (fun q=>Aa (app bytes [] (q.1::q.2)) fun z=>Sa z))))(h2:∀c,jJ jT j g i (z7 (vR (zI6 (.slice Sd 0 c)) (.o t) (fun _=>Sa []))))(h3:∀a c,jJ jT j g i (z7 (vR (zI6 (.slice (Sa a) 0 c)) (.o t) (fun _=>Sa [])))):
  jJ jT j g i (z7 (qQ [.sl t] (.o t) (fun x=>Aa (app bytes [] x.1) fun z=>Sa z))):=by
 intro w F O s G C n r k N Q p I P;simp only[z7,qQ,vR]at P
 cases S:zBv [.sl t] C with
 |none=>grind
 |some x=>
  rw[S]at P;have A:=kH [.sl t] C x S;have J:C.length=1:=A.len;have B:G.size=1:=p.trans J;obtain⟨K,u⟩:=x;have Z:Rd w F G[0] (.tl t K):=A.get 0 (C[0]'(by omega)) (.tl t K) (by simp) rfl w F _ (I 0 _ _ (by simp) (by simp))
  cases K with
  |cons y m=>
   refine Y w F O s G [.tl t (y::m)] n r k N Q (by simpa using B) ?_ ?_
   .grind
   .have L:zPY t [.tl t (y::m)]=Sa (y,m):=by unfold zPY;rw[show zBv [.sl t] [.tl t (y::m)]=Sa (y::m,())from zBu [.sl t] (y::m,())]
    grind[z7,vR]
  |nil=>
   obtain⟨a,c,ha⟩:=zWZ Z
   have l:Sa (n,r)=Sa (s,(RTy.o t).res []):=by
    have:(app bytes ([]:List t.El) [])=Sa []\/app bytes ([]:List t.El) []=none:=by unfold app;grind
    grind
   simp at l;obtain⟨rfl,rfl⟩:=l
   have go:∀v,G[0]=v->jJ jT j g i (z7 (vR (zI6 v) (.o t) (fun _=>Sa [])))->Calls j i G w fun e D=>∃(v:Value) (E:Blk->Prop) (H:Nat->Prop),e=.returned v/\jT.R n E H D/\xC O w D/\
     (∀b,H b->O b\/w.heap.size<=b)/\zBU (jT.wk/\((RTy.o t).res []).isH) w.heap.size F E/\(∀b:Nat,E b->(F b\/w.heap.size<=b)/\b<D.heap.size/\¬H b)/\zAM w.heap.size D E H v ((RTy.o t).res []):=by
    intro v M h;refine h w F O n G [.val v] n _ k N Q (by simpa using B) ?_ ?_
    .intro f u d hi W
     match f with
     |0=>
      cases W
      have:u=G[0]:=by
       grind
      rw[this,M];exact .val _
     |f+1=>simp at W
    .have L:zI6 v [.val v]=Sa ():=by unfold zI6;rw[if_pos rfl]
     grind[z7,vR]
   cases a with
   |none=>grind
   |some a=>grind
theorem zVS{t:Ty}{ds:List V}(m:zCk ds=Sd)(h:∀a:Option Addr,∃S,jJ jT j g i S/\S () (.val (.slice a 0 0)::ds)=Sa ((),.p (.tup []))):
  zAy jT j g i () t [] ds () [] (.tup []):=by
 refine zAy.of m ?_;intro w F O b x k y z A l _ n q r
 have B:∃a,x=.slice a 0 0:=by
  rcases l with⟨_,h⟩|⟨h,_⟩
  all_goals grind
 obtain⟨a,rfl⟩:=B;obtain⟨S,C,D⟩:=h a
 have G:=C w F O () k (.val (.slice a 0 0)::ds) () (.p (.tup [])) y z A (by simpa using n) (by
  intro f v d u E
  match f with
  |0=>
   cases E;rw[q]at u;cases u;exact .val _
  |f+1=>grind) D
 refine G.mono ?_;rintro e Z ⟨v,H,I,rfl,J,P,K,L,M,N⟩;exact⟨v,H,I,rfl,J,⟨P.os,P.tape,P.output,P.size,fun c Q W=>P.block c Q (fun Y=>W (.inl Y)),P.drawn⟩,K,L.no (fun h=>h.1),M,zCt.of (.inl ⟨rfl,a,rfl⟩) N⟩
end Go.Ve
namespace Go.Ve
noncomputable section
open Go
def zEp:ElS [(.int .u8)]->Option (RTy.El (.p .bool)):=fun x=>match x with|(a,())=>Aa (bif decide (a>=(97:Int))then bif decide (a<=(122:Int))then Sa Sb else bif decide (a>=(65:Int))then Sa (decide (a<=(90:Int)))else Sa Sc else bif decide (a>=(65:Int))then Sa (decide (a<=(90:Int)))else Sa Sc) fun(c:Bool)=>Sa c
def zCy:ElS [.str]->Option (RTy.El (.p .bool)):=fun x=>match x with|(d,())=>Aa (bif decide ((↑(ByteArray.size d):Int)< (1:Int))then Sa Sb else bif decide ((↑(ByteArray.size d):Int)>(15:Int))then Sa Sb else Aa (zPl d (0:Int)) fun(g:Int)=>Aa (zEp (g,())) fun(h:Bool)=>Sa !h) fun(i:Bool)=>bif i then Sa Sc else wL (zR (fun(c:Int)=>bif decide (c< (↑(ByteArray.size d):Int))then Aa (zPl d c) fun(a:Int)=>Aa (Aa (zEp (a,())) fun(e:Bool)=>bif !e then bif decide (a>=(48:Int))then bif !decide (a<=(57:Int))then bif a !=(45:Int)then bif a !=(95:Int)then bif a !=(47:Int)then Sa (a !=(46:Int))else Sa Sc else Sa Sc else Sa Sc else Sa Sc else bif a !=(45:Int)then bif a !=(95:Int)then bif a !=(47:Int)then Sa (a !=(46:Int))else Sa Sc else Sa Sc else Sa Sc else Sa Sc) fun(f:Bool)=>bif f then Sa (Ac (Ac Sc))else Sa (Ae (Ab .i64 (c+(1:Int))))else Sa (Ac (Ae ()))) (1:Int)) fun(j:Unit)=>Sa Sb
def qB:ElS [tI,tI,tI]->Option (RTy.El (.p .bool)):=fun x=>match x with|(a,c,d,())=>Aa (bif decide (c<=a)then Sa (decide (a<=d))else Sa Sc) fun(e:Bool)=>Sa e
def zCz:ElS [tI]->Option (RTy.El (.p tU)):=fun x=>match x with|(c,())=>Aa (zR (fun(a:Int×Int)=>bif decide (a.1< (32:Int))then Aa (bif decide (a.1<c)then bif decide ((0:Int)<=Ab .u64 (Ab .i64 ((31:Int) -a.1)))then Sa (Ab .u32 (↑(An (Ak (Ag Aj) a.2|||Ak (Ag Aj) (Ab .u32 ((1:Int)*(2:Int)^min (Af (Ab .u64 (Ab .i64 ((31:Int) -a.1)))) (Ag Aj))))):Int))else Sd else Sa a.2) fun(d:Int)=>Sa (Ae (Ab .i64 (a.1+(1:Int)),d))else Sa (Ac a.2)) ((0:Int),(0:Int))) fun(e:Int)=>Sa e
def uC:ElS [tU,tI]->Option (RTy.El (.p zD)):=fun x=>match x with|(c,a,())=>Aa (zCz (if(0:Int)>if(32:Int)<a then(32:Int)else a then(0:Int)else if(32:Int)<a then(32:Int)else a,())) fun(d:Int)=>Sa (Ab .u32 (↑(An (Ak (Ag Aj) c&&&Ak (Ag Aj) d)):Int),if(0:Int)>if(32:Int)<a then(32:Int)else a then(0:Int)else if(32:Int)<a then(32:Int)else a,())
def zAT:ElS [zD,tU]->Option (RTy.El (.p .bool)):=fun x=>match x with|(a,c,())=>Aa (zCz (a.2.1,())) fun(d:Int)=>Sa (Ab .u32 (↑(An (Ak (Ag Aj) c&&&Ak (Ag Aj) d)):Int)==a.1)
def zBg:ElS [zD,zD]->Option (RTy.El (.p .bool)):=fun x=>match x with|(a,c,())=>Aa (bif decide (a.2.1<=c.2.1)then Aa (zAT (a,c.1,())) fun(d:Bool)=>Sa d else Sa Sc) fun(e:Bool)=>Sa e
def xX:ElS [zD,zD]->Option (RTy.El (.p .bool)):=fun x=>match x with|(a,c,())=>Aa (Aa (zBg (a,c,())) fun(d:Bool)=>bif d then Sa Sb else Aa (zBg (c,a,())) fun(e:Bool)=>Sa e) fun(f:Bool)=>Sa f
def xD:ElS [(.sl z6)]->Option (RTy.El (.p tI)):=fun x=>match x with|(f,())=>bif decide ((↑(Ad f):Int)>(8:Int))then Sa (7:Int)else wL (zR (fun(c:Int)=>bif decide (c< (↑(Ad f):Int))then wL (Aa (idx f c) fun(a:Ty.El z6)=>Aa (zCy (a.1,())) fun(g:Bool)=>bif !g then Sa (Ac (Ac (Ac (3:Int))))else wL (zR (fun(e:Int)=>bif decide (e<c)then Aa (idx f e) fun(h:Ty.El z6)=>bif h.1==a.1 then Sa (Ac (Ac (Ac (Ac (Ac (4:Int))))))else Sa (Ae (Ab .i64 (e+(1:Int))))else Sa (Ac (Ae ()))) (0:Int)) fun(E:Unit)=>Aa (Aa (qB (a.2.2.1,(0:Int),(32:Int),())) fun(i:Bool)=>bif !i then Sa Sb else Aa (qB (a.2.2.2.1,(0:Int),(4094:Int),())) fun(j:Bool)=>bif !j then Sa Sb else Aa (qB (a.2.2.2.2.2.2.2.2.2.2.2.1,(0:Int),(2:Int),())) fun(k:Bool)=>Sa !k) fun(l:Bool)=>bif l then Sa (Ac (Ac (Ac (1:Int))))else Aa (bif a.2.2.1==(0:Int)then bif a.2.1 !=(0:Int)then Sa Sb else bif a.2.2.2.1 !=(0:Int)then Sa Sb else bif a.2.2.2.2.2.2.2.2.2.2.2.1 !=(0:Int)then Sa Sb else bif a.2.2.2.2.2.1 then Sa Sb else bif a.2.2.2.2.2.2.2.2.1 then Sa Sb else bif a.2.2.2.2.2.2.2.2.2.1 != { data:= #[] }then Sa Sb else bif a.2.2.2.2.2.2.2.2.2.2.1 != { data:= #[] }then Sa Sb else bif a.2.2.1 !=(0:Int)then Sa (a.2.1==(0:Int))else Sa Sc else bif a.2.2.1 !=(0:Int)then Sa (a.2.1==(0:Int))else Sa Sc) fun(n:Bool)=>bif n then Sa (Ac (Ac (Ac (1:Int))))else Aa (bif a.2.2.2.2.2.1 then Aa (qB (a.2.2.2.2.2.2.1,(0:Int),(255:Int),())) fun(q:Bool)=>bif !q then Sa Sb else Aa (qB (a.2.2.2.2.2.2.2.1,(1:Int),(65535:Int),())) fun(r:Bool)=>bif !r then Sa Sb else bif !a.2.2.2.2.2.1 then bif a.2.2.2.2.2.2.1 !=(0:Int)then Sa Sb else Sa (a.2.2.2.2.2.2.2.1 !=(0:Int))else Sa Sc else bif !a.2.2.2.2.2.1 then bif a.2.2.2.2.2.2.1 !=(0:Int)then Sa Sb else Sa (a.2.2.2.2.2.2.2.1 !=(0:Int))else Sa Sc) fun(t:Bool)=>bif t then Sa (Ac (Ac (Ac (1:Int))))else zR (fun(d:Int)=>bif decide (d<c)then Aa (bif a.2.2.1 !=(0:Int)then Aa (idx f d) fun(u:Ty.El z6)=>bif u.2.2.1 !=(0:Int)then Aa (uC (a.2.1,a.2.2.1,())) fun(y:Int×Int×Unit)=>Aa (idx f d) fun(z:Ty.El z6)=>Aa (idx f d) fun(A:Ty.El z6)=>Aa (uC (z.2.1,A.2.2.1,())) fun(B:Int×Int×Unit)=>Aa (xX (y,B,())) fun(C:Bool)=>Sa C else Sa Sc else Sa Sc) fun(D:Bool)=>bif D then Sa (Ac (Ac (Ac (Ac (6:Int)))))else Sa (Ae (Ab .i64 (d+(1:Int))))else Sa (Ac (Ae ()))) (0:Int)) fun(F:Unit)=>Sa (Ae (Ab .i64 (c+(1:Int))))else Sa (Ac (Ae ()))) (0:Int)) fun(G:Unit)=>Sa (0:Int)
def u7:ElS [zD]->Option (RTy.El (.p .bool)):=fun x=>match x with|(a,())=>Aa (bif decide (a.2.1>=(0:Int))then bif decide (a.2.1<=(32:Int))then Aa (zCz (a.2.1,())) fun(c:Int)=>Sa (Ab .u32 (↑(An (Ak (Ag Aj) a.1&&& ~~~Ak (Ag Aj) c)):Int)==(0:Int))else Sa Sc else Sa Sc) fun(d:Bool)=>Sa d
def xL:ElS [zRh]->Option (RTy.El (.p .bool)):=fun x=>match x with|(a,())=>Aa (Aa (u7 (a.2.1,())) fun(c:Bool)=>bif c then bif decide (a.2.1.2.1<=a.2.2.1)then bif decide (a.2.2.1<=a.2.2.2.1)then Sa (decide (a.2.2.2.1<=(32:Int)))else Sa Sc else Sa Sc else Sa Sc) fun(d:Bool)=>Sa d
def zAh:ElS [(.sl zDX)]->Option (RTy.El (.p tI)):=fun x=>match x with|(c,())=>bif decide ((↑(Ad c):Int)>(8:Int))then Sa (7:Int)else wL (zR (fun(a:Int)=>bif decide (a< (↑(Ad c):Int))then wL (Aa (idx c a) fun(f:Ty.El zDX)=>Aa (zCy (f.1,())) fun(g:Bool)=>bif !g then Sa (Ac (Ac (Ac (3:Int))))else wL (zR (fun(d:Int)=>bif decide (d<a)then Aa (idx c d) fun(h:Ty.El zDX)=>Aa (idx c a) fun(i:Ty.El zDX)=>bif h.1==i.1 then Sa (Ac (Ac (Ac (Ac (Ac (4:Int))))))else Sa (Ae (Ab .i64 (d+(1:Int))))else Sa (Ac (Ae ()))) (0:Int)) fun(r:Unit)=>Aa (idx c a) fun(j:Ty.El zDX)=>bif (↑(Ad j.2.1):Int)==(0:Int)then Sa (Ac (Ac (Ac (1:Int))))else Aa (idx c a) fun(k:Ty.El zDX)=>bif decide ((↑(Ad k.2.1):Int)>(16:Int))then Sa (Ac (Ac (Ac (7:Int))))else zR (fun(e:Int)=>Aa (idx c a) fun(l:Ty.El zDX)=>bif decide (e< (↑(Ad l.2.1):Int))then Aa (idx c a) fun(m:Ty.El zDX)=>Aa (idx m.2.1 e) fun(n:Ty.El zRh)=>Aa (xL (n,())) fun(q:Bool)=>bif !q then Sa (Ac (Ac (Ac (Ac (1:Int)))))else Sa (Ae (Ab .i64 (e+(1:Int))))else Sa (Ac (Ae ()))) (0:Int)) fun(t:Unit)=>Sa (Ae (Ab .i64 (a+(1:Int))))else Sa (Ac (Ae ()))) (0:Int)) fun(u:Unit)=>Sa (0:Int)
def u6:ElS [zG,.str]->Option (RTy.El (.p tI)):=fun x=>match x with|(c,d,())=>wL (zR (fun(a:Int)=>bif decide (a< (↑(Ad c.2.2.2.1):Int))then Aa (idx c.2.2.2.1 a) fun(e:Ty.El zDX)=>bif e.1==d then Sa (Ac (Ac a))else Sa (Ae (Ab .i64 (a+(1:Int))))else Sa (Ac (Ae ()))) (0:Int)) fun(f:Unit)=>Sa (-1:Int)
def zBe:ElS [zG]->Option (RTy.El (.p tI)):=fun x=>match x with|(f,())=>bif decide ((↑(Ad f.2.2.2.2.1):Int)>(8:Int))then Sa (7:Int)else wL (zR (fun(a:Int)=>bif decide (a< (↑(Ad f.2.2.2.2.1):Int))then wL (Aa (idx f.2.2.2.2.1 a) fun(g:Ty.El zLl)=>Aa (zCy (g.1,())) fun(h:Bool)=>bif !h then Sa (Ac (Ac (Ac (3:Int))))else wL (zR (fun(d:Int)=>bif decide (d<a)then Aa (idx f.2.2.2.2.1 d) fun(i:Ty.El zLl)=>Aa (idx f.2.2.2.2.1 a) fun(j:Ty.El zLl)=>bif i.1==j.1 then Sa (Ac (Ac (Ac (Ac (Ac (4:Int))))))else Sa (Ae (Ab .i64 (d+(1:Int))))else Sa (Ac (Ae ()))) (0:Int)) fun(C:Unit)=>Aa (idx f.2.2.2.2.1 a) fun(k:Ty.El zLl)=>bif (↑(Ad k.2.1):Int)==(0:Int)then Sa (Ac (Ac (Ac (1:Int))))else Aa (idx f.2.2.2.2.1 a) fun(l:Ty.El zLl)=>bif decide ((↑(Ad l.2.1):Int)>(8:Int))then Sa (Ac (Ac (Ac (7:Int))))else zR (fun(e:Int)=>Aa (idx f.2.2.2.2.1 a) fun(m:Ty.El zLl)=>bif decide (e< (↑(Ad m.2.1):Int))then Aa (idx f.2.2.2.2.1 a) fun(n:Ty.El zLl)=>Aa (idx n.2.1 e) fun(c:Ty.El qAl)=>Aa (bif c.2.1 != { data:= #[] }then Aa (u6 (f,c.2.1,())) fun(q:Int)=>Sa (decide (q< (0:Int)))else Sa Sc) fun(r:Bool)=>bif r then Sa (Ac (Ac (Ac (Ac (5:Int)))))else Aa (Aa (qB (c.2.2.1,(-1:Int),(65535:Int),())) fun(t:Bool)=>bif !t then Sa Sb else Aa (qB (c.2.2.2.2.1,(-1:Int),(65535:Int),())) fun(u:Bool)=>bif !u then Sa Sb else Aa (qB (c.2.2.2.1,(-1:Int),(16777215:Int),())) fun(y:Bool)=>bif !y then Sa Sb else Aa (qB (c.2.2.2.2.2.1,(-1:Int),(1000000:Int),())) fun(z:Bool)=>bif !z then Sa Sb else Aa (qB (c.2.2.2.2.2.2.1,(0:Int),(8:Int),())) fun(A:Bool)=>Sa !A) fun(B:Bool)=>bif B then Sa (Ac (Ac (Ac (Ac (1:Int)))))else Sa (Ae (Ab .i64 (e+(1:Int))))else Sa (Ac (Ae ()))) (0:Int)) fun(E:Unit)=>Sa (Ae (Ab .i64 (a+(1:Int))))else Sa (Ac (Ae ()))) (0:Int)) fun(F:Unit)=>Sa (0:Int)
def zF1:ElS [zS]->Option (RTy.El (.p .bool)):=fun x=>match x with|(a,())=>Aa (bif decide ((0:Int)<=a.1)then bif decide (a.1<=a.2.1)then Sa (decide (a.2.1<=(65535:Int)))else Sa Sc else Sa Sc) fun(c:Bool)=>Sa c
def zJH:ElS [zS]->Option (RTy.El (.p .bool)):=fun x=>match x with|(a,())=>Sa (a.1==(0:Int)&&(a.2.1==(65535:Int)&&Sb))
def zC6:ElS [zWm]->Option (RTy.El (.p .bool)):=fun x=>match x with|(a,())=>Aa (Aa (qB (a.2.1,(-1:Int),(255:Int),())) fun(e:Bool)=>bif !e then Sa Sb else bif Ab .u32 (↑(An (Ak (Ag Aj) a.2.2.1.1&&&Ak (Ag Aj) a.2.2.1.2.1)):Int) !=(0:Int)then Sa Sb else bif Ab .u32 (↑(An (Ak (Ag Aj) a.2.2.2.1.1&&&Ak (Ag Aj) a.2.2.2.1.2.1)):Int) !=(0:Int)then Sa Sb else Aa (zF1 (a.2.2.2.2.1,())) fun(f:Bool)=>bif !f then Sa Sb else Aa (zF1 (a.2.2.2.2.2.1,())) fun(g:Bool)=>Sa !g) fun(h:Bool)=>bif h then Sa Sc else Aa (bif a.2.1==(6:Int)then Sa Sb else bif a.2.1==(17:Int)then Sa Sb else Aa (zJH (a.2.2.2.2.1,())) fun(i:Bool)=>bif i then Aa (zJH (a.2.2.2.2.2.1,())) fun(c:Bool)=>Sa c else Sa Sc) fun(d:Bool)=>Sa d
def zAi:ElS [(.sl zOu)]->Option (RTy.El (.p tI)):=fun x=>match x with|(c,())=>bif decide ((↑(Ad c):Int)>(8:Int))then Sa (7:Int)else wL (zR (fun(a:Int)=>bif decide (a< (↑(Ad c):Int))then wL (Aa (idx c a) fun(f:Ty.El zOu)=>Aa (zCy (f.1,())) fun(g:Bool)=>bif !g then Sa (Ac (Ac (Ac (3:Int))))else wL (zR (fun(d:Int)=>bif decide (d<a)then Aa (idx c d) fun(h:Ty.El zOu)=>Aa (idx c a) fun(i:Ty.El zOu)=>bif h.1==i.1 then Sa (Ac (Ac (Ac (Ac (Ac (4:Int))))))else Sa (Ae (Ab .i64 (d+(1:Int))))else Sa (Ac (Ae ()))) (0:Int)) fun(r:Unit)=>Aa (idx c a) fun(j:Ty.El zOu)=>bif (↑(Ad j.2.1):Int)==(0:Int)then Sa (Ac (Ac (Ac (1:Int))))else Aa (idx c a) fun(k:Ty.El zOu)=>bif decide ((↑(Ad k.2.1):Int)>(16:Int))then Sa (Ac (Ac (Ac (7:Int))))else zR (fun(e:Int)=>Aa (idx c a) fun(l:Ty.El zOu)=>bif decide (e< (↑(Ad l.2.1):Int))then Aa (idx c a) fun(m:Ty.El zOu)=>Aa (idx m.2.1 e) fun(n:Ty.El zWm)=>Aa (zC6 (n,())) fun(q:Bool)=>bif !q then Sa (Ac (Ac (Ac (Ac (1:Int)))))else Sa (Ae (Ab .i64 (e+(1:Int))))else Sa (Ac (Ae ()))) (0:Int)) fun(t:Unit)=>Sa (Ae (Ab .i64 (a+(1:Int))))else Sa (Ac (Ae ()))) (0:Int)) fun(u:Unit)=>Sa (0:Int)
def zF2:ElS [zG,.str]->Option (RTy.El (.p tI)):=fun x=>match x with|(c,d,())=>wL (zR (fun(a:Int)=>bif decide (a< (↑(Ad c.2.2.2.2.2.1):Int))then Aa (idx c.2.2.2.2.2.1 a) fun(e:Ty.El zOu)=>bif e.1==d then Sa (Ac (Ac a))else Sa (Ae (Ab .i64 (a+(1:Int))))else Sa (Ac (Ae ()))) (0:Int)) fun(f:Unit)=>Sa (-1:Int)
def xK:ElS [zG]->Option (RTy.El (.p tI)):=fun x=>match x with|(e,())=>bif decide ((↑(Ad e.2.2.2.2.2.2.1):Int)>(8:Int))then Sa (7:Int)else wL (zR (fun(d:Int)=>bif decide (d< (↑(Ad e.2.2.2.2.2.2.1):Int))then Aa (idx e.2.2.2.2.2.2.1 d) fun(a:Ty.El qG5)=>Aa (bif a.1==(1:Int)then Aa (bif a.2.1 !=(0:Int)then bif a.2.2.1 !=(0:Int)then Sa (a.1==a.1&&(a.2.1==a.2.1&&(a.2.2.1==a.2.2.1&&(a.2.2.2.1==(0:Int)&&(a.2.2.2.2.1==(0:Int)&&(a.2.2.2.2.2.1==(0:Int)&&(a.2.2.2.2.2.2.1== { data:= #[] } &&(a.2.2.2.2.2.2.2.1==(0:Int)&&(a.2.2.2.2.2.2.2.2.1==(0:Int)&&Sb)))))))))else Sa Sc else Sa Sc) fun(f:Bool)=>Sa f else bif a.1==(2:Int)then Aa (bif a.2.2.2.2.2.2.2.1 !=(0:Int)then bif decide (a.2.2.2.2.2.2.2.1<=a.2.2.2.2.2.2.2.2.1)then bif decide (Ab .u32 (a.2.2.2.2.2.2.2.2.1-a.2.2.2.2.2.2.2.1)< (8:Int))then Sa (a.1==a.1&&(a.2.1==(0:Int)&&(a.2.2.1==(0:Int)&&(a.2.2.2.1==(0:Int)&&(a.2.2.2.2.1==(0:Int)&&(a.2.2.2.2.2.1==(0:Int)&&(a.2.2.2.2.2.2.1==a.2.2.2.2.2.2.1&&(a.2.2.2.2.2.2.2.1==a.2.2.2.2.2.2.2.1&&(a.2.2.2.2.2.2.2.2.1==a.2.2.2.2.2.2.2.2.1&&Sb)))))))))else Sa Sc else Sa Sc else Sa Sc) fun(g:Bool)=>Sa g else bif a.1==(3:Int)then Aa (bif a.2.1 !=(0:Int)then bif a.2.2.1 !=(0:Int)then bif a.2.2.2.1==(6:Int)then Aa (qB (a.2.2.2.2.1,(0:Int),(65535:Int),())) fun(h:Bool)=>bif h then Aa (qB (a.2.2.2.2.2.1,(0:Int),(65535:Int),())) fun(i:Bool)=>bif i then bif a.2.2.2.2.2.2.1== { data:= #[] }then bif a.2.2.2.2.2.2.2.1==(0:Int)then Sa (a.2.2.2.2.2.2.2.2.1==(0:Int))else Sa Sc else Sa Sc else Sa Sc else Sa Sc else bif a.2.2.2.1==(17:Int)then Aa (qB (a.2.2.2.2.1,(0:Int),(65535:Int),())) fun(j:Bool)=>bif j then Aa (qB (a.2.2.2.2.2.1,(0:Int),(65535:Int),())) fun(k:Bool)=>bif k then bif a.2.2.2.2.2.2.1== { data:= #[] }then bif a.2.2.2.2.2.2.2.1==(0:Int)then Sa (a.2.2.2.2.2.2.2.2.1==(0:Int))else Sa Sc else Sa Sc else Sa Sc else Sa Sc else Sa Sc else Sa Sc else Sa Sc) fun(l:Bool)=>Sa l else Sa Sc) fun(m:Bool)=>bif !m then Sa (Ac (Ac (1:Int)))else Aa (bif a.1==(2:Int)then Aa (zF2 (e,a.2.2.2.2.2.2.1,())) fun(n:Int)=>Sa (decide (n< (0:Int)))else Sa Sc) fun(q:Bool)=>bif q then Sa (Ac (Ac (5:Int)))else Sa (Ae (Ab .i64 (d+(1:Int))))else Sa (Ac (Ae ()))) (0:Int)) fun(r:Unit)=>Sa (0:Int)
def zC5:ElS [zG]->Option (RTy.El (.p tI)):=fun x=>match x with|(e,())=>wL (zR (fun(d:Int)=>bif decide (d< (↑(Ad e.2.2.1):Int))then Aa (idx e.2.2.1 d) fun(a:Ty.El z6)=>Aa (bif a.2.2.2.2.2.2.2.2.2.1 != { data:= #[] }then Aa (zF2 (e,a.2.2.2.2.2.2.2.2.2.1,())) fun(f:Int)=>bif decide (f< (0:Int))then Sa Sb else bif a.2.2.2.2.2.2.2.2.2.2.1 != { data:= #[] }then Aa (zF2 (e,a.2.2.2.2.2.2.2.2.2.2.1,())) fun(g:Int)=>Sa (decide (g< (0:Int)))else Sa Sc else bif a.2.2.2.2.2.2.2.2.2.2.1 != { data:= #[] }then Aa (zF2 (e,a.2.2.2.2.2.2.2.2.2.2.1,())) fun(h:Int)=>Sa (decide (h< (0:Int)))else Sa Sc) fun(i:Bool)=>bif i then Sa (Ac (Ac (5:Int)))else Sa (Ae (Ab .i64 (d+(1:Int))))else Sa (Ac (Ae ()))) (0:Int)) fun(j:Unit)=>Sa (0:Int)
def zAF:ElS [zG,tU]->Option (RTy.El (.p tI)):=fun x=>match x with|(c,g,())=>wL (zR (fun(a:Int)=>bif decide (a< (↑(Ad c.2.2.1):Int))then Aa (Aa (idx c.2.2.1 a) fun(d:Ty.El z6)=>bif d.2.2.1 !=(0:Int)then Aa (idx c.2.2.1 a) fun(e:Ty.El z6)=>Sa (e.2.1==g)else Sa Sc) fun(f:Bool)=>bif f then Sa (Ac (Ac a))else Sa (Ae (Ab .i64 (a+(1:Int))))else Sa (Ac (Ae ()))) (0:Int)) fun(h:Unit)=>Sa (-1:Int)
def zAj:ElS [zG,.str]->Option (RTy.El (.p tI)):=fun x=>match x with|(c,d,())=>wL (zR (fun(a:Int)=>bif decide (a< (↑(Ad c.2.2.1):Int))then Aa (idx c.2.2.1 a) fun(e:Ty.El z6)=>bif e.1==d then Sa (Ac (Ac a))else Sa (Ae (Ab .i64 (a+(1:Int))))else Sa (Ac (Ae ()))) (0:Int)) fun(f:Unit)=>Sa (-1:Int)
def zBD:ElS [zG]->Option (RTy.El (.p tI)):=fun x=>match x with|(e,())=>bif decide ((↑(Ad e.2.2.2.2.2.2.2.1):Int)>(16:Int))then Sa (7:Int)else wL (zR (fun(c:Int)=>bif decide (c< (↑(Ad e.2.2.2.2.2.2.2.1):Int))then wL (Aa (idx e.2.2.2.2.2.2.2.1 c) fun(a:Ty.El zM1)=>Aa (bif a.2.1 !=(0:Int)then Sa (Ab .i64 ((0:Int)+(1:Int)))else Sa (0:Int)) fun(f:Int)=>Aa (bif a.2.2.1 != { data:= #[] }then Sa (Ab .i64 (f+(1:Int)))else Sa f) fun(g:Int)=>Aa (bif a.2.2.2.1 then Sa (Ab .i64 (g+(1:Int)))else Sa g) fun(k:Int)=>Aa (Aa (u7 (a.1,())) fun(l:Bool)=>bif !l then Sa Sb else bif k !=(1:Int)then Sa Sb else bif a.2.1 !=(0:Int)then Aa (zAF (e,a.2.1,())) fun(m:Int)=>bif decide (m>=(0:Int))then Sa Sb else Aa (qB (a.2.2.2.2.1,(1:Int),(255:Int),())) fun(n:Bool)=>bif !n then Sa Sb else Aa (qB (a.2.2.2.2.2.1,(0:Int),(65535:Int),())) fun(q:Bool)=>Sa !q else Aa (qB (a.2.2.2.2.1,(1:Int),(255:Int),())) fun(r:Bool)=>bif !r then Sa Sb else Aa (qB (a.2.2.2.2.2.1,(0:Int),(65535:Int),())) fun(t:Bool)=>Sa !t) fun(u:Bool)=>bif u then Sa (Ac (Ac (Ac (1:Int))))else wL (bif a.2.2.1 != { data:= #[] }then Aa (zAj (e,a.2.2.1,())) fun(h:Int)=>bif decide (h< (0:Int))then Sa (Ac (Ac (Ac (Ac (5:Int)))))else Aa (idx e.2.2.1 h) fun(y:Ty.El z6)=>bif y.2.2.1==(0:Int)then Sa (Ac (Ac (Ac (Ac (1:Int)))))else Sa (Ae ())else Sa (Ae ())) fun(B:Unit)=>zR (fun(d:Int)=>bif decide (d<c)then Aa (Aa (idx e.2.2.2.2.2.2.2.1 d) fun(i:Ty.El zM1)=>bif i.1.1==a.1.1&&(i.1.2.1==a.1.2.1&&Sb)then Aa (idx e.2.2.2.2.2.2.2.1 d) fun(z:Ty.El zM1)=>Sa (z.2.2.2.2.1==a.2.2.2.2.1)else Sa Sc) fun(A:Bool)=>bif A then Sa (Ac (Ac (Ac (Ac (6:Int)))))else Sa (Ae (Ab .i64 (d+(1:Int))))else Sa (Ac (Ae ()))) (0:Int)) fun(C:Unit)=>Sa (Ae (Ab .i64 (c+(1:Int))))else Sa (Ac (Ae ()))) (0:Int)) fun(D:Unit)=>Sa (0:Int)
def xV:ElS [zG,.str]->Option (RTy.El (.p tI)):=fun x=>match x with|(c,d,())=>wL (zR (fun(a:Int)=>bif decide (a< (↑(Ad c.2.2.2.2.1):Int))then Aa (idx c.2.2.2.2.1 a) fun(e:Ty.El zLl)=>bif e.1==d then Sa (Ac (Ac a))else Sa (Ae (Ab .i64 (a+(1:Int))))else Sa (Ac (Ae ()))) (0:Int)) fun(f:Unit)=>Sa (-1:Int)
def kK:ElS [zG,(.sl zGL),tI,tI,tI]->Option (RTy.El (.p tI)):=fun x=>match x with|(r,f,e,t,u,())=>bif decide ((↑(Ad f):Int)>(4:Int))then Sa (7:Int)else wL (zR (fun(c:Int)=>bif decide (c< (↑(Ad f):Int))then wL (Aa (idx f c) fun(a:Ty.El zGL)=>Aa (Aa (qB (a.1,(1:Int),(5:Int),())) fun(g:Bool)=>bif !g then Sa Sb else bif a.1==e then Sa Sb else Aa (qB (a.2.1,t,u,())) fun(h:Bool)=>bif !h then Sa Sb else Aa (qB (a.2.2.1,(0:Int),(65535:Int),())) fun(i:Bool)=>Sa !i) fun(j:Bool)=>bif j then Sa (Ac (Ac (Ac (1:Int))))else Aa (bif e==(3:Int)then bif a.2.2.2.2.1 !=(1:Int)then bif a.2.2.2.2.1 !=(2:Int)then Sa Sb else bif e !=(3:Int)then Sa (a.2.2.2.2.1 !=(0:Int))else Sa Sc else bif e !=(3:Int)then Sa (a.2.2.2.2.1 !=(0:Int))else Sa Sc else bif e !=(3:Int)then Sa (a.2.2.2.2.1 !=(0:Int))else Sa Sc) fun(k:Bool)=>bif k then Sa (Ac (Ac (Ac (1:Int))))else Aa (bif a.2.2.2.1 != { data:= #[] }then Aa (xV (r,a.2.2.2.1,())) fun(l:Int)=>Sa (decide (l< (0:Int)))else Sa Sc) fun(m:Bool)=>bif m then Sa (Ac (Ac (Ac (5:Int))))else zR (fun(d:Int)=>bif decide (d<c)then Aa (idx f d) fun(n:Ty.El zGL)=>bif n.1==a.1 then Sa (Ac (Ac (Ac (Ac (4:Int)))))else Sa (Ae (Ab .i64 (d+(1:Int))))else Sa (Ac (Ae ()))) (0:Int)) fun(y:Unit)=>Sa (Ae (Ab .i64 (c+(1:Int))))else Sa (Ac (Ae ()))) (0:Int)) fun(z:Unit)=>Sa (0:Int)
def zBf:ElS [zG]->Option (RTy.El (.p tI)):=fun x=>match x with|(a,())=>bif !a.2.2.2.2.2.2.2.2.1.1 then Aa (bif a.2.2.2.2.2.2.2.2.1.2.1 !=(0:Int)then Sa Sb else bif decide ((↑(Ad a.2.2.2.2.2.2.2.2.1.2.2.1):Int)>(0:Int))then Sa Sb else Sa (decide ((↑(Ad a.2.2.2.2.2.2.2.2.1.2.2.2.1):Int)>(0:Int)))) fun(t:Bool)=>bif t then Sa (1:Int)else Sa (0:Int)else Aa (qB (a.2.2.2.2.2.2.2.2.1.2.1,(1:Int),(255:Int),())) fun(u:Bool)=>bif !u then Sa (1:Int)else bif decide ((↑(Ad a.2.2.2.2.2.2.2.2.1.2.2.1):Int)>(4:Int))then Sa (7:Int)else wL (zR (fun(c:Int)=>bif decide (c< (↑(Ad a.2.2.2.2.2.2.2.2.1.2.2.1):Int))then wL (Aa (Aa (idx a.2.2.2.2.2.2.2.2.1.2.2.1 c) fun(e:Ty.El vK)=>Aa (qB (e.1,(0:Int),(255:Int),())) fun(f:Bool)=>bif !f then Sa Sb else Aa (idx a.2.2.2.2.2.2.2.2.1.2.2.1 c) fun(g:Ty.El vK)=>Aa (u7 (g.2.1,())) fun(h:Bool)=>Sa !h) fun(i:Bool)=>bif i then Sa (Ac (Ac (Ac (1:Int))))else zR (fun(d:Int)=>bif decide (d<c)then Aa (Aa (idx a.2.2.2.2.2.2.2.2.1.2.2.1 d) fun(j:Ty.El vK)=>Aa (idx a.2.2.2.2.2.2.2.2.1.2.2.1 c) fun(k:Ty.El vK)=>bif j.1==k.1 then Aa (idx a.2.2.2.2.2.2.2.2.1.2.2.1 d) fun(l:Ty.El vK)=>Aa (idx a.2.2.2.2.2.2.2.2.1.2.2.1 c) fun(m:Ty.El vK)=>Aa (xX (l.2.1,m.2.1,())) fun(n:Bool)=>Sa n else Sa Sc) fun(q:Bool)=>bif q then Sa (Ac (Ac (Ac (Ac (6:Int)))))else Sa (Ae (Ab .i64 (d+(1:Int))))else Sa (Ac (Ae ()))) (0:Int)) fun(y:Unit)=>Sa (Ae (Ab .i64 (c+(1:Int))))else Sa (Ac (Ae ()))) (0:Int)) fun(z:Unit)=>Aa (kK (a,a.2.2.2.2.2.2.2.2.1.2.2.2.1,(3:Int),(0:Int),(16777215:Int),())) fun(r:Int)=>Sa r
def zB0:ElS [zG]->Option (RTy.El (.p tI)):=fun x=>match x with|(a,())=>bif !a.2.2.2.2.2.2.2.2.2.1.1 then Aa (bif a.2.2.2.2.2.2.2.2.2.1.2.1 !=(0:Int)then Sa Sb else bif a.2.2.2.2.2.2.2.2.2.1.2.2.1 != { data:= #[] }then Sa Sb else bif a.2.2.2.2.2.2.2.2.2.1.2.2.2.1 != { data:= #[] }then Sa Sb else Sa (decide ((↑(Ad a.2.2.2.2.2.2.2.2.2.1.2.2.2.2.1):Int)>(0:Int)))) fun(d:Bool)=>bif d then Sa (1:Int)else Sa (0:Int)else Aa (qB (a.2.2.2.2.2.2.2.2.2.1.2.1,(1:Int),(255:Int),())) fun(e:Bool)=>bif !e then Sa (1:Int)else Aa (bif a.2.2.2.2.2.2.2.2.2.1.2.2.1 != { data:= #[] }then Aa (u6 (a,a.2.2.2.2.2.2.2.2.2.1.2.2.1,())) fun(f:Int)=>bif decide (f< (0:Int))then Sa Sb else bif a.2.2.2.2.2.2.2.2.2.1.2.2.2.1 != { data:= #[] }then Aa (u6 (a,a.2.2.2.2.2.2.2.2.2.1.2.2.2.1,())) fun(g:Int)=>Sa (decide (g< (0:Int)))else Sa Sc else bif a.2.2.2.2.2.2.2.2.2.1.2.2.2.1 != { data:= #[] }then Aa (u6 (a,a.2.2.2.2.2.2.2.2.2.1.2.2.2.1,())) fun(h:Int)=>Sa (decide (h< (0:Int)))else Sa Sc) fun(i:Bool)=>bif i then Sa (5:Int)else Aa (kK (a,a.2.2.2.2.2.2.2.2.2.1.2.2.2.2.1,(4:Int),(1:Int),(15:Int),())) fun(j:Int)=>Sa j
def zC4:ElS [zG]->Option (RTy.El (.p tI)):=fun x=>match x with|(c,())=>bif decide ((↑(Ad c.2.2.2.2.2.2.2.2.2.2.1.2.2.2.1):Int)>(8:Int))then Sa (7:Int)else wL (zR (fun(a:Int)=>bif decide (a< (↑(Ad c.2.2.2.2.2.2.2.2.2.2.1.2.2.2.1):Int))then wL (Aa (Aa (idx c.2.2.2.2.2.2.2.2.2.2.1.2.2.2.1 a) fun(f:Ty.El zAf)=>bif f.1==(0:Int)then Sa Sb else Aa (idx c.2.2.2.2.2.2.2.2.2.2.1.2.2.2.1 a) fun(g:Ty.El zAf)=>Aa (qB (g.2.1,(1:Int),(65535:Int),())) fun(h:Bool)=>Sa !h) fun(i:Bool)=>bif i then Sa (Ac (Ac (Ac (1:Int))))else Aa (Aa (idx c.2.2.2.2.2.2.2.2.2.2.1.2.2.2.1 a) fun(j:Ty.El zAf)=>bif j.2.2.1 != { data:= #[] }then Aa (idx c.2.2.2.2.2.2.2.2.2.2.1.2.2.2.1 a) fun(k:Ty.El zAf)=>Aa (xV (c,k.2.2.1,())) fun(l:Int)=>bif decide (l< (0:Int))then Sa Sb else Aa (idx c.2.2.2.2.2.2.2.2.2.2.1.2.2.2.1 a) fun(m:Ty.El zAf)=>bif m.2.2.2.1 != { data:= #[] }then Aa (idx c.2.2.2.2.2.2.2.2.2.2.1.2.2.2.1 a) fun(n:Ty.El zAf)=>Aa (xV (c,n.2.2.2.1,())) fun(q:Int)=>Sa (decide (q< (0:Int)))else Sa Sc else Aa (idx c.2.2.2.2.2.2.2.2.2.2.1.2.2.2.1 a) fun(r:Ty.El zAf)=>bif r.2.2.2.1 != { data:= #[] }then Aa (idx c.2.2.2.2.2.2.2.2.2.2.1.2.2.2.1 a) fun(t:Ty.El zAf)=>Aa (xV (c,t.2.2.2.1,())) fun(u:Int)=>Sa (decide (u< (0:Int)))else Sa Sc) fun(y:Bool)=>bif y then Sa (Ac (Ac (Ac (5:Int))))else zR (fun(e:Int)=>bif decide (e<a)then Aa (idx c.2.2.2.2.2.2.2.2.2.2.1.2.2.2.1 e) fun(z:Ty.El zAf)=>Aa (idx c.2.2.2.2.2.2.2.2.2.2.1.2.2.2.1 a) fun(A:Ty.El zAf)=>bif z.1==A.1 then Sa (Ac (Ac (Ac (Ac (4:Int)))))else Sa (Ae (Ab .i64 (e+(1:Int))))else Sa (Ac (Ae ()))) (0:Int)) fun(C:Unit)=>Sa (Ae (Ab .i64 (a+(1:Int))))else Sa (Ac (Ae ()))) (0:Int)) fun(B:Unit)=>Sa (0:Int)
def zA5:ElS [tPV]->Option (RTy.El (.p tI)):=fun x=>match x with|(c,())=>bif decide ((↑(Ad c.2.2.2.2.1):Int)>(8:Int))then Sa (7:Int)else wL (zR (fun(e:Int)=>bif decide (e< (↑(Ad c.2.2.2.2.1):Int))then wL (Aa (idx c.2.2.2.2.1 e) fun(u:Ty.El zD)=>Aa (u7 (u,())) fun(y:Bool)=>bif !y then Sa (Ac (Ac (Ac (1:Int))))else zR (fun(i:Int)=>bif decide (i<e)then Aa (idx c.2.2.2.2.1 i) fun(k:Ty.El zD)=>Aa (idx c.2.2.2.2.1 e) fun(l:Ty.El zD)=>bif k.1==l.1&&(k.2.1==l.2.1&&Sb)then Sa (Ac (Ac (Ac (Ac (4:Int)))))else Sa (Ae (Ab .i64 (i+(1:Int))))else Sa (Ac (Ae ()))) (0:Int)) fun(D:Unit)=>Sa (Ae (Ab .i64 (e+(1:Int))))else Sa (Ac (Ae ()))) (0:Int)) fun(E:Unit)=>bif decide ((↑(Ad c.2.2.2.2.2.1):Int)>(8:Int))then Sa (7:Int)else wL (zR (fun(f:Int)=>bif decide (f< (↑(Ad c.2.2.2.2.2.1):Int))then wL (Aa (idx c.2.2.2.2.2.1 f) fun(z:Ty.El zIh)=>Aa (u7 (z.1,())) fun(A:Bool)=>bif !A then Sa (Ac (Ac (Ac (1:Int))))else zR (fun(j:Int)=>bif decide (j<f)then Aa (idx c.2.2.2.2.2.1 j) fun(m:Ty.El zIh)=>Aa (idx c.2.2.2.2.2.1 f) fun(n:Ty.El zIh)=>bif m.1.1==n.1.1&&(m.1.2.1==n.1.2.1&&Sb)then Sa (Ac (Ac (Ac (Ac (4:Int)))))else Sa (Ae (Ab .i64 (j+(1:Int))))else Sa (Ac (Ae ()))) (0:Int)) fun(F:Unit)=>Sa (Ae (Ab .i64 (f+(1:Int))))else Sa (Ac (Ae ()))) (0:Int)) fun(G:Unit)=>bif decide ((↑(Ad c.2.2.2.2.2.2.1):Int)>(8:Int))then Sa (7:Int)else wL (zR (fun(d:Int)=>bif decide (d< (↑(Ad c.2.2.2.2.2.2.1):Int))then wL (Aa (idx c.2.2.2.2.2.2.1 d) fun(a:Ty.El zLU)=>Aa (Aa (u7 (a.1,())) fun(q:Bool)=>bif !q then Sa Sb else Aa (u7 (a.2.1,())) fun(r:Bool)=>Sa !r) fun(t:Bool)=>bif t then Sa (Ac (Ac (Ac (1:Int))))else bif a.1.1==a.2.1.1&&(a.1.2.1==a.2.1.2.1&&Sb)then Sa (Ac (Ac (Ac (6:Int))))else zR (fun(g:Int)=>bif decide (g<d)then Aa (idx c.2.2.2.2.2.2.1 g) fun(h:Ty.El zLU)=>bif h.1.1==a.1.1&&(h.1.2.1==a.1.2.1&&Sb)then Sa (Ac (Ac (Ac (Ac (4:Int)))))else Sa (Ae (Ab .i64 (g+(1:Int))))else Sa (Ac (Ae ()))) (0:Int)) fun(B:Unit)=>Sa (Ae (Ab .i64 (d+(1:Int))))else Sa (Ac (Ae ()))) (0:Int)) fun(C:Unit)=>Sa (0:Int)
def zAO:ElS [zG]->Option (RTy.El (.p tI)):=fun x=>match x with|(a,())=>bif !a.2.2.2.2.2.2.2.2.2.2.1.1 then Aa (bif a.2.2.2.2.2.2.2.2.2.2.1.2.1 !=(0:Int)then Sa Sb else bif a.2.2.2.2.2.2.2.2.2.2.1.2.2.1 !=(0:Int)then Sa Sb else Sa (decide (Ab .i64 (Ab .i64 (Ab .i64 (Ab .i64 ((↑(Ad a.2.2.2.2.2.2.2.2.2.2.1.2.2.2.1):Int)+(↑(Ad a.2.2.2.2.2.2.2.2.2.2.1.2.2.2.2.1):Int))+(↑(Ad a.2.2.2.2.2.2.2.2.2.2.1.2.2.2.2.2.1):Int))+(↑(Ad a.2.2.2.2.2.2.2.2.2.2.1.2.2.2.2.2.2.1):Int))+(↑(Ad a.2.2.2.2.2.2.2.2.2.2.1.2.2.2.2.2.2.2.1):Int))>(0:Int)))) fun(e:Bool)=>bif e then Sa (1:Int)else Sa (0:Int)else Aa (bif a.2.1==(0:Int)then Sa Sb else Aa (qB (a.2.2.2.2.2.2.2.2.2.2.1.2.1,(1:Int),(255:Int),())) fun(f:Bool)=>bif !f then Sa Sb else Aa (qB (a.2.2.2.2.2.2.2.2.2.2.1.2.2.1,(1:Int),(255:Int),())) fun(g:Bool)=>Sa !g) fun(h:Bool)=>bif h then Sa (1:Int)else Aa (zC4 (a,())) fun(c:Int)=>bif c !=(0:Int)then Sa c else Aa (zA5 (a.2.2.2.2.2.2.2.2.2.2.1,())) fun(d:Int)=>bif d !=(0:Int)then Sa d else Aa (kK (a,a.2.2.2.2.2.2.2.2.2.2.1.2.2.2.2.2.2.2.1,(5:Int),(0:Int),(16777215:Int),())) fun(i:Int)=>Sa i
def yM:ElS [zG]->Option (RTy.El (.p tI)):=fun x=>match x with|(a,())=>Aa (zCy (a.1,())) fun(r:Bool)=>bif !r then Sa (3:Int)else Aa (qB (a.2.1,(0:Int),(65535:Int),())) fun(t:Bool)=>bif !t then Sa (1:Int)else Aa (xD (a.2.2.1,())) fun(d:Int)=>Aa (zAh (a.2.2.2.1,())) fun(e:Int)=>Aa (zBe (a,())) fun(f:Int)=>Aa (zAi (a.2.2.2.2.2.1,())) fun(g:Int)=>Aa (xK (a,())) fun(h:Int)=>Aa (zC5 (a,())) fun(i:Int)=>Aa (zBD (a,())) fun(j:Int)=>Aa (zBf (a,())) fun(k:Int)=>Aa (zB0 (a,())) fun(l:Int)=>Aa (zAO (a,())) fun(m:Int)=>wL (zR (fun(c:Int)=>bif decide (c< (↑(Ad [d,e,f,g,h,i,j,k,l,m]):Int))then Aa (idx [d,e,f,g,h,i,j,k,l,m] c) fun(n:Int)=>bif n !=(0:Int)then Aa (idx [d,e,f,g,h,i,j,k,l,m] c) fun(q:Int)=>Sa (Ac (Ac q))else Sa (Ae (Ab .i64 (c+(1:Int))))else Sa (Ac (Ae ()))) (0:Int)) fun(u:Unit)=>Sa (0:Int)
def xW:ElS [zI]->Option (RTy.El (.p tI)):=fun x=>match x with|(f,())=>bif decide ((↑(Ad f.1):Int)>(8:Int))then Sa (7:Int)else wL (zR (fun(a:Int)=>bif decide (a< (↑(Ad f.1):Int))then wL (Aa (idx f.1 a) fun(i:Ty.El zG)=>Aa (yM (i,())) fun(g:Int)=>bif g !=(0:Int)then Sa (Ac (Ac (Ac g)))else wL (zR (fun(c:Int)=>bif decide (c<a)then Aa (idx f.1 c) fun(j:Ty.El zG)=>Aa (idx f.1 a) fun(k:Ty.El zG)=>bif j.1==k.1 then Sa (Ac (Ac (Ac (Ac (Ac (4:Int))))))else Sa (Ae (Ab .i64 (c+(1:Int))))else Sa (Ac (Ae ()))) (0:Int)) fun(t:Unit)=>zR (fun(d:Int)=>Aa (idx f.1 a) fun(l:Ty.El zG)=>bif decide (d< (↑(Ad l.2.2.1):Int))then wL (Aa (idx f.1 a) fun(m:Ty.El zG)=>Aa (idx m.2.2.1 d) fun(h:Ty.El z6)=>zR (fun(e:Int)=>bif decide (e<a)then Aa (bif h.2.2.1 !=(0:Int)then Aa (idx f.1 e) fun(n:Ty.El zG)=>Aa (zAF (n,h.2.1,())) fun(q:Int)=>Sa (decide (q>=(0:Int)))else Sa Sc) fun(r:Bool)=>bif r then Sa (Ac (Ac (Ac (Ac (Ac (Ac (4:Int)))))))else Sa (Ae (Ab .i64 (e+(1:Int))))else Sa (Ac (Ae ()))) (0:Int)) fun(u:Unit)=>Sa (Ae (Ab .i64 (d+(1:Int))))else Sa (Ac (Ae ()))) (0:Int)) fun(y:Unit)=>Sa (Ae (Ab .i64 (a+(1:Int))))else Sa (Ac (Ae ()))) (0:Int)) fun(z:Unit)=>Sa (0:Int)
def zIy:ElS [zG]->Option (RTy.El (.p .bool)):=fun x=>match x with|(a,())=>Aa (bif decide ((↑(Ad a.2.2.1):Int)>(12:Int))then Sa Sb else bif decide ((↑(Ad a.2.2.2.1):Int)>(12:Int))then Sa Sb else bif decide ((↑(Ad a.2.2.2.2.1):Int)>(12:Int))then Sa Sb else bif decide ((↑(Ad a.2.2.2.2.2.1):Int)>(12:Int))then Sa Sb else bif decide ((↑(Ad a.2.2.2.2.2.2.1):Int)>(12:Int))then Sa Sb else bif decide ((↑(Ad a.2.2.2.2.2.2.2.1):Int)>(20:Int))then Sa Sb else bif decide ((↑(Ad a.2.2.2.2.2.2.2.2.1.2.2.1):Int)>(8:Int))then Sa Sb else bif decide ((↑(Ad a.2.2.2.2.2.2.2.2.1.2.2.2.1):Int)>(8:Int))then Sa Sb else bif decide ((↑(Ad a.2.2.2.2.2.2.2.2.2.1.2.2.2.2.1):Int)>(8:Int))then Sa Sb else bif decide ((↑(Ad a.2.2.2.2.2.2.2.2.2.2.1.2.2.2.2.2.2.2.1):Int)>(8:Int))then Sa Sb else bif decide ((↑(Ad a.2.2.2.2.2.2.2.2.2.2.1.2.2.2.1):Int)>(12:Int))then Sa Sb else bif decide ((↑(Ad a.2.2.2.2.2.2.2.2.2.2.1.2.2.2.2.1):Int)>(12:Int))then Sa Sb else bif decide ((↑(Ad a.2.2.2.2.2.2.2.2.2.2.1.2.2.2.2.2.1):Int)>(12:Int))then Sa Sb else Sa (decide ((↑(Ad a.2.2.2.2.2.2.2.2.2.2.1.2.2.2.2.2.2.1):Int)>(12:Int)))) fun(h:Bool)=>bif h then Sa Sc else wL (zR (fun(e:Int)=>bif decide (e< (↑(Ad a.2.2.2.1):Int))then Aa (idx a.2.2.2.1 e) fun(i:Ty.El zDX)=>bif decide ((↑(Ad i.2.1):Int)>(20:Int))then Sa (Ac (Ac Sc))else Sa (Ae (Ab .i64 (e+(1:Int))))else Sa (Ac (Ae ()))) (0:Int)) fun(l:Unit)=>wL (zR (fun(c:Int)=>bif decide (c< (↑(Ad a.2.2.2.2.1):Int))then Aa (idx a.2.2.2.2.1 c) fun(f:Ty.El zLl)=>bif decide ((↑(Ad f.2.1):Int)>(12:Int))then Sa (Ac (Ac Sc))else Sa (Ae (Ab .i64 (c+(1:Int))))else Sa (Ac (Ae ()))) (0:Int)) fun(j:Unit)=>wL (zR (fun(d:Int)=>bif decide (d< (↑(Ad a.2.2.2.2.2.1):Int))then Aa (idx a.2.2.2.2.2.1 d) fun(g:Ty.El zOu)=>bif decide ((↑(Ad g.2.1):Int)>(20:Int))then Sa (Ac (Ac Sc))else Sa (Ae (Ab .i64 (d+(1:Int))))else Sa (Ac (Ae ()))) (0:Int)) fun(k:Unit)=>Sa Sb
def zGW:ElS [zI]->Option (RTy.El (.p .bool)):=fun x=>match x with|(a,())=>bif decide ((↑(Ad a.1):Int)>(9:Int))then Sa Sc else wL (zR (fun(c:Int)=>bif decide (c< (↑(Ad a.1):Int))then Aa (idx a.1 c) fun(d:Ty.El zG)=>Aa (zIy (d,())) fun(e:Bool)=>bif !e then Sa (Ac (Ac Sc))else Sa (Ae (Ab .i64 (c+(1:Int))))else Sa (Ac (Ae ()))) (0:Int)) fun(f:Unit)=>Sa Sb
def zC7:ElS [zD,zD]->Option (RTy.El (.p tI)):=fun x=>match x with|(a,c,())=>Aa (bif decide (a.1<c.1)then Sa Sb else bif a.1==c.1 then Sa (decide (a.2.1<c.2.1))else Sa Sc) fun(d:Bool)=>bif d then Sa (-1:Int)else bif a.1==c.1&&(a.2.1==c.2.1&&Sb)then Sa (0:Int)else Sa (1:Int)
def zEl:HSt zS->ElS [zI]->Option (HSt zS×RTy.El (.tu [zLT,tI])):=fun m x=>match x with|(t,())=>Aa (xW (t,())) fun(M:Int)=>bif M !=(0:Int)then Sa (m,([],[],()),M,())else Aa (zR (fun(h:Int×(List (Ty.El zX)×List Int)×HSt zS)=>bif decide (h.1< (↑(Ad t.1):Int))then Aa (zR (fun(i:Int×(List (Ty.El zX)×List Int)×HSt zS)=>Aa (idx t.1 h.1) fun(N:Ty.El zG)=>bif decide (i.1< (↑(Ad N.2.2.1):Int))then Aa (Aa (idx t.1 h.1) fun(O:Ty.El zG)=>Aa (idx O.2.2.1 i.1) fun(j:Ty.El z6)=>Aa (bif j.2.2.1==(0:Int)then Sa (Sb,i.2)else Sa (j.2.2.2.2.1,i.2)) fun(u:Bool×(List (Ty.El zX)×List Int)×HSt zS)=>bif u.1 then Sa u.2 else Aa (uC (j.2.1,j.2.2.1,())) fun(l:Int×Int×Unit)=>Aa (zR (fun(e:Int×(List (Ty.El zX)×List Int)×HSt zS)=>Aa (bif decide (e.1< (↑(Ad e.2.1.1):Int))then Aa (idx e.2.1.1 e.1) fun(P:Ty.El zX)=>Aa (atN e.2.1.1 (Af e.1)) fun(y:Ty.El zX)=>Aa (zC7 (y.1,l,())) fun(z:Int)=>bif decide (z< (0:Int))then Sa (Sb,e.2)else Aa (idx e.2.1.1 e.1) fun(Q:Ty.El zX)=>Aa (atN e.2.1.1 (Af e.1)) fun(n:Ty.El zX)=>bif n.1.1==l.1&&(n.1.2.1==l.2.1&&Sb)then Aa (idx e.2.1.1 e.1) fun(S:Ty.El zX)=>Aa (atN e.2.1.1 (Af e.1)) fun(A:Ty.El zX)=>Sa (decide (A.2.1<j.2.2.2.1),e.2)else Sa (Sc,e.2)else Sa (Sc,e.2)) fun(k:Bool×(List (Ty.El zX)×List Int)×HSt zS)=>bif k.1 then Sa (Ae (Ab .i64 (e.1+(1:Int)),k.2))else Sa (Ac (e.1,k.2))) ((0:Int),u.2)) fun(a:Int×(List (Ty.El zX)×List Int)×HSt zS)=>Aa (Aa (bif a.1==(↑(Ad a.2.1.1):Int)then Sa (Sb,a.2)else Aa (idx a.2.1.1 a.1) fun(W:Ty.El zX)=>Aa (atN a.2.1.1 (Af a.1)) fun(p:Ty.El zX)=>bif !(p.1.1==l.1&&(p.1.2.1==l.2.1&&Sb))then Sa (Sb,a.2)else Aa (idx a.2.1.1 a.1) fun(Y:Ty.El zX)=>Aa (atN a.2.1.1 (Af a.1)) fun(B:Ty.El zX)=>Sa (B.2.1 !=j.2.2.2.1,a.2)) fun(d:Bool×(List (Ty.El zX)×List Int)×HSt zS)=>bif d.1 then bif decide ((0:Int)<=a.1)&&decide (a.1<=(↑(Ad d.2.1.1):Int))&&decide ((↑(Ad d.2.1.1):Int)<=(↑(Ad d.2.1.1):Int))then Aa (app (48:Nat) [] (List.drop (Af a.1) (List.take (Af (↑(Ad d.2.1.1):Int)) d.2.1.1))) fun(C:List (Ty.El zX))=>bif decide ((0:Int)<=(0:Int))&&decide ((0:Int)<=a.1)&&decide (a.1<=(↑(Ad d.2.1.1):Int))then Aa (app (48:Nat) (List.take (Af a.1) d.2.1.1) [(l,j.2.2.2.1,Sd,())]) fun(D:List (Ty.El zX))=>Aa (app (48:Nat) D C) fun(E:List (Ty.El zX))=>Sa ((E,d.2.1.2),d.2.2)else Sd else Sd else Sa d.2) fun(f:(List (Ty.El zX)×List Int)×HSt zS)=>Aa (idx f.1.1 a.1) fun(Z:Ty.El zX)=>Aa (atN f.1.1 (Af a.1)) fun(F:Ty.El zX)=>Aa (zNO (16:Nat) f.2 F.2.2.1 [(h.1,i.1,())]) fun(q:List (Option (List (Ty.El zS)))×Option (Nat×Nat))=>Aa (idx f.1.1 a.1) fun(ab:Ty.El zX)=>Aa (atN f.1.1 (Af a.1)) fun(r:Ty.El zX)=>Sa ((Am f.1.1 (Af a.1) (r.1,r.2.1,q.2,()),f.1.2),q.1)) fun(G:(List (Ty.El zX)×List Int)×HSt zS)=>Sa (Ae (Ab .i64 (i.1+(1:Int)),G))else Sa (Ac i.2)) ((0:Int),h.2)) fun(H:(List (Ty.El zX)×List Int)×HSt zS)=>Sa (Ae (Ab .i64 (h.1+(1:Int)),H))else Sa (Ac h.2)) ((0:Int),([],[]),m)) fun(I:(List (Ty.El zX)×List Int)×HSt zS)=>Aa (zR (fun(c:Int×(List (Ty.El zX)×List Int)×HSt zS)=>bif decide (c.1< (↑(Ad c.2.1.1):Int))then Aa (Aa (idx c.2.1.1 c.1) fun(ad:Ty.El zX)=>Aa (atN c.2.1.1 (Af c.1)) fun(J:Ty.El zX)=>bif decide ((↑(qAw J.2.2.1):Int)>(1:Int))then Aa (app (8:Nat) c.2.1.2 [c.1]) fun(K:List Int)=>Sa ((c.2.1.1,K),c.2.2)else Sa c.2) fun(L:(List (Ty.El zX)×List Int)×HSt zS)=>Sa (Ae (Ab .i64 (c.1+(1:Int)),L))else Sa (Ac c.2)) ((0:Int),I)) fun(g:(List (Ty.El zX)×List Int)×HSt zS)=>bif decide ((↑(Ad g.1.2):Int)>(12:Int))then Sa (g.2,([],[],()),(7:Int),())else Sa (g.2,(g.1.1,g.1.2,()),(0:Int),())
def zGS:ElS [zI]->Option (RTy.El (.tu [zLk,tI])):=zRb (.tu [zLT,tI]) zEl
def zCd:ElS [(.sl tI),tI]->Option (RTy.El (.p .bool)):=fun x=>match x with|(c,i,())=>bif decide ((↑(Ad c):Int)>(2:Int))then Sa Sc else wL (zR (fun(a:Int)=>bif decide (a< (↑(Ad c):Int))then Aa (Aa (idx c a) fun(d:Int)=>bif decide (d< (0:Int))then Sa Sb else Aa (idx c a) fun(e:Int)=>bif decide (e>=i)then Sa Sb else bif decide (a>(0:Int))then Aa (idx c a) fun(f:Int)=>Aa (idx c (Ab .i64 (a- (1:Int)))) fun(g:Int)=>Sa (decide (f<=g))else Sa Sc) fun(h:Bool)=>bif h then Sa (Ac (Ac Sc))else Sa (Ae (Ab .i64 (a+(1:Int))))else Sa (Ac (Ae ()))) (0:Int)) fun(j:Unit)=>Sa Sb
def zIp:ElS [zI,(.sl tI)]->Option (RTy.El (.tu [zF,tI])):=fun x=>match x with|(c,d,())=>Aa (zGS (c,())) fun(a:Ty.El zLk×Int×Unit)=>bif a.2.1 !=(0:Int)then Sa ((([],()),([],[],()),[],()),a.2.1,())else Aa (zCd (d,(↑(Ad a.1.2.1):Int),())) fun(e:Bool)=>bif !e then Sa ((([],()),([],[],()),[],()),(1:Int),())else Aa (app (8:Nat) [] d) fun(f:List Int)=>Sa ((c,a.1,f,()),(0:Int),())
def zIz:ElS [zI,(.sl tI)]->Option (RTy.El (.tu [zF,.bool])):=fun x=>match x with|(a,c,())=>Aa (Aa (zGW (a,())) fun(e:Bool)=>bif !e then Sa Sb else Sa (decide ((↑(Ad c):Int)>(2:Int)))) fun(f:Bool)=>bif f then Sa ((([],()),([],[],()),[],()),Sc,())else Aa (zIp (a,c,())) fun(d:Ty.El zF×Int×Unit)=>Sa (d.1,d.2.1==(0:Int),())
def zGs:ElS [tI]->Option (RTy.El (.p tI)):=fun x=>match x with|(a,())=>Sa (if(if(32:Int)<a then(32:Int)else a)>(0:Int)then if(32:Int)<a then(32:Int)else a else(0:Int))
def zH9:ElS [tI]->Option (RTy.El (.p tU)):=fun x=>match x with|(c,())=>Aa (zGs (c,())) fun(a:Int)=>bif decide ((0:Int)<=Ab .i64 ((32:Int) -a))then Sa (Ab .u32 ((4294967295:Int)*(2:Int)^min (Af (Ab .i64 ((32:Int) -a))) (Ag Aj)))else Sd
def zB7:ElS [zD,tU]->Option (RTy.El (.p .bool)):=fun x=>match x with|(a,c,())=>Aa (zH9 (a.2.1,())) fun(d:Int)=>Sa (Ab .u32 (↑(An (Ak (Ag Aj) c&&&Ak (Ag Aj) d)):Int)==a.1)
def yL:ElS [(.sl zS),zS]->Option (RTy.El (.p tI)):=fun x=>match x with|(c,d,())=>wL (zR (fun(a:Int)=>bif decide (a< (↑(Ad c):Int))then Aa (idx c a) fun(e:Ty.El zS)=>bif d.1==e.1&&(d.2.1==e.2.1&&Sb)then Sa (Ac (Ac a))else Sa (Ae (Ab .i64 (a+(1:Int))))else Sa (Ac (Ae ()))) (0:Int)) fun(f:Unit)=>Sa (-1:Int)
def uG:ElS [(.sl zS),zS]->Option (RTy.El (.p .bool)):=fun x=>match x with|(a,c,())=>Aa (yL (a,c,())) fun(d:Int)=>Sa (decide (d>=(0:Int)))
def zAw:ElS [zF,tI,tI]->Option (RTy.El (.p tI)):=fun x=>match x with|(e,f,g,())=>wL (zR (fun(a:Int)=>bif decide (a< (↑(Ad e.2.1.1):Int))then Aa (idx e.2.1.1 a) fun(c:Ty.El uR)=>Aa (uG (c.2.2.1,(f,g,()),())) fun(d:Bool)=>bif d then Sa (Ac (Ac a))else Sa (Ae (Ab .i64 (a+(1:Int))))else Sa (Ac (Ae ()))) (0:Int)) fun(h:Unit)=>Sa (-1:Int)
def uO:ElS [(.sl tI),tI]->Option (RTy.El (.p tI)):=fun x=>match x with|(c,d,())=>wL (zR (fun(a:Int)=>bif decide (a< (↑(Ad c):Int))then Aa (idx c a) fun(e:Int)=>bif d==e then Sa (Ac (Ac a))else Sa (Ae (Ab .i64 (a+(1:Int))))else Sa (Ac (Ae ()))) (0:Int)) fun(f:Unit)=>Sa (-1:Int)
def zFN:ElS [zF,tI,tI]->Option (RTy.El (.p tI)):=fun x=>match x with|(a,d,e,())=>Aa (zAw (a,d,e,())) fun(c:Int)=>bif decide (c< (0:Int))then Sa (-1:Int)else Aa (uO (a.2.1.2.1,c,())) fun(f:Int)=>Sa f
def vZ:ElS [(.sl tI),tI]->Option (RTy.El (.p .bool)):=fun x=>match x with|(a,c,())=>Aa (uO (a,c,())) fun(d:Int)=>Sa (decide (d>=(0:Int)))
def zGK:ElS [zF,tI,tI]->Option (RTy.El (.p .bool)):=fun x=>match x with|(a,c,d,())=>Aa (zAw (a,c,d,())) fun(f:Int)=>bif decide (f< (0:Int))then Sa Sc else Aa (zFN (a,c,d,())) fun(e:Int)=>Aa (bif decide (e< (0:Int))then Sa Sb else Aa (vZ (a.2.2.1,e,())) fun(g:Bool)=>Sa !g) fun(h:Bool)=>Sa h
def zBM:ElS [tU,tI]->Option (RTy.El (.p zD)):=fun x=>match x with|(c,a,())=>Aa (zH9 (a,())) fun(d:Int)=>Aa (zGs (a,())) fun(e:Int)=>Sa (Ab .u32 (↑(An (Ak (Ag Aj) c&&&Ak (Ag Aj) d)):Int),e,())
def zBK:ElS [tU]->Option (RTy.El (.p .bool)):=fun x=>match x with|(a,())=>Sa (a !=a)
def kI:ElS [tU,tU]->Option (RTy.El (.p tI)):=fun x=>match x with|(a,c,())=>Aa (zBK (a,())) fun(e:Bool)=>Aa (zBK (c,())) fun(d:Bool)=>bif e then bif d then Sa (0:Int)else Sa (-1:Int)else bif d then Sa (1:Int)else bif decide (a<c)then Sa (-1:Int)else bif decide (a>c)then Sa (1:Int)else Sa (0:Int)
def zAW:ElS [tI]->Option (RTy.El (.p .bool)):=fun x=>match x with|(a,())=>Sa (a !=a)
def qH:ElS [tI,tI]->Option (RTy.El (.p tI)):=fun x=>match x with|(a,c,())=>Aa (zAW (a,())) fun(e:Bool)=>Aa (zAW (c,())) fun(d:Bool)=>bif e then bif d then Sa (0:Int)else Sa (-1:Int)else bif d then Sa (1:Int)else bif decide (a<c)then Sa (-1:Int)else bif decide (a>c)then Sa (1:Int)else Sa (0:Int)
def zFL:ElS [zD,zD]->Option (RTy.El (.p tI)):=fun x=>match x with|(a,c,())=>Aa (kI (a.1,c.1,())) fun(d:Int)=>bif d !=(0:Int)then Sa d else Aa (qH (a.2.1,c.2.1,())) fun(e:Int)=>Sa e
def z8:ElS [zC,zC]->Option (RTy.El (.p tI)):=fun x=>match x with|(a,c,())=>Aa (zFL (a.1,c.1,())) fun(d:Int)=>Sa d
def jS:List (Ty.El zC)->ElA [.d tI,.d tI,.clo 26 []]->Option (List (Ty.El zC)×RTy.El (.tu [])):=fun l x=>match x with|(m,B,(),())=>zR (fun(e:Int×List (Ty.El zC))=>bif decide (e.1<B)then Aa (zR (fun(a:Int×List (Ty.El zC))=>Aa (bif decide (a.1>m)then Aa (idx a.2 a.1) fun(n:Ty.El zC)=>Aa (atN a.2 (Af a.1)) fun(g:Ty.El zC)=>Aa (idx a.2 (Ab .i64 (a.1- (1:Int)))) fun(p:Ty.El zC)=>Aa (atN a.2 (Af (Ab .i64 (a.1- (1:Int))))) fun(h:Ty.El zC)=>Aa (z8 (g,h,())) fun(i:Int)=>Sa (decide (i< (0:Int)),a.2)else Sa (Sc,a.2)) fun(c:Bool×List (Ty.El zC))=>bif c.1 then Aa (idx c.2 (Ab .i64 (a.1- (1:Int)))) fun(q:Ty.El zC)=>Aa (atN c.2 (Af (Ab .i64 (a.1- (1:Int))))) fun(f:Ty.El zC)=>Aa (idx c.2 a.1) fun(t:Ty.El zC)=>Aa (atN c.2 (Af a.1)) fun(j:Ty.El zC)=>Aa (idx c.2 a.1) fun(u:Ty.El zC)=>Aa (atN c.2 (Af a.1)) fun(y:Ty.El zC)=>Aa (idx (Am c.2 (Af a.1) f) (Ab .i64 (a.1- (1:Int)))) fun(z:Ty.El zC)=>Aa (atN (Am c.2 (Af a.1) f) (Af (Ab .i64 (a.1- (1:Int))))) fun(A:Ty.El zC)=>Sa (Ae (Ab .i64 (a.1- (1:Int)),Am (Am c.2 (Af a.1) f) (Af (Ab .i64 (a.1- (1:Int)))) j))else Sa (Ac c.2)) e) fun(k:List (Ty.El zC))=>Sa (Ae (Ab .i64 (e.1+(1:Int)),k))else Ao (fun(r:List (Ty.El zC)×Unit)=>Ac r) (bif Al (Ad e.2) (Ad l)then Sa (e.2,())else Sd)) (Ab .i64 (m+(1:Int)),l)
def wM:List (Ty.El zC)->ElA [.d tI,.d tI,.d tI,.clo 26 []]->Option (List (Ty.El zC)×RTy.El (.tu [])):=fun h x=>match x with|(c,f,i,(),())=>zR (fun(a:Int×List (Ty.El zC))=>bif decide (a.1<i)then Aa (idx a.2 (Ab .i64 (f+a.1))) fun(j:Ty.El zC)=>Aa (atN a.2 (Af (Ab .i64 (f+a.1)))) fun(e:Ty.El zC)=>Aa (idx a.2 (Ab .i64 (c+a.1))) fun(k:Ty.El zC)=>Aa (atN a.2 (Af (Ab .i64 (c+a.1)))) fun(g:Ty.El zC)=>Aa (idx a.2 (Ab .i64 (c+a.1))) fun(l:Ty.El zC)=>Aa (atN a.2 (Af (Ab .i64 (c+a.1)))) fun(m:Ty.El zC)=>Aa (idx (Am a.2 (Af (Ab .i64 (c+a.1))) e) (Ab .i64 (f+a.1))) fun(n:Ty.El zC)=>Aa (atN (Am a.2 (Af (Ab .i64 (c+a.1))) e) (Af (Ab .i64 (f+a.1)))) fun(p:Ty.El zC)=>Sa (Ae (Ab .i64 (a.1+(1:Int)),Am (Am a.2 (Af (Ab .i64 (c+a.1))) e) (Af (Ab .i64 (f+a.1))) g))else Ao (fun(r:List (Ty.El zC)×Unit)=>Ac r) (bif Al (Ad a.2) (Ad h)then Sa (a.2,())else Sd)) ((0:Int),h)
def yS:List (Ty.El zC)->ElA [.d tI,.d tI,.d tI,.clo 26 []]->Option (List (Ty.El zC)×RTy.El (.tu [])):=fun g x=>match x with|(h,c,i,(),())=>Aa (zR (fun(a:Int×Int×List (Ty.El zC))=>bif a.1 !=a.2.1 then bif decide (a.1>a.2.1)then bif Al (Ad a.2.2) (Ad a.2.2)then Aa (wM a.2.2 (Ab .i64 (c-a.1),c,a.2.1,(),())) fun(j:List (Ty.El zC)×Unit)=>Sa (Ae (Ab .i64 (a.1-a.2.1),a.2.1,j.1))else Sd else bif Al (Ad a.2.2) (Ad a.2.2)then Aa (wM a.2.2 (Ab .i64 (c-a.1),Ab .i64 (Ab .i64 (c+a.2.1) -a.1),a.1,(),())) fun(k:List (Ty.El zC)×Unit)=>Sa (Ae (a.1,Ab .i64 (a.2.1-a.1),k.1))else Sd else Sa (Ac (a.2.2,a.1))) (Ab .i64 (c-h),Ab .i64 (i-c),g)) fun(e:List (Ty.El zC)×Int)=>bif Al (Ad e.1) (Ad e.1)then Aa (wM e.1 (Ab .i64 (c-e.2),c,e.2,(),())) fun(f:List (Ty.El zC)×Unit)=>bif Al (Ad f.1) (Ad g)then Sa (f.1,())else Sd else Sd
def zAg(a:List (Ty.El zC)->ElA [.d tI,.d tI,.d tI,.clo 26 []]->Option (List (Ty.El zC)×RTy.El (.tu []))):List (Ty.El zC)->ElA [.d tI,.d tI,.d tI,.clo 26 []]->Option (List (Ty.El zC)×RTy.El (.tu [])):=fun C x=>match x with|(j,k,m,(),())=>wL (bif Ab .i64 (k-j)==(1:Int)then Aa (zR (fun(h:Int×Int×List (Ty.El zC))=>bif decide (h.1<h.2.1)then Aa (idx h.2.2 (Ab .i64 (Ai (Ab .u64 (Ab .i64 (h.1+h.2.1))) ((2:Int)^min (Af (1:Int)) (Ag Ah))))) fun(ax:Ty.El zC)=>Aa (atN h.2.2 (Af (Ab .i64 (Ai (Ab .u64 (Ab .i64 (h.1+h.2.1))) ((2:Int)^min (Af (1:Int)) (Ag Ah)))))) fun(P:Ty.El zC)=>Aa (idx h.2.2 j) fun(ay:Ty.El zC)=>Aa (atN h.2.2 (Af j)) fun(Q:Ty.El zC)=>Aa (z8 (P,Q,())) fun(S:Int)=>bif decide (S< (0:Int))then Sa (Ae (Ab .i64 (Ab .i64 (Ai (Ab .u64 (Ab .i64 (h.1+h.2.1))) ((2:Int)^min (Af (1:Int)) (Ag Ah)))+(1:Int)),h.2))else Sa (Ae (h.1,Ab .i64 (Ai (Ab .u64 (Ab .i64 (h.1+h.2.1))) ((2:Int)^min (Af (1:Int)) (Ag Ah))),h.2.2))else Sa (Ac (h.1,h.2.2))) (k,m,C)) fun(D:Int×List (Ty.El zC))=>zR (fun(g:Int×List (Ty.El zC))=>bif decide (g.1<Ab .i64 (D.1- (1:Int)))then Aa (idx g.2 (Ab .i64 (g.1+(1:Int)))) fun(a4:Ty.El zC)=>Aa (atN g.2 (Af (Ab .i64 (g.1+(1:Int))))) fun(B:Ty.El zC)=>Aa (idx g.2 g.1) fun(a5:Ty.El zC)=>Aa (atN g.2 (Af g.1)) fun(W:Ty.El zC)=>Aa (idx g.2 g.1) fun(a6:Ty.El zC)=>Aa (atN g.2 (Af g.1)) fun(a9:Ty.El zC)=>Aa (idx (Am g.2 (Af g.1) B) (Ab .i64 (g.1+(1:Int)))) fun(bb:Ty.El zC)=>Aa (atN (Am g.2 (Af g.1) B) (Af (Ab .i64 (g.1+(1:Int))))) fun(bd:Ty.El zC)=>Sa (Ae (Ab .i64 (g.1+(1:Int)),Am (Am g.2 (Af g.1) B) (Af (Ab .i64 (g.1+(1:Int)))) W))else Ao (fun(r:List (Ty.El zC) ⊕ List (Ty.El zC)×Unit)=>Ac r) (Ao (fun(r:List (Ty.El zC)×Unit)=>Ac r) (bif Al (Ad g.2) (Ad C)then Sa (g.2,())else Sd))) (j,D.2)else Sa (Ae C)) fun(E:List (Ty.El zC))=>wL (bif Ab .i64 (m-k)==(1:Int)then Aa (zR (fun(f:Int×Int×List (Ty.El zC))=>bif decide (f.1<f.2.1)then Aa (idx f.2.2 k) fun(Y:Ty.El zC)=>Aa (atN f.2.2 (Af k)) fun(F:Ty.El zC)=>Aa (idx f.2.2 (Ab .i64 (Ai (Ab .u64 (Ab .i64 (f.1+f.2.1))) ((2:Int)^min (Af (1:Int)) (Ag Ah))))) fun(Z:Ty.El zC)=>Aa (atN f.2.2 (Af (Ab .i64 (Ai (Ab .u64 (Ab .i64 (f.1+f.2.1))) ((2:Int)^min (Af (1:Int)) (Ag Ah)))))) fun(G:Ty.El zC)=>Aa (z8 (F,G,())) fun(H:Int)=>bif !decide (H< (0:Int))then Sa (Ae (Ab .i64 (Ab .i64 (Ai (Ab .u64 (Ab .i64 (f.1+f.2.1))) ((2:Int)^min (Af (1:Int)) (Ag Ah)))+(1:Int)),f.2))else Sa (Ae (f.1,Ab .i64 (Ai (Ab .u64 (Ab .i64 (f.1+f.2.1))) ((2:Int)^min (Af (1:Int)) (Ag Ah))),f.2.2))else Sa (Ac (f.1,f.2.2))) (j,k,E)) fun(t:Int×List (Ty.El zC))=>zR (fun(c:Int×List (Ty.El zC))=>bif decide (c.1>t.1)then Aa (idx c.2 (Ab .i64 (c.1- (1:Int)))) fun(ab:Ty.El zC)=>Aa (atN c.2 (Af (Ab .i64 (c.1- (1:Int))))) fun(q:Ty.El zC)=>Aa (idx c.2 c.1) fun(ad:Ty.El zC)=>Aa (atN c.2 (Af c.1)) fun(I:Ty.El zC)=>Aa (idx c.2 c.1) fun(ag:Ty.El zC)=>Aa (atN c.2 (Af c.1)) fun(al:Ty.El zC)=>Aa (idx (Am c.2 (Af c.1) q) (Ab .i64 (c.1- (1:Int)))) fun(an:Ty.El zC)=>Aa (atN (Am c.2 (Af c.1) q) (Af (Ab .i64 (c.1- (1:Int))))) fun(ao:Ty.El zC)=>Sa (Ae (Ab .i64 (c.1- (1:Int)),Am (Am c.2 (Af c.1) q) (Af (Ab .i64 (c.1- (1:Int)))) I))else Ao (fun(r:List (Ty.El zC) ⊕ List (Ty.El zC)×Unit)=>Ac r) (Ao (fun(r:List (Ty.El zC)×Unit)=>Ac r) (bif Al (Ad c.2) (Ad C)then Sa (c.2,())else Sd))) (k,t.2)else Sa (Ae E)) fun(u:List (Ty.El zC))=>Aa (bif decide (k>Ab .i64 (Ai (Ab .u64 (Ab .i64 (j+m))) ((2:Int)^min (Af (1:Int)) (Ag Ah))))then Sa (Ab .i64 (Ab .i64 (Ab .i64 (Ai (Ab .u64 (Ab .i64 (j+m))) ((2:Int)^min (Af (1:Int)) (Ag Ah)))+k) -m),Ab .i64 (Ai (Ab .u64 (Ab .i64 (j+m))) ((2:Int)^min (Af (1:Int)) (Ag Ah))),u)else Sa (j,k,u)) fun(J:Int×Int×List (Ty.El zC))=>Aa (zR (fun(e:Int×Int×List (Ty.El zC))=>bif decide (e.1<e.2.1)then Aa (idx e.2.2 (Ab .i64 (Ab .i64 (Ab .i64 (Ab .i64 (Ai (Ab .u64 (Ab .i64 (j+m))) ((2:Int)^min (Af (1:Int)) (Ag Ah)))+k) - (1:Int)) -Ab .i64 (Ai (Ab .u64 (Ab .i64 (e.1+e.2.1))) ((2:Int)^min (Af (1:Int)) (Ag Ah)))))) fun(ap:Ty.El zC)=>Aa (atN e.2.2 (Af (Ab .i64 (Ab .i64 (Ab .i64 (Ab .i64 (Ai (Ab .u64 (Ab .i64 (j+m))) ((2:Int)^min (Af (1:Int)) (Ag Ah)))+k) - (1:Int)) -Ab .i64 (Ai (Ab .u64 (Ab .i64 (e.1+e.2.1))) ((2:Int)^min (Af (1:Int)) (Ag Ah))))))) fun(K:Ty.El zC)=>Aa (idx e.2.2 (Ab .i64 (Ai (Ab .u64 (Ab .i64 (e.1+e.2.1))) ((2:Int)^min (Af (1:Int)) (Ag Ah))))) fun(av:Ty.El zC)=>Aa (atN e.2.2 (Af (Ab .i64 (Ai (Ab .u64 (Ab .i64 (e.1+e.2.1))) ((2:Int)^min (Af (1:Int)) (Ag Ah)))))) fun(L:Ty.El zC)=>Aa (z8 (K,L,())) fun(M:Int)=>bif !decide (M< (0:Int))then Sa (Ae (Ab .i64 (Ab .i64 (Ai (Ab .u64 (Ab .i64 (e.1+e.2.1))) ((2:Int)^min (Af (1:Int)) (Ag Ah)))+(1:Int)),e.2))else Sa (Ae (e.1,Ab .i64 (Ai (Ab .u64 (Ab .i64 (e.1+e.2.1))) ((2:Int)^min (Af (1:Int)) (Ag Ah))),e.2.2))else Sa (Ac (e.1,e.2.2))) J) fun(i:Int×List (Ty.El zC))=>Aa (Aa (bif decide (i.1<k)then Sa (decide (k<Ab .i64 (Ab .i64 (Ab .i64 (Ai (Ab .u64 (Ab .i64 (j+m))) ((2:Int)^min (Af (1:Int)) (Ag Ah)))+k) -i.1)),i.2)else Sa (Sc,i.2)) fun(n:Bool×List (Ty.El zC))=>bif n.1 then bif Al (Ad n.2) (Ad n.2)then Aa (yS n.2 (i.1,k,Ab .i64 (Ab .i64 (Ab .i64 (Ai (Ab .u64 (Ab .i64 (j+m))) ((2:Int)^min (Af (1:Int)) (Ag Ah)))+k) -i.1),(),())) fun(N:List (Ty.El zC)×Unit)=>Sa N.1 else Sd else Sa n.2) fun(y:List (Ty.El zC))=>Aa (Aa (bif decide (j<i.1)then Sa (decide (i.1<Ab .i64 (Ai (Ab .u64 (Ab .i64 (j+m))) ((2:Int)^min (Af (1:Int)) (Ag Ah)))),y)else Sa (Sc,y)) fun(p:Bool×List (Ty.El zC))=>bif p.1 then bif Al (Ad p.2) (Ad p.2)then Aa (a p.2 (j,i.1,Ab .i64 (Ai (Ab .u64 (Ab .i64 (j+m))) ((2:Int)^min (Af (1:Int)) (Ag Ah))),(),())) fun(O:List (Ty.El zC)×Unit)=>Sa O.1 else Sd else Sa p.2) fun(z:List (Ty.El zC))=>Aa (bif decide (Ab .i64 (Ai (Ab .u64 (Ab .i64 (j+m))) ((2:Int)^min (Af (1:Int)) (Ag Ah)))<Ab .i64 (Ab .i64 (Ab .i64 (Ai (Ab .u64 (Ab .i64 (j+m))) ((2:Int)^min (Af (1:Int)) (Ag Ah)))+k) -i.1))then Sa (decide (Ab .i64 (Ab .i64 (Ab .i64 (Ai (Ab .u64 (Ab .i64 (j+m))) ((2:Int)^min (Af (1:Int)) (Ag Ah)))+k) -i.1)<m),z)else Sa (Sc,z)) fun(l:Bool×List (Ty.El zC))=>bif l.1 then bif Al (Ad l.2) (Ad l.2)then Aa (a l.2 (Ab .i64 (Ai (Ab .u64 (Ab .i64 (j+m))) ((2:Int)^min (Af (1:Int)) (Ag Ah))),Ab .i64 (Ab .i64 (Ab .i64 (Ai (Ab .u64 (Ab .i64 (j+m))) ((2:Int)^min (Af (1:Int)) (Ag Ah)))+k) -i.1),m,(),())) fun(A:List (Ty.El zC)×Unit)=>bif Al (Ad A.1) (Ad C)then Sa (A.1,())else Sd else Sd else bif Al (Ad l.2) (Ad C)then Sa (l.2,())else Sd
def jK:Nat->(List (Ty.El zC)->ElA [.d tI,.d tI,.d tI,.clo 26 []]->Option (List (Ty.El zC)×RTy.El (.tu [])))|0=>fun _ _=>Sd|n+1=>zAg (jK n)
def vD:List (Ty.El zC)->ElA [.d tI,.d tI,.d tI,.clo 26 []]->Option (List (Ty.El zC)×RTy.El (.tu [])):=jK 1048576
def vT:List (Ty.El zC)->ElA [.d tI,.clo 26 []]->Option (List (Ty.El zC)×RTy.El (.tu [])):=fun l x=>match x with|(g,(),())=>Aa (zR (fun(f:Int×List (Ty.El zC)×Int)=>bif decide (f.1<=g)then bif Al (Ad f.2.1) (Ad f.2.1)then Aa (jS f.2.1 (f.2.2,f.1,(),())) fun(m:List (Ty.El zC)×Unit)=>Sa (Ae (Ab .i64 (f.1+(20:Int)),m.1,f.1))else Sd else Sa (Ac f.2)) ((20:Int),l,(0:Int))) fun(h:List (Ty.El zC)×Int)=>bif Al (Ad h.1) (Ad h.1)then Aa (jS h.1 (h.2,g,(),())) fun(n:List (Ty.El zC)×Unit)=>zR (fun(c:Int×List (Ty.El zC))=>bif decide (c.1<g)then Aa (zR (fun(a:Int×List (Ty.El zC)×Int)=>bif decide (a.1<=g)then bif Al (Ad a.2.1) (Ad a.2.1)then Aa (vD a.2.1 (a.2.2,Ab .i64 (a.2.2+c.1),a.1,(),())) fun(i:List (Ty.El zC)×Unit)=>Sa (Ae (Ab .i64 (a.1+Ab .i64 ((2:Int)*c.1)),i.1,a.1))else Sd else Sa (Ac (a.2.2,a.2.1))) (Ab .i64 ((2:Int)*c.1),c.2,(0:Int))) fun(e:Int×List (Ty.El zC))=>Aa (bif decide (Ab .i64 (e.1+c.1)<g)then bif Al (Ad e.2) (Ad e.2)then Aa (vD e.2 (e.1,Ab .i64 (e.1+c.1),g,(),())) fun(j:List (Ty.El zC)×Unit)=>Sa j.1 else Sd else Sa e.2) fun(k:List (Ty.El zC))=>Sa (Ae (Ab .i64 (c.1*(2:Int)),k))else Ao (fun(r:List (Ty.El zC)×Unit)=>Ac r) (bif Al (Ad c.2) (Ad l)then Sa (c.2,())else Sd)) ((20:Int),n.1)else Sd
def vL:List (Ty.El zC)->ElA [.clo 26 []]->Option (List (Ty.El zC)×RTy.El (.tu [])):=fun a x=>match x with|((),())=>bif Al (Ad a) (Ad a)&&Al (Ad a) (Ad a)then Aa (vT a ((↑(Ad a):Int),(),())) fun(c:List (Ty.El zC)×Unit)=>bif Al (Ad c.1) (Ad a)then Sa (c.1,())else Sd else Sd
def zBE:ElS [zF,tI,tI]->Option (RTy.El (.p tI)):=fun x=>match x with|(e,h,i,())=>wL (zR (fun(a:Int)=>bif decide (a< (↑(Ad e.2.1.1):Int))then wL (zR (fun(c:Int)=>Aa (idx e.2.1.1 a) fun(f:Ty.El uR)=>bif decide (c< (↑(Ad f.2.2.1):Int))then Aa (idx e.2.1.1 a) fun(g:Ty.El uR)=>Aa (idx g.2.2.1 c) fun(d:Ty.El zS)=>bif d.1==h&&(d.2.1==i&&Sb)then Sa (Ac (Ac (Ac (Ac a))))else Sa (Ae (Ab .i64 (c+(1:Int))))else Sa (Ac (Ae ()))) (0:Int)) fun(j:Unit)=>Sa (Ae (Ab .i64 (a+(1:Int))))else Sa (Ac (Ae ()))) (0:Int)) fun(k:Unit)=>Sa (-1:Int)
def zIq:ElS [zF,tI,tI]->Option (RTy.El (.p tI)):=fun x=>match x with|(c,f,g,())=>Aa (zBE (c,f,g,())) fun(e:Int)=>wL (zR (fun(a:Int)=>bif decide (a< (↑(Ad c.2.1.2.1):Int))then Aa (bif decide (e>=(0:Int))then Aa (idx c.2.1.2.1 a) fun(h:Int)=>Sa (h==e)else Sa Sc) fun(d:Bool)=>bif d then Sa (Ac (Ac a))else Sa (Ae (Ab .i64 (a+(1:Int))))else Sa (Ac (Ae ()))) (0:Int)) fun(i:Unit)=>Sa (-1:Int)
def zJI:ElS [zF,tI,tI]->Option (RTy.El (.p .bool)):=fun x=>match x with|(a,d,e,())=>Aa (zBE (a,d,e,())) fun(f:Int)=>bif decide (f< (0:Int))then Sa Sc else Aa (zIq (a,d,e,())) fun(g:Int)=>wL (zR (fun(c:Int)=>bif decide (c< (↑(Ad a.2.2.1):Int))then Aa (idx a.2.2.1 c) fun(h:Int)=>bif h==g then Sa (Ac (Ac Sc))else Sa (Ae (Ab .i64 (c+(1:Int))))else Sa (Ac (Ae ()))) (0:Int)) fun(i:Unit)=>Sa Sb
def zAe:ElS [zF,tI,tI]->Option (RTy.El (.p (.sl zS))):=fun x=>match x with|(f,g,h,())=>Aa (zGK (f,g,h,())) fun(m:Bool)=>bif !m then Sa []else Aa (Aa (zAw (f,g,h,())) fun(i:Int)=>Aa (idx f.2.1.1 i) fun(e:Ty.El uR)=>zR (fun(a:Int×List (Ty.El zS))=>bif decide (a.1< (↑(Ad e.2.2.1):Int))then Aa (Aa (idx e.2.2.1 a.1) fun(c:Ty.El zS)=>Aa (bif c.1 !=g then Sa (Sb,a.2)else Sa (c.2.1 !=h,a.2)) fun(d:Bool×List (Ty.El zS))=>bif d.1 then Aa (app (16:Nat) d.2 [c]) fun(j:List (Ty.El zS))=>Sa j else Sa d.2) fun(k:List (Ty.El zS))=>Sa (Ae (Ab .i64 (a.1+(1:Int)),k))else Sa (Ac a.2)) ((0:Int),[])) fun(l:List (Ty.El zS))=>Sa l
def zCI:ElS [zD,zD]->Option (RTy.El (.p .bool)):=fun x=>match x with|(a,c,())=>Aa (bif decide (a.2.1<=c.2.1)then Aa (zB7 (a,c.1,())) fun(d:Bool)=>Sa d else Sa Sc) fun(e:Bool)=>Sa e
def zCc:ElS [zF,tI,tI]->Option (RTy.El (.p (.sl zS))):=fun x=>match x with|(c,d,k,())=>Aa (zJI (c,d,k,())) fun(l:Bool)=>bif !l then Sa []else Aa (zBE (c,d,k,())) fun(m:Int)=>Aa (idx c.2.1.1 m) fun(e:Ty.El uR)=>Aa (zR (fun(a:Int×List (Ty.El zS))=>bif decide (a.1< (↑(Ad e.2.2.1):Int))then Aa (Aa (idx e.2.2.1 a.1) fun(f:Ty.El zS)=>bif f.1 !=d then Aa (idx e.2.2.1 a.1) fun(g:Ty.El zS)=>Aa (app (16:Nat) a.2 [g]) fun(h:List (Ty.El zS))=>Sa h else Sa a.2) fun(i:List (Ty.El zS))=>Sa (Ae (Ab .i64 (a.1+(1:Int)),i))else Sa (Ac a.2)) ((0:Int),[])) fun(j:List (Ty.El zS))=>Sa j
def zBA:ElS [(.sl tI)]->Option (RTy.El (.p (.sl tI))):=fun x=>match x with|(a,())=>Aa (app (8:Nat) [] a) fun(z:List (Ty.El tI))=>Sa z
def uP:ElS [(.sl zQ)]->Option (RTy.El (.p (.sl zQ))):=fun x=>match x with|(a,())=>Aa (app (16:Nat) [] a) fun(z:List (Ty.El zQ))=>Sa z
end
end Go.Ve

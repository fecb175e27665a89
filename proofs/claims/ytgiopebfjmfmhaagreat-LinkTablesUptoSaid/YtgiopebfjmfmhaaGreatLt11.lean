/- law16 -/
import Derived.Test.YtgiopebfjmfmhaaGreatLt10
import Derived.Test.YtgiopebfjmfmhaaGreatLt4
set_option linter.unusedVariables false
open Option renaming some->Sa,none->Sd
open Bool renaming true->Sb,false->Sc
open Option renaming bind->Aa
open Sum renaming inr->Ab,inl->Ad
open Go.IntKind renaming wrap->Ac,bits->Af,u32->Ah,signed->Aj
open List renaming length->Ae
open BitVec renaming ofInt->Ag,toNat->Ai
set_option maxRecDepth 1000000
set_option maxHeartbeats 4000000
namespace Go.Ve
open Go
theorem zEu:∀(t:Ty) (x:t.El) (r:List V),t.uncells (t.cells x++r)=Sa (x,r)
 |.int k,x,r=>by simp[Ty.cells,Ty.uncells,zFC]
 |.bool,x,r=>by simp[Ty.cells,Ty.uncells,zC4]
 |.str,x,r=>by simp[Ty.cells,Ty.uncells,zFB]
 |.unit,x,r=>by simp[Ty.cells,Ty.uncells]
 |.rf,x,r=>by simp[Ty.cells,Ty.uncells,zMf]
 |.hd,x,r=>by simp[Ty.cells,Ty.uncells,zMh]
 |.pt t,x,r=>by simp[Ty.cells,Ty.uncells,zMg]
 |.sl t,x,r=>by simp[Ty.cells,Ty.uncells,zMe]
 |.pair a b,x,r=>by simp[Ty.cells,Ty.uncells];rw[zEu a x.1];simp only;rw[zEu b x.2]
theorem zWq(t:Ty)(x:t.El):t.dec (t.enc x)=Sa x:=by
 cases t with
 |int k=>simp[Ty.enc,Ty.dec,zFC]
 |bool=>simp[Ty.enc,Ty.dec,zC4]
 |str=>simp[Ty.enc,Ty.dec,zFB]
 |unit=>rfl
 |rf=>simp[Ty.enc,Ty.dec,zMf]
 |hd=>simp[Ty.enc,Ty.dec,zMh]
 |pt t=>simp[Ty.enc,Ty.dec,zMg]
 |sl t=>simp[Ty.enc,Ty.dec,zMe]
 |pair a b=>
  have:=zEu (.pair a b) x []
  grind[Ty.enc,Ty.dec,Ty.cells]
theorem zBA:∀(ts:List Ty) (x:ElS ts),zBB ts (yI ts x)=Sa x
 |[],_=>rfl
 |t::ts,x=>by simp[yI,zBB,zWq,zBA ts]
@[reducible] def zJP(tE:Ty):List Ty->List Ty
 |[]=>[]
 |t::r=>zAe tE t::zJP tE r
def zRE{tE:Ty}(st:HSt tE):(ts:List Ty)->ElS ts->Option (ElS (zJP tE ts))
 |[],_=>Sa ()
 |t::r,x=>match zBW st t x.1,zRE st r x.2 with
  |some y,Sa z=>Sa (y,z)
  |_,_=>Sd
@[reducible] def zWT(tE:Ty):RTy->RTy
 |.p a=>.p (zAe tE a)
 |.o a=>.o (zAe tE a)
 |.tu c=>.tu (zJP tE c)
def qDk{tE:Ty}(st:HSt tE):(R:RTy)->R.El->Option (zWT tE R).El
 |.p a,x=>zBW st a x
 |.o a,d=>zCw (zBW st a) d
 |.tu c,x=>zRE st c x
section
variable {tE:Ty}{st:HSt tE}{F F':Blk->Prop}{O:Nat->Prop}{w:World}{hb hc:Nat->Nat}
theorem zWS(h:qAR tE st F O w hb hc)(f:∀b:Nat,F b->F' b)(g:∀b,O b->F' (.b b)):∀(ts:List Ty) (x:ElS ts) (y:ElS (zJP tE ts)),zRE st ts x=Sa y->
  (yI ts x).length=(yI (zJP tE ts) y).length/\∀(i:Nat) (v:Value) (d c:V),(yI ts x)[i]?=Sa d->(yI (zJP tE ts) y)[i]?=Sa c->Rd w F v d->Rd w F' v c
 |[],_,_,_=>⟨rfl,fun i v d c j=>by simp[yI]at j⟩
 |t::ts,x,y,a=>by
  simp only[zRE]at a;split at a
  .rename_i k e m l;obtain rfl:(k,e)=y:=aW a;obtain⟨n,p⟩:=zWS h f g ts x.2 e l
   grind[List.length_cons,List.getElem?_cons_zero,Option.some.injEq,qAY,yI]
  .cases a
theorem qDi(h:qAR tE st F O w hb hc)(z:∀b:Nat,F b->F' b)(A:∀b,O b->F' (.b b)){t:Ty}{xs:List t.El}{q:List (zAe tE t).El}(n:zCw (zBW st t) xs=Sa q){b k cap:Nat}
  (B:qP w F b k cap (xs.map t.enc)):qP w F' b k cap (q.map (zAe tE t).enc):=by
 obtain⟨r,vC⟩:=zCb n;obtain⟨c,C,D,E,K,G,H⟩:=B;refine⟨c,C,D,E,by grind,?_,?_⟩
 .intro e u;simp at u;obtain⟨l,a,rfl⟩:=u;rw[w7,zCE];obtain⟨j,m⟩:=bW a;obtain⟨f,d,_⟩:=vC j l m;have:=G (t.enc f) (List.mem_map_of_mem (ae d))
  grind[w7]
 .intro i j e I x y m J;simp at y;obtain⟨l,a,rfl⟩:=y;obtain⟨f,d,g⟩:=vC i l a;rw[jN]at m
  have p:j< (t.cells f).length:=by
   grind[List.getElem?_eq_some_iff,kS,zCE]
  exact zOX h z A t f l g j _ (t.cells f)[j] I (by simp[p]) m (H i j (t.enc f) _ x (by simp[d]) (by grind[jN]) J)
theorem qDj(h:qAR tE st F O w hb hc)(g:∀b:Nat,F b->F' b)(i:∀b,O b->F' (.b b))(j:∀b:Nat,F' b->F b\/O b){N:Nat}{R:RTy}{x:R.El}{y:(zWT tE R).El}(a:qDk st R x=Sa y){v:Value}
  (d:zAX N w F O v (R.res x)):zAX N w F' (fun _=>False) v ((zWT tE R).res y):=by
 cases R with
 |p l=>exact qAY h g i l x y a d
 |o l=>
  have a:zCw (zBW st l) x=Sa y:=a;obtain⟨e,_⟩:=zCb a;rcases d with⟨r,t⟩|⟨r,b,m,H,u,z,A,B,k,C⟩
  .have n:x=[]:=by simpa using r
   subst n;have q:y=[]:=aJ e.symm;subst q;exact .inl ⟨rfl,t⟩
  .refine .inr ⟨?_,b,m,by grind,u,z,fun f=>(j b f).elim A B,fun f=>f,k,qDi h g i a C⟩;intro f;simp_all
 |tu c=>
  have d:Rd w F v (.tup (yI c x)):=d;obtain⟨D,I⟩:=zWS h g i c x y a
  cases d with
  |tup E _ G f=>
   refine Rd.tup E (yI (zJP tE c) y) (G.trans D) ?_
   grind
end
def zRF{tE:Ty}{X:Type}(R:RTy)(g:HSt tE->X->Option (HSt tE×R.El))(x:X):Option (zWT tE R).El:=
 match g [] x with
 |some (st,y)=>qDk st R y
 |none=>Sd
variable {i:Program}
theorem zQl{tE:Ty}{G:Nat->Option (List V)}(W:∀g,G g=Sd){f:FuncId}{ts:List Ty}(E:ts.all Ty.norf=Sb){R:RTy}{g:HSt tE->ElS ts->Option (HSt tE×R.El)}(h:jK (kB tE) i G f (z6 (zBX (zBB ts) R g))):jK jV i G f (z6 (qQ ts (zWT tE R) (zRF R g))):=by
 intro w F O s q t s' r z hG Y A H k;simp[z6,qQ,vT]at k
 cases K:zBB ts t with
 |none=>grind
 |some x=>
  rw[K]at k;simp at k;obtain⟨y,D,rfl,rfl⟩:=k;unfold zRF at D;split at D
  .rename_i st Z L;have B:=kK ts t x K;let I:Blk->Prop:=zJi F;have J:(kB tE).R [] I (fun _=>False) w:=⟨fun _=>0,fun _=>0,fun id M j=>by simp at j,fun id _ a n c j=>j,fun id M j=>by simp at j,fun id ab M ad j=>by simp at j,fun b j=>j.elim,zH0 F⟩
   have m:=h w I (fun _=>False) [] q (yI ts x) st (R.res Z) J (fun g cs L=>by grind) (fun b hb=>⟨(Y b hb).1,fun j=>j⟩) (A.trans B.len) (by
    intro P u d hu N;have hlt:P<t.length:=by grind
    have:=B.get P t[P] d (by simp[hlt]) N w F u (H P u t[P] hu (by simp[hlt]))
    exact zIh (F:=F) (F':=I) (fun b hb=>hb) ts x E P u d N this) (by simp[z6,zBX,zBA];rw[L];rfl)
   refine m.mono ?_;rintro e w' ⟨v,F',Q,rfl,⟨hb,hc,S⟩,p,g3,g4,g5,g6⟩
   let C:Blk->Prop:=zQ1 F fun b=>match b with
    |.b n=>F' (.b n)\/Q n
    |_=>False
   refine⟨v,C,fun _=>False,rfl,⟨fun _ j=>j,z.2.of (zCa _ _)⟩,⟨p.os,p.tape,p.output,p.size,fun b hb _=>p.block b hb (fun j=>j),p.drawn⟩,fun b j=>j.elim,?_,?_,?_⟩
   .refine .of_reg (fun b l=>?_) (zCa _ _)
    cases b with
    |b n=>exact .inl (g4.1 (.b n) l)
    |_=>exact l
   .intro b l;rcases l with l|l
    .obtain⟨k1,k2,_⟩:=g5 b l;exact⟨k1,k2,fun j=>j⟩
    .refine⟨.inr ((g3 b l).elim (fun j=>j.elim) (fun j=>j)),(kB tE).inb (⟨hb,hc,S⟩:(kB tE).R st F' Q w') b l,fun j=>j⟩
   .exact qDj (F':=C) S (fun b j=>.inl j) (fun b j=>.inr j) (fun b j=>j) D g6
  .cases D
def qDI{St:Type}(S:St->List V->Option (St×RV))(ts:List Ty)(R:RTy)(s:St)(x:ElS ts):Option (St×R.El):=
 match S s (yI ts x)with
 |some (a,r)=>match R.get r with
  |some y=>Sa (a,y)
  |none=>Sd
 |none=>Sd
variable {g:FuncId}{C:Nat->Option (List V)}
theorem zUT{Γ:Sig}[c:Calm Γ]{S:Γ.St->List V->Option (Γ.St×RV)}(h:jK Γ i C g S)(ts:List Ty)(R:RTy):
  jK Γ i C g (z6 (zBX (zBB ts) R (qDI S ts R))):=by
 intro w F O s k l s' r m D E n q a;simp[z6,zBX]at a
 cases A:zBB ts l with
 |none=>grind
 |some x=>
  rw[A]at a;simp only[ak,aI]at a;obtain⟨⟨s1,y⟩,f,rfl,rfl⟩:=a;unfold qDI at f;split at f
  .rename_i H I J;split at f
   .rename_i y0 t;simp at f;obtain⟨rfl,rfl⟩:=f;have p:=kK ts l x A
    have j:=h w F O s k (yI ts x) H I m D E (n.trans p.len) (by
     intro P u d K L;have hlt:P<l.length:=by grind
     exact p.get P l[P] d (by simp[hlt]) L w F u (q P u l[P] K (by simp[hlt]))) J
    refine j.mono ?_;rintro e w' ⟨v,F',M,rfl,N,Q,W,Y,g5,Z⟩;obtain⟨z,B,G,k2,k3⟩:=RTy.get_sound t Z;refine⟨v,z,M,rfl,Γ.mono N G (fun _ _=>rfl) (fun _ _ h=>⟨B _ h,rfl⟩),Q,W,(Y.to (fun h=>c.no h.1)).trans (.of_reg B G) (aj _),?_,k3⟩
    grind
   .cases f
  .cases f
theorem zX6{Γ:Sig}{S c:Γ.St->List V->Option (Γ.St×RV)}(h:jK Γ i C g S)(d:∀s ds r,c s ds=Sa r->S s ds=Sa r):jK Γ i C g c:=
 fun w F O s a ds e r G P j k l m=>h w F O s a ds e r G P j k l (d _ _ _ m)
abbrev zJS:Ty:=.st [tI,zD,tI]
abbrev tB8:Ty:=.st [.bool,.bool,.bool,.bool,.bool,.bool,.bool,.bool]
abbrev tI8:Ty:=.st [tI,tI,tI,tI,tI,tI,tI,tI]
abbrev qHL:Ty:=.st [tI8,tI8,tI8,tI8,tI8,tI8,tI8,tI8]
abbrev qN:Ty:=.st [tI,.sl zJS,.sl qD,tB8,qHL]
abbrev qL:Ty:=.st [zH,tI,.sl (.pt qN)]
abbrev zN:Ty:=.st [zD,tI]
abbrev wD:Ty:=.st [tI,.sl zP]
def stF(F:Blk->Prop):Blk->Prop
 |.b n=>F (.s n)
 |x=>F x
abbrev zTr:=Int->List qD.El->Int->Option (List (List zP.El))
structure zIp(H:zTr)(F:Blk->Prop)(O:Nat->Prop)(w:World):Prop where
 own:∀b,O b->b<w.heap.size
 sb:∀n:Nat,F (.s n)->F n
 ld:∀id b cs,F (.k id b cs)->(O b\/F (.s b))/\∃(c:Array Value) (et:TypeId),w.heap[b]?=Sa (.cells c et (0,0))/\∀(m:Nat) (d:V),cs[m]?=Sa d->∃x,c[m]?=Sa x/\Rd w (stF F) x d
 eqk:∀id id' b b' cs cs',F (.k id b cs)->F (.k id' b' cs')->(b=b'↔id=id')
 kl:∀id b (x:qN.El),F (.k id b (qN.cells x))->∀id' cs,F (.k id' b cs)->cs.length<=75
 memo:∀id b (x:qN.El),F (.k id b (qN.cells x))->O b/\∃(c:Array Value) (et:TypeId),w.heap[b]?=Sa (.cells c et (0,0))/\
  ∀r:Nat,r<8->∃u,c[75+r]?=Sa u/\(u=.slice Sd 0 0\/∃hs,H ((id%16:Nat):Int) x.2.2.1 (r:Int)=Sa hs/\Rd w (stF F) u (.tl (.sl zP) hs))
variable {l:Blk->Prop}{j:World}
theorem zW6{F':Blk->Prop}{w':World}(e:∀x:Blk,x.isB=Sc->(F' x↔l x))(i:∀n:Nat,l (.s n)->w'.heap[n]?=j.heap[n]?){v:Value}{d:V}(h:Rd j (stF l) v d):Rd w' (stF F') v d:=by
 refine h.mono (fun x g=>?_) (fun n w=>i n w)
 cases x with
 |b n=>exact(e (.s n) rfl).2 g
 |h id a n c=>exact(e _ rfl).2 g
 |k id b F=>exact(e _ rfl).2 g
 |s n=>exact(e _ rfl).2 g
theorem qDv(a:∀n:Nat,l (.s n)->l n){v:Value}{d:V}(h:Rd j (stF l) v d):Rd j l v d:=by
 refine h.mono (fun x c=>?_) (fun n e=>rfl)
 cases x with
 |b n=>exact a n c
 |_=>exact c
theorem zIp.mono{H:zTr}{F':Blk->Prop}{O:Nat->Prop}{w':World}(h:zIp H l O j)(g:∀x:Blk,x.isB=Sc->(F' x↔l x))(hO:∀b,O b->w'.heap[b]?=j.heap[b]?)(y:∀n:Nat,l (.s n)->l n->F' n/\w'.heap[n]?=j.heap[n]?):zIp H F' O w':=by
 have p:∀n:Nat,l (.s n)->w'.heap[n]?=j.heap[n]? :=fun n i=>(y n i (h.sb n i)).2;have hb:∀id b e,l (.k id b e)->w'.heap[b]?=j.heap[b]? :=fun id b e a=>(h.ld id b e a).1.elim (hO b) (p b);refine⟨fun b hb=>?_,fun n i=>(y n ((g _ rfl).1 i) (h.sb n ((g _ rfl).1 i))).1,fun id b e a=>?_,fun id w b z e q t F=>h.eqk id w b z e q ((g _ rfl).1 t) ((g _ rfl).1 F),fun id b x a w e F=>h.kl id b x ((g _ rfl).1 a) w e ((g _ rfl).1 F),fun id b x a=>?_⟩
 .have hlt:=h.own b hb
  grind
 .have a:=(g _ rfl).1 a;obtain⟨t,c,u,F,A⟩:=h.ld id b e a;refine⟨t.elim .inl (fun i=>.inr ((g _ rfl).2 i)),c,u,(hb id b e a).trans F,fun m d hd=>?_⟩
  grind[zW6]
 .have a:=(g _ rfl).1 a;obtain⟨B,c,u,F,A⟩:=h.memo id b x a;refine⟨B,c,u,(hb id b _ a).trans F,fun r hr=>?_⟩
  grind[zW6]
def zR8(H:zTr):Sig where
 St:=Unit
 R:=fun _ F O w=>zIp H F O w
 mono:=fun h a j e=>zIp.mono h a j e
 inb:=fun h b k=>h.own b k
 ld:=fun h a=>by obtain⟨_,c,l,g,n⟩:=h.ld _ _ _ a;exact⟨c,l,g,fun m d p=>(n m d p).elim fun x i=>⟨x,i.1,qDv h.sb i.2⟩⟩
 eqk:=fun h q g=>h.eqk _ _ _ _ _ _ q g
 sb:=fun h e=>h.sb _ e
instance (H:zTr):Calm (zR8 H):=⟨fun h=>h⟩
instance (H:zTr):Subsingleton (zR8 H).St:=inferInstanceAs (Subsingleton Unit)
def ptB(H:zTr):Sig where
 St:=Bool
 wk:=True
 R:=fun s F O w=>match s with
  |true=>zIp H F O w
  |false=>(∀b,¬O b)/\NoK F
 mono:=fun {s} _ _ _ _ _ h a g c=>match s,h with
  |true,h=>zIp.mono h a g c
  |false,h=>⟨h.1,h.2.of a⟩
 inb:=fun {s} _ _ _ h b d=>match s,h with
  |true,h=>zIp.own h b d
  |false,h=>absurd d (h.1 b)
 ld:=fun {s} _ _ _ _ _ _ h a=>match s,h with
  |true,h=>(zR8 H).ld (s:=()) h a
  |false,h=>absurd a (h.2.1 _ _ _)
 eqk:=fun {s} _ _ _ _ _ _ _ _ _ h e i=>match s,h with
  |true,h=>(zR8 H).eqk (s:=()) h e i
  |false,h=>absurd e (h.2.1 _ _ _)
 sb:=fun {s} _ _ _ _ h c=>match s,h with
  |true,h=>zIp.sb h _ c
  |false,h=>absurd c (h.2.2 _)
section
variable {H:zTr}{P:Program}{G:Nat->Option (List V)}{f:FuncId}
def zUl{X:Type}{ρ:Type}(g:Bool->X->Option (Bool×ρ))(x:X):Option ρ:=(g Sc x).map Prod.snd
theorem zPs(J:∀g,G g=Sd){X:Type}{dec:List V->Option X}(K:qAT dec){R:RTy}(L:R.norf=Sb){g:Bool->X->Option (Bool×R.El)}
  (h:zL5 (ptB H) P G f (z6 (zBX dec R g))):jK jV P G f (z6 (vT dec R (zUl g))):=by
 intro w F O s p D s' r q hG M t N a;simp[z6,vT]at a
 cases E:dec D with
 |none=>grind
 |some x=>
  rw[E]at a;simp only[zUl,Option.map_map,ak,Function.comp,aI]at a;obtain⟨⟨Q,y⟩,S,rfl,rfl⟩:=a;obtain⟨z,A,B,I⟩:=K D x E
  have k:=h w (zJi F) (fun _=>False) Sc p z Q (R.res y) ⟨fun _ h=>h,zH0 F⟩ (fun g cs hg=>by grind) (fun b c=>⟨(M b c).1,fun h=>h⟩) (t.trans B.symm)
   (fun i v d hi W=>by
    grind[List.getElem?_eq_some_iff,zJi]) (by simp[z6,zBX,A,S];rfl)
  refine k.mono ?_;rintro e w' ⟨v,C,O',rfl,g1,m,g3,Y,Z,g6⟩;let u:Blk->Prop:=zQ1 F C;refine⟨v,u,fun _=>False,rfl,⟨fun _ l=>l,q.2.of (zCa _ _)⟩,⟨m.os,m.tape,m.output,m.size,fun b c _=>m.block b c (fun l=>l),m.drawn⟩,fun b l=>l.elim,.of_reg (fun b j=>?_) (zCa _ _),fun b j=>?_,?_⟩
  .cases b with
   |b n=>exact Y.1 (.b n) j
   |_=>exact j
  .obtain⟨k1,k2,_⟩:=Z b j;exact⟨k1,k2,fun l=>l⟩
  .exact zXy (F:=C) (F':=u) (fun b c=>c) (fun b _ c=>c) (fun b _ c=>c.elim) L g6
end
theorem zM3{ts:List Ty}(g:ts.all Ty.norf=Sb):qAT (zBB ts):=by intro h x j;have a:=kK ts h x j;refine⟨yI ts x,zBA ts x,a.len.symm,fun w F n k i v d e l c m=>?_⟩;exact zIh k ts x g i v e c (a.get i d e l c w F v m)
def ATy.norf:ATy->Bool
 |.d ty=>ty.norf
 |.pp ty=>ty.norf
 |.clo _ a=>a.all fun c=>c.2.norf
theorem qBh{w:World}{F F':Blk->Prop}(e:∀b:Nat,F b->F' b){t:Ty}(i:t.norf=Sb){x:t.El}{v:Value}(h:Rd w F v (.pp (t.cells x))):Rd w F' v (.pp (t.cells x)):=by
 generalize p:t.cells x=j at h
 cases h with
 |pp b a _ g c k l=>exact .pp b a j g (e b c) k (fun m d n=>zFE e t i x _ d (by grind) (l m d n))
theorem zQt{w:World}{F F':Blk->Prop}(g:∀b:Nat,F b->F' b):∀(l:List (Bool×Ty)) (x:qAW l),(l.all fun c=>c.2.norf)=Sb->∀(i:Nat) (v:Value) (d:V),(zHA l x)[i]?=Sa d->Rd w F v d->Rd w F' v d
 |[],_,_,i,v,d,a,_=>by simp[zHA]at a
 |(b,t)::r,x,e,i,v,d,a,h=>by
  simp only[cQ,am]at e
  cases i with
  |zero=>
   simp[zHA]at a
   grind[qBh,zBf]
  |succ i=>exact zQt g r x.2 e.2 i v d (by simpa[zHA]using a) h
theorem zU6{w:World}{F F':Blk->Prop}(g:∀b:Nat,F b->F' b):∀(ts:List ATy) (x:ElA ts),ts.all ATy.norf=Sb->∀(i:Nat) (v:Value) (d:V),(zMT ts x)[i]?=Sa d->Rd w F v d->Rd w F' v d
 |[],_,_,i,v,d,a,_=>by simp[zMT]at a
 |t::ts,x,c,i,v,d,a,h=>by
  simp only[cQ,am]at c
  cases i with
  |zero=>
   cases a
   cases t with
   |d k=>exact zBf g c.1 h
   |pp k=>exact qBh g c.1 h
   |clo f e=>
    simp only[ATy.enc]at h ⊢
    cases h with
    |clo _ l _ m n=>exact .clo f l _ m (fun j u d p a=>zQt g e x.1 c.1 j u d a (n j u d p a))
  |succ i=>exact zU6 g ts x.2 c.2 i v d (by grind[zMT]) h
def Wp{α:Type}(m:Option α)(Q:α->Prop):Prop:= ∃r,m=Sa r/\Q r
section
variable {α β ρ σ:Type}
variable {i:Option α}{l:α->Prop}
theorem Wp.mono{Q:α->Prop}(h:Wp i Q)(hq:∀r,Q r->l r):Wp i l:=by obtain⟨r,c,d⟩:=h;exact⟨r,c,hq r d⟩
theorem zA{x:α}(h:l x):Wp (Sa x) l:=⟨x,rfl,h⟩
variable {I:α->Option β}{C:β->Prop}
theorem zB(h:Wp i (fun y=>Wp (I y) C)):Wp (Aa i I) C:=by obtain⟨y,rfl,h⟩:=h;exact h
theorem zB6(h:Wp i (fun _=>True))(k:∀y,i=Sa y->Wp (I y) C):Wp (Aa i I) C:=by obtain⟨y,rfl,_⟩:=h;exact k y rfl
theorem zF{c:Bool}{y:Option α}(a:c=Sb->Wp i l)(d:c=Sc->Wp y l):Wp (bif c then i else y) l:=by
 grind
theorem zJN{f:α->β}(h:Wp i (fun y=>C (f y))):Wp (Option.map f i) C:=by obtain⟨y,rfl,h⟩:=h;exact⟨_,rfl,h⟩
def vB(P:σ->Prop)(Q:ρ->Prop):σ ⊕ ρ->Prop
 |.inl s=>P s
 |.inr r=>Q r
variable {g:ρ->Prop}
theorem e2l{P:σ->Prop}{s:σ}(h:P s):vB P g (.inl s):=h
theorem e2r{P:σ->Prop}{r:ρ}(h:g r):vB P g (.inr r):=h
theorem jU{m:Option (σ ⊕ ρ)}{K:σ->Option ρ}(h:Wp m (vB (fun s=>Wp (K s) g) g)):Wp (wB m K) g:=by
 obtain⟨o,rfl,h⟩:=h
 cases o with
 |inl s=>exact h
 |inr r=>exact⟨r,rfl,h⟩
theorem uA{f:σ->Option (σ ⊕ ρ)}(J:σ->Prop)(m:σ->Nat){c:σ}(e:J c)(step:∀s,J s->Wp (f s) (vB (fun a=>J a/\m a<m s) g)):Wp (zS f c) g:=by
 refine qCj J m g ?_ e;intro s Q;obtain⟨o,h,d⟩:=step s Q;refine⟨o,h,?_⟩
 cases o with
 |inl a=>exact d
 |inr r=>exact d
variable {j:Int}
theorem zAl{n:Int}{a c:Int->Option (Int ⊕ ρ)}(step:∀s,j<=s->s<n->Wp (a s) (vB (fun e=>e=s+1) g))(h:∀s,j<=s->n<=s->Wp (c s) (vB (fun _=>False) g)):Wp (zS (fun s=>bif decide (s<n)then a s else c s) j) g:=by
 refine uA (fun s=>j<=s) (fun s=>(n-s).toNat) (dH _) ?_;intro s i;refine zF ?_ ?_
 .intro f;have f:s<n:=by simpa using f
  refine(step s i f).mono ?_;intro o d
  cases o with
  |inl e=>have:e=s+1:=d;subst this;exact⟨by omega,by omega⟩
  |inr r=>exact d
 grind
theorem qFv{γ:Type}{c:Int}{f:γ}{a d:Int×γ->Option ((Int×γ) ⊕ ρ)}(J:Int->γ->Prop)(k:J c f)(step:∀s Q,c<=s->s<j->J s Q->Wp (a (s,Q)) (vB (fun o=>o.1=s+1/\J (s+1) o.2) g))(l:∀s Q,c<=s->j<=s->J s Q->Wp (d (s,Q)) (vB (fun _=>False) g)):Wp (zS (fun o=>bif decide (o.1<j)then a o else d o) (c,f)) g:=by
 refine uA (fun o=>c<=o.1/\J o.1 o.2) (fun o=>(j-o.1).toNat) ⟨dH _,k⟩ ?_;rintro⟨s,Q⟩ ⟨m,p⟩;refine zF ?_ ?_
 .intro e;have e:s<j:=by simpa using e
  refine(step s Q m e p).mono ?_;intro o h
  cases o with
  |inl q=>obtain⟨t,u⟩:=q;obtain⟨i,n⟩:=h;simp only at i n;subst i;exact⟨⟨by omega,n⟩,by simp only;omega⟩
  |inr r=>exact h
 grind
theorem zAk{xs:List α}(c:0<=j)(d:j<xs.length)(h:∀y,y∈xs->xs[j.toNat]?=Sa y->l y):Wp (idx xs j) l:=by
 unfold idx;rw[if_pos c];have a:j.toNat<xs.length:=by omega
 exact⟨xs[j.toNat],by simp[a],h _ (aX a) (by simp[a])⟩
theorem qBM{s:ByteArray}{Q:Int->Prop}(a:0<=j)(d:j<s.size)(h:∀y,0<=y->y<256->Q y):Wp (zPV s j) Q:=by
 unfold zPV;rw[if_pos a];have c:j.toNat<s.size:=by omega
 refine⟨(s[j.toNat].toNat:Int),by simp[c],h _ (by omega) ?_⟩;have:=s[j.toNat].toNat_lt;omega
theorem xZ{bytes:Nat}{xs a:List α}{Q:List α->Prop}(c:(2*(xs.length+a.length)+1024)*bytes<=0x800000000000)(h:Q (xs++a)):Wp (app bytes xs a) Q:=by unfold app;rw[if_pos c];exact⟨_,rfl,h⟩
end
theorem zI{x:Int}(d: -0x8000000000000000<=x)(e:x<0x8000000000000000):Ac .i64 x=x:=by
 have a:((2:Int)^Af .i64)=0x10000000000000000:=by decide
 have c:((2:Int)^(Af .i64-1))=0x8000000000000000:=by decide
 simp only[Ac,Aj,bV,decide_eq_true_eq,a,c];split<;>omega
theorem zNj{x:Int}(c:0<=x)(d:x<0x10000000000000000):Ac .u64 x=x:=by
 have a:((2:Int)^Af .u64)=0x10000000000000000:=by decide
 simp[Ac,Aj,a];omega
variable {g:Type}{i:Option g}{j:g->Prop}
theorem zO{p:Prop}[Decidable p]{y:Option g}(a:p->Wp i j)(c:¬p->Wp y j):Wp (bif decide p then i else y) j:=by
 grind
theorem zAh{p:Prop}[Decidable p]{y:Option g}(a:¬p->Wp i j)(c:p->Wp y j):Wp (bif !decide p then i else y) j:=by
 grind
theorem zM{xs:List g}{i:Nat}{x:g}(h:xs[i]?=Sa x):idx xs (i:Int)=Sa x:=by simp_all[idx]
theorem qGk{xs:List g}{i:Int}{x:g}(a:0<=i)(h:xs[i.toNat]?=Sa x):idx xs i=Sa x:=by rw[idx,if_pos a];exact h
theorem zK{x:g}(h:i=Sa x)(a:j x):Wp i j:=⟨x,h,a⟩
section
variable {α γ ρ:Type}
variable {g:Int×γ->Option γ}
theorem uO{xs:List α}{c:γ}{Q:γ->Prop}(k:xs.length<0x4000000000000000)(J:Nat->γ->Prop)(e:J 0 c)(step:∀i x a,xs[i]?=Sa x->J i a->Wp (g ((i:Int),a)) (J (i+1)))(f:∀a,J xs.length a->Q a):
  Wp (zS (fun s:Int×γ=>bif decide (s.1< (xs.length:Int))then Aa (g s) (fun a=>Sa (Ad (Ac .i64 (s.1+(1:Int)),a)))else Sa (Ab s.2)) ((0:Int),c)) Q:=by
 refine uA (fun(s:Int×γ)=>∃i:Nat,s.1=(i:Int)/\i<=xs.length/\J i s.2) (fun(s:Int×γ)=>((xs.length:Int) -s.1).toNat) ⟨(0:Nat),rfl,aY _,e⟩ ?_;rintro⟨s,a⟩ ⟨i,d,h,j⟩;simp only at d;subst d;refine zO ?_ ?_
 .intro l;have hlt:i<xs.length:=by omega
  refine zB ((step i xs[i] a (by simp[hlt]) j).mono ?_)
  grind[zA,e2l,zI]
 grind[zA,e2r]
theorem zNk{n:Nat}{c:Int×γ->Int}{f:γ}{Q:γ->Prop}(q:n<0x4000000000000000)(J:Nat->γ->Prop)(k:J 0 f)(l:∀i a,J i a->c ((i:Int),a)=n)(step:∀i a,i<n->J i a->Wp (g ((i:Int),a)) (J (i+1)))(m:∀a,J n a->Q a):
  Wp (zS (fun s:Int×γ=>bif decide (s.1<c s)then Aa (g s) (fun a=>Sa (Ad (Ac .i64 (s.1+(1:Int)),a)))else Sa (Ab s.2)) ((0:Int),f)) Q:=by
 refine uA (fun(s:Int×γ)=>∃i:Nat,s.1=(i:Int)/\i<=n/\J i s.2) (fun(s:Int×γ)=>((n:Int) -s.1).toNat) ⟨(0:Nat),rfl,aY _,k⟩ ?_;rintro⟨s,a⟩ ⟨i,h,p,j⟩;simp only at h;subst h;have d:=l i a j;refine zO ?_ ?_
 .intro e;simp only[d]at e;have hlt:i<n:=by omega
  refine zB ((step i a hlt j).mono ?_)
  grind[zA,e2l,zI]
 grind[zA,e2r]
theorem zAK{xs:List α}{a:Int->Option (Int ⊕ (Unit ⊕ ρ))}{K:Unit->Option ρ}{Q:ρ->Prop}(m:xs.length<0x4000000000000000)(J:Nat->Prop)(g:J 0)
  (step:∀i x,xs[i]?=Sa x->J i->Wp (a (i:Int)) (vB (fun e=>e=Ac .i64 ((i:Int)+1)/\J (i+1)) (vB (fun _=>False) Q))) (c:J xs.length->Wp (K ()) Q):
  Wp (wB (zS (fun s:Int=>bif decide (s< (xs.length:Int))then a s else Sa (Ab (Ad ()))) (0:Int)) K) Q:=by
 refine jU ?_;refine uA (fun(s:Int)=>∃i:Nat,s=(i:Int)/\i<=xs.length/\J i) (fun(s:Int)=>((xs.length:Int) -s).toNat) ⟨(0:Nat),rfl,aY _,g⟩ ?_;rintro s ⟨i,h,j,f⟩;subst h;refine zO ?_ ?_
 .intro k;have hlt:i<xs.length:=by omega
  refine(step i xs[i] (by simp[hlt]) f).mono ?_;intro o d
  cases o with
  |inl e=>
   obtain⟨rfl,l⟩:=d;rw[zI (by omega) (by omega)];exact⟨⟨i+1,by omega,hlt,l⟩,by omega⟩
  |inr o=>
   cases o with
   |inl _=>exact d.elim
   |inr r=>exact d
 .intro k;have:i=xs.length:=by omega
  subst this;exact zA (e2r (c f))
end
def zHy{α:Type}(p:α->Bool)(xs:List α):Int:=
 match xs.findIdx? p with
 |some i=>i
 |none=> -1
variable {g:Type}{i:List g}
theorem zPz{p:g->Bool}(h:∀x,x∈i->p x=Sc):zHy p i= -1:=by
 grind[List.findIdx?_eq_none_iff,zHy]
theorem qBy{p:g->Bool}{α:Nat}{x:g}(h:i[α]?=Sa x)(a:p x=Sb)(c:∀j y,j<α->i[j]?=Sa y->p y=Sc):zHy p i=α:=by
 have hlt:=(aa.1 h).1;have d:=(aa.1 h).2
 have:i.findIdx? p=Sa α:=by
  grind[List.findIdx?_eq_some_iff_getElem]
 simp[zHy,this]
theorem zIU(p:g->Bool)(xs:List g):(zHy p xs= -1/\∀x,x∈xs->p x=Sc)\/∃i x,zHy p xs=(i:Nat)/\xs[i]?=Sa x/\p x=Sb/\∀j y,j<i->xs[j]?=Sa y->p y=false:=by
 cases h:xs.findIdx? p with
 |none=>grind[List.findIdx?_eq_none_iff,zHy]
 |some i=>
  right;rw[bc]at h;obtain⟨a,c,e⟩:=h;have d:xs.findIdx? p=Sa i:=by grind[List.findIdx?_eq_some_iff_getElem]
  refine⟨i,xs[i],by simp[zHy,d],by simp[a],c,?_⟩
  grind
theorem zFA{p:g->Bool}{a:Int->Option (Int ⊕ (Unit ⊕ Int))}{Q:Int->Prop}(f:i.length<0x4000000000000000)(step:∀(xs:Nat) x,i[xs]?=Sa x->a (xs:Int)=Sa (bif p x then Ab (Ab (xs:Int))else Ad (Ac .i64 ((xs:Int)+1))))(c:Q (zHy p i)):
  Wp (wB (zS (fun s:Int=>bif decide (s< (i.length:Int))then a s else Sa (Ab (Ad ()))) (0:Int)) (fun _=>Sa (-1:Int))) Q:=by
 refine zAK f (fun xs=>∀j y,j<xs->i[j]?=Sa y->p y=Sc) (fun j y e=>by omega) ?_ ?_
 .intro xs x d e;refine zK (step xs x d) ?_
  cases h:p x with
  |true=>
   simp
   grind[e2r,qBy]
  |false=>
   simp;refine e2l ⟨rfl,?_⟩
   grind
 .intro e;refine zA ?_;rw[zPz]at c
  .exact c
  .intro x d;obtain⟨j,α,rfl⟩:=aA d
   grind
section
variable {α ρ:Type}
variable {i:Int->Option (Int ⊕ (Unit ⊕ ρ))}{g:Unit ⊕ ρ->Prop}
theorem zJO{xs:List α}(l:xs.length<0x4000000000000000)(J:Nat->Prop)(e:J 0)(step:∀a x,xs[a]?=Sa x->J a->Wp (i (a:Int)) (vB (fun c=>c=Ac .i64 ((a:Int)+1)/\J (a+1)) (fun o=>(∀u,o≠Ad u)/\g o)))(f:J xs.length->g (Ad ())):
  Wp (zS (fun s:Int=>bif decide (s< (xs.length:Int))then i s else Sa (Ab (Ad ()))) (0:Int)) g:=by
 refine uA (fun(s:Int)=>∃a:Nat,s=(a:Int)/\a<=xs.length/\J a) (fun(s:Int)=>((xs.length:Int) -s).toNat) ⟨(0:Nat),rfl,aY _,e⟩ ?_;rintro s ⟨a,Q,h,j⟩;subst Q;refine zO ?_ ?_
 .intro m;have hlt:a<xs.length:=by omega
  refine(step a xs[a] (by simp[hlt]) j).mono ?_;intro o d
  cases o with
  |inl c=>
   obtain⟨rfl,k⟩:=d;rw[zI (by omega) (by omega)];exact⟨⟨a+1,by omega,hlt,k⟩,by omega⟩
  |inr o=>exact d.2
 grind[zA,e2r]
theorem qFy{xs:List α}{P:α->Prop}(e:xs.length<0x4000000000000000)(step:∀(a:Nat) x,xs[a]?=Sa x->Wp (i (a:Int)) (vB (fun f=>f=Ac .i64 ((a:Int)+1)/\P x) (fun o=>(∀u,o≠Ad u)/\g o)))(c:(∀x,x∈xs->P x)->g (Ad ())):
  Wp (zS (fun s:Int=>bif decide (s< (xs.length:Int))then i s else Sa (Ab (Ad ()))) (0:Int)) g:=by
 refine zJO e (fun a=>∀j y,j<a->xs[j]?=Sa y->P y) (fun j y Q=>by omega) ?_ (fun h=>c ?_)
 .intro a x d Q;refine(step a x d).mono ?_
  grind
 .intro x d;obtain⟨j,k,rfl⟩:=aA d;simp_all
end
section
variable {α:Type}{lt:α->α->Prop}
structure Ord(lt:α->α->Prop):Prop where
 asym:∀x y,lt x y->¬lt y x
 tr:∀x y z,¬lt y x->¬lt z y->¬lt z x
theorem zEg(d:Ord lt):∀{xs a:List α},xs.Pairwise lt->a.Pairwise lt->(∀z,z∈xs↔z∈a)->xs=a
 |[],[],_,_,_=>rfl
 |[],y::a,_,_,h=>by have:=(h y).2 (by simp);cases this
 |x::xs,[],_,_,h=>by have:=(h x).1 (by simp);cases this
 |x::xs,y::a,f,g,h=>by
  rw[bp]at f g;have k:∀z,¬lt z z:=fun z c=>d.asym z z c c
  have e:x=y:=by
   rcases bg.1 ((h x).1 (by simp))with i|i
   .exact i
   .rcases bg.1 ((h y).2 (by simp))with j|j
    .exact j.symm
    .exact absurd (f.1 y j) (d.asym _ _ (g.1 x i))
  subst e;have:xs=a:=by refine zEg d f.2 g.2 (fun z=>⟨fun c=>?_,fun c=>?_⟩);all_goals grind
  rw[this]
end
section
variable {α:Type}
def swF(a b n:Nat)(xs:List α)(k:Nat):Option α:=
 if a<=k/\k<a+n then xs[b+(k-a)]? else if b<=k/\k<b+n then xs[a+(k-b)]? else xs[k]?
def zAF(lo m hi:Nat)(xs:List α)(k:Nat):Option α:=
 if lo<=k/\k<lo+(hi-m)then xs[k+(m-lo)]? else if lo+(hi-m)<=k/\k<hi then xs[k- (hi-m)]? else xs[k]?
variable {g:List α}{i j:Nat}
theorem qDq{k:Nat}:swF i j 0 g k=g[k]? :=by simp_all[if_neg,swF]
theorem qDr{n:Nat}{zs:List α}(e:i+n<j)(a:j+n<g.length)(b:zs.length=g.length)(h:∀k,zs[k]?=swF i j n g k){x y:α}(f:zs[i+n]?=Sa x)(xs:zs[j+n]?=Sa y):
  ∀k,((zs.set (i+n) y).set (j+n) x)[k]?=swF i j (n+1) g k:=by
 intro k;have c:=h (i+n);have d:=h (j+n);unfold swF at c d;rw[if_neg (by omega),if_neg (by omega),f]at c;rw[if_neg (by omega),if_neg (by omega),xs]at d;unfold swF;by_cases l:k=j+n
 .grind
 .rw[aQ (by omega)];by_cases m:k=i+n
  .grind
  .rw[aQ (by omega),h k];unfold swF
   grind
theorem zHx(h:i=j):g[i]?=g[j]? :=by rw[h]
theorem qDK{lo m hi:Nat}{xs zs:List α}(c:lo<m)(d:m<hi)(a:hi-m<m-lo)(h:∀k,zs[k]?=swF lo m (hi-m) xs k)(k:Nat):zAF (lo+(hi-m)) m hi zs k=zAF lo m hi xs k:=by
 grind[zHx,zAF,swF]
theorem qB2{lo m hi:Nat}{xs zs:List α}(c:lo<m)(d:m<hi)(a:m-lo<hi-m)(h:∀k,zs[k]?=swF lo (hi- (m-lo)) (m-lo) xs k)(k:Nat):zAF lo m (hi- (m-lo)) zs k=zAF lo m hi xs k:=by
 grind[zHx,zAF,swF]
theorem qDL{hi:Nat}{zs:List α}(c:i<=j)(d:j<=hi)(a:j-i=hi-j)(h:∀k,zs[k]?=swF i j (j-i) g k)(k:Nat):zs[k]?=zAF i j hi g k:=by
 grind[zHx,zAF,swF]
end
def qE4{α:Type}(f:List V->Option (α×List V)):List V->Option (List α)
 |[]=>Sa []
 |e::r=>match f e.cells with
  |some (x,[])=>match qE4 f r with
   |some a=>Sa (x::a)
   |none=>Sd
  |_=>Sd
def Ty.unc:(t:Ty)->List V->Option (t.El×List V)
 |.pair a b,c=>match a.unc c with
  |some (x,r)=>match b.unc r with
   |some (y,r)=>Sa ((x,y),r)
   |none=>Sd
  |none=>Sd
 |.sl t,c=>match c with
  |.sl d::r=>match qE4 t.unc d with
   |some xs=>Sa (xs,r)
   |none=>Sd
  |c=>zMe t c
 |.int k,c=>zFC k c
 |.bool,c=>zC4 c
 |.str,c=>zFB c
 |.unit,c=>Sa ((),c)
 |.rf,c=>zMf c
 |.hd,c=>zMh c
 |.pt t,c=>zMg t c
theorem zYt{α:Type}{f:List V->Option (α×List V)}:∀{es:List V} {xs:List α},qE4 f es=Sa xs->es.length=xs.length/\∀(i:Nat) (x:α),xs[i]?=Sa x->∃e,es[i]?=Sa e/\f e.cells=Sa (x,[])
 |[],xs,h=>by simp only[qE4,ac]at h;grind
 |e::r,xs,h=>by
  simp only[qE4]at h;split at h
  .rename_i x d;split at h
   .rename_i c a;cases h;obtain⟨g,j⟩:=zYt a
    grind
   .cases h
  .cases h
theorem qFz{t:Ty}{es:List V}{xs:List t.El}(A:es.length=xs.length)(h:∀(i:Nat) (e:V) (x:t.El),es[i]?=Sa e->xs[i]?=Sa x->kY e.cells (t.cells x)):WkV (.sl es) (.tl t xs):=by
 intro w F v p;refine .tl t xs v ?_
 cases p with
 |slemp a l=>
  have:xs=[]:=aJ A.symm;subst this;exact .slemp a l
 |sl b q l k _ g r f E B p=>
  have u:es.length=(xs.map t.enc).length:=by simpa using A
  rw[u]at B f ⊢;refine .sl b q l k _ g r f ?_ B ?_
  .intro e C;simp at C;obtain⟨x,y,rfl⟩:=C;obtain⟨j,n⟩:=bW y;have c:j<es.length:=by grind
   have z:=(h j es[j] x (by simp[c]) n).len
   grind[jN,List.getElem_mem]
  .intro i j e d D n;simp at D;obtain⟨x,y,rfl⟩:=D;rw[jN]at n;have m:i<es.length:=by grind
   have z:=h i es[i] x (by simp[m]) y;have c:j< (es[i]).cells.length:=by rw[z.len];grind
   exact z.get j _ d (ah c) n w F _ (p i j es[i] _ (by simp[m]) (ah c))
theorem zUm:∀(t:Ty) (cs:List V) (x:t.El) (r:List V),t.unc cs=Sa (x,r)->∃c,cs=c++r/\kY c (t.cells x):=by
 intro t
 induction t with
 |int k=>exact fun cs x r h=>wA (.int k) cs x r h
 |bool=>exact fun cs x r h=>wA .bool cs x r h
 |str=>exact fun cs x r h=>wA .str cs x r h
 |unit=>exact fun cs x r h=>wA .unit cs x r h
 |rf=>exact fun cs x r h=>wA .rf cs x r h
 |hd=>exact fun cs x r h=>wA .hd cs x r h
 |pt t _=>exact fun cs x r h=>wA (.pt t) cs x r h
 |pair a b d e=>
  intro cs x r h;simp only[Ty.unc]at h;split at h
  .rename_i l i f;split at h
   .rename_i m n j;simp at h;obtain⟨rfl,rfl⟩:=h;obtain⟨p,rfl,q⟩:=d cs l i f;obtain⟨u,rfl,y⟩:=e i m n j;exact⟨p++u,by grind,q.append y⟩
   .cases h
  .cases h
 |sl t A=>
  intro cs x r h;simp only[Ty.unc]at h;split at h
  .rename_i z B;split at h
   .rename_i C g;simp at h;obtain⟨rfl,rfl⟩:=h;obtain⟨f,j⟩:=zYt g;refine⟨[.sl z],rfl,qFz f ?_,trivial⟩
    grind
   .cases h
  .exact wA (.sl t) _ x r h
def Ty.decW(t:Ty)(d:V):Option t.El:=
 match t with
 |.pair a b=>match d with
  |.agg c=>match(Ty.pair a b).unc c with
   |some (x,[])=>Sa x
   |_=>Sd
  |_=>Sd
 |.unit=>Sd
 |.sl t=>match(Ty.sl t).unc [d]with
  |some (x,[])=>Sa x
  |_=>Sd
 |.int k=>(Ty.int k).dec d
 |.bool=>Ty.bool.dec d
 |.str=>Ty.str.dec d
 |.rf=>Ty.rf.dec d
 |.hd=>Ty.hd.dec d
 |.pt t=>(Ty.pt t).dec d
theorem qAr{t:Ty}{d:V}{x:t.El}(h:t.decW d=Sa x):WkV d (t.enc x):=by
 cases t with
 |pair a b=>
  simp only[Ty.decW]at h;split at h
  .rename_i i;split at h
   .rename_i e f;simp at h;subst h;obtain⟨j,c,g⟩:=zUm (.pair a b) i e [] f;simp at c;subst c;exact WkV.agg g
   .cases h
  .cases h
 |unit=>simp[Ty.decW]at h
 |sl t=>
  simp only[Ty.decW]at h;split at h
  .rename_i e f;simp at h;subst h;obtain⟨j,c,g⟩:=zUm (.sl t) [d] e [] f;rw[cj]at c;subst c;exact g.1
  .cases h
 |int k=>exact u7 h
 |bool=>exact u7 h
 |str=>exact u7 h
 |rf=>exact u7 h
 |hd=>exact u7 h
 |pt t=>exact u7 h
def zIj:(ts:List Ty)->List V->Option (ElS ts)
 |[],[]=>Sa ()
 |t::ts,d::a=>match t.decW d with
  |some x=>match zIj ts a with
   |some c=>Sa (x,c)
   |none=>Sd
  |none=>Sd
 |_,_=>Sd
theorem zQv:∀(ts:List Ty) (ds:List V) (x:ElS ts),zIj ts ds=Sa x->kY ds (yI ts x)
 |[],[],_,_=>trivial
 |[],_::_,_,h=>by simp[zIj]at h
 |_::_,[],_,h=>by simp[zIj]at h
 |t::ts,d::ds,x,h=>by
  simp only[zIj]at h;split at h
  .rename_i y c;split at h
   .rename_i e a;cases h;exact⟨qAr c,zQv ts ds e a⟩
   .cases h
  .cases h
variable {g:List Ty}{i:Nat->Option (List V)}
theorem qCz{Γ:Sig}{P:Program}{f:FuncId}{R:RTy}{ts:ElS g->Option R.El}(h:jK Γ P i f (z6 (qQ g R ts))):jK Γ P i f (z6 (vT (zIj g) R ts)):=by
 intro w F O s c e p r j q t k m a;simp[z6,vT]at a
 cases n:zIj g e with
 |none=>grind
 |some x=>
  rw[n]at a;have l:=zQv g e x n;refine h w F O s c (yI g x) p r j q t (k.trans l.len) ?_ ?_
  .intro G u d y z;have hlt:G<e.length:=by grind
   exact l.get G e[G] d (by simp[hlt]) z w F u (m G u e[G] y (by simp[hlt]))
  simp_all[zBA,z6,qQ,vT]
def zXY{α:Type}(f:α->α->Bool):List α->List α->Bool
 |[],[]=>Sb
 |x::a,y::c=>f x y&&zXY f a c
 |_,_=>Sc
theorem zKm{α:Type}{f:α->α->Bool}(c:∀x y,f x y=Sb->x=y):∀{xs a:List α},zXY f xs a=Sb->xs=a
 |[],[],_=>rfl
 |x::xs,y::a,h=>by
  simp[zXY]at h;rw[c x y h.1,zKm c h.2]
 |[],_::_,h=>by cases h
 |_::_,[],h=>by cases h
def Ty.eqb:(t:Ty)->t.El->t.El->Bool
 |.int _,a,b=>decide (a=b)
 |.bool,a,b=>match a,b with
  |true,Sb=>Sb
  |false,Sc=>Sb
  |_,_=>Sc
 |.str,a,b=>zXY (fun(x y:UInt8)=>Nat.beq x.toNat y.toNat) a.data.toList b.data.toList
 |.unit,_,_=>Sb
 |.pair s t,a,b=>s.eqb a.1 b.1&&t.eqb a.2 b.2
 |.sl t,a,b=>zXY t.eqb a b
 |.rf,_,_=>Sc
 |.hd,_,_=>Sc
 |.pt _,_,_=>Sc
theorem qCO:∀(t:Ty) (a b:t.El),t.eqb a b=Sb->a=b:=by
 intro t
 induction t with
 |int k=>exact fun a b h=>of_decide_eq_true h
 |bool=>
  intro a b h;cases a<;>cases b<;>first|rfl|cases h
 |str=>
  intro a b h;have h:=zKm (fun(x y:UInt8) h=>UInt8.toNat_inj.1 (aM h)) h;cases a;simp_all
 |unit=>grind
 |pair s t c d=>
  intro a b h;simp[Ty.eqb]at h
  grind
 |sl t e=>exact fun a b h=>zKm e h
 |rf=>exact fun _ _ h=>by cases h
 |hd=>exact fun _ _ h=>by cases h
 |pt t _=>exact fun _ _ h=>by cases h
def eqS:(ts:List Ty)->ElS ts->ElS ts->Bool
 |[],_,_=>Sb
 |t::ts,a,b=>t.eqb a.1 b.1&&eqS ts a.2 b.2
theorem zU5:∀(ts:List Ty) (a b:ElS ts),eqS ts a b=Sb->a=b
 |[],_,_,_=>rfl
 |t::ts,a,b,h=>by simp[eqS]at h;exact Prod.ext (qCO t _ _ h.1) (zU5 ts _ _ h.2)
def atP(ts:List Ty){α:Type}(a:ElS ts)(c:α)(f:ElS ts->Option α):ElS ts->Option α:=fun x=>bif eqS ts x a then Sa c else f x
def noF{X α:Type}:X->Option α:=fun _=>Sd
theorem zRr{Γ:Sig}{P:Program}{f:FuncId}{R:RTy}{G h:ElS g->Option R.El}(a:jK Γ P i f (z6 (qQ g R G)))(c:∀x y,h x=Sa y->G x=Sa y):
  jK Γ P i f (z6 (vT (zIj g) R h)):=by
 refine zX6 (qCz a) ?_
 grind[Option.map_eq_some_iff,z6,vT,zIj]
theorem zOL{α:Type}{a:ElS g}{c:α}{f ts:ElS g->Option α}(d:ts a=Sa c)(e:∀x y,f x=Sa y->ts x=Sa y):∀x y,atP g a c f x=Sa y->ts x=Sa y:=by
 grind[zU5,atP,eqS]
theorem zRv{X α:Type}{g:X->Option α}:∀x y,noF (X:=X) (α:=α) x=Sa y->g x=Sa y:=fun _ _ h=>by cases h
end Go.Ve
namespace Go.Ve
open Go
def zQx(t:Ty)(ds:List V):Option (t.El×List t.El):=
 match zBB [.sl t] ds with
 |some (y::r,_)=>Sa (y,r)
 |_=>Sd
theorem zKE{t:Ty}{ds:List V}{q:t.El×List t.El}(h:zQx t ds=Sa q):kY ds [.tl t (q.1::q.2)]:=by
 unfold zQx at h;split at h
 .rename_i y r u a;cases h;exact kK [.sl t] ds (y::r,u) a
 .cases h
open Classical in
noncomputable def zJr(v:Value)(ds:List V):Option Unit:=if ds=[.val v]then Sa ()else Sd
theorem zCP{v:Value}{ds:List V}{q:Unit}(h:zJr v ds=Sa q):kY ds [.val v]:=by
 unfold zJr at h;split at h
 .rename_i a;subst a;exact⟨.refl _,trivial⟩
 .cases h
theorem zXD{w:World}{F:Blk->Prop}{v:Value}{t:Ty}(h:Rd w F v (.tl t [])):∃a c,v=.slice a 0 c:=by
 have e:=Rd.untl h;simp at e;generalize i:V.sl []=d at e
 cases e with
 |slemp a c=>grind
 |sl b j l k m g n f p q r=>
  grind
 |_=>cases i
variable {i:FuncId}{g:Nat->Option (List V)}{j:Program}
theorem zSI{t:Ty}{bytes:Nat}(Z:jK jV j g i (z6 (vT (zQx t) (.p (.sl t)) (fun q=>Aa (app bytes [] (q.1::q.2)) fun z=>Sa z))))(h2:∀c,jK jV j g i (z6 (vT (zJr (.slice Sd 0 c)) (.p (.sl t)) (fun _=>Sa []))))(h3:∀a c,jK jV j g i (z6 (vT (zJr (.slice (Sa a) 0 c)) (.p (.sl t)) (fun _=>Sa [])))):
  jK jV j g i (z6 (qQ [.sl t] (.p (.sl t)) (fun x=>Aa (app bytes [] x.1) fun z=>Sa z))):=by
 intro w F O s G D n r k Q S A J P;simp only[z6,qQ,vT]at P
 cases W:zBB [.sl t] D with
 |none=>grind
 |some x=>
  rw[W]at P;have B:=kK [.sl t] D x W;have K:D.length=1:=B.len;have C:G.size=1:=A.trans K;obtain⟨L,u⟩:=x;have hv:Rd w F G[0] (.tl t L):=B.get 0 (D[0]'(by omega)) (.tl t L) (by simp) rfl w F _ (J 0 _ _ (by simp) (by simp))
  cases L with
  |cons y m=>
   refine Z w F O s G [.tl t (y::m)] n r k Q S (by simpa using C) ?_ ?_
   .grind
   .have M:zQx t [.tl t (y::m)]=Sa (y,m):=by unfold zQx;rw[show zBB [.sl t] [.tl t (y::m)]=Sa (y::m,())from zBA [.sl t] (y::m,())]
    grind[z6,vT]
  |nil=>
   obtain⟨a,c,ha⟩:=zXD hv
   have l:Sa (n,r)=Sa (s,(RTy.p (.sl t)).res []):=by
    have:(app bytes ([]:List t.El) [])=Sa []\/app bytes ([]:List t.El) []=none:=by unfold app;grind
    grind
   simp at l;obtain⟨rfl,rfl⟩:=l
   have go:∀v,G[0]=v->jK jV j g i (z6 (vT (zJr v) (.p (.sl t)) (fun _=>Sa [])))->Calls j i G w fun e E=>∃(v:Value) (H:Blk->Prop) (I:Nat->Prop),e=.returned v/\jV.R n H I E/\xI O w E/\
     (∀b,I b->O b\/w.heap.size<=b)/\zB1 (jV.wk/\((RTy.p (.sl t)).res []).isH) w.heap.size F H/\(∀b:Nat,H b->(F b\/w.heap.size<=b)/\b<E.heap.size/\¬I b)/\zAX w.heap.size E H I v ((RTy.p (.sl t)).res []):=by
    intro v N h;refine h w F O n G [.val v] n _ k Q S (by simpa using C) ?_ ?_
    .intro f u d hi Y
     match f with
     |0=>
      cases Y
      have:u=G[0]:=by
       grind
      rw[this,N];exact .val _
     |f+1=>simp at Y
    .have M:zJr v [.val v]=Sa ():=by unfold zJr;rw[if_pos rfl]
     grind[z6,vT]
   cases a with
   |none=>grind
   |some a=>grind
theorem zX9{t:Ty}{bytes:Nat}(Y:jK jV j g i (z6 (vT (zQx t) (.o t) (fun q=>Aa (app bytes [] (q.1::q.2)) fun z=>Sa z))))(h2:∀c,jK jV j g i (z6 (vT (zJr (.slice Sd 0 c)) (.o t) (fun _=>Sa []))))(h3:∀a c,jK jV j g i (z6 (vT (zJr (.slice (Sa a) 0 c)) (.o t) (fun _=>Sa [])))):
  jK jV j g i (z6 (qQ [.sl t] (.o t) (fun x=>Aa (app bytes [] x.1) fun z=>Sa z))):=by
 intro w F O s G C n r k N Q p I P;simp only[z6,qQ,vT]at P
 cases S:zBB [.sl t] C with
 |none=>grind
 |some x=>
  rw[S]at P;have A:=kK [.sl t] C x S;have J:C.length=1:=A.len;have B:G.size=1:=p.trans J;obtain⟨K,u⟩:=x;have Z:Rd w F G[0] (.tl t K):=A.get 0 (C[0]'(by omega)) (.tl t K) (by simp) rfl w F _ (I 0 _ _ (by simp) (by simp))
  cases K with
  |cons y m=>
   refine Y w F O s G [.tl t (y::m)] n r k N Q (by simpa using B) ?_ ?_
   .grind
   .have L:zQx t [.tl t (y::m)]=Sa (y,m):=by unfold zQx;rw[show zBB [.sl t] [.tl t (y::m)]=Sa (y::m,())from zBA [.sl t] (y::m,())]
    grind[z6,vT]
  |nil=>
   obtain⟨a,c,ha⟩:=zXD Z
   have l:Sa (n,r)=Sa (s,(RTy.o t).res []):=by
    have:(app bytes ([]:List t.El) [])=Sa []\/app bytes ([]:List t.El) []=none:=by unfold app;grind
    grind
   simp at l;obtain⟨rfl,rfl⟩:=l
   have go:∀v,G[0]=v->jK jV j g i (z6 (vT (zJr v) (.o t) (fun _=>Sa [])))->Calls j i G w fun e D=>∃(v:Value) (E:Blk->Prop) (H:Nat->Prop),e=.returned v/\jV.R n E H D/\xI O w D/\
     (∀b,H b->O b\/w.heap.size<=b)/\zB1 (jV.wk/\((RTy.o t).res []).isH) w.heap.size F E/\(∀b:Nat,E b->(F b\/w.heap.size<=b)/\b<D.heap.size/\¬H b)/\zAX w.heap.size D E H v ((RTy.o t).res []):=by
    intro v M h;refine h w F O n G [.val v] n _ k N Q (by simpa using B) ?_ ?_
    .intro f u d hi W
     match f with
     |0=>
      cases W
      have:u=G[0]:=by
       grind
      rw[this,M];exact .val _
     |f+1=>simp at W
    .have L:zJr v [.val v]=Sa ():=by unfold zJr;rw[if_pos rfl]
     grind[z6,vT]
   cases a with
   |none=>grind
   |some a=>grind
theorem zWz{t:Ty}{ds:List V}(m:zCt ds=Sd)(h:∀a:Option Addr,∃S,jK jV j g i S/\S () (.val (.slice a 0 0)::ds)=Sa ((),.p (.tup []))):
  zAJ jV j g i () t [] ds () [] (.tup []):=by
 refine zAJ.of m ?_;intro w F O b x k y z A l _ n q r
 have B:∃a,x=.slice a 0 0:=by
  rcases l with⟨_,h⟩|⟨h,_⟩
  all_goals grind
 obtain⟨a,rfl⟩:=B;obtain⟨S,C,D⟩:=h a
 have G:=C w F O () k (.val (.slice a 0 0)::ds) () (.p (.tup [])) y z A (by simpa using n) (by
  intro f v d u E
  match f with
  |0=>
   cases E;rw[q]at u;cases u;exact .val _
  |f+1=>grind) D
 refine G.mono ?_;rintro e Z ⟨v,H,I,rfl,J,P,K,L,M,N⟩;exact⟨v,H,I,rfl,J,⟨P.os,P.tape,P.output,P.size,fun c Q W=>P.block c Q (fun Y=>W (.inl Y)),P.drawn⟩,K,L.no (fun h=>h.1),M,zCD.of (.inl ⟨rfl,a,rfl⟩) N⟩
end Go.Ve
namespace Go.Ve
noncomputable section
open Go
def zEB:ElS [(.int .u8)]->Option (RTy.El (.p .bool)):=fun x=>match x with|(a,())=>Aa (bif decide (a>=(97:Int))then bif decide (a<=(122:Int))then Sa Sb else bif decide (a>=(65:Int))then Sa (decide (a<=(90:Int)))else Sa Sc else bif decide (a>=(65:Int))then Sa (decide (a<=(90:Int)))else Sa Sc) fun(c:Bool)=>Sa c
def zCI:ElS [.str]->Option (RTy.El (.p .bool)):=fun x=>match x with|(d,())=>Aa (bif decide ((↑(ByteArray.size d):Int)< (1:Int))then Sa Sb else bif decide ((↑(ByteArray.size d):Int)>(15:Int))then Sa Sb else Aa (zPV d (0:Int)) fun(g:Int)=>Aa (zEB (g,())) fun(h:Bool)=>Sa !h) fun(i:Bool)=>bif i then Sa Sc else wB (zS (fun(c:Int)=>bif decide (c< (↑(ByteArray.size d):Int))then Aa (zPV d c) fun(a:Int)=>Aa (Aa (zEB (a,())) fun(e:Bool)=>bif !e then bif decide (a>=(48:Int))then bif !decide (a<=(57:Int))then bif a !=(45:Int)then bif a !=(95:Int)then bif a !=(47:Int)then Sa (a !=(46:Int))else Sa Sc else Sa Sc else Sa Sc else Sa Sc else bif a !=(45:Int)then bif a !=(95:Int)then bif a !=(47:Int)then Sa (a !=(46:Int))else Sa Sc else Sa Sc else Sa Sc else Sa Sc) fun(f:Bool)=>bif f then Sa (Ab (Ab Sc))else Sa (Ad (Ac .i64 (c+(1:Int))))else Sa (Ab (Ad ()))) (1:Int)) fun(j:Unit)=>Sa Sb
def qB:ElS [tI,tI,tI]->Option (RTy.El (.p .bool)):=fun x=>match x with|(a,c,d,())=>Aa (bif decide (c<=a)then Sa (decide (a<=d))else Sa Sc) fun(e:Bool)=>Sa e
def zCJ:ElS [tI]->Option (RTy.El (.p tU)):=fun x=>match x with|(c,())=>Aa (zS (fun(a:Int×Int)=>bif decide (a.1< (32:Int))then Aa (bif decide (a.1<c)then bif decide ((0:Int)<=Ac .u64 (Ac .i64 ((31:Int) -a.1)))then Sa (Ac .u32 (↑(Ai (Ag (Af Ah) a.2|||Ag (Af Ah) (Ac .u32 ((1:Int)*(2:Int)^min (Int.toNat (Ac .u64 (Ac .i64 ((31:Int) -a.1)))) (Af Ah))))):Int))else Sd else Sa a.2) fun(d:Int)=>Sa (Ad (Ac .i64 (a.1+(1:Int)),d))else Sa (Ab a.2)) ((0:Int),(0:Int))) fun(e:Int)=>Sa e
def uF:ElS [tU,tI]->Option (RTy.El (.p zD)):=fun x=>match x with|(c,a,())=>Aa (zCJ (if(0:Int)>if(32:Int)<a then(32:Int)else a then(0:Int)else if(32:Int)<a then(32:Int)else a,())) fun(d:Int)=>Sa (Ac .u32 (↑(Ai (Ag (Af Ah) c&&&Ag (Af Ah) d)):Int),if(0:Int)>if(32:Int)<a then(32:Int)else a then(0:Int)else if(32:Int)<a then(32:Int)else a,())
def zA4:ElS [zD,tU]->Option (RTy.El (.p .bool)):=fun x=>match x with|(a,c,())=>Aa (zCJ (a.2.1,())) fun(d:Int)=>Sa (Ac .u32 (↑(Ai (Ag (Af Ah) c&&&Ag (Af Ah) d)):Int)==a.1)
def zBo:ElS [zD,zD]->Option (RTy.El (.p .bool)):=fun x=>match x with|(a,c,())=>Aa (bif decide (a.2.1<=c.2.1)then Aa (zA4 (a,c.1,())) fun(d:Bool)=>Sa d else Sa Sc) fun(e:Bool)=>Sa e
def x9:ElS [zD,zD]->Option (RTy.El (.p .bool)):=fun x=>match x with|(a,c,())=>Aa (Aa (zBo (a,c,())) fun(d:Bool)=>bif d then Sa Sb else Aa (zBo (c,a,())) fun(e:Bool)=>Sa e) fun(f:Bool)=>Sa f
def xJ:ElS [(.sl zZ)]->Option (RTy.El (.p tI)):=fun x=>match x with|(f,())=>bif decide ((↑(Ae f):Int)>(8:Int))then Sa (7:Int)else wB (zS (fun(c:Int)=>bif decide (c< (↑(Ae f):Int))then wB (Aa (idx f c) fun(a:Ty.El zZ)=>Aa (zCI (a.1,())) fun(g:Bool)=>bif !g then Sa (Ab (Ab (Ab (3:Int))))else wB (zS (fun(e:Int)=>bif decide (e<c)then Aa (idx f e) fun(h:Ty.El zZ)=>bif h.1==a.1 then Sa (Ab (Ab (Ab (Ab (Ab (4:Int))))))else Sa (Ad (Ac .i64 (e+(1:Int))))else Sa (Ab (Ad ()))) (0:Int)) fun(E:Unit)=>Aa (Aa (qB (a.2.2.1,(0:Int),(32:Int),())) fun(i:Bool)=>bif !i then Sa Sb else Aa (qB (a.2.2.2.1,(0:Int),(4094:Int),())) fun(j:Bool)=>bif !j then Sa Sb else Aa (qB (a.2.2.2.2.2.2.2.2.2.2.2.1,(0:Int),(2:Int),())) fun(k:Bool)=>Sa !k) fun(l:Bool)=>bif l then Sa (Ab (Ab (Ab (1:Int))))else Aa (bif a.2.2.1==(0:Int)then bif a.2.1 !=(0:Int)then Sa Sb else bif a.2.2.2.1 !=(0:Int)then Sa Sb else bif a.2.2.2.2.2.2.2.2.2.2.2.1 !=(0:Int)then Sa Sb else bif a.2.2.2.2.2.1 then Sa Sb else bif a.2.2.2.2.2.2.2.2.1 then Sa Sb else bif a.2.2.2.2.2.2.2.2.2.1 != { data:= #[] }then Sa Sb else bif a.2.2.2.2.2.2.2.2.2.2.1 != { data:= #[] }then Sa Sb else bif a.2.2.1 !=(0:Int)then Sa (a.2.1==(0:Int))else Sa Sc else bif a.2.2.1 !=(0:Int)then Sa (a.2.1==(0:Int))else Sa Sc) fun(n:Bool)=>bif n then Sa (Ab (Ab (Ab (1:Int))))else Aa (bif a.2.2.2.2.2.1 then Aa (qB (a.2.2.2.2.2.2.1,(0:Int),(255:Int),())) fun(q:Bool)=>bif !q then Sa Sb else Aa (qB (a.2.2.2.2.2.2.2.1,(1:Int),(65535:Int),())) fun(r:Bool)=>bif !r then Sa Sb else bif !a.2.2.2.2.2.1 then bif a.2.2.2.2.2.2.1 !=(0:Int)then Sa Sb else Sa (a.2.2.2.2.2.2.2.1 !=(0:Int))else Sa Sc else bif !a.2.2.2.2.2.1 then bif a.2.2.2.2.2.2.1 !=(0:Int)then Sa Sb else Sa (a.2.2.2.2.2.2.2.1 !=(0:Int))else Sa Sc) fun(t:Bool)=>bif t then Sa (Ab (Ab (Ab (1:Int))))else zS (fun(d:Int)=>bif decide (d<c)then Aa (bif a.2.2.1 !=(0:Int)then Aa (idx f d) fun(u:Ty.El zZ)=>bif u.2.2.1 !=(0:Int)then Aa (uF (a.2.1,a.2.2.1,())) fun(y:Int×Int×Unit)=>Aa (idx f d) fun(z:Ty.El zZ)=>Aa (idx f d) fun(A:Ty.El zZ)=>Aa (uF (z.2.1,A.2.2.1,())) fun(B:Int×Int×Unit)=>Aa (x9 (y,B,())) fun(C:Bool)=>Sa C else Sa Sc else Sa Sc) fun(D:Bool)=>bif D then Sa (Ab (Ab (Ab (Ab (6:Int)))))else Sa (Ad (Ac .i64 (d+(1:Int))))else Sa (Ab (Ad ()))) (0:Int)) fun(F:Unit)=>Sa (Ad (Ac .i64 (c+(1:Int))))else Sa (Ab (Ad ()))) (0:Int)) fun(G:Unit)=>Sa (0:Int)
def uE:ElS [zD]->Option (RTy.El (.p .bool)):=fun x=>match x with|(a,())=>Aa (bif decide (a.2.1>=(0:Int))then bif decide (a.2.1<=(32:Int))then Aa (zCJ (a.2.1,())) fun(c:Int)=>Sa (Ac .u32 (↑(Ai (Ag (Af Ah) a.1&&& ~~~Ag (Af Ah) c)):Int)==(0:Int))else Sa Sc else Sa Sc) fun(d:Bool)=>Sa d
def xQ:ElS [zRL]->Option (RTy.El (.p .bool)):=fun x=>match x with|(a,())=>Aa (Aa (uE (a.2.1,())) fun(c:Bool)=>bif c then bif decide (a.2.1.2.1<=a.2.2.1)then bif decide (a.2.2.1<=a.2.2.2.1)then Sa (decide (a.2.2.2.1<=(32:Int)))else Sa Sc else Sa Sc else Sa Sc) fun(d:Bool)=>Sa d
def zAr:ElS [(.sl zEb)]->Option (RTy.El (.p tI)):=fun x=>match x with|(c,())=>bif decide ((↑(Ae c):Int)>(8:Int))then Sa (7:Int)else wB (zS (fun(a:Int)=>bif decide (a< (↑(Ae c):Int))then wB (Aa (idx c a) fun(f:Ty.El zEb)=>Aa (zCI (f.1,())) fun(g:Bool)=>bif !g then Sa (Ab (Ab (Ab (3:Int))))else wB (zS (fun(d:Int)=>bif decide (d<a)then Aa (idx c d) fun(h:Ty.El zEb)=>Aa (idx c a) fun(i:Ty.El zEb)=>bif h.1==i.1 then Sa (Ab (Ab (Ab (Ab (Ab (4:Int))))))else Sa (Ad (Ac .i64 (d+(1:Int))))else Sa (Ab (Ad ()))) (0:Int)) fun(r:Unit)=>Aa (idx c a) fun(j:Ty.El zEb)=>bif (↑(Ae j.2.1):Int)==(0:Int)then Sa (Ab (Ab (Ab (1:Int))))else Aa (idx c a) fun(k:Ty.El zEb)=>bif decide ((↑(Ae k.2.1):Int)>(16:Int))then Sa (Ab (Ab (Ab (7:Int))))else zS (fun(e:Int)=>Aa (idx c a) fun(l:Ty.El zEb)=>bif decide (e< (↑(Ae l.2.1):Int))then Aa (idx c a) fun(m:Ty.El zEb)=>Aa (idx m.2.1 e) fun(n:Ty.El zRL)=>Aa (xQ (n,())) fun(q:Bool)=>bif !q then Sa (Ab (Ab (Ab (Ab (1:Int)))))else Sa (Ad (Ac .i64 (e+(1:Int))))else Sa (Ab (Ad ()))) (0:Int)) fun(t:Unit)=>Sa (Ad (Ac .i64 (a+(1:Int))))else Sa (Ab (Ad ()))) (0:Int)) fun(u:Unit)=>Sa (0:Int)
def u9:ElS [zG,.str]->Option (RTy.El (.p tI)):=fun x=>match x with|(c,d,())=>wB (zS (fun(a:Int)=>bif decide (a< (↑(Ae c.2.2.2.1):Int))then Aa (idx c.2.2.2.1 a) fun(e:Ty.El zEb)=>bif e.1==d then Sa (Ab (Ab a))else Sa (Ad (Ac .i64 (a+(1:Int))))else Sa (Ab (Ad ()))) (0:Int)) fun(f:Unit)=>Sa (-1:Int)
def zBn:ElS [zG]->Option (RTy.El (.p tI)):=fun x=>match x with|(f,())=>bif decide ((↑(Ae f.2.2.2.2.1):Int)>(8:Int))then Sa (7:Int)else wB (zS (fun(a:Int)=>bif decide (a< (↑(Ae f.2.2.2.2.1):Int))then wB (Aa (idx f.2.2.2.2.1 a) fun(g:Ty.El zLL)=>Aa (zCI (g.1,())) fun(h:Bool)=>bif !h then Sa (Ab (Ab (Ab (3:Int))))else wB (zS (fun(d:Int)=>bif decide (d<a)then Aa (idx f.2.2.2.2.1 d) fun(i:Ty.El zLL)=>Aa (idx f.2.2.2.2.1 a) fun(j:Ty.El zLL)=>bif i.1==j.1 then Sa (Ab (Ab (Ab (Ab (Ab (4:Int))))))else Sa (Ad (Ac .i64 (d+(1:Int))))else Sa (Ab (Ad ()))) (0:Int)) fun(C:Unit)=>Aa (idx f.2.2.2.2.1 a) fun(k:Ty.El zLL)=>bif (↑(Ae k.2.1):Int)==(0:Int)then Sa (Ab (Ab (Ab (1:Int))))else Aa (idx f.2.2.2.2.1 a) fun(l:Ty.El zLL)=>bif decide ((↑(Ae l.2.1):Int)>(8:Int))then Sa (Ab (Ab (Ab (7:Int))))else zS (fun(e:Int)=>Aa (idx f.2.2.2.2.1 a) fun(m:Ty.El zLL)=>bif decide (e< (↑(Ae m.2.1):Int))then Aa (idx f.2.2.2.2.1 a) fun(n:Ty.El zLL)=>Aa (idx n.2.1 e) fun(c:Ty.El qA0)=>Aa (bif c.2.1 != { data:= #[] }then Aa (u9 (f,c.2.1,())) fun(q:Int)=>Sa (decide (q< (0:Int)))else Sa Sc) fun(r:Bool)=>bif r then Sa (Ab (Ab (Ab (Ab (5:Int)))))else Aa (Aa (qB (c.2.2.1,(-1:Int),(65535:Int),())) fun(t:Bool)=>bif !t then Sa Sb else Aa (qB (c.2.2.2.2.1,(-1:Int),(65535:Int),())) fun(u:Bool)=>bif !u then Sa Sb else Aa (qB (c.2.2.2.1,(-1:Int),(16777215:Int),())) fun(y:Bool)=>bif !y then Sa Sb else Aa (qB (c.2.2.2.2.2.1,(-1:Int),(1000000:Int),())) fun(z:Bool)=>bif !z then Sa Sb else Aa (qB (c.2.2.2.2.2.2.1,(0:Int),(8:Int),())) fun(A:Bool)=>Sa !A) fun(B:Bool)=>bif B then Sa (Ab (Ab (Ab (Ab (1:Int)))))else Sa (Ad (Ac .i64 (e+(1:Int))))else Sa (Ab (Ad ()))) (0:Int)) fun(E:Unit)=>Sa (Ad (Ac .i64 (a+(1:Int))))else Sa (Ab (Ad ()))) (0:Int)) fun(F:Unit)=>Sa (0:Int)
def zGf:ElS [zR]->Option (RTy.El (.p .bool)):=fun x=>match x with|(a,())=>Aa (bif decide ((0:Int)<=a.1)then bif decide (a.1<=a.2.1)then Sa (decide (a.2.1<=(65535:Int)))else Sa Sc else Sa Sc) fun(c:Bool)=>Sa c
def zJ4:ElS [zR]->Option (RTy.El (.p .bool)):=fun x=>match x with|(a,())=>Sa (a.1==(0:Int)&&(a.2.1==(65535:Int)&&Sb))
def zDg:ElS [zW0]->Option (RTy.El (.p .bool)):=fun x=>match x with|(a,())=>Aa (Aa (qB (a.2.1,(-1:Int),(255:Int),())) fun(e:Bool)=>bif !e then Sa Sb else bif Ac .u32 (↑(Ai (Ag (Af Ah) a.2.2.1.1&&&Ag (Af Ah) a.2.2.1.2.1)):Int) !=(0:Int)then Sa Sb else bif Ac .u32 (↑(Ai (Ag (Af Ah) a.2.2.2.1.1&&&Ag (Af Ah) a.2.2.2.1.2.1)):Int) !=(0:Int)then Sa Sb else Aa (zGf (a.2.2.2.2.1,())) fun(f:Bool)=>bif !f then Sa Sb else Aa (zGf (a.2.2.2.2.2.1,())) fun(g:Bool)=>Sa !g) fun(h:Bool)=>bif h then Sa Sc else Aa (bif a.2.1==(6:Int)then Sa Sb else bif a.2.1==(17:Int)then Sa Sb else Aa (zJ4 (a.2.2.2.2.1,())) fun(i:Bool)=>bif i then Aa (zJ4 (a.2.2.2.2.2.1,())) fun(c:Bool)=>Sa c else Sa Sc) fun(d:Bool)=>Sa d
def zAs:ElS [(.sl zOZ)]->Option (RTy.El (.p tI)):=fun x=>match x with|(c,())=>bif decide ((↑(Ae c):Int)>(8:Int))then Sa (7:Int)else wB (zS (fun(a:Int)=>bif decide (a< (↑(Ae c):Int))then wB (Aa (idx c a) fun(f:Ty.El zOZ)=>Aa (zCI (f.1,())) fun(g:Bool)=>bif !g then Sa (Ab (Ab (Ab (3:Int))))else wB (zS (fun(d:Int)=>bif decide (d<a)then Aa (idx c d) fun(h:Ty.El zOZ)=>Aa (idx c a) fun(i:Ty.El zOZ)=>bif h.1==i.1 then Sa (Ab (Ab (Ab (Ab (Ab (4:Int))))))else Sa (Ad (Ac .i64 (d+(1:Int))))else Sa (Ab (Ad ()))) (0:Int)) fun(r:Unit)=>Aa (idx c a) fun(j:Ty.El zOZ)=>bif (↑(Ae j.2.1):Int)==(0:Int)then Sa (Ab (Ab (Ab (1:Int))))else Aa (idx c a) fun(k:Ty.El zOZ)=>bif decide ((↑(Ae k.2.1):Int)>(16:Int))then Sa (Ab (Ab (Ab (7:Int))))else zS (fun(e:Int)=>Aa (idx c a) fun(l:Ty.El zOZ)=>bif decide (e< (↑(Ae l.2.1):Int))then Aa (idx c a) fun(m:Ty.El zOZ)=>Aa (idx m.2.1 e) fun(n:Ty.El zW0)=>Aa (zDg (n,())) fun(q:Bool)=>bif !q then Sa (Ab (Ab (Ab (Ab (1:Int)))))else Sa (Ad (Ac .i64 (e+(1:Int))))else Sa (Ab (Ad ()))) (0:Int)) fun(t:Unit)=>Sa (Ad (Ac .i64 (a+(1:Int))))else Sa (Ab (Ad ()))) (0:Int)) fun(u:Unit)=>Sa (0:Int)
def zGg:ElS [zG,.str]->Option (RTy.El (.p tI)):=fun x=>match x with|(c,d,())=>wB (zS (fun(a:Int)=>bif decide (a< (↑(Ae c.2.2.2.2.2.1):Int))then Aa (idx c.2.2.2.2.2.1 a) fun(e:Ty.El zOZ)=>bif e.1==d then Sa (Ab (Ab a))else Sa (Ad (Ac .i64 (a+(1:Int))))else Sa (Ab (Ad ()))) (0:Int)) fun(f:Unit)=>Sa (-1:Int)
def xP:ElS [zG]->Option (RTy.El (.p tI)):=fun x=>match x with|(e,())=>bif decide ((↑(Ae e.2.2.2.2.2.2.1):Int)>(8:Int))then Sa (7:Int)else wB (zS (fun(d:Int)=>bif decide (d< (↑(Ae e.2.2.2.2.2.2.1):Int))then Aa (idx e.2.2.2.2.2.2.1 d) fun(a:Ty.El qHK)=>Aa (bif a.1==(1:Int)then Aa (bif a.2.1 !=(0:Int)then bif a.2.2.1 !=(0:Int)then Sa (a.1==a.1&&(a.2.1==a.2.1&&(a.2.2.1==a.2.2.1&&(a.2.2.2.1==(0:Int)&&(a.2.2.2.2.1==(0:Int)&&(a.2.2.2.2.2.1==(0:Int)&&(a.2.2.2.2.2.2.1== { data:= #[] } &&(a.2.2.2.2.2.2.2.1==(0:Int)&&(a.2.2.2.2.2.2.2.2.1==(0:Int)&&Sb)))))))))else Sa Sc else Sa Sc) fun(f:Bool)=>Sa f else bif a.1==(2:Int)then Aa (bif a.2.2.2.2.2.2.2.1 !=(0:Int)then bif decide (a.2.2.2.2.2.2.2.1<=a.2.2.2.2.2.2.2.2.1)then bif decide (Ac .u32 (a.2.2.2.2.2.2.2.2.1-a.2.2.2.2.2.2.2.1)< (8:Int))then Sa (a.1==a.1&&(a.2.1==(0:Int)&&(a.2.2.1==(0:Int)&&(a.2.2.2.1==(0:Int)&&(a.2.2.2.2.1==(0:Int)&&(a.2.2.2.2.2.1==(0:Int)&&(a.2.2.2.2.2.2.1==a.2.2.2.2.2.2.1&&(a.2.2.2.2.2.2.2.1==a.2.2.2.2.2.2.2.1&&(a.2.2.2.2.2.2.2.2.1==a.2.2.2.2.2.2.2.2.1&&Sb)))))))))else Sa Sc else Sa Sc else Sa Sc) fun(g:Bool)=>Sa g else bif a.1==(3:Int)then Aa (bif a.2.1 !=(0:Int)then bif a.2.2.1 !=(0:Int)then bif a.2.2.2.1==(6:Int)then Aa (qB (a.2.2.2.2.1,(0:Int),(65535:Int),())) fun(h:Bool)=>bif h then Aa (qB (a.2.2.2.2.2.1,(0:Int),(65535:Int),())) fun(i:Bool)=>bif i then bif a.2.2.2.2.2.2.1== { data:= #[] }then bif a.2.2.2.2.2.2.2.1==(0:Int)then Sa (a.2.2.2.2.2.2.2.2.1==(0:Int))else Sa Sc else Sa Sc else Sa Sc else Sa Sc else bif a.2.2.2.1==(17:Int)then Aa (qB (a.2.2.2.2.1,(0:Int),(65535:Int),())) fun(j:Bool)=>bif j then Aa (qB (a.2.2.2.2.2.1,(0:Int),(65535:Int),())) fun(k:Bool)=>bif k then bif a.2.2.2.2.2.2.1== { data:= #[] }then bif a.2.2.2.2.2.2.2.1==(0:Int)then Sa (a.2.2.2.2.2.2.2.2.1==(0:Int))else Sa Sc else Sa Sc else Sa Sc else Sa Sc else Sa Sc else Sa Sc else Sa Sc) fun(l:Bool)=>Sa l else Sa Sc) fun(m:Bool)=>bif !m then Sa (Ab (Ab (1:Int)))else Aa (bif a.1==(2:Int)then Aa (zGg (e,a.2.2.2.2.2.2.1,())) fun(n:Int)=>Sa (decide (n< (0:Int)))else Sa Sc) fun(q:Bool)=>bif q then Sa (Ab (Ab (5:Int)))else Sa (Ad (Ac .i64 (d+(1:Int))))else Sa (Ab (Ad ()))) (0:Int)) fun(r:Unit)=>Sa (0:Int)
def zDf:ElS [zG]->Option (RTy.El (.p tI)):=fun x=>match x with|(e,())=>wB (zS (fun(d:Int)=>bif decide (d< (↑(Ae e.2.2.1):Int))then Aa (idx e.2.2.1 d) fun(a:Ty.El zZ)=>Aa (bif a.2.2.2.2.2.2.2.2.2.1 != { data:= #[] }then Aa (zGg (e,a.2.2.2.2.2.2.2.2.2.1,())) fun(f:Int)=>bif decide (f< (0:Int))then Sa Sb else bif a.2.2.2.2.2.2.2.2.2.2.1 != { data:= #[] }then Aa (zGg (e,a.2.2.2.2.2.2.2.2.2.2.1,())) fun(g:Int)=>Sa (decide (g< (0:Int)))else Sa Sc else bif a.2.2.2.2.2.2.2.2.2.2.1 != { data:= #[] }then Aa (zGg (e,a.2.2.2.2.2.2.2.2.2.2.1,())) fun(h:Int)=>Sa (decide (h< (0:Int)))else Sa Sc) fun(i:Bool)=>bif i then Sa (Ab (Ab (5:Int)))else Sa (Ad (Ac .i64 (d+(1:Int))))else Sa (Ab (Ad ()))) (0:Int)) fun(j:Unit)=>Sa (0:Int)
def zAP:ElS [zG,tU]->Option (RTy.El (.p tI)):=fun x=>match x with|(c,g,())=>wB (zS (fun(a:Int)=>bif decide (a< (↑(Ae c.2.2.1):Int))then Aa (Aa (idx c.2.2.1 a) fun(d:Ty.El zZ)=>bif d.2.2.1 !=(0:Int)then Aa (idx c.2.2.1 a) fun(e:Ty.El zZ)=>Sa (e.2.1==g)else Sa Sc) fun(f:Bool)=>bif f then Sa (Ab (Ab a))else Sa (Ad (Ac .i64 (a+(1:Int))))else Sa (Ab (Ad ()))) (0:Int)) fun(h:Unit)=>Sa (-1:Int)
def zAt:ElS [zG,.str]->Option (RTy.El (.p tI)):=fun x=>match x with|(c,d,())=>wB (zS (fun(a:Int)=>bif decide (a< (↑(Ae c.2.2.1):Int))then Aa (idx c.2.2.1 a) fun(e:Ty.El zZ)=>bif e.1==d then Sa (Ab (Ab a))else Sa (Ad (Ac .i64 (a+(1:Int))))else Sa (Ab (Ad ()))) (0:Int)) fun(f:Unit)=>Sa (-1:Int)
def zBJ:ElS [zG]->Option (RTy.El (.p tI)):=fun x=>match x with|(e,())=>bif decide ((↑(Ae e.2.2.2.2.2.2.2.1):Int)>(16:Int))then Sa (7:Int)else wB (zS (fun(c:Int)=>bif decide (c< (↑(Ae e.2.2.2.2.2.2.2.1):Int))then wB (Aa (idx e.2.2.2.2.2.2.2.1 c) fun(a:Ty.El zNv)=>Aa (bif a.2.1 !=(0:Int)then Sa (Ac .i64 ((0:Int)+(1:Int)))else Sa (0:Int)) fun(f:Int)=>Aa (bif a.2.2.1 != { data:= #[] }then Sa (Ac .i64 (f+(1:Int)))else Sa f) fun(g:Int)=>Aa (bif a.2.2.2.1 then Sa (Ac .i64 (g+(1:Int)))else Sa g) fun(k:Int)=>Aa (Aa (uE (a.1,())) fun(l:Bool)=>bif !l then Sa Sb else bif k !=(1:Int)then Sa Sb else bif a.2.1 !=(0:Int)then Aa (zAP (e,a.2.1,())) fun(m:Int)=>bif decide (m>=(0:Int))then Sa Sb else Aa (qB (a.2.2.2.2.1,(1:Int),(255:Int),())) fun(n:Bool)=>bif !n then Sa Sb else Aa (qB (a.2.2.2.2.2.1,(0:Int),(65535:Int),())) fun(q:Bool)=>Sa !q else Aa (qB (a.2.2.2.2.1,(1:Int),(255:Int),())) fun(r:Bool)=>bif !r then Sa Sb else Aa (qB (a.2.2.2.2.2.1,(0:Int),(65535:Int),())) fun(t:Bool)=>Sa !t) fun(u:Bool)=>bif u then Sa (Ab (Ab (Ab (1:Int))))else wB (bif a.2.2.1 != { data:= #[] }then Aa (zAt (e,a.2.2.1,())) fun(h:Int)=>bif decide (h< (0:Int))then Sa (Ab (Ab (Ab (Ab (5:Int)))))else Aa (idx e.2.2.1 h) fun(y:Ty.El zZ)=>bif y.2.2.1==(0:Int)then Sa (Ab (Ab (Ab (Ab (1:Int)))))else Sa (Ad ())else Sa (Ad ())) fun(B:Unit)=>zS (fun(d:Int)=>bif decide (d<c)then Aa (Aa (idx e.2.2.2.2.2.2.2.1 d) fun(i:Ty.El zNv)=>bif i.1.1==a.1.1&&(i.1.2.1==a.1.2.1&&Sb)then Aa (idx e.2.2.2.2.2.2.2.1 d) fun(z:Ty.El zNv)=>Sa (z.2.2.2.2.1==a.2.2.2.2.1)else Sa Sc) fun(A:Bool)=>bif A then Sa (Ab (Ab (Ab (Ab (6:Int)))))else Sa (Ad (Ac .i64 (d+(1:Int))))else Sa (Ab (Ad ()))) (0:Int)) fun(C:Unit)=>Sa (Ad (Ac .i64 (c+(1:Int))))else Sa (Ab (Ad ()))) (0:Int)) fun(D:Unit)=>Sa (0:Int)
def x7:ElS [zG,.str]->Option (RTy.El (.p tI)):=fun x=>match x with|(c,d,())=>wB (zS (fun(a:Int)=>bif decide (a< (↑(Ae c.2.2.2.2.1):Int))then Aa (idx c.2.2.2.2.1 a) fun(e:Ty.El zLL)=>bif e.1==d then Sa (Ab (Ab a))else Sa (Ad (Ac .i64 (a+(1:Int))))else Sa (Ab (Ad ()))) (0:Int)) fun(f:Unit)=>Sa (-1:Int)
def kN:ElS [zG,(.sl zGV),tI,tI,tI]->Option (RTy.El (.p tI)):=fun x=>match x with|(r,f,e,t,u,())=>bif decide ((↑(Ae f):Int)>(4:Int))then Sa (7:Int)else wB (zS (fun(c:Int)=>bif decide (c< (↑(Ae f):Int))then wB (Aa (idx f c) fun(a:Ty.El zGV)=>Aa (Aa (qB (a.1,(1:Int),(5:Int),())) fun(g:Bool)=>bif !g then Sa Sb else bif a.1==e then Sa Sb else Aa (qB (a.2.1,t,u,())) fun(h:Bool)=>bif !h then Sa Sb else Aa (qB (a.2.2.1,(0:Int),(65535:Int),())) fun(i:Bool)=>Sa !i) fun(j:Bool)=>bif j then Sa (Ab (Ab (Ab (1:Int))))else Aa (bif e==(3:Int)then bif a.2.2.2.2.1 !=(1:Int)then bif a.2.2.2.2.1 !=(2:Int)then Sa Sb else bif e !=(3:Int)then Sa (a.2.2.2.2.1 !=(0:Int))else Sa Sc else bif e !=(3:Int)then Sa (a.2.2.2.2.1 !=(0:Int))else Sa Sc else bif e !=(3:Int)then Sa (a.2.2.2.2.1 !=(0:Int))else Sa Sc) fun(k:Bool)=>bif k then Sa (Ab (Ab (Ab (1:Int))))else Aa (bif a.2.2.2.1 != { data:= #[] }then Aa (x7 (r,a.2.2.2.1,())) fun(l:Int)=>Sa (decide (l< (0:Int)))else Sa Sc) fun(m:Bool)=>bif m then Sa (Ab (Ab (Ab (5:Int))))else zS (fun(d:Int)=>bif decide (d<c)then Aa (idx f d) fun(n:Ty.El zGV)=>bif n.1==a.1 then Sa (Ab (Ab (Ab (Ab (4:Int)))))else Sa (Ad (Ac .i64 (d+(1:Int))))else Sa (Ab (Ad ()))) (0:Int)) fun(y:Unit)=>Sa (Ad (Ac .i64 (c+(1:Int))))else Sa (Ab (Ad ()))) (0:Int)) fun(z:Unit)=>Sa (0:Int)
def yV:ElS [zG]->Option (RTy.El (.p tI)):=fun x=>match x with|(a,())=>bif !a.2.2.2.2.2.2.2.2.1.1 then Aa (bif a.2.2.2.2.2.2.2.2.1.2.1 !=(0:Int)then Sa Sb else bif decide ((↑(Ae a.2.2.2.2.2.2.2.2.1.2.2.1):Int)>(0:Int))then Sa Sb else Sa (decide ((↑(Ae a.2.2.2.2.2.2.2.2.1.2.2.2.1):Int)>(0:Int)))) fun(t:Bool)=>bif t then Sa (1:Int)else Sa (0:Int)else Aa (qB (a.2.2.2.2.2.2.2.2.1.2.1,(1:Int),(255:Int),())) fun(u:Bool)=>bif !u then Sa (1:Int)else bif decide ((↑(Ae a.2.2.2.2.2.2.2.2.1.2.2.1):Int)>(4:Int))then Sa (7:Int)else wB (zS (fun(c:Int)=>bif decide (c< (↑(Ae a.2.2.2.2.2.2.2.2.1.2.2.1):Int))then wB (Aa (Aa (idx a.2.2.2.2.2.2.2.2.1.2.2.1 c) fun(e:Ty.El vP)=>Aa (qB (e.1,(0:Int),(255:Int),())) fun(f:Bool)=>bif !f then Sa Sb else Aa (idx a.2.2.2.2.2.2.2.2.1.2.2.1 c) fun(g:Ty.El vP)=>Aa (uE (g.2.1,())) fun(h:Bool)=>Sa !h) fun(i:Bool)=>bif i then Sa (Ab (Ab (Ab (1:Int))))else zS (fun(d:Int)=>bif decide (d<c)then Aa (Aa (idx a.2.2.2.2.2.2.2.2.1.2.2.1 d) fun(j:Ty.El vP)=>Aa (idx a.2.2.2.2.2.2.2.2.1.2.2.1 c) fun(k:Ty.El vP)=>bif j.1==k.1 then Aa (idx a.2.2.2.2.2.2.2.2.1.2.2.1 d) fun(l:Ty.El vP)=>Aa (idx a.2.2.2.2.2.2.2.2.1.2.2.1 c) fun(m:Ty.El vP)=>Aa (x9 (l.2.1,m.2.1,())) fun(n:Bool)=>Sa n else Sa Sc) fun(q:Bool)=>bif q then Sa (Ab (Ab (Ab (Ab (6:Int)))))else Sa (Ad (Ac .i64 (d+(1:Int))))else Sa (Ab (Ad ()))) (0:Int)) fun(y:Unit)=>Sa (Ad (Ac .i64 (c+(1:Int))))else Sa (Ab (Ad ()))) (0:Int)) fun(z:Unit)=>Aa (kN (a,a.2.2.2.2.2.2.2.2.1.2.2.2.1,(3:Int),(0:Int),(16777215:Int),())) fun(r:Int)=>Sa r
def zB7:ElS [zG]->Option (RTy.El (.p tI)):=fun x=>match x with|(a,())=>bif !a.2.2.2.2.2.2.2.2.2.1.1 then Aa (bif a.2.2.2.2.2.2.2.2.2.1.2.1 !=(0:Int)then Sa Sb else bif a.2.2.2.2.2.2.2.2.2.1.2.2.1 != { data:= #[] }then Sa Sb else bif a.2.2.2.2.2.2.2.2.2.1.2.2.2.1 != { data:= #[] }then Sa Sb else Sa (decide ((↑(Ae a.2.2.2.2.2.2.2.2.2.1.2.2.2.2.1):Int)>(0:Int)))) fun(d:Bool)=>bif d then Sa (1:Int)else Sa (0:Int)else Aa (qB (a.2.2.2.2.2.2.2.2.2.1.2.1,(1:Int),(255:Int),())) fun(e:Bool)=>bif !e then Sa (1:Int)else Aa (bif a.2.2.2.2.2.2.2.2.2.1.2.2.1 != { data:= #[] }then Aa (u9 (a,a.2.2.2.2.2.2.2.2.2.1.2.2.1,())) fun(f:Int)=>bif decide (f< (0:Int))then Sa Sb else bif a.2.2.2.2.2.2.2.2.2.1.2.2.2.1 != { data:= #[] }then Aa (u9 (a,a.2.2.2.2.2.2.2.2.2.1.2.2.2.1,())) fun(g:Int)=>Sa (decide (g< (0:Int)))else Sa Sc else bif a.2.2.2.2.2.2.2.2.2.1.2.2.2.1 != { data:= #[] }then Aa (u9 (a,a.2.2.2.2.2.2.2.2.2.1.2.2.2.1,())) fun(h:Int)=>Sa (decide (h< (0:Int)))else Sa Sc) fun(i:Bool)=>bif i then Sa (5:Int)else Aa (kN (a,a.2.2.2.2.2.2.2.2.2.1.2.2.2.2.1,(4:Int),(1:Int),(15:Int),())) fun(j:Int)=>Sa j
def zDe:ElS [zG]->Option (RTy.El (.p tI)):=fun x=>match x with|(c,())=>bif decide ((↑(Ae c.2.2.2.2.2.2.2.2.2.2.1.2.2.2.1):Int)>(8:Int))then Sa (7:Int)else wB (zS (fun(a:Int)=>bif decide (a< (↑(Ae c.2.2.2.2.2.2.2.2.2.2.1.2.2.2.1):Int))then wB (Aa (Aa (idx c.2.2.2.2.2.2.2.2.2.2.1.2.2.2.1 a) fun(f:Ty.El zAp)=>bif f.1==(0:Int)then Sa Sb else Aa (idx c.2.2.2.2.2.2.2.2.2.2.1.2.2.2.1 a) fun(g:Ty.El zAp)=>Aa (qB (g.2.1,(1:Int),(65535:Int),())) fun(h:Bool)=>Sa !h) fun(i:Bool)=>bif i then Sa (Ab (Ab (Ab (1:Int))))else Aa (Aa (idx c.2.2.2.2.2.2.2.2.2.2.1.2.2.2.1 a) fun(j:Ty.El zAp)=>bif j.2.2.1 != { data:= #[] }then Aa (idx c.2.2.2.2.2.2.2.2.2.2.1.2.2.2.1 a) fun(k:Ty.El zAp)=>Aa (x7 (c,k.2.2.1,())) fun(l:Int)=>bif decide (l< (0:Int))then Sa Sb else Aa (idx c.2.2.2.2.2.2.2.2.2.2.1.2.2.2.1 a) fun(m:Ty.El zAp)=>bif m.2.2.2.1 != { data:= #[] }then Aa (idx c.2.2.2.2.2.2.2.2.2.2.1.2.2.2.1 a) fun(n:Ty.El zAp)=>Aa (x7 (c,n.2.2.2.1,())) fun(q:Int)=>Sa (decide (q< (0:Int)))else Sa Sc else Aa (idx c.2.2.2.2.2.2.2.2.2.2.1.2.2.2.1 a) fun(r:Ty.El zAp)=>bif r.2.2.2.1 != { data:= #[] }then Aa (idx c.2.2.2.2.2.2.2.2.2.2.1.2.2.2.1 a) fun(t:Ty.El zAp)=>Aa (x7 (c,t.2.2.2.1,())) fun(u:Int)=>Sa (decide (u< (0:Int)))else Sa Sc) fun(y:Bool)=>bif y then Sa (Ab (Ab (Ab (5:Int))))else zS (fun(e:Int)=>bif decide (e<a)then Aa (idx c.2.2.2.2.2.2.2.2.2.2.1.2.2.2.1 e) fun(z:Ty.El zAp)=>Aa (idx c.2.2.2.2.2.2.2.2.2.2.1.2.2.2.1 a) fun(A:Ty.El zAp)=>bif z.1==A.1 then Sa (Ab (Ab (Ab (Ab (4:Int)))))else Sa (Ad (Ac .i64 (e+(1:Int))))else Sa (Ab (Ad ()))) (0:Int)) fun(C:Unit)=>Sa (Ad (Ac .i64 (a+(1:Int))))else Sa (Ab (Ad ()))) (0:Int)) fun(B:Unit)=>Sa (0:Int)
def zBe:ElS [tPV]->Option (RTy.El (.p tI)):=fun x=>match x with|(c,())=>bif decide ((↑(Ae c.2.2.2.2.1):Int)>(8:Int))then Sa (7:Int)else wB (zS (fun(e:Int)=>bif decide (e< (↑(Ae c.2.2.2.2.1):Int))then wB (Aa (idx c.2.2.2.2.1 e) fun(u:Ty.El zD)=>Aa (uE (u,())) fun(y:Bool)=>bif !y then Sa (Ab (Ab (Ab (1:Int))))else zS (fun(i:Int)=>bif decide (i<e)then Aa (idx c.2.2.2.2.1 i) fun(k:Ty.El zD)=>Aa (idx c.2.2.2.2.1 e) fun(l:Ty.El zD)=>bif k.1==l.1&&(k.2.1==l.2.1&&Sb)then Sa (Ab (Ab (Ab (Ab (4:Int)))))else Sa (Ad (Ac .i64 (i+(1:Int))))else Sa (Ab (Ad ()))) (0:Int)) fun(D:Unit)=>Sa (Ad (Ac .i64 (e+(1:Int))))else Sa (Ab (Ad ()))) (0:Int)) fun(E:Unit)=>bif decide ((↑(Ae c.2.2.2.2.2.1):Int)>(8:Int))then Sa (7:Int)else wB (zS (fun(f:Int)=>bif decide (f< (↑(Ae c.2.2.2.2.2.1):Int))then wB (Aa (idx c.2.2.2.2.2.1 f) fun(z:Ty.El zIw)=>Aa (uE (z.1,())) fun(A:Bool)=>bif !A then Sa (Ab (Ab (Ab (1:Int))))else zS (fun(j:Int)=>bif decide (j<f)then Aa (idx c.2.2.2.2.2.1 j) fun(m:Ty.El zIw)=>Aa (idx c.2.2.2.2.2.1 f) fun(n:Ty.El zIw)=>bif m.1.1==n.1.1&&(m.1.2.1==n.1.2.1&&Sb)then Sa (Ab (Ab (Ab (Ab (4:Int)))))else Sa (Ad (Ac .i64 (j+(1:Int))))else Sa (Ab (Ad ()))) (0:Int)) fun(F:Unit)=>Sa (Ad (Ac .i64 (f+(1:Int))))else Sa (Ab (Ad ()))) (0:Int)) fun(G:Unit)=>bif decide ((↑(Ae c.2.2.2.2.2.2.1):Int)>(8:Int))then Sa (7:Int)else wB (zS (fun(d:Int)=>bif decide (d< (↑(Ae c.2.2.2.2.2.2.1):Int))then wB (Aa (idx c.2.2.2.2.2.2.1 d) fun(a:Ty.El zMj)=>Aa (Aa (uE (a.1,())) fun(q:Bool)=>bif !q then Sa Sb else Aa (uE (a.2.1,())) fun(r:Bool)=>Sa !r) fun(t:Bool)=>bif t then Sa (Ab (Ab (Ab (1:Int))))else bif a.1.1==a.2.1.1&&(a.1.2.1==a.2.1.2.1&&Sb)then Sa (Ab (Ab (Ab (6:Int))))else zS (fun(g:Int)=>bif decide (g<d)then Aa (idx c.2.2.2.2.2.2.1 g) fun(h:Ty.El zMj)=>bif h.1.1==a.1.1&&(h.1.2.1==a.1.2.1&&Sb)then Sa (Ab (Ab (Ab (Ab (4:Int)))))else Sa (Ad (Ac .i64 (g+(1:Int))))else Sa (Ab (Ad ()))) (0:Int)) fun(B:Unit)=>Sa (Ad (Ac .i64 (d+(1:Int))))else Sa (Ab (Ad ()))) (0:Int)) fun(C:Unit)=>Sa (0:Int)
def zAZ:ElS [zG]->Option (RTy.El (.p tI)):=fun x=>match x with|(a,())=>bif !a.2.2.2.2.2.2.2.2.2.2.1.1 then Aa (bif a.2.2.2.2.2.2.2.2.2.2.1.2.1 !=(0:Int)then Sa Sb else bif a.2.2.2.2.2.2.2.2.2.2.1.2.2.1 !=(0:Int)then Sa Sb else Sa (decide (Ac .i64 (Ac .i64 (Ac .i64 (Ac .i64 ((↑(Ae a.2.2.2.2.2.2.2.2.2.2.1.2.2.2.1):Int)+(↑(Ae a.2.2.2.2.2.2.2.2.2.2.1.2.2.2.2.1):Int))+(↑(Ae a.2.2.2.2.2.2.2.2.2.2.1.2.2.2.2.2.1):Int))+(↑(Ae a.2.2.2.2.2.2.2.2.2.2.1.2.2.2.2.2.2.1):Int))+(↑(Ae a.2.2.2.2.2.2.2.2.2.2.1.2.2.2.2.2.2.2.1):Int))>(0:Int)))) fun(e:Bool)=>bif e then Sa (1:Int)else Sa (0:Int)else Aa (bif a.2.1==(0:Int)then Sa Sb else Aa (qB (a.2.2.2.2.2.2.2.2.2.2.1.2.1,(1:Int),(255:Int),())) fun(f:Bool)=>bif !f then Sa Sb else Aa (qB (a.2.2.2.2.2.2.2.2.2.2.1.2.2.1,(1:Int),(255:Int),())) fun(g:Bool)=>Sa !g) fun(h:Bool)=>bif h then Sa (1:Int)else Aa (zDe (a,())) fun(c:Int)=>bif c !=(0:Int)then Sa c else Aa (zBe (a.2.2.2.2.2.2.2.2.2.2.1,())) fun(d:Int)=>bif d !=(0:Int)then Sa d else Aa (kN (a,a.2.2.2.2.2.2.2.2.2.2.1.2.2.2.2.2.2.2.1,(5:Int),(0:Int),(16777215:Int),())) fun(i:Int)=>Sa i
def yN:ElS [zG]->Option (RTy.El (.p tI)):=fun x=>match x with|(a,())=>Aa (zCI (a.1,())) fun(r:Bool)=>bif !r then Sa (3:Int)else Aa (qB (a.2.1,(0:Int),(65535:Int),())) fun(t:Bool)=>bif !t then Sa (1:Int)else Aa (xJ (a.2.2.1,())) fun(d:Int)=>Aa (zAr (a.2.2.2.1,())) fun(e:Int)=>Aa (zBn (a,())) fun(f:Int)=>Aa (zAs (a.2.2.2.2.2.1,())) fun(g:Int)=>Aa (xP (a,())) fun(h:Int)=>Aa (zDf (a,())) fun(i:Int)=>Aa (zBJ (a,())) fun(j:Int)=>Aa (yV (a,())) fun(k:Int)=>Aa (zB7 (a,())) fun(l:Int)=>Aa (zAZ (a,())) fun(m:Int)=>wB (zS (fun(c:Int)=>bif decide (c< (↑(Ae [d,e,f,g,h,i,j,k,l,m]):Int))then Aa (idx [d,e,f,g,h,i,j,k,l,m] c) fun(n:Int)=>bif n !=(0:Int)then Aa (idx [d,e,f,g,h,i,j,k,l,m] c) fun(q:Int)=>Sa (Ab (Ab q))else Sa (Ad (Ac .i64 (c+(1:Int))))else Sa (Ab (Ad ()))) (0:Int)) fun(u:Unit)=>Sa (0:Int)
def x8:ElS [zJ]->Option (RTy.El (.p tI)):=fun x=>match x with|(f,())=>bif decide ((↑(Ae f.1):Int)>(8:Int))then Sa (7:Int)else wB (zS (fun(a:Int)=>bif decide (a< (↑(Ae f.1):Int))then wB (Aa (idx f.1 a) fun(i:Ty.El zG)=>Aa (yN (i,())) fun(g:Int)=>bif g !=(0:Int)then Sa (Ab (Ab (Ab g)))else wB (zS (fun(c:Int)=>bif decide (c<a)then Aa (idx f.1 c) fun(j:Ty.El zG)=>Aa (idx f.1 a) fun(k:Ty.El zG)=>bif j.1==k.1 then Sa (Ab (Ab (Ab (Ab (Ab (4:Int))))))else Sa (Ad (Ac .i64 (c+(1:Int))))else Sa (Ab (Ad ()))) (0:Int)) fun(t:Unit)=>zS (fun(d:Int)=>Aa (idx f.1 a) fun(l:Ty.El zG)=>bif decide (d< (↑(Ae l.2.2.1):Int))then wB (Aa (idx f.1 a) fun(m:Ty.El zG)=>Aa (idx m.2.2.1 d) fun(h:Ty.El zZ)=>zS (fun(e:Int)=>bif decide (e<a)then Aa (bif h.2.2.1 !=(0:Int)then Aa (idx f.1 e) fun(n:Ty.El zG)=>Aa (zAP (n,h.2.1,())) fun(q:Int)=>Sa (decide (q>=(0:Int)))else Sa Sc) fun(r:Bool)=>bif r then Sa (Ab (Ab (Ab (Ab (Ab (Ab (4:Int)))))))else Sa (Ad (Ac .i64 (e+(1:Int))))else Sa (Ab (Ad ()))) (0:Int)) fun(u:Unit)=>Sa (Ad (Ac .i64 (d+(1:Int))))else Sa (Ab (Ad ()))) (0:Int)) fun(y:Unit)=>Sa (Ad (Ac .i64 (a+(1:Int))))else Sa (Ab (Ad ()))) (0:Int)) fun(z:Unit)=>Sa (0:Int)
end
end Go.Ve

/- law16 -/
import Derived.Test.YtgiopebfjmfmhaaGreatLt10
import Derived.Test.YtgiopebfjmfmhaaGreatLt4
set_option linter.unusedVariables false
open Option renaming some->Sa,none->Sd
open Bool renaming true->Sb,false->Sc
open Option renaming bind->Aa
open Sum renaming inr->Ab,inl->Ad
open Go.IntKind renaming wrap->Ac,bits->Af,u32->Ah,signed->Aj
open List renaming length->Ae
open BitVec renaming ofInt->Ag,toNat->Ai
set_option maxRecDepth 1000000
set_option maxHeartbeats 4000000
namespace Go.Ve
open Go
theorem zEu:∀(t:Ty) (x:t.El) (r:List V),t.uncells (t.cells x++r)=Sa (x,r)
 |.int k,x,r=>by simp[Ty.cells,Ty.uncells,zFC]
 |.bool,x,r=>by simp[Ty.cells,Ty.uncells,zC4]
 |.str,x,r=>by simp[Ty.cells,Ty.uncells,zFB]
 |.unit,x,r=>by simp[Ty.cells,Ty.uncells]
 |.rf,x,r=>by simp[Ty.cells,Ty.uncells,zMe]
 |.hd,x,r=>by simp[Ty.cells,Ty.uncells,zMg]
 |.pt t,x,r=>by simp[Ty.cells,Ty.uncells,zMf]
 |.sl t,x,r=>by simp[Ty.cells,Ty.uncells,zMd]
 |.pair a b,x,r=>by simp[Ty.cells,Ty.uncells];rw[zEu a x.1];simp only;rw[zEu b x.2]
theorem zWo(t:Ty)(x:t.El):t.dec (t.enc x)=Sa x:=by
 cases t with
 |int k=>simp[Ty.enc,Ty.dec,zFC]
 |bool=>simp[Ty.enc,Ty.dec,zC4]
 |str=>simp[Ty.enc,Ty.dec,zFB]
 |unit=>rfl
 |rf=>simp[Ty.enc,Ty.dec,zMe]
 |hd=>simp[Ty.enc,Ty.dec,zMg]
 |pt t=>simp[Ty.enc,Ty.dec,zMf]
 |sl t=>simp[Ty.enc,Ty.dec,zMd]
 |pair a b=>
  have:=zEu (.pair a b) x []
  grind[Ty.enc,Ty.dec,Ty.cells]
theorem zBA:∀(ts:List Ty) (x:ElS ts),zBB ts (yH ts x)=Sa x
 |[],_=>rfl
 |t::ts,x=>by simp[yH,zBB,zWo,zBA ts]
@[reducible] def zJP(tE:Ty):List Ty->List Ty
 |[]=>[]
 |t::r=>xL tE t::zJP tE r
def zRD{tE:Ty}(st:HSt tE):(ts:List Ty)->ElS ts->Option (ElS (zJP tE ts))
 |[],_=>Sa ()
 |t::r,x=>match zBW st t x.1,zRD st r x.2 with
  |some y,Sa z=>Sa (y,z)
  |_,_=>Sd
@[reducible] def zWR(tE:Ty):RTy->RTy
 |.p a=>.p (xL tE a)
 |.o a=>.o (xL tE a)
 |.tu c=>.tu (zJP tE c)
def qDi{tE:Ty}(st:HSt tE):(R:RTy)->R.El->Option (zWR tE R).El
 |.p a,x=>zBW st a x
 |.o a,d=>zCw (zBW st a) d
 |.tu c,x=>zRD st c x
section
variable {tE:Ty}{st:HSt tE}{F F':Blk->Prop}{O:Nat->Prop}{w:World}{hb hc:Nat->Nat}
theorem zWQ(h:qAQ tE st F O w hb hc)(f:∀b:Nat,F b->F' b)(g:∀b,O b->F' (.b b)):∀(ts:List Ty) (x:ElS ts) (y:ElS (zJP tE ts)),zRD st ts x=Sa y->
  (yH ts x).length=(yH (zJP tE ts) y).length/\∀(i:Nat) (v:Value) (d c:V),(yH ts x)[i]?=Sa d->(yH (zJP tE ts) y)[i]?=Sa c->Rd w F v d->Rd w F' v c
 |[],_,_,_=>⟨rfl,fun i v d c j=>by simp[yH]at j⟩
 |t::ts,x,y,a=>by
  simp only[zRD]at a;split at a
  .rename_i k e m l;obtain rfl:(k,e)=y:=aZ a;obtain⟨n,p⟩:=zWQ h f g ts x.2 e l
   grind[List.length_cons,List.getElem?_cons_zero,Option.some.injEq,qAW,yH]
  .cases a
theorem qDg(h:qAQ tE st F O w hb hc)(z:∀b:Nat,F b->F' b)(A:∀b,O b->F' (.b b)){t:Ty}{xs:List t.El}{q:List (xL tE t).El}(n:zCw (zBW st t) xs=Sa q){b k cap:Nat}
  (B:qP w F b k cap (xs.map t.enc)):qP w F' b k cap (q.map (xL tE t).enc):=by
 obtain⟨r,vC⟩:=zCb n;obtain⟨c,C,D,E,K,G,H⟩:=B;refine⟨c,C,D,E,by grind,?_,?_⟩
 .intro e u;simp at u;obtain⟨l,a,rfl⟩:=u;rw[w7,zCE];obtain⟨j,m⟩:=bY a;obtain⟨f,d,_⟩:=vC j l m;have:=G (t.enc f) (List.mem_map_of_mem (ae d))
  grind[w7]
 .intro i j e I x y m J;simp at y;obtain⟨l,a,rfl⟩:=y;obtain⟨f,d,g⟩:=vC i l a;rw[jN]at m
  have p:j< (t.cells f).length:=by
   grind[List.getElem?_eq_some_iff,kR,zCE]
  exact zOV h z A t f l g j _ (t.cells f)[j] I (by simp[p]) m (H i j (t.enc f) _ x (by simp[d]) (by grind[jN]) J)
theorem qDh(h:qAQ tE st F O w hb hc)(g:∀b:Nat,F b->F' b)(i:∀b,O b->F' (.b b))(j:∀b:Nat,F' b->F b\/O b){N:Nat}{R:RTy}{x:R.El}{y:(zWR tE R).El}(a:qDi st R x=Sa y){v:Value}
  (d:zAX N w F O v (R.res x)):zAX N w F' (fun _=>False) v ((zWR tE R).res y):=by
 cases R with
 |p l=>exact qAW h g i l x y a d
 |o l=>
  have a:zCw (zBW st l) x=Sa y:=a;obtain⟨e,_⟩:=zCb a;rcases d with⟨r,t⟩|⟨r,b,m,H,u,z,A,B,k,C⟩
  .have n:x=[]:=by simpa using r
   subst n;have q:y=[]:=aK e.symm;subst q;exact .inl ⟨rfl,t⟩
  .refine .inr ⟨?_,b,m,by grind,u,z,fun f=>(j b f).elim A B,fun f=>f,k,qDg h g i a C⟩;intro f;simp_all
 |tu c=>
  have d:Rd w F v (.tup (yH c x)):=d;obtain⟨D,I⟩:=zWQ h g i c x y a
  cases d with
  |tup E _ G f=>
   refine Rd.tup E (yH (zJP tE c) y) (G.trans D) ?_
   grind
end
def zRE{tE:Ty}{X:Type}(R:RTy)(g:HSt tE->X->Option (HSt tE×R.El))(x:X):Option (zWR tE R).El:=
 match g [] x with
 |some (st,y)=>qDi st R y
 |none=>Sd
variable {j:FuncId}
theorem zQk{tE:Ty}{P:Program}{G:Nat->Option (List V)}(W:∀g,G g=Sd){ts:List Ty}(E:ts.all Ty.norf=Sb){R:RTy}{g:HSt tE->ElS ts->Option (HSt tE×R.El)}(h:jK (kB tE) P G j (z6 (zBX (zBB ts) R g))):jK jV P G j (z6 (qQ ts (zWR tE R) (zRE R g))):=by
 intro w F O s q t s' r z hG Y A H k;simp[z6,qQ,vR]at k
 cases K:zBB ts t with
 |none=>grind
 |some x=>
  rw[K]at k;simp at k;obtain⟨y,D,rfl,rfl⟩:=k;unfold zRE at D;split at D
  .rename_i st Z L;have B:=kJ ts t x K;let I:Blk->Prop:=zJj F;have J:(kB tE).R [] I (fun _=>False) w:=⟨fun _=>0,fun _=>0,fun id M f=>by simp at f,fun id _ a n c f=>f,fun id M f=>by simp at f,fun id ab M ad f=>by simp at f,fun b f=>f.elim,zHY F⟩
   have m:=h w I (fun _=>False) [] q (yH ts x) st (R.res Z) J (fun g cs L=>by grind) (fun b hb=>⟨(Y b hb).1,fun f=>f⟩) (A.trans B.len) (by
    intro i u d hu N;have hlt:i<t.length:=by grind
    have:=B.get i t[i] d (by simp[hlt]) N w F u (H i u t[i] hu (by simp[hlt]))
    exact zIf (F:=F) (F':=I) (fun b hb=>hb) ts x E i u d N this) (by simp[z6,zBX,zBA];rw[L];rfl)
   refine m.mono ?_;rintro e w' ⟨v,F',Q,rfl,⟨hb,hc,S⟩,p,g3,g4,g5,g6⟩
   let C:Blk->Prop:=zQ0 F fun b=>match b with
    |.b n=>F' (.b n)\/Q n
    |_=>False
   refine⟨v,C,fun _=>False,rfl,⟨fun _ f=>f,z.2.of (zCa _ _)⟩,⟨p.os,p.tape,p.output,p.size,fun b hb _=>p.block b hb (fun f=>f),p.drawn⟩,fun b f=>f.elim,?_,?_,?_⟩
   .refine .of_reg (fun b l=>?_) (zCa _ _)
    cases b with
    |b n=>exact .inl (g4.1 (.b n) l)
    |_=>exact l
   .intro b l;rcases l with l|l
    .obtain⟨k1,k2,_⟩:=g5 b l;exact⟨k1,k2,fun f=>f⟩
    .refine⟨.inr ((g3 b l).elim (fun f=>f.elim) (fun f=>f)),(kB tE).inb (⟨hb,hc,S⟩:(kB tE).R st F' Q w') b l,fun f=>f⟩
   .exact qDh (F':=C) S (fun b f=>.inl f) (fun b f=>.inr f) (fun b f=>f) D g6
  .cases D
def qDG{St:Type}(S:St->List V->Option (St×RV))(ts:List Ty)(R:RTy)(s:St)(x:ElS ts):Option (St×R.El):=
 match S s (yH ts x)with
 |some (a,r)=>match R.get r with
  |some y=>Sa (a,y)
  |none=>Sd
 |none=>Sd
variable {C:Nat->Option (List V)}{g:Program}
theorem zUR{Γ:Sig}[c:Calm Γ]{S:Γ.St->List V->Option (Γ.St×RV)}(h:jK Γ g C j S)(ts:List Ty)(R:RTy):
  jK Γ g C j (z6 (zBX (zBB ts) R (qDG S ts R))):=by
 intro w F O s k l s' r m D E n q a;simp[z6,zBX]at a
 cases A:zBB ts l with
 |none=>grind
 |some x=>
  rw[A]at a;simp only[am,aJ]at a;obtain⟨⟨s1,y⟩,P,rfl,rfl⟩:=a;unfold qDG at P;split at P
  .rename_i H I J;split at P
   .rename_i y0 t;simp at P;obtain⟨rfl,rfl⟩:=P;have p:=kJ ts l x A
    have f:=h w F O s k (yH ts x) H I m D E (n.trans p.len) (by
     intro i u d K L;have hlt:i<l.length:=by grind
     exact p.get i l[i] d (by simp[hlt]) L w F u (q i u l[i] K (by simp[hlt]))) J
    refine f.mono ?_;rintro e w' ⟨v,F',M,rfl,N,Q,W,Y,g5,Z⟩;obtain⟨z,B,G,k2,k3⟩:=RTy.get_sound t Z;refine⟨v,z,M,rfl,Γ.mono N G (fun _ _=>rfl) (fun _ _ h=>⟨B _ h,rfl⟩),Q,W,(Y.to (fun h=>c.no h.1)).trans (.of_reg B G) (aj _),?_,k3⟩
    grind
   .cases P
  .cases P
theorem zX4{Γ:Sig}{S c:Γ.St->List V->Option (Γ.St×RV)}(h:jK Γ g C j S)(d:∀s ds r,c s ds=Sa r->S s ds=Sa r):jK Γ g C j c:=
 fun w F O s a ds e r P i G k l m=>h w F O s a ds e r P i G k l (d _ _ _ m)
abbrev zJS:Ty:=.st [tI,zD,tI]
abbrev tB8:Ty:=.st [.bool,.bool,.bool,.bool,.bool,.bool,.bool,.bool]
abbrev tI8:Ty:=.st [tI,tI,tI,tI,tI,tI,tI,tI]
abbrev qHJ:Ty:=.st [tI8,tI8,tI8,tI8,tI8,tI8,tI8,tI8]
abbrev qN:Ty:=.st [tI,.sl zJS,.sl qD,tB8,qHJ]
abbrev qL:Ty:=.st [zI,tI,.sl (.pt qN)]
abbrev zN:Ty:=.st [zD,tI]
abbrev wD:Ty:=.st [tI,.sl zP]
def stF(F:Blk->Prop):Blk->Prop
 |.b n=>F (.s n)
 |x=>F x
abbrev zTp:=Int->List qD.El->Int->Option (List (List zP.El))
structure zIn(H:zTp)(F:Blk->Prop)(O:Nat->Prop)(w:World):Prop where
 own:∀b,O b->b<w.heap.size
 sb:∀n:Nat,F (.s n)->F n
 ld:∀id b cs,F (.k id b cs)->(O b\/F (.s b))/\∃(c:Array Value) (et:TypeId),w.heap[b]?=Sa (.cells c et (0,0))/\∀(m:Nat) (d:V),cs[m]?=Sa d->∃x,c[m]?=Sa x/\Rd w (stF F) x d
 eqk:∀id id' b b' cs cs',F (.k id b cs)->F (.k id' b' cs')->(b=b'↔id=id')
 kl:∀id b (x:qN.El),F (.k id b (qN.cells x))->∀id' cs,F (.k id' b cs)->cs.length<=75
 memo:∀id b (x:qN.El),F (.k id b (qN.cells x))->O b/\∃(c:Array Value) (et:TypeId),w.heap[b]?=Sa (.cells c et (0,0))/\
  ∀r:Nat,r<8->∃u,c[75+r]?=Sa u/\(u=.slice Sd 0 0\/∃hs,H ((id%16:Nat):Int) x.2.2.1 (r:Int)=Sa hs/\Rd w (stF F) u (.tl (.sl zP) hs))
variable {i:Blk->Prop}{l:World}
theorem zW4{F':Blk->Prop}{w':World}(e:∀x:Blk,x.isB=Sc->(F' x↔i x))(F:∀n:Nat,i (.s n)->w'.heap[n]?=l.heap[n]?){v:Value}{d:V}(h:Rd l (stF i) v d):Rd w' (stF F') v d:=by
 refine h.mono (fun x g=>?_) (fun n j=>F n j)
 cases x with
 |b n=>exact(e (.s n) rfl).2 g
 |h id a n c=>exact(e _ rfl).2 g
 |k id b w=>exact(e _ rfl).2 g
 |s n=>exact(e _ rfl).2 g
theorem qDt(a:∀n:Nat,i (.s n)->i n){v:Value}{d:V}(h:Rd l (stF i) v d):Rd l i v d:=by
 refine h.mono (fun x c=>?_) (fun n e=>rfl)
 cases x with
 |b n=>exact a n c
 |_=>exact c
theorem zIn.mono{H:zTp}{F':Blk->Prop}{O:Nat->Prop}{w':World}(h:zIn H i O l)(g:∀x:Blk,x.isB=Sc->(F' x↔i x))(hO:∀b,O b->w'.heap[b]?=l.heap[b]?)(y:∀n:Nat,i (.s n)->i n->F' n/\w'.heap[n]?=l.heap[n]?):zIn H F' O w':=by
 have p:∀n:Nat,i (.s n)->w'.heap[n]?=l.heap[n]? :=fun n F=>(y n F (h.sb n F)).2;have hb:∀id b e,i (.k id b e)->w'.heap[b]?=l.heap[b]? :=fun id b e a=>(h.ld id b e a).1.elim (hO b) (p b);refine⟨fun b hb=>?_,fun n F=>(y n ((g _ rfl).1 F) (h.sb n ((g _ rfl).1 F))).1,fun id b e a=>?_,fun id j b z e q t w=>h.eqk id j b z e q ((g _ rfl).1 t) ((g _ rfl).1 w),fun id b x a j e w=>h.kl id b x ((g _ rfl).1 a) j e ((g _ rfl).1 w),fun id b x a=>?_⟩
 .have hlt:=h.own b hb
  grind
 .have a:=(g _ rfl).1 a;obtain⟨t,c,u,w,A⟩:=h.ld id b e a;refine⟨t.elim .inl (fun F=>.inr ((g _ rfl).2 F)),c,u,(hb id b e a).trans w,fun m d hd=>?_⟩
  grind[zW4]
 .have a:=(g _ rfl).1 a;obtain⟨B,c,u,w,A⟩:=h.memo id b x a;refine⟨B,c,u,(hb id b _ a).trans w,fun r hr=>?_⟩
  grind[zW4]
def zR7(H:zTp):Sig where
 St:=Unit
 R:=fun _ F O w=>zIn H F O w
 mono:=fun h a j e=>zIn.mono h a j e
 inb:=fun h b k=>h.own b k
 ld:=fun h a=>by obtain⟨_,c,l,g,n⟩:=h.ld _ _ _ a;exact⟨c,l,g,fun m d p=>(n m d p).elim fun x i=>⟨x,i.1,qDt h.sb i.2⟩⟩
 eqk:=fun h q g=>h.eqk _ _ _ _ _ _ q g
 sb:=fun h e=>h.sb _ e
instance (H:zTp):Calm (zR7 H):=⟨fun h=>h⟩
instance (H:zTp):Subsingleton (zR7 H).St:=inferInstanceAs (Subsingleton Unit)
def ptB(H:zTp):Sig where
 St:=Bool
 wk:=True
 R:=fun s F O w=>match s with
  |true=>zIn H F O w
  |false=>(∀b,¬O b)/\NoK F
 mono:=fun {s} _ _ _ _ _ h a g c=>match s,h with
  |true,h=>zIn.mono h a g c
  |false,h=>⟨h.1,h.2.of a⟩
 inb:=fun {s} _ _ _ h b d=>match s,h with
  |true,h=>zIn.own h b d
  |false,h=>absurd d (h.1 b)
 ld:=fun {s} _ _ _ _ _ _ h a=>match s,h with
  |true,h=>(zR7 H).ld (s:=()) h a
  |false,h=>absurd a (h.2.1 _ _ _)
 eqk:=fun {s} _ _ _ _ _ _ _ _ _ h e i=>match s,h with
  |true,h=>(zR7 H).eqk (s:=()) h e i
  |false,h=>absurd e (h.2.1 _ _ _)
 sb:=fun {s} _ _ _ _ h c=>match s,h with
  |true,h=>zIn.sb h _ c
  |false,h=>absurd c (h.2.2 _)
section
variable {H:zTp}{P:Program}{G:Nat->Option (List V)}{f:FuncId}
def zUj{X:Type}{ρ:Type}(g:Bool->X->Option (Bool×ρ))(x:X):Option ρ:=(g Sc x).map Prod.snd
theorem zPq(J:∀g,G g=Sd){X:Type}{dec:List V->Option X}(K:qAR dec){R:RTy}(L:R.norf=Sb){g:Bool->X->Option (Bool×R.El)}
  (h:zL4 (ptB H) P G f (z6 (zBX dec R g))):jK jV P G f (z6 (vR dec R (zUj g))):=by
 intro w F O s p D s' r q hG M t N a;simp[z6,vR]at a
 cases E:dec D with
 |none=>grind
 |some x=>
  rw[E]at a;simp only[zUj,Option.map_map,am,Function.comp,aJ]at a;obtain⟨⟨Q,y⟩,S,rfl,rfl⟩:=a;obtain⟨z,A,B,I⟩:=K D x E
  have k:=h w (zJj F) (fun _=>False) Sc p z Q (R.res y) ⟨fun _ h=>h,zHY F⟩ (fun g cs hg=>by grind) (fun b c=>⟨(M b c).1,fun h=>h⟩) (t.trans B.symm)
   (fun i v d hi W=>by
    grind[List.getElem?_eq_some_iff,zJj]) (by simp[z6,zBX,A,S];rfl)
  refine k.mono ?_;rintro e w' ⟨v,C,O',rfl,g1,m,g3,Y,Z,g6⟩;let u:Blk->Prop:=zQ0 F C;refine⟨v,u,fun _=>False,rfl,⟨fun _ l=>l,q.2.of (zCa _ _)⟩,⟨m.os,m.tape,m.output,m.size,fun b c _=>m.block b c (fun l=>l),m.drawn⟩,fun b l=>l.elim,.of_reg (fun b j=>?_) (zCa _ _),fun b j=>?_,?_⟩
  .cases b with
   |b n=>exact Y.1 (.b n) j
   |_=>exact j
  .obtain⟨k1,k2,_⟩:=Z b j;exact⟨k1,k2,fun l=>l⟩
  .exact zXw (F:=C) (F':=u) (fun b c=>c) (fun b _ c=>c) (fun b _ c=>c.elim) L g6
end
theorem zM2{ts:List Ty}(g:ts.all Ty.norf=Sb):qAR (zBB ts):=by intro h x j;have a:=kJ ts h x j;refine⟨yH ts x,zBA ts x,a.len.symm,fun w F n k i v d e l c m=>?_⟩;exact zIf k ts x g i v e c (a.get i d e l c w F v m)
def ATy.norf:ATy->Bool
 |.d ty=>ty.norf
 |.pp ty=>ty.norf
 |.clo _ a=>a.all fun c=>c.2.norf
theorem qBg{w:World}{F F':Blk->Prop}(e:∀b:Nat,F b->F' b){t:Ty}(i:t.norf=Sb){x:t.El}{v:Value}(h:Rd w F v (.pp (t.cells x))):Rd w F' v (.pp (t.cells x)):=by
 generalize p:t.cells x=j at h
 cases h with
 |pp b a _ g c k l=>exact .pp b a j g (e b c) k (fun m d n=>zFE e t i x _ d (by grind) (l m d n))
theorem zQs{w:World}{F F':Blk->Prop}(g:∀b:Nat,F b->F' b):∀(l:List (Bool×Ty)) (x:qAU l),(l.all fun c=>c.2.norf)=Sb->∀(i:Nat) (v:Value) (d:V),(zHy l x)[i]?=Sa d->Rd w F v d->Rd w F' v d
 |[],_,_,i,v,d,a,_=>by simp[zHy]at a
 |(b,t)::r,x,e,i,v,d,a,h=>by
  simp only[cG,ak]at e
  cases i with
  |zero=>
   simp[zHy]at a
   grind[qBg,zBf]
  |succ i=>exact zQs g r x.2 e.2 i v d (by simpa[zHy]using a) h
theorem zU4{w:World}{F F':Blk->Prop}(g:∀b:Nat,F b->F' b):∀(ts:List ATy) (x:ElA ts),ts.all ATy.norf=Sb->∀(i:Nat) (v:Value) (d:V),(zMS ts x)[i]?=Sa d->Rd w F v d->Rd w F' v d
 |[],_,_,i,v,d,a,_=>by simp[zMS]at a
 |t::ts,x,c,i,v,d,a,h=>by
  simp only[cG,ak]at c
  cases i with
  |zero=>
   cases a
   cases t with
   |d k=>exact zBf g c.1 h
   |pp k=>exact qBg g c.1 h
   |clo f e=>
    simp only[ATy.enc]at h ⊢
    cases h with
    |clo _ l _ m n=>exact .clo f l _ m (fun j u d p a=>zQs g e x.1 c.1 j u d a (n j u d p a))
  |succ i=>exact zU4 g ts x.2 c.2 i v d (by grind[zMS]) h
def Wp{α:Type}(m:Option α)(Q:α->Prop):Prop:= ∃r,m=Sa r/\Q r
section
variable {α β ρ σ:Type}
variable {i:Option α}{j:α->Prop}
theorem Wp.mono{Q:α->Prop}(h:Wp i Q)(hq:∀r,Q r->j r):Wp i j:=by obtain⟨r,c,d⟩:=h;exact⟨r,c,hq r d⟩
theorem zA{x:α}(h:j x):Wp (Sa x) j:=⟨x,rfl,h⟩
variable {I:α->Option β}{C:β->Prop}
theorem zB(h:Wp i (fun y=>Wp (I y) C)):Wp (Aa i I) C:=by obtain⟨y,rfl,h⟩:=h;exact h
theorem zB6(h:Wp i (fun _=>True))(k:∀y,i=Sa y->Wp (I y) C):Wp (Aa i I) C:=by obtain⟨y,rfl,_⟩:=h;exact k y rfl
theorem zF{c:Bool}{y:Option α}(a:c=Sb->Wp i j)(d:c=Sc->Wp y j):Wp (bif c then i else y) j:=by
 grind
theorem zIp{f:α->β}(h:Wp i (fun y=>C (f y))):Wp (Option.map f i) C:=by obtain⟨y,rfl,h⟩:=h;exact⟨_,rfl,h⟩
def vB(P:σ->Prop)(Q:ρ->Prop):σ ⊕ ρ->Prop
 |.inl s=>P s
 |.inr r=>Q r
variable {g:ρ->Prop}
theorem e2l{P:σ->Prop}{s:σ}(h:P s):vB P g (.inl s):=h
theorem e2r{P:σ->Prop}{r:ρ}(h:g r):vB P g (.inr r):=h
theorem jU{m:Option (σ ⊕ ρ)}{K:σ->Option ρ}(h:Wp m (vB (fun s=>Wp (K s) g) g)):Wp (wB m K) g:=by
 obtain⟨o,rfl,h⟩:=h
 cases o with
 |inl s=>exact h
 |inr r=>exact⟨r,rfl,h⟩
theorem kZ{f:σ->Option (σ ⊕ ρ)}(J:σ->Prop)(m:σ->Nat){c:σ}(e:J c)(step:∀s,J s->Wp (f s) (vB (fun a=>J a/\m a<m s) g)):Wp (zS f c) g:=by
 refine qCh J m g ?_ e;intro s Q;obtain⟨o,h,d⟩:=step s Q;refine⟨o,h,?_⟩
 cases o with
 |inl a=>exact d
 |inr r=>exact d
variable {l:Int}
theorem zAk{n:Int}{a c:Int->Option (Int ⊕ ρ)}(step:∀s,l<=s->s<n->Wp (a s) (vB (fun e=>e=s+1) g))(h:∀s,l<=s->n<=s->Wp (c s) (vB (fun _=>False) g)):Wp (zS (fun s=>bif decide (s<n)then a s else c s) l) g:=by
 refine kZ (fun s=>l<=s) (fun s=>(n-s).toNat) (dK _) ?_;intro s i;refine zF ?_ ?_
 .intro f;have f:s<n:=by simpa using f
  refine(step s i f).mono ?_;intro o d
  cases o with
  |inl e=>have:e=s+1:=d;subst this;exact⟨by omega,by omega⟩
  |inr r=>exact d
 grind
theorem qFu{γ:Type}{c:Int}{f:γ}{a d:Int×γ->Option ((Int×γ) ⊕ ρ)}(J:Int->γ->Prop)(k:J c f)(step:∀s Q,c<=s->s<l->J s Q->Wp (a (s,Q)) (vB (fun o=>o.1=s+1/\J (s+1) o.2) g))(n:∀s Q,c<=s->l<=s->J s Q->Wp (d (s,Q)) (vB (fun _=>False) g)):Wp (zS (fun o=>bif decide (o.1<l)then a o else d o) (c,f)) g:=by
 refine kZ (fun o=>c<=o.1/\J o.1 o.2) (fun o=>(l-o.1).toNat) ⟨dK _,k⟩ ?_;rintro⟨s,Q⟩ ⟨m,p⟩;refine zF ?_ ?_
 .intro e;have e:s<l:=by simpa using e
  refine(step s Q m e p).mono ?_;intro o h
  cases o with
  |inl q=>obtain⟨t,u⟩:=q;obtain⟨i,j⟩:=h;simp only at i j;subst i;exact⟨⟨by omega,j⟩,by simp only;omega⟩
  |inr r=>exact h
 grind
theorem zAj{xs:List α}(c:0<=l)(d:l<xs.length)(h:∀y,y∈xs->xs[l.toNat]?=Sa y->j y):Wp (idx xs l) j:=by
 unfold idx;rw[if_pos c];have a:l.toNat<xs.length:=by omega
 exact⟨xs[l.toNat],by simp[a],h _ (aY a) (by simp[a])⟩
theorem qBL{s:ByteArray}{Q:Int->Prop}(a:0<=l)(d:l<s.size)(h:∀y,0<=y->y<256->Q y):Wp (zPT s l) Q:=by
 unfold zPT;rw[if_pos a];have c:l.toNat<s.size:=by omega
 refine⟨(s[l.toNat].toNat:Int),by simp[c],h _ (by omega) ?_⟩;have:=s[l.toNat].toNat_lt;omega
theorem xZ{bytes:Nat}{xs a:List α}{Q:List α->Prop}(c:(2*(xs.length+a.length)+1024)*bytes<=0x800000000000)(h:Q (xs++a)):Wp (app bytes xs a) Q:=by unfold app;rw[if_pos c];exact⟨_,rfl,h⟩
end
theorem zH{x:Int}(d: -0x8000000000000000<=x)(e:x<0x8000000000000000):Ac .i64 x=x:=by
 have a:((2:Int)^Af .i64)=0x10000000000000000:=by decide
 have c:((2:Int)^(Af .i64-1))=0x8000000000000000:=by decide
 simp only[Ac,Aj,bH,decide_eq_true_eq,a,c];split<;>omega
theorem zNi{x:Int}(c:0<=x)(d:x<0x10000000000000000):Ac .u64 x=x:=by
 have a:((2:Int)^Af .u64)=0x10000000000000000:=by decide
 simp[Ac,Aj,a];omega
variable {g:Type}{i:Option g}{j:g->Prop}
theorem zO{p:Prop}[Decidable p]{y:Option g}(a:p->Wp i j)(c:¬p->Wp y j):Wp (bif decide p then i else y) j:=by
 grind
theorem zAg{p:Prop}[Decidable p]{y:Option g}(a:¬p->Wp i j)(c:p->Wp y j):Wp (bif !decide p then i else y) j:=by
 grind
theorem zM{xs:List g}{i:Nat}{x:g}(h:xs[i]?=Sa x):idx xs (i:Int)=Sa x:=by simp_all[if_pos,aC,idx]
theorem qGi{xs:List g}{i:Int}{x:g}(a:0<=i)(h:xs[i.toNat]?=Sa x):idx xs i=Sa x:=by rw[idx,if_pos a];exact h
theorem zK{x:g}(h:i=Sa x)(a:j x):Wp i j:=⟨x,h,a⟩
section
variable {α γ ρ:Type}
variable {g:Int×γ->Option γ}
theorem uO{xs:List α}{c:γ}{Q:γ->Prop}(k:xs.length<0x4000000000000000)(J:Nat->γ->Prop)(e:J 0 c)(step:∀i x a,xs[i]?=Sa x->J i a->Wp (g ((i:Int),a)) (J (i+1)))(f:∀a,J xs.length a->Q a):
  Wp (zS (fun s:Int×γ=>bif decide (s.1< (xs.length:Int))then Aa (g s) (fun a=>Sa (Ad (Ac .i64 (s.1+(1:Int)),a)))else Sa (Ab s.2)) ((0:Int),c)) Q:=by
 refine kZ (fun(s:Int×γ)=>∃i:Nat,s.1=(i:Int)/\i<=xs.length/\J i s.2) (fun(s:Int×γ)=>((xs.length:Int) -s.1).toNat) ⟨(0:Nat),rfl,a7 _,e⟩ ?_;rintro⟨s,a⟩ ⟨i,d,h,j⟩;simp only at d;subst d;refine zO ?_ ?_
 .intro l;have hlt:i<xs.length:=by omega
  refine zB ((step i xs[i] a (by simp[hlt]) j).mono ?_)
  grind[zA,e2l,zH]
 grind[zA,e2r]
theorem zNj{n:Nat}{c:Int×γ->Int}{f:γ}{Q:γ->Prop}(q:n<0x4000000000000000)(J:Nat->γ->Prop)(k:J 0 f)(l:∀i a,J i a->c ((i:Int),a)=n)(step:∀i a,i<n->J i a->Wp (g ((i:Int),a)) (J (i+1)))(m:∀a,J n a->Q a):
  Wp (zS (fun s:Int×γ=>bif decide (s.1<c s)then Aa (g s) (fun a=>Sa (Ad (Ac .i64 (s.1+(1:Int)),a)))else Sa (Ab s.2)) ((0:Int),f)) Q:=by
 refine kZ (fun(s:Int×γ)=>∃i:Nat,s.1=(i:Int)/\i<=n/\J i s.2) (fun(s:Int×γ)=>((n:Int) -s.1).toNat) ⟨(0:Nat),rfl,a7 _,k⟩ ?_;rintro⟨s,a⟩ ⟨i,h,p,j⟩;simp only at h;subst h;have d:=l i a j;refine zO ?_ ?_
 .intro e;simp only[d]at e;have hlt:i<n:=by omega
  refine zB ((step i a hlt j).mono ?_)
  grind[zA,e2l,zH]
 grind[zA,e2r]
theorem zAK{xs:List α}{a:Int->Option (Int ⊕ (Unit ⊕ ρ))}{K:Unit->Option ρ}{Q:ρ->Prop}(m:xs.length<0x4000000000000000)(J:Nat->Prop)(g:J 0)
  (step:∀i x,xs[i]?=Sa x->J i->Wp (a (i:Int)) (vB (fun e=>e=Ac .i64 ((i:Int)+1)/\J (i+1)) (vB (fun _=>False) Q))) (c:J xs.length->Wp (K ()) Q):
  Wp (wB (zS (fun s:Int=>bif decide (s< (xs.length:Int))then a s else Sa (Ab (Ad ()))) (0:Int)) K) Q:=by
 refine jU ?_;refine kZ (fun(s:Int)=>∃i:Nat,s=(i:Int)/\i<=xs.length/\J i) (fun(s:Int)=>((xs.length:Int) -s).toNat) ⟨(0:Nat),rfl,a7 _,g⟩ ?_;rintro s ⟨i,h,j,f⟩;subst h;refine zO ?_ ?_
 .intro k;have hlt:i<xs.length:=by omega
  refine(step i xs[i] (by simp[hlt]) f).mono ?_;intro o d
  cases o with
  |inl e=>
   obtain⟨rfl,l⟩:=d;rw[zH (by omega) (by omega)];exact⟨⟨i+1,by omega,hlt,l⟩,by omega⟩
  |inr o=>
   cases o with
   |inl _=>exact d.elim
   |inr r=>exact d
 .intro k;have:i=xs.length:=by omega
  subst this;exact zA (e2r (c f))
end
def zHw{α:Type}(p:α->Bool)(xs:List α):Int:=
 match xs.findIdx? p with
 |some i=>i
 |none=> -1
variable {g:Type}{i:List g}
theorem zPx{p:g->Bool}(h:∀x,x∈i->p x=Sc):zHw p i= -1:=by
 grind[List.findIdx?_eq_none_iff,zHw]
theorem qBx{p:g->Bool}{α:Nat}{x:g}(h:i[α]?=Sa x)(a:p x=Sb)(c:∀j y,j<α->i[j]?=Sa y->p y=Sc):zHw p i=α:=by
 have hlt:=(aa.1 h).1;have d:=(aa.1 h).2
 have:i.findIdx? p=Sa α:=by
  grind[List.findIdx?_eq_some_iff_getElem]
 simp[zHw,this]
theorem zIT(p:g->Bool)(xs:List g):(zHw p xs= -1/\∀x,x∈xs->p x=Sc)\/∃i x,zHw p xs=(i:Nat)/\xs[i]?=Sa x/\p x=Sb/\∀j y,j<i->xs[j]?=Sa y->p y=false:=by
 cases h:xs.findIdx? p with
 |none=>grind[List.findIdx?_eq_none_iff,zHw]
 |some i=>
  right;rw[bc]at h;obtain⟨a,c,e⟩:=h;have d:xs.findIdx? p=Sa i:=by grind[List.findIdx?_eq_some_iff_getElem]
  refine⟨i,xs[i],by simp[zHw,d],by simp[a],c,?_⟩
  grind
theorem zFA{p:g->Bool}{a:Int->Option (Int ⊕ (Unit ⊕ Int))}{Q:Int->Prop}(f:i.length<0x4000000000000000)(step:∀(xs:Nat) x,i[xs]?=Sa x->a (xs:Int)=Sa (bif p x then Ab (Ab (xs:Int))else Ad (Ac .i64 ((xs:Int)+1))))(c:Q (zHw p i)):
  Wp (wB (zS (fun s:Int=>bif decide (s< (i.length:Int))then a s else Sa (Ab (Ad ()))) (0:Int)) (fun _=>Sa (-1:Int))) Q:=by
 refine zAK f (fun xs=>∀j y,j<xs->i[j]?=Sa y->p y=Sc) (fun j y e=>by omega) ?_ ?_
 .intro xs x d e;refine zK (step xs x d) ?_
  cases h:p x with
  |true=>
   simp
   grind[e2r,qBx]
  |false=>
   simp;refine e2l ⟨rfl,?_⟩
   grind
 .intro e;refine zA ?_;rw[zPx]at c
  .exact c
  .intro x d;obtain⟨j,α,rfl⟩:=aB d
   grind
section
variable {α ρ:Type}
variable {i:Int->Option (Int ⊕ (Unit ⊕ ρ))}{g:Unit ⊕ ρ->Prop}
theorem zJO{xs:List α}(l:xs.length<0x4000000000000000)(J:Nat->Prop)(e:J 0)(step:∀a x,xs[a]?=Sa x->J a->Wp (i (a:Int)) (vB (fun c=>c=Ac .i64 ((a:Int)+1)/\J (a+1)) (fun o=>(∀u,o≠Ad u)/\g o)))(f:J xs.length->g (Ad ())):
  Wp (zS (fun s:Int=>bif decide (s< (xs.length:Int))then i s else Sa (Ab (Ad ()))) (0:Int)) g:=by
 refine kZ (fun(s:Int)=>∃a:Nat,s=(a:Int)/\a<=xs.length/\J a) (fun(s:Int)=>((xs.length:Int) -s).toNat) ⟨(0:Nat),rfl,a7 _,e⟩ ?_;rintro s ⟨a,Q,h,j⟩;subst Q;refine zO ?_ ?_
 .intro m;have hlt:a<xs.length:=by omega
  refine(step a xs[a] (by simp[hlt]) j).mono ?_;intro o d
  cases o with
  |inl c=>
   obtain⟨rfl,k⟩:=d;rw[zH (by omega) (by omega)];exact⟨⟨a+1,by omega,hlt,k⟩,by omega⟩
  |inr o=>exact d.2
 grind[zA,e2r]
theorem qFx{xs:List α}{P:α->Prop}(e:xs.length<0x4000000000000000)(step:∀(a:Nat) x,xs[a]?=Sa x->Wp (i (a:Int)) (vB (fun f=>f=Ac .i64 ((a:Int)+1)/\P x) (fun o=>(∀u,o≠Ad u)/\g o)))(c:(∀x,x∈xs->P x)->g (Ad ())):
  Wp (zS (fun s:Int=>bif decide (s< (xs.length:Int))then i s else Sa (Ab (Ad ()))) (0:Int)) g:=by
 refine zJO e (fun a=>∀j y,j<a->xs[j]?=Sa y->P y) (fun j y Q=>by omega) ?_ (fun h=>c ?_)
 .intro a x d Q;refine(step a x d).mono ?_
  grind
 .intro x d;obtain⟨j,k,rfl⟩:=aB d;simp_all
end
section
variable {α:Type}{lt:α->α->Prop}
structure Ord(lt:α->α->Prop):Prop where
 asym:∀x y,lt x y->¬lt y x
 tr:∀x y z,¬lt y x->¬lt z y->¬lt z x
theorem zEf(d:Ord lt):∀{xs a:List α},xs.Pairwise lt->a.Pairwise lt->(∀z,z∈xs↔z∈a)->xs=a
 |[],[],_,_,_=>rfl
 |[],y::a,_,_,h=>by have:=(h y).2 (by simp);cases this
 |x::xs,[],_,_,h=>by have:=(h x).1 (by simp);cases this
 |x::xs,y::a,f,g,h=>by
  rw[bv]at f g;have k:∀z,¬lt z z:=fun z c=>d.asym z z c c
  have e:x=y:=by
   rcases bg.1 ((h x).1 (by simp))with i|i
   .exact i
   .rcases bg.1 ((h y).2 (by simp))with j|j
    .exact j.symm
    .exact absurd (f.1 y j) (d.asym _ _ (g.1 x i))
  subst e;have:xs=a:=by refine zEf d f.2 g.2 (fun z=>⟨fun c=>?_,fun c=>?_⟩);all_goals grind
  rw[this]
end
section
variable {α:Type}
def swF(a b n:Nat)(xs:List α)(k:Nat):Option α:=
 if a<=k/\k<a+n then xs[b+(k-a)]? else if b<=k/\k<b+n then xs[a+(k-b)]? else xs[k]?
def zAE(lo m hi:Nat)(xs:List α)(k:Nat):Option α:=
 if lo<=k/\k<lo+(hi-m)then xs[k+(m-lo)]? else if lo+(hi-m)<=k/\k<hi then xs[k- (hi-m)]? else xs[k]?
variable {i:List α}{j g:Nat}
theorem qDo{k:Nat}:swF j g 0 i k=i[k]? :=by simp_all[if_neg,swF]
theorem qDp{n:Nat}{zs:List α}(e:j+n<g)(xs:g+n<i.length)(a:zs.length=i.length)(h:∀k,zs[k]?=swF j g n i k){x y:α}(f:zs[j+n]?=Sa x)(b:zs[g+n]?=Sa y):
  ∀k,((zs.set (j+n) y).set (g+n) x)[k]?=swF j g (n+1) i k:=by
 intro k;have c:=h (j+n);have d:=h (g+n);unfold swF at c d;rw[if_neg (by omega),if_neg (by omega),f]at c;rw[if_neg (by omega),if_neg (by omega),b]at d;unfold swF;by_cases l:k=g+n
 .grind
 .rw[aP (by omega)];by_cases m:k=j+n
  .grind
  .rw[aP (by omega),h k];unfold swF
   grind
theorem zHv(h:j=g):i[j]?=i[g]? :=by rw[h]
theorem qDI{lo m hi:Nat}{xs zs:List α}(c:lo<m)(d:m<hi)(a:hi-m<m-lo)(h:∀k,zs[k]?=swF lo m (hi-m) xs k)(k:Nat):zAE (lo+(hi-m)) m hi zs k=zAE lo m hi xs k:=by
 grind[zHv,zAE,swF]
theorem qB0{lo m hi:Nat}{xs zs:List α}(c:lo<m)(d:m<hi)(a:m-lo<hi-m)(h:∀k,zs[k]?=swF lo (hi- (m-lo)) (m-lo) xs k)(k:Nat):zAE lo m (hi- (m-lo)) zs k=zAE lo m hi xs k:=by
 grind[zHv,zAE,swF]
theorem qDJ{hi:Nat}{zs:List α}(c:j<=g)(d:g<=hi)(a:g-j=hi-g)(h:∀k,zs[k]?=swF j g (g-j) i k)(k:Nat):zs[k]?=zAE j g hi i k:=by
 grind[zHv,zAE,swF]
end
def qE2{α:Type}(f:List V->Option (α×List V)):List V->Option (List α)
 |[]=>Sa []
 |e::r=>match f e.cells with
  |some (x,[])=>match qE2 f r with
   |some a=>Sa (x::a)
   |none=>Sd
  |_=>Sd
def Ty.unc:(t:Ty)->List V->Option (t.El×List V)
 |.pair a b,c=>match a.unc c with
  |some (x,r)=>match b.unc r with
   |some (y,r)=>Sa ((x,y),r)
   |none=>Sd
  |none=>Sd
 |.sl t,c=>match c with
  |.sl d::r=>match qE2 t.unc d with
   |some xs=>Sa (xs,r)
   |none=>Sd
  |c=>zMd t c
 |.int k,c=>zFC k c
 |.bool,c=>zC4 c
 |.str,c=>zFB c
 |.unit,c=>Sa ((),c)
 |.rf,c=>zMe c
 |.hd,c=>zMg c
 |.pt t,c=>zMf t c
theorem zYr{α:Type}{f:List V->Option (α×List V)}:∀{es:List V} {xs:List α},qE2 f es=Sa xs->es.length=xs.length/\∀(i:Nat) (x:α),xs[i]?=Sa x->∃e,es[i]?=Sa e/\f e.cells=Sa (x,[])
 |[],xs,h=>by simp only[qE2,ac]at h;grind
 |e::r,xs,h=>by
  simp only[qE2]at h;split at h
  .rename_i x d;split at h
   .rename_i c a;cases h;obtain⟨g,j⟩:=zYr a
    grind
   .cases h
  .cases h
theorem qFy{t:Ty}{es:List V}{xs:List t.El}(A:es.length=xs.length)(h:∀(i:Nat) (e:V) (x:t.El),es[i]?=Sa e->xs[i]?=Sa x->kX e.cells (t.cells x)):WkV (.sl es) (.tl t xs):=by
 intro w F v p;refine .tl t xs v ?_
 cases p with
 |slemp a l=>
  have:xs=[]:=aK A.symm;subst this;exact .slemp a l
 |sl b q l k _ g r f E B p=>
  have u:es.length=(xs.map t.enc).length:=by simpa using A
  rw[u]at B f ⊢;refine .sl b q l k _ g r f ?_ B ?_
  .intro e C;simp at C;obtain⟨x,y,rfl⟩:=C;obtain⟨j,n⟩:=bY y;have c:j<es.length:=by grind
   have z:=(h j es[j] x (by simp[c]) n).len
   grind[jN,List.getElem_mem]
  .intro i j e d D n;simp at D;obtain⟨x,y,rfl⟩:=D;rw[jN]at n;have m:i<es.length:=by grind
   have z:=h i es[i] x (by simp[m]) y;have c:j< (es[i]).cells.length:=by rw[z.len];grind
   exact z.get j _ d (ah c) n w F _ (p i j es[i] _ (by simp[m]) (ah c))
theorem zUk:∀(t:Ty) (cs:List V) (x:t.El) (r:List V),t.unc cs=Sa (x,r)->∃c,cs=c++r/\kX c (t.cells x):=by
 intro t
 induction t with
 |int k=>exact fun cs x r h=>wA (.int k) cs x r h
 |bool=>exact fun cs x r h=>wA .bool cs x r h
 |str=>exact fun cs x r h=>wA .str cs x r h
 |unit=>exact fun cs x r h=>wA .unit cs x r h
 |rf=>exact fun cs x r h=>wA .rf cs x r h
 |hd=>exact fun cs x r h=>wA .hd cs x r h
 |pt t _=>exact fun cs x r h=>wA (.pt t) cs x r h
 |pair a b d e=>
  intro cs x r h;simp only[Ty.unc]at h;split at h
  .rename_i l i f;split at h
   .rename_i m n j;simp at h;obtain⟨rfl,rfl⟩:=h;obtain⟨p,rfl,q⟩:=d cs l i f;obtain⟨u,rfl,y⟩:=e i m n j;exact⟨p++u,by grind,q.append y⟩
   .cases h
  .cases h
 |sl t A=>
  intro cs x r h;simp only[Ty.unc]at h;split at h
  .rename_i z B;split at h
   .rename_i C g;simp at h;obtain⟨rfl,rfl⟩:=h;obtain⟨f,j⟩:=zYr g;refine⟨[.sl z],rfl,qFy f ?_,trivial⟩
    grind
   .cases h
  .exact wA (.sl t) _ x r h
def Ty.decW(t:Ty)(d:V):Option t.El:=
 match t with
 |.pair a b=>match d with
  |.agg c=>match(Ty.pair a b).unc c with
   |some (x,[])=>Sa x
   |_=>Sd
  |_=>Sd
 |.unit=>Sd
 |.sl t=>match(Ty.sl t).unc [d]with
  |some (x,[])=>Sa x
  |_=>Sd
 |.int k=>(Ty.int k).dec d
 |.bool=>Ty.bool.dec d
 |.str=>Ty.str.dec d
 |.rf=>Ty.rf.dec d
 |.hd=>Ty.hd.dec d
 |.pt t=>(Ty.pt t).dec d
theorem qAq{t:Ty}{d:V}{x:t.El}(h:t.decW d=Sa x):WkV d (t.enc x):=by
 cases t with
 |pair a b=>
  simp only[Ty.decW]at h;split at h
  .rename_i i;split at h
   .rename_i e f;simp at h;subst h;obtain⟨j,c,g⟩:=zUk (.pair a b) i e [] f;simp at c;subst c;exact WkV.agg g
   .cases h
  .cases h
 |unit=>simp[Ty.decW]at h
 |sl t=>
  simp only[Ty.decW]at h;split at h
  .rename_i e f;simp at h;subst h;obtain⟨j,c,g⟩:=zUk (.sl t) [d] e [] f;rw[cj]at c;subst c;exact g.1
  .cases h
 |int k=>exact u7 h
 |bool=>exact u7 h
 |str=>exact u7 h
 |rf=>exact u7 h
 |hd=>exact u7 h
 |pt t=>exact u7 h
def zIh:(ts:List Ty)->List V->Option (ElS ts)
 |[],[]=>Sa ()
 |t::ts,d::a=>match t.decW d with
  |some x=>match zIh ts a with
   |some c=>Sa (x,c)
   |none=>Sd
  |none=>Sd
 |_,_=>Sd
theorem zQu:∀(ts:List Ty) (ds:List V) (x:ElS ts),zIh ts ds=Sa x->kX ds (yH ts x)
 |[],[],_,_=>trivial
 |[],_::_,_,h=>by simp[zIh]at h
 |_::_,[],_,h=>by simp[zIh]at h
 |t::ts,d::ds,x,h=>by
  simp only[zIh]at h;split at h
  .rename_i y c;split at h
   .rename_i e a;cases h;exact⟨qAq c,zQu ts ds e a⟩
   .cases h
  .cases h
variable {g:List Ty}{i:Nat->Option (List V)}
theorem qCx{Γ:Sig}{P:Program}{f:FuncId}{R:RTy}{ts:ElS g->Option R.El}(h:jK Γ P i f (z6 (qQ g R ts))):jK Γ P i f (z6 (vR (zIh g) R ts)):=by
 intro w F O s c e p r j q t k m a;simp[z6,vR]at a
 cases n:zIh g e with
 |none=>grind
 |some x=>
  rw[n]at a;have l:=zQu g e x n;refine h w F O s c (yH g x) p r j q t (k.trans l.len) ?_ ?_
  .intro G u d y z;have hlt:G<e.length:=by grind
   exact l.get G e[G] d (by simp[hlt]) z w F u (m G u e[G] y (by simp[hlt]))
  simp_all[zBA,z6,qQ,vR]
def zXW{α:Type}(f:α->α->Bool):List α->List α->Bool
 |[],[]=>Sb
 |x::a,y::c=>f x y&&zXW f a c
 |_,_=>Sc
theorem zKm{α:Type}{f:α->α->Bool}(c:∀x y,f x y=Sb->x=y):∀{xs a:List α},zXW f xs a=Sb->xs=a
 |[],[],_=>rfl
 |x::xs,y::a,h=>by
  simp[zXW]at h;rw[c x y h.1,zKm c h.2]
 |[],_::_,h=>by cases h
 |_::_,[],h=>by cases h
def Ty.eqb:(t:Ty)->t.El->t.El->Bool
 |.int _,a,b=>decide (a=b)
 |.bool,a,b=>match a,b with
  |true,Sb=>Sb
  |false,Sc=>Sb
  |_,_=>Sc
 |.str,a,b=>zXW (fun(x y:UInt8)=>Nat.beq x.toNat y.toNat) a.data.toList b.data.toList
 |.unit,_,_=>Sb
 |.pair s t,a,b=>s.eqb a.1 b.1&&t.eqb a.2 b.2
 |.sl t,a,b=>zXW t.eqb a b
 |.rf,_,_=>Sc
 |.hd,_,_=>Sc
 |.pt _,_,_=>Sc
theorem qCM:∀(t:Ty) (a b:t.El),t.eqb a b=Sb->a=b:=by
 intro t
 induction t with
 |int k=>exact fun a b h=>of_decide_eq_true h
 |bool=>
  intro a b h;cases a<;>cases b<;>first|rfl|cases h
 |str=>
  intro a b h;have h:=zKm (fun(x y:UInt8) h=>UInt8.toNat_inj.1 (aN h)) h;cases a;simp_all
 |unit=>grind
 |pair s t c d=>
  intro a b h;simp[Ty.eqb]at h
  grind
 |sl t e=>exact fun a b h=>zKm e h
 |rf=>exact fun _ _ h=>by cases h
 |hd=>exact fun _ _ h=>by cases h
 |pt t _=>exact fun _ _ h=>by cases h
def eqS:(ts:List Ty)->ElS ts->ElS ts->Bool
 |[],_,_=>Sb
 |t::ts,a,b=>t.eqb a.1 b.1&&eqS ts a.2 b.2
theorem zU3:∀(ts:List Ty) (a b:ElS ts),eqS ts a b=Sb->a=b
 |[],_,_,_=>rfl
 |t::ts,a,b,h=>by simp[eqS]at h;exact Prod.ext (qCM t _ _ h.1) (zU3 ts _ _ h.2)
def atP(ts:List Ty){α:Type}(a:ElS ts)(c:α)(f:ElS ts->Option α):ElS ts->Option α:=fun x=>bif eqS ts x a then Sa c else f x
def noF{X α:Type}:X->Option α:=fun _=>Sd
theorem zRq{Γ:Sig}{P:Program}{f:FuncId}{R:RTy}{G h:ElS g->Option R.El}(a:jK Γ P i f (z6 (qQ g R G)))(c:∀x y,h x=Sa y->G x=Sa y):
  jK Γ P i f (z6 (vR (zIh g) R h)):=by
 refine zX4 (qCx a) ?_
 grind[Option.map_eq_some_iff,z6,vR,zIh]
theorem zOJ{α:Type}{a:ElS g}{c:α}{f ts:ElS g->Option α}(d:ts a=Sa c)(e:∀x y,f x=Sa y->ts x=Sa y):∀x y,atP g a c f x=Sa y->ts x=Sa y:=by
 grind[zU3,atP,eqS]
theorem zRu{X α:Type}{g:X->Option α}:∀x y,noF (X:=X) (α:=α) x=Sa y->g x=Sa y:=fun _ _ h=>by cases h
end Go.Ve
namespace Go.Ve
open Go
def zQw(t:Ty)(ds:List V):Option (t.El×List t.El):=
 match zBB [.sl t] ds with
 |some (y::r,_)=>Sa (y,r)
 |_=>Sd
theorem zKE{t:Ty}{ds:List V}{q:t.El×List t.El}(h:zQw t ds=Sa q):kX ds [.tl t (q.1::q.2)]:=by
 unfold zQw at h;split at h
 .rename_i y r u a;cases h;exact kJ [.sl t] ds (y::r,u) a
 .cases h
open Classical in
noncomputable def zJs(v:Value)(ds:List V):Option Unit:=if ds=[.val v]then Sa ()else Sd
theorem zCP{v:Value}{ds:List V}{q:Unit}(h:zJs v ds=Sa q):kX ds [.val v]:=by
 unfold zJs at h;split at h
 .rename_i a;subst a;exact⟨.refl _,trivial⟩
 .cases h
theorem zXB{w:World}{F:Blk->Prop}{v:Value}{t:Ty}(h:Rd w F v (.tl t [])):∃a c,v=.slice a 0 c:=by
 have e:=Rd.untl h;simp at e;generalize i:V.sl []=d at e
 cases e with
 |slemp a c=>grind
 |sl b j l k m g n f p q r=>
  grind
 |_=>cases i
variable {j:FuncId}{g:Nat->Option (List V)}{i:Program}
theorem zSG{t:Ty}{bytes:Nat}(Z:jK jV i g j (z6 (vR (zQw t) (.p (.sl t)) (fun q=>Aa (app bytes [] (q.1::q.2)) fun z=>Sa z))))(h2:∀c,jK jV i g j (z6 (vR (zJs (.slice Sd 0 c)) (.p (.sl t)) (fun _=>Sa []))))(h3:∀a c,jK jV i g j (z6 (vR (zJs (.slice (Sa a) 0 c)) (.p (.sl t)) (fun _=>Sa [])))):
  jK jV i g j (z6 (qQ [.sl t] (.p (.sl t)) (fun x=>Aa (app bytes [] x.1) fun z=>Sa z))):=by
 intro w F O s G D n r k Q S A J f;simp only[z6,qQ,vR]at f
 cases W:zBB [.sl t] D with
 |none=>grind
 |some x=>
  rw[W]at f;have B:=kJ [.sl t] D x W;have K:D.length=1:=B.len;have C:G.size=1:=A.trans K;obtain⟨L,u⟩:=x;have hv:Rd w F G[0] (.tl t L):=B.get 0 (D[0]'(by omega)) (.tl t L) (by simp) rfl w F _ (J 0 _ _ (by simp) (by simp))
  cases L with
  |cons y m=>
   refine Z w F O s G [.tl t (y::m)] n r k Q S (by simpa using C) ?_ ?_
   .grind
   .have M:zQw t [.tl t (y::m)]=Sa (y,m):=by unfold zQw;rw[show zBB [.sl t] [.tl t (y::m)]=Sa (y::m,())from zBA [.sl t] (y::m,())]
    grind[z6,vR]
  |nil=>
   obtain⟨a,c,ha⟩:=zXB hv
   have l:Sa (n,r)=Sa (s,(RTy.p (.sl t)).res []):=by
    have:(app bytes ([]:List t.El) [])=Sa []\/app bytes ([]:List t.El) []=none:=by unfold app;grind
    grind
   simp at l;obtain⟨rfl,rfl⟩:=l
   have go:∀v,G[0]=v->jK jV i g j (z6 (vR (zJs v) (.p (.sl t)) (fun _=>Sa [])))->Calls i j G w fun e E=>∃(v:Value) (H:Blk->Prop) (I:Nat->Prop),e=.returned v/\jV.R n H I E/\xI O w E/\
     (∀b,I b->O b\/w.heap.size<=b)/\zB1 (jV.wk/\((RTy.p (.sl t)).res []).isH) w.heap.size F H/\(∀b:Nat,H b->(F b\/w.heap.size<=b)/\b<E.heap.size/\¬I b)/\zAX w.heap.size E H I v ((RTy.p (.sl t)).res []):=by
    intro v N h;refine h w F O n G [.val v] n _ k Q S (by simpa using C) ?_ ?_
    .intro P u d hi Y
     match P with
     |0=>
      cases Y
      have:u=G[0]:=by
       grind
      rw[this,N];exact .val _
     |P+1=>simp at Y
    .have M:zJs v [.val v]=Sa ():=by unfold zJs;rw[if_pos rfl]
     grind[z6,vR]
   cases a with
   |none=>grind
   |some a=>grind
theorem zX7{t:Ty}{bytes:Nat}(Y:jK jV i g j (z6 (vR (zQw t) (.o t) (fun q=>Aa (app bytes [] (q.1::q.2)) fun z=>Sa z))))(h2:∀c,jK jV i g j (z6 (vR (zJs (.slice Sd 0 c)) (.o t) (fun _=>Sa []))))(h3:∀a c,jK jV i g j (z6 (vR (zJs (.slice (Sa a) 0 c)) (.o t) (fun _=>Sa [])))):
  jK jV i g j (z6 (qQ [.sl t] (.o t) (fun x=>Aa (app bytes [] x.1) fun z=>Sa z))):=by
 intro w F O s G C n r k N Q p I f;simp only[z6,qQ,vR]at f
 cases S:zBB [.sl t] C with
 |none=>grind
 |some x=>
  rw[S]at f;have A:=kJ [.sl t] C x S;have J:C.length=1:=A.len;have B:G.size=1:=p.trans J;obtain⟨K,u⟩:=x;have Z:Rd w F G[0] (.tl t K):=A.get 0 (C[0]'(by omega)) (.tl t K) (by simp) rfl w F _ (I 0 _ _ (by simp) (by simp))
  cases K with
  |cons y m=>
   refine Y w F O s G [.tl t (y::m)] n r k N Q (by simpa using B) ?_ ?_
   .grind
   .have L:zQw t [.tl t (y::m)]=Sa (y,m):=by unfold zQw;rw[show zBB [.sl t] [.tl t (y::m)]=Sa (y::m,())from zBA [.sl t] (y::m,())]
    grind[z6,vR]
  |nil=>
   obtain⟨a,c,ha⟩:=zXB Z
   have l:Sa (n,r)=Sa (s,(RTy.o t).res []):=by
    have:(app bytes ([]:List t.El) [])=Sa []\/app bytes ([]:List t.El) []=none:=by unfold app;grind
    grind
   simp at l;obtain⟨rfl,rfl⟩:=l
   have go:∀v,G[0]=v->jK jV i g j (z6 (vR (zJs v) (.o t) (fun _=>Sa [])))->Calls i j G w fun e D=>∃(v:Value) (E:Blk->Prop) (H:Nat->Prop),e=.returned v/\jV.R n E H D/\xI O w D/\
     (∀b,H b->O b\/w.heap.size<=b)/\zB1 (jV.wk/\((RTy.o t).res []).isH) w.heap.size F E/\(∀b:Nat,E b->(F b\/w.heap.size<=b)/\b<D.heap.size/\¬H b)/\zAX w.heap.size D E H v ((RTy.o t).res []):=by
    intro v M h;refine h w F O n G [.val v] n _ k N Q (by simpa using B) ?_ ?_
    .intro P u d hi W
     match P with
     |0=>
      cases W
      have:u=G[0]:=by
       grind
      rw[this,M];exact .val _
     |P+1=>simp at W
    .have L:zJs v [.val v]=Sa ():=by unfold zJs;rw[if_pos rfl]
     grind[z6,vR]
   cases a with
   |none=>grind
   |some a=>grind
theorem zWx{t:Ty}{ds:List V}(m:zCt ds=Sd)(h:∀a:Option Addr,∃S,jK jV i g j S/\S () (.val (.slice a 0 0)::ds)=Sa ((),.p (.tup []))):
  zAJ jV i g j () t [] ds () [] (.tup []):=by
 refine zAJ.of m ?_;intro w F O b x k y z A l _ n q r
 have B:∃a,x=.slice a 0 0:=by
  rcases l with⟨_,h⟩|⟨h,_⟩
  all_goals grind
 obtain⟨a,rfl⟩:=B;obtain⟨S,C,D⟩:=h a
 have G:=C w F O () k (.val (.slice a 0 0)::ds) () (.p (.tup [])) y z A (by simpa using n) (by
  intro P v d u E
  match P with
  |0=>
   cases E;rw[q]at u;cases u;exact .val _
  |P+1=>grind) D
 refine G.mono ?_;rintro e Z ⟨v,H,I,rfl,J,f,K,L,M,N⟩;exact⟨v,H,I,rfl,J,⟨f.os,f.tape,f.output,f.size,fun c Q W=>f.block c Q (fun Y=>W (.inl Y)),f.drawn⟩,K,L.no (fun h=>h.1),M,zCD.of (.inl ⟨rfl,a,rfl⟩) N⟩
end Go.Ve
namespace Go.Ve
noncomputable section
open Go
def zEB:ElS [(.int .u8)]->Option (RTy.El (.p .bool)):=fun x=>match x with|(a,())=>Aa (bif decide (a>=(97:Int))then bif decide (a<=(122:Int))then Sa Sb else bif decide (a>=(65:Int))then Sa (decide (a<=(90:Int)))else Sa Sc else bif decide (a>=(65:Int))then Sa (decide (a<=(90:Int)))else Sa Sc) fun(c:Bool)=>Sa c
def zCI:ElS [.str]->Option (RTy.El (.p .bool)):=fun x=>match x with|(d,())=>Aa (bif decide ((↑(ByteArray.size d):Int)< (1:Int))then Sa Sb else bif decide ((↑(ByteArray.size d):Int)>(15:Int))then Sa Sb else Aa (zPT d (0:Int)) fun(g:Int)=>Aa (zEB (g,())) fun(h:Bool)=>Sa !h) fun(i:Bool)=>bif i then Sa Sc else wB (zS (fun(c:Int)=>bif decide (c< (↑(ByteArray.size d):Int))then Aa (zPT d c) fun(a:Int)=>Aa (Aa (zEB (a,())) fun(e:Bool)=>bif !e then bif decide (a>=(48:Int))then bif !decide (a<=(57:Int))then bif a !=(45:Int)then bif a !=(95:Int)then bif a !=(47:Int)then Sa (a !=(46:Int))else Sa Sc else Sa Sc else Sa Sc else Sa Sc else bif a !=(45:Int)then bif a !=(95:Int)then bif a !=(47:Int)then Sa (a !=(46:Int))else Sa Sc else Sa Sc else Sa Sc else Sa Sc) fun(f:Bool)=>bif f then Sa (Ab (Ab Sc))else Sa (Ad (Ac .i64 (c+(1:Int))))else Sa (Ab (Ad ()))) (1:Int)) fun(j:Unit)=>Sa Sb
def qB:ElS [tI,tI,tI]->Option (RTy.El (.p .bool)):=fun x=>match x with|(a,c,d,())=>Aa (bif decide (c<=a)then Sa (decide (a<=d))else Sa Sc) fun(e:Bool)=>Sa e
def zCJ:ElS [tI]->Option (RTy.El (.p tU)):=fun x=>match x with|(c,())=>Aa (zS (fun(a:Int×Int)=>bif decide (a.1< (32:Int))then Aa (bif decide (a.1<c)then bif decide ((0:Int)<=Ac .u64 (Ac .i64 ((31:Int) -a.1)))then Sa (Ac .u32 (↑(Ai (Ag (Af Ah) a.2|||Ag (Af Ah) (Ac .u32 ((1:Int)*(2:Int)^min (Int.toNat (Ac .u64 (Ac .i64 ((31:Int) -a.1)))) (Af Ah))))):Int))else Sd else Sa a.2) fun(d:Int)=>Sa (Ad (Ac .i64 (a.1+(1:Int)),d))else Sa (Ab a.2)) ((0:Int),(0:Int))) fun(e:Int)=>Sa e
def uE:ElS [tU,tI]->Option (RTy.El (.p zD)):=fun x=>match x with|(c,a,())=>Aa (zCJ (if(0:Int)>if(32:Int)<a then(32:Int)else a then(0:Int)else if(32:Int)<a then(32:Int)else a,())) fun(d:Int)=>Sa (Ac .u32 (↑(Ai (Ag (Af Ah) c&&&Ag (Af Ah) d)):Int),if(0:Int)>if(32:Int)<a then(32:Int)else a then(0:Int)else if(32:Int)<a then(32:Int)else a,())
def zA4:ElS [zD,tU]->Option (RTy.El (.p .bool)):=fun x=>match x with|(a,c,())=>Aa (zCJ (a.2.1,())) fun(d:Int)=>Sa (Ac .u32 (↑(Ai (Ag (Af Ah) c&&&Ag (Af Ah) d)):Int)==a.1)
def zBo:ElS [zD,zD]->Option (RTy.El (.p .bool)):=fun x=>match x with|(a,c,())=>Aa (bif decide (a.2.1<=c.2.1)then Aa (zA4 (a,c.1,())) fun(d:Bool)=>Sa d else Sa Sc) fun(e:Bool)=>Sa e
def x9:ElS [zD,zD]->Option (RTy.El (.p .bool)):=fun x=>match x with|(a,c,())=>Aa (Aa (zBo (a,c,())) fun(d:Bool)=>bif d then Sa Sb else Aa (zBo (c,a,())) fun(e:Bool)=>Sa e) fun(f:Bool)=>Sa f
def xJ:ElS [(.sl zZ)]->Option (RTy.El (.p tI)):=fun x=>match x with|(f,())=>bif decide ((↑(Ae f):Int)>(8:Int))then Sa (7:Int)else wB (zS (fun(c:Int)=>bif decide (c< (↑(Ae f):Int))then wB (Aa (idx f c) fun(a:Ty.El zZ)=>Aa (zCI (a.1,())) fun(g:Bool)=>bif !g then Sa (Ab (Ab (Ab (3:Int))))else wB (zS (fun(e:Int)=>bif decide (e<c)then Aa (idx f e) fun(h:Ty.El zZ)=>bif h.1==a.1 then Sa (Ab (Ab (Ab (Ab (Ab (4:Int))))))else Sa (Ad (Ac .i64 (e+(1:Int))))else Sa (Ab (Ad ()))) (0:Int)) fun(E:Unit)=>Aa (Aa (qB (a.2.2.1,(0:Int),(32:Int),())) fun(i:Bool)=>bif !i then Sa Sb else Aa (qB (a.2.2.2.1,(0:Int),(4094:Int),())) fun(j:Bool)=>bif !j then Sa Sb else Aa (qB (a.2.2.2.2.2.2.2.2.2.2.2.1,(0:Int),(2:Int),())) fun(k:Bool)=>Sa !k) fun(l:Bool)=>bif l then Sa (Ab (Ab (Ab (1:Int))))else Aa (bif a.2.2.1==(0:Int)then bif a.2.1 !=(0:Int)then Sa Sb else bif a.2.2.2.1 !=(0:Int)then Sa Sb else bif a.2.2.2.2.2.2.2.2.2.2.2.1 !=(0:Int)then Sa Sb else bif a.2.2.2.2.2.1 then Sa Sb else bif a.2.2.2.2.2.2.2.2.1 then Sa Sb else bif a.2.2.2.2.2.2.2.2.2.1 != { data:= #[] }then Sa Sb else bif a.2.2.2.2.2.2.2.2.2.2.1 != { data:= #[] }then Sa Sb else bif a.2.2.1 !=(0:Int)then Sa (a.2.1==(0:Int))else Sa Sc else bif a.2.2.1 !=(0:Int)then Sa (a.2.1==(0:Int))else Sa Sc) fun(n:Bool)=>bif n then Sa (Ab (Ab (Ab (1:Int))))else Aa (bif a.2.2.2.2.2.1 then Aa (qB (a.2.2.2.2.2.2.1,(0:Int),(255:Int),())) fun(q:Bool)=>bif !q then Sa Sb else Aa (qB (a.2.2.2.2.2.2.2.1,(1:Int),(65535:Int),())) fun(r:Bool)=>bif !r then Sa Sb else bif !a.2.2.2.2.2.1 then bif a.2.2.2.2.2.2.1 !=(0:Int)then Sa Sb else Sa (a.2.2.2.2.2.2.2.1 !=(0:Int))else Sa Sc else bif !a.2.2.2.2.2.1 then bif a.2.2.2.2.2.2.1 !=(0:Int)then Sa Sb else Sa (a.2.2.2.2.2.2.2.1 !=(0:Int))else Sa Sc) fun(t:Bool)=>bif t then Sa (Ab (Ab (Ab (1:Int))))else zS (fun(d:Int)=>bif decide (d<c)then Aa (bif a.2.2.1 !=(0:Int)then Aa (idx f d) fun(u:Ty.El zZ)=>bif u.2.2.1 !=(0:Int)then Aa (uE (a.2.1,a.2.2.1,())) fun(y:Int×Int×Unit)=>Aa (idx f d) fun(z:Ty.El zZ)=>Aa (idx f d) fun(A:Ty.El zZ)=>Aa (uE (z.2.1,A.2.2.1,())) fun(B:Int×Int×Unit)=>Aa (x9 (y,B,())) fun(C:Bool)=>Sa C else Sa Sc else Sa Sc) fun(D:Bool)=>bif D then Sa (Ab (Ab (Ab (Ab (6:Int)))))else Sa (Ad (Ac .i64 (d+(1:Int))))else Sa (Ab (Ad ()))) (0:Int)) fun(F:Unit)=>Sa (Ad (Ac .i64 (c+(1:Int))))else Sa (Ab (Ad ()))) (0:Int)) fun(G:Unit)=>Sa (0:Int)
def uD:ElS [zD]->Option (RTy.El (.p .bool)):=fun x=>match x with|(a,())=>Aa (bif decide (a.2.1>=(0:Int))then bif decide (a.2.1<=(32:Int))then Aa (zCJ (a.2.1,())) fun(c:Int)=>Sa (Ac .u32 (↑(Ai (Ag (Af Ah) a.1&&& ~~~Ag (Af Ah) c)):Int)==(0:Int))else Sa Sc else Sa Sc) fun(d:Bool)=>Sa d
def xR:ElS [zRK]->Option (RTy.El (.p .bool)):=fun x=>match x with|(a,())=>Aa (Aa (uD (a.2.1,())) fun(c:Bool)=>bif c then bif decide (a.2.1.2.1<=a.2.2.1)then bif decide (a.2.2.1<=a.2.2.2.1)then Sa (decide (a.2.2.2.1<=(32:Int)))else Sa Sc else Sa Sc else Sa Sc) fun(d:Bool)=>Sa d
def zAq:ElS [(.sl zEa)]->Option (RTy.El (.p tI)):=fun x=>match x with|(c,())=>bif decide ((↑(Ae c):Int)>(8:Int))then Sa (7:Int)else wB (zS (fun(a:Int)=>bif decide (a< (↑(Ae c):Int))then wB (Aa (idx c a) fun(f:Ty.El zEa)=>Aa (zCI (f.1,())) fun(g:Bool)=>bif !g then Sa (Ab (Ab (Ab (3:Int))))else wB (zS (fun(d:Int)=>bif decide (d<a)then Aa (idx c d) fun(h:Ty.El zEa)=>Aa (idx c a) fun(i:Ty.El zEa)=>bif h.1==i.1 then Sa (Ab (Ab (Ab (Ab (Ab (4:Int))))))else Sa (Ad (Ac .i64 (d+(1:Int))))else Sa (Ab (Ad ()))) (0:Int)) fun(r:Unit)=>Aa (idx c a) fun(j:Ty.El zEa)=>bif (↑(Ae j.2.1):Int)==(0:Int)then Sa (Ab (Ab (Ab (1:Int))))else Aa (idx c a) fun(k:Ty.El zEa)=>bif decide ((↑(Ae k.2.1):Int)>(16:Int))then Sa (Ab (Ab (Ab (7:Int))))else zS (fun(e:Int)=>Aa (idx c a) fun(l:Ty.El zEa)=>bif decide (e< (↑(Ae l.2.1):Int))then Aa (idx c a) fun(m:Ty.El zEa)=>Aa (idx m.2.1 e) fun(n:Ty.El zRK)=>Aa (xR (n,())) fun(q:Bool)=>bif !q then Sa (Ab (Ab (Ab (Ab (1:Int)))))else Sa (Ad (Ac .i64 (e+(1:Int))))else Sa (Ab (Ad ()))) (0:Int)) fun(t:Unit)=>Sa (Ad (Ac .i64 (a+(1:Int))))else Sa (Ab (Ad ()))) (0:Int)) fun(u:Unit)=>Sa (0:Int)
def u9:ElS [zG,.str]->Option (RTy.El (.p tI)):=fun x=>match x with|(c,d,())=>wB (zS (fun(a:Int)=>bif decide (a< (↑(Ae c.2.2.2.1):Int))then Aa (idx c.2.2.2.1 a) fun(e:Ty.El zEa)=>bif e.1==d then Sa (Ab (Ab a))else Sa (Ad (Ac .i64 (a+(1:Int))))else Sa (Ab (Ad ()))) (0:Int)) fun(f:Unit)=>Sa (-1:Int)
def zBn:ElS [zG]->Option (RTy.El (.p tI)):=fun x=>match x with|(f,())=>bif decide ((↑(Ae f.2.2.2.2.1):Int)>(8:Int))then Sa (7:Int)else wB (zS (fun(a:Int)=>bif decide (a< (↑(Ae f.2.2.2.2.1):Int))then wB (Aa (idx f.2.2.2.2.1 a) fun(g:Ty.El zLK)=>Aa (zCI (g.1,())) fun(h:Bool)=>bif !h then Sa (Ab (Ab (Ab (3:Int))))else wB (zS (fun(d:Int)=>bif decide (d<a)then Aa (idx f.2.2.2.2.1 d) fun(i:Ty.El zLK)=>Aa (idx f.2.2.2.2.1 a) fun(j:Ty.El zLK)=>bif i.1==j.1 then Sa (Ab (Ab (Ab (Ab (Ab (4:Int))))))else Sa (Ad (Ac .i64 (d+(1:Int))))else Sa (Ab (Ad ()))) (0:Int)) fun(C:Unit)=>Aa (idx f.2.2.2.2.1 a) fun(k:Ty.El zLK)=>bif (↑(Ae k.2.1):Int)==(0:Int)then Sa (Ab (Ab (Ab (1:Int))))else Aa (idx f.2.2.2.2.1 a) fun(l:Ty.El zLK)=>bif decide ((↑(Ae l.2.1):Int)>(8:Int))then Sa (Ab (Ab (Ab (7:Int))))else zS (fun(e:Int)=>Aa (idx f.2.2.2.2.1 a) fun(m:Ty.El zLK)=>bif decide (e< (↑(Ae m.2.1):Int))then Aa (idx f.2.2.2.2.1 a) fun(n:Ty.El zLK)=>Aa (idx n.2.1 e) fun(c:Ty.El qAY)=>Aa (bif c.2.1 != { data:= #[] }then Aa (u9 (f,c.2.1,())) fun(q:Int)=>Sa (decide (q< (0:Int)))else Sa Sc) fun(r:Bool)=>bif r then Sa (Ab (Ab (Ab (Ab (5:Int)))))else Aa (Aa (qB (c.2.2.1,(-1:Int),(65535:Int),())) fun(t:Bool)=>bif !t then Sa Sb else Aa (qB (c.2.2.2.2.1,(-1:Int),(65535:Int),())) fun(u:Bool)=>bif !u then Sa Sb else Aa (qB (c.2.2.2.1,(-1:Int),(16777215:Int),())) fun(y:Bool)=>bif !y then Sa Sb else Aa (qB (c.2.2.2.2.2.1,(-1:Int),(1000000:Int),())) fun(z:Bool)=>bif !z then Sa Sb else Aa (qB (c.2.2.2.2.2.2.1,(0:Int),(8:Int),())) fun(A:Bool)=>Sa !A) fun(B:Bool)=>bif B then Sa (Ab (Ab (Ab (Ab (1:Int)))))else Sa (Ad (Ac .i64 (e+(1:Int))))else Sa (Ab (Ad ()))) (0:Int)) fun(E:Unit)=>Sa (Ad (Ac .i64 (a+(1:Int))))else Sa (Ab (Ad ()))) (0:Int)) fun(F:Unit)=>Sa (0:Int)
def zGf:ElS [zR]->Option (RTy.El (.p .bool)):=fun x=>match x with|(a,())=>Aa (bif decide ((0:Int)<=a.1)then bif decide (a.1<=a.2.1)then Sa (decide (a.2.1<=(65535:Int)))else Sa Sc else Sa Sc) fun(c:Bool)=>Sa c
def zJ4:ElS [zR]->Option (RTy.El (.p .bool)):=fun x=>match x with|(a,())=>Sa (a.1==(0:Int)&&(a.2.1==(65535:Int)&&Sb))
def zDg:ElS [zWY]->Option (RTy.El (.p .bool)):=fun x=>match x with|(a,())=>Aa (Aa (qB (a.2.1,(-1:Int),(255:Int),())) fun(e:Bool)=>bif !e then Sa Sb else bif Ac .u32 (↑(Ai (Ag (Af Ah) a.2.2.1.1&&&Ag (Af Ah) a.2.2.1.2.1)):Int) !=(0:Int)then Sa Sb else bif Ac .u32 (↑(Ai (Ag (Af Ah) a.2.2.2.1.1&&&Ag (Af Ah) a.2.2.2.1.2.1)):Int) !=(0:Int)then Sa Sb else Aa (zGf (a.2.2.2.2.1,())) fun(f:Bool)=>bif !f then Sa Sb else Aa (zGf (a.2.2.2.2.2.1,())) fun(g:Bool)=>Sa !g) fun(h:Bool)=>bif h then Sa Sc else Aa (bif a.2.1==(6:Int)then Sa Sb else bif a.2.1==(17:Int)then Sa Sb else Aa (zJ4 (a.2.2.2.2.1,())) fun(i:Bool)=>bif i then Aa (zJ4 (a.2.2.2.2.2.1,())) fun(c:Bool)=>Sa c else Sa Sc) fun(d:Bool)=>Sa d
def zAr:ElS [(.sl zOX)]->Option (RTy.El (.p tI)):=fun x=>match x with|(c,())=>bif decide ((↑(Ae c):Int)>(8:Int))then Sa (7:Int)else wB (zS (fun(a:Int)=>bif decide (a< (↑(Ae c):Int))then wB (Aa (idx c a) fun(f:Ty.El zOX)=>Aa (zCI (f.1,())) fun(g:Bool)=>bif !g then Sa (Ab (Ab (Ab (3:Int))))else wB (zS (fun(d:Int)=>bif decide (d<a)then Aa (idx c d) fun(h:Ty.El zOX)=>Aa (idx c a) fun(i:Ty.El zOX)=>bif h.1==i.1 then Sa (Ab (Ab (Ab (Ab (Ab (4:Int))))))else Sa (Ad (Ac .i64 (d+(1:Int))))else Sa (Ab (Ad ()))) (0:Int)) fun(r:Unit)=>Aa (idx c a) fun(j:Ty.El zOX)=>bif (↑(Ae j.2.1):Int)==(0:Int)then Sa (Ab (Ab (Ab (1:Int))))else Aa (idx c a) fun(k:Ty.El zOX)=>bif decide ((↑(Ae k.2.1):Int)>(16:Int))then Sa (Ab (Ab (Ab (7:Int))))else zS (fun(e:Int)=>Aa (idx c a) fun(l:Ty.El zOX)=>bif decide (e< (↑(Ae l.2.1):Int))then Aa (idx c a) fun(m:Ty.El zOX)=>Aa (idx m.2.1 e) fun(n:Ty.El zWY)=>Aa (zDg (n,())) fun(q:Bool)=>bif !q then Sa (Ab (Ab (Ab (Ab (1:Int)))))else Sa (Ad (Ac .i64 (e+(1:Int))))else Sa (Ab (Ad ()))) (0:Int)) fun(t:Unit)=>Sa (Ad (Ac .i64 (a+(1:Int))))else Sa (Ab (Ad ()))) (0:Int)) fun(u:Unit)=>Sa (0:Int)
def zGg:ElS [zG,.str]->Option (RTy.El (.p tI)):=fun x=>match x with|(c,d,())=>wB (zS (fun(a:Int)=>bif decide (a< (↑(Ae c.2.2.2.2.2.1):Int))then Aa (idx c.2.2.2.2.2.1 a) fun(e:Ty.El zOX)=>bif e.1==d then Sa (Ab (Ab a))else Sa (Ad (Ac .i64 (a+(1:Int))))else Sa (Ab (Ad ()))) (0:Int)) fun(f:Unit)=>Sa (-1:Int)
def xQ:ElS [zG]->Option (RTy.El (.p tI)):=fun x=>match x with|(e,())=>bif decide ((↑(Ae e.2.2.2.2.2.2.1):Int)>(8:Int))then Sa (7:Int)else wB (zS (fun(d:Int)=>bif decide (d< (↑(Ae e.2.2.2.2.2.2.1):Int))then Aa (idx e.2.2.2.2.2.2.1 d) fun(a:Ty.El qHI)=>Aa (bif a.1==(1:Int)then Aa (bif a.2.1 !=(0:Int)then bif a.2.2.1 !=(0:Int)then Sa (a.1==a.1&&(a.2.1==a.2.1&&(a.2.2.1==a.2.2.1&&(a.2.2.2.1==(0:Int)&&(a.2.2.2.2.1==(0:Int)&&(a.2.2.2.2.2.1==(0:Int)&&(a.2.2.2.2.2.2.1== { data:= #[] } &&(a.2.2.2.2.2.2.2.1==(0:Int)&&(a.2.2.2.2.2.2.2.2.1==(0:Int)&&Sb)))))))))else Sa Sc else Sa Sc) fun(f:Bool)=>Sa f else bif a.1==(2:Int)then Aa (bif a.2.2.2.2.2.2.2.1 !=(0:Int)then bif decide (a.2.2.2.2.2.2.2.1<=a.2.2.2.2.2.2.2.2.1)then bif decide (Ac .u32 (a.2.2.2.2.2.2.2.2.1-a.2.2.2.2.2.2.2.1)< (8:Int))then Sa (a.1==a.1&&(a.2.1==(0:Int)&&(a.2.2.1==(0:Int)&&(a.2.2.2.1==(0:Int)&&(a.2.2.2.2.1==(0:Int)&&(a.2.2.2.2.2.1==(0:Int)&&(a.2.2.2.2.2.2.1==a.2.2.2.2.2.2.1&&(a.2.2.2.2.2.2.2.1==a.2.2.2.2.2.2.2.1&&(a.2.2.2.2.2.2.2.2.1==a.2.2.2.2.2.2.2.2.1&&Sb)))))))))else Sa Sc else Sa Sc else Sa Sc) fun(g:Bool)=>Sa g else bif a.1==(3:Int)then Aa (bif a.2.1 !=(0:Int)then bif a.2.2.1 !=(0:Int)then bif a.2.2.2.1==(6:Int)then Aa (qB (a.2.2.2.2.1,(0:Int),(65535:Int),())) fun(h:Bool)=>bif h then Aa (qB (a.2.2.2.2.2.1,(0:Int),(65535:Int),())) fun(i:Bool)=>bif i then bif a.2.2.2.2.2.2.1== { data:= #[] }then bif a.2.2.2.2.2.2.2.1==(0:Int)then Sa (a.2.2.2.2.2.2.2.2.1==(0:Int))else Sa Sc else Sa Sc else Sa Sc else Sa Sc else bif a.2.2.2.1==(17:Int)then Aa (qB (a.2.2.2.2.1,(0:Int),(65535:Int),())) fun(j:Bool)=>bif j then Aa (qB (a.2.2.2.2.2.1,(0:Int),(65535:Int),())) fun(k:Bool)=>bif k then bif a.2.2.2.2.2.2.1== { data:= #[] }then bif a.2.2.2.2.2.2.2.1==(0:Int)then Sa (a.2.2.2.2.2.2.2.2.1==(0:Int))else Sa Sc else Sa Sc else Sa Sc else Sa Sc else Sa Sc else Sa Sc else Sa Sc) fun(l:Bool)=>Sa l else Sa Sc) fun(m:Bool)=>bif !m then Sa (Ab (Ab (1:Int)))else Aa (bif a.1==(2:Int)then Aa (zGg (e,a.2.2.2.2.2.2.1,())) fun(n:Int)=>Sa (decide (n< (0:Int)))else Sa Sc) fun(q:Bool)=>bif q then Sa (Ab (Ab (5:Int)))else Sa (Ad (Ac .i64 (d+(1:Int))))else Sa (Ab (Ad ()))) (0:Int)) fun(r:Unit)=>Sa (0:Int)
def zDf:ElS [zG]->Option (RTy.El (.p tI)):=fun x=>match x with|(e,())=>wB (zS (fun(d:Int)=>bif decide (d< (↑(Ae e.2.2.1):Int))then Aa (idx e.2.2.1 d) fun(a:Ty.El zZ)=>Aa (bif a.2.2.2.2.2.2.2.2.2.1 != { data:= #[] }then Aa (zGg (e,a.2.2.2.2.2.2.2.2.2.1,())) fun(f:Int)=>bif decide (f< (0:Int))then Sa Sb else bif a.2.2.2.2.2.2.2.2.2.2.1 != { data:= #[] }then Aa (zGg (e,a.2.2.2.2.2.2.2.2.2.2.1,())) fun(g:Int)=>Sa (decide (g< (0:Int)))else Sa Sc else bif a.2.2.2.2.2.2.2.2.2.2.1 != { data:= #[] }then Aa (zGg (e,a.2.2.2.2.2.2.2.2.2.2.1,())) fun(h:Int)=>Sa (decide (h< (0:Int)))else Sa Sc) fun(i:Bool)=>bif i then Sa (Ab (Ab (5:Int)))else Sa (Ad (Ac .i64 (d+(1:Int))))else Sa (Ab (Ad ()))) (0:Int)) fun(j:Unit)=>Sa (0:Int)
def zAP:ElS [zG,tU]->Option (RTy.El (.p tI)):=fun x=>match x with|(c,g,())=>wB (zS (fun(a:Int)=>bif decide (a< (↑(Ae c.2.2.1):Int))then Aa (Aa (idx c.2.2.1 a) fun(d:Ty.El zZ)=>bif d.2.2.1 !=(0:Int)then Aa (idx c.2.2.1 a) fun(e:Ty.El zZ)=>Sa (e.2.1==g)else Sa Sc) fun(f:Bool)=>bif f then Sa (Ab (Ab a))else Sa (Ad (Ac .i64 (a+(1:Int))))else Sa (Ab (Ad ()))) (0:Int)) fun(h:Unit)=>Sa (-1:Int)
def zAs:ElS [zG,.str]->Option (RTy.El (.p tI)):=fun x=>match x with|(c,d,())=>wB (zS (fun(a:Int)=>bif decide (a< (↑(Ae c.2.2.1):Int))then Aa (idx c.2.2.1 a) fun(e:Ty.El zZ)=>bif e.1==d then Sa (Ab (Ab a))else Sa (Ad (Ac .i64 (a+(1:Int))))else Sa (Ab (Ad ()))) (0:Int)) fun(f:Unit)=>Sa (-1:Int)
def zBJ:ElS [zG]->Option (RTy.El (.p tI)):=fun x=>match x with|(e,())=>bif decide ((↑(Ae e.2.2.2.2.2.2.2.1):Int)>(16:Int))then Sa (7:Int)else wB (zS (fun(c:Int)=>bif decide (c< (↑(Ae e.2.2.2.2.2.2.2.1):Int))then wB (Aa (idx e.2.2.2.2.2.2.2.1 c) fun(a:Ty.El zNt)=>Aa (bif a.2.1 !=(0:Int)then Sa (Ac .i64 ((0:Int)+(1:Int)))else Sa (0:Int)) fun(f:Int)=>Aa (bif a.2.2.1 != { data:= #[] }then Sa (Ac .i64 (f+(1:Int)))else Sa f) fun(g:Int)=>Aa (bif a.2.2.2.1 then Sa (Ac .i64 (g+(1:Int)))else Sa g) fun(k:Int)=>Aa (Aa (uD (a.1,())) fun(l:Bool)=>bif !l then Sa Sb else bif k !=(1:Int)then Sa Sb else bif a.2.1 !=(0:Int)then Aa (zAP (e,a.2.1,())) fun(m:Int)=>bif decide (m>=(0:Int))then Sa Sb else Aa (qB (a.2.2.2.2.1,(1:Int),(255:Int),())) fun(n:Bool)=>bif !n then Sa Sb else Aa (qB (a.2.2.2.2.2.1,(0:Int),(65535:Int),())) fun(q:Bool)=>Sa !q else Aa (qB (a.2.2.2.2.1,(1:Int),(255:Int),())) fun(r:Bool)=>bif !r then Sa Sb else Aa (qB (a.2.2.2.2.2.1,(0:Int),(65535:Int),())) fun(t:Bool)=>Sa !t) fun(u:Bool)=>bif u then Sa (Ab (Ab (Ab (1:Int))))else wB (bif a.2.2.1 != { data:= #[] }then Aa (zAs (e,a.2.2.1,())) fun(h:Int)=>bif decide (h< (0:Int))then Sa (Ab (Ab (Ab (Ab (5:Int)))))else Aa (idx e.2.2.1 h) fun(y:Ty.El zZ)=>bif y.2.2.1==(0:Int)then Sa (Ab (Ab (Ab (Ab (1:Int)))))else Sa (Ad ())else Sa (Ad ())) fun(B:Unit)=>zS (fun(d:Int)=>bif decide (d<c)then Aa (Aa (idx e.2.2.2.2.2.2.2.1 d) fun(i:Ty.El zNt)=>bif i.1.1==a.1.1&&(i.1.2.1==a.1.2.1&&Sb)then Aa (idx e.2.2.2.2.2.2.2.1 d) fun(z:Ty.El zNt)=>Sa (z.2.2.2.2.1==a.2.2.2.2.1)else Sa Sc) fun(A:Bool)=>bif A then Sa (Ab (Ab (Ab (Ab (6:Int)))))else Sa (Ad (Ac .i64 (d+(1:Int))))else Sa (Ab (Ad ()))) (0:Int)) fun(C:Unit)=>Sa (Ad (Ac .i64 (c+(1:Int))))else Sa (Ab (Ad ()))) (0:Int)) fun(D:Unit)=>Sa (0:Int)
def x7:ElS [zG,.str]->Option (RTy.El (.p tI)):=fun x=>match x with|(c,d,())=>wB (zS (fun(a:Int)=>bif decide (a< (↑(Ae c.2.2.2.2.1):Int))then Aa (idx c.2.2.2.2.1 a) fun(e:Ty.El zLK)=>bif e.1==d then Sa (Ab (Ab a))else Sa (Ad (Ac .i64 (a+(1:Int))))else Sa (Ab (Ad ()))) (0:Int)) fun(f:Unit)=>Sa (-1:Int)
def kM:ElS [zG,(.sl zGU),tI,tI,tI]->Option (RTy.El (.p tI)):=fun x=>match x with|(r,f,e,t,u,())=>bif decide ((↑(Ae f):Int)>(4:Int))then Sa (7:Int)else wB (zS (fun(c:Int)=>bif decide (c< (↑(Ae f):Int))then wB (Aa (idx f c) fun(a:Ty.El zGU)=>Aa (Aa (qB (a.1,(1:Int),(5:Int),())) fun(g:Bool)=>bif !g then Sa Sb else bif a.1==e then Sa Sb else Aa (qB (a.2.1,t,u,())) fun(h:Bool)=>bif !h then Sa Sb else Aa (qB (a.2.2.1,(0:Int),(65535:Int),())) fun(i:Bool)=>Sa !i) fun(j:Bool)=>bif j then Sa (Ab (Ab (Ab (1:Int))))else Aa (bif e==(3:Int)then bif a.2.2.2.2.1 !=(1:Int)then bif a.2.2.2.2.1 !=(2:Int)then Sa Sb else bif e !=(3:Int)then Sa (a.2.2.2.2.1 !=(0:Int))else Sa Sc else bif e !=(3:Int)then Sa (a.2.2.2.2.1 !=(0:Int))else Sa Sc else bif e !=(3:Int)then Sa (a.2.2.2.2.1 !=(0:Int))else Sa Sc) fun(k:Bool)=>bif k then Sa (Ab (Ab (Ab (1:Int))))else Aa (bif a.2.2.2.1 != { data:= #[] }then Aa (x7 (r,a.2.2.2.1,())) fun(l:Int)=>Sa (decide (l< (0:Int)))else Sa Sc) fun(m:Bool)=>bif m then Sa (Ab (Ab (Ab (5:Int))))else zS (fun(d:Int)=>bif decide (d<c)then Aa (idx f d) fun(n:Ty.El zGU)=>bif n.1==a.1 then Sa (Ab (Ab (Ab (Ab (4:Int)))))else Sa (Ad (Ac .i64 (d+(1:Int))))else Sa (Ab (Ad ()))) (0:Int)) fun(y:Unit)=>Sa (Ad (Ac .i64 (c+(1:Int))))else Sa (Ab (Ad ()))) (0:Int)) fun(z:Unit)=>Sa (0:Int)
def yV:ElS [zG]->Option (RTy.El (.p tI)):=fun x=>match x with|(a,())=>bif !a.2.2.2.2.2.2.2.2.1.1 then Aa (bif a.2.2.2.2.2.2.2.2.1.2.1 !=(0:Int)then Sa Sb else bif decide ((↑(Ae a.2.2.2.2.2.2.2.2.1.2.2.1):Int)>(0:Int))then Sa Sb else Sa (decide ((↑(Ae a.2.2.2.2.2.2.2.2.1.2.2.2.1):Int)>(0:Int)))) fun(t:Bool)=>bif t then Sa (1:Int)else Sa (0:Int)else Aa (qB (a.2.2.2.2.2.2.2.2.1.2.1,(1:Int),(255:Int),())) fun(u:Bool)=>bif !u then Sa (1:Int)else bif decide ((↑(Ae a.2.2.2.2.2.2.2.2.1.2.2.1):Int)>(4:Int))then Sa (7:Int)else wB (zS (fun(c:Int)=>bif decide (c< (↑(Ae a.2.2.2.2.2.2.2.2.1.2.2.1):Int))then wB (Aa (Aa (idx a.2.2.2.2.2.2.2.2.1.2.2.1 c) fun(e:Ty.El vY)=>Aa (qB (e.1,(0:Int),(255:Int),())) fun(f:Bool)=>bif !f then Sa Sb else Aa (idx a.2.2.2.2.2.2.2.2.1.2.2.1 c) fun(g:Ty.El vY)=>Aa (uD (g.2.1,())) fun(h:Bool)=>Sa !h) fun(i:Bool)=>bif i then Sa (Ab (Ab (Ab (1:Int))))else zS (fun(d:Int)=>bif decide (d<c)then Aa (Aa (idx a.2.2.2.2.2.2.2.2.1.2.2.1 d) fun(j:Ty.El vY)=>Aa (idx a.2.2.2.2.2.2.2.2.1.2.2.1 c) fun(k:Ty.El vY)=>bif j.1==k.1 then Aa (idx a.2.2.2.2.2.2.2.2.1.2.2.1 d) fun(l:Ty.El vY)=>Aa (idx a.2.2.2.2.2.2.2.2.1.2.2.1 c) fun(m:Ty.El vY)=>Aa (x9 (l.2.1,m.2.1,())) fun(n:Bool)=>Sa n else Sa Sc) fun(q:Bool)=>bif q then Sa (Ab (Ab (Ab (Ab (6:Int)))))else Sa (Ad (Ac .i64 (d+(1:Int))))else Sa (Ab (Ad ()))) (0:Int)) fun(y:Unit)=>Sa (Ad (Ac .i64 (c+(1:Int))))else Sa (Ab (Ad ()))) (0:Int)) fun(z:Unit)=>Aa (kM (a,a.2.2.2.2.2.2.2.2.1.2.2.2.1,(3:Int),(0:Int),(16777215:Int),())) fun(r:Int)=>Sa r
def zB7:ElS [zG]->Option (RTy.El (.p tI)):=fun x=>match x with|(a,())=>bif !a.2.2.2.2.2.2.2.2.2.1.1 then Aa (bif a.2.2.2.2.2.2.2.2.2.1.2.1 !=(0:Int)then Sa Sb else bif a.2.2.2.2.2.2.2.2.2.1.2.2.1 != { data:= #[] }then Sa Sb else bif a.2.2.2.2.2.2.2.2.2.1.2.2.2.1 != { data:= #[] }then Sa Sb else Sa (decide ((↑(Ae a.2.2.2.2.2.2.2.2.2.1.2.2.2.2.1):Int)>(0:Int)))) fun(d:Bool)=>bif d then Sa (1:Int)else Sa (0:Int)else Aa (qB (a.2.2.2.2.2.2.2.2.2.1.2.1,(1:Int),(255:Int),())) fun(e:Bool)=>bif !e then Sa (1:Int)else Aa (bif a.2.2.2.2.2.2.2.2.2.1.2.2.1 != { data:= #[] }then Aa (u9 (a,a.2.2.2.2.2.2.2.2.2.1.2.2.1,())) fun(f:Int)=>bif decide (f< (0:Int))then Sa Sb else bif a.2.2.2.2.2.2.2.2.2.1.2.2.2.1 != { data:= #[] }then Aa (u9 (a,a.2.2.2.2.2.2.2.2.2.1.2.2.2.1,())) fun(g:Int)=>Sa (decide (g< (0:Int)))else Sa Sc else bif a.2.2.2.2.2.2.2.2.2.1.2.2.2.1 != { data:= #[] }then Aa (u9 (a,a.2.2.2.2.2.2.2.2.2.1.2.2.2.1,())) fun(h:Int)=>Sa (decide (h< (0:Int)))else Sa Sc) fun(i:Bool)=>bif i then Sa (5:Int)else Aa (kM (a,a.2.2.2.2.2.2.2.2.2.1.2.2.2.2.1,(4:Int),(1:Int),(15:Int),())) fun(j:Int)=>Sa j
def zDe:ElS [zG]->Option (RTy.El (.p tI)):=fun x=>match x with|(c,())=>bif decide ((↑(Ae c.2.2.2.2.2.2.2.2.2.2.1.2.2.2.1):Int)>(8:Int))then Sa (7:Int)else wB (zS (fun(a:Int)=>bif decide (a< (↑(Ae c.2.2.2.2.2.2.2.2.2.2.1.2.2.2.1):Int))then wB (Aa (Aa (idx c.2.2.2.2.2.2.2.2.2.2.1.2.2.2.1 a) fun(f:Ty.El zAo)=>bif f.1==(0:Int)then Sa Sb else Aa (idx c.2.2.2.2.2.2.2.2.2.2.1.2.2.2.1 a) fun(g:Ty.El zAo)=>Aa (qB (g.2.1,(1:Int),(65535:Int),())) fun(h:Bool)=>Sa !h) fun(i:Bool)=>bif i then Sa (Ab (Ab (Ab (1:Int))))else Aa (Aa (idx c.2.2.2.2.2.2.2.2.2.2.1.2.2.2.1 a) fun(j:Ty.El zAo)=>bif j.2.2.1 != { data:= #[] }then Aa (idx c.2.2.2.2.2.2.2.2.2.2.1.2.2.2.1 a) fun(k:Ty.El zAo)=>Aa (x7 (c,k.2.2.1,())) fun(l:Int)=>bif decide (l< (0:Int))then Sa Sb else Aa (idx c.2.2.2.2.2.2.2.2.2.2.1.2.2.2.1 a) fun(m:Ty.El zAo)=>bif m.2.2.2.1 != { data:= #[] }then Aa (idx c.2.2.2.2.2.2.2.2.2.2.1.2.2.2.1 a) fun(n:Ty.El zAo)=>Aa (x7 (c,n.2.2.2.1,())) fun(q:Int)=>Sa (decide (q< (0:Int)))else Sa Sc else Aa (idx c.2.2.2.2.2.2.2.2.2.2.1.2.2.2.1 a) fun(r:Ty.El zAo)=>bif r.2.2.2.1 != { data:= #[] }then Aa (idx c.2.2.2.2.2.2.2.2.2.2.1.2.2.2.1 a) fun(t:Ty.El zAo)=>Aa (x7 (c,t.2.2.2.1,())) fun(u:Int)=>Sa (decide (u< (0:Int)))else Sa Sc) fun(y:Bool)=>bif y then Sa (Ab (Ab (Ab (5:Int))))else zS (fun(e:Int)=>bif decide (e<a)then Aa (idx c.2.2.2.2.2.2.2.2.2.2.1.2.2.2.1 e) fun(z:Ty.El zAo)=>Aa (idx c.2.2.2.2.2.2.2.2.2.2.1.2.2.2.1 a) fun(A:Ty.El zAo)=>bif z.1==A.1 then Sa (Ab (Ab (Ab (Ab (4:Int)))))else Sa (Ad (Ac .i64 (e+(1:Int))))else Sa (Ab (Ad ()))) (0:Int)) fun(C:Unit)=>Sa (Ad (Ac .i64 (a+(1:Int))))else Sa (Ab (Ad ()))) (0:Int)) fun(B:Unit)=>Sa (0:Int)
def zBe:ElS [tPV]->Option (RTy.El (.p tI)):=fun x=>match x with|(c,())=>bif decide ((↑(Ae c.2.2.2.2.1):Int)>(8:Int))then Sa (7:Int)else wB (zS (fun(e:Int)=>bif decide (e< (↑(Ae c.2.2.2.2.1):Int))then wB (Aa (idx c.2.2.2.2.1 e) fun(u:Ty.El zD)=>Aa (uD (u,())) fun(y:Bool)=>bif !y then Sa (Ab (Ab (Ab (1:Int))))else zS (fun(i:Int)=>bif decide (i<e)then Aa (idx c.2.2.2.2.1 i) fun(k:Ty.El zD)=>Aa (idx c.2.2.2.2.1 e) fun(l:Ty.El zD)=>bif k.1==l.1&&(k.2.1==l.2.1&&Sb)then Sa (Ab (Ab (Ab (Ab (4:Int)))))else Sa (Ad (Ac .i64 (i+(1:Int))))else Sa (Ab (Ad ()))) (0:Int)) fun(D:Unit)=>Sa (Ad (Ac .i64 (e+(1:Int))))else Sa (Ab (Ad ()))) (0:Int)) fun(E:Unit)=>bif decide ((↑(Ae c.2.2.2.2.2.1):Int)>(8:Int))then Sa (7:Int)else wB (zS (fun(f:Int)=>bif decide (f< (↑(Ae c.2.2.2.2.2.1):Int))then wB (Aa (idx c.2.2.2.2.2.1 f) fun(z:Ty.El zIv)=>Aa (uD (z.1,())) fun(A:Bool)=>bif !A then Sa (Ab (Ab (Ab (1:Int))))else zS (fun(j:Int)=>bif decide (j<f)then Aa (idx c.2.2.2.2.2.1 j) fun(m:Ty.El zIv)=>Aa (idx c.2.2.2.2.2.1 f) fun(n:Ty.El zIv)=>bif m.1.1==n.1.1&&(m.1.2.1==n.1.2.1&&Sb)then Sa (Ab (Ab (Ab (Ab (4:Int)))))else Sa (Ad (Ac .i64 (j+(1:Int))))else Sa (Ab (Ad ()))) (0:Int)) fun(F:Unit)=>Sa (Ad (Ac .i64 (f+(1:Int))))else Sa (Ab (Ad ()))) (0:Int)) fun(G:Unit)=>bif decide ((↑(Ae c.2.2.2.2.2.2.1):Int)>(8:Int))then Sa (7:Int)else wB (zS (fun(d:Int)=>bif decide (d< (↑(Ae c.2.2.2.2.2.2.1):Int))then wB (Aa (idx c.2.2.2.2.2.2.1 d) fun(a:Ty.El zMi)=>Aa (Aa (uD (a.1,())) fun(q:Bool)=>bif !q then Sa Sb else Aa (uD (a.2.1,())) fun(r:Bool)=>Sa !r) fun(t:Bool)=>bif t then Sa (Ab (Ab (Ab (1:Int))))else bif a.1.1==a.2.1.1&&(a.1.2.1==a.2.1.2.1&&Sb)then Sa (Ab (Ab (Ab (6:Int))))else zS (fun(g:Int)=>bif decide (g<d)then Aa (idx c.2.2.2.2.2.2.1 g) fun(h:Ty.El zMi)=>bif h.1.1==a.1.1&&(h.1.2.1==a.1.2.1&&Sb)then Sa (Ab (Ab (Ab (Ab (4:Int)))))else Sa (Ad (Ac .i64 (g+(1:Int))))else Sa (Ab (Ad ()))) (0:Int)) fun(B:Unit)=>Sa (Ad (Ac .i64 (d+(1:Int))))else Sa (Ab (Ad ()))) (0:Int)) fun(C:Unit)=>Sa (0:Int)
def zAZ:ElS [zG]->Option (RTy.El (.p tI)):=fun x=>match x with|(a,())=>bif !a.2.2.2.2.2.2.2.2.2.2.1.1 then Aa (bif a.2.2.2.2.2.2.2.2.2.2.1.2.1 !=(0:Int)then Sa Sb else bif a.2.2.2.2.2.2.2.2.2.2.1.2.2.1 !=(0:Int)then Sa Sb else Sa (decide (Ac .i64 (Ac .i64 (Ac .i64 (Ac .i64 ((↑(Ae a.2.2.2.2.2.2.2.2.2.2.1.2.2.2.1):Int)+(↑(Ae a.2.2.2.2.2.2.2.2.2.2.1.2.2.2.2.1):Int))+(↑(Ae a.2.2.2.2.2.2.2.2.2.2.1.2.2.2.2.2.1):Int))+(↑(Ae a.2.2.2.2.2.2.2.2.2.2.1.2.2.2.2.2.2.1):Int))+(↑(Ae a.2.2.2.2.2.2.2.2.2.2.1.2.2.2.2.2.2.2.1):Int))>(0:Int)))) fun(e:Bool)=>bif e then Sa (1:Int)else Sa (0:Int)else Aa (bif a.2.1==(0:Int)then Sa Sb else Aa (qB (a.2.2.2.2.2.2.2.2.2.2.1.2.1,(1:Int),(255:Int),())) fun(f:Bool)=>bif !f then Sa Sb else Aa (qB (a.2.2.2.2.2.2.2.2.2.2.1.2.2.1,(1:Int),(255:Int),())) fun(g:Bool)=>Sa !g) fun(h:Bool)=>bif h then Sa (1:Int)else Aa (zDe (a,())) fun(c:Int)=>bif c !=(0:Int)then Sa c else Aa (zBe (a.2.2.2.2.2.2.2.2.2.2.1,())) fun(d:Int)=>bif d !=(0:Int)then Sa d else Aa (kM (a,a.2.2.2.2.2.2.2.2.2.2.1.2.2.2.2.2.2.2.1,(5:Int),(0:Int),(16777215:Int),())) fun(i:Int)=>Sa i
def yM:ElS [zG]->Option (RTy.El (.p tI)):=fun x=>match x with|(a,())=>Aa (zCI (a.1,())) fun(r:Bool)=>bif !r then Sa (3:Int)else Aa (qB (a.2.1,(0:Int),(65535:Int),())) fun(t:Bool)=>bif !t then Sa (1:Int)else Aa (xJ (a.2.2.1,())) fun(d:Int)=>Aa (zAq (a.2.2.2.1,())) fun(e:Int)=>Aa (zBn (a,())) fun(f:Int)=>Aa (zAr (a.2.2.2.2.2.1,())) fun(g:Int)=>Aa (xQ (a,())) fun(h:Int)=>Aa (zDf (a,())) fun(i:Int)=>Aa (zBJ (a,())) fun(j:Int)=>Aa (yV (a,())) fun(k:Int)=>Aa (zB7 (a,())) fun(l:Int)=>Aa (zAZ (a,())) fun(m:Int)=>wB (zS (fun(c:Int)=>bif decide (c< (↑(Ae [d,e,f,g,h,i,j,k,l,m]):Int))then Aa (idx [d,e,f,g,h,i,j,k,l,m] c) fun(n:Int)=>bif n !=(0:Int)then Aa (idx [d,e,f,g,h,i,j,k,l,m] c) fun(q:Int)=>Sa (Ab (Ab q))else Sa (Ad (Ac .i64 (c+(1:Int))))else Sa (Ab (Ad ()))) (0:Int)) fun(u:Unit)=>Sa (0:Int)
def x8:ElS [zJ]->Option (RTy.El (.p tI)):=fun x=>match x with|(f,())=>bif decide ((↑(Ae f.1):Int)>(8:Int))then Sa (7:Int)else wB (zS (fun(a:Int)=>bif decide (a< (↑(Ae f.1):Int))then wB (Aa (idx f.1 a) fun(i:Ty.El zG)=>Aa (yM (i,())) fun(g:Int)=>bif g !=(0:Int)then Sa (Ab (Ab (Ab g)))else wB (zS (fun(c:Int)=>bif decide (c<a)then Aa (idx f.1 c) fun(j:Ty.El zG)=>Aa (idx f.1 a) fun(k:Ty.El zG)=>bif j.1==k.1 then Sa (Ab (Ab (Ab (Ab (Ab (4:Int))))))else Sa (Ad (Ac .i64 (c+(1:Int))))else Sa (Ab (Ad ()))) (0:Int)) fun(t:Unit)=>zS (fun(d:Int)=>Aa (idx f.1 a) fun(l:Ty.El zG)=>bif decide (d< (↑(Ae l.2.2.1):Int))then wB (Aa (idx f.1 a) fun(m:Ty.El zG)=>Aa (idx m.2.2.1 d) fun(h:Ty.El zZ)=>zS (fun(e:Int)=>bif decide (e<a)then Aa (bif h.2.2.1 !=(0:Int)then Aa (idx f.1 e) fun(n:Ty.El zG)=>Aa (zAP (n,h.2.1,())) fun(q:Int)=>Sa (decide (q>=(0:Int)))else Sa Sc) fun(r:Bool)=>bif r then Sa (Ab (Ab (Ab (Ab (Ab (Ab (4:Int)))))))else Sa (Ad (Ac .i64 (e+(1:Int))))else Sa (Ab (Ad ()))) (0:Int)) fun(u:Unit)=>Sa (Ad (Ac .i64 (d+(1:Int))))else Sa (Ab (Ad ()))) (0:Int)) fun(y:Unit)=>Sa (Ad (Ac .i64 (a+(1:Int))))else Sa (Ab (Ad ()))) (0:Int)) fun(z:Unit)=>Sa (0:Int)
end
end Go.Ve

/- law16 -/
set_option linter.unusedVariables false
namespace Go.Ve
abbrev aa:=@List.getElem?_eq_some_iff
abbrev ac:=@Option.some.injEq
abbrev ae:=@List.mem_of_getElem?
abbrev af:=@Option.bind_some
abbrev ah:=@List.getElem?_eq_getElem
abbrev ai:=@Nat.le_trans
abbrev aj:=@Nat.le_refl
abbrev ak:=@Option.map_eq_some_iff
abbrev am:=@Bool.and_eq_true
abbrev aq:=@Nat.mul_le_mul_right
abbrev ar:=@Array.getElem?_eq_some_iff
abbrev au:=@List.all_eq_true
abbrev aw:=@List.mem_cons_of_mem
abbrev az:=@Nat.lt_of_lt_of_le
abbrev aA:=@List.getElem_of_mem
abbrev aB:=@List.getElem?_map
abbrev aC:=@Array.getElem?_eq_getElem
abbrev aD:=@List.getElem?_append_right
abbrev aF:=@Int.toNat_natCast
abbrev aG:=@Option.bind_eq_some_iff
abbrev aH:=@List.length_cons
abbrev aI:=@Prod.mk.injEq
abbrev aJ:=@List.eq_nil_of_length_eq_zero
abbrev aK:=@List.mem_singleton
abbrev aL:=@List.length_map
abbrev aM:=@Nat.eq_of_beq_eq_true
abbrev aN:=@List.length_append
abbrev aO:=@List.mem_map
abbrev aP:=@List.length_nil
abbrev aQ:=@List.getElem?_set_ne
abbrev aR:=@List.getElem?_append_left
abbrev aS:=@List.mem_range
abbrev aT:=@List.pairwise_iff_getElem
abbrev aU:=@List.mem_append
abbrev aV:=@List.mem_filter
abbrev aW:=@Option.some.inj
abbrev aX:=@List.getElem_mem
abbrev aY:=@Nat.zero_le
abbrev aZ:=@Nat.lt_or_ge
abbrev a7:=@List.getD_eq_getElem?_getD
abbrev a8:=@List.getElem?_replicate
abbrev ba:=@Array.getD_eq_getD_getElem?
abbrev bc:=@List.findIdx?_eq_some_iff_getElem
abbrev bf:=@Array.getElem?_append_left
abbrev bg:=@List.mem_cons
abbrev bh:=@List.getElem?_range
abbrev bi:=@Int.toNat_of_nonneg
abbrev bj:=@Option.isSome_iff_exists
abbrev bl:=@List.getElem?_cons_succ
abbrev bm:=@List.mem_filterMap
abbrev bp:=@List.pairwise_cons
abbrev bq:=@Array.getElem?_append_right
abbrev br:=@List.eq_nil_iff_forall_not_mem
abbrev bt:=@Option.map_some
abbrev bu:=@List.map_append
abbrev bv:=@Nat.add_assoc
abbrev bw:=@Nat.zero_add
abbrev bx:=@List.getElem?_eq_none
abbrev bz:=@Array.getElem?_setIfInBounds_ne
abbrev bB:=@Nat.succ_mul
abbrev bC:=@List.any_eq_true
abbrev bD:=@List.take_length
abbrev bE:=@Nat.add_mul
abbrev bF:=@Classical.byContradiction
abbrev bG:=@List.map_congr_left
abbrev bH:=@Bool.not_true
abbrev bI:=@Array.getElem?_replicate
abbrev bJ:=@Array.getElem?_modify
abbrev bK:=@List.length_singleton
abbrev bL:=@List.length_filterMap_le
abbrev bM:=@Array.getElem?_toList
abbrev bN:=@Bool.or_eq_true
abbrev bO:=@Bool.false_eq_true
abbrev bP:=@List.take_add_one
abbrev bQ:=@List.ext_getElem?
abbrev bR:=@List.mem_flatMap
abbrev bS:=@List.length_drop
abbrev bT:=@List.length_take
abbrev bU:=@Bool.false_or
abbrev bV:=@Bool.true_and
abbrev bW:=@List.getElem?_of_mem
abbrev bX:=@List.pairwise_append
abbrev bY:=@List.length_range
abbrev bZ:=@Array.size_push
abbrev b6:=@List.length_set
abbrev b7:=@List.getElem?_set_self
abbrev b9:=@Nat.beq_refl
abbrev ca:=@List.exists_cons_of_ne_nil
abbrev cb:=@Array.all_eq_true_iff_forall_mem
abbrev cd:=@Option.toList_some
abbrev ce:=@Nat.div_lt_iff_lt_mul
abbrev cg:=@Array.ext_getElem?
abbrev ci:=@Nat.min_eq_left
abbrev cj:=@List.append_nil
abbrev cm:=@Function.comp_def
abbrev cn:=@List.append_assoc
abbrev co:=@Nat.lt_irrefl
abbrev cu:=@List.getElem_set
abbrev cw:=@Array.getElem?_setIfInBounds
abbrev cy:=@Array.getElem?_eq_none
abbrev cz:=@Array.getElem?_push_lt
abbrev cA:=@Nat.eq_zero_or_pos
abbrev cB:=@List.getElem?_take
abbrev cC:=@List.getElem?_drop
abbrev cD:=@Iff.rfl
abbrev cE:=@List.take_append_drop
abbrev cF:=@List.length_filter_le
abbrev cG:=@Bool.not_eq_true'
abbrev cH:=@List.findIdx?_eq_none_iff
abbrev cI:=@List.mem_append_left
abbrev cJ:=@Array.mapM_eq_mapM_toList
abbrev cK:=@List.not_mem_nil
abbrev cL:=@List.mergeSort_perm
abbrev cM:=@List.length_pos_iff
abbrev cN:=@List.length_eq_zero_iff
abbrev cO:=@List.pairwise_singleton
abbrev cP:=@List.cons.inj
abbrev cQ:=@List.all_cons
abbrev cR:=@Bool.eq_iff_iff
abbrev cS:=@Array.getElem?_extract
abbrev cT:=@Nat.le_succ
abbrev cU:=@Nat.lt_trichotomy
abbrev cV:=@Subsingleton.elim
abbrev cW:=@Nat.mul_comm
abbrev cX:=@Nat.lt_succ_self
abbrev cY:=@Ne.symm
abbrev cZ:=@Nat.add_sub_cancel'
abbrev c7:=@Option.isNone_iff_eq_none
abbrev c8:=@Array.any_eq_true'
abbrev c9:=@List.map_set
abbrev da:=@List.pairwise_mergeSort
abbrev de:=@List.getElem?_cons_zero
abbrev df:=@List.map_id
abbrev dg:=@Array.getElem?_setIfInBounds_self
abbrev dh:=@List.drop_eq_nil_of_le
abbrev dj:=@List.filter_eq_nil_iff
abbrev dp:=@Option.getD_some
abbrev dq:=@List.cons_append
abbrev dr:=@Nat.le_add_right
abbrev dt:=@List.mem_append_right
abbrev du:=@Classical.choose_spec
abbrev dw:=@List.length_replicate
abbrev dx:=@List.map_map
abbrev dy:=@List.mem_of_mem_take
abbrev dz:=@Int.le_trans
abbrev dA:=@Int.not_lt
abbrev dB:=@List.foldl_cons
abbrev dC:=@Nat.not_lt_zero
abbrev dD:=@List.range_succ
abbrev dE:=@List.nil_append
abbrev dF:=@Array.count_eq_zero
abbrev dG:=@Nat.mul_one
abbrev dH:=@Int.le_refl
abbrev dI:=@Nat.or_zero
abbrev dJ:=@Nat.sub_mul
abbrev dK:=@List.filter_append
abbrev dL:=@Int.natCast_nonneg
end Go.Ve
namespace Go.Ve
structure Arc where
 a:Nat
 b:Nat
 c:Nat
inductive xX(E:List Arc)(s:Nat):List Nat->Nat->Prop
 |nil:xX E s [s] 0
 |snoc {y:Nat} {l:List Nat} {c:Nat} (e:Arc):xX E s (y::l) c->e∈E->e.a=y->xX E s (e.b::y::l) (c+e.c)
variable {E:List Arc}{s:Nat}
variable {l:List Nat}{g i:Nat}
theorem xX.back{d:List Nat}(h:xX E s (l++g::d) i):∃f,f<=i/\xX E s (g::d) f:=by
 induction l generalizing i with
 |nil=>grind
 |cons y l c=>
  generalize x:y::l++g::d=a at h
  cases h with
  |nil=>simp at x
  |snoc e j k m=>
   grind
theorem xX.short(h:xX E s (g::l) i):∃a d,xX E s (g::a) d/\d<=i/\(g::a).Nodup:=by
 generalize f:g::l=k at h
 induction h generalizing g l with
 |nil=>
  obtain⟨rfl,rfl⟩:=cP f;exact⟨[],0,.nil,aj _,by simp⟩
 | @snoc y p q e r c j m=>
  obtain⟨rfl,rfl⟩:=cP f;obtain⟨a,d,i1,i2,i3⟩:=m rfl;by_cases t:e.b∈y::a
  .obtain⟨u,x,n⟩:=List.append_of_mem t;rw[n]at i1 i3;obtain⟨z,A,B⟩:=i1.back
   grind
  .exact⟨y::a,d+e.c,.snoc e i1 c j,by omega,List.nodup_cons.2 ⟨t,i3⟩⟩
theorem zZF:∀(n:Nat) (l:List Nat),(∀x,x∈l->x<n)->l.Nodup->l.length<=n
 |0,[],_,_=>aj _
 |0,x::_,h,_=>absurd (h x (by simp)) (dC _)
 |n+1,l,h,a=>by
  by_cases e:n∈l
  .have c:=zZF n (l.erase n) (fun x d=>by
    grind) (a.erase n)
   grind
  .have c:=zZF n l (fun x d=>by
    grind) a
   omega
theorem xX.lt(hE:∀e,e∈E->e.b<g)(a:s<g)(h:xX E s l i):∀x,x∈l->x<g:=by
 induction h with
 |nil=>grind
 |snoc e d f n c=>
  grind
def Dst(E:List Arc)(n s:Nat)(d:List Int):Prop:=
 d.length=n/\∀t,t<n->(d.getD t 0= -1/\∀l c,¬xX E s (t::l) c)\/∃k:Nat,d.getD t 0=(k:Int)/\(∃l,xX E s (t::l) k)/\∀l c,xX E s (t::l) c->k<=c
def zQF(E:List Arc)(s:Nat)(d:List Int):Prop:= ∀t,t<d.length->d.getD t 0= -1\/∃(k:Nat) (l:List Nat),d.getD t 0=(k:Int)/\xX E s (t::l) k
variable {j:List Int}
theorem qHw(x:∀e,e∈E->e.b<g)(y:s<g)(n:j.length=g)(h:zQF E s j)(z:∀t l c,xX E s (t::l) c->(t::l).Nodup->0<=j.getD t 0/\j.getD t 0<=c):Dst E g s j:=by
 refine⟨n,fun t i=>?_⟩;rcases h t (n▸i)with a|⟨k,l,a,d⟩
 .refine .inl ⟨a,fun l c f=>?_⟩;obtain⟨m,p,q,r,u⟩:=f.short
  grind
 .refine .inr ⟨k,a,⟨l,d⟩,fun l c f=>?_⟩;obtain⟨m,p,q,r,u⟩:=f.short
  grind
def relax(e:Arc)(d:List Int):List Int:=
 if 0<=d.getD e.a 0/\(d.getD e.b 0<0\/d.getD e.a 0+e.c<d.getD e.b 0)then d.set e.b (d.getD e.a 0+e.c)else d
theorem zBI(e:Arc)(d:List Int):(relax e d).length=d.length:=by
 grind[relax]
theorem zK9(d:List Int)(i j:Nat)(v:Int)(a:j<d.length):(d.set i v).getD j 0=if i=j then v else d.getD j 0:=by
 grind
theorem zQF.relax{e:Arc}{d:List Int}(i:e∈E)(ha:e.a<d.length)(h:zQF E s d):zQF E s (relax e d):=by
 intro t f;rw[zBI]at f;unfold Go.Ve.relax;split
 .rename_i m;rw[zK9 d _ _ _ f];split
  .rename_i hb;rcases h e.a ha with g|⟨k,l,g,j⟩
   .omega
   .refine .inr ⟨k+e.c,e.a::l,by rw[g];simp,?_⟩;rw[<-hb];exact .snoc e j i rfl
  .exact h t f
 .exact h t f
def Low(d a:List Int):Prop:=a.length=d.length/\∀t,t<d.length->0<=d.getD t 0->0<=a.getD t 0/\a.getD t 0<=d.getD t 0
theorem Low.refl(d:List Int):Low d d:=⟨rfl,fun _ _ h=>⟨h,dH _⟩⟩
theorem Low.trans{d e c:List Int}(h:Low d e)(k:Low e c):Low d c:=
 ⟨k.1.trans h.1,fun t f g=>by
  obtain⟨a,b⟩:=h.2 t f g;obtain⟨i,j⟩:=k.2 t (h.1▸f) a
  omega⟩
theorem zUx(e:Arc)(d:List Int):Low d (relax e d):=by
 refine⟨zBI e d,fun t a c=>?_⟩;unfold relax
 grind
theorem qDP(e:Arc)(d:List Int)(f:e.b<d.length)(g:0<=d.getD e.a 0):0<=(relax e d).getD e.b 0/\(relax e d).getD e.b 0<=d.getD e.a 0+e.c:=by
 unfold relax
 grind
def roundL:List Arc->List Int->List Int
 |[],d=>d
 |e::r,d=>roundL r (relax e d)
theorem zGe:∀(l:List Arc) (d:List Int),Low d (roundL l d)
 |[],d=>.refl d
 |e::r,d=>(zUx e d).trans (zGe r _)
theorem zNJ{n:Nat}:∀(l:List Arc) (d:List Int),(∀e,e∈l->e∈E/\e.a<n)->d.length=n->zQF E s d->zQF E s (roundL l d)
 |[],d,_,_,h=>h
 |e::r,d,c,f,h=>by obtain⟨g,i⟩:=c e (by simp);exact zNJ r _ (fun x j=>c x (aw _ j)) ((zBI e d).trans f) (h.relax g (f▸i))
def qAQ(E:List Arc)(s k:Nat)(d:List Int):Prop:= ∀t l c,xX E s (t::l) c->l.length<=k->0<=d.getD t 0/\d.getD t 0<=c
theorem zPa{n:Nat}:∀(l:List Arc) (d:List Int),(∀e,e∈l->e.a<n/\e.b<n)->d.length=n->∀e,e∈l->0<=d.getD e.a 0->0<=(roundL l d).getD e.b 0/\(roundL l d).getD e.b 0<=d.getD e.a 0+e.c
 |h::r,d,k,i,e,f,m=>by
  obtain⟨p,q⟩:=k e f;rcases bg.1 f with rfl|f
  .have g:=qDP e d (i▸q) m;have j:=(zGe r (relax e d)).2 e.b (by grind[zBI]) g.1;exact⟨j.1,dz j.2 g.2⟩
  .have g:=(zUx h d).2 e.a (i▸p) m;have j:=zPa r (relax h d) (fun x t=>k x (aw _ t)) ((zBI h d).trans i) e f g.1
   grind[roundL,relax]
theorem qAQ.round(hE:∀e,e∈E->e.a<g/\e.b<g)(d:s<g)(f:j.length=g)(h:qAQ E s i j):qAQ E s (i+1) (roundL E j):=by
 intro t l c n p;generalize k:t::l=m at n
 cases n with
 |nil=>
  obtain⟨rfl,rfl⟩:=cP k;obtain⟨a,b⟩:=h t [] 0 .nil (aY _);obtain⟨q,r⟩:=(zGe E j).2 t (f▸d) a;exact⟨q,dz r b⟩
 | @snoc y u x e z A B=>obtain⟨rfl,rfl⟩:=cP k;subst B;obtain⟨a,b⟩:=h _ u x z (by simp at p;omega);have:=zPa E j hE f e A a;exact⟨this.1,by omega⟩
theorem qAu(i:∀e,e∈E->e.b<g)(d:s<g)(k:j.length=g)(h:zQF E s j)(p:j.getD s 0=0)(q:∀e,e∈E->0<=j.getD e.a 0->0<=j.getD e.b 0/\j.getD e.b 0<=j.getD e.a 0+e.c):Dst E g s j:=by
 refine qHw i d k h (fun t l c n f=>?_);clear f;generalize r:t::l=m at n;clear h
 induction n generalizing t l with
 |nil=>grind
 | @snoc y u x e z A B C=>
  grind
end Go.Ve

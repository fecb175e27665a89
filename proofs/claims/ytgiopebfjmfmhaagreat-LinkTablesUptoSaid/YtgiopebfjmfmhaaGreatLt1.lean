/- law16 -/
set_option linter.unusedVariables false
namespace Go.Ve
abbrev aa:=@List.getElem?_eq_some_iff
abbrev ac:=@Option.some.injEq
abbrev ae:=@List.mem_of_getElem?
abbrev af:=@Option.bind_some
abbrev ah:=@List.getElem?_eq_getElem
abbrev ai:=@Nat.le_trans
abbrev aj:=@Nat.le_refl
abbrev ak:=@Bool.and_eq_true
abbrev am:=@Option.map_eq_some_iff
abbrev aq:=@Nat.mul_le_mul_right
abbrev ar:=@Array.getElem?_eq_some_iff
abbrev au:=@List.all_eq_true
abbrev aw:=@List.mem_cons_of_mem
abbrev az:=@Nat.lt_of_lt_of_le
abbrev aA:=@List.getElem?_map
abbrev aB:=@List.getElem_of_mem
abbrev aC:=@Int.toNat_natCast
abbrev aD:=@Array.getElem?_eq_getElem
abbrev aF:=@List.getElem?_append_right
abbrev aG:=@Option.bind_eq_some_iff
abbrev aH:=@List.getD_eq_getElem?_getD
abbrev aI:=@List.length_cons
abbrev aJ:=@Prod.mk.injEq
abbrev aK:=@List.eq_nil_of_length_eq_zero
abbrev aL:=@List.length_map
abbrev aM:=@List.mem_singleton
abbrev aN:=@Nat.eq_of_beq_eq_true
abbrev aO:=@List.length_append
abbrev aP:=@List.getElem?_set_ne
abbrev aQ:=@List.mem_map
abbrev aR:=@List.length_nil
abbrev aS:=@List.getElem?_append_left
abbrev aT:=@Array.getD_eq_getD_getElem?
abbrev aU:=@List.pairwise_iff_getElem
abbrev aV:=@List.mem_range
abbrev aW:=@List.mem_filter
abbrev aX:=@List.mem_append
abbrev aY:=@List.getElem_mem
abbrev aZ:=@Option.some.inj
abbrev a7:=@Nat.zero_le
abbrev a8:=@Nat.lt_or_ge
abbrev ba:=@List.getElem?_replicate
abbrev bc:=@List.findIdx?_eq_some_iff_getElem
abbrev bf:=@Array.getElem?_append_left
abbrev bg:=@List.mem_cons
abbrev bh:=@Option.map_some
abbrev bi:=@Array.getElem?_setIfInBounds_ne
abbrev bj:=@List.getElem?_range
abbrev bl:=@Int.toNat_of_nonneg
abbrev bm:=@Option.isSome_iff_exists
abbrev bp:=@Bool.false_eq_true
abbrev bq:=@List.getElem?_cons_succ
abbrev br:=@List.map_append
abbrev bt:=@Array.getElem?_append_right
abbrev bu:=@List.mem_filterMap
abbrev bv:=@List.pairwise_cons
abbrev bw:=@List.eq_nil_iff_forall_not_mem
abbrev bx:=@Nat.add_assoc
abbrev bz:=@Nat.zero_add
abbrev bB:=@Array.getElem?_eq_none
abbrev bC:=@List.take_length
abbrev bD:=@List.any_eq_true
abbrev bE:=@List.length_singleton
abbrev bF:=@List.getElem?_eq_none
abbrev bG:=@Bool.not_true
abbrev bH:=@Bool.true_and
abbrev bI:=@Nat.succ_mul
abbrev bJ:=@Bool.or_eq_true
abbrev bK:=@Nat.add_mul
abbrev bL:=@Classical.byContradiction
abbrev bM:=@List.map_congr_left
abbrev bN:=@Array.getElem?_replicate
abbrev bO:=@List.length_filterMap_le
abbrev bP:=@Array.getElem?_toList
abbrev bQ:=@Array.getElem?_modify
abbrev bR:=@List.take_add_one
abbrev bS:=@List.ext_getElem?
abbrev bT:=@Nat.beq_refl
abbrev bU:=@List.length_drop
abbrev bV:=@List.length_take
abbrev bW:=@List.mem_flatMap
abbrev bX:=@Bool.false_or
abbrev bY:=@List.getElem?_of_mem
abbrev bZ:=@List.pairwise_append
abbrev b6:=@List.length_range
abbrev b7:=@List.length_set
abbrev b9:=@Array.size_push
abbrev ca:=@List.getElem?_set_self
abbrev cb:=@List.exists_cons_of_ne_nil
abbrev cd:=@Array.all_eq_true_iff_forall_mem
abbrev ce:=@Option.toList_some
abbrev cg:=@Nat.div_lt_iff_lt_mul
abbrev ci:=@Array.ext_getElem?
abbrev cj:=@List.append_nil
abbrev cm:=@Nat.min_eq_left
abbrev cn:=@Function.comp_def
abbrev co:=@List.append_assoc
abbrev cu:=@Nat.lt_irrefl
abbrev cw:=@List.getElem_set
abbrev cy:=@Array.getElem?_setIfInBounds
abbrev cz:=@Array.getElem?_push_lt
abbrev cA:=@Nat.eq_zero_or_pos
abbrev cB:=@List.getElem?_drop
abbrev cC:=@List.getElem?_take
abbrev cD:=@Iff.rfl
abbrev cE:=@List.length_filter_le
abbrev cF:=@List.take_append_drop
abbrev cG:=@List.all_cons
abbrev cH:=@Bool.not_eq_true'
abbrev cI:=@Array.mapM_eq_mapM_toList
abbrev cJ:=@List.findIdx?_eq_none_iff
abbrev cK:=@List.mem_append_left
abbrev cL:=@List.not_mem_nil
abbrev cM:=@Nat.testBit_two_pow
abbrev cN:=@List.mergeSort_perm
abbrev cO:=@List.length_pos_iff
abbrev cP:=@List.getElem?_cons_zero
abbrev cQ:=@List.pairwise_singleton
abbrev cR:=@List.length_eq_zero_iff
abbrev cS:=@List.cons.inj
abbrev cT:=@Bool.eq_iff_iff
abbrev cU:=@Nat.le_succ
abbrev cV:=@Array.getElem?_extract
abbrev cW:=@Nat.lt_trichotomy
abbrev cX:=@Subsingleton.elim
abbrev cY:=@Nat.mul_comm
abbrev cZ:=@Option.getD_some
abbrev c7:=@Nat.lt_succ_self
abbrev c8:=@Ne.symm
abbrev c9:=@Nat.add_sub_cancel'
abbrev da:=@Option.isNone_iff_eq_none
abbrev de:=@List.foldl_cons
abbrev df:=@List.map_set
abbrev dg:=@Array.any_eq_true'
abbrev dh:=@List.map_map
abbrev dj:=@Nat.testBit_or
abbrev dp:=@List.pairwise_mergeSort
abbrev dq:=@Array.getElem?_setIfInBounds_self
abbrev dr:=@List.map_id
abbrev dt:=@List.filter_eq_nil_iff
abbrev du:=@List.drop_eq_nil_of_le
abbrev dw:=@List.cons_append
abbrev dx:=@Nat.le_add_right
abbrev dy:=@List.length_replicate
abbrev dz:=@Classical.choose_spec
abbrev dA:=@List.mem_append_right
abbrev dB:=@Nat.not_lt_zero
abbrev dC:=@List.nil_append
abbrev dD:=@Int.le_trans
abbrev dE:=@List.mem_of_mem_take
abbrev dF:=@Int.not_lt
abbrev dG:=@List.range_succ
abbrev dH:=@Array.count_eq_zero
abbrev dI:=@Bool.not_false
abbrev dJ:=@Nat.sub_mul
abbrev dK:=@Int.le_refl
abbrev dL:=@Nat.mul_one
abbrev dM:=@Nat.or_zero
abbrev dN:=@List.filter_append
abbrev dO:=@Int.natCast_nonneg
end Go.Ve
namespace Go.Ve
structure Arc where
 a:Nat
 b:Nat
 c:Nat
inductive zAe(E:List Arc)(s:Nat):List Nat->Nat->Prop
 |nil:zAe E s [s] 0
 |snoc {y:Nat} {l:List Nat} {c:Nat} (e:Arc):zAe E s (y::l) c->e∈E->e.a=y->zAe E s (e.b::y::l) (c+e.c)
variable {E:List Arc}{s:Nat}
variable {l:List Nat}{g i:Nat}
theorem zAe.back{d:List Nat}(h:zAe E s (l++g::d) i):∃f,f<=i/\zAe E s (g::d) f:=by
 induction l generalizing i with
 |nil=>grind
 |cons y l c=>
  generalize x:y::l++g::d=a at h
  cases h with
  |nil=>simp at x
  |snoc e j k m=>
   grind
theorem zAe.short(h:zAe E s (g::l) i):∃a d,zAe E s (g::a) d/\d<=i/\(g::a).Nodup:=by
 generalize f:g::l=k at h
 induction h generalizing g l with
 |nil=>
  obtain⟨rfl,rfl⟩:=cS f;exact⟨[],0,.nil,aj _,by simp⟩
 | @snoc y p q e r c j m=>
  obtain⟨rfl,rfl⟩:=cS f;obtain⟨a,d,i1,i2,i3⟩:=m rfl;by_cases t:e.b∈y::a
  .obtain⟨u,x,n⟩:=List.append_of_mem t;rw[n]at i1 i3;obtain⟨z,A,B⟩:=i1.back
   grind
  .exact⟨y::a,d+e.c,.snoc e i1 c j,by omega,List.nodup_cons.2 ⟨t,i3⟩⟩
theorem zZD:∀(n:Nat) (l:List Nat),(∀x,x∈l->x<n)->l.Nodup->l.length<=n
 |0,[],_,_=>aj _
 |0,x::_,h,_=>absurd (h x (by simp)) (dB _)
 |n+1,l,h,a=>by
  by_cases e:n∈l
  .have c:=zZD n (l.erase n) (fun x d=>by
    grind) (a.erase n)
   grind
  .have c:=zZD n l (fun x d=>by
    grind) a
   omega
theorem zAe.lt(hE:∀e,e∈E->e.b<g)(a:s<g)(h:zAe E s l i):∀x,x∈l->x<g:=by
 induction h with
 |nil=>grind
 |snoc e d f n c=>
  grind
def Dst(E:List Arc)(n s:Nat)(d:List Int):Prop:=
 d.length=n/\∀t,t<n->(d.getD t 0= -1/\∀l c,¬zAe E s (t::l) c)\/∃k:Nat,d.getD t 0=(k:Int)/\(∃l,zAe E s (t::l) k)/\∀l c,zAe E s (t::l) c->k<=c
def zQE(E:List Arc)(s:Nat)(d:List Int):Prop:= ∀t,t<d.length->d.getD t 0= -1\/∃(k:Nat) (l:List Nat),d.getD t 0=(k:Int)/\zAe E s (t::l) k
variable {j:List Int}
theorem qHu(x:∀e,e∈E->e.b<g)(y:s<g)(n:j.length=g)(h:zQE E s j)(z:∀t l c,zAe E s (t::l) c->(t::l).Nodup->0<=j.getD t 0/\j.getD t 0<=c):Dst E g s j:=by
 refine⟨n,fun t i=>?_⟩;rcases h t (n▸i)with a|⟨k,l,a,d⟩
 .refine .inl ⟨a,fun l c f=>?_⟩;obtain⟨m,p,q,r,u⟩:=f.short
  grind
 .refine .inr ⟨k,a,⟨l,d⟩,fun l c f=>?_⟩;obtain⟨m,p,q,r,u⟩:=f.short
  grind
def relax(e:Arc)(d:List Int):List Int:=
 if 0<=d.getD e.a 0/\(d.getD e.b 0<0\/d.getD e.a 0+e.c<d.getD e.b 0)then d.set e.b (d.getD e.a 0+e.c)else d
theorem zBI(e:Arc)(d:List Int):(relax e d).length=d.length:=by
 grind[relax]
theorem zK8(d:List Int)(i j:Nat)(v:Int)(a:j<d.length):(d.set i v).getD j 0=if i=j then v else d.getD j 0:=by
 grind
theorem zQE.relax{e:Arc}{d:List Int}(i:e∈E)(ha:e.a<d.length)(h:zQE E s d):zQE E s (relax e d):=by
 intro t f;rw[zBI]at f;unfold Go.Ve.relax;split
 .rename_i m;rw[zK8 d _ _ _ f];split
  .rename_i hb;rcases h e.a ha with g|⟨k,l,g,j⟩
   .omega
   .refine .inr ⟨k+e.c,e.a::l,by rw[g];simp,?_⟩;rw[<-hb];exact .snoc e j i rfl
  .exact h t f
 .exact h t f
def Low(d a:List Int):Prop:=a.length=d.length/\∀t,t<d.length->0<=d.getD t 0->0<=a.getD t 0/\a.getD t 0<=d.getD t 0
theorem Low.refl(d:List Int):Low d d:=⟨rfl,fun _ _ h=>⟨h,dK _⟩⟩
theorem Low.trans{d e c:List Int}(h:Low d e)(k:Low e c):Low d c:=
 ⟨k.1.trans h.1,fun t f g=>by
  obtain⟨a,b⟩:=h.2 t f g;obtain⟨i,j⟩:=k.2 t (h.1▸f) a
  omega⟩
theorem zUv(e:Arc)(d:List Int):Low d (relax e d):=by
 refine⟨zBI e d,fun t a c=>?_⟩;unfold relax
 grind
theorem qDN(e:Arc)(d:List Int)(f:e.b<d.length)(g:0<=d.getD e.a 0):0<=(relax e d).getD e.b 0/\(relax e d).getD e.b 0<=d.getD e.a 0+e.c:=by
 unfold relax
 grind
def roundL:List Arc->List Int->List Int
 |[],d=>d
 |e::r,d=>roundL r (relax e d)
theorem zGe:∀(l:List Arc) (d:List Int),Low d (roundL l d)
 |[],d=>.refl d
 |e::r,d=>(zUv e d).trans (zGe r _)
theorem zNH{n:Nat}:∀(l:List Arc) (d:List Int),(∀e,e∈l->e∈E/\e.a<n)->d.length=n->zQE E s d->zQE E s (roundL l d)
 |[],d,_,_,h=>h
 |e::r,d,c,f,h=>by obtain⟨g,i⟩:=c e (by simp);exact zNH r _ (fun x j=>c x (aw _ j)) ((zBI e d).trans f) (h.relax g (f▸i))
def qAP(E:List Arc)(s k:Nat)(d:List Int):Prop:= ∀t l c,zAe E s (t::l) c->l.length<=k->0<=d.getD t 0/\d.getD t 0<=c
theorem zO8{n:Nat}:∀(l:List Arc) (d:List Int),(∀e,e∈l->e.a<n/\e.b<n)->d.length=n->∀e,e∈l->0<=d.getD e.a 0->0<=(roundL l d).getD e.b 0/\(roundL l d).getD e.b 0<=d.getD e.a 0+e.c
 |h::r,d,k,i,e,f,m=>by
  obtain⟨p,q⟩:=k e f;rcases bg.1 f with rfl|f
  .have g:=qDN e d (i▸q) m;have j:=(zGe r (relax e d)).2 e.b (by grind[zBI]) g.1;exact⟨j.1,dD j.2 g.2⟩
  .have g:=(zUv h d).2 e.a (i▸p) m;have j:=zO8 r (relax h d) (fun x t=>k x (aw _ t)) ((zBI h d).trans i) e f g.1
   grind[roundL,relax]
theorem qAP.round(hE:∀e,e∈E->e.a<g/\e.b<g)(d:s<g)(f:j.length=g)(h:qAP E s i j):qAP E s (i+1) (roundL E j):=by
 intro t l c n p;generalize k:t::l=m at n
 cases n with
 |nil=>
  obtain⟨rfl,rfl⟩:=cS k;obtain⟨a,b⟩:=h t [] 0 .nil (a7 _);obtain⟨q,r⟩:=(zGe E j).2 t (f▸d) a;exact⟨q,dD r b⟩
 | @snoc y u x e z A B=>obtain⟨rfl,rfl⟩:=cS k;subst B;obtain⟨a,b⟩:=h _ u x z (by simp at p;omega);have:=zO8 E j hE f e A a;exact⟨this.1,by omega⟩
theorem qAt(i:∀e,e∈E->e.b<g)(d:s<g)(k:j.length=g)(h:zQE E s j)(p:j.getD s 0=0)(q:∀e,e∈E->0<=j.getD e.a 0->0<=j.getD e.b 0/\j.getD e.b 0<=j.getD e.a 0+e.c):Dst E g s j:=by
 refine qHu i d k h (fun t l c n f=>?_);clear f;generalize r:t::l=m at n;clear h
 induction n generalizing t l with
 |nil=>grind
 | @snoc y u x e z A B C=>
  grind
end Go.Ve

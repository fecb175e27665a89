/- law16 -/
set_option linter.unusedVariables false
namespace Go.Ve
abbrev aa:=@List.getElem?_eq_some_iff
abbrev ac:=@Option.some.injEq
abbrev ae:=@List.mem_of_getElem?
abbrev af:=@Option.bind_some
abbrev ah:=@List.getElem?_eq_getElem
abbrev ai:=@Nat.le_refl
abbrev aj:=@Nat.le_trans
abbrev ak:=@Option.map_eq_some_iff
abbrev am:=@Bool.and_eq_true
abbrev aq:=@Nat.mul_le_mul_right
abbrev ar:=@Array.getElem?_eq_some_iff
abbrev au:=@List.all_eq_true
abbrev aw:=@List.mem_cons_of_mem
abbrev az:=@Nat.lt_of_lt_of_le
abbrev aA:=@List.getElem?_map
abbrev aB:=@Int.toNat_natCast
abbrev aC:=@List.getElem_of_mem
abbrev aD:=@Array.getElem?_eq_getElem
abbrev aF:=@List.getElem?_append_right
abbrev aG:=@Option.bind_eq_some_iff
abbrev aH:=@List.length_cons
abbrev aI:=@Prod.mk.injEq
abbrev aJ:=@List.eq_nil_of_length_eq_zero
abbrev aK:=@List.length_map
abbrev aL:=@Nat.eq_of_beq_eq_true
abbrev aM:=@List.mem_singleton
abbrev aN:=@List.length_append
abbrev aO:=@List.mem_map
abbrev aP:=@List.length_nil
abbrev aS:=@List.getElem?_set_ne
abbrev aT:=@List.getElem?_append_left
abbrev aU:=@List.mem_filter
abbrev aV:=@List.mem_range
abbrev aW:=@Nat.zero_le
abbrev aX:=@Option.some.inj
abbrev aY:=@List.pairwise_iff_getElem
abbrev aZ:=@List.getElem_mem
abbrev a7:=@List.mem_append
abbrev a8:=@Nat.lt_or_ge
abbrev ba:=@List.getD_eq_getElem?_getD
abbrev bc:=@List.getElem?_replicate
abbrev bf:=@Array.getD_eq_getD_getElem?
abbrev bg:=@List.findIdx?_eq_some_iff_getElem
abbrev bh:=@Array.getElem?_append_left
abbrev bi:=@List.mem_cons
abbrev bj:=@List.getElem?_range
abbrev bl:=@Int.toNat_of_nonneg
abbrev bm:=@Option.isSome_iff_exists
abbrev bp:=@List.getElem?_cons_succ
abbrev bq:=@List.any_eq_true
abbrev br:=@List.mem_filterMap
abbrev bt:=@List.pairwise_cons
abbrev bu:=@Array.getElem?_append_right
abbrev bv:=@Option.map_some
abbrev bw:=@List.map_append
abbrev bx:=@Nat.add_assoc
abbrev bz:=@Nat.zero_add
abbrev bB:=@List.getElem?_eq_none
abbrev bC:=@Array.getElem?_setIfInBounds_ne
abbrev bD:=@List.eq_nil_iff_forall_not_mem
abbrev bE:=@Nat.succ_mul
abbrev bF:=@Nat.add_mul
abbrev bG:=@Classical.byContradiction
abbrev bH:=@List.map_congr_left
abbrev bI:=@Bool.not_true
abbrev bJ:=@Array.getElem?_replicate
abbrev bK:=@Array.getElem?_modify
abbrev bL:=@List.length_singleton
abbrev bM:=@List.length_filterMap_le
abbrev bN:=@Array.getElem?_toList
abbrev bO:=@Bool.or_eq_true
abbrev bP:=@Bool.false_eq_true
abbrev bQ:=@List.getElem?_of_mem
abbrev bR:=@Bool.true_and
abbrev bS:=@List.take_add_one
abbrev bT:=@List.ext_getElem?
abbrev bU:=@List.take_length
abbrev bV:=@List.mem_flatMap
abbrev bW:=@List.length_drop
abbrev bX:=@List.length_take
abbrev bY:=@Bool.false_or
abbrev bZ:=@List.cons.inj
abbrev b7:=@List.pairwise_append
abbrev b9:=@List.length_range
abbrev ca:=@Array.size_push
abbrev cb:=@List.length_set
abbrev cd:=@Nat.not_lt_zero
abbrev ce:=@List.getElem?_set_self
abbrev cg:=@Int.le_trans
abbrev ci:=@Nat.beq_refl
abbrev cj:=@Array.all_eq_true_iff_forall_mem
abbrev cm:=@Option.toList_some
abbrev cn:=@Nat.div_lt_iff_lt_mul
abbrev co:=@Array.ext_getElem?
abbrev cu:=@Nat.min_eq_left
abbrev cw:=@List.append_nil
abbrev cy:=@Function.comp_def
abbrev cz:=@List.append_assoc
abbrev cA:=@Nat.lt_irrefl
abbrev cB:=@List.getElem_set
abbrev cC:=@Array.getElem?_setIfInBounds
abbrev cD:=@Array.getElem?_eq_none
abbrev cE:=@Array.getElem?_push_lt
abbrev cF:=@Nat.eq_zero_or_pos
abbrev cG:=@List.getElem?_take
abbrev cH:=@List.getElem?_drop
abbrev cI:=@Iff.rfl
abbrev cJ:=@List.take_append_drop
abbrev cK:=@List.length_replicate
abbrev cL:=@List.length_filter_le
abbrev cM:=@Bool.not_eq_true'
abbrev cN:=@List.findIdx?_eq_none_iff
abbrev cO:=@List.mem_append_left
abbrev cP:=@Array.mapM_eq_mapM_toList
abbrev cQ:=@List.not_mem_nil
abbrev cR:=@List.mergeSort_perm
abbrev cS:=@List.length_eq_zero_iff
abbrev cT:=@List.pairwise_singleton
abbrev cU:=@List.all_cons
abbrev cV:=@Array.getElem?_extract
abbrev cW:=@Nat.le_succ
abbrev cX:=@Int.le_refl
abbrev cY:=@Subsingleton.elim
abbrev cZ:=@Nat.mul_comm
abbrev c7:=@Nat.lt_succ_self
abbrev c8:=@List.exists_cons_of_ne_nil
abbrev c9:=@Ne.symm
abbrev da:=@Nat.add_sub_cancel'
abbrev de:=@List.length_pos_iff
abbrev df:=@Bool.eq_iff_iff
abbrev dg:=@Option.isNone_iff_eq_none
abbrev dh:=@Array.any_eq_true'
abbrev dj:=@List.map_set
abbrev dp:=@List.pairwise_mergeSort
abbrev dq:=@List.getElem?_cons_zero
abbrev dr:=@Nat.lt_trichotomy
abbrev dt:=@List.map_id
abbrev du:=@Array.getElem?_setIfInBounds_self
abbrev dw:=@List.drop_eq_nil_of_le
abbrev dx:=@List.filter_eq_nil_iff
abbrev dy:=@Option.getD_some
abbrev dz:=@List.cons_append
abbrev dA:=@Nat.le_add_right
abbrev dB:=@List.mem_append_right
abbrev dC:=@Classical.choose_spec
abbrev dD:=@List.map_map
abbrev dE:=@List.mem_of_mem_take
abbrev dF:=@List.foldl_cons
abbrev dG:=@List.range_succ
abbrev dH:=@List.nil_append
abbrev dI:=@Array.count_eq_zero
abbrev dJ:=@Nat.mul_one
abbrev dK:=@Nat.or_zero
abbrev dL:=@Nat.sub_mul
abbrev dM:=@List.filter_append
end Go.Ve
namespace Go.Ve
structure Arc where
 a:Nat
 b:Nat
 c:Nat
inductive yK(E:List Arc)(s:Nat):List Nat->Nat->Prop
 |nil:yK E s [s] 0
 |snoc {y:Nat} {l:List Nat} {c:Nat} (e:Arc):yK E s (y::l) c->e∈E->e.a=y->yK E s (e.b::y::l) (c+e.c)
variable {E:List Arc}{s:Nat}
variable {j:List Nat}{g:Nat}
theorem yK.back{d:List Nat}{c:Nat}(h:yK E s (j++g::d) c):∃f,f<=c/\yK E s (g::d) f:=by
 induction j generalizing c with
 |nil=>grind
 |cons y j i=>
  generalize x:y::j++g::d=l at h
  cases h with
  |nil=>simp at x
  |snoc e a k m=>
   grind
theorem yK.short{c:Nat}(h:yK E s (g::j) c):∃a d,yK E s (g::a) d/\d<=c/\(g::a).Nodup:=by
 generalize f:g::j=k at h
 induction h generalizing g j with
 |nil=>
  obtain⟨rfl,rfl⟩:=bZ f;exact⟨[],0,.nil,ai _,by simp⟩
 | @snoc y p q e r i l m=>
  obtain⟨rfl,rfl⟩:=bZ f;obtain⟨a,d,i1,i2,i3⟩:=m rfl;by_cases t:e.b∈y::a
  .obtain⟨u,x,n⟩:=List.append_of_mem t;rw[n]at i1 i3;obtain⟨z,A,B⟩:=i1.back
   grind
  .exact⟨y::a,d+e.c,.snoc e i1 i l,by omega,List.nodup_cons.2 ⟨t,i3⟩⟩
theorem zVa:∀(n:Nat) (l:List Nat),(∀x,x∈l->x<n)->l.Nodup->l.length<=n
 |0,[],_,_=>ai _
 |0,x::_,h,_=>absurd (h x (by simp)) (cd _)
 |n+1,l,h,a=>by
  by_cases e:n∈l
  .have c:=zVa n (l.erase n) (fun x d=>by
    grind) (a.erase n)
   grind
  .have c:=zVa n l (fun x d=>by
    grind) a
   omega
theorem yK.lt{n:Nat}(hE:∀e,e∈E->e.b<n)(a:s<n)(h:yK E s j g):∀x,x∈j->x<n:=by
 induction h with
 |nil=>grind
 |snoc e d f l i=>
  grind
def Dst(E:List Arc)(n s:Nat)(d:List Int):Prop:=
 d.length=n/\∀t,t<n->(d.getD t 0= -1/\∀l c,¬yK E s (t::l) c)\/∃k:Nat,d.getD t 0=(k:Int)/\(∃l,yK E s (t::l) k)/\∀l c,yK E s (t::l) c->k<=c
def zP6(E:List Arc)(s:Nat)(d:List Int):Prop:= ∀t,t<d.length->d.getD t 0= -1\/∃(k:Nat) (l:List Nat),d.getD t 0=(k:Int)/\yK E s (t::l) k
variable {i:List Int}
theorem qGR(x:∀e,e∈E->e.b<g)(y:s<g)(n:i.length=g)(h:zP6 E s i)(z:∀t l c,yK E s (t::l) c->(t::l).Nodup->0<=i.getD t 0/\i.getD t 0<=c):Dst E g s i:=by
 refine⟨n,fun t d=>?_⟩;rcases h t (n▸d)with a|⟨k,l,a,j⟩
 .refine .inl ⟨a,fun l c f=>?_⟩;obtain⟨m,p,q,r,u⟩:=f.short
  grind
 .refine .inr ⟨k,a,⟨l,j⟩,fun l c f=>?_⟩;obtain⟨m,p,q,r,u⟩:=f.short
  grind
def relax(e:Arc)(d:List Int):List Int:=
 if 0<=d.getD e.a 0/\(d.getD e.b 0<0\/d.getD e.a 0+e.c<d.getD e.b 0)then d.set e.b (d.getD e.a 0+e.c)else d
theorem zBC(e:Arc)(d:List Int):(relax e d).length=d.length:=by
 grind[relax]
theorem zKK(d:List Int)(i j:Nat)(v:Int)(a:j<d.length):(d.set i v).getD j 0=if i=j then v else d.getD j 0:=by
 grind
theorem zP6.relax{e:Arc}{d:List Int}(i:e∈E)(ha:e.a<d.length)(h:zP6 E s d):zP6 E s (relax e d):=by
 intro t f;rw[zBC]at f;unfold Go.Ve.relax;split
 .rename_i m;rw[zKK d _ _ _ f];split
  .rename_i hb;rcases h e.a ha with g|⟨k,l,g,j⟩
   .omega
   .refine .inr ⟨k+e.c,e.a::l,by rw[g];simp,?_⟩;rw[<-hb];exact .snoc e j i rfl
  .exact h t f
 .exact h t f
def Low(d a:List Int):Prop:=a.length=d.length/\∀t,t<d.length->0<=d.getD t 0->0<=a.getD t 0/\a.getD t 0<=d.getD t 0
theorem Low.refl(d:List Int):Low d d:=⟨rfl,fun _ _ h=>⟨h,cX _⟩⟩
theorem Low.trans{d e c:List Int}(h:Low d e)(k:Low e c):Low d c:=
 ⟨k.1.trans h.1,fun t f g=>by
  obtain⟨a,b⟩:=h.2 t f g;obtain⟨i,j⟩:=k.2 t (h.1▸f) a
  omega⟩
theorem zTS(e:Arc)(d:List Int):Low d (relax e d):=by
 refine⟨zBC e d,fun t a c=>?_⟩;unfold relax
 grind
theorem qDb(e:Arc)(d:List Int)(f:e.b<d.length)(g:0<=d.getD e.a 0):0<=(relax e d).getD e.b 0/\(relax e d).getD e.b 0<=d.getD e.a 0+e.c:=by
 unfold relax
 grind
def roundL:List Arc->List Int->List Int
 |[],d=>d
 |e::r,d=>roundL r (relax e d)
theorem zF0:∀(l:List Arc) (d:List Int),Low d (roundL l d)
 |[],d=>.refl d
 |e::r,d=>(zTS e d).trans (zF0 r _)
theorem zNg{n:Nat}:∀(l:List Arc) (d:List Int),(∀e,e∈l->e∈E/\e.a<n)->d.length=n->zP6 E s d->zP6 E s (roundL l d)
 |[],d,_,_,h=>h
 |e::r,d,c,f,h=>by obtain⟨g,i⟩:=c e (by simp);exact zNg r _ (fun x j=>c x (aw _ j)) ((zBC e d).trans f) (h.relax g (f▸i))
def qAc(E:List Arc)(s k:Nat)(d:List Int):Prop:= ∀t l c,yK E s (t::l) c->l.length<=k->0<=d.getD t 0/\d.getD t 0<=c
theorem zOE{n:Nat}:∀(l:List Arc) (d:List Int),(∀e,e∈l->e.a<n/\e.b<n)->d.length=n->∀e,e∈l->0<=d.getD e.a 0->0<=(roundL l d).getD e.b 0/\(roundL l d).getD e.b 0<=d.getD e.a 0+e.c
 |h::r,d,k,i,e,f,m=>by
  obtain⟨p,q⟩:=k e f;rcases bi.1 f with rfl|f
  .have g:=qDb e d (i▸q) m;have j:=(zF0 r (relax e d)).2 e.b (by grind[zBC]) g.1;exact⟨j.1,cg j.2 g.2⟩
  .have g:=(zTS h d).2 e.a (i▸p) m;have j:=zOE r (relax h d) (fun x t=>k x (aw _ t)) ((zBC h d).trans i) e f g.1
   grind[roundL,relax]
theorem qAc.round{k:Nat}(hE:∀e,e∈E->e.a<g/\e.b<g)(j:s<g)(f:i.length=g)(h:qAc E s k i):qAc E s (k+1) (roundL E i):=by
 intro t l c n p;generalize d:t::l=m at n
 cases n with
 |nil=>
  obtain⟨rfl,rfl⟩:=bZ d;obtain⟨a,b⟩:=h t [] 0 .nil (aW _);obtain⟨q,r⟩:=(zF0 E i).2 t (f▸j) a;exact⟨q,cg r b⟩
 | @snoc y u x e z A B=>obtain⟨rfl,rfl⟩:=bZ d;subst B;obtain⟨a,b⟩:=h _ u x z (by simp at p;omega);have:=zOE E i hE f e A a;exact⟨this.1,by omega⟩
theorem zZQ(d:∀e,e∈E->e.b<g)(j:s<g)(k:i.length=g)(h:zP6 E s i)(p:i.getD s 0=0)(q:∀e,e∈E->0<=i.getD e.a 0->0<=i.getD e.b 0/\i.getD e.b 0<=i.getD e.a 0+e.c):Dst E g s i:=by
 refine qGR d j k h (fun t l c n f=>?_);clear f;generalize r:t::l=m at n;clear h
 induction n generalizing t l with
 |nil=>grind
 | @snoc y u x e z A B C=>
  grind
end Go.Ve

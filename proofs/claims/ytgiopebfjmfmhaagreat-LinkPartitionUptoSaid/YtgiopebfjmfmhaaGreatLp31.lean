/- law16 -/
import Derived.Deep.DeepCutAuto
import Derived.Deep.CutBlock
import Derived.Test.YtgiopebfjmfmhaaGreatLp30
import Derived.Test.YtgiopebfjmfmhaaGreatLp23
import Derived.Test.YtgiopebfjmfmhaaGreatLp12
set_option linter.unusedVariables false
open Option renaming some->Sa,none->Sb
open Bool renaming true->Sc,false->Sd
open Go.Lib renaming hid->Aa
open Go.IntKind renaming i64->Ab,u32->Ah
open Go.Value renaming int->Ac,string->Ad,bool->Ae,slice->Ag,oneCell'->An
open And renaming intro->Af
open Go.Obj renaming cells->Ai
open Go.Proofs.Tryz renaming prog->Aj
open Go.World renaming frozen?->Ak,cell?->Al,news_of_block->Am
set_option maxRecDepth 1000000
set_option maxHeartbeats 4000000
namespace Go.Ve
open Go Go.Proofs Go.Shelf Go.RowKit
def ifc(x:Ty.El z6)(m:Nat):Value:=((z6.cells x)[m]?).elim undef (fun d=>d.leaf)
def VAt(w:World)(c:List (List (Ty.El z6)))(j:Value):Prop:=
 ∃d e k,j=.slice (Sa ⟨d,e,Sb⟩) c.length k/\∀r a,c[r]?=Sa a->∃f l,w.cell? ⟨d,e+r*25+2,Sb⟩=Sa (.slice f a.length l)/\
  (a≠[]->∃g h,f=Sa ⟨g,h,Sb⟩/\∀i x,a[i]?=Sa x->∀m,m<12->w.cell? ⟨g,h+i*12+m,Sb⟩=Sa (ifc x m))
variable {j P:Nat}{g:Value}
theorem zPJ{z:Program}{t:TypeId}(h:(z.info? t).map (fun i=>(i.zero,i.size,i.bytes))=Sa (Sa g,j,P)):∃i,z.info? t=Sa i/\i.zero=Sa g/\i.size=j/\i.bytes=P:=by
 cases c:z.info? t with
 |none=>rw[c]at h;cases h
 |some i=>rw[c]at h;simp only[bv,ac,aI]at h;exact⟨i,rfl,h.1,h.2.1,h.2.2⟩
theorem qFC:(Tryz.prog.info? 128).map (fun i=>(i.zero,i.size,i.bytes))=Sa (Sa (.pointer Sb),1,8):=by kernel_rfl
theorem qFB:(Tryz.prog.info? 177).map (fun i=>(i.zero,i.size,i.bytes))=Sa (Sa (.agg #[.int .i64 0,.int .u32 0,.int .i64 0,.int .i64 0]),4,32):=by kernel_rfl
theorem zYm(num:Int):Tryz.zeroCells175.setIfInBounds 0 (.int .i64 num)=uF num (.slice Sb 0 0) (.slice Sb 0 0) (fun _=>Sd) zGF:=by kernel_rfl
variable {i C:World}
theorem xM{a:Addr}(h:∀w,w<i.heap.size->C.heap[w]?=i.heap[w]?)(c:i.cell? a=Sa g):C.cell? a=Sa g:=by
 have hlt:a.block<i.heap.size:=by refine bG fun d=>?_;have:i.heap[a.block]?=none:=cD (Nat.le_of_not_lt d);simp[Al,this]at c
 rw[World.cell?_of_block (h _ hlt)];exact c
variable {I:List AR}{a1:Nat}{a5:Nat->Nat}{a0:Nat->Value}{J a3 a2 a6:Value}
theorem zA0.cell5(R:zA0 i C j P g J a3 a2 a1 I a6 a5 a0):C.cell? ⟨j,5,Sb⟩=Sa a6:=by rw[cell_of_row C j 5 _ _ _ R.hB];rfl
theorem zA0.froz5(R:zA0 i C j P g J a3 a2 a1 I a6 a5 a0){w:Nat}:C.frozen? ⟨j,w,Sb⟩=false:=by simp only[Ak,R.hB];simp
theorem zYl(S:List AR)(r:Nat)(num:Int)(a:Int×Int×Int×Int):(xA S r num a).length<=S.length+1:=by
 unfold xA;split
 .split
  .simp
  .omega
 .simp
theorem zOC(a:Nat->Bool)(c:Int->Int->Int×Int)(r:Nat)(S:List AR)(xs:List (Ty.El z6)):∀i,(wJ a c r S xs i).length<=S.length+i
 |0=>ai _
 |i+1=>by
  have h:=zOC a c r S xs i;simp only[wJ];split
  .split
   .have:=zYl (wJ a c r S xs i) r;exact aj (this _ _) (by omega)
   .omega
  .omega
theorem zOB(c:Nat->Nat->Bool)(d:Int->Int->Int×Int)(a:List (List (Ty.El z6)))(f:∀(r:Nat) (xs:List (Ty.El z6)),a[r]?=Sa xs->xs.length<=8):∀r,(qV c d a r).length<=8*r
 |0=>ai _
 |r+1=>by
  have h:=zOB c d a f r;have g:=zOC (c r) d r (qV c d a r) (a.getD r []) (a.getD r []).length
  have i:(a.getD r []).length<=8:=by
   cases e:a[r]? with
   |none=>simp[e]
   |some xs=>simpa[e]using f r xs e
  simp only[qV];omega
theorem zTx(h:∀a,a∈I->a.parts.length<=j)(r:Nat)(num:Int)(f:Int×Int×Int×Int):∀a,a∈xA I r num f->a.parts.length<=j+1:=by
 intro a d;unfold xA at d;split at d
 .split at d
  .rename_i b g;rcases List.mem_or_eq_of_mem_set d with e|rfl
   .have:=h a e;omega
   .have:=h b (ae g);simp;omega
  .have:=h a d;omega
 .rcases a7.1 d with e|e
  .have:=h a e;omega
  .rw[aM.1 e];simp
theorem zRt(f:Nat->Bool)(g:Int->Int->Int×Int)(r:Nat){S:List AR}{c:Nat}(h:∀a,a∈S->a.parts.length<=c)(xs:List (Ty.El z6)):∀i a,a∈wJ f g r S xs i->a.parts.length<=c+i
 |0,a,d=>h a d
 |i+1,a,d=>by
  have e:=zRt f g r h xs i;simp only[wJ]at d;split at d
  .split at d
   .exact zTx e _ _ _ a d
   .have:=e a d;omega
  .have:=e a d;omega
theorem zWK(d:Nat->Nat->Bool)(e:Int->Int->Int×Int)(c:List (List (Ty.El z6)))(h:∀(r:Nat) (xs:List (Ty.El z6)),c[r]?=Sa xs->xs.length<=8):∀r a,a∈qV d e c r->a.parts.length<=8*r
 |0,a,f=>by simp[qV]at f
 |r+1,a,f=>by
  have i:(c.getD r []).length<=8:=by
   cases g:c[r]? with
   |none=>simp[g]
   |some xs=>simpa[g]using h r xs g
  have:=zRt (d r) e r (zWK d e c h r) (c.getD r []) (c.getD r []).length a f;omega
theorem zWL(c:Nat->Nat->Bool)(d:Int->Int->Int×Int)(e:List (List (Ty.El z6)))(f:∀(r:Nat) (xs:List (Ty.El z6)),e[r]?=Sa xs->xs.length<=8)(r:Nat)(xs:List (Ty.El z6))(g:e[r]?=Sa xs)(i:Nat)(hi:i+1<=xs.length):
  ∀a,a∈wJ (c r) d r (qV c d e r) xs i->a.parts.length<=8*r+i:=
 zRt (c r) d r (zWK c d e f r) xs i
theorem qCc{num:Int}{m:Nat->Bool}(h:i.heap[j]?=Sa (.cells (uF num g J m a0) 175 (0,0)))(c:jW i C):C.cell? ⟨j,2,Sb⟩=Sa J:=by rw[World.cell?_of_block (a:=⟨j,2,Sb⟩) (c.heap j (qR h))];simp only[Al,h];exact wI (by omega)
theorem qCb{num:Int}{m:Nat->Bool}(h:i.heap[j]?=Sa (.cells (uF num g J m a0) 175 (0,0)))(c:jW i C):C.frozen? ⟨j,2,Sb⟩=false:=by rw[World.frozen?_of_block (a:=⟨j,2,Sb⟩) (c.heap j (qR h))];simp only[Ak,h];simp
theorem zVY(h:∀(i j:Nat) (a b:AR),I[i]?=Sa a->I[j]?=Sa b->a.num=b.num->i=j)(r:Nat)(num:Int)(t:Int×Int×Int×Int):
  ∀(i j:Nat) (a b:AR),(xA I r num t)[i]?=Sa a->(xA I r num t)[j]?=Sa b->a.num=b.num->i=j:=by
 intro i j a b f g l;unfold xA at f g
 cases d:zPo I num with
 |some k=>
  rw[d]at f g
  cases u:I[k]? with
  |none=>simp only[u]at f g;exact h i j a b f g l
  |some c=>
   simp only[u]at f g
   have m:∀(q:Nat) (x:AR),(I.set k ⟨c.num,c.parts++[t],fun q=>if q=r then Sc else c.mem q⟩)[q]?=Sa x->∃y,I[q]?=Sa y/\y.num=x.num:=by
    intro q x e;by_cases n:k=q
    .subst n;have B:=(aa.1 u).1;rw[ce B]at e;cases e;exact⟨c,u,rfl⟩
    .rw[aS n]at e;exact⟨x,e,rfl⟩
   obtain⟨E,C,F⟩:=m i a f;obtain⟨G,D,H⟩:=m j b g;exact h i j E G C D (by rw[F,H,l])
 |none=>
  rw[d]at f g;have p:∀(k:Nat) (c:AR),I[k]?=Sa c->c.num≠num:=by intro k c S;unfold zPo at d;rw[cN]at d;simpa using d c (ae S)
  have m:∀(q:Nat) (x:AR),(I++[(⟨num,[t],fun q=>if q=r then Sc else Sd⟩:AR)])[q]?=Sa x->(q<I.length/\I[q]?=Sa x)\/(q=I.length/\x.num=num):=by
   intro q x e;by_cases n:q<I.length
   .rw[aT n]at e;exact .inl ⟨n,e⟩
   .have B:=(aa.1 e).1;rw[aF (by omega)]at e;have J:q-I.length=0:=by simp at B;omega
    rw[J]at e;cases e;exact .inr ⟨by omega,rfl⟩
  rcases m i a f with⟨K,z⟩|⟨K,z⟩<;>rcases m j b g with⟨L,A⟩|⟨L,A⟩
  .exact h i j a b z A l
  .exact absurd (l.trans A) (p i a z)
  .exact absurd (l.symm.trans z) (p j b A)
  .omega
theorem zRu(c:Nat->Bool)(d:Int->Int->Int×Int)(r:Nat){S:List AR}(h:∀(i j:Nat) (a b:AR),S[i]?=Sa a->S[j]?=Sa b->a.num=b.num->i=j)(xs:List (Ty.El z6)):
  ∀q,∀(i j:Nat) (a b:AR),(wJ c d r S xs q)[i]?=Sa a->(wJ c d r S xs q)[j]?=Sa b->a.num=b.num->i=j
 |0=>h
 |q+1=>by
  have e:=zRu c d r h xs q;simp only[wJ];split
  .split
   .exact zVY e _ _ _
   .exact e
  .exact e
theorem zL3(c:Nat->Nat->Bool)(d:Int->Int->Int×Int)(e:List (List (Ty.El z6))):∀r,∀(i j:Nat) (a b:AR),(qV c d e r)[i]?=Sa a->(qV c d e r)[j]?=Sa b->a.num=b.num->i=j
 |0=>fun i j a b h=>by simp[qV]at h
 |r+1=>zRu (c r) d r (zL3 c d e r) _ _
def qA0(w:World)(c d f g:Value)(n:Nat)(S:List AR)(es:Int->List (Ty.El qD))(ds:Int->Nat->List Int)(a:Nat->Prop)(e:Ending)(w':World):Prop:=
 ∃(B h:Nat) (l:List Nat) (k:Value) (m:Nat->Nat) (p E:Nat->Value) (q:Nat->Prop),e=.returned (.pointer (Sa ⟨B,0,Sb⟩))/\l.Perm (List.range S.length)/\(l.Pairwise fun i j=>(S.getD i ⟨0,[],fun _=>Sd⟩).num< (S.getD j ⟨0,[],fun _=>Sd⟩).num)/\
  zLh w w' B h c d f g n (l.map fun i=>S.getD i ⟨0,[],fun _=>Sd⟩) k m p S.length es ds E a q
theorem qCS(w:World)(v0 v1 v2 v3:Value)(n:Nat)(rs:List (List (Ty.El z6)))(hn:n=min rs.length 8)(tp:Nat->Nat->Bool)(nt:Int->Int->Int×Int)(HV:Hid (VAt w rs v0))(H8:Hid (∀(r:Nat) (xs:List (Ty.El z6)),rs[r]?=Sa xs->xs.length<=8))
  (HTP:Hid (∀(wr:World) (r i:Nat) (xs:List (Ty.El z6)) (x:Ty.El z6),(∀k,k<w.heap.size->wr.heap[k]?=w.heap[k]?)->w.heap.size<=wr.heap.size->rs[r]?=Sa xs->xs[i]?=Sa x->Calls Aj 40 #[.agg #[v0,v1,v2,v3],.int .i64 r,.int .i64 i,.int .i64 (w7 x)] wr fun e w'=>e=.returned (.bool (tp r i))/\jW wr w'))
  (HNT:Hid (∀(wr:World) (a l:Int),Calls Aj 91 #[.int .u32 a,.int .i64 l] wr fun e w'=>e=.returned (.agg #[.int .u32 (nt a l).1,.int .i64 (nt a l).2])/\jW wr w')) (fr0:Nat->Prop) (hfr0:Hid (∀b,fr0 b->b<w.heap.size)) (es:Int->List (Ty.El qD)) (ds:Int->Nat->List Int)
  (HED:Hid (∀(wr:World) (fr:Nat->Prop) (num:Int),(∀k,k<w.heap.size->wr.heap[k]?=w.heap[k]?)->w.heap.size<=wr.heap.size->(∀b,fr0 b->fr b)->(∀b,fr b->b<wr.heap.size)->(∃a,a∈qV tp nt rs n/\a.num=num)->
   Calls Aj 12 #[.agg #[v0,v1,v2,v3],.int .i64 num] wr fun e w'=>∃(ev:Value) (fr':Nat->Prop),e=.returned ev/\jW wr w'/\(∀b,fr b->fr' b)/\(∀b,fr' b->(fr b\/wr.heap.size<=b)/\b<w'.heap.size)/\Rd w' (fb fr') ev (.tl qD (es num))))
  (HDS:Hid (∀(wr:World) (fr:Nat->Prop) (a:AR) (r:Nat) (ev:Value),r<n->a∈qV tp nt rs n->a.mem r=Sc->Rd wr (fb fr) ev (.tl qD (es a.num))->(∀b,fr b->b<wr.heap.size)->
   Calls Aj 26 #[.int .i64 n,ev,.int .i64 r] wr fun e w'=>∃b off cap,e=.returned (.slice (Sa ⟨b,off,Sb⟩) n cap)/\jW wr w'/\(fr b\/wr.heap.size<=b)/\∀q,q<n->w'.cell? ⟨b,off+q,Sb⟩=Sa (.int .i64 ((ds a.num r).getD q 0)))):
  Calls Aj 54 #[.agg #[v0,v1,v2,v3]] w (qA0 w v0 v1 v2 v3 n (qV tp nt rs n) es ds fr0):=by
 obtain⟨rb,ro,rc,rfl,hrs⟩:=HV.out;have HRS:=Aa hrs;clear hrs;obtain⟨i128,hi1,hi2,hi3,hi4⟩:=zPJ qFC;have I128:=Aa (Af hi1 (Af hi2 (Af hi3 hi4)));clear hi1 hi2 hi3 hi4;obtain⟨i177,hi1,hi2,hi3,hi4⟩:=zPJ qFB;have I177:=Aa (Af hi1 (Af hi2 (Af hi3 hi4)));clear hi1 hi2 hi3 hi4;have hmn:min ((rs.length:Nat):Int) 8=(n:Int):=by omega
 have hn8:n<=8:=by omega
 have hnl:n<=rs.length:=by omega
 have HNN:=Aa hn;clear hn
 go_enter Tryz.func54,Tryz.ntmps54
 go_wp2_with fail
 have R0:Hid (∀W:World,W=((w.alloc (Ai #[Ag (Sa ⟨rb,ro,Sb⟩) rs.length rc,v1,v2,v3] 30)).alloc (Ai #[Ag (Sa ⟨rb,ro,Sb⟩) rs.length rc,v1,v2,v3,Ac Ab n,Ag Sb 0 0] 171))->
   zA0 w W (w.heap.size+1) w.heap.size (.slice (Sa ⟨rb,ro,Sb⟩) rs.length rc) v1 v2 v3 n [] (.slice Sb 0 0) (fun _=>0) (fun _=>.slice Sb 0 0)):=Aa (by
  rintro W rfl;have hsz:∀(u:World) (o:Obj),(u.alloc o).heap.size=u.heap.size+1:=fun u o=>by show(u.heap.push o).size=_;simp
  have hnew:∀(u:World) (o:Obj),(u.alloc o).heap[u.heap.size]?=Sa o:=fun u o=>by show(u.heap.push o)[u.heap.size]?=_;simp
  have hold:∀(u:World) (o:Obj) (i:Nat),i<u.heap.size->(u.alloc o).heap[i]?=u.heap[i]? :=fun u o i hi=>by show(u.heap.push o)[i]?=_;rw[cE hi];exact(aD hi).symm
  refine⟨?_,(hold _ _ _ (by rw[hsz];omega)).trans (hnew _ _),World.ownsRow_nil _ _ _ _,fun j a hj=>by simp at hj,fun j a hj=>by simp at hj,fun i j hi=>by simp at hi,fun i j g hi=>by simp at hi,by omega,ai _,
   fun i hi=>(hold _ _ _ (by rw[hsz];omega)).trans (hold _ _ _ hi),by rw[hsz,hsz];omega,rfl,rfl,rfl,ai _⟩
  have:=hnew (w.alloc (Ai #[Ag (Sa ⟨rb,ro,Sb⟩) rs.length rc,v1,v2,v3] 30)) (Ai #[Ag (Sa ⟨rb,ro,Sb⟩) rs.length rc,v1,v2,v3,Ac Ab n,Ag Sb 0 0] 171);rw[hsz]at this
  exact this)
 generalize ((w.alloc (Ai #[Ag (Sa ⟨rb,ro,Sb⟩) rs.length rc,v1,v2,v3] 30)).alloc (Ai #[Ag (Sa ⟨rb,ro,Sb⟩) rs.length rc,v1,v2,v3,Ac Ab n,Ag Sb 0 0] 171))=W0 at*
 have R1:=Aa (R0.out W0 rfl);clear R0;generalize hB:w.heap.size+1=B at R1 ⊢;generalize hN:w.heap.size=N at R1 hB ⊢;have HN:=Aa hN;have HB:=Aa hB;clear hN hB
 go_loopg [22] n (fun g s22 wr=>∃r:Nat,s22=.int .i64 r/\r<=n/\n-r<=g/\∃av bs pv,Hid (zA0 w wr B N (.slice (Sa ⟨rb,ro,Sb⟩) rs.length rc) v1 v2 v3 n (qV tp nt rs r) av bs pv))
 case atStart=>exact⟨0,rfl,by omega,by omega,_,_,_,R1⟩
 case round=>
  obtain⟨r,rfl,hr,hg,av,bs,pv,R⟩:=hrel;by_cases hlt:r<n
  .have hrl:r<rs.length:=by omega
   obtain⟨xs,hxs⟩:∃xs,rs[r]?=Sa xs:=⟨rs[r],by simp[hrl]⟩
   obtain⟨ia,ic,hiv,hxc⟩:=HRS.out r xs hxs;have c0:wr.cell? ⟨N,0,Sb⟩=Sa (.slice (Sa ⟨rb,ro,Sb⟩) rs.length rc):=by rw[cell_of_row wr N 0 _ _ _ R.out.hV];rfl
   have hx8:xs.length<=8:=H8.out r xs hxs;by_cases hxe:xs=[]
   .subst hxe;have c1:wr.cell? ⟨rb,ro+r*25+2,Sb⟩=Sa (.slice ia 0 ic):=xM R.out.heap hiv;have HSC:Hid (qV tp nt rs (r+1)=qV tp nt rs r):=Aa (by simp only[qV];rw[show rs.getD r []=[]from by simp[hxs]];rfl);have HLT0:Hid (r+1<=n):=Aa hlt;clear hxs hxc hiv
    go_wp2_with fail
    go_loopg [33] 1 (fun g s33 wx=>s33=.int .i64 0/\wx=wr)
    case atStart=>exact⟨rfl,rfl⟩
    case round=>
     obtain⟨rfl,rfl⟩:=hrel
     go_wp2_with fail
     go_roundg (n- (r+1))
     case measure=>(have:=HLT0.out;omega)
     case rel=>exact⟨r+1,by go_num,HLT0.out,ai _,av,bs,pv,by rw[HSC.out];exact R⟩
   obtain⟨ib,io,rfl,hxd⟩:=hxc hxe;have c1:wr.cell? ⟨rb,ro+r*25+2,Sb⟩=Sa (.slice (Sa ⟨ib,io,Sb⟩) xs.length ic):=xM R.out.heap hiv;have HXS:=Aa hxs;have HXC:=Aa hxd;clear hxe hxd;clear hxs hxc hiv
   go_wp2_with fail
   go_loopg [33] xs.length (fun g s33 wx=>∃i:Nat,s33=.int .i64 i/\i<=xs.length/\xs.length-i<=g/\∃av bs pv,Hid (zA0 w wx B N (.slice (Sa ⟨rb,ro,Sb⟩) rs.length rc) v1 v2 v3 n (wJ (tp r) nt r (qV tp nt rs r) xs i) av bs pv))
   case atStart=>exact⟨0,rfl,by omega,by omega,av,bs,pv,R⟩
   case round=>
    obtain⟨i,rfl,hi,hgi,av1,bs1,pv1,R1⟩:=hrel;by_cases hlti:i<xs.length
    .have HLT:Hid (i+1<=xs.length):=Aa hlti;obtain⟨x,hx⟩:∃x,xs[i]?=Sa x:=⟨xs[i],ah hlti⟩
     have hc:=HXC.out i x hx;have d0:wr.cell? ⟨ib,io+i*12,Sb⟩=Sa (.string x.1):=xM R1.out.heap (hc 0 (by omega));have d1:wr.cell? ⟨ib,io+i*12+1,Sb⟩=Sa (.int .u32 (qJ x)):=xM R1.out.heap (hc 1 (by omega));have d2:wr.cell? ⟨ib,io+i*12+2,Sb⟩=Sa (.int .i64 (jR x)):=xM R1.out.heap (hc 2 (by omega));have d3:wr.cell? ⟨ib,io+i*12+3,Sb⟩=Sa (.int .i64 x.2.2.2.1):=xM R1.out.heap (hc 3 (by omega));have d4:wr.cell? ⟨ib,io+i*12+4,Sb⟩=Sa (.bool x.2.2.2.2.1):=xM R1.out.heap (hc 4 (by omega));have d5:wr.cell? ⟨ib,io+i*12+5,Sb⟩=Sa (.bool x.2.2.2.2.2.1):=xM R1.out.heap (hc 5 (by omega));have d6:wr.cell? ⟨ib,io+i*12+6,Sb⟩=Sa (.int .i64 (w7 x)):=xM R1.out.heap (hc 6 (by omega));have d7:wr.cell? ⟨ib,io+i*12+7,Sb⟩=Sa (.int .i64 (vP x)):=xM R1.out.heap (hc 7 (by omega));have d8:wr.cell? ⟨ib,io+i*12+8,Sb⟩=Sa (.bool x.2.2.2.2.2.2.2.2.1):=xM R1.out.heap (hc 8 (by omega));have d9:wr.cell? ⟨ib,io+i*12+9,Sb⟩=Sa (.string x.2.2.2.2.2.2.2.2.2.1):=xM R1.out.heap (hc 9 (by omega));have d10:wr.cell? ⟨ib,io+i*12+10,Sb⟩=Sa (.string x.2.2.2.2.2.2.2.2.2.2.1):=xM R1.out.heap (hc 10 (by omega));have d11:wr.cell? ⟨ib,io+i*12+11,Sb⟩=Sa (.int .i64 x.2.2.2.2.2.2.2.2.2.2.2.1):=xM R1.out.heap (hc 11 (by omega));have e0:wr.cell? ⟨N,0,Sb⟩=Sa (.slice (Sa ⟨rb,ro,Sb⟩) rs.length rc):=by rw[cell_of_row wr N 0 _ _ _ R1.out.hV];rfl
     have e1:wr.cell? ⟨N,1,Sb⟩=Sa v1:=by rw[cell_of_row wr N 1 _ _ _ R1.out.hV];rfl
     have e2:wr.cell? ⟨N,2,Sb⟩=Sa v2:=by rw[cell_of_row wr N 2 _ _ _ R1.out.hV];rfl
     have e3:wr.cell? ⟨N,3,Sb⟩=Sa v3:=by rw[cell_of_row wr N 3 _ _ _ R1.out.hV];rfl
     have HX:=Aa hx;clear hx hc;have HLEN:Hid ((wJ (tp r) nt r (qV tp nt rs r) xs i).length<=1048576):=Aa (by have h1:=zOC (tp r) nt r (qV tp nt rs r) xs i;have h2:=zOB tp nt rs H8.out r;omega);generalize x.1=y0 at d0;generalize x.2.2.2.1=y3 at d3;generalize x.2.2.2.2.1=y4 at d4;generalize x.2.2.2.2.2.1=y5 at d5;generalize x.2.2.2.2.2.2.2.2.1=y8 at d8;generalize x.2.2.2.2.2.2.2.2.2.1=y9 at d9;generalize x.2.2.2.2.2.2.2.2.2.2.1=y10 at d10;generalize x.2.2.2.2.2.2.2.2.2.2.2.1=y11 at d11
     go_upto_block 3 with fail
     go_cut [] (fun wx=>∃(av1:Value) (bs1:Nat->Nat) (pv1:Nat->Value),Hid (zA0 w wx B N (.slice (Sa ⟨rb,ro,Sb⟩) rs.length rc) v1 v2 v3 n (wJ (tp r) nt r (qV tp nt rs r) xs (i+1)) av1 bs1 pv1))
     case rest=>
      obtain⟨av3,bs3,pv3,R9⟩:=hcut
      go_wp2_with fail
      go_roundg (xs.length- (i+1))
      case measure=>(have:=HLT.out;omega)
      case rel=>exact⟨i+1,by go_num,HLT.out,by omega,av3,bs3,pv3,R9⟩
     case first=>
     go_upto_region 8 with fail
     have A1:Hid (∀W:World,W=wr.alloc (Ai #[Ad y0,Ac Ah (qJ x),Ac Ab (jR x),Ac Ab y3,Ae y4,Ae y5,Ac Ab (w7 x),Ac Ab (vP x),Ae y8,Ad y9,Ad y10,Ac Ab y11] 74)->
       zA0 w W B N (.slice (Sa ⟨rb,ro,Sb⟩) rs.length rc) v1 v2 v3 n (wJ (tp r) nt r (qV tp nt rs r) xs i) av1 bs1 pv1/\W.heap[wr.heap.size]?=Sa (.cells #[Ad y0,Ac Ah (qJ x),Ac Ab (jR x),Ac Ab y3,Ae y4,Ae y5,Ac Ab (w7 x),Ac Ab (vP x),Ae y8,Ad y9,Ad y10,Ac Ab y11] 74 (0,0))):=Aa (by
      rintro W rfl
      exact⟨R1.out.alloc _,by show(wr.heap.push _)[wr.heap.size]?=_;simp⟩)
     generalize wr.alloc (Ai #[Ad y0,Ac Ah (qJ x),Ac Ab (jR x),Ac Ab y3,Ae y4,Ae y5,Ac Ab (w7 x),Ac Ab (vP x),Ae y8,Ad y9,Ad y10,Ac Ab y11] 74)=W1 at A1 ⊢;obtain⟨q1,q2⟩:=A1.out W1 rfl;have R2:=Aa q1;have X2:=Aa q2;generalize wr.heap.size=K at X2 q2 ⊢;clear q1 A1 d0 d1 d2 d3 d4 d5 d6 d7 d8 d9 d10 d11 e0 e1 e2 e3;have e0:W1.cell? ⟨N,0,Sb⟩=Sa (.slice (Sa ⟨rb,ro,Sb⟩) rs.length rc):=by rw[cell_of_row W1 N 0 _ _ _ R2.out.hV];rfl
     have e1:W1.cell? ⟨N,1,Sb⟩=Sa v1:=by rw[cell_of_row W1 N 1 _ _ _ R2.out.hV];rfl
     have e2:W1.cell? ⟨N,2,Sb⟩=Sa v2:=by rw[cell_of_row W1 N 2 _ _ _ R2.out.hV];rfl
     have e3:W1.cell? ⟨N,3,Sb⟩=Sa v3:=by rw[cell_of_row W1 N 3 _ _ _ R2.out.hV];rfl
     have d6:W1.cell? ⟨K,6,Sb⟩=Sa (.int .i64 (w7 x)):=by rw[cell_of_row W1 K 6 _ _ _ q2];rfl
     clear q2
     cases htp:tp r i with
     |false=>
      have HTI:Hid (wJ (tp r) nt r (qV tp nt rs r) xs (i+1)=wJ (tp r) nt r (qV tp nt rs r) xs i):=Aa (by simp only[wJ,HX.out,htp];rfl)
      go_wp2_with (go_at_call 40;refine(HTP.out _ r i xs x R2.out.heap R2.out.size HXS.out HX.out).mono ?_;rintro e W2 ⟨rfl,st⟩;have R3:=Aa (R2.out.keep st.heap st.size st.os st.tape st.output st.drawn);have X3:=Aa ((st.heap K (qR X2.out)).trans X2.out);have d6:W2.cell? ⟨K,6,Sb⟩=Sa (.int .i64 (w7 x)):=(by rw[cell_of_row W2 K 6 _ _ _ X3.out];rfl);clear st)
      go_meet;exact⟨av1,bs1,pv1,by rw[HTI.out];exact R3⟩
     |true=>
      have HTI:Hid (wJ (tp r) nt r (qV tp nt rs r) xs (i+1)=xA (wJ (tp r) nt r (qV tp nt rs r) xs i) r (w7 x) ((r:Int),(nt (qJ x) (jR x)).1,(nt (qJ x) (jR x)).2,vP x)):=Aa (by simp only[wJ,HX.out,htp];rfl)
      go_upto_if 50 with(first|(go_at_call 40;refine(HTP.out _ r i xs x R2.out.heap R2.out.size HXS.out HX.out).mono ?_;rintro e W2 ⟨rfl,st⟩;have R3:=Aa (R2.out.keep st.heap st.size st.os st.tape st.output st.drawn);have X3:=Aa ((st.heap K (qR X2.out)).trans X2.out);have d6:W2.cell? ⟨K,6,Sb⟩=Sa (.int .i64 (w7 x)):=(by rw[cell_of_row W2 K 6 _ _ _ X3.out];rfl);clear st)|(go_at_call 61;refine(qCs (w7 x) R3 HLEN.out).mono ?_;rintro e W3 ⟨rfl,rfl⟩))
      clear e0 e1 e2 e3
      go_cut [7] (fun s7 wx=>∃(bk:Nat) (S1:List AR) (j:Nat) (a:AR) (av2:Value) (bs2:Nat->Nat) (pv2:Nat->Value),s7=.pointer (Sa ⟨bk,0,Sb⟩)/\Hid (zA0 w wx B N (.slice (Sa ⟨rb,ro,Sb⟩) rs.length rc) v1 v2 v3 n S1 av2 bs2 pv2/\S1[j]?=Sa a/\bs2 j=bk/\xA (wJ (tp r) nt r (qV tp nt rs r) xs i) r (w7 x) ((r:Int),(nt (qJ x) (jR x)).1,(nt (qJ x) (jR x)).2,vP x)=S1.set j ⟨a.num,a.parts++[((r:Int),(nt (qJ x) (jR x)).1,(nt (qJ x) (jR x)).2,vP x)],fun k=>if k=r then Sc else a.mem k⟩/\wx.heap[K]?=Sa (.cells #[Ad y0,Ac Ah (qJ x),Ac Ab (jR x),Ac Ab y3,Ae y4,Ae y5,Ac Ab (w7 x),Ac Ab (vP x),Ae y8,Ad y9,Ad y10,Ac Ab y11] 74 (0,0))/\a.parts.length<=100))
      case first=>
       cases hat:zPo (wJ (tp r) nt r (qV tp nt rs r) xs i) (w7 x)with
       |none=>
        have HS:Hid (xA (wJ (tp r) nt r (qV tp nt rs r) xs i) r (w7 x) ((r:Int),(nt (qJ x) (jR x)).1,(nt (qJ x) (jR x)).2,vP x)=(wJ (tp r) nt r (qV tp nt rs r) xs i++[(⟨w7 x,[],fun _=>Sd⟩:AR)]).set (wJ (tp r) nt r (qV tp nt rs r) xs i).length (⟨w7 x,[]++[((r:Int),(nt (qJ x) (jR x)).1,(nt (qJ x) (jR x)).2,vP x)],fun k=>if k=r then Sc else(fun _=>Sd) k⟩:AR)):=Aa (by unfold xA;rw[hat];simp);simp only[Option.map_none]
        go_upto_region 12 with fail
        have A2:Hid (∀W:World,W=W3.alloc (Ai (Tryz.zeroCells175.setIfInBounds 0 (Ac Ab (w7 x))) 175)->
          zA0 w W B N (.slice (Sa ⟨rb,ro,Sb⟩) rs.length rc) v1 v2 v3 n (wJ (tp r) nt r (qV tp nt rs r) xs i) av1 bs1 pv1/\W.heap[K]?=W3.heap[K]? /\W.heap[W3.heap.size]?=Sa (.cells (uF (w7 x) (.slice Sb 0 0) (.slice Sb 0 0) (fun _=>Sd) zGF) 175 (0,0))/\W.heap.size=W3.heap.size+1/\jW W3 W):=Aa (by
         rintro W rfl;have ho:∀j,j<W3.heap.size->(W3.alloc (Ai (Tryz.zeroCells175.setIfInBounds 0 (Ac Ab (w7 x))) 175)).heap[j]?=W3.heap[j]? :=fun j hj=>by show(W3.heap.push _)[j]?=_;rw[cE hj];exact(aD hj).symm
         refine⟨R3.out.alloc _,ho K (qR X3.out),?_,by show(W3.heap.push _).size=_;simp,ho,by show _<=(W3.heap.push _).size;simp,rfl,rfl,rfl,ai _⟩;show(W3.heap.push _)[W3.heap.size]?=_;rw[zYm]
         simp)
        generalize W3.alloc (Ai (Tryz.zeroCells175.setIfInBounds 0 (Ac Ab (w7 x))) 175)=W4 at A2 ⊢;obtain⟨q1,q2,q3,q4,q5⟩:=A2.out W4 rfl;have R4:=Aa q1;have X4:=Aa (q2.trans X3.out);have Z4:=Aa q3;have S4:=Aa q4;have T4:=Aa q5;clear A2 q1 q2 q3 q4 q5;generalize hbn:W3.heap.size=bn at Z4 S4 ⊢;have HBN:=Aa hbn;clear hbn;have c5:W4.cell? ⟨B,5,Sb⟩=Sa av1:=by rw[cell_of_row W4 B 5 _ _ _ R4.out.hB];rfl
        have z5:W4.frozen? ⟨B,5,Sb⟩=false:=by simp only[Ak,R4.out.hB];simp
        have NB:Hid (Sa B≠av1.ownBlock):=Aa (fun hh=>by obtain⟨_,_,cur,hc⟩:=q9 R4.out.ha hh.symm;exact zAd R4.out.hB hc (by decide) rfl);have LB:Hid (B<W4.heap.size):=Aa (qR R4.out.hB)
        go_wp2_with (at_builtin;refine Bd.wpList_append_d (by rfl) _ _ _ (by rfl) w.heap.size 128 i128 (.pointer Sb) 1 8 Tryz.underlying169 I128.out.1 I128.out.2.1 I128.out.2.2.1 I128.out.2.2.2 rfl (by decide) av1 (wJ (tp r) nt r (qV tp nt rs r) xs i).length _ (by rfl) (R4.out.alloc _).ha ⟨W4.heap.size,0,Sb⟩ 1 1 [.pointer (Sa ⟨bn,0,Sb⟩)] (by rfl) (by rfl) (Am (cs:= #[.pointer (Sa ⟨bn,0,Sb⟩)]) (t:=128) (fr:=(0,0)) (heap_alloc_new W4 _)) (by simp[An]) (by decide) (by have:=HLEN.out;unfold maxLen;omega) (by have:=HLEN.out;omega) (R4.out.alloc _).size (W4.heap.size+1) (by simp) ?_;intro g1 d1 w1 hown1 hgd1 hat1 hlt1;have G1:=Aa (Af hown1 (Af hgd1 (Af hat1 hlt1)));have fe5:w1.cell? ⟨B,5,Sb⟩=Sa av1:=(World.cell?_of_block (a:=⟨B,5,Sb⟩) (hgd1.1.block B (by simp;have:=LB.out;omega) NB.out)).trans ((R4.out.alloc _).cell5);have fz5:w1.frozen? ⟨B,5,Sb⟩=false:=(World.frozen?_of_block (a:=⟨B,5,Sb⟩) (hgd1.1.block B (by simp;have:=LB.out;omega) NB.out)).trans ((R4.out.alloc _).froz5);clear hown1 hgd1 hat1 hlt1)
        have A3:Hid (∀W:World,W=w1.setCell ⟨B,5,Sb⟩ (.slice (Sa ⟨g1,0,Sb⟩) ((wJ (tp r) nt r (qV tp nt rs r) xs i).length+1) d1)->zA0 w W B N (.slice (Sa ⟨rb,ro,Sb⟩) rs.length rc) v1 v2 v3 n (wJ (tp r) nt r (qV tp nt rs r) xs i++[(⟨w7 x,[],fun _=>Sd⟩:AR)]) (.slice (Sa ⟨g1,0,Sb⟩) ((wJ (tp r) nt r (qV tp nt rs r) xs i).length+1) d1) (fun k=>if k=(wJ (tp r) nt r (qV tp nt rs r) xs i).length then bn else bs1 k) (fun k=>if k=(wJ (tp r) nt r (qV tp nt rs r) xs i).length then .slice Sb 0 0 else pv1 k)/\W.heap[K]?=Sa (.cells #[Ad y0,Ac Ah (qJ x),Ac Ab (jR x),Ac Ab y3,Ae y4,Ae y5,Ac Ab (w7 x),Ac Ab (vP x),Ae y8,Ad y9,Ad y10,Ac Ab y11] 74 (0,0))):=Aa (by
         rintro W rfl;obtain⟨o1,⟨o2,o3⟩,o4,o5⟩:=G1.out;have hfar:∀q,q≠B->(w1.setCell ⟨B,5,Sb⟩ (.slice (Sa ⟨g1,0,Sb⟩) ((wJ (tp r) nt r (qV tp nt rs r) xs i).length+1) d1)).heap[q]?=w1.heap[q]? :=fun q hi=>by show(w1.heap.modify _ _)[q]?=_;rw[bK,if_neg (fun hh=>hi hh.symm)]
         have h4:∀o i,i<W4.heap.size->(W4.alloc o).heap[i]?=W4.heap[i]? :=fun o i hi=>by show(W4.heap.push _)[i]?=_;rw[cE hi];exact(aD hi).symm
         have hlt4:∀o i,i<W4.heap.size->i< (W4.alloc o).heap.size:=fun o i hi=>by show i< (W4.heap.push o).size;rw[ca];omega
         have hw1:∀i,i<W4.heap.size->av1.ownBlock≠Sa i->w1.heap[i]?=W4.heap[i]? :=fun i hi hn=>(o2.block i (hlt4 _ i hi) (fun hh=>hn hh.symm)).trans (h4 _ i hi);have hle:W3.heap.size<=W4.heap.size:=T4.out.size;have hg1B:g1≠B:=fun hh=>by obtain⟨_,_,cur,hc⟩:=q9 o1 (show(Ag (Sa ⟨g1,0,Sb⟩) ((wJ (tp r) nt r (qV tp nt rs r) xs i).length+1) d1).ownBlock=Sa g1 from rfl);have hBc:=(hw1 B LB.out (fun hh=>NB.out hh.symm)).trans R4.out.hB;exact zAd hc hBc (by decide) hh
         have hsz:W4.heap.size<=w1.heap.size:=by
          have h6:(W4.alloc (.cells #[.pointer (Sa ⟨bn,0,Sb⟩)] 128)).heap.size=W4.heap.size+1:=by show(W4.heap.push _).size=_;simp
          have h7:=o2.size;rw[h6]at h7;omega
         refine⟨zA0.new R3.out (Nat.le_of_eq HBN.out) ?_ ?_ (yB o1 (fun g hg=>hfar g (fun hh=>by cases hg;exact hg1B hh))) (fun q hi h1 h2=>(hfar q h1).trans ((hw1 q (az hi hle) h2).trans (T4.out.heap q hi))) (by show _<=(w1.heap.modify _ _).size;simp;omega) (o2.os.trans T4.out.os) (o2.tape.trans T4.out.tape) (o2.output.trans T4.out.output) (aj T4.out.drawn o3),?_⟩
         .have:=xU (off:=5) (v:=.slice (Sa ⟨g1,0,Sb⟩) ((wJ (tp r) nt r (qV tp nt rs r) xs i).length+1) d1) ((hw1 B LB.out (fun hh=>NB.out hh.symm)).trans R4.out.hB);exact this
         .refine(hfar bn (fun hh=>zAd Z4.out R4.out.hB (by decide) hh)).trans ((hw1 bn (by rw[S4.out];omega) (fun hh=>?_)).trans Z4.out);obtain⟨_,_,cur,hc⟩:=q9 R4.out.ha hh;exact zAd Z4.out hc (by decide) rfl
         .refine(hfar K (fun hh=>zAd X4.out R4.out.hB (by decide) hh)).trans ((hw1 K (qR X4.out) (fun hh=>?_)).trans X4.out);obtain⟨_,_,cur,hc⟩:=q9 R4.out.ha hh
          exact zAd X4.out hc (by decide) rfl)
        generalize w1.setCell ⟨B,5,Sb⟩ (.slice (Sa ⟨g1,0,Sb⟩) ((wJ (tp r) nt r (qV tp nt rs r) xs i).length+1) d1)=W5 at A3 ⊢;obtain⟨S1,j,a,av2,bs2,pv2,P1⟩:∃(S1:List AR) (j:Nat) (a:AR) (av2:Value) (bs2:Nat->Nat) (pv2:Nat->Value),Hid (zA0 w W5 B N (.slice (Sa ⟨rb,ro,Sb⟩) rs.length rc) v1 v2 v3 n S1 av2 bs2 pv2/\S1[j]?=Sa a/\bs2 j=bn/\xA (wJ (tp r) nt r (qV tp nt rs r) xs i) r (w7 x) ((r:Int),(nt (qJ x) (jR x)).1,(nt (qJ x) (jR x)).2,vP x)=S1.set j ⟨a.num,a.parts++[((r:Int),(nt (qJ x) (jR x)).1,(nt (qJ x) (jR x)).2,vP x)],fun k=>if k=r then Sc else a.mem k⟩/\W5.heap[K]?=Sa (.cells #[Ad y0,Ac Ah (qJ x),Ac Ab (jR x),Ac Ab y3,Ae y4,Ae y5,Ac Ab (w7 x),Ac Ab (vP x),Ae y8,Ad y9,Ad y10,Ac Ab y11] 74 (0,0))/\a.parts.length<=100):=by obtain⟨a1,a2⟩:=A3.out W5 rfl;exact⟨_,(wJ (tp r) nt r (qV tp nt rs r) xs i).length,⟨w7 x,[],fun _=>Sd⟩,_,_,_,Aa ⟨a1,by simp,by simp,HS.out,a2,by simp⟩⟩
        clear A3 G1 c5 z5 fe5 fz5;generalize bn=bk at P1 ⊢;go_meet;exact⟨bk,S1,j,a,av2,bs2,pv2,rfl,P1⟩
       |some j0=>
        obtain⟨a0,ha0⟩:∃a0,(wJ (tp r) nt r (qV tp nt rs r) xs i)[j0]?=Sa a0:=by
         unfold zPo at hat
         rw[bg]at hat
         obtain⟨h1,_⟩:=hat
         exact⟨_,ah h1⟩
        have HS:Hid (xA (wJ (tp r) nt r (qV tp nt rs r) xs i) r (w7 x) ((r:Int),(nt (qJ x) (jR x)).1,(nt (qJ x) (jR x)).2,vP x)=(wJ (tp r) nt r (qV tp nt rs r) xs i).set j0 ⟨a0.num,a0.parts++[((r:Int),(nt (qJ x) (jR x)).1,(nt (qJ x) (jR x)).2,vP x)],fun k=>if k=r then Sc else a0.mem k⟩):=Aa (by unfold xA;rw[hat];simp only[ha0]);have HPL0:Hid (a0.parts.length<=100):=Aa (by have h1:=zWL tp nt rs H8.out r xs HXS.out i HLT.out a0 (ae ha0);omega);simp only[bv]
        go_wp2_with fail
        obtain⟨S1,j,a,av2,bs2,pv2,P1⟩:∃(S1:List AR) (j:Nat) (a:AR) (av2:Value) (bs2:Nat->Nat) (pv2:Nat->Value),Hid (zA0 w W3 B N (.slice (Sa ⟨rb,ro,Sb⟩) rs.length rc) v1 v2 v3 n S1 av2 bs2 pv2/\S1[j]?=Sa a/\bs2 j=bs1 j0/\xA (wJ (tp r) nt r (qV tp nt rs r) xs i) r (w7 x) ((r:Int),(nt (qJ x) (jR x)).1,(nt (qJ x) (jR x)).2,vP x)=S1.set j ⟨a.num,a.parts++[((r:Int),(nt (qJ x) (jR x)).1,(nt (qJ x) (jR x)).2,vP x)],fun k=>if k=r then Sc else a.mem k⟩/\W3.heap[K]?=Sa (.cells #[Ad y0,Ac Ah (qJ x),Ac Ab (jR x),Ac Ab y3,Ae y4,Ae y5,Ac Ab (w7 x),Ac Ab (vP x),Ae y8,Ad y9,Ad y10,Ac Ab y11] 74 (0,0))/\a.parts.length<=100):=
         ⟨_,j0,a0,_,_,_,Aa ⟨R3.out,ha0,rfl,HS.out,X3.out,HPL0.out⟩⟩
        clear ha0 hat
        generalize bs1 j0=bk at P1 ⊢;generalize W3=W5 at P1 ⊢;go_meet;exact⟨bk,S1,j,a,av2,bs2,pv2,rfl,P1⟩
      case rest=>
       obtain⟨bk,S1,j,a,av2,bs2,pv2,rfl,P1⟩:=hcut;have R5:=Aa P1.out.1;have HJ:=Aa P1.out.2.1;have HBK:=Aa P1.out.2.2.1;have HADD:=Aa P1.out.2.2.2.1;have X5:=Aa P1.out.2.2.2.2.1;have HPL:=Aa P1.out.2.2.2.2.2;clear P1;have hbj:=(R5.out.hj j a HJ.out).2;rw[HBK.out]at hbj;have hr8:r<8:=by omega
       have b1:wc.cell? ⟨bk,3+r,Sb⟩=Sa (.bool (a.mem r)):=by simp only[Al,hbj];exact(wI (i:=3+r) (by omega)).trans (by rw[if_neg (by omega),if_neg (by omega),if_neg (by omega),if_pos (by omega),show 3+r-3=r by omega])
       have z1:wc.frozen? ⟨bk,3+r,Sb⟩=false:=by simp only[Ak,hbj];simp
       have A4:Hid (∀W:World,W=wc.setCell ⟨bk,3+r,Sb⟩ (.bool Sc)->zA0 w W B N (.slice (Sa ⟨rb,ro,Sb⟩) rs.length rc) v1 v2 v3 n (S1.set j ⟨a.num,a.parts,fun k=>if k=r then Sc else a.mem k⟩) av2 bs2 (fun k=>if k=j then pv2 j else pv2 k)/\W.heap[K]?=Sa (.cells #[Ad y0,Ac Ah (qJ x),Ac Ab (jR x),Ac Ab y3,Ae y4,Ae y5,Ac Ab (w7 x),Ac Ab (vP x),Ae y8,Ad y9,Ad y10,Ac Ab y11] 74 (0,0))):=Aa (by
        rintro W rfl;have hfar:∀q,q≠bk->(wc.setCell ⟨bk,3+r,Sb⟩ (.bool Sc)).heap[q]?=wc.heap[q]? :=fun q hi=>by show(wc.heap.modify _ _)[q]?=_;rw[bK,if_neg (fun hh=>hi hh.symm)]
        refine⟨zA0.area R5.out HJ.out ?_ ?_ (fun g hg=>.inl hg) (fun q hi h1 h2=>hfar q (by rw[<-HBK.out];exact h1)) (by show _<=(wc.heap.modify _ _).size;simp) rfl rfl rfl (ai _),(hfar K (fun hh=>zAd X5.out hbj (by decide) hh)).trans X5.out⟩
        .rw[HBK.out];have:=xU (off:=3+r) (v:=.bool Sc) hbj;rw[zZ9 hr8]at this;exact this
        .refine yB (R5.out.hp j a HJ.out) (fun g hg=>hfar g (fun hh=>?_));obtain⟨_,_,cur,hc⟩:=q9 (R5.out.hp j a HJ.out) hg
         exact zAd hc hbj (by decide) hh)
       clear hbj
       go_upto_region 14 with fail
       generalize wc.setCell ⟨bk,3+r,Sb⟩ (.bool Sc)=W6 at A4 ⊢;obtain⟨q1,q2⟩:=A4.out W6 rfl;have R6:=Aa q1;have X6:=Aa q2;have HJ6:Hid ((S1.set j ⟨a.num,a.parts,fun k=>if k=r then Sc else a.mem k⟩)[j]?=Sa ⟨a.num,a.parts,fun k=>if k=r then Sc else a.mem k⟩):=Aa (ce (aa.1 HJ.out).1);clear A4 q1 q2 b1 z1;obtain⟨pvj,hpvj⟩:∃pvj,pv2 j=pvj:=⟨_,rfl⟩
       have HPVJ:=Aa hpvj;clear hpvj
       have FA:Hid (∀W:World,jW W6 W->zA0 w W B N (.slice (Sa ⟨rb,ro,Sb⟩) rs.length rc) v1 v2 v3 n (S1.set j ⟨a.num,a.parts,fun k=>if k=r then Sc else a.mem k⟩) av2 bs2 (fun k=>if k=j then pv2 j else pv2 k)/\W.heap[K]?=Sa (.cells #[Ad y0,Ac Ah (qJ x),Ac Ab (jR x),Ac Ab y3,Ae y4,Ae y5,Ac Ab (w7 x),Ac Ab (vP x),Ae y8,Ad y9,Ad y10,Ac Ab y11] 74 (0,0))/\W.heap[bk]?=Sa (.cells (uF a.num pvj (.slice Sb 0 0) (fun k=>if k=r then Sc else a.mem k) zGF) 175 (0,0))/\W.ownsRow w.heap.size 177 4 pvj a.parts.length (uU a.parts)):=Aa (by
        intro W hW;have R7:=R6.out.keep hW.heap hW.size hW.os hW.tape hW.output hW.drawn;have h1:=(R7.hj j _ HJ6.out).2;have h2:=R7.hp j _ HJ6.out;simp only[if_true]at h1 h2;rw[HBK.out,HPVJ.out]at h1;rw[HPVJ.out]at h2
        exact⟨R7,(hW.heap K (qR X6.out)).trans X6.out,h1,h2⟩)
       have FC:Hid (∀W:World,jW W6 W->W.cell? ⟨bk,1,Sb⟩=Sa pvj/\W.frozen? ⟨bk,1,Sb⟩=Sd/\W.cell? ⟨K,1,Sb⟩=Sa (.int .u32 (qJ x))/\W.cell? ⟨K,2,Sb⟩=Sa (.int .i64 (jR x))/\W.cell? ⟨K,7,Sb⟩=Sa (.int .i64 (vP x))/\bk<W.heap.size/\Sa bk≠pvj.ownBlock):=Aa (by
        intro W hW;obtain⟨k1,k2,k3,k4⟩:=FA.out W hW;refine⟨?_,by simp only[Ak,k3];simp,by rw[cell_of_row W K 1 _ _ _ k2];rfl,by rw[cell_of_row W K 2 _ _ _ k2];rfl,by rw[cell_of_row W K 7 _ _ _ k2];rfl,qR k3,fun hh=>?_⟩
        .simp only[Al,k3];exact wI (i:=1) (by omega)
        .obtain⟨_,_,cur,hc⟩:=q9 k4 hh.symm
         exact zAd k3 hc (by decide) rfl)
       obtain⟨f1,f2,f3,f4,f5,_,_⟩:=FC.out W6 (jW.refl W6)
       have FIN:Hid (∀(W7 w8:World) (g8 d8:Nat),jW W6 W7->w8.ownsRow w.heap.size 177 4 (.slice (Sa ⟨g8,0,Sb⟩) (a.parts.length+1) d8) (a.parts.length+1) (uU a.parts++uU [((r:Int),(nt (qJ x) (jR x)).1,(nt (qJ x) (jR x)).2,vP x)])->(W7.alloc (.cells (uU [((r:Int),(nt (qJ x) (jR x)).1,(nt (qJ x) (jR x)).2,vP x)]).toArray 177)).grownBy w8 pvj.ownBlock/\(W7.alloc (.cells (uU [((r:Int),(nt (qJ x) (jR x)).1,(nt (qJ x) (jR x)).2,vP x)]).toArray 177)).drawn<=w8.drawn->(pvj.ownBlock=Sa g8\/g8=W7.heap.size+1)->
         ∃(av1:Value) (bs1:Nat->Nat) (pv1:Nat->Value),Hid (zA0 w (w8.setCell ⟨bk,1,Sb⟩ (.slice (Sa ⟨g8,0,Sb⟩) (a.parts.length+1) d8)) B N (.slice (Sa ⟨rb,ro,Sb⟩) rs.length rc) v1 v2 v3 n (wJ (tp r) nt r (qV tp nt rs r) xs (i+1)) av1 bs1 pv1)):=Aa (by
        intro W7 w8 g8 d8 hs7 ho8 ⟨hg8,hd8⟩ ha8;obtain⟨r1,r2,r3,r4⟩:=FA.out W7 hs7;have hsz7:(W7.alloc (.cells (uU [((r:Int),(nt (qJ x) (jR x)).1,(nt (qJ x) (jR x)).2,vP x)]).toArray 177)).heap.size=W7.heap.size+1:=by show(W7.heap.push _).size=_;simp
        have hal:∀q,q<W7.heap.size->(W7.alloc (.cells (uU [((r:Int),(nt (qJ x) (jR x)).1,(nt (qJ x) (jR x)).2,vP x)]).toArray 177)).heap[q]?=W7.heap[q]? :=fun q hq=>by show(W7.heap.push _)[q]?=_;rw[cE hq];exact(aD hq).symm
        have h8:∀q,q<W7.heap.size->pvj.ownBlock≠Sa q->w8.heap[q]?=W7.heap[q]? :=fun q hq hn=>(hg8.block q (by rw[hsz7];omega) (fun hh=>hn hh.symm)).trans (hal q hq);have hfar:∀q,q≠bk->(w8.setCell ⟨bk,1,Sb⟩ (.slice (Sa ⟨g8,0,Sb⟩) (a.parts.length+1) d8)).heap[q]?=w8.heap[q]? :=fun q hq=>by show(w8.heap.modify _ _)[q]?=_;rw[bK,if_neg (fun hh=>hq hh.symm)]
        have hbk8:w8.heap[bk]?=Sa (.cells (uF a.num pvj (.slice Sb 0 0) (fun k=>if k=r then Sc else a.mem k) zGF) 175 (0,0)):=(h8 bk (qR r3) (fun hh=>by obtain⟨_,_,cur,hc⟩:=q9 r4 hh;exact zAd r3 hc (by decide) rfl)).trans r3;have hle7:W6.heap.size<=W7.heap.size:=hs7.size;have hle8:W7.heap.size<=w8.heap.size:=by have:=hg8.size;rw[hsz7]at this;omega
        have hpl:(uU (a.parts++[((r:Int),(nt (qJ x) (jR x)).1,(nt (qJ x) (jR x)).2,vP x)]))=uU a.parts++uU [((r:Int),(nt (qJ x) (jR x)).1,(nt (qJ x) (jR x)).2,vP x)]:=by simp[uU]
        have hset:(S1.set j ⟨a.num,a.parts,fun k=>if k=r then Sc else a.mem k⟩).set j ⟨a.num,a.parts++[((r:Int),(nt (qJ x) (jR x)).1,(nt (qJ x) (jR x)).2,vP x)],fun k=>if k=r then Sc else a.mem k⟩=wJ (tp r) nt r (qV tp nt rs r) xs (i+1):=by rw[List.set_set,HTI.out,HADD.out]
        refine⟨av2,bs2,(fun k=>if k=j then .slice (Sa ⟨g8,0,Sb⟩) (a.parts.length+1) d8 else(fun k=>if k=j then pv2 j else pv2 k) k),Aa ?_⟩;rw[<-hset];refine zA0.area r1 HJ6.out (a':=⟨a.num,a.parts++[((r:Int),(nt (qJ x) (jR x)).1,(nt (qJ x) (jR x)).2,vP x)],fun k=>if k=r then Sc else a.mem k⟩) ?_ ?_ (fun g hg=>?_) (fun q hq h1 h2=>?_) (by show _<=(w8.heap.modify _ _).size;simp;omega) (hg8.os) (hg8.tape) (hg8.output) (aj (ai _) hd8)
        .rw[HBK.out];have:=xU (off:=1) (v:=.slice (Sa ⟨g8,0,Sb⟩) (a.parts.length+1) d8) hbk8;rw[qCz]at this;exact this
        .show World.ownsRow _ _ _ _ _ (a.parts++[((r:Int),(nt (qJ x) (jR x)).1,(nt (qJ x) (jR x)).2,vP x)]).length (uU (a.parts++[((r:Int),(nt (qJ x) (jR x)).1,(nt (qJ x) (jR x)).2,vP x)]));rw[hpl,aN,bL];refine yB ho8 (fun g hg=>hfar g (fun hh=>?_));obtain⟨_,_,cur,hc⟩:=q9 ho8 hg;exact zAd hc hbk8 (by decide) hh
        .cases hg;simp only[if_true,HPVJ.out];exact ha8.imp id (fun hh=>by omega)
        .simp only[if_true,HPVJ.out]at h2;rw[HBK.out]at h1
         exact(hfar q h1).trans (h8 q hq h2))
       go_region_law (first|(refine Bd.step_append_d (by rfl) _ _ _ (by rfl) w.heap.size 177 i177 (.agg #[.int .i64 0,.int .u32 0,.int .i64 0,.int .i64 0]) 4 32 Tryz.underlying172 I177.out.1 I177.out.2.1 I177.out.2.2.1 I177.out.2.2.2 rfl (by decide) pvj a.parts.length (uU a.parts) (by rfl) (by exact(FA.out _ ST7.out).2.2.2.alloc _) ⟨W7.heap.size,0,Sb⟩ 1 1 (uU [((r:Int),(nt (qJ x) (jR x)).1,(nt (qJ x) (jR x)).2,vP x)]) (by rfl) (by rfl) (Am (cs:=(uU [((r:Int),(nt (qJ x) (jR x)).1,(nt (qJ x) (jR x)).2,vP x)]).toArray) (t:=177) (fr:=(0,0)) (heap_alloc_new W7 _)) (by simp[uU,An]) (by decide) (by have:=HPL.out;unfold maxLen;omega) (by have:=HPL.out;omega) (by have:=(FA.out _ ST7.out).1.size;show _<=(W7.heap.push _).size;rw[ca];omega) (W7.heap.size+1) (by simp) ?_;intro g8 d8 w8 hown8 hgd8 hat8 hlt8;have G8:=Aa (Af hown8 (Af hgd8 (Af hat8 hlt8)));have e8:w8.cell? ⟨bk,1,Sb⟩=Sa pvj:=(World.cell?_of_block (a:=⟨bk,1,Sb⟩) (hgd8.1.block bk (by have:=(FC.out _ ST7.out).2.2.2.2.2.1;show bk< (W7.heap.push _).size;rw[ca];omega) (FC.out _ ST7.out).2.2.2.2.2.2)).trans (FC.out _ (ST7.out.alloc _)).1;have y8':w8.frozen? ⟨bk,1,Sb⟩=false:=(World.frozen?_of_block (a:=⟨bk,1,Sb⟩) (hgd8.1.block bk (by have:=(FC.out _ ST7.out).2.2.2.2.2.1;show bk< (W7.heap.push _).size;rw[ca];omega) (FC.out _ ST7.out).2.2.2.2.2.2)).trans (FC.out _ (ST7.out.alloc _)).2.1;clear hown8 hgd8 hat8 hlt8)|(go_simp;go_at_call 91;refine(HNT.out _ (qJ x) (jR x)).mono ?_;rintro e W7 ⟨rfl,st7⟩;have ST7:Hid (jW W6 W7):=Aa ((jW.drawN W6 _).trans st7);clear st7;obtain⟨h1,h2,h3,h4,h5,_,_⟩:=FC.out W7 ST7.out))
       all_goals
        go_wp2_with fail
        go_meet;exact FIN.out _ _ _ _ ST7.out G8.out.1 G8.out.2.1 G8.out.2.2.1
    .have hil:xs.length=i:=by omega
     subst hil;have HSC:Hid (qV tp nt rs (r+1)=wJ (tp r) nt r (qV tp nt rs r) xs xs.length):=Aa (by simp only[qV];rw[show rs.getD r []=xs from by simp[HXS.out]]);have HLT0:Hid (r+1<=n):=Aa hlt
     go_wp2_with fail
     go_roundg (n- (r+1))
     case measure=>(have:=HLT0.out;omega)
     case rel=>exact⟨r+1,by go_num,HLT0.out,ai _,av1,bs1,pv1,by rw[HSC.out];exact R1⟩
  .have hrn:n=r:=by omega
   subst hrn;have c5:wr.cell? ⟨B,5,Sb⟩=Sa av:=R.out.cell5;have HLS:Hid ((qV tp nt rs n).length<=100):=Aa (by have:=zOB tp nt rs H8.out n;omega)
   go_upto_region 18 with(go_at_call 92;refine(qBd R.out (by have:=HLS.out;omega) (zL3 tp nt rs n)).mono ?_;rintro e W2 ⟨rfl,l,hl1,hl2,hl3⟩;have HL:=Aa (Af hl1 (Af hl2 hl3));clear hl1 hl2 hl3)
   obtain⟨S,hS⟩:∃S,S=l.map (fun i=>(qV tp nt rs n).getD i ⟨0,[],fun _=>Sd⟩):=⟨_,rfl⟩
   obtain⟨bs2,hbs2⟩:∃bs2,bs2=fun k=>bs (l.getD k 0):=⟨_,rfl⟩
   obtain⟨pv2,hpv2⟩:∃pv2,pv2=fun k=>pv (l.getD k 0):=⟨_,rfl⟩
   have hG:=HL.out.2.2;rw[<-hS,<-hbs2,<-hpv2]at hG;have hSl:S.length=(qV tp nt rs n).length:=by rw[hS,aK,HL.out.1.length_eq,b9]
   have HSM:Hid (∀(k:Nat) (a:AR),S[k]?=Sa a->a∈qV tp nt rs n):=Aa (by
    intro k a hk;rw[hS,aA]at hk
    cases hlk:l[k]? with
    |none=>rw[hlk]at hk;cases hk
    |some i=>
     rw[hlk]at hk;have hi:i< (qV tp nt rs n).length:=aV.1 (HL.out.1.mem_iff.1 (ae hlk));simp only[bv,ac]at hk;rw[<-hk];rw[ba,ah hi]
     exact aZ hi)
   have G0:Hid (zLh w W2 B N (.slice (Sa ⟨rb,ro,Sb⟩) rs.length rc) v1 v2 v3 n S av bs2 pv2 0 es ds qHe fr0 fr0):=Aa (hG.graphs hfr0.out);have HS:=Aa hS;have HSL:=Aa hSl;have hsl100:S.length<=100:=by rw[hSl];exact HLS.out
   have HFIN:Hid (∀(w9:World) (E:Nat->Value) (fr:Nat->Prop),zLh w w9 B N (.slice (Sa ⟨rb,ro,Sb⟩) rs.length rc) v1 v2 v3 n S av bs2 pv2 S.length es ds E fr0 fr->qA0 w (.slice (Sa ⟨rb,ro,Sb⟩) rs.length rc) v1 v2 v3 n (qV tp nt rs n) es ds fr0 (.returned (.pointer (Sa ⟨B,0,Sb⟩))) w9):=Aa (by
    intro w9 E fr h9;rw[hS]at h9;rw[<-hS,hSl,hS]at h9
    exact⟨B,N,l,av,bs2,pv2,E,fr,rfl,HL.out.1,HL.out.2.1,h9⟩)
   clear hG hS hSl hbs2 hpv2 R c5;rcases cF S.length with hz|hpos
   .obtain⟨ad,cap,rfl⟩:∃ad cap,av=.slice ad 0 cap:=by
     rcases G0.out.ha.2 with⟨h,_⟩|⟨g,cap,cur,h1,_⟩
     .exact⟨_,_,h⟩
     .rw[hz]at h1;exact⟨_,_,h1⟩
    have c5:W2.cell? ⟨B,5,Sb⟩=Sa (.slice ad 0 cap):=by rw[cell_of_row W2 B 5 _ _ _ G0.out.hB];rfl
    have HZ:=Aa hz;clear hz
    go_wp2_with fail
    go_loopg [100] 1 (fun g s100 wx=>s100=.int .i64 0/\wx=W2)
    case atStart=>exact⟨rfl,rfl⟩
    case round=>
     obtain⟨rfl,rfl⟩:=hrel
     go_wp2_with fail
     go_ret
     refine HFIN.out _ qHe fr0 ?_;rw[HZ.out];exact G0.out
   .obtain⟨g,cap,rfl,hg1,hg2,hg3⟩:=zNd G0.out.ha hpos;have c5:W2.cell? ⟨B,5,Sb⟩=Sa (.slice (Sa ⟨g,0,Sb⟩) S.length cap):=by rw[cell_of_row W2 B 5 _ _ _ G0.out.hB];rfl
    clear hg1 hg2 hg3;have HPOS:=Aa hpos;clear hpos
    go_wp2_with fail
    go_loopg [100] S.length (fun gg s100 wx=>∃k:Nat,s100=.int .i64 k/\k<=S.length/\S.length-k<=gg/\∃(E:Nat->Value) (fr:Nat->Prop),Hid (zLh w wx B N (.slice (Sa ⟨rb,ro,Sb⟩) rs.length rc) v1 v2 v3 n S (.slice (Sa ⟨g,0,Sb⟩) S.length cap) bs2 pv2 k es ds E fr0 fr))
    case atStart=>exact⟨0,rfl,by omega,by omega,_,_,G0⟩
    case round=>
     obtain⟨k,rfl,hk,hgk,E,fr,G⟩:=hrel;by_cases hlt:k<S.length
     .obtain⟨a,ha⟩:∃a,S[k]?=Sa a:=⟨S[k],ah hlt⟩
      have HLT1:Hid (k+1<=S.length):=Aa hlt;obtain⟨g',cap',hgg,hg1,hg2,hg3⟩:=zNd G.out.ha HPOS.out;obtain⟨rfl,rfl⟩:g=g'/\cap=cap':=by simpa using hgg
      have c0:wr.cell? ⟨g,k,Sb⟩=Sa (.pointer (Sa ⟨bs2 k,0,Sb⟩)):=hg3 k _ (by simp[hlt]);have hbk:=(G.out.hj k a ha).2;rw[if_neg (cA _),if_neg (cA _)]at hbk;have c1:wr.cell? ⟨bs2 k,0,Sb⟩=Sa (.int .i64 a.num):=by simp only[Al,hbk];exact wI (by omega)
      have e0:wr.cell? ⟨N,0,Sb⟩=Sa (.slice (Sa ⟨rb,ro,Sb⟩) rs.length rc):=by rw[cell_of_row wr N 0 _ _ _ G.out.hV];rfl
      have e1:wr.cell? ⟨N,1,Sb⟩=Sa v1:=by rw[cell_of_row wr N 1 _ _ _ G.out.hV];rfl
      have e2:wr.cell? ⟨N,2,Sb⟩=Sa v2:=by rw[cell_of_row wr N 2 _ _ _ G.out.hV];rfl
      have e3:wr.cell? ⟨N,3,Sb⟩=Sa v3:=by rw[cell_of_row wr N 3 _ _ _ G.out.hV];rfl
      have HA:=Aa ha;have HBK:=Aa hbk
      have HEC:Hid (∀q,Calls Aj 12 #[.agg #[(.slice (Sa ⟨rb,ro,Sb⟩) rs.length rc),v1,v2,v3],.int .i64 a.num] (wr.drewN q) fun e w'=>∃(ev:Value) (fr':Nat->Prop),e=.returned ev/\jW wr w'/\(∀b,fr b->fr' b)/\(∀b,fr' b->(fr b\/wr.heap.size<=b)/\b<w'.heap.size)/\Rd w' (fb fr') ev (.tl qD (es a.num))):=Aa (fun q=>
       (HED.out (wr.drewN q) fr a.num G.out.heap G.out.size G.out.fsub (fun b hb=>(G.out.frb b hb).1) ⟨a,HSM.out k a ha,rfl⟩).mono (by
        rintro e w' ⟨ev,fr',h1,h2,h3,h4,h5⟩
        exact⟨ev,fr',h1,(jW.drawN wr q).trans h2,h3,h4,h5⟩))
      clear ha hbk hg1 hg2 hg3 hgg
      go_upto_region 21 with fail
      go_region_law (go_simp;go_at_call 12;refine(HEC.out _).mono ?_;rintro e W3 ⟨ev,fr3,rfl,h2,h3,h4,h5⟩;have H3:=Aa (Af h2 (Af h3 (Af h4 h5)));obtain⟨ea,ec,rfl⟩:=qE3 h5;have x1:W3.cell? ⟨bs2 k,2,Sb⟩=Sa (.slice Sb 0 0):=qCc (HBK.out) h2;have x2:W3.frozen? ⟨bs2 k,2,Sb⟩=false:=qCb (HBK.out) h2;clear h2 h3 h4 h5)
      .have hW:Hid (∀W:World,W=W3.setCell ⟨bs2 k,2,Sb⟩ (.slice ea (es a.num).length ec)->W.heap[bs2 k]?=Sa (.cells (uF a.num (pv2 k) (.slice ea (es a.num).length ec) a.mem zGF) 175 (0,0))/\But (bs2 k) W3 W):=Aa (by
        rintro W rfl;have h3:=(H3.out.1.heap _ (qR HBK.out)).trans HBK.out;have:=xU (off:=2) (v:=.slice ea (es a.num).length ec) h3;rw[zUG]at this
        exact⟨this,(But.refl _ _).set 2 _⟩)
       have b4:(W3.setCell ⟨bs2 k,2,Sb⟩ (.slice ea (es a.num).length ec)).cell? ⟨B,4,Sb⟩=Sa (.int .i64 n):=by have hB3:=(H3.out.1.heap B (qR G.out.hB)).trans G.out.hB;have hne:B≠bs2 k:=fun hh=>zAd G.out.hB HBK.out (by decide) hh;rw[World.cell?_of_block (a:=⟨B,4,Sb⟩) ((hW.out _ rfl).2.heap B (qR hB3) hne),cell_of_row W3 B 4 _ _ _ hB3];rfl
       generalize W3.setCell ⟨bs2 k,2,Sb⟩ (.slice ea (es a.num).length ec)=W4 at hW b4 ⊢;have hW4:=Aa (hW.out W4 rfl);clear hW x1 x2;have GK:Hid (zLh w W3 B N (.slice (Sa ⟨rb,ro,Sb⟩) rs.length rc) v1 v2 v3 n S (.slice (Sa ⟨g,0,Sb⟩) S.length cap) bs2 pv2 k es ds E fr0 fr3):=Aa (G.out.keep H3.out.1 H3.out.2.1 H3.out.2.2.1)
       have HM:Hid (Calls Aj 95 #[.pointer (Sa ⟨bs2 k,0,Sb⟩),.int .i64 n] W4 fun e w'=>e=.returned (.tuple #[])/\∃(E':Nat->Value) (fr':Nat->Prop),Hid (zLh w w' B N (.slice (Sa ⟨rb,ro,Sb⟩) rs.length rc) v1 v2 v3 n S (.slice (Sa ⟨g,0,Sb⟩) S.length cap) bs2 pv2 (k+1) es ds E' fr0 fr')):=Aa (by
        have hb4:=hW4.out.1;have hkl:k<S.length:=HLT1.out;refine(zND (bs2 k) n (uF a.num (pv2 k) (.slice ea (es a.num).length ec) a.mem zGF) a.mem (.slice ea (es a.num).length ec) W4 zGF hn8 (Aa ⟨by rw[zG2];exact hb4,But.refl _ _⟩) (Aa (fun r hr=>by rw[bf,wI (by omega),if_neg (by omega),if_neg (by omega),if_neg (by omega),if_pos (by omega),show 3+r-3=r by omega];rfl)) (Aa (by rw[bf,wI (by omega)];rfl)) (fun r q=>(ds a.num r).getD q 0) (Aa (fun w1 r hbut hr hmr=>?_))).mono ?_
        .have hbw:But (bs2 k) W3 w1:=hW4.out.2.trans hbut;have hfr:∀b,fr3 b->b<w1.heap.size/\w1.heap[b]?=W3.heap[b]? :=fun b hb=>⟨az (GK.out.frb b hb).1 hbw.size,hbw.heap b (GK.out.frb b hb).1 ((GK.out.frb b hb).2.2.2.1 k hkl)⟩
         refine(HDS.out w1 fr3 a r _ hr (HSM.out k a HA.out) hmr (zRB H3.out.2.2.2 (fun _ h=>h) (fun b hb=>(hfr b hb).2)) (fun b hb=>(hfr b hb).1)).mono ?_;rintro e w2 ⟨b,off,cap,rfl,hst,hb,hc⟩;have hbl:bs2 k<w1.heap.size:=az (qR hb4) hbut.size;refine⟨_,b,off,cap,rfl,rfl,?_,hc,hst.heap _ hbl,⟨fun i hi _=>hst.heap i hi,hst.size,hst.os,hst.tape,hst.output,hst.drawn⟩⟩;rcases hb with hb|hb
         .exact(GK.out.frb b hb).2.2.2.1 k hkl
         .omega
        .rintro e w5 ⟨rfl,hm⟩;have hblk5:=hm.blk;rw[zG2]at hblk5
         exact⟨rfl,_,fr3,Aa (GK.out.next HA.out (hW4.out.2.trans hm.but) H3.out.2.2.2 hblk5)⟩)
       go_wp2_with (go_at_call 95;refine HM.out.mono ?_;rintro e W5 ⟨rfl,E5,fr5,G5⟩)
       go_roundg (S.length- (k+1))
       case measure=>(have:=HLT1.out;omega)
       case rel=>exact⟨k+1,by go_num,HLT1.out,ai _,E5,fr5,G5⟩
      .have hW:Hid (∀W:World,W=W3.setCell ⟨bs2 k,2,Sb⟩ (.slice ea (es a.num).length ec)->W.heap[bs2 k]?=Sa (.cells (uF a.num (pv2 k) (.slice ea (es a.num).length ec) a.mem zGF) 175 (0,0))/\But (bs2 k) W3 W):=Aa (by
        rintro W rfl;have h3:=(H3.out.1.heap _ (qR HBK.out)).trans HBK.out;have:=xU (off:=2) (v:=.slice ea (es a.num).length ec) h3;rw[zUG]at this
        exact⟨this,(But.refl _ _).set 2 _⟩)
       have b4:(W3.setCell ⟨bs2 k,2,Sb⟩ (.slice ea (es a.num).length ec)).cell? ⟨B,4,Sb⟩=Sa (.int .i64 n):=by have hB3:=(H3.out.1.heap B (qR G.out.hB)).trans G.out.hB;have hne:B≠bs2 k:=fun hh=>zAd G.out.hB HBK.out (by decide) hh;rw[World.cell?_of_block (a:=⟨B,4,Sb⟩) ((hW.out _ rfl).2.heap B (qR hB3) hne),cell_of_row W3 B 4 _ _ _ hB3];rfl
       generalize W3.setCell ⟨bs2 k,2,Sb⟩ (.slice ea (es a.num).length ec)=W4 at hW b4 ⊢;have hW4:=Aa (hW.out W4 rfl);clear hW x1 x2;have GK:Hid (zLh w W3 B N (.slice (Sa ⟨rb,ro,Sb⟩) rs.length rc) v1 v2 v3 n S (.slice (Sa ⟨g,0,Sb⟩) S.length cap) bs2 pv2 k es ds E fr0 fr3):=Aa (G.out.keep H3.out.1 H3.out.2.1 H3.out.2.2.1)
       have HM:Hid (Calls Aj 95 #[.pointer (Sa ⟨bs2 k,0,Sb⟩),.int .i64 n] W4 fun e w'=>e=.returned (.tuple #[])/\∃(E':Nat->Value) (fr':Nat->Prop),Hid (zLh w w' B N (.slice (Sa ⟨rb,ro,Sb⟩) rs.length rc) v1 v2 v3 n S (.slice (Sa ⟨g,0,Sb⟩) S.length cap) bs2 pv2 (k+1) es ds E' fr0 fr')):=Aa (by
        have hb4:=hW4.out.1;have hkl:k<S.length:=HLT1.out;refine(zND (bs2 k) n (uF a.num (pv2 k) (.slice ea (es a.num).length ec) a.mem zGF) a.mem (.slice ea (es a.num).length ec) W4 zGF hn8 (Aa ⟨by rw[zG2];exact hb4,But.refl _ _⟩) (Aa (fun r hr=>by rw[bf,wI (by omega),if_neg (by omega),if_neg (by omega),if_neg (by omega),if_pos (by omega),show 3+r-3=r by omega];rfl)) (Aa (by rw[bf,wI (by omega)];rfl)) (fun r q=>(ds a.num r).getD q 0) (Aa (fun w1 r hbut hr hmr=>?_))).mono ?_
        .have hbw:But (bs2 k) W3 w1:=hW4.out.2.trans hbut;have hfr:∀b,fr3 b->b<w1.heap.size/\w1.heap[b]?=W3.heap[b]? :=fun b hb=>⟨az (GK.out.frb b hb).1 hbw.size,hbw.heap b (GK.out.frb b hb).1 ((GK.out.frb b hb).2.2.2.1 k hkl)⟩
         refine(HDS.out w1 fr3 a r _ hr (HSM.out k a HA.out) hmr (zRB H3.out.2.2.2 (fun _ h=>h) (fun b hb=>(hfr b hb).2)) (fun b hb=>(hfr b hb).1)).mono ?_;rintro e w2 ⟨b,off,cap,rfl,hst,hb,hc⟩;have hbl:bs2 k<w1.heap.size:=az (qR hb4) hbut.size;refine⟨_,b,off,cap,rfl,rfl,?_,hc,hst.heap _ hbl,⟨fun i hi _=>hst.heap i hi,hst.size,hst.os,hst.tape,hst.output,hst.drawn⟩⟩;rcases hb with hb|hb
         .exact(GK.out.frb b hb).2.2.2.1 k hkl
         .omega
        .rintro e w5 ⟨rfl,hm⟩;have hblk5:=hm.blk;rw[zG2]at hblk5
         exact⟨rfl,_,fr3,Aa (GK.out.next HA.out (hW4.out.2.trans hm.but) H3.out.2.2.2 hblk5)⟩)
       go_wp2_with (go_at_call 95;refine HM.out.mono ?_;rintro e W5 ⟨rfl,E5,fr5,G5⟩)
       go_roundg (S.length- (k+1))
       case measure=>(have:=HLT1.out;omega)
       case rel=>exact⟨k+1,by go_num,HLT1.out,ai _,E5,fr5,G5⟩
     .have hkl:S.length=k:=by omega
      subst hkl
      go_wp2_with fail
      go_ret
      exact HFIN.out _ _ _ G.out
variable {l:Blk->Prop}{a4:Ty.El zF}
theorem zQ6(h:Rd i l g (zF.enc a4)):∃e f u w,g=.agg #[e,f,u,w]/\Rd i l e (.tl zG a4.1.1)/\Rd i l f (.tl uR a4.2.1.1)/\Rd i l u (.tl tI a4.2.1.2.1)/\Rd i l w (.tl tI a4.2.2.1):=by
 have h:Rd i l g (.agg [.tl zG a4.1.1,.tl uR a4.2.1.1,.tl tI a4.2.1.2.1,.tl tI a4.2.2.1]):=h
 cases h with
 |agg j m k h=>
  obtain⟨F⟩:=j
  match F,k with
  |[a,b,c,d],_=>exact⟨a,b,c,d,rfl,h 0 a _ rfl rfl,h 1 b _ rfl rfl,h 2 c _ rfl rfl,h 3 d _ rfl rfl⟩
theorem qBI{xs:List (Ty.El z6)}(h:Rd i l g (.tl z6 xs)):∃n z,g=.slice n xs.length z/\(xs≠[]->∃p q,n=Sa ⟨p,q,Sb⟩/\∀w x,xs[w]?=Sa x->∀m,m<12->i.cell? ⟨p,q+w*12+m,Sb⟩=Sa (ifc x m)):=by
 cases h with
 |tl _ _ _ h=>
  generalize A:xs.map z6.enc=j at h;have c:j.length=xs.length:=by rw[<-A];simp
  cases h with
  |slemp a d=>
   simp_all
  |sl b F d k j u B r C D E=>
   refine⟨_,d,by rw[c],fun G=>⟨b,F,rfl,fun w x H m I=>?_⟩⟩;have J:=(aa.1 H).1;have e:j[w]?=Sa (z6.enc x):=by grind
   have f:k=12:=by have:=C _ (ae e);rw[wZ]at this;exact this.symm
   subst f
   obtain⟨g,t⟩:∃g,(z6.enc x).cells[m]?=Sa (.val g)/\ifc x m=g:=by
    match m,I with
    |0,_=>exact⟨_,rfl,rfl⟩
    |1,_=>exact⟨_,rfl,rfl⟩
    |2,_=>exact⟨_,rfl,rfl⟩
    |3,_=>exact⟨_,rfl,rfl⟩
    |4,_=>exact⟨_,rfl,rfl⟩
    |5,_=>exact⟨_,rfl,rfl⟩
    |6,_=>exact⟨_,rfl,rfl⟩
    |7,_=>exact⟨_,rfl,rfl⟩
    |8,_=>exact⟨_,rfl,rfl⟩
    |9,_=>exact⟨_,rfl,rfl⟩
    |10,_=>exact⟨_,rfl,rfl⟩
    |11,_=>exact⟨_,rfl,rfl⟩
   have y:=D (w*12+m) (by rw[c];omega);rw[<-bx]at y;rw[y,t.2];exact congrArg Sa (Rd.eq_val (E w m _ _ e t.1))
theorem zYT{d:List (Ty.El zG)}(h:Rd i l g (.tl zG d))(y:d≠[]):VAt i (d.map wH) g:=by
 cases h with
 |tl _ _ _ h=>
  generalize p:d.map zG.enc=j at h;have F:j.length=d.length:=by rw[<-p];simp
  cases h with
  |slemp a e=>grind
  |sl b m e k j u z q A B C=>
   refine⟨b,m,e,by grind,fun r J c=>?_⟩;rw[aA]at c
   cases n:d[r]? with
   |none=>grind
   |some x=>
    rw[n]at c;cases c;have K:=(aa.1 n).1;have f:j[r]?=Sa (zG.enc x):=by rw[<-p,aA,n];rfl
    have w:k=25:=by have:=A _ (ae f);rw[wZ]at this;exact this.symm
    subst w;have t:=B (r*25+2) (by rw[F];omega);rw[<-bx]at t;have D:=C r 2 _ (.tl z6 (wH x)) f rfl;obtain⟨E,G,H,I⟩:=qBI D;exact⟨E,G,by rw[t,H],I⟩
theorem qAC:∀{l k:List AR},l.Perm k->l.Pairwise (fun a b=>a.num<=b.num)->k.Pairwise (fun a b=>a.num<=b.num)->(∀a b,a∈l->b∈l->a.num=b.num->a=b)->l=k
 |[],k,h,_,_,_=>(List.nil_perm.1 h).symm
 |a::l,[],h,_,_,_=>absurd h.length_eq (by simp)
 |a::l,b::k,h,f,g,i=>by
  have e:a=b:=by
   have c:b∈a::l:=h.symm.subset (by simp);have d:a∈b::k:=h.subset (by simp);rcases bi.1 d with rfl|d
   .rfl
   rcases bi.1 c with rfl|c;all_goals grind[List.pairwise_cons,Int.le_antisymm]
  subst e;rw[qAC (List.Perm.cons_inv h) (bt.1 f).2 (bt.1 g).2 (fun x y j m=>i x y (by simp[j]) (by simp[m]))]
theorem zKp(S:List AR):(zCr S).Perm S:=cR _ _
theorem qCv(S:List AR):(zCr S).Pairwise (fun a b=>a.num<=b.num):=by have h:=dp (le:=fun a b:AR=>decide (a.num<=b.num)) (fun a b c e f=>by grind) (fun a b=>by grind) S;exact h.imp (fun h=>by simpa using h)
theorem qBe{d:AR}{l:List Nat}(e:l.Perm (List.range I.length))(f:l.Pairwise fun i j=>(I.getD i d).num< (I.getD j d).num)(hi:∀(i j:Nat) (a b:AR),I[i]?=Sa a->I[j]?=Sa b->a.num=b.num->i=j):
  l.map (fun i=>I.getD i d)=zCr I:=by
 have g:(List.range I.length).map (fun i=>I.getD i d)=I:=by
  refine bT fun i=>?_
  grind
 have c:(l.map fun i=>I.getD i d).Perm I:=by
  grind
 refine qAC (c.trans (zKp I).symm) ?_ (qCv I) ?_;all_goals grind
theorem qDt{n:Nat}{xs:List Value}(h:i.ownsRow j P a1 g n xs)(size:∀e:Nat,g.ownBlock=Sa e->l (.b e))(es:List V)(a:es.length=n)(p:∀d,d∈es->d.cells.length=a1)(z:∀(w f:Nat) (d c:V),es[w]?=Sa d->d.cells[f]?=Sa c->∃u,xs[w*a1+f]?=Sa u/\Rd i l u c):Rd i l g (.sl es):=by
 obtain⟨A,q⟩:=h;rcases q with⟨rfl,r⟩|⟨e,k,t,rfl,_,x,y,_,B,C⟩
 .obtain rfl:=cS.1 (a.trans r);exact .slemp Sb 0
 .subst a;refine .sl e 0 k a1 es (fun m=>xs.getD m (.int .i64 0)) (size e rfl) y p (fun m D=>?_) (fun w f d c E G=>?_)
  .have H:xs[m]?=Sa (xs.getD m (.int .i64 0)):=by
    grind
   refine(cell_of_row i e (0+m) _ _ _ x).trans ?_
   grind
  grind
theorem zGV{α β:Type}{f:α->Option β}{xs:List α}{a:List β}(h:zCn f xs=Sa a){x:α}(c:xs[j]?=Sa x):∃y,a[j]?=Sa y/\f x=Sa y:=by
 obtain⟨g,d⟩:=zB4 h;have i:=(aa.1 c).1;obtain⟨k,e,l⟩:=d j a[j] (ah (by omega))
 grind
theorem zTW:∀{l:List (Int×Int×Int×Int)} {i:Nat} {p:Int×Int×Int×Int},l[i]?=Sa p->∀j,j<4->(uU l)[i*4+j]?=[Ac .i64 p.1,.int .u32 p.2.1,.int .i64 p.2.2.1,.int .i64 p.2.2.2][j]?
 |[],i,p,h,j,a=>by simp at h
 |x::l,0,p,h,j,a=>by
  cases h;have:uU (x::l)=[.int .i64 x.1,.int .u32 x.2.1,.int .i64 x.2.2.1,.int .i64 x.2.2.2]++uU l:=rfl
  grind
 |x::l,i+1,p,h,j,a=>by
  have:uU (x::l)=[.int .i64 x.1,.int .u32 x.2.1,.int .i64 x.2.2.1,.int .i64 x.2.2.2]++uU l:=rfl;rw[this,aF (by simp;omega)];have h:l[i]?=Sa p:=by simpa using h
  rw[<-zTW h j a];congr 1;simp;omega
theorem zZY(num:Int)(a:List (Ty.El zJv))(es:List (Ty.El qD))(g:Nat->Bool)(f:Nat->Nat->Int):qN.cells (num,a,es,b8 g,i88 f,())=(List.range 75).map fun i=>
  if i=0 then .val (.int .i64 num)else if i=1 then .tl zJv a else if i=2 then .tl qD es else if i<11 then .val (.bool (g (i-3)))else .val (.int .i64 (f ((i-11) / 8) ((i-11)%8))):=by kernel_rfl
def qE7(B:Nat)(a:Value)(c:Nat->Value)(m:Nat)(fr:Nat->Prop)(b:Nat):Prop:=fr b\/b=B\/a.ownBlock=Sa b\/∃j,j<m/\(c j).ownBlock=Sa b
def qE6(F:Blk->Prop)(n B:Nat)(f:Nat->Nat)(v:Ty.El qL)(zs:List (Ty.El qN))(d:Nat->Prop):Blk->Prop
 |.b b=>d b
 |.s b=>d b
 |.h id a k c=>F (.h id a k c)
 |.k id b e=>(id=n/\b=B/\e=qL.cells v)\/∃j z,zs[j]?=Sa z/\id=16*(j+1)+n/\b=f j/\e=qN.cells z
theorem qF0{F:Blk->Prop}{a:AR}{z:Ty.El qN}{es:List (Ty.El qD)}{d:Nat->List Int}(G:zDv a4 P a=Sa z)(u:∀l,jD (a4,a.num,())=Sa l->es=l)(L:∀r x,r<P->a.mem r=Sc->Option.bind (jH (((P:Nat):Int),es,((r:Nat):Int),())) (fun d:List Int=>if d.length=P then Sa d else Sb)=Sa x->d r=x)(A:i.ownsRow j 177 4 g a.parts.length (uU a.parts))(B:∀v:Nat,g.ownBlock=Sa v->F (.b v))(Q:Rd i F J (.tl qD es)):
  ∀(m:Nat) (c:V),(qN.cells z)[m]?=Sa c->∃x,(uF a.num g J a.mem (fun q=>.int .i64 (if q / 8<P/\a.mem (q / 8)=Sc/\q%8<P then(d (q / 8)).getD (q%8) 0 else-1)))[m]?=Sa x/\Rd i F x c:=by
 simp only[zDv,aG,ac]at G;obtain⟨l,M,O,C,rfl⟩:=G;obtain rfl:=u l M;intro m c e;rw[zZY,aA]at e;by_cases H:m<75
 .rw[bj H]at e;simp only[bv,ac]at e;subst e;refine⟨_,wI (by omega),?_⟩;by_cases t:m=0
  .simp only[if_pos t];exact .val _
  by_cases D:m=1
  .simp[if_neg t,if_pos D];refine .tl _ _ _ (qDt A B _ (by simp) (fun x k=>?_) (fun w N x c k e=>?_))
   .simp only[aO]at k;obtain⟨y,_,rfl⟩:=k;rfl
   .simp only[aA,ak]at k;obtain⟨y,⟨p,A,rfl⟩,rfl⟩:=k;have f:∀N,N<4->(uU a.parts)[w*4+N]?=[Ac .i64 p.1,.int .u32 p.2.1,.int .i64 p.2.2.1,.int .i64 p.2.2.2][N]? :=zTW A
    match N,e with
    |0,e=>cases e;exact⟨_,f 0 (by decide),.val _⟩
    |1,e=>cases e;exact⟨_,f 1 (by decide),.val _⟩
    |2,e=>cases e;exact⟨_,f 2 (by decide),.val _⟩
    |3,e=>cases e;exact⟨_,f 3 (by decide),.val _⟩
  by_cases I:m=2
  .grind
  by_cases h:m<11
  .simp[if_neg t,if_neg D,if_neg I,if_pos h];exact .val _
  .simp only[if_neg t,if_neg D,if_neg I,if_neg h,if_pos H];by_cases e:(m-11) / 8<P/\a.mem ((m-11) / 8)=Sc/\(m-11)%8<P
   .simp only[if_pos e];obtain⟨y,n,K⟩:=zGV C (bj e.1);rw[if_pos e.2.1]at K;rw[L _ y e.1 e.2.1 K,ba (l:=O),n];exact .val _
   .simp only[if_neg e];exact .val _
 grind
theorem qAJ{xs:List Int}(h:Rd i l g (.tl tI xs))(m:xs≠[]):∃b off cap,g=.slice (Sa ⟨b,off,Sb⟩) xs.length cap/\l (.b b)/\∀q,q<xs.length->i.cell? ⟨b,off+q,Sb⟩=Sa (.int .i64 (xs.getD q 0)):=by
 cases h with
 |tl _ _ _ h=>
  generalize n:xs.map tI.enc=e at h;have c:e.length=xs.length:=by grind
  cases h with
  |slemp a cap=>grind
  |sl b off cap k e u f j p r t=>
   refine⟨b,off,cap,by rw[c],f,fun q x=>?_⟩;have d:e[q]?=Sa (.val (.int .i64 (xs.getD q 0))):=by rw[<-n,aA,ba,ah x];rfl
   have w:k=1:=(p _ (ae d)).symm;subst w;have y:=r q (by rw[c];omega);rw[y];have F:=t q 0 _ (.val (.int .i64 (xs.getD q 0))) d rfl;rw[dJ,Nat.add_zero]at F;exact congrArg Sa (Rd.eq_val F)
theorem qE5{E:Nat->Value}{es:Int->List (Ty.El qD)}{ds:Int->Nat->List Int}{ab fr:Nat->Prop}{zs:List (Ty.El qN)}(G:zLh i C j P g J a3 a2 a1 I a6 a5 a0 I.length es ds E ab fr)(hn:a1<=8)(ad:Rd C (fb fr) g (.tl zG a4.1.1))(ag:Rd C (fb fr) J (.tl uR a4.2.1.1))(al:Rd C (fb fr) a3 (.tl tI a4.2.1.2.1))(an:Rd C (fb fr) a2 (.tl tI a4.2.2.1))(hz:zCn (zDv a4 a1) I=Sa zs)(ao:∀a F,a∈I->jD (a4,a.num,())=Sa F->es a.num=F)(hd:∀a r x,a∈I->r<a1->a.mem r=Sc->Option.bind (jH (((a1:Nat):Int),es a.num,((r:Nat):Int),())) (fun d:List Int=>if d.length=a1 then Sa d else Sb)=Sa x->ds a.num r=x):
  zIa HH (qE6 l a1 j a5 (a4,((a1:Nat):Int),zs.zipIdx.map (fun a=>Sa (16*(a.2+1)+a1,a.1)),()) zs (qE7 j a6 a0 I.length fr)) (fun b=>∃B,B<I.length/\b=a5 B) C:=by
 have N:I.length=zs.length:=(zB4 hz).1;have k:∀{B:Nat} {z:Ty.El qN},zs[B]?=Sa z->∃a,I[B]?=Sa a/\zDv a4 a1 a=Sa z:=fun hj=>(zB4 hz).2 _ _ hj;have q:∀(b:Nat),fb fr b->stF (qE6 l a1 j a5 (a4,((a1:Nat):Int),zs.zipIdx.map (fun a=>Sa (16*(a.2+1)+a1,a.1)),()) zs (qE7 j a6 a0 I.length fr)) b:=fun b hb=>.inl hb
 have O:∀(m:Nat) (c:V),(qL.cells (a4,((a1:Nat):Int),zs.zipIdx.map (fun a=>Sa (16*(a.2+1)+a1,a.1)),()))[m]?=Sa c->∃x,(#[g,J,a3,a2,Ac .i64 a1,a6])[m]?=Sa x/\
   Rd C (stF (qE6 l a1 j a5 (a4,((a1:Nat):Int),zs.zipIdx.map (fun a=>Sa (16*(a.2+1)+a1,a.1)),()) zs (qE7 j a6 a0 I.length fr))) x c:=by
  intro m c f
  match m,f with
  |0,f=>cases f;exact⟨_,rfl,zA6 (t:=.sl zG) (x:=a4.1.1) q rfl ad⟩
  |1,f=>cases f;exact⟨_,rfl,zA6 (t:=.sl uR) (x:=a4.2.1.1) q rfl ag⟩
  |2,f=>cases f;exact⟨_,rfl,zA6 (t:=.sl tI) (x:=a4.2.1.2.1) q rfl al⟩
  |3,f=>cases f;exact⟨_,rfl,zA6 (t:=.sl tI) (x:=a4.2.2.1) q rfl an⟩
  |4,f=>cases f;exact⟨_,rfl,.val _⟩
  |5,f=>
   cases f;refine⟨_,rfl,.tl _ _ _ (qDt G.ha (fun n hg=>.inr (.inr (.inl hg))) _ (by simp[N]) (fun x H=>?_) (fun w B x c H f=>?_))⟩
   .simp only[aO]at H;obtain⟨y,_,rfl⟩:=H;rfl
   .simp only[aA,ak]at H;obtain⟨y,⟨p,hp,rfl⟩,rfl⟩:=H;rw[List.getElem?_zipIdx]at hp;simp only[ak]at hp;obtain⟨z,e,rfl⟩:=hp;have ap:w<I.length:=by rw[N];exact(aa.1 e).1
    match B,f with
    |0,f=>cases f;refine⟨.pointer (Sa ⟨a5 w,0,Sb⟩),by simp[ap],?_⟩;exact .pt qN _ _ z (.inr ⟨w,z,e,by simp,rfl,rfl⟩)
 refine⟨?_,fun a1 hn=>hn,?_,?_,?_,?_⟩
 .rintro b ⟨B,hj,rfl⟩;exact qR (G.hj B _ (ah hj)).2
 .rintro id b cs (⟨rfl,rfl,rfl⟩|⟨B,z,e,rfl,rfl,rfl⟩)
  .exact⟨.inr (.inr (.inl rfl)),_,_,G.hB,O⟩
  .obtain⟨a,h,Bv⟩:=k e;have u:=(aa.1 h).1;have w':=ae h;have A:=(G.hj B a h).2;rw[if_pos u,if_pos u]at A;refine⟨.inl ⟨B,u,rfl⟩,_,_,A,qF0 Bv (fun F hl=>ao a F w' hl) (fun r x hr hm H=>hd a r x w' hr hm H) (G.hp B a h) (fun n hg=>.inr (.inr (.inr ⟨B,u,hg⟩))) (zA6 (t:=.sl qD) (x:=es a.num) q rfl (G.hE B a h u))⟩
 .rintro id ax b b' cs v2 (⟨rfl,rfl,rfl⟩|⟨B,z,e,rfl,rfl,rfl⟩) (⟨A,v1,L⟩|⟨Y,z',Z,A,v1,L⟩)
  .rw[A,v1];simp
  .obtain⟨a,h,_⟩:=k Z;rw[A,v1];exact⟨fun D=>absurd D (zAd G.hB (G.hj Y a h).2 (by decide)),fun D=>by omega⟩
  .obtain⟨a,h,_⟩:=k e;rw[A,v1];exact⟨fun D=>absurd D.symm (zAd G.hB (G.hj B a h).2 (by decide)),fun D=>by omega⟩
  .obtain⟨a,h,_⟩:=k e;obtain⟨a',ay,_⟩:=k Z;have l1:=(aa.1 h).1;have l2:=(aa.1 ay).1;rw[A,v1];exact⟨fun D=>by rw[G.inj B Y l1 l2 D],fun D=>by rw[show B=Y by omega]⟩
 .rintro id b x (⟨rfl,rfl,L⟩|⟨B,z,e,rfl,rfl,L⟩) ax cs (⟨A,v1,Q⟩|⟨Y,z',Z,A,v1,Q⟩)
  .rw[Q];show(6:Nat)<=75;decide
  .rw[Q];exact ai 75
  .rw[Q];show(6:Nat)<=75;decide
  .rw[Q];exact ai 75
 .rintro id b x (⟨rfl,rfl,L⟩|⟨B,z,e,rfl,rfl,L⟩)
  .exact absurd (congrArg List.length L) (by show ¬(75:Nat)=6;decide)
  .obtain⟨a,h,Bv⟩:=k e;refine⟨⟨B,(aa.1 h).1,rfl⟩,_,_,(G.hj B a h).2,fun r hr=>⟨.slice Sb 0 0,?_,.inl rfl⟩⟩;rw[wI (by omega)];simp[if_neg (show ¬75+r=1 by omega),if_neg (show ¬75+r=2 by omega),if_neg (show ¬75+r<11 by omega),if_neg (show ¬75+r<75 by omega)]
theorem zHg:jJ (ptB HH) Aj G0 54 (z7 (zBQ (zBv [zF]) (.p (.pt qL)) vX)):=by
 intro w F O s D al s' r ao hG hF ad a2 A;simp[z7,zBQ]at A
 cases W:zBv [zF] al with
 |none=>grind
 |some x=>
  rw[W]at A;have ap:=kH _ _ _ W;obtain⟨v,⟨⟩⟩:=x
  cases s with
  |true=>
   have A:(Sb:Option (Bool×RV))=Sa (s',r):=A;cases A
  |false=>
   obtain⟨hO,hK⟩:(∀b,¬O b)/\NoK F:=ao;have A:Option.map (fun y:Bool×(RTy.p (.pt qL)).El=>(y.1,(RTy.p (.pt qL)).res y.2)) ((zD8 v).map fun s=>(Sc,Sa s))=Sa (s',r):=A
   obtain⟨st,C,a3⟩:∃st,zD8 v=Sa st/\((Sc,(RTy.p (.pt qL)).res (Sa st)):Bool×RV)=(s',r):=by
    cases cp:zD8 v with
    |none=>grind
    |some st=>grind
   cases a3;simp only[zD8]at C;split at C
   .cases C
   rename_i cq;split at C
   .cases C
   rename_i h8;simp[aG]at C;obtain⟨K,ax,zs,Y,rfl⟩:=C;have a4:al.length=1:=ap.len;obtain⟨l⟩:=D;have a5:l.length=1:=by grind
   match l,al,a5,a4 with
   |[a0],[d0],_,_=>
    have ay:Rd w F a0 (zF.enc v):=ap.get 0 _ _ rfl rfl w F a0 (a2 0 a0 d0 rfl rfl);obtain⟨v0,v1,v2,v3,rfl,a6,cr,cv,cx⟩:=zQ6 ay
    have a9:zV v≠[]:=by
     grind
    generalize hS:qV (fun r i=>(K.getD r []).getD i Sd) zNB ((zV v).map wH) (zV v).length=S at*
    generalize hn:(zV v).length=n at*
    have N:∀b,F (.b b)->b<w.heap.size:=fun b m=>(hF b m).1;have ag:∀a,a∈S↔a∈zCr S:=fun a=>(zKp S).symm.mem_iff
    have Y:zCn (zDv v n) (zCr S)=Sa zs:=by
     grind[zSK,zCr]
    have bb:∀a,a∈S->∃l,jD (v,a.num,())=Sa l:=by intro a ha;obtain⟨i,hi⟩:=bQ ((ag a).1 ha);obtain⟨z,_,hz⟩:=zGV Y hi;simp only[zDv,aG]at hz;obtain⟨l,Z,_⟩:=hz;exact⟨l,Z⟩
    have bd:∀a r,a∈S->r<n->a.mem r=Sc->∃d,jH (((n:Nat):Int),(jD (v,a.num,())).getD [],((r:Nat):Int),())=Sa d/\d.length=n:=by
     intro a r ha Q hm;obtain⟨i,hi⟩:=bQ ((ag a).1 ha);obtain⟨z,_,hz⟩:=zGV Y hi;simp only[zDv,aG]at hz;obtain⟨l,Z,ds,be,_⟩:=hz;obtain⟨y,_,hf⟩:=zGV be (bj Q);rw[if_pos hm]at hf;simp only[aG]at hf;obtain⟨d,g,hf⟩:=hf;refine⟨d,by rw[Z];exact g,?_⟩;split at hf
     .assumption
     .cases hf
    have I:∀(H:World) (J:Nat->Prop),(∀k,k<w.heap.size->H.heap[k]?=w.heap[k]?)->(∀b,F (.b b)->J b)->Rd H (fb J) (.agg #[v0,v1,v2,v3]) (zF.enc v):=by intro H J h1 h2;have:=zA6 (t:=zF) (x:=v) (F:=F) (F':=fb fun b=>F (.b b)) (fun b m=>m) rfl ay;exact zRB this h2 (fun b m=>h1 b (N b m))
    have P:=qCS w v0 v1 v2 v3 n ((zV v).map wH) (by grind) (fun r i=>(K.getD r []).getD i Sd) zNB (Aa (zYT a6 a9))
     (Aa (by
      intro r xs Q;rw[aA,ak]at Q;obtain⟨x,W,rfl⟩:=Q;have hm:=ae W;simp only[bq,decide_eq_true_eq,not_exists,not_and]at h8;have:=h8 x hm
      omega))
     (Aa (by
      intro H r i xs x h1 h2 Q hi;rw[aA,ak]at Q;obtain⟨y,hy,rfl⟩:=Q;have bk:r<n:=by rw[<-hn];exact(aa.1 hy).1
      obtain⟨ts,bn,hf⟩:=zGV ax (bj bk);have bo:(zV v).getD r default=y:=by rw[ba,hy];rfl
      rw[bo]at hf;obtain⟨t,ht,a1⟩:=zGV hf (bj (aa.1 hi).1);rw[hi]at a1;have b0:(K.getD r []).getD i Sd=t:=by rw[ba (l:=K),bn];show ts.getD i Sd=t;rw[ba,ht];rfl
      refine(zIM (args:= #[.agg #[v0,v1,v2,v3],.int .i64 r,.int .i64 i,.int .i64 (w7 x)]) rfl zDc (x:=(v,((r:Nat):Int),((i:Nat):Int),w7 x,())) (y:=t) a1 (wr:=H) (fr:=fun b=>F (.b b)) (fun b m=>az (N b m) h2) rfl (fun k u d f g=>?_)).mono ?_
      .match k,f,g with
       |0,f,g=>cases f;cases g;exact I H _ h1 (fun _ h=>h)
       |1,f,g=>cases f;cases g;exact .val _
       |2,f,g=>cases f;cases g;exact .val _
       |3,f,g=>cases f;cases g;exact .val _
      .rintro e w' ⟨u,L,rfl,C,_,_,f⟩;rw[Rd.eq_val f]
       exact⟨by show _=Ending.returned (.bool ((K.getD r []).getD i Sd));rw[b0],C⟩))
     (Aa (by
      intro H a l;refine(zIM (args:= #[.int .u32 a,.int .i64 l]) (ty:=zD) rfl zI0 (x:=(a,l,())) (y:=kX a l) (xI a l) (wr:=H) (fr:=fun _=>False) (fun b m=>m.elim) rfl (fun k u d f g=>?_)).mono ?_
      .match k,f,g with
       |0,f,g=>cases f;cases g;exact .val _
       |1,f,g=>cases f;cases g;exact .val _
      .rintro e w' ⟨u,L,rfl,C,_,_,f⟩;have:=qHH (x:=.int .u32 (kX a l).1) (y:=.int .i64 (kX a l).2.1) f;subst this;refine⟨?_,C⟩;have:zNB a l=((kX a l).1,(kX a l).2.1):=by unfold zNB;rw[xI]
       rw[this]))
     (fun b=>F (.b b)) (Aa N) (fun ab=>(jD (v,ab,())).getD []) (fun ab r=>(jH (((n:Nat):Int),(jD (v,ab,())).getD [],((r:Nat):Int),())).getD [])
     (Aa (by
      rintro H J ab h1 h2 h3 h4 ⟨a,ha,rfl⟩;obtain⟨l,Z⟩:=bb a (by grind);refine(zIM (args:= #[.agg #[v0,v1,v2,v3],.int .i64 a.num]) (ty:=.sl qD) rfl zMf (x:=(v,a.num,())) (y:=l) Z (wr:=H) (fr:=J) h4 rfl (fun k u d f g=>?_)).mono ?_
      .match k,f,g with
       |0,f,g=>cases f;cases g;exact I H _ h1 h3
       |1,f,g=>cases f;cases g;exact .val _
      .rintro e w' ⟨u,L,rfl,C,c1,c2,f⟩;refine⟨u,L,rfl,C,c1,c2,?_⟩;show Rd w' (fb L) u (.tl qD ((jD (v,a.num,())).getD []))
       rw[Z];exact f))
     (Aa (by
      intro H J a r ev Q ha hm b1 b2;obtain⟨d,g,b3⟩:=bd a r (by grind) Q hm;refine(zIM (args:= #[.int .i64 n,ev,.int .i64 r]) (ty:=.sl tI) rfl zHM (x:=(((n:Nat):Int),(jD (v,a.num,())).getD [],((r:Nat):Int),())) (y:=d) g (wr:=H) (fr:=J) b2 rfl (fun k u d f g=>?_)).mono ?_
      .match k,f,g with
       |0,f,g=>cases f;cases g;exact .val _
       |1,f,g=>cases f;cases g;exact b1
       |2,f,g=>cases f;cases g;exact .val _
      .rintro e w' ⟨u,L,rfl,C,c1,c2,f⟩;obtain⟨b,b4,b5,rfl,m,b6⟩:=qAJ (show Rd w' (fb L) u (.tl tI d)from f) (by grind);refine⟨b,b4,b5,by rw[b3],C,(c2 b m).1,fun q hq=>?_⟩
       grind))
    have cc:qV (fun r i=>(K.getD r []).getD i Sd) zNB ((zV v).map wH) n=S:=hS;rw[cc]at P;refine P.mono ?_;rintro e w' ⟨B,Bv,l,av,bs,pv,E,J,rfl,an,cf,G⟩;have Z:l.map (fun i=>S.getD i ⟨0,[],fun _=>Sd⟩)=zCr S:=qBe an cf (by grind[zL3]);have ad:S.length=(zCr S).length:=(zKp S).symm.length_eq;rw[Z,ad]at G;have ch:∀k,k<w.heap.size->w'.heap[k]?=w.heap[k]? :=G.heap;have ck:=I w' J ch G.fsub;obtain⟨_,_,_,_,he,q0,q1,q2,q3⟩:=zQ6 ck;cases he;refine⟨_,qE6 F n B bs (v,((n:Nat):Int),zs.zipIdx.map (fun a=>Sa (16*(a.2+1)+n,a.1)),()) zs (qE7 B av pv (zCr S).length J),fun b=>∃j,j< (zCr S).length/\b=bs j,rfl,?_,⟨G.os,G.tape,G.output,G.size,fun b m _=>G.heap b m,G.drawn⟩,?_,⟨?_,?_⟩,?_,?_⟩
    .refine qE5 G (by omega) q0 q1 q2 q3 Y (fun a l ha Z=>by grind) (fun a r x ha Q hm W=>?_);simp only[aG]at W;obtain⟨d,g,W⟩:=W;show(jH (((n:Nat):Int),(jD (v,a.num,())).getD [],((r:Nat):Int),())).getD []=x;rw[g];split at W;all_goals grind
    .rintro b ⟨j,M,rfl⟩;exact .inr (G.hj j _ (ah M)).1
    .intro b m
     cases b with
     |b b=>exact .inl (G.fsub b m)
     |s b=>exact absurd m (hK.2 b)
     |h id a k c=>exact m
     |k id b cs=>exact absurd m (hK.1 id b cs)
    .rintro b (m|rfl|m|⟨j,M,m⟩)
     .exact(G.frn b m).elim (fun h=>.inr (.inr ⟨⟨trivial,trivial⟩,h⟩)) (fun h=>.inr (.inl h))
     .exact .inr (.inl G.nB)
     .exact .inr (.inl (q9 G.ha m).1)
     .exact .inr (.inl (q9 (G.hp j _ (ah M)) m).1)
    .rintro b (m|rfl|m|⟨j,M,m⟩)
     .exact⟨(G.frn b m).imp id id,(G.frb b m).1,fun⟨j,M,hh⟩=>(G.frb b m).2.2.2.1 j M hh⟩
     .exact⟨.inr G.nB,qR G.hB,fun⟨j,M,hh⟩=>zAd G.hB (G.hj j _ (ah M)).2 (by decide) hh⟩
     .obtain⟨c1,c2,cl,c3⟩:=q9 G.ha m;exact⟨.inr c1,c2,fun⟨j,M,hh⟩=>zAd c3 (G.hj j _ (ah M)).2 (by decide) hh⟩
     .obtain⟨c1,c2,cl,c3⟩:=q9 (G.hp j _ (ah M)) m;exact⟨.inr c1,c2,fun⟨j,M,hh⟩=>zAd c3 (G.hj j _ (ah M)).2 (by decide) hh⟩
    .exact .pt qL n B _ (.inl ⟨rfl,rfl,rfl⟩)
end Go.Ve

/- law16 -/
import Derived.Test.YtgiopebfjmfmhaaGreatLp3
import Derived.Test.YtgiopebfjmfmhaaGreatLp11
import Derived.Test.YtgiopebfjmfmhaaGreatLp15
import Derived.Test.YtgiopebfjmfmhaaGreatLp13
set_option linter.unusedVariables false
namespace Go.Ve
open Go Go.Proofs Go.Shelf Go.RowKit Go.Lib Go.Sort
theorem zWQ{w:World}{F:Blk->Prop}{b k cap:Nat}{es a:List V}(h:qP w F b k cap (es++a)):qP w F b k cap es:=by obtain⟨c,d,f,g,l,i,m⟩:=h;refine⟨c,d,f,g,?_,fun e j=>i e (cO _ j),?_⟩;all_goals grind
section
variable {α:Type}[Inhabited α][DecidableEq α]
theorem zPZ(d:Array α)(m:Nat):(compactUpTo d m).length<=m:=by
 grind[List.length_map,Nat.le_trans,List.length_filter_le,compactUpTo]
theorem zSE(d:Array α){m:Nat}(h:0<m):compactUpTo d m≠[]:=by unfold compactUpTo;rw[Ne,List.map_eq_nil_iff];exact List.ne_nil_of_mem (aU.2 ⟨aV.2 h,keeps_lt_one d 0 (by omega)⟩)
end
theorem qEh{P:Program}{T:TypeId}{t:Ty}(c:t.flat=true){eq:t.El->t.El->Bool}(e:P.eqGuardType P.depth T=false)
  (h:∀x y,eqV (j6.of P) 10000 T (.agg (t.cells x)) (.agg (t.cells y))=some (eq x y)):EqlAt P T (fun x=>.agg (t.vals x).toArray) eq/\NeqAt P T (fun x=>.agg (t.vals x).toArray) eq:=by
 have f:∀x y w,(Op.equal T (.agg (t.vals x).toArray) (.agg (t.vals y).toArray)).run P w=.ok (eq x y) w:=fun x y w=>
  zO6 (P:=P) (w:=w) (F:=fun _=>False) 10000 T _ _ _ _ _ (zQM c x) (zQM c y) (h x y)
 have d:GuardAt P T (fun x=>.agg (t.vals x).toArray):=GuardAt.agg (fun x=>(t.vals x).toArray) e;refine⟨⟨fun x y w=>?_,d⟩,⟨fun x y w=>?_,d⟩⟩
 .have a:binOp .eql T (.agg (t.vals x).toArray) (.agg (t.vals y).toArray)=(do pure (.bool (<-Op.equal T (.agg (t.vals x).toArray) (.agg (t.vals y).toArray)))):=rfl;simp_all
 .have a:binOp .neq T (.agg (t.vals x).toArray) (.agg (t.vals y).toArray)=(do pure (.bool (!(<-Op.equal T (.agg (t.vals x).toArray) (.agg (t.vals y).toArray))))):=rfl;simp_all
theorem zTn{P:Program}{ρ:Ren}{f:FuncId}{a b:Ty}[Inhabited (Ty.pair a b).El][DecidableEq (Ty.pair a b).El](j:(Ty.pair a b).flat=true)(L:qAf P ρ)(N:f=ρ.f 43)
  (Q:∀w,(isAgg (ρ.t 23)).run P w=.ok true w) (S:∀w,(Go.sizeOf (ρ.t 23)).run P w=.ok (Ty.pair a b).size w) (m:(Ty.pair a b).El) (I:∀w,(zeroValue (ρ.t 23)).run P w=.ok (.agg ((Ty.pair a b).vals m).toArray) w)
  (W:P.eqGuardType P.depth (ρ.t 23)=false) (Y:∀x y,eqV (j6.of P) 10000 (ρ.t 23) (.agg ((Ty.pair a b).cells x)) (.agg ((Ty.pair a b).cells y))=some (decide (x=y)))
  (p:zAy jT P (fun _=>none) f () (.pair a b) [] [] () [] .bot):
  zGy jT P (fun _=>none) f (.pair a b) (uI []) (fun xs _=>if xs.length<1099511627776 then some (compact xs)else none):=by
 intro s xs r x ys u k
 have Z:r=[]:=by
  cases r with
  |nil=>rfl
  |cons d r=>cases u
 subst Z;simp only at k;split at k
 .rename_i hl;cases k;by_cases z:xs=[]
  .subst z;exact p
  .refine zAy.of rfl ?_;intro w F O blk v0 A hR hG hF B hb J C K;have ab:xs.map (Ty.pair a b).enc≠[]:=by simpa using z
   rcases B with⟨h,_⟩|⟨_,_,l,D,g⟩
   .grind
   simp only at D g;obtain⟨ad,ag,al⟩:=hb z
   match A,J with
   |⟨[u0]⟩,_=>
    simp at C;subst C;have E:xs.length<=l:=by obtain⟨_,_,_,_,h3,_⟩:=g;simpa using h3
    obtain⟨k1,k2⟩:=qEh (t:=.pair a b) j W Y;rw[D,aK,N];have i:=zQh L (Ty.pair a b).size Q S (Ty.pair a b).vals (fun x=>zMU _ x j) (fun x v hv=>zWb _ x v hv) k1 k2 m I blk 0 l xs.toArray w (zOT j g) (by simp;omega) (by simpa using E);simp at i;refine i.mono ?_;rintro e w' ⟨rfl,q,rfl⟩;have an:=zPZ xs.toArray xs.length;have M:0<xs.length:=de.2 z;have ao:=zSE xs.toArray M
    have hw:putRowK (Ty.pair a b).vals (Ty.pair a b).size (Sort.ahead w q) blk 0 (compactUpTo xs.toArray xs.length++List.replicate (xs.length- (compactUpTo xs.toArray xs.length).length) m).toArray=
      sortWorldK (Ty.pair a b).vals (Ty.pair a b).size w blk 0 q (compactUpTo xs.toArray xs.length++List.replicate (xs.length- (compactUpTo xs.toArray xs.length).length) m).toArray #[]:=by
     grind[grow_empty,sortWorldK]
    rw[hw];have G:=zL4 (F':=F) (n:=q) (os:= #[]) j g (d:=(compactUpTo xs.toArray xs.length++List.replicate (xs.length- (compactUpTo xs.toArray xs.length).length) m).toArray) (by simp;omega);simp only[bw]at G;refine⟨_,F,O,rfl,hR,⟨rfl,rfl,rfl,?_,?_,?_⟩,fun _ h=>.inl h,zFM.refl _ _,fun c H=>⟨.inl H,?_,(hF c H).2⟩,blk,.inl ⟨rfl,fun h=>absurd h z⟩,.inr ⟨?_,trivial,l,?_,zWQ G⟩⟩
    .simp[sortWorldK,putRowK]
    .grind[zMH]
    all_goals grind[List.length_map,sortWorldK,grow,putRowK,putRow,mapBlock,Sort.ahead,compact]
 .cases k
theorem qAF{P:Program}{G:Nat->Option (List V)}{f:FuncId}{t:Ty}{ds:List V}(m:zCk ds=none)(h:∀a:Option Addr,∃S,jJ jT P G f S/\S () (.val (.slice a 0 0)::ds)=some ((),.p (.val (.slice a 0 0)))):
  zAy jT P G f () t [] ds () [] .bot:=by
 refine zAy.of m ?_;intro w F O b y k z A B l _ n q r
 have u:∃a,y=.slice a 0 0:=by
  rcases l with⟨_,h⟩|⟨h,_⟩
  all_goals grind
 obtain⟨a,rfl⟩:=u;obtain⟨S,C,D⟩:=h a
 have g:=C w F O () k (.val (.slice a 0 0)::ds) () (.p (.val (.slice a 0 0))) z A B (by simpa using n) (by
  intro i v d x E
  match i with
  |0=>
   cases E;rw[q]at x;cases x;exact .val _
  |i+1=>grind) D
 refine g.mono ?_;rintro e Z ⟨v,H,I,rfl,J,j,K,L,M,N⟩;have u:v=.slice a 0 0:=Rd.eq_val N;subst u;exact⟨_,H,I,rfl,J,⟨j.os,j.tape,j.output,j.size,fun c Q W=>j.block c Q (fun Y=>W (.inl Y)),j.drawn⟩,K,L.no (fun h=>h.1),M,b,.inl ⟨rfl,fun _=>rfl⟩,.inl ⟨rfl,a,rfl⟩⟩
end Go.Ve
namespace Go.Ve
open Go Go.Lib
theorem zLB{α:Type}{eq:α->α->Bool}(d:∀x y,eq x y=true↔x=y)(x:α):∀l:List α,kP eq (l++[x])=kP eq l++(match l.getLast? with|some y=>bif eq y x then[]else[x]|none=>[x])
 |[]=>rfl
 |[y]=>by
  simp[kP]
  grind
 |a::b::r=>by
  have c:=zLB d x (b::r);simp only[dz]at c ⊢;simp[kP]at c ⊢
  grind
theorem qCJ{α:Type}[Inhabited α](l:List α)(j:Nat):l.toArray[j]! =l[j]! :=by
 grind
section
variable {α:Type}[Inhabited α][DecidableEq α]
theorem zN6{d a:Array α}{m:Nat}(h:∀j,j<m->d[j]! =a[j]!):compactUpTo d m=compactUpTo a m:=by
 grind[List.filter_congr,List.map_congr_left,compactUpTo,keeps]
theorem zVM(l:List α)(x:α):compact (l++[x])=compact l++(if keeps (l++[x]).toArray l.length then[x]else[]):=by
 unfold compact;have a:(l++[x]).length=l.length+1:=by simp
 grind[compactUpTo_succ,zN6,qCJ,List.getElem?_append_left,compactUpTo]
theorem zMD{eq:α->α->Bool}(d:∀x y,eq x y=true↔x=y):∀(n:Nat) (l:List α),l.length=n->compact l=kP eq l
 |0,l,h=>by
  have:l=[]:=aJ h;subst this;rfl
 |n+1,l,h=>by
  have a:l≠[]:=fun i=>by grind
  obtain⟨r,x,rfl⟩:∃r x,l=r++[x]:=⟨l.dropLast,l.getLast a,(List.dropLast_concat_getLast a).symm⟩
  have f:r.length=n:=by simpa using h
  rw[zVM,zLB d,zMD d n r f];congr 1
  have j:(r++[x]).toArray[r.length]! =x:=by
   grind
  cases e:r.getLast? with
  |none=>
   have g:r=[]:=List.getLast?_eq_none_iff.1 e;subst g;rfl
  |some y=>
   obtain⟨c,rfl⟩:=List.getLast?_eq_some_iff.1 e
   have k:(c++[y]++[x]).toArray[(c++[y]).length-1]! =y:=by
    grind
   have m:keeps (c++[y]++[x]).toArray (c++[y]).length= !(eq y x):=by
    unfold keeps
    grind
   grind
end
end Go.Ve

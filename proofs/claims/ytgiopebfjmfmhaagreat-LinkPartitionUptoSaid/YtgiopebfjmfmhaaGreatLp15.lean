/- law16 -/
import Derived.Shelf.SlSortCmp.InsertionK
import Derived.Test.YtgiopebfjmfmhaaGreatLp11
set_option linter.unusedVariables false
namespace Go.Ve
open Go Go.Proofs Go.Sort Go.Shelf
def Ty.vals:(t:Ty)->t.El->List Value
 |.int k,n=>[.int k n]
 |.bool,b=>[.bool b]
 |.str,s=>[.string s]
 |.unit,_=>[]
 |.pair a b,x=>a.vals x.1++b.vals x.2
 |.sl _,_=>[]
 |.rf,_=>[]
 |.hd,_=>[]
 |.pt _,_=>[]
theorem zId:∀(t:Ty) (x:t.El),t.flat=true->t.cells x=(t.vals x).map V.val:=by
 intro t
 induction t with
 |pair a b c d=>
  simp_all[Ty.flat,Ty.cells,Ty.vals]
 |sl t _=>intro x h;cases h
 |rf=>intro x h;cases h
 |hd=>intro x h;cases h
 |pt t=>intro x h;cases h
 |_=>intro x _;rfl
theorem zMU(t:Ty)(x:t.El)(h:t.flat=true):(t.vals x).length=t.size:=by
 have a:=kQ t x
 grind[zId,List.length_map]
theorem zWb:∀(t:Ty) (x:t.El),∀v∈t.vals x,v.oneCell'=true:=by
 intro t
 induction t with
 |pair a b d e=>
  grind[Ty.vals]
 |sl t _=>intro x v c;cases c
 |rf=>intro x v c;cases c
 |hd=>intro x v c;cases c
 |pt t=>intro x v c;cases c
 |unit=>intro x v c;cases c
 |int k=>intro x v c;simp[Ty.vals]at c;subst c;rfl
 |bool=>intro x v c;simp[Ty.vals]at c;subst c;rfl
 |str=>intro x v c;simp[Ty.vals]at c;subst c;rfl
variable {j:Blk->Prop}{g:World}
theorem zQM{t:Ty}(h:t.flat=true)(x:t.El):Rd g j (.agg (t.vals x).toArray) (.agg (t.cells x)):=by rw[zId t x h];refine .agg _ _ (by simp) ?_;intro i u d c a;rw[aA]at a;simp at c;rw[c]at a;cases a;exact .val u
theorem zQ5{a:World}(h:xC (fun _=>False) g a):∃q c,a=grow (g.drewN q) c:=by
 obtain⟨d,e,f,j,k,l⟩:=h;refine⟨a.drawn-g.drawn,a.heap.extract g.heap.size a.heap.size,?_⟩
 have W:a.heap=g.heap++a.heap.extract g.heap.size a.heap.size:=by
  grind
 have i:a.drawn=g.drawn+(a.drawn-g.drawn):=by omega
 cases a;cases g;simp only at d e f W i;subst d e f;simp only[grow,World.drewN,World.mk.injEq]
 grind
theorem zZP{P:Program}{g:FuncId}{a b:Ty}[Inhabited (Ty.pair a b).El](f:(Ty.pair a b).flat=true){c:ElS [.pair a b,.pair a b]->Option Int}{j:(Ty.pair a b).El->(Ty.pair a b).El->Int}
  (q:jJ jT P (fun _=>none) g (z7 (qQ [.pair a b,.pair a b] (.p (.int .i64)) c))) (z:∀x y,c (x,y,())=some (j x y)) (blk off size:Nat) (w:World):
  CmpLays P g #[] (Ty.pair a b).vals (Ty.pair a b).size j blk off size w:=by
 intro m A B _ x y;generalize sortWorldK (Ty.pair a b).vals (Ty.pair a b).size w blk off m B A=W;have r:z7 (Γ:=jT) (qQ [.pair a b,.pair a b] (.p (.int .i64)) c) () (yF [.pair a b,.pair a b] (x,y,()))=some ((),.p (.val (.int .i64 (j x y)))):=by simp[z7,qQ,vR,zBu];rw[z x y];rfl
 have h:=q W (fun _=>False) (fun _=>False) () #[.agg ((Ty.pair a b).vals x).toArray,.agg ((Ty.pair a b).vals y).toArray] (yF [.pair a b,.pair a b] (x,y,())) () (.p (.val (.int .i64 (j x y)))) ⟨fun b t=>t,fun _ _ _ h=>h,fun _ h=>h⟩ (fun g E q=>by cases q) (fun b t=>t.elim) rfl (by
  intro i u d n k
  match i with
  |0=>
   simp[yF]at n k;subst n k;exact zQM f x
  |1=>
   simp[yF]at n k;subst n k;exact zQM f y
  |i+2=>simp[yF]at k) r
 rw[Array.append_empty];refine h.mono ?_;rintro e F ⟨v,G,H,rfl,_,C,_,_,_,l⟩;have D:v=.int .i64 (j x y):=Rd.eq_val l;subst D;exact⟨rfl,zQ5 C⟩
variable {i:Nat}
theorem zOT{t:Ty}(b:t.flat=true)[Inhabited t.El]{cap:Nat}{xs:List t.El}(h:qP g j i t.size cap (xs.map t.enc)):HoldsK t.vals t.size g i 0 xs.toArray:=by
 obtain⟨c,u,x,k,e,y,l⟩:=h;intro F a;rw[size_flatK]at a;have a:F<xs.length*t.size:=by simpa using a
 have f:0<t.size:=by
  grind
 have w:F / t.size<xs.length:=by rw[cn f];exact a
 have z:F%t.size<t.size:=Nat.mod_lt _ f;have m:F / t.size*t.size+F%t.size=F:=by grind[Nat.mul_comm,Nat.div_add_mod]
 simp at e;have d:F<c.size:=by rw[k];exact az a (aq _ e)
 rw[get_flatK _ _ _ _ (by simpa using a)];have n:xs.toArray[F / t.size]! =xs[F / t.size]:=by simp[w]
 rw[n];have p:F%t.size< (t.vals xs[F / t.size]).length:=by grind[zMU]
 have q:c[F]?=some (t.vals xs[F / t.size])[F%t.size]! :=by
  have r:=l (F / t.size) (F%t.size) (t.enc xs[F / t.size]) (.val (t.vals xs[F / t.size])[F%t.size]!) c[F] (by simp[w]) (by
   grind[jM,zId]) (by grind)
  rw[aD d,Rd.eq_val r]
 simp_all[World.cell?,World.frozen?]
theorem qCm{c:Array Value}{et:TypeId}{fr:Nat×Nat}(h:g.heap[i]?=some (.cells c et fr)){α:Type}[Inhabited α](enc:α->List Value)(k n off:Nat)(d:Array α)(os:Array Obj):
  (sortWorldK enc k g i off n d os).heap[i]?=some (.cells (putCells id off (flatK enc k d) c) et fr):=by
 have a:i<g.heap.size:=(ar.1 h).1;unfold sortWorldK grow putRowK putRow mapBlock;simp;rw[bh (by simpa using a),bK];simp[h,onCells]
theorem zMH{w:Nat}(hi:w<g.heap.size)(a:w≠i){α:Type}[Inhabited α](enc:α->List Value)(k n off:Nat)(d:Array α)(os:Array Obj):
  (sortWorldK enc k g i off n d os).heap[w]?=g.heap[w]? :=by
 unfold sortWorldK grow putRowK putRow mapBlock;simp
 grind
theorem zL4{F':Blk->Prop}{t:Ty}(l:t.flat=true)[Inhabited t.El]{cap n:Nat}{xs:List t.El}{d:Array t.El}{os:Array Obj}(h:qP g j i t.size cap (xs.map t.enc))(G:d.size=xs.length):
  qP (sortWorldK t.vals t.size g i 0 n d os) F' i t.size cap (d.toList.map t.enc):=by
 obtain⟨c,y,z,A,H,I,J⟩:=h;refine⟨_,y,qCm z t.vals t.size n 0 d os,by simp[putCells,A],by grind,?_,?_⟩
 .intro e w;obtain⟨x,_,rfl⟩:=aO.1 w;rw[jM,kQ]
 .intro b F e K x w a f;rw[aA]at w
  have m:b<d.size:=by
   grind
  have p:d.toList[b]?=some d[b]:=by simp[m]
  rw[p]at w;cases w;rw[jM,zId t _ l,aA]at a
  have r:F<t.size:=by
   grind[Nat.lt_or_ge,List.getElem?_eq_none,zMU]
  have k:F< (t.vals d[b]).length:=by grind
  rw[ah k]at a;cases a
  have hlt:b*t.size+F<d.size*t.size:=by
   have:(b+1)*t.size<=d.size*t.size:=aq _ m
   grind
  have B:0<t.size:=by omega
  have C:(b*t.size+F) / t.size=b:=by rw[cZ,Nat.mul_add_div B,Nat.div_eq_of_lt r,Nat.add_zero]
  have D:(b*t.size+F)%t.size=F:=by rw[cZ,Nat.mul_add_mod,Nat.mod_eq_of_lt r]
  unfold putCells at f;rw[Array.getElem?_mapIdx]at f
  cases E:c[b*t.size+F]? with
  |none=>grind
  |some u=>
   rw[E]at f;simp only[bv,ac,aW,bz,true_and,size_flatK]at f;rw[if_pos hlt,Nat.sub_zero,get_flatK _ _ _ _ hlt,C,D]at f;have q:d[b]! =d[b]:=by simp[m]
   rw[q]at f;have:(t.vals d[b])[F]! =(t.vals d[b])[F]:=by simp[k]
   rw[<-f,id,this];exact .val _
end Go.Ve

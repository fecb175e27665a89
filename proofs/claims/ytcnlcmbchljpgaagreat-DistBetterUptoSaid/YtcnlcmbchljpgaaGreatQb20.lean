/-
  Lists joined: what lies where.
-/
import Derived.Shelf.Spec.SlicesGrow
import Derived.Deep.Upon
import Derived.Lib.ReflectliteSwap
import Derived.Test.YtcnlcmbchljpgaaGreatQb11
set_option linter.unusedVariables false
namespace Go.Ve
open Go Go.Proofs
def uY (ln:Nat→Nat):Nat→Nat
 |0=>0
 |m+1=>uY ln m+ln m
def xJ (rows:Nat→List Value):Nat→List Value
 |0=>[]
 |m+1=>xJ rows m++rows m
theorem zSm (ln:Nat→Nat) {i j:Nat} (h:i≤j):uY ln i≤uY ln j:=by
 induction j with
 | zero => have : i = 0 := by omega
           subst this;exact Nat.le_refl _
 |succ j ih=>
  rcases Nat.lt_or_ge i (j+1) with h1|h1
  ·have:=ih (by omega)
   simp only [uY];omega
  ·have:i=j+1:=by omega
   subst this;exact Nat.le_refl _
theorem zNi {ln:Nat→Nat} {rows:Nat→List Value} {k:Nat} : ∀ {n:Nat},(∀j,j<n→(rows j).length=ln j*k)→(xJ rows n).length=uY ln n*k
 |0,_=>by simp [xJ,uY]
 |n+1,h=>by
  have h1:=zNi (n:=n) (fun j hj=>h j (by omega))
  simp only [xJ,uY,List.length_append,h1,h n (by omega),Nat.add_mul]
theorem zEi (b:Nat): ∀ (xs:List Value) (o:Nat) (w:World) (ys:List Value),w.setCells b o (xs++ys)=(w.setCells b o xs).setCells b (o+xs.length) ys
 |[],o,w,ys=>by simp [World.setCells]
 |x::xs,o,w,ys=>by
  simp only [List.cons_append,World.setCells,List.length_cons]
  rw [zEi b xs (o+1) _ ys,show o+1+xs.length=o+(xs.length+1) by omega]
theorem zB7 (b:Nat): ∀ (vs:List Value) (o:Nat) (w:World) {i:Nat},i≠b→(w.setCells b o vs).heap[i]? =w.heap[i]?
 |[],_,_,_,_=>rfl
 |v::vs,o,w,i,h=>by
  rw [World.setCells,zB7 b vs (o+1) _ h]
  simp only [World.setCell]
  split
  ·rename_i hh
   cases hh
  ·rw [Array.getElem?_modify,if_neg (fun hh=>h hh.symm)]
theorem zNV {w:World} {Z:Array Value} {t:TypeId} {i:Nat} (h:i<w.heap.size):(w.alloc (.cells Z t)).drew.heap[i]? =w.heap[i]? :=by
 show (w.heap.push _)[i]? =_
 rw [Array.getElem?_push,if_neg (Nat.ne_of_lt h)]
theorem zNW {w:World} {Z:Array Value} {t:TypeId} :(w.alloc (.cells Z t)).drew.heap[w.heap.size]? =some (.cells Z t (0,0)):=by
 show (w.heap.push _)[w.heap.size]? =_
 rw [Array.getElem?_push,if_pos rfl]
theorem zMr {w:World} {b:Nat} {Z:Array Value} {t:TypeId} (h:w.heap[b]? =some (.cells Z t (0,0))) {i:Nat} (hi:i<Z.size):(w.cell? ⟨b,i,none⟩).isSome=true∧w.frozen? ⟨b,i,none⟩=false:=by
 refine ⟨?_,?_⟩
 ·simp only [World.cell?,h,Option.isSome_none,Bool.false_eq_true,if_false]
  simp [hi]
 ·simp only [World.frozen?,h]
  simp
def kQ (w:World) (F:Blk→Prop) (t:Ty) (xs:List t.El) (row:List Value):Prop:=
 row.length=xs.length*t.size∧ ∀ (i j:Nat) (e d:V),(xs.map t.enc)[i]? =some e→e.cells[j]? =some d→ ∃x,row[i*t.size+j]? =some x∧Rd w F x d
theorem kQ.nil {w:World} {F:Blk→Prop} {t:Ty} :kQ w F t [] []:=⟨by simp,fun i j e d h=>by simp at h⟩
theorem kQ.append {w:World} {F:Blk→Prop} {t:Ty} {xs ys:List t.El} {r s:List Value} (h1:kQ w F t xs r) (h2:kQ w F t ys s):kQ w F t (xs++ys) (r++s):=by
 refine ⟨by rw [List.length_append,List.length_append,h1.1,h2.1,Nat.add_mul],?_⟩
 intro i j e d he hd
 have hjt:j<t.size:=by
  have:=(List.getElem?_eq_some_iff.1 hd).1
  obtain ⟨x,_,rfl⟩:=List.mem_map.1 (List.mem_of_getElem? he)
  rwa [jO] at this
 rw [List.map_append] at he
 by_cases hi:i<xs.length
 ·rw [List.getElem?_append_left (by simpa using hi)] at he
  obtain ⟨x,hx,hr⟩:=h1.2 i j e d he hd
  exact ⟨x,by rw [List.getElem?_append_left (List.getElem?_eq_some_iff.1 hx).1];exact hx,hr⟩
 ·rw [List.getElem?_append_right (by simpa using Nat.le_of_not_lt hi),List.length_map] at he
  obtain ⟨x,hx,hr⟩:=h2.2 (i-xs.length) j e d he hd
  refine ⟨x,?_,hr⟩
  have e1:i*t.size+j=r.length+((i-xs.length)*t.size+j):=by
   rw [h1.1, ←Nat.add_assoc, ←Nat.add_mul,show xs.length+(i-xs.length)=i by omega]
  rw [e1,List.getElem?_append_right (by omega),Nat.add_sub_cancel_left]
  exact hx
theorem kQ.mono {w w':World} {F F':Blk→Prop} {t:Ty} {xs:List t.El} {r:List Value} (h:kQ w F t xs r) (hF: ∀b,F b→F' b) (hw: ∀b:Nat,F b→w'.heap[b]? =w.heap[b]?):kQ w' F' t xs r:=
 ⟨h.1,fun i j e d he hd=>by obtain ⟨x,hx,hr⟩:=h.2 i j e d he hd;exact ⟨x,hx,hr.mono hF hw⟩⟩
theorem kQ.one {w:World} {F:Blk→Prop} {t:Ty} {xs:List t.El} {r:List Value} (h:kQ w F t xs r): ∀v,v∈r→v.oneCell'=true:=by
 refine zN6 (w:=w) (F:=F) (es:=xs.map t.enc) (k:=t.size) (by rw [h.1,List.length_map]) ?_ ?_ h.2
 ·intro e he
  obtain ⟨x,_,rfl⟩:=List.mem_map.1 he
  exact jO t x
 ·intro e he
  obtain ⟨x,_,rfl⟩:=List.mem_map.1 he
  rw [qL]
  exact zFS t x
theorem zPn {P:Program} {w:World} {F:Blk→Prop} {v:Value} {t:Ty} {xs:List t.El} (h:Rd w F v (.tl t xs)) (hF: ∀b:Nat,F b→b<w.heap.size):
  ∃ (a:Option Addr) (c:Nat) (row:List Value),v= .slice a xs.length c∧kQ w F t xs row∧
   (∀ (W:World) (tx e':TypeId),P.underlying tx=some (.slice e')→(∀i,i<w.heap.size→W.heap[i]? =w.heap[i]?)→Src P t.size tx v xs.length row W)∧
   (0<xs.length→ ∃b off,a=some ⟨b,off,none⟩∧F (Blk.b b)∧ ∀ (j:Nat) u,row[j]? =some u→w.cell? ⟨b,off+j,none⟩=some u):=by
 have h2:=Rd.untl h
 generalize hd:V.sl (xs.map t.enc)=d at h2
 have empty: ∀ (a:Option Addr) (c:Nat),xs=[]→v= .slice a 0 c→ ∃ (a:Option Addr) (c:Nat) (row:List Value),v= .slice a xs.length c∧kQ w F t xs row∧
   (∀ (W:World) (tx e':TypeId),P.underlying tx=some (.slice e')→(∀i,i<w.heap.size→W.heap[i]? =w.heap[i]?)→Src P t.size tx v xs.length row W)∧
   (0<xs.length→ ∃b off,a=some ⟨b,off,none⟩∧F (Blk.b b)∧ ∀ (j:Nat) u,row[j]? =some u→w.cell? ⟨b,off+j,none⟩=some u):=by
  rintro a c rfl rfl
  refine ⟨a,c,[],rfl, .nil,fun W tx e' hk _=> ?_,fun h=>absurd h (Nat.lt_irrefl 0)⟩
  cases a with
  |none=>exact Src.ofNil W hk c
  |some a=>exact Src.ofSlice W hk a 0 c [] (by simp) (fun j u hj=>by simp at hj) (fun u hu=>by cases hu)
 cases h2 with
 |slemp a c=>
  simp only [V.sl.injEq] at hd
  exact empty a c (by simpa using hd) rfl
 |sl b off cap k es g hb hcap hk hg hr=>
  simp only [V.sl.injEq] at hd
  subst hd
  cases hxs:xs with
  |nil=>subst hxs;exact empty _ _ rfl rfl
  |cons x0 xr=>
   rw [←hxs]
   have hkk:k=t.size:=by
    have:=hk (t.enc x0) (by rw [hxs];simp)
    rw [jO] at this
    exact this.symm
   subst hkk
   rw [List.length_map] at hg
   have hrr:kQ w F t xs ((List.range (xs.length*t.size)).map g):=by
    refine ⟨by simp,fun i j e d hi hj=> ?_⟩
    have h1:=(List.getElem?_eq_some_iff.1 hi).1
    have h2:=(List.getElem?_eq_some_iff.1 hj).1
    have h3:=hk e (List.mem_of_getElem? hi)
    rw [List.length_map] at h1
    have:(i+1)*t.size≤xs.length*t.size:=Nat.mul_le_mul_right t.size (by omega)
    rw [Nat.succ_mul] at this
    refine ⟨g (i*t.size+j),?_,hr i j e d hi hj⟩
    rw [List.getElem?_map,List.getElem?_range (by omega)];rfl
   have hcell: ∀ (j:Nat) u,((List.range (xs.length*t.size)).map g)[j]? =some u→w.cell? ⟨b,off+j,none⟩=some u:=by
    intro j u hj
    have hjl:=(List.getElem?_eq_some_iff.1 hj).1
    rw [List.length_map,List.length_range] at hjl
    rw [List.getElem?_map,List.getElem?_range hjl] at hj
    simp only [Option.map_some,Option.some.injEq] at hj
    rw [←hj]
    exact hg j hjl
   refine ⟨some ⟨b,off,none⟩,cap,_,by rw [List.length_map],hrr,fun W tx e' hk' hW=> ?_,fun _=>⟨b,off,rfl,hb,hcell⟩⟩
   rw [List.length_map]
   refine Src.ofSlice W hk' _ _ cap _ hrr.1 (fun j u hj=> ?_) hrr.one
   rw [Addr.add_lit,World.cell?_of_block (w:=w) (hW b (hF b hb))]
   exact hcell j u hj
 |_=>cases hd
theorem zGi (b:Nat): ∀ (vs:List Value) (o:Nat) (w:World),(w.setCells b o vs).os=w.os∧(w.setCells b o vs).tape=w.tape∧(w.setCells b o vs).output=w.output∧(w.setCells b o vs).drawn=w.drawn∧(w.setCells b o vs).heap.size=w.heap.size
 |[],_,_=>⟨rfl,rfl,rfl,rfl,rfl⟩
 |v::vs,o,w=>by
  have h:=zGi b vs (o+1) (w.setCell ⟨b,o,none⟩ v)
  have h1:(w.setCell ⟨b,o,none⟩ v).heap.size=w.heap.size:=by
   simp only [World.setCell]
   split<;>simp
  exact ⟨h.1,h.2.1,h.2.2.1,h.2.2.2.1,h.2.2.2.2.trans h1⟩
theorem zUw {P:Program} {w:World} {F:Blk→Prop} {v:Value} {t:Ty} {xss:List (List t.El)} {TS TE:TypeId} (hu:P.underlying TS=some (.slice TE)) (h:Rd w F v (.tl (.sl t) xss)) (hF: ∀b:Nat,F b→b<w.heap.size):
  ∃ (oa:Option Addr) (b0 off0 cap0:Nat) (hd:Nat→Option Addr) (cp:Nat→Nat) (rows:Nat→List Value),v= .slice oa xss.length cap0∧(0<xss.length→oa=some ⟨b0,off0,none⟩)∧(0<xss.length→b0<w.heap.size)∧
   (∀j,j<xss.length→w.cell? ⟨b0,off0+j,none⟩=some (.slice (hd j) ((xss[j]?).getD []).length (cp j)))∧
   (∀j,j<xss.length→kQ w F t ((xss[j]?).getD []) (rows j))∧
   (∀j,j<xss.length→ ∀W:World,(∀i,i<w.heap.size→W.heap[i]? =w.heap[i]?)→Src P t.size TS (.slice (hd j) ((xss[j]?).getD []).length (cp j)) ((xss[j]?).getD []).length (rows j) W):=by
 obtain ⟨oa,cap0,row,hv,hrow,_,hcell⟩:=zPn (P:=P) h hF
 have part: ∀j,j<xss.length→ ∃q:Option Addr×Nat×List Value,row[j]? =some (.slice q.1 ((xss[j]?).getD []).length q.2.1)∧kQ w F t ((xss[j]?).getD []) q.2.2∧
   ∀W:World,(∀i,i<w.heap.size→W.heap[i]? =w.heap[i]?)→Src P t.size TS (.slice q.1 ((xss[j]?).getD []).length q.2.1) ((xss[j]?).getD []).length q.2.2 W:=by
  intro j hj
  obtain ⟨x,hx,hr⟩:=hrow.2 j 0 (.tl t xss[j]) (.tl t xss[j]) (by simp [hj,Ty.enc]) rfl
  simp only [Ty.size,Nat.mul_one,Nat.add_zero] at hx
  obtain ⟨a,c,r,rfl,k1,k2,_⟩:=zPn (P:=P) hr hF
  have e:(xss[j]?).getD []=xss[j]:=by simp [hj]
  rw [e]
  exact ⟨(a,c,r),hx,k1,fun W hW=>k2 W TS TE hu hW⟩
 let q:Nat→Option Addr×Nat×List Value:=fun j=>if h:j<xss.length then Classical.choose (part j h) else (none,0,[])
 have hq: ∀j (h:j<xss.length),q j=Classical.choose (part j h):=fun j h=>dif_pos h
 by_cases h0:0<xss.length
 ·obtain ⟨b,off,ha,hb,hc⟩:=hcell h0
  refine ⟨oa,b,off,cap0,fun j=>(q j).1,fun j=>(q j).2.1,fun j=>(q j).2.2,hv,fun _=>ha,fun _=>hF b hb,?_,?_,?_⟩
  ·intro j hj
   have:=(Classical.choose_spec (part j hj)).1
   rw [←hq j hj] at this
   exact hc j _ this
  ·intro j hj
   have:=(Classical.choose_spec (part j hj)).2.1
   rw [←hq j hj] at this
   exact this
  ·intro j hj
   have:=(Classical.choose_spec (part j hj)).2.2
   rw [←hq j hj] at this
   exact this
 ·exact ⟨oa,0,0,cap0,fun j=>(q j).1,fun j=>(q j).2.1,fun j=>(q j).2.2,hv,fun h=>absurd h h0,fun h=>absurd h h0,fun j hj=>by omega,fun j hj=>by omega,fun j hj=>by omega⟩
theorem zNE {α:Type} {xss:List (List α)} {m:Nat} (h:m<xss.length):(xss.take (m+1)).flatten=(xss.take m).flatten++((xss[m]?).getD []):=by
 have hm:xss[m]? =some (xss[m]'h):=by simp
 rw [List.take_add_one,hm,List.flatten_append]
 simp only [Option.toList_some,List.flatten_cons,List.flatten_nil,List.append_nil,Option.getD_some]
theorem zPi {α:Type} (xss:List (List α)): ∀m,m≤xss.length→uY (fun j=>((xss[j]?).getD []).length) m=(xss.take m).flatten.length
 |0,_=>rfl
 |m+1,h=>by
  simp only [uY,zPi xss m (by omega)]
  rw [zNE (by omega),List.length_append]
theorem zNh {w:World} {F:Blk→Prop} {t:Ty} {xss:List (List t.El)} {rows:Nat→List Value} (h: ∀j,j<xss.length→kQ w F t ((xss[j]?).getD []) (rows j)): ∀m,m≤xss.length→kQ w F t (xss.take m).flatten (xJ rows m)
 |0,_=> .nil
 |m+1,hm=>by
  have h1:=zNh h m (by omega)
  have h2:=h m (by omega)
  rw [zNE (by omega)]
  exact h1.append h2
theorem zP4 {P:Program} {G:Nat→Option (List V)} {f:FuncId} {t:Ty} {TS TE:TypeId} {bytes:Nat} (hu:P.underlying TS=some (.slice TE))
  (walk: ∀ (oa:Option Addr) (b0 off0 N cap0:Nat) (hd:Nat→Option Addr) (ln cp:Nat→Nat) (rows:Nat→List Value) (w:World),
   (0<N→oa=some ⟨b0,off0,none⟩)→(0<N→b0<w.heap.size)→N≤1048576→(∀j,j<N→w.cell? ⟨b0,off0+j,none⟩=some (.slice (hd j) (ln j) (cp j)))→
   (∀j,j<N→ ∀W:World,(∀i,i<w.heap.size→W.heap[i]? =w.heap[i]?)→Src P t.size TS (.slice (hd j) (ln j) (cp j)) (ln j) (rows j) W)→uY ln N*bytes≤140737488355328→
   Calls P f #[.slice oa N cap0] w fun e w'=> ∃v,e= .returned v∧((uY ln N=0∧v= .slice none 0 0∧w'=w)∨
    (0<uY ln N∧ ∃ (G:Nat) (Z:Array Value),v= .slice (some ⟨w.heap.size,0,none⟩) (uY ln N) G∧uY ln N≤G∧Z.size=G*t.size∧w'=(w.alloc (.cells Z TE)).drew.setCells w.heap.size 0 (xJ rows N)))):
  j7 jI P G f (qG (jV [.sl (.sl t)] (.p (.sl t)) (fun x=>if (2*x.1.flatten.length+1024)*bytes≤140737488355328∧x.1.length≤1048576 then some x.1.flatten else none))):=by
 intro w F O s args ds s' r hsig hG hF hlen hrd hspec
 simp only [qG,jV,wF] at hspec
 cases hx:zCu [.sl (.sl t)] ds with
 |none=>rw [hx] at hspec;cases hspec
 |some x=>
  rw [hx] at hspec
  have hwk:=w6 [.sl (.sl t)] ds x hx
  have hdl:ds.length=1:=hwk.len
  have hal:args.size=1:=hlen.trans hdl
  obtain ⟨xss,u⟩:=x
  have hv:Rd w F args[0] (.tl (.sl t) xss):=hwk.get 0 (ds[0]'(by omega)) (.tl (.sl t) xss) (by simp) rfl w F _ (hrd 0 _ _ (by simp) (by simp))
  by_cases hb:(2*xss.flatten.length+1024)*bytes≤140737488355328∧xss.length≤1048576
  ·simp only [if_pos hb,Option.map_some,Option.some.injEq,Prod.mk.injEq] at hspec
   obtain ⟨rfl,rfl⟩:=hspec
   have hF': ∀b:Nat,F b→b<w.heap.size:=fun b hb=>(hF b hb).1
   obtain ⟨oa,b0,off0,cap0,hd,cp,rows,ha,h1,h2,h3,h4,h5⟩:=zUw (P:=P) hu hv hF'
   have hargs:args= #[.slice oa xss.length cap0]:=by
    rw [←ha]
    apply Array.ext
    ·simpa using hal
    ·intro i hi hi'
     have:i=0:=by omega
     subst this
     rfl
   have hsum:uY (fun j=>((xss[j]?).getD []).length) xss.length=xss.flatten.length:=by rw [zPi xss _ (Nat.le_refl _),List.take_length]
   have hrows:kQ w F t xss.flatten (xJ rows xss.length):=by
    have:=zNh h4 xss.length (Nat.le_refl _)
    rwa [List.take_length] at this
   have hbb:xss.flatten.length*bytes≤140737488355328:=Nat.le_trans (Nat.mul_le_mul_right _ (by omega)) hb.1
   have hcall:=walk oa b0 off0 xss.length cap0 hd (fun j=>((xss[j]?).getD []).length) cp rows w h1 h2 hb.2 h3 h5 (by rw [hsum];exact hbb)
   rw [←hargs] at hcall
   refine hcall.mono ?_
   rw [hsum]
   rintro e w' ⟨v,rfl,(⟨h0,rfl,rfl⟩|⟨h0,Gc,Z,rfl,hle,hZ,rfl⟩)⟩
   ·have hnil:xss.flatten=[]:=List.eq_nil_of_length_eq_zero h0
    refine ⟨_,F,O,rfl,hsig,zBX.refl _ _,fun b hb=> .inl hb,fun b hb=>hb,fun b hb=>⟨.inl hb,hF b hb⟩,?_⟩
    show Rd _ F (.slice none 0 0) (.tl t xss.flatten)
    rw [hnil]
    exact .tl _ _ _ (.slemp none 0)
   ·obtain ⟨e1,e2,e3,e4,e5⟩:=zGi w.heap.size (xJ rows xss.length) 0 (w.alloc (.cells Z TE)).drew
    have hsz:((w.alloc (.cells Z TE)).drew.setCells w.heap.size 0 (xJ rows xss.length)).heap.size=w.heap.size+1:=by
     rw [e5]
     show (w.heap.push _).size=_
     simp
    have hold: ∀i,i<w.heap.size→((w.alloc (.cells Z TE)).drew.setCells w.heap.size 0 (xJ rows xss.length)).heap[i]? =w.heap[i]? :=fun i hi=>by
     rw [zB7 w.heap.size _ _ _ (Nat.ne_of_lt hi)]
     exact zNV hi
    have hrl:=hrows.1
    have hZl:xss.flatten.length*t.size≤Z.size:=by rw [hZ];exact Nat.mul_le_mul_right _ hle
    refine ⟨_,fun b=>F b∨b=Blk.b w.heap.size,O,rfl,hsig,⟨e1,e2,e3,by omega,fun b hb _=>hold b hb,?_⟩,fun b hb=> .inl hb,fun b hb=> .inl hb,?_,?_⟩
    ·rw [e4]
     show w.drawn≤w.drawn+1
     omega
    ·rintro b (hb|hb)
     ·exact ⟨.inl hb,by have:=(hF b hb).1;omega,(hF b hb).2⟩
     ·have:=vV hb
      subst this
      exact ⟨.inr (Nat.le_refl _),by omega,hsig _⟩
    ·have hm:kQ ((w.alloc (.cells Z TE)).drew.setCells w.heap.size 0 (xJ rows xss.length)) (fun b=>F b∨b=Blk.b w.heap.size) t xss.flatten (xJ rows xss.length):=
      hrows.mono (fun b hb=> .inl hb) (fun b hb=>hold b (hF' b hb))
     refine .tl _ _ _ ?_
     have hl:xss.flatten.length=(xss.flatten.map t.enc).length:=by rw [List.length_map]
     rw [hl]
     refine .sl w.heap.size 0 Gc t.size (xss.flatten.map t.enc) (fun m=>((xJ rows xss.length)[m]?).getD undef) (.inr rfl) (by rw [List.length_map];exact hle) ?_ ?_ ?_
     ·intro e he
      obtain ⟨y,_,rfl⟩:=List.mem_map.1 he
      exact jO t y
     ·intro m hm'
      rw [List.length_map] at hm'
      have hmr:m< (xJ rows xss.length).length:=by omega
      have:=World.cell?_setCells_in w.heap.size (xJ rows xss.length) 0 (w.alloc (.cells Z TE)).drew (fun j hj=>by
       rw [Nat.zero_add]
       exact (zMr zNW (by omega)).1) m hmr
      rw [this]
      simp [hmr]
     ·intro i j e d he hd
      obtain ⟨x,hx,hr⟩:=hm.2 i j e d he hd
      rw [hx]
      exact hr
  ·simp only [if_neg hb,Option.map_none] at hspec
   cases hspec
end Go.Ve

/-
  Plain laws of distance-vector routing: what a prefix list permits.
  Plain laws of distance-vector routing: who takes part, what is made of a neighbor's table.
  Plain laws of distance-vector routing: what a router receives.
  Plain laws: what a table is.
  Plain laws of distance-vector routing: tables of neighbors, finding a prefix.
  Plain laws of distance-vector routing: the owner of an address.
  Plain laws of distance-vector routing: Owner finds the neighbor with an address.
  Plain laws of distance-vector routing: where a received route comes from.
  Plain laws of distance-vector routing: the index of a prefix in a table.
  Plain laws: valid routes.
  The law as a function: law17_DistFilters.
  The sorting of routes is the one that is proved for any elements.
  Plain laws: the reference's active routes; tables compared.
  Functions out of code, part 10: typed data out of data without types, lists too.
  Contracts at one point: what a function answers at given data.
  slices.Clone: the contract over typed lists, out of three that tell nil, empty and the rest apart.
-/
import Derived.Test.YtcnlcmbchljpgaaGreatPo12
import Derived.Test.YtcnlcmbchljpgaaGreatPo11
import Derived.Test.YtcnlcmbchljpgaaGreatPo10
set_option linter.unusedVariables false
namespace Go.Ve
open Go
def prB (x:Ty.El zCW) (p:Ty.El zH):Bool:=(decide (x.2.1.2.1≤p.2.1)&&zCg x.2.1 p.1)&&(decide (x.2.2.1≤p.2.1)&&decide (p.2.1≤x.2.2.2.1))
theorem zEK (p q:Ty.El zH):zBs (p,q,())=some (decide (p.2.1≤q.2.1)&&zCg p q.1):=by
 unfold zBs
 dsimp only
 rw [show wN (p,q.1,())=some (zCg p q.1) from zIR p q.1]
 cases decide (p.2.1≤q.2.1)<;>rfl
theorem zHX (x:Ty.El zCW) (p:Ty.El zH):zAh (x,p,())=some (prB x p):=by
 unfold zAh prB
 dsimp only
 rw [show zBs (x.2.1,p,())=some (decide (x.2.1.2.1≤p.2.1)&&zCg x.2.1 p.1) from zEK x.2.1 p]
 simp only [Option.bind_some]
 cases (decide (x.2.1.2.1≤p.2.1)&&zCg x.2.1 p.1)<;>cases decide (x.2.2.1≤p.2.1)<;>rfl
theorem zJP (l:Ty.El vC) (p:Ty.El zH) (hl:l.2.1.length≤20):Wp (zDf (l,p,())) (fun k=>k=xE (fun x=>prB x p) l.2.1):=by
 unfold zDf
 dsimp only
 refine zAs (p:=fun x:Ty.El zCW=>prB x p) (by omega) ?_ rfl
 intro i x hx
 simp only [zJ hx,Option.bind_some]
 rw [show zAh (x,p,())=some (prB x p) from zHX x p]
 cases prB x p<;>rfl
def zL7 (r:Ty.El zF) (nm:Ty.El .str):Int:=xE (fun x:Ty.El vC=>x.1==nm) r.2.2.2.1
theorem zGh (r:Ty.El zF) (nm:Ty.El .str) (hr:SmR r):Wp (zAA (r,nm,())) (fun k=>k=zL7 r nm):=by
 unfold zAA wZ zAQ
 dsimp only
 have:=hr.i2
 refine zC (zAs (p:=fun x:Ty.El vC=>x.1==nm) (by omega) ?_ (zA rfl))
 intro i x hx
 simp only [zJ hx,Option.bind_some]
 cases x.1==nm<;>rfl
def zVn (r:Ty.El zF) (nm:Ty.El .str) (p:Ty.El zH):Bool:=
 bif nm==({ data:= #[] } :ByteArray) then true else
 bif decide (zL7 r nm<0) then false else
 match r.2.2.2.1[(zL7 r nm).toNat]? with
 |some l=>bif decide (xE (fun x=>prB x p) l.2.1≥0) then (match l.2.1[(xE (fun x=>prB x p) l.2.1).toNat]? with
  |some z=>z.1
  |none=>false) else false
 |none=>false
theorem zHW (r:Ty.El zF) (nm:Ty.El .str) (p:Ty.El zH) (hr:SmR r):Wp (zBL (r,nm,p,())) (fun b=>b=zVn r nm p):=by
 unfold zBL zVn
 dsimp only
 refine zD (fun h=>zA (by rw [h];rfl)) (fun h=> ?_)
 rw [h]
 refine zC ((zGh r nm hr).mono (fun k hk=> ?_))
 subst hk
 refine zI (fun h1=>zA ?_) (fun h1=> ?_)
 ·have h1:zL7 r nm<0:=h1
  simp [h1]
 ·have h1: ¬zL7 r nm<0:=h1
  obtain ⟨l,hl,_⟩:=zHE (p:=fun x:Ty.El vC=>x.1==nm) (xs:=r.2.2.2.1) (show 0≤zL7 r nm by omega)
  have hl:r.2.2.2.1[(zL7 r nm).toNat]? =some l:=hl
  simp only [wL hl (show 0≤zL7 r nm by omega),Option.bind_some]
  refine zC ((zJP l p (hr.n1 l (List.mem_of_getElem? hl))).mono (fun k hk=> ?_))
  subst hk
  rw [hl]
  simp only [decide_eq_false h1,cond_false]
  refine zC (zI (fun h2=> ?_) (fun h2=>zA (zA ?_)))
  ·have h2:xE (fun x=>prB x p) l.2.1≥0:=h2
   obtain ⟨z,hz,_⟩:=zHE h2
   simp only [wL hz h2,Option.bind_some]
   refine zA (zA ?_)
   simp only [hz,decide_eq_true h2,cond_true]
  ·have h2: ¬xE (fun x=>prB x p) l.2.1≥0:=h2
   simp only [decide_eq_false h2,cond_false]
end Go.Ve



namespace Go.Ve
open Go
theorem uD {α β:Type} {f:α→List β} {k:Nat} : ∀ {xs:List α},(∀x,x∈xs→(f x).length≤k)→(xs.flatMap f).length≤xs.length*k
 |[],_=>by simp
 |x::xs,h=>by
  have h1:=h x (by simp)
  have h2:=uD (xs:=xs) (fun y hy=>h y (List.mem_cons_of_mem _ hy))
  simp only [List.flatMap_cons,List.length_append,List.length_cons,Nat.succ_mul]
  omega
theorem zKv {α β:Type} {f:α→List β} {xs:List α} {i:Nat} {x:α} (h:xs[i]? =some x):(xs.take (i+1)).flatMap f=(xs.take i).flatMap f++f x:=by
 rw [List.take_add_one,h,List.flatMap_append]
 simp
theorem zSp {v:Ty.El zR} (hv:zDa v) (r i:Int) (p:Ty.El zO→Bool):(zI8 v r i p).length≤360:=by
 unfold zI8
 cases upB v r i
 ·exact Nat.zero_le _
 ·exact Nat.le_trans (List.length_filter_le _ _) (zSZ hv r i)
end Go.Ve

namespace Go.Ve
open Go
set_option maxRecDepth 1000000
set_option maxHeartbeats 4000000
structure uH (l:List (Ty.El zB)) (proto:Int):Prop where
 val: ∀x,x∈l→jJ (x,())=some true
 pr:proto≠0→ ∀x,x∈l→x.2.1=proto
 so: ∀i x y,l[i]? =some x→l[i+1]? =some y→rlt x y
theorem zHN (l:List (Ty.El zB)) (proto:Int) (hl:l.length≤1048576) (hs: ∀y,y∈l→RtS y):Wp (v8 (l,proto,())) (fun b=>b=true→uH l proto):=by
 unfold v8
 dsimp only
 refine zA5 (by omega) (fun i=> ∀m x,m<i→l[m]? =some x→jJ (x,())=some true∧(proto≠0→x.2.1=proto)∧(∀j y,m=j+1→l[j]? =some y→rlt y x)) (fun m x hm=>by omega) ?_ (fun hj=>zA (fun _=> ?_))
 ·intro i x hx hj
  have hi:=(List.getElem?_eq_some_iff.1 hx).1
  simp only [zJ hx,Option.bind_some]
  have hcmp:(i:Int)>0→Wp (Option.bind (idx l (IntKind.wrap IntKind.i64 ((i:Int) - (1:Int)))) fun (y44:Ty.El zB)=>Option.bind (vW (y44.1,x.1,())) fun (y46:Int)=>some (decide (y46≥(0:Int)))) (fun s=>s=false→ ∀j y,i=j+1→l[j]? =some y→rlt y x):=by
   intro h0
   rw [zG (by omega) (by omega),show ((i:Int) -1)=((i-1:Nat):Int) by omega]
   obtain ⟨yy,hy⟩: ∃yy,l[i-1]? =some yy:=⟨l[i-1]'(by omega),by simp⟩
   refine zC (z7 (zJ hy) (zC (z7 (zBC _ _) (zA ?_))))
   intro h j y hji hyj
   rw [show i-1=j by omega] at hy
   rw [hy] at hyj
   cases hyj
   have h:=of_decide_eq_false h
   exact zHL.1 (Int.not_le.1 h)
  refine zC ((show Wp _ (fun s:Bool=>s=false→jJ (x,())=some true∧(proto≠0→x.2.1=proto)∧(∀j y,i=j+1→l[j]? =some y→rlt y x)) from ?_).mono (fun s hs'=> ?_))
  ·refine zAa ((zMq x (hs x (List.mem_of_getElem? hx))).mono (fun _ _=>trivial)) (fun b hb=>zD (fun _=>zA (fun h=>by cases h)) (fun hb'=> ?_))
   have hv:jJ (x,())=some true:=by
    rw [hb]
    have h:(!b)=false:=hb'
    cases b
    ·cases h
    ·rfl
   refine zD (fun hp=>zD (fun _=>zA (fun h=>by cases h)) (fun hpe=> ?_)) (fun hp=> ?_)
   ·have hpe:x.2.1=proto:=by simpa using hpe
    refine zI (fun h=>(hcmp h).mono (fun s h2 h3=>⟨hv,fun _=>hpe,h2 h3⟩)) (fun h=>zA (fun _=>⟨hv,fun _=>hpe,fun j y hj'=> ?_⟩))
    omega
   ·have hp:proto=0:=by simpa using hp
    refine zI (fun h=>(hcmp h).mono (fun s h2 h3=>⟨hv,fun hh=>absurd hp hh,h2 h3⟩)) (fun h=>zA (fun _=>⟨hv,fun hh=>absurd hp hh,fun j y hj'=> ?_⟩))
    omega
  ·refine zD (fun _=>zA (fun h=>by cases h)) (fun h=>zA (e2l ⟨rfl,?_⟩))
   intro m z hm hz
   rcases Nat.lt_or_ge m i with h'|h'
   ·exact hj m z h' hz
   ·have:m=i:=by omega
    subst this
    rw [hx] at hz
    cases hz
    exact hs' h
 ·have hall: ∀m x,l[m]? =some x→_:=fun m x hx=>hj m x (List.getElem?_eq_some_iff.1 hx).1 hx
  refine ⟨fun x hx=> ?_,fun hp x hx=> ?_,fun i x y hx hy=>(hall (i+1) y hy).2.2 i x rfl hx⟩
  ·obtain ⟨m,hm,rfl⟩:=List.getElem_of_mem hx
   exact (hall m _ (by simp [hm])).1
  ·obtain ⟨m,hm,rfl⟩:=List.getElem_of_mem hx
   exact (hall m _ (by simp [hm])).2.1 hp
structure DvR (x:Ty.El zB):Prop where
 pre:vB x.1=true
 tag:0≤x.2.2.2.2.2.2.1∧x.2.2.2.2.2.2.1≤65535
 met:1≤x.2.2.2.2.1∧x.2.2.2.2.1≤15
 path:x.2.2.2.2.2.2.2.2.1=[]
end Go.Ve

namespace Go.Ve
open Go
theorem zMw (t:List (Ty.El zB)) (p:Ty.El zH) (hl:t.length<4611686018427387904):Wp (zFn (t,p,())) (fun k=>k=xE (fun x=>vF x.1 p) t):=by
 unfold zFn
 dsimp only
 refine zAs (p:=fun x:Ty.El zB=>vF x.1 p) hl ?_ rfl
 intro i x hx
 simp only [zJ hx,Option.bind_some]
 show (bif vF x.1 p then _ else _)=_
 cases vF x.1 p<;>rfl
end Go.Ve









namespace Go.Ve
open Go
set_option maxRecDepth 1000000
set_option maxHeartbeats 4000000
theorem tt {α:Type} {c:Bool} {x y:Option α} {Q:α→Prop} (hc:c=true) (h:Wp x Q):Wp (bif c then x else y) Q:=by rw [hc];exact h
theorem ff {α:Type} {c:Bool} {x y:Option α} {Q:α→Prop} (hc:c=false) (h:Wp y Q):Wp (bif c then x else y) Q:=by rw [hc];exact h
end Go.Ve



namespace Go.Ve
open Go
set_option maxRecDepth 100000
theorem zQZ:qB=zAk zK:=rfl
theorem zQu: ∀n,qA n=zBl zK n:=by
 intro n
 induction n with
 |zero=>rfl
 |succ n ih=>
  show yA (qA n)=zGB zK (zBl zK n)
  rw [ih]
  rfl
theorem zRQ:qK=zEH zK:=zQu 1048576
theorem zVL:qQ=zJL zK:=by
 unfold qQ zJL
 rw [zRQ,zQZ]
theorem zO6:qU=zD6 zK:=by
 unfold qU zD6
 rw [zVL]
theorem zWb:zMn rlt (fun x:Ty.El zB=>x.1) where
 ord:=zVg
 ne:=fun x y h e=>by
  unfold rlt at h
  rw [e] at h
  exact zHx.asym _ _ h h
theorem qAK (x y:Ty.El zB):Wp (zK (x,y,())) (fun c=>c<0↔rlt x y):=by
 unfold zK
 dsimp only
 exact zC (z7 (zJR _ _) (zA zHL))
theorem zMt (l:List (Ty.El zB)) (hl:l.length≤1048576):
  Wp (qU l ((),())) (fun r=>r.1.length=l.length∧zGc (fun x:Ty.El zB=>x.1) l r.1∧r.1.Pairwise (fun x y=> ¬rlt y x)):=by
 rw [zO6]
 exact zK4 zWb qAK l hl
end Go.Ve



namespace Go.Ve
open Go
def zYt {α:Type} (f:List V→Option (α×List V)):List V→Option (List α)
 |[]=>some []
 |e::r=>match f e.cells with
  |some (x,[])=>match zYt f r with
   |some xs=>some (x::xs)
   |none=>none
  |_=>none
def Ty.unc:(t:Ty)→List V→Option (t.El×List V)
 | .pair a b,cs=>match a.unc cs with
  |some (x,r)=>match b.unc r with
   |some (y,r)=>some ((x,y),r)
   |none=>none
  |none=>none
 | .sl t,cs=>match cs with
  | .sl es::r=>match zYt t.unc es with
   |some xs=>some (xs,r)
   |none=>none
  |cs=>zIG t cs
 | .int k,cs=>zFb k cs
 | .bool,cs=>zDx cs
 | .str,cs=>zFa cs
 | .unit,cs=>some ((),cs)
 | .rf,cs=>zIH cs
theorem zS3 {α:Type} {f:List V→Option (α×List V)} : ∀ {es:List V} {xs:List α},zYt f es=some xs→es.length=xs.length∧ ∀ (i:Nat) (x:α),xs[i]? =some x→ ∃e,es[i]? =some e∧f e.cells=some (x,[])
 |[],xs,h=>by simp only [zYt,Option.some.injEq] at h;subst h;exact ⟨rfl,fun i x h=>by simp at h⟩
 |e::r,xs,h=>by
  simp only [zYt] at h
  split at h
  ·rename_i x hx
   split at h
   ·rename_i xs' hxs
    simp only [Option.some.injEq] at h
    subst h
    obtain ⟨h1,h2⟩:=zS3 hxs
    refine ⟨by simp [h1],fun i y hy=> ?_⟩
    cases i with
    |zero=>simp only [List.getElem?_cons_zero,Option.some.injEq] at hy;subst hy;exact ⟨e,rfl,hx⟩
    |succ i=>exact h2 i y (by simpa using hy)
   ·cases h
  ·cases h
theorem zYU {t:Ty} {es:List V} {xs:List t.El} (hl:es.length=xs.length) (h: ∀ (i:Nat) (e:V) (x:t.El),es[i]? =some e→xs[i]? =some x→wW e.cells (t.cells x)):WkV (.sl es) (.tl t xs):=by
 intro w F v hr
 refine .tl t xs v ?_
 cases hr with
 |slemp a cap=>
  have:xs=[]:=List.eq_nil_of_length_eq_zero hl.symm
  subst this
  exact .slemp a cap
 |sl b off cap k _ g hFb hcap hk hg hr=>
  have hel:es.length=(xs.map t.enc).length:=by simpa using hl
  rw [hel] at hg hcap ⊢
  refine .sl b off cap k _ g hFb hcap ?_ hg ?_
  ·intro e he
   simp only [List.mem_map] at he
   obtain ⟨x,hx,rfl⟩:=he
   obtain ⟨j,hj⟩:=List.getElem?_of_mem hx
   have hjl:j<es.length:=by rw [hl];exact (List.getElem?_eq_some_iff.1 hj).1
   have h1:=(h j es[j] x (by simp [hjl]) hj).len
   rw [qV, ←h1]
   exact hk _ (List.getElem_mem hjl)
  ·intro i j e d hi hj
   simp only [List.getElem?_map,Option.map_eq_some_iff] at hi
   obtain ⟨x,hx,rfl⟩:=hi
   rw [qV] at hj
   have hil:i<es.length:=by rw [hl];exact (List.getElem?_eq_some_iff.1 hx).1
   have h1:=h i es[i] x (by simp [hil]) hx
   have hjl:j< (es[i]).cells.length:=by rw [h1.len];exact (List.getElem?_eq_some_iff.1 hj).1
   exact h1.get j _ d (List.getElem?_eq_getElem hjl) hj w F _ (hr i j es[i] _ (by simp [hil]) (List.getElem?_eq_getElem hjl))
theorem zPI: ∀ (t:Ty) (cs:List V) (x:t.El) (r:List V),t.unc cs=some (x,r)→ ∃cs1,cs=cs1++r∧wW cs1 (t.cells x):=by
 intro t
 induction t with
 |int k=>exact fun cs x r h=>jI (.int k) cs x r h
 |bool=>exact fun cs x r h=>jI .bool cs x r h
 |str=>exact fun cs x r h=>jI .str cs x r h
 |unit=>exact fun cs x r h=>jI .unit cs x r h
 |rf=>exact fun cs x r h=>jI .rf cs x r h
 |pair a b iha ihb=>
  intro cs x r h
  simp only [Ty.unc] at h
  split at h
  ·rename_i xa r1 h1
   split at h
   ·rename_i xb r2 h2
    simp only [Option.some.injEq,Prod.mk.injEq] at h
    obtain ⟨rfl,rfl⟩:=h
    obtain ⟨c1,rfl,k1⟩:=iha cs xa r1 h1
    obtain ⟨c2,rfl,k2⟩:=ihb r1 xb r2 h2
    exact ⟨c1++c2,by rw [List.append_assoc],k1.append k2⟩
   ·cases h
  ·cases h
 |sl t ih=>
  intro cs x r h
  simp only [Ty.unc] at h
  split at h
  ·rename_i es r'
   split at h
   ·rename_i xs hxs
    simp only [Option.some.injEq,Prod.mk.injEq] at h
    obtain ⟨rfl,rfl⟩:=h
    obtain ⟨h1,h2⟩:=zS3 hxs
    refine ⟨[.sl es],rfl,zYU h1 ?_,trivial⟩
    intro i e y he hy
    obtain ⟨e',he',hf⟩:=h2 i y hy
    rw [he] at he'
    simp only [Option.some.injEq] at he'
    subst he'
    obtain ⟨c1,hc,hw⟩:=ih e.cells y [] hf
    rw [List.append_nil] at hc
    rw [hc];exact hw
   ·cases h
  ·exact jI (.sl t) _ x r h
def Ty.decW (t:Ty) (d:V):Option t.El:=
 match t with
 | .pair a b=>match d with
  | .agg cs=>match (Ty.pair a b).unc cs with
   |some (x,[])=>some x
   |_=>none
  |_=>none
 | .unit=>none
 | .sl t=>match (Ty.sl t).unc [d] with
  |some (x,[])=>some x
  |_=>none
 | .int k=>(Ty.int k).dec d
 | .bool=>Ty.bool.dec d
 | .str=>Ty.str.dec d
 | .rf=>Ty.rf.dec d
theorem zUE {t:Ty} {d:V} {x:t.El} (h:t.decW d=some x):WkV d (t.enc x):=by
 cases t with
 |pair a b=>
  simp only [Ty.decW] at h
  split at h
  ·rename_i cs
   split at h
   ·rename_i x' hx
    simp only [Option.some.injEq] at h
    subst h
    obtain ⟨c1,h1,h2⟩:=zPI (.pair a b) cs x' [] hx
    simp only [List.append_nil] at h1
    subst h1
    exact WkV.agg h2
   ·cases h
  ·cases h
 |unit=>simp [Ty.decW] at h
 |sl t=>
  simp only [Ty.decW] at h
  split at h
  ·rename_i x' hx
   simp only [Option.some.injEq] at h
   subst h
   obtain ⟨c1,h1,h2⟩:=zPI (.sl t) [d] x' [] hx
   rw [List.append_nil] at h1
   subst h1
   exact h2.1
  ·cases h
 |int k=>exact kW h
 |bool=>exact kW h
 |str=>exact kW h
 |rf=>exact kW h
def zE1:(ts:List Ty)→List V→Option (ElS ts)
 |[],[]=>some ()
 |t::ts,d::ds=>match t.decW d with
  |some x=>match zE1 ts ds with
   |some xs=>some (x,xs)
   |none=>none
  |none=>none
 |_,_=>none
theorem zMh: ∀ (ts:List Ty) (ds:List V) (x:ElS ts),zE1 ts ds=some x→wW ds (kQ ts x)
 |[],[],_,_=>trivial
 |[],_::_,_,h=>by simp [zE1] at h
 |_::_,[],_,h=>by simp [zE1] at h
 |t::ts,d::ds,x,h=>by
  simp only [zE1] at h
  split at h
  ·rename_i y hy
   split at h
   ·rename_i ys hys
    simp only [Option.some.injEq] at h
    subst h
    exact ⟨zUE hy,zMh ts ds ys hys⟩
   ·cases h
  ·cases h
theorem zP7 {Γ:Sig} {P:Program} {G:Nat→Option (List V)} {f:FuncId} {ts:List Ty} {R:RTy} {g:ElS ts→Option R.El} (h:wY Γ P G f (qO (wE ts R g))):wY Γ P G f (qO (vD (zE1 ts) R g)):=by
 intro w F O s args ds s' r hsig hG hF hlen hrd hspec
 simp only [qO,vD] at hspec
 cases hx:zE1 ts ds with
 |none=>rw [hx] at hspec;cases hspec
 |some x=>
  rw [hx] at hspec
  have hwk:=zMh ts ds x hx
  refine h w F O s args (kQ ts x) s' r hsig hG hF (hlen.trans hwk.len) ?_ ?_
  ·intro i u d hu hd
   have hlt:i<ds.length:=by rw [hwk.len];exact (List.getElem?_eq_some_iff.1 hd).1
   exact hwk.get i ds[i] d (by simp [hlt]) hd w F u (hrd i u ds[i] hu (by simp [hlt]))
  ·simp only [qO,wE,vD,zDR];exact hspec
end Go.Ve

namespace Go.Ve
open Go
def zSx {α:Type} (f:α→α→Bool):List α→List α→Bool
 |[],[]=>true
 |x::xs,y::ys=>f x y&&zSx f xs ys
 |_,_=>false
theorem zG1 {α:Type} {f:α→α→Bool} (hf: ∀x y,f x y=true→x=y): ∀ {xs ys:List α},zSx f xs ys=true→xs=ys
 |[],[],_=>rfl
 |x::xs,y::ys,h=>by
  simp only [zSx,Bool.and_eq_true] at h
  rw [hf x y h.1,zG1 hf h.2]
 |[],_::_,h=>by cases h
 |_::_,[],h=>by cases h
def Ty.eqb:(t:Ty)→t.El→t.El→Bool
 | .int _,a,b=>decide (a=b)
 | .bool,a,b=>match a,b with
  |true,true=>true
  |false,false=>true
  |_,_=>false
 | .str,a,b=>zSx (fun (x y:UInt8)=>Nat.beq x.toNat y.toNat) a.data.toList b.data.toList
 | .unit,_,_=>true
 | .pair s t,a,b=>s.eqb a.1 b.1&&t.eqb a.2 b.2
 | .sl t,a,b=>zSx t.eqb a b
 | .rf,_,_=>false
theorem zWu: ∀ (t:Ty) (a b:t.El),t.eqb a b=true→a=b:=by
 intro t
 induction t with
 |int k=>exact fun a b h=>of_decide_eq_true h
 |bool=>
  intro a b h
  cases a<;>cases b<;>first|rfl|cases h
 |str=>
  intro a b h
  have h:=zG1 (fun (x y:UInt8) h=>UInt8.toNat_inj.1 (Nat.eq_of_beq_eq_true h)) h
  cases a;cases b
  simp only at h
  rw [Array.toList_inj.1 h]
 |unit=>exact fun _ _ _=>rfl
 |pair s t ihs iht=>
  intro a b h
  simp only [Ty.eqb,Bool.and_eq_true] at h
  exact Prod.ext (ihs _ _ h.1) (iht _ _ h.2)
 |sl t ih=>exact fun a b h=>zG1 ih h
 |rf=>exact fun _ _ h=>by cases h
def eqS:(ts:List Ty)→ElS ts→ElS ts→Bool
 |[],_,_=>true
 |t::ts,a,b=>t.eqb a.1 b.1&&eqS ts a.2 b.2
theorem zQg: ∀ (ts:List Ty) (a b:ElS ts),eqS ts a b=true→a=b
 |[],_,_,_=>rfl
 |t::ts,a,b,h=>by
  simp only [eqS,Bool.and_eq_true] at h
  exact Prod.ext (zWu t _ _ h.1) (zQg ts _ _ h.2)
def atP (ts:List Ty) {α:Type} (x0:ElS ts) (y0:α) (f:ElS ts→Option α):ElS ts→Option α:=fun x=>bif eqS ts x x0 then some y0 else f x
def noF {X α:Type} :X→Option α:=fun _=>none
theorem zQ2 {Γ:Sig} {P:Program} {G:Nat→Option (List V)} {f:FuncId} {ts:List Ty} {R:RTy} {g h:ElS ts→Option R.El} (hg:wY Γ P G f (qO (wE ts R g))) (hh: ∀x y,h x=some y→g x=some y):
  wY Γ P G f (qO (vD (zE1 ts) R h)):=by
 refine zSI (zP7 hg) ?_
 intro s ds r hr
 simp only [qO,vD] at hr ⊢
 cases hx:zE1 ts ds with
 |none=>rw [hx] at hr;cases hr
 |some x=>
  rw [hx] at hr
  simp only [Option.map_eq_some_iff] at hr ⊢
  obtain ⟨y,hy,e⟩:=hr
  exact ⟨y,hh x y hy,e⟩
theorem zOU {ts:List Ty} {α:Type} {x0:ElS ts} {y0:α} {f g:ElS ts→Option α} (h0:g x0=some y0) (hf: ∀x y,f x=some y→g x=some y): ∀x y,atP ts x0 y0 f x=some y→g x=some y:=by
 intro x y h
 unfold atP at h
 cases he:eqS ts x x0 with
 |false=>rw [he] at h;exact hf x y h
 |true=>
  rw [he] at h
  rw [zQg ts x x0 he,h0]
  exact h
theorem zRq {X α:Type} {g:X→Option α} : ∀x y,noF (X:=X) (α:=α) x=some y→g x=some y:=fun _ _ h=>by cases h
end Go.Ve

namespace Go.Ve
open Go
def zMj (t:Ty) (ds:List V):Option (t.El×List t.El):=
 match zEy [.sl t] ds with
 |some (y::r,_)=>some (y,r)
 |_=>none
theorem zEi {t:Ty} {ds:List V} {q:t.El×List t.El} (h:zMj t ds=some q):wW ds [.tl t (q.1::q.2)]:=by
 unfold zMj at h
 split at h
 ·rename_i y r u hd
  simp only [Option.some.injEq] at h
  subst h
  exact uP [.sl t] ds (y::r,u) hd
 ·cases h
open Classical in
noncomputable def zGa (v:Value) (ds:List V):Option Unit:=if ds=[.val v] then some () else none
theorem yY {v:Value} {ds:List V} {q:Unit} (h:zGa v ds=some q):wW ds [.val v]:=by
 unfold zGa at h
 split at h
 ·rename_i hd
  subst hd
  exact ⟨.refl _,trivial⟩
 ·cases h
theorem zSe {w:World} {F:Blk→Prop} {v:Value} {t:Ty} (h:Rd w F v (.tl t [])): ∃a c,v= .slice a 0 c:=by
 have h2:=Rd.untl h
 simp only [List.map_nil] at h2
 generalize hd:V.sl []=d at h2
 cases h2 with
 |slemp a c=>exact ⟨a,c,rfl⟩
 |sl b off cap k es g hF hcap hk hg hr=>
  simp only [V.sl.injEq] at hd
  subst hd
  exact ⟨_,_,rfl⟩
 |_=>cases hd
theorem zJd {P:Program} {G:Nat→Option (List V)} {f:FuncId} {t:Ty} {bytes:Nat}
  (h1:wY jP P G f (qO (vD (zMj t) (.p (.sl t)) (fun q=>Option.bind (app bytes [] (q.1::q.2)) fun z=>some z))))
  (h2: ∀c,wY jP P G f (qO (vD (zGa (.slice none 0 c)) (.p (.sl t)) (fun _=>some []))))
  (h3: ∀a c,wY jP P G f (qO (vD (zGa (.slice (some a) 0 c)) (.p (.sl t)) (fun _=>some [])))):
  wY jP P G f (qO (wE [.sl t] (.p (.sl t)) (fun x=>Option.bind (app bytes [] x.1) fun z=>some z))):=by
 intro w F O s args ds s' r hsig hG hF hlen hrd hspec
 simp only [qO,wE,vD] at hspec
 cases hx:zEy [.sl t] ds with
 |none=>rw [hx] at hspec;cases hspec
 |some x=>
  rw [hx] at hspec
  have hwk:=uP [.sl t] ds x hx
  have hdl:ds.length=1:=hwk.len
  have hal:args.size=1:=hlen.trans hdl
  obtain ⟨xs,u⟩:=x
  have hv:Rd w F args[0] (.tl t xs):=hwk.get 0 (ds[0]'(by omega)) (.tl t xs) (by simp) rfl w F _ (hrd 0 _ _ (by simp) (by simp))
  cases xs with
  |cons y r0=>
   refine h1 w F O s args [.tl t (y::r0)] s' r hsig hG hF (by simpa using hal) ?_ ?_
   ·intro i v d hi hd
    match i with
    |0=>
     simp at hd
     subst hd
     have:v=args[0]:=by
      rw [Array.getElem?_eq_getElem (by omega)] at hi
      exact (Option.some.inj hi).symm
     rw [this];exact hv
    |i+1=>simp at hd
   ·have hde:zMj t [.tl t (y::r0)]=some (y,r0):=by
     unfold zMj
     rw [show zEy [.sl t] [.tl t (y::r0)]=some (y::r0,()) from zDR [.sl t] (y::r0,())]
    simp only [qO,vD,hde]
    exact hspec
  |nil=>
   obtain ⟨a,c,ha⟩:=zSe hv
   have hres:some (s',r)=some (s,(RTy.p (.sl t)).res []):=by
    have:(app bytes ([]:List t.El) [])=some []∨app bytes ([]:List t.El) []=none:=by
     unfold app;split
     ·exact .inl rfl
     ·exact .inr rfl
    rcases this with h|h
    ·simp only [h,Option.bind_some,Option.map_some] at hspec
     exact hspec.symm
    ·simp only [h,Option.bind_none,Option.map_none] at hspec
     cases hspec
   simp only [Option.some.injEq,Prod.mk.injEq] at hres
   obtain ⟨rfl,rfl⟩:=hres
   have go: ∀v,args[0]=v→wY jP P G f (qO (vD (zGa v) (.p (.sl t)) (fun _=>some [])))→Calls P f args w fun e w'=> ∃ (v:Value) (F':Blk→Prop) (O':Nat→Prop),e= .returned v∧jP.R s' F' O' w'∧zC1 O w w'∧
     (∀b,O' b→O b∨w.heap.size≤b)∧(∀b,F b→F' b)∧(∀b:Nat,F' b→(F b∨w.heap.size≤b)∧b<w'.heap.size∧ ¬O' b)∧xY w.heap.size w' F' O' v ((RTy.p (.sl t)).res []):=by
    intro v hv0 h
    refine h w F O s' args [.val v] s' _ hsig hG hF (by simpa using hal) ?_ ?_
    ·intro i u d hi hd
     match i with
     |0=>
      simp at hd
      subst hd
      have:u=args[0]:=by
       rw [Array.getElem?_eq_getElem (by omega)] at hi
       exact (Option.some.inj hi).symm
      rw [this,hv0];exact .val _
     |i+1=>simp at hd
    ·have hde:zGa v [.val v]=some ():=by unfold zGa;rw [if_pos rfl]
     simp only [qO,vD,hde]
     rfl
   cases a with
   |none=>exact go _ ha (h2 c)
   |some a=>exact go _ ha (h3 a c)
theorem zSJ {P:Program} {G:Nat→Option (List V)} {f:FuncId} {t:Ty} {bytes:Nat}
  (h1:wY jP P G f (qO (vD (zMj t) (.o t) (fun q=>Option.bind (app bytes [] (q.1::q.2)) fun z=>some z))))
  (h2: ∀c,wY jP P G f (qO (vD (zGa (.slice none 0 c)) (.o t) (fun _=>some []))))
  (h3: ∀a c,wY jP P G f (qO (vD (zGa (.slice (some a) 0 c)) (.o t) (fun _=>some [])))):
  wY jP P G f (qO (wE [.sl t] (.o t) (fun x=>Option.bind (app bytes [] x.1) fun z=>some z))):=by
 intro w F O s args ds s' r hsig hG hF hlen hrd hspec
 simp only [qO,wE,vD] at hspec
 cases hx:zEy [.sl t] ds with
 |none=>rw [hx] at hspec;cases hspec
 |some x=>
  rw [hx] at hspec
  have hwk:=uP [.sl t] ds x hx
  have hdl:ds.length=1:=hwk.len
  have hal:args.size=1:=hlen.trans hdl
  obtain ⟨xs,u⟩:=x
  have hv:Rd w F args[0] (.tl t xs):=hwk.get 0 (ds[0]'(by omega)) (.tl t xs) (by simp) rfl w F _ (hrd 0 _ _ (by simp) (by simp))
  cases xs with
  |cons y r0=>
   refine h1 w F O s args [.tl t (y::r0)] s' r hsig hG hF (by simpa using hal) ?_ ?_
   ·intro i v d hi hd
    match i with
    |0=>
     simp at hd
     subst hd
     have:v=args[0]:=by
      rw [Array.getElem?_eq_getElem (by omega)] at hi
      exact (Option.some.inj hi).symm
     rw [this];exact hv
    |i+1=>simp at hd
   ·have hde:zMj t [.tl t (y::r0)]=some (y,r0):=by
     unfold zMj
     rw [show zEy [.sl t] [.tl t (y::r0)]=some (y::r0,()) from zDR [.sl t] (y::r0,())]
    simp only [qO,vD,hde]
    exact hspec
  |nil=>
   obtain ⟨a,c,ha⟩:=zSe hv
   have hres:some (s',r)=some (s,(RTy.o t).res []):=by
    have:(app bytes ([]:List t.El) [])=some []∨app bytes ([]:List t.El) []=none:=by
     unfold app;split
     ·exact .inl rfl
     ·exact .inr rfl
    rcases this with h|h
    ·simp only [h,Option.bind_some,Option.map_some] at hspec
     exact hspec.symm
    ·simp only [h,Option.bind_none,Option.map_none] at hspec
     cases hspec
   simp only [Option.some.injEq,Prod.mk.injEq] at hres
   obtain ⟨rfl,rfl⟩:=hres
   have go: ∀v,args[0]=v→wY jP P G f (qO (vD (zGa v) (.o t) (fun _=>some [])))→Calls P f args w fun e w'=> ∃ (v:Value) (F':Blk→Prop) (O':Nat→Prop),e= .returned v∧jP.R s' F' O' w'∧zC1 O w w'∧
     (∀b,O' b→O b∨w.heap.size≤b)∧(∀b,F b→F' b)∧(∀b:Nat,F' b→(F b∨w.heap.size≤b)∧b<w'.heap.size∧ ¬O' b)∧xY w.heap.size w' F' O' v ((RTy.o t).res []):=by
    intro v hv0 h
    refine h w F O s' args [.val v] s' _ hsig hG hF (by simpa using hal) ?_ ?_
    ·intro i u d hi hd
     match i with
     |0=>
      simp at hd
      subst hd
      have:u=args[0]:=by
       rw [Array.getElem?_eq_getElem (by omega)] at hi
       exact (Option.some.inj hi).symm
      rw [this,hv0];exact .val _
     |i+1=>simp at hd
    ·have hde:zGa v [.val v]=some ():=by unfold zGa;rw [if_pos rfl]
     simp only [qO,vD,hde]
     rfl
   cases a with
   |none=>exact go _ ha (h2 c)
   |some a=>exact go _ ha (h3 a c)
theorem zZL {P:Program} {G:Nat→Option (List V)} {f:FuncId} {t:Ty} {ds:List V} (hnb:zCn ds=none) (h: ∀a:Option Addr, ∃S,wY jP P G f S∧S () (.val (.slice a 0 0)::ds)=some ((), .p (.tup []))):
  zBu jP P G f () t [] ds () [] (.tup []):=by
 refine zBu.of hnb ?_
 intro w F O b v0 args hR hG hF hown _ hsz ha0 hrest
 have hv: ∃a,v0= .slice a 0 0:=by
  rcases hown with ⟨_,h⟩|⟨h,_⟩
  ·exact h
  ·exact absurd rfl h
 obtain ⟨a,rfl⟩:=hv
 obtain ⟨S,hS,hs⟩:=h a
 have hcall:=hS w F O () args (.val (.slice a 0 0)::ds) () (.p (.tup [])) hR hG hF (by simpa using hsz) (by
  intro i v d hi hd
  match i with
  |0=>
   simp at hd
   subst hd
   rw [ha0] at hi
   cases hi
   exact .val _
  |i+1=>exact hrest i v d hi (by simpa using hd)) hs
 refine hcall.mono ?_
 rintro e w' ⟨v,F',O',rfl,h1,h2,h3,h4,h5,h6⟩
 exact ⟨v,F',O',rfl,h1,⟨h2.os,h2.tape,h2.output,h2.size,fun c hc ho=>h2.block c hc (fun hh=>ho (.inl hh)),h2.drawn⟩,h3,h4,h5,zFY.of (.inl ⟨rfl,a,rfl⟩) h6⟩
end Go.Ve

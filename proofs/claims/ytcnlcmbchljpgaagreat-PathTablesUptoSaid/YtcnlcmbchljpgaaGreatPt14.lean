/-
  Plain laws of distance-vector routing: what a router receives.
  Plain laws: what a table is.
  Plain laws of distance-vector routing: tables of neighbors, finding a prefix.
  Plain laws of distance-vector routing: the owner of an address.
  Plain laws of distance-vector routing: Owner finds the neighbor with an address.
  Plain laws of distance-vector routing: where a received route comes from.
  Plain laws of distance-vector routing: the index of a prefix in a table.
  Plain laws: valid routes.
  The law as a function: law17_DistFilters.
  The sorting of routes is the one that is proved for any elements.
  Plain laws: the reference's active routes; tables compared.
  Functions out of code, part 10: typed data out of data without types, lists too.
  Contracts at one point: what a function answers at given data.
  slices.Clone: the contract over typed lists, out of three that tell nil, empty and the rest apart.
-/
import Derived.Test.YtcnlcmbchljpgaaGreatPt13
import Derived.Test.YtcnlcmbchljpgaaGreatPt12
import Derived.Test.YtcnlcmbchljpgaaGreatPt11
import Derived.Test.YtcnlcmbchljpgaaGreatPt10
set_option linter.unusedVariables false
namespace Go.Ve
open Go
theorem j6 {α β:Type} {f:α→List β} {k:Nat} : ∀ {xs:List α},(∀x,x∈xs→(f x).length≤k)→(xs.flatMap f).length≤xs.length*k
 |[],_=>by simp
 |x::xs,h=>by
  have h1:=h x (by simp)
  have h2:=j6 (xs:=xs) (fun y hy=>h y (aw _ hy))
  simp only [cT,aH,aA,bn]
  omega
theorem zGJ {α β:Type} {f:α→List β} {xs:List α} {i:Nat} {x:α} (h:xs[i]? =some x):(xs.take (i+1)).flatMap f=(xs.take i).flatMap f++f x:=by
 rw [b9,h,bV]
 simp
theorem zP7 {v:Ty.El zN} (hv:xY v) (r i:Int) (p:Ty.El zO→Bool):(zHx v r i p).length≤360:=by
 unfold zHx
 cases upB v r i
 ·exact aI _
 ·exact ay (dA _ _) (zQF hv r i)
end Go.Ve

namespace Go.Ve
open Go
set_option maxRecDepth 1000000
set_option maxHeartbeats 4000000
structure uJ (l:List (Ty.El zB)) (proto:Int):Prop where
 val: ∀x,x∈l→v2 (x,())=some true
 pr:proto≠0→ ∀x,x∈l→x.2.1=proto
 so: ∀i x y,l[i]? =some x→l[i+1]? =some y→rlt x y
theorem zI2 (l:List (Ty.El zB)) (proto:Int) (hl:l.length≤1048576) (hs: ∀y,y∈l→RtS y):Wp (zAk (l,proto,())) (fun b=>b=true→uJ l proto):=by
 unfold zAk
 dsimp only
 refine uY (by omega) (fun i=> ∀m x,m<i→l[m]? =some x→v2 (x,())=some true∧(proto≠0→x.2.1=proto)∧(∀j y,m=j+1→l[j]? =some y→rlt y x)) (fun m x hm=>by omega) ?_ (fun hj=>zA (fun _=> ?_))
 ·intro i x hx hj
  have hi:=(ac.1 hx).1
  simp only [zI hx,ae]
  have hcmp:(i:Int)>0→Wp (Option.bind (idx l (IntKind.wrap .i64 ((i:Int) - (1:Int)))) fun (y44:Ty.El zB)=>Option.bind (vU (y44.1,x.1,())) fun (y46:Int)=>some (decide (y46≥(0:Int)))) (fun s=>s=false→ ∀j y,i=j+1→l[j]? =some y→rlt y x):=by
   intro h0
   rw [zH (by omega) (by omega),show ((i:Int) -1)=((i-1:Nat):Int) by omega]
   obtain ⟨yy,hy⟩: ∃yy,l[i-1]? =some yy:=⟨l[i-1]'(by omega),by simp⟩
   refine zC (zY (zI hy) (zC (zY (zBR _ _) (zA ?_))))
   intro h j y hji hyj
   rw [show i-1=j by omega] at hy
   rw [hy] at hyj
   cases hyj
   have h:=of_decide_eq_false h
   exact zMv.1 (Int.not_le.1 h)
  refine zC ((show Wp _ (fun s:Bool=>s=false→v2 (x,())=some true∧(proto≠0→x.2.1=proto)∧(∀j y,i=j+1→l[j]? =some y→rlt y x)) from ?_).mono (fun s hs'=> ?_))
  ·refine zAg ((zOe x (hs x (af hx))).mono (fun _ _=>trivial)) (fun b hb=>zD (fun _=>zA (fun h=>by cases h)) (fun hb'=> ?_))
   have hv:v2 (x,())=some true:=by
    rw [hb]
    have h:(!b)=false:=hb'
    cases b
    ·cases h
    ·rfl
   refine zD (fun hp=>zD (fun _=>zA (fun h=>by cases h)) (fun hpe=> ?_)) (fun hp=> ?_)
   ·have hpe:x.2.1=proto:=by simpa using hpe
    refine zJ (fun h=>(hcmp h).mono (fun s h2 h3=>⟨hv,fun _=>hpe,h2 h3⟩)) (fun h=>zA (fun _=>⟨hv,fun _=>hpe,fun j y hj'=> ?_⟩))
    omega
   ·have hp:proto=0:=by simpa using hp
    refine zJ (fun h=>(hcmp h).mono (fun s h2 h3=>⟨hv,fun hh=>absurd hp hh,h2 h3⟩)) (fun h=>zA (fun _=>⟨hv,fun hh=>absurd hp hh,fun j y hj'=> ?_⟩))
    omega
  ·refine zD (fun _=>zA (fun h=>by cases h)) (fun h=>zA (e2l ⟨rfl,?_⟩))
   intro m z hm hz
   rcases aL m i with h'|h'
   ·exact hj m z h' hz
   ·have:m=i:=by omega
    subst this
    rw [hx] at hz
    cases hz
    exact hs' h
 ·have hall: ∀m x,l[m]? =some x→_:=fun m x hx=>hj m x (ac.1 hx).1 hx
  refine ⟨fun x hx=> ?_,fun hp x hx=> ?_,fun i x y hx hy=>(hall (i+1) y hy).2.2 i x rfl hx⟩
  ·obtain ⟨m,hm,rfl⟩:=aD hx
   exact (hall m _ (by simp [hm])).1
  ·obtain ⟨m,hm,rfl⟩:=aD hx
   exact (hall m _ (by simp [hm])).2.1 hp
structure DvR (x:Ty.El zB):Prop where
 pre:x5 x.1=true
 tag:0≤x.2.2.2.2.2.2.1∧x.2.2.2.2.2.2.1≤65535
 met:1≤x.2.2.2.2.1∧x.2.2.2.2.1≤15
 path:x.2.2.2.2.2.2.2.2.1=[]
end Go.Ve

namespace Go.Ve
open Go
theorem zDv (t:List (Ty.El zB)) (p:Ty.El zG) (hl:t.length<4611686018427387904):Wp (zCO (t,p,())) (fun k=>k=kQ (fun x=>jI x.1 p) t):=by
 unfold zCO
 dsimp only
 refine kM (p:=fun x:Ty.El zB=>jI x.1 p) hl ?_ rfl
 intro i x hx
 simp only [zI hx,ae]
 show (bif jI x.1 p then _ else _)=_
 cases jI x.1 p<;>rfl
end Go.Ve

namespace Go.Ve
open Go
theorem zRe (v:Ty.El zN) (e:Ty.El zO) (q:Ty.El zF) (y:Ty.El qA) (h0:(0:Int)≤e.1) (h1:(0:Int)≤e.2.1) (hq:v.1.1[Int.toNat e.1]? =some q) (hy:q.2.2.1[Int.toNat e.2.1]? =some y):Wp (zLt (v,e,())) (fun x=>x=y):=by
 unfold zLt
 dsimp only
 simp only [jW hq h0,jW hy h1,ae]
 exact zA rfl
end Go.Ve







namespace Go.Ve
open Go
set_option maxRecDepth 1000000
set_option maxHeartbeats 4000000
theorem tt {α:Type} {c:Bool} {x y:Option α} {Q:α→Prop} (hc:c=true) (h:Wp x Q):Wp (bif c then x else y) Q:=by rw [hc];exact h
theorem ff {α:Type} {c:Bool} {x y:Option α} {Q:α→Prop} (hc:c=false) (h:Wp y Q):Wp (bif c then x else y) Q:=by rw [hc];exact h
end Go.Ve



namespace Go.Ve
open Go
set_option maxRecDepth 100000
theorem zTm:qE=zAp zP:=rfl
theorem zSO: ∀n,qD n=zBx zP n:=by
 intro n
 induction n with
 |zero=>rfl
 |succ n ih=>
  show yI (qD n)=zHL zP (zBx zP n)
  rw [ih]
  rfl
theorem zUf:qK=zFz zP:=zSO 1048576
theorem zX0:qR=zLd zP:=by
 unfold qR zLd
 rw [zUf,zTm]
theorem zRf:qW=zEV zP:=by
 unfold qW zEV
 rw [zX0]
theorem zYr:zOb rlt (fun x:Ty.El zB=>x.1) where
 ord:=zXy
 ne:=fun x y h e=>by
  unfold rlt at h
  rw [e] at h
  exact zIP.asym _ _ h h
theorem qCO (x y:Ty.El zB):Wp (zP (x,y,())) (fun c=>c<0↔rlt x y):=by
 unfold zP
 dsimp only
 exact zC (zY (zLn _ _) (zA zMv))
theorem zOh (l:List (Ty.El zB)) (hl:l.length≤1048576):
  Wp (qW l ((),())) (fun r=>r.1.length=l.length∧zHh (fun x:Ty.El zB=>x.1) l r.1∧r.1.Pairwise (fun x y=> ¬rlt y x)):=by
 rw [zRf]
 exact zMM zYr qCO l hl
end Go.Ve

namespace Go.Ve
open Go
set_option maxRecDepth 1000000
set_option maxHeartbeats 4000000
theorem zLj (v:Ty.El zN) (t:List (Ty.El zB)) (r:Nat) (rt:Ty.El zF) (hv:xY v) (hr:v.1.1[r]? =some rt) (ht:t.length≤1048576) (hok:zSH rt):
  Wp (zDP (v,t,(r:Int),())) (fun out=>out=rt.2.2.2.2.2.2.2.1.filterMap (act v t r rt)):=by
 unfold zDP
 dsimp only
 have hrl:=(ac.1 hr).1
 have hsm:=hv.sm rt (af hr)
 have hst:=hsm.i6
 refine zC (zY (zBS v r hrl) (zD (fun h=>by cases h) (fun _=> ?_)))
 simp only [zI hr,ae]
 refine zC ((qZ (xs:=rt.2.2.2.2.2.2.2.1) (by omega) (fun i (g:List (Ty.El zB))=>g=(rt.2.2.2.2.2.2.2.1.take i).filterMap (act v t r rt)) rfl ?_ (Q:=fun g=>g=rt.2.2.2.2.2.2.2.1.filterMap (act v t r rt)) (fun g hg=>by rw [hg,aN])).mono (fun g hg=>zA hg))
 intro i x g hx hg
 have hi:=(ac.1 hx).1
 have hx1:=hok x (af hx)
 have hgl:g.length≤i:=by
  rw [hg]
  refine ay (aF _ _) ?_
  rw [aZ]
  omega
 simp only [zI hx,ae]
 rw [qT hx, ←hg]
 have take: ∀y,act v t r rt x=some y→Wp (Option.bind (app (136:Nat) g [y]) fun y68=>some y68) (fun g'=>g'=g++(act v t r rt x).toList):=by
  intro y h
  rw [h]
  exact zC (qU (by simp only [aC];omega) (zA rfl))
 rcases hx1.one with ⟨c1,c2,c3⟩|⟨c1,c2,c3⟩|⟨c1,c2,c3⟩
 ·have h1:(x.2.1 !=(0:Int))=true:=by simpa using c1
  have h2:(x.2.2.1 != { data:= #[] })=false:=by rw [c2];simp
  refine zXl (fun o:List (Ty.El zB)=>o=g∧act v t r rt x=some (x.1,(2:Int),(0:Int),x.2.2.2.2.1,(0:Int),(0:Int),x.2.2.2.2.2.1,(0:Int),[],(0:Int),x.2.1,[],false,())) ?_ ?_
  ·refine tt h1 (zC ((zJa t x.1 x.2.1 (by omega)).mono (fun k hk=> ?_)))
   have skip:act v t r rt x=none→g=g++(act v t r rt x).toList:=by
    intro h;rw [h];exact (ba g).symm
   rcases hk with ⟨hk,hn⟩|⟨m,y,rfl,hm,hy⟩
   ·refine zC (zJ (fun _=>zA (zA (e2r (skip ?_)))) (fun h=>absurd hk h))
    unfold act
    rw [h1,cond_true,hn]
   ·refine zC (zJ (fun h=>absurd h (by omega)) (fun _=> ?_))
    simp only [zI hm,ae]
    refine zA (zD (fun h=>zA (e2r (skip ?_))) (fun h=>zA (e2l ⟨rfl,?_⟩)))
    ·unfold act
     rw [h1,cond_true,hy]
     simp only
     have h:y.2.2.2.2.2.2.2.2.2.2.2.2.1=true:=h
     rw [h];rfl
    ·unfold act
     rw [h1,cond_true,hy]
     simp only
     have h:y.2.2.2.2.2.2.2.2.2.2.2.2.1=false:=h
     rw [h];rfl
  ·rintro o ⟨rfl,ha⟩
   refine z8 (ff h2 (zA (e2l ?_)))
   refine take _ ?_
   rw [ha,c3]
 ·have h1:(x.2.1 !=(0:Int))=false:=by rw [c1];rfl
  have h2:(x.2.2.1 != { data:= #[] })=true:=by simpa using c2
  refine z8 (ff h1 (zA (e2l (z8 (tt h2 (zC ((zDB rt x.2.2.1 hsm).mono (fun k hk=> ?_))))))))
  subst hk
  refine zC ((zFi v r _ hv).mono (fun b hb=> ?_))
  subst hb
  refine zD (fun h=>zA (e2r ?_)) (fun h=>zA (e2l (take _ ?_)))
  ·have h:(!upB v r (zIf rt x.2.2.1))=true:=h
   have h:upB v r (zIf rt x.2.2.1)=false:=by simpa using h
   have ha:act v t r rt x=none:=by
    unfold act
    rw [h1,cond_false,h2,cond_true,h];rfl
   rw [ha];exact (ba g).symm
  ·have h:(!upB v r (zIf rt x.2.2.1))=false:=h
   have h:upB v r (zIf rt x.2.2.1)=true:=by simpa using h
   unfold act
   rw [h1,cond_false,h2,cond_true,h,c1,c3];rfl
 ·have h1:(x.2.1 !=(0:Int))=false:=by rw [c1];rfl
  have h2:(x.2.2.1 != { data:= #[] })=false:=by rw [c2];simp
  refine z8 (ff h1 (zA (e2l (z8 (ff h2 (zA (e2l (take _ ?_))))))))
  unfold act
  rw [h1,cond_false,h2,cond_false,c1,c3];rfl
theorem zRh (l:List (Ty.El zB)) (hl:l.length≤1048576) (hs: ∀y,y∈l→RtB y):zC2 (l,l,())=some true:=by
 refine j9 ?_
 unfold zC2
 dsimp only
 refine ff (by simp) ?_
 refine zAW (P:=fun _=>True) (by omega) ?_ (fun _=>zA rfl)
 intro i x hx
 simp only [zI hx,ae]
 refine zC ((zX7 x x (hs x (af hx))).mono (fun b hb=> ?_))
 rw [hb.2 rfl]
 exact zA (e2l ⟨rfl,trivial⟩)
end Go.Ve

namespace Go.Ve
open Go
def qAG {α:Type} (f:List V→Option (α×List V)):List V→Option (List α)
 |[]=>some []
 |e::r=>match f e.cells with
  |some (x,[])=>match qAG f r with
   |some xs=>some (x::xs)
   |none=>none
  |_=>none
def Ty.unc:(t:Ty)→List V→Option (t.El×List V)
 | .pair a b,cs=>match a.unc cs with
  |some (x,r)=>match b.unc r with
   |some (y,r)=>some ((x,y),r)
   |none=>none
  |none=>none
 | .sl t,cs=>match cs with
  | .sl es::r=>match qAG t.unc es with
   |some xs=>some (xs,r)
   |none=>none
  |cs=>zJ1 t cs
 | .int k,cs=>zGa k cs
 | .bool,cs=>zEc cs
 | .str,cs=>zF9 cs
 | .unit,cs=>some ((),cs)
 | .rf,cs=>zJ2 cs
theorem zVq {α:Type} {f:List V→Option (α×List V)} : ∀ {es:List V} {xs:List α},qAG f es=some xs→es.length=xs.length∧ ∀ (i:Nat) (x:α),xs[i]? =some x→ ∃e,es[i]? =some e∧f e.cells=some (x,[])
 |[],xs,h=>by simp only [qAG,aa] at h;subst h;exact ⟨rfl,fun i x h=>by simp at h⟩
 |e::r,xs,h=>by
  simp only [qAG] at h
  split at h
  ·rename_i x hx
   split at h
   ·rename_i xs' hxs
    simp only [aa] at h
    subst h
    obtain ⟨h1,h2⟩:=zVq hxs
    refine ⟨by simp [h1],fun i y hy=> ?_⟩
    cases i with
    |zero=>simp only [aY,aa] at hy;subst hy;exact ⟨e,rfl,hx⟩
    |succ i=>exact h2 i y (by simpa using hy)
   ·cases h
  ·cases h
theorem qA6 {t:Ty} {es:List V} {xs:List t.El} (hl:es.length=xs.length) (h: ∀ (i:Nat) (e:V) (x:t.El),es[i]? =some e→xs[i]? =some x→w5 e.cells (t.cells x)):WkV (.sl es) (.tl t xs):=by
 intro w F v hr
 refine .tl t xs v ?_
 cases hr with
 |slemp a cap=>
  have:xs=[]:=aM hl.symm
  subst this
  exact .slemp a cap
 |sl b off cap k _ g hFb hcap hk hg hr=>
  have hel:es.length=(xs.map t.enc).length:=by simpa using hl
  rw [hel] at hg hcap ⊢
  refine .sl b off cap k _ g hFb hcap ?_ hg ?_
  ·intro e he
   simp only [be] at he
   obtain ⟨x,hx,rfl⟩:=he
   obtain ⟨j,hj⟩:=dC hx
   have hjl:j<es.length:=by rw [hl];exact (ac.1 hj).1
   have h1:=(h j es[j] x (by simp [hjl]) hj).len
   rw [qY, ←h1]
   exact hk _ (bD hjl)
  ·intro i j e d hi hj
   simp only [am,ah] at hi
   obtain ⟨x,hx,rfl⟩:=hi
   rw [qY] at hj
   have hil:i<es.length:=by rw [hl];exact (ac.1 hx).1
   have h1:=h i es[i] x (by simp [hil]) hx
   have hjl:j< (es[i]).cells.length:=by rw [h1.len];exact (ac.1 hj).1
   exact h1.get j _ d (ai hjl) hj w F _ (hr i j es[i] _ (by simp [hil]) (ai hjl))
theorem zR1: ∀ (t:Ty) (cs:List V) (x:t.El) (r:List V),t.unc cs=some (x,r)→ ∃cs1,cs=cs1++r∧w5 cs1 (t.cells x):=by
 intro t
 induction t with
 |int k=>exact fun cs x r h=>jO (.int k) cs x r h
 |bool=>exact fun cs x r h=>jO .bool cs x r h
 |str=>exact fun cs x r h=>jO .str cs x r h
 |unit=>exact fun cs x r h=>jO .unit cs x r h
 |rf=>exact fun cs x r h=>jO .rf cs x r h
 |pair a b iha ihb=>
  intro cs x r h
  simp only [Ty.unc] at h
  split at h
  ·rename_i xa r1 h1
   split at h
   ·rename_i xb r2 h2
    simp only [aa,ak] at h
    obtain ⟨rfl,rfl⟩:=h
    obtain ⟨c1,rfl,k1⟩:=iha cs xa r1 h1
    obtain ⟨c2,rfl,k2⟩:=ihb r1 xb r2 h2
    exact ⟨c1++c2,by rw [bp],k1.append k2⟩
   ·cases h
  ·cases h
 |sl t ih=>
  intro cs x r h
  simp only [Ty.unc] at h
  split at h
  ·rename_i es r'
   split at h
   ·rename_i xs hxs
    simp only [aa,ak] at h
    obtain ⟨rfl,rfl⟩:=h
    obtain ⟨h1,h2⟩:=zVq hxs
    refine ⟨[.sl es],rfl,qA6 h1 ?_,trivial⟩
    intro i e y he hy
    obtain ⟨e',he',hf⟩:=h2 i y hy
    rw [he] at he'
    simp only [aa] at he'
    subst he'
    obtain ⟨c1,hc,hw⟩:=ih e.cells y [] hf
    rw [ba] at hc
    rw [hc];exact hw
   ·cases h
  ·exact jO (.sl t) _ x r h
def Ty.decW (t:Ty) (d:V):Option t.El:=
 match t with
 | .pair a b=>match d with
  | .agg cs=>match (Ty.pair a b).unc cs with
   |some (x,[])=>some x
   |_=>none
  |_=>none
 | .unit=>none
 | .sl t=>match (Ty.sl t).unc [d] with
  |some (x,[])=>some x
  |_=>none
 | .int k=>(Ty.int k).dec d
 | .bool=>Ty.bool.dec d
 | .str=>Ty.str.dec d
 | .rf=>Ty.rf.dec d
theorem zWX {t:Ty} {d:V} {x:t.El} (h:t.decW d=some x):WkV d (t.enc x):=by
 cases t with
 |pair a b=>
  simp only [Ty.decW] at h
  split at h
  ·rename_i cs
   split at h
   ·rename_i x' hx
    simp only [aa] at h
    subst h
    obtain ⟨c1,h1,h2⟩:=zR1 (.pair a b) cs x' [] hx
    simp only [ba] at h1
    subst h1
    exact WkV.agg h2
   ·cases h
  ·cases h
 |unit=>simp [Ty.decW] at h
 |sl t=>
  simp only [Ty.decW] at h
  split at h
  ·rename_i x' hx
   simp only [aa] at h
   subst h
   obtain ⟨c1,h1,h2⟩:=zR1 (.sl t) [d] x' [] hx
   rw [ba] at h1
   subst h1
   exact h2.1
  ·cases h
 |int k=>exact kX h
 |bool=>exact kX h
 |str=>exact kX h
 |rf=>exact kX h
def zF0:(ts:List Ty)→List V→Option (ElS ts)
 |[],[]=>some ()
 |t::ts,d::ds=>match t.decW d with
  |some x=>match zF0 ts ds with
   |some xs=>some (x,xs)
   |none=>none
  |none=>none
 |_,_=>none
theorem zN5: ∀ (ts:List Ty) (ds:List V) (x:ElS ts),zF0 ts ds=some x→w5 ds (kP ts x)
 |[],[],_,_=>trivial
 |[],_::_,_,h=>by simp [zF0] at h
 |_::_,[],_,h=>by simp [zF0] at h
 |t::ts,d::ds,x,h=>by
  simp only [zF0] at h
  split at h
  ·rename_i y hy
   split at h
   ·rename_i ys hys
    simp only [aa] at h
    subst h
    exact ⟨zWX hy,zN5 ts ds ys hys⟩
   ·cases h
  ·cases h
theorem zSr {Γ:Sig} {P:Program} {G:Nat→Option (List V)} {f:FuncId} {ts:List Ty} {R:RTy} {g:ElS ts→Option R.El} (h:w6 Γ P G f (qQ (wI ts R g))):w6 Γ P G f (qQ (vG (zF0 ts) R g)):=by
 intro w F O s args ds s' r hsig hG hF hlen hrd hspec
 simp only [qQ,vG] at hspec
 cases hx:zF0 ts ds with
 |none=>rw [hx] at hspec;cases hspec
 |some x=>
  rw [hx] at hspec
  have hwk:=zN5 ts ds x hx
  refine h w F O s args (kP ts x) s' r hsig hG hF (hlen.trans hwk.len) ?_ ?_
  ·intro i u d hu hd
   have hlt:i<ds.length:=by rw [hwk.len];exact (ac.1 hd).1
   exact hwk.get i ds[i] d (by simp [hlt]) hd w F u (hrd i u ds[i] hu (by simp [hlt]))
  ·simp only [qQ,wI,vG,zED];exact hspec
end Go.Ve

namespace Go.Ve
open Go
def zUV {α:Type} (f:α→α→Bool):List α→List α→Bool
 |[],[]=>true
 |x::xs,y::ys=>f x y&&zUV f xs ys
 |_,_=>false
theorem zIb {α:Type} {f:α→α→Bool} (hf: ∀x y,f x y=true→x=y): ∀ {xs ys:List α},zUV f xs ys=true→xs=ys
 |[],[],_=>rfl
 |x::xs,y::ys,h=>by
  simp only [zUV,aj] at h
  rw [hf x y h.1,zIb hf h.2]
 |[],_::_,h=>by cases h
 |_::_,[],h=>by cases h
def Ty.eqb:(t:Ty)→t.El→t.El→Bool
 | .int _,a,b=>decide (a=b)
 | .bool,a,b=>match a,b with
  |true,true=>true
  |false,false=>true
  |_,_=>false
 | .str,a,b=>zUV (fun (x y:UInt8)=>Nat.beq x.toNat y.toNat) a.data.toList b.data.toList
 | .unit,_,_=>true
 | .pair s t,a,b=>s.eqb a.1 b.1&&t.eqb a.2 b.2
 | .sl t,a,b=>zUV t.eqb a b
 | .rf,_,_=>false
theorem zYH: ∀ (t:Ty) (a b:t.El),t.eqb a b=true→a=b:=by
 intro t
 induction t with
 |int k=>exact fun a b h=>of_decide_eq_true h
 |bool=>
  intro a b h
  cases a<;>cases b<;>first|rfl|cases h
 |str=>
  intro a b h
  have h:=zIb (fun (x y:UInt8) h=>UInt8.toNat_inj.1 (aQ h)) h
  cases a;cases b
  simp only at h
  rw [Array.toList_inj.1 h]
 |unit=>exact fun _ _ _=>rfl
 |pair s t ihs iht=>
  intro a b h
  simp only [Ty.eqb,aj] at h
  exact Prod.ext (ihs _ _ h.1) (iht _ _ h.2)
 |sl t ih=>exact fun a b h=>zIb ih h
 |rf=>exact fun _ _ h=>by cases h
def eqS:(ts:List Ty)→ElS ts→ElS ts→Bool
 |[],_,_=>true
 |t::ts,a,b=>t.eqb a.1 b.1&&eqS ts a.2 b.2
theorem zSA: ∀ (ts:List Ty) (a b:ElS ts),eqS ts a b=true→a=b
 |[],_,_,_=>rfl
 |t::ts,a,b,h=>by
  simp only [eqS,aj] at h
  exact Prod.ext (zYH t _ _ h.1) (zSA ts _ _ h.2)
def atP (ts:List Ty) {α:Type} (x0:ElS ts) (y0:α) (f:ElS ts→Option α):ElS ts→Option α:=fun x=>bif eqS ts x x0 then some y0 else f x
def noF {X α:Type} :X→Option α:=fun _=>none
theorem zTq {Γ:Sig} {P:Program} {G:Nat→Option (List V)} {f:FuncId} {ts:List Ty} {R:RTy} {g h:ElS ts→Option R.El} (hg:w6 Γ P G f (qQ (wI ts R g))) (hh: ∀x y,h x=some y→g x=some y):
  w6 Γ P G f (qQ (vG (zF0 ts) R h)):=by
 refine zU4 (zSr hg) ?_
 intro s ds r hr
 simp only [qQ,vG] at hr ⊢
 cases hx:zF0 ts ds with
 |none=>rw [hx] at hr;cases hr
 |some x=>
  rw [hx] at hr
  simp only [ah] at hr ⊢
  obtain ⟨y,hy,e⟩:=hr
  exact ⟨y,hh x y hy,e⟩
theorem zQ5 {ts:List Ty} {α:Type} {x0:ElS ts} {y0:α} {f g:ElS ts→Option α} (h0:g x0=some y0) (hf: ∀x y,f x=some y→g x=some y): ∀x y,atP ts x0 y0 f x=some y→g x=some y:=by
 intro x y h
 unfold atP at h
 cases he:eqS ts x x0 with
 |false=>rw [he] at h;exact hf x y h
 |true=>
  rw [he] at h
  rw [zSA ts x x0 he,h0]
  exact h
theorem zTQ {X α:Type} {g:X→Option α} : ∀x y,noF (X:=X) (α:=α) x=some y→g x=some y:=fun _ _ h=>by cases h
end Go.Ve

namespace Go.Ve
open Go
def zN7 (t:Ty) (ds:List V):Option (t.El×List t.El):=
 match zFs [.sl t] ds with
 |some (y::r,_)=>some (y,r)
 |_=>none
theorem zFb {t:Ty} {ds:List V} {q:t.El×List t.El} (h:zN7 t ds=some q):w5 ds [.tl t (q.1::q.2)]:=by
 unfold zN7 at h
 split at h
 ·rename_i y r u hd
  simp only [aa] at h
  subst h
  exact uU [.sl t] ds (y::r,u) hd
 ·cases h
open Classical in
noncomputable def zHf (v:Value) (ds:List V):Option Unit:=if ds=[.val v] then some () else none
theorem xD {v:Value} {ds:List V} {q:Unit} (h:zHf v ds=some q):w5 ds [.val v]:=by
 unfold zHf at h
 split at h
 ·rename_i hd
  subst hd
  exact ⟨.refl _,trivial⟩
 ·cases h
theorem zUC {w:World} {F:Blk→Prop} {v:Value} {t:Ty} (h:Rd w F v (.tl t [])): ∃a c,v= .slice a 0 c:=by
 have h2:=Rd.untl h
 simp only [dD] at h2
 generalize hd:V.sl []=d at h2
 cases h2 with
 |slemp a c=>exact ⟨a,c,rfl⟩
 |sl b off cap k es g hF hcap hk hg hr=>
  simp only [V.sl.injEq] at hd
  subst hd
  exact ⟨_,_,rfl⟩
 |_=>cases hd
theorem zKA {P:Program} {G:Nat→Option (List V)} {f:FuncId} {t:Ty} {bytes:Nat}
  (h1:w6 jT P G f (qQ (vG (zN7 t) (.p (.sl t)) (fun q=>Option.bind (app bytes [] (q.1::q.2)) fun z=>some z))))
  (h2: ∀c,w6 jT P G f (qQ (vG (zHf (.slice none 0 c)) (.p (.sl t)) (fun _=>some []))))
  (h3: ∀a c,w6 jT P G f (qQ (vG (zHf (.slice (some a) 0 c)) (.p (.sl t)) (fun _=>some [])))):
  w6 jT P G f (qQ (wI [.sl t] (.p (.sl t)) (fun x=>Option.bind (app bytes [] x.1) fun z=>some z))):=by
 intro w F O s args ds s' r hsig hG hF hlen hrd hspec
 simp only [qQ,wI,vG] at hspec
 cases hx:zFs [.sl t] ds with
 |none=>rw [hx] at hspec;cases hspec
 |some x=>
  rw [hx] at hspec
  have hwk:=uU [.sl t] ds x hx
  have hdl:ds.length=1:=hwk.len
  have hal:args.size=1:=hlen.trans hdl
  obtain ⟨xs,u⟩:=x
  have hv:Rd w F args[0] (.tl t xs):=hwk.get 0 (ds[0]'(by omega)) (.tl t xs) (by simp) rfl w F _ (hrd 0 _ _ (by simp) (by simp))
  cases xs with
  |cons y r0=>
   refine h1 w F O s args [.tl t (y::r0)] s' r hsig hG hF (by simpa using hal) ?_ ?_
   ·intro i v d hi hd
    match i with
    |0=>
     simp at hd
     subst hd
     have:v=args[0]:=by
      rw [aP (by omega)] at hi
      exact (aJ hi).symm
     rw [this];exact hv
    |i+1=>simp at hd
   ·have hde:zN7 t [.tl t (y::r0)]=some (y,r0):=by
     unfold zN7
     rw [show zFs [.sl t] [.tl t (y::r0)]=some (y::r0,()) from zED [.sl t] (y::r0,())]
    simp only [qQ,vG,hde]
    exact hspec
  |nil=>
   obtain ⟨a,c,ha⟩:=zUC hv
   have hres:some (s',r)=some (s,(RTy.p (.sl t)).res []):=by
    have:(app bytes ([]:List t.El) [])=some []∨app bytes ([]:List t.El) []=none:=by
     unfold app;split
     ·exact .inl rfl
     ·exact .inr rfl
    rcases this with h|h
    ·simp only [h,ae,aU] at hspec
     exact hspec.symm
    ·simp only [h,Option.bind_none,de] at hspec
     cases hspec
   simp only [aa,ak] at hres
   obtain ⟨rfl,rfl⟩:=hres
   have go: ∀v,args[0]=v→w6 jT P G f (qQ (vG (zHf v) (.p (.sl t)) (fun _=>some [])))→Calls P f args w fun e w'=> ∃ (v:Value) (F':Blk→Prop) (O':Nat→Prop),e= .returned v∧jT.R s' F' O' w'∧zDq O w w'∧
     (∀b,O' b→O b∨w.heap.size≤b)∧(∀b,F b→F' b)∧(∀b:Nat,F' b→(F b∨w.heap.size≤b)∧b<w'.heap.size∧ ¬O' b)∧x9 w.heap.size w' F' O' v ((RTy.p (.sl t)).res []):=by
    intro v hv0 h
    refine h w F O s' args [.val v] s' _ hsig hG hF (by simpa using hal) ?_ ?_
    ·intro i u d hi hd
     match i with
     |0=>
      simp at hd
      subst hd
      have:u=args[0]:=by
       rw [aP (by omega)] at hi
       exact (aJ hi).symm
      rw [this,hv0];exact .val _
     |i+1=>simp at hd
    ·have hde:zHf v [.val v]=some ():=by unfold zHf;rw [if_pos rfl]
     simp only [qQ,vG,hde]
     rfl
   cases a with
   |none=>exact go _ ha (h2 c)
   |some a=>exact go _ ha (h3 a c)
theorem zU5 {P:Program} {G:Nat→Option (List V)} {f:FuncId} {t:Ty} {bytes:Nat}
  (h1:w6 jT P G f (qQ (vG (zN7 t) (.o t) (fun q=>Option.bind (app bytes [] (q.1::q.2)) fun z=>some z))))
  (h2: ∀c,w6 jT P G f (qQ (vG (zHf (.slice none 0 c)) (.o t) (fun _=>some []))))
  (h3: ∀a c,w6 jT P G f (qQ (vG (zHf (.slice (some a) 0 c)) (.o t) (fun _=>some [])))):
  w6 jT P G f (qQ (wI [.sl t] (.o t) (fun x=>Option.bind (app bytes [] x.1) fun z=>some z))):=by
 intro w F O s args ds s' r hsig hG hF hlen hrd hspec
 simp only [qQ,wI,vG] at hspec
 cases hx:zFs [.sl t] ds with
 |none=>rw [hx] at hspec;cases hspec
 |some x=>
  rw [hx] at hspec
  have hwk:=uU [.sl t] ds x hx
  have hdl:ds.length=1:=hwk.len
  have hal:args.size=1:=hlen.trans hdl
  obtain ⟨xs,u⟩:=x
  have hv:Rd w F args[0] (.tl t xs):=hwk.get 0 (ds[0]'(by omega)) (.tl t xs) (by simp) rfl w F _ (hrd 0 _ _ (by simp) (by simp))
  cases xs with
  |cons y r0=>
   refine h1 w F O s args [.tl t (y::r0)] s' r hsig hG hF (by simpa using hal) ?_ ?_
   ·intro i v d hi hd
    match i with
    |0=>
     simp at hd
     subst hd
     have:v=args[0]:=by
      rw [aP (by omega)] at hi
      exact (aJ hi).symm
     rw [this];exact hv
    |i+1=>simp at hd
   ·have hde:zN7 t [.tl t (y::r0)]=some (y,r0):=by
     unfold zN7
     rw [show zFs [.sl t] [.tl t (y::r0)]=some (y::r0,()) from zED [.sl t] (y::r0,())]
    simp only [qQ,vG,hde]
    exact hspec
  |nil=>
   obtain ⟨a,c,ha⟩:=zUC hv
   have hres:some (s',r)=some (s,(RTy.o t).res []):=by
    have:(app bytes ([]:List t.El) [])=some []∨app bytes ([]:List t.El) []=none:=by
     unfold app;split
     ·exact .inl rfl
     ·exact .inr rfl
    rcases this with h|h
    ·simp only [h,ae,aU] at hspec
     exact hspec.symm
    ·simp only [h,Option.bind_none,de] at hspec
     cases hspec
   simp only [aa,ak] at hres
   obtain ⟨rfl,rfl⟩:=hres
   have go: ∀v,args[0]=v→w6 jT P G f (qQ (vG (zHf v) (.o t) (fun _=>some [])))→Calls P f args w fun e w'=> ∃ (v:Value) (F':Blk→Prop) (O':Nat→Prop),e= .returned v∧jT.R s' F' O' w'∧zDq O w w'∧
     (∀b,O' b→O b∨w.heap.size≤b)∧(∀b,F b→F' b)∧(∀b:Nat,F' b→(F b∨w.heap.size≤b)∧b<w'.heap.size∧ ¬O' b)∧x9 w.heap.size w' F' O' v ((RTy.o t).res []):=by
    intro v hv0 h
    refine h w F O s' args [.val v] s' _ hsig hG hF (by simpa using hal) ?_ ?_
    ·intro i u d hi hd
     match i with
     |0=>
      simp at hd
      subst hd
      have:u=args[0]:=by
       rw [aP (by omega)] at hi
       exact (aJ hi).symm
      rw [this,hv0];exact .val _
     |i+1=>simp at hd
    ·have hde:zHf v [.val v]=some ():=by unfold zHf;rw [if_pos rfl]
     simp only [qQ,vG,hde]
     rfl
   cases a with
   |none=>exact go _ ha (h2 c)
   |some a=>exact go _ ha (h3 a c)
theorem qBU {P:Program} {G:Nat→Option (List V)} {f:FuncId} {t:Ty} {ds:List V} (hnb:zCQ ds=none) (h: ∀a:Option Addr, ∃S,w6 jT P G f S∧S () (.val (.slice a 0 0)::ds)=some ((), .p (.tup []))):
  zBI jT P G f () t [] ds () [] (.tup []):=by
 refine zBI.of hnb ?_
 intro w F O b v0 args hR hG hF hown _ hsz ha0 hrest
 have hv: ∃a,v0= .slice a 0 0:=by
  rcases hown with ⟨_,h⟩|⟨h,_⟩
  ·exact h
  ·exact absurd rfl h
 obtain ⟨a,rfl⟩:=hv
 obtain ⟨S,hS,hs⟩:=h a
 have hcall:=hS w F O () args (.val (.slice a 0 0)::ds) () (.p (.tup [])) hR hG hF (by simpa using hsz) (by
  intro i v d hi hd
  match i with
  |0=>
   simp at hd
   subst hd
   rw [ha0] at hi
   cases hi
   exact .val _
  |i+1=>exact hrest i v d hi (by simpa using hd)) hs
 refine hcall.mono ?_
 rintro e w' ⟨v,F',O',rfl,h1,h2,h3,h4,h5,h6⟩
 exact ⟨v,F',O',rfl,h1,⟨h2.os,h2.tape,h2.output,h2.size,fun c hc ho=>h2.block c hc (fun hh=>ho (.inl hh)),h2.drawn⟩,h3,h4,h5,zG0.of (.inl ⟨rfl,a,rfl⟩) h6⟩
end Go.Ve

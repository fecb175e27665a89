/-
  Plain laws: equal routes; static routes that are active.
  Plain laws: interfaces that are up.
  Plain laws: masks, networks, and what prefixes contain.
  Plain laws: what the checks of a network say of its interfaces and static routes.
  Plain laws: what the checks of a network say.
  Plain laws: prefixes in order; the sorting of routes; connected routes.
  Plain laws: preference of routes; insertion into ordered lists; the prefixes of routes; hops added.
  Plain laws: static routes that are active.
  Plain laws: the prefixes of routes; hops added; routes merged.
  Plain laws: routes merged.
  Plain laws: connected routes: sorted, and valid; static routes are valid.
  Plain laws: merging where prefixes differ; the reference's connected and active routes.
  Plain laws: ranges swapped and rotated, stated place by place.
  Functions out of code: sorting, for any elements and any comparison.
  Plain laws: ranges swapped and rotated: the walks.
  Plain laws: stable merging in place: what the steps keep.
-/
import Derived.Test.YtcnlcmbchljpgaaGreatPx12
import Derived.Test.YtcnlcmbchljpgaaGreatPx10
set_option linter.unusedVariables false
namespace Go.Ve
open Go
set_option maxRecDepth 1000000
set_option maxHeartbeats 4000000
theorem zXt {α ρ:Type} {xs ys:List α} {body:Int→Option (Int ⊕ (Unit ⊕ ρ))} {K:Unit→Option ρ} {Q:ρ→Prop} (hl:xs.length<4611686018427387904) (he:xs.length=ys.length)
  (step: ∀ (i:Nat) x y,xs[i]? =some x→ys[i]? =some y→Wp (body (i:Int)) (wU (fun s'=>s'=IntKind.wrap IntKind.i64 ((i:Int)+1)∧x=y) (wU (fun _=>False) Q))) (fin:xs=ys→Wp (K ()) Q):
  Wp (qT (zP (fun s:Int=>bif decide (s< (xs.length:Int)) then body s else some (Sum.inr (Sum.inl ()))) (0:Int)) K) Q:=by
 refine x3 hl (fun i=> ∀j,j<i→xs[j]? =ys[j]?) (fun j hj=>by omega) ?_ (fun h=>fin ?_)
 ·intro i x hx hj
  have hi:=(List.getElem?_eq_some_iff.1 hx).1
  have hy:ys[i]? =some (ys[i]'(by omega)):=by simp
  refine (step i x _ hx hy).mono ?_
  intro o ho
  cases o with
  |inl s'=>
   refine ⟨ho.1,?_⟩
   intro j hj'
   rcases Nat.lt_or_ge j i with h'|h'
   ·exact hj j h'
   ·have:j=i:=by omega
    subst this
    rw [hx,hy,ho.2]
  |inr o=>exact ho
 ·refine List.ext_getElem? (fun j=> ?_)
  rcases Nat.lt_or_ge j xs.length with h'|h'
  ·exact h j h'
  ·rw [List.getElem?_eq_none h',List.getElem?_eq_none (by omega)]
structure RtB (x:Ty.El zA):Prop where
 path:x.2.2.2.2.2.2.2.2.1.length≤1152921504606846976
 hops:x.2.2.2.2.2.2.2.2.2.2.2.1.length≤1152921504606846976
theorem RtS.b {x:Ty.El zA} (h:RtS x):RtB x:=⟨Nat.le_trans h.path (by omega),Nat.le_trans h.hops (by omega)⟩
theorem zWu (a b:Ty.El zA) (ha:RtB a):Wp (zBf (a,b,())) (fun r=>r=true↔a=b):=by
 obtain ⟨hp,hh⟩:=ha
 obtain ⟨⟨pa,pl,⟨⟩⟩,pr,cl,ad,me,inn,tg,pf,path,fr,nx,hops,dc,⟨⟩⟩:=a
 obtain ⟨⟨pa',pl',⟨⟩⟩,pr',cl',ad',me',inn',tg',pf',path',fr',nx',hops',dc',⟨⟩⟩:=b
 simp only at hp hh
 unfold zBf
 dsimp only
 refine zC ((show Wp _ (fun s:Bool=>(s=true→ ¬(pa=pa'∧pl=pl'∧pr=pr'∧cl=cl'∧ad=ad'∧me=me'∧inn=inn'∧tg=tg'∧pf=pf'∧fr=fr'∧nx=nx'∧dc=dc'∧path.length=path'.length∧hops.length=hops'.length))∧
  (s=false→pa=pa'∧pl=pl'∧pr=pr'∧cl=cl'∧ad=ad'∧me=me'∧inn=inn'∧tg=tg'∧pf=pf'∧fr=fr'∧nx=nx'∧dc=dc'∧path.length=path'.length∧hops.length=hops'.length)) from ?_).mono ?_)
 ·iterate 12 (refine zG (fun h=>zB ⟨fun _ e=> ?_,fun h=>by cases h⟩) (fun _=> ?_); · simp_all)
  refine zB ⟨fun h e=> ?_,fun h=> ?_⟩
  ·simp_all
  ·simp_all<;>omega
 intro s hs
 refine zG (fun h=>zB ?_) (fun h=> ?_)
 ·have h1:=hs.1 h
  constructor
  ·intro h';cases h'
  ·intro e
   exfalso
   apply h1
   simp only [Prod.mk.injEq] at e
   obtain ⟨⟨e1,e2,_⟩,e3,e4,e5,e6,e7,e8,e9,e10,e11,e12,e13,e14,_⟩:=e
   exact ⟨e1,e2,e3,e4,e5,e6,e7,e8,e9,e11,e12,e14,by rw [e10],by rw [e13]⟩
 obtain ⟨rfl,rfl,rfl,rfl,rfl,rfl,rfl,rfl,rfl,rfl,rfl,rfl,l1,l2⟩:=hs.2 h
 refine zXt (xs:=path) (ys:=path') (by omega) l1 ?_ (fun e1=> ?_)
 ·intro i x y hx hy
  simp only [zJ hx,zJ hy,Option.bind_some]
  refine zG (fun h=>zB (e2r (e2r ?_))) (fun h=>zB (e2l ⟨rfl,?_⟩))
  ·constructor
   ·intro h';cases h'
   ·intro e
    exfalso
    simp only [Prod.mk.injEq] at e
    obtain ⟨_,_,_,_,_,_,_,_,e10,_⟩:=e
    rw [e10,hy] at hx
    cases hx
    simp at h
  ·simpa using h
 subst e1
 refine zXt (xs:=hops) (ys:=hops') (by omega) l2 ?_ (fun e1=> ?_)
 ·intro i x y hx hy
  simp only [zJ hx,zJ hy,Option.bind_some]
  refine zG (fun h=>zB (e2r (e2r ?_))) (fun h=>zB (e2l ⟨rfl,?_⟩))
  ·constructor
   ·intro h';cases h'
   ·intro e
    exfalso
    simp only [Prod.mk.injEq] at e
    obtain ⟨_,_,_,_,_,_,_,_,_,_,_,e10,_⟩:=e
    rw [e10,hy] at hx
    cases hx
    simp at h
  ·exact zFU (by simpa using h)
 subst e1
 exact zB ⟨fun _=>rfl,fun _=>rfl⟩
theorem zXT (a b:Ty.El zA) (ha:RtS a):Wp (zBf (a,b,())) (fun r=>r=true↔a=b):=zWu a b ha.b
theorem zKe (p:Ty.El zH) (a:Int):Wp (wO (p,a,())) (fun _=>True):=by
 unfold wO zDM zCI
 simp only [Option.bind_some]
 refine zC (zG (fun _=>zB (zB trivial)) (fun h=> ?_))
 exfalso
 simp only [decide_eq_false_iff_not] at h
 apply h
 split<;>split<;>(rw [zF (by omega) (by omega)];omega)
theorem zWq {α:Type} {m:Option α} {x:α} (h:Wp m (fun _=>True)):m=some (m.getD x):=by
 obtain ⟨r,h,_⟩:=h
 rw [h];rfl
noncomputable def zVj (p:Ty.El zH) (a:Int):Bool:=(wO (p,a,())).getD false
theorem qAl (p:Ty.El zH) (a:Int):wO (p,a,())=some (zVj p a):=zWq (zKe p a)
def kI (p q:Ty.El zH):Bool:=p.1==q.1&&(p.2.1==q.2.1&&true)
theorem zD0 {p q:Ty.El zH} :kI p q=true↔p=q:=⟨fun h=>zFU h,fun h=>by subst h;simp [kI]⟩
noncomputable def zIP (own:Ty.El zH) (a:Int) (best:Option (Ty.El zA)) (x:Ty.El zA):Option (Ty.El zA):=
 if kI x.1 own|| !zVj x.1 a then best else match best with
  |none=>some x
  |some b=>if x.1.2.1>b.1.2.1 then some x else best
theorem zUw {own:Ty.El zH} {a:Int} {b:Option (Ty.El zA)} {x:Ty.El zA} (h:(kI x.1 own|| !zVj x.1 a)=true):zIP own a b x=b:=by
 unfold zIP;rw [if_pos h]
theorem zUx {own:Ty.El zH} {a:Int} {x:Ty.El zA} (h:(kI x.1 own|| !zVj x.1 a)=false):zIP own a none x=some x:=by
 unfold zIP;rw [if_neg (by rw [h];simp)]
theorem zOj {own:Ty.El zH} {a:Int} {b x:Ty.El zA} (h:(kI x.1 own|| !zVj x.1 a)=false):zIP own a (some b) x=if x.1.2.1>b.1.2.1 then some x else some b:=by
 unfold zIP;rw [if_neg (by rw [h];simp)]
noncomputable def zHk (t:List (Ty.El zA)) (own:Ty.El zH) (a:Int):Option (Ty.El zA):=t.foldl (zIP own a) none
theorem zUS {α β:Type} {f:β→α→β} {b:β} {xs:List α} {i:Nat} {x:α} (h:xs[i]? =some x):(xs.take (i+1)).foldl f b=f ((xs.take i).foldl f b) x:=by
 rw [List.take_add_one,h]
 simp
theorem zHd (t:List (Ty.El zA)) (own:Ty.El zH) (a:Int) (hl:t.length<4611686018427387904):
  Wp (zA4 (t,own,a,())) (fun k=>(k<0∧zHk t own a=none)∨ ∃ (i:Nat) (y:Ty.El zA),k=(i:Int)∧t[i]? =some y∧zHk t own a=some y):=by
 unfold zA4
 dsimp only
 refine zC ((vP (xs:=t) hl (fun i (k:Int)=>(k<0∧(t.take i).foldl (zIP own a) none=none)∨ ∃ (m:Nat) (y:Ty.El zA),k=(m:Int)∧t[m]? =some y∧(t.take i).foldl (zIP own a) none=some y)
  (.inl ⟨by omega,rfl⟩) ?_ (fun g hg=> ?_) (Q:=fun k=>(k<0∧zHk t own a=none)∨ ∃ (i:Nat) (y:Ty.El zA),k=(i:Int)∧t[i]? =some y∧zHk t own a=some y)).mono (fun k hk=>zB hk))
 ·intro i x k hx hj
  rw [zUS hx]
  generalize (t.take i).foldl (zIP own a) none=b at hj
  simp only [zJ hx,Option.bind_some]
  refine zC ((show Wp _ (fun s:Bool=>s=(kI x.1 own|| !zVj x.1 a)) from ?_).mono ?_)
  ·refine zG (fun h=>zB ?_) (fun h=>zC (qI (qAl _ _) (zB ?_)))
   ·have h':kI x.1 own=true:=h
    simp [h']
   ·have h':kI x.1 own=false:=h
    simp [h']
  intro s hs
  refine zG (fun h=>zB ?_) (fun h=> ?_)
  ·rw [zUw (by rw [←hs,h])]
   exact hj
  ·have hsk:(kI x.1 own|| !zVj x.1 a)=false:=by rw [←hs,h]
   rcases hj with ⟨h1,rfl⟩|⟨m,y,rfl,h2,rfl⟩
   ·refine zC (zG (fun _=>zB ?_) (fun h'=> ?_))
    ·exact zB (.inr ⟨i,x,rfl,hx,zUx hsk⟩)
    ·exfalso;simp only [decide_eq_false_iff_not] at h';exact h' h1
   ·refine zC (zG (fun h'=> ?_) (fun _=> ?_))
    ·exfalso;simp only [decide_eq_true_eq] at h';omega
    ·simp only [zJ h2,Option.bind_some]
     refine zB (zI (fun h'=> ?_) (fun h'=> ?_))
     ·exact zB (.inr ⟨i,x,rfl,hx,by rw [zOj hsk,if_pos h']⟩)
     ·exact zB (.inr ⟨m,y,rfl,h2,by rw [zOj hsk,if_neg h']⟩)
 ·rw [List.take_length] at hg
  exact hg
end Go.Ve

namespace Go.Ve
open Go
set_option maxRecDepth 1000000
set_option maxHeartbeats 4000000
def zG0 (e y:Ty.El zM):Bool:=y.1==e.1&&(y.2.1==e.2.1&&true)
theorem zTC {e y:Ty.El zM} :zG0 e y=true↔y=e:=⟨fun h=>zFU h,fun h=>by subst h;simp [zG0]⟩
def uR (v:Ty.El zS) (r i:Int):Int:=uE (fun d:Ty.El uX=>d.2.2.1.any (zG0 (r,i,()))) v.2.1.1
def zH5 (v:Ty.El zS) (r i:Int):Int:=uE (fun l:Int=>decide (uR v r i≥0)&&l==uR v r i) v.2.1.2.1
def upB (v:Ty.El zS) (r i:Int):Bool:=decide (0≤uR v r i)&&v.2.2.1.all (fun x:Int=> !(x==zH5 v r i))
structure zBA (v:Ty.El zS):Prop where
 rs:v.1.1.length≤9
 sm: ∀y,y∈v.1.1→SmR y
 doms:v.2.1.1.length≤360
 ends : ∀ d, d ∈ v.2.1.1 → d.2.2.1.length ≤ 360
 links:v.2.1.2.1.length≤12
 link0: ∀l,l∈v.2.1.2.1→(0:Int)≤l
 down:v.2.2.1.length≤2
 down0: ∀l,l∈v.2.2.1→(0:Int)≤l
theorem zCJ.s {n:Ty.El zW} {d:List Int} {v:Ty.El zS} (h:zCJ n d v):zBA v where
 rs:=by rw [h.net];exact h.rs
 sm:=by rw [h.net];exact h.sm
 doms:=h.topo.doms
 ends := fun d hd => (h.topo.ends d hd).1
 links:=h.topo.links
 link0:=fun l hl=>(h.topo.link l hl).1
 down:=by rw [h.dn];exact h.down.len
 down0:=by rw [h.dn];exact fun l hl=>(h.down.lo l hl).1
theorem zED {α:Type} {p:α→Bool} {xs:List α} :uE p xs≥0↔xs.any p=true:=by
 rcases zD6 p xs with ⟨h,h2⟩|⟨i,x,h,h2,h3,_⟩
 ·rw [h]
  constructor
  ·intro h';omega
  ·intro h'
   obtain ⟨x,hx,hp⟩:=List.any_eq_true.1 h'
   rw [h2 x hx] at hp
   cases hp
 ·rw [h]
  exact ⟨fun _=>List.any_eq_true.2 ⟨x,List.mem_of_getElem? h2,h3⟩,fun _=>by omega⟩
theorem zEE {α:Type} {p:α→Bool} {xs:List α} (h:0≤uE p xs): ∃x,xs[(uE p xs).toNat]? =some x∧p x=true:=by
 rcases zD6 p xs with ⟨h1,h2⟩|⟨i,x,h1,h2,h3,_⟩
 ·omega
 ·rw [h1];exact ⟨x,by simpa using h2,h3⟩
theorem zGM (l:List (Ty.El zM)) (e:Ty.El zM) (hl:l.length≤1048576):Wp (zAq (l,e,())) (fun k=>k=uE (zG0 e) l):=by
 unfold zAq
 dsimp only
 refine kP (p:=zG0 e) (by omega) ?_ rfl
 intro i x hx
 simp only [zJ hx,Option.bind_some]
 have:(e.1==x.1&&(e.2.1==x.2.1&&true))=zG0 e x:=by
  unfold zG0
  rw [Bool.eq_iff_iff]
  simp only [Bool.and_true,Bool.and_eq_true,beq_iff_eq]
  exact ⟨fun h=>⟨h.1.symm,h.2.symm⟩,fun h=>⟨h.1.symm,h.2.symm⟩⟩
 rw [this]
 cases zG0 e x<;>rfl
theorem zEM (l:List (Ty.El zM)) (e:Ty.El zM) (hl:l.length≤1048576):Wp (uZ (l,e,())) (fun b=>b=l.any (zG0 e)):=by
 unfold uZ
 dsimp only
 refine zC ((zGM l e hl).mono (fun k hk=>zB ?_))
 subst hk
 rw [Bool.eq_iff_iff,decide_eq_true_eq]
 exact zED
theorem zCz (v:Ty.El zS) (r i:Int) (hv:zBA v):Wp (zBo (v,r,i,())) (fun k=>k=uR v r i):=by
 unfold zBo
 dsimp only
 have:=hv.doms
 refine kP (p:=fun d:Ty.El uX=>d.2.2.1.any (zG0 (r,i,()))) (by omega) ?_ rfl
 intro k x hx
 simp only [zJ hx,Option.bind_some]
 have:=hv.ends x (List.mem_of_getElem? hx)
 have h1:=w9 (zEM x.2.2.1 (r,i,()) (by omega))
 refine (congrArg (fun m=>Option.bind m _) h1).trans ?_
 simp only [Option.bind_some]
 cases List.any x.2.2.1 (zG0 (r,i,()))<;>rfl
theorem zBK (v:Ty.El zS) (r i:Int) (hv:zBA v):Wp (zAw (v,r,i,())) (fun k=>k=uR v r i):=by
 unfold zAw
 dsimp only
 have:=hv.doms
 refine x3 (by omega) (fun k=> ∀j y,j<k→v.2.1.1[j]? =some y→y.2.2.1.any (zG0 (r,i,()))=false) (fun j y hj=>by omega) ?_ ?_
 ·intro k x hx hj
  have hends:=hv.ends x (List.mem_of_getElem? hx)
  simp only [zJ hx,Option.bind_some]
  refine x3 (xs:=x.2.2.1) (by omega) (fun m=> ∀y,y∈x.2.2.1.take m→zG0 (r,i,()) y=false) (fun y hy=>by simp at hy) ?_ ?_
  ·intro m y hy hm
   simp only [zJ hy,Option.bind_some]
   refine zG (fun h=>zB (e2r (e2r (e2r (e2r ?_))))) (fun h=>zB (e2l ⟨rfl,?_⟩))
   ·have h1:x.2.2.1.any (zG0 (r,i,()))=true:=List.any_eq_true.2 ⟨y,List.mem_of_getElem? hy,h⟩
    exact (zV6 (p:=fun d:Ty.El uX=>d.2.2.1.any (zG0 (r,i,()))) hx h1 hj).symm
   ·intro z hz
    rw [List.take_add_one,hy] at hz
    simp only [Option.toList_some,List.mem_append,List.mem_singleton] at hz
    rcases hz with hz|rfl
    ·exact hm z hz
    ·exact h
  ·intro hm
   rw [List.take_length] at hm
   refine zB (e2l ⟨rfl,?_⟩)
   intro j y hj' hy
   rcases Nat.lt_or_ge j k with h'|h'
   ·exact hj j y h' hy
   ·have:j=k:=by omega
    subst this
    rw [hx] at hy
    cases hy
    rw [Bool.eq_false_iff]
    intro h
    obtain ⟨z,hz,hz2⟩:=List.any_eq_true.1 h
    rw [hm z hz] at hz2
    cases hz2
 ·intro hj
  refine zB (zIb ?_).symm
  intro x hx
  obtain ⟨j,hjl,rfl⟩:=List.getElem_of_mem hx
  exact hj j _ hjl (by simp [hjl])
theorem zCo (l:List Int) (e:Int) (hl:l.length≤1048576):Wp (yF (l,e,())) (fun k=>k=uE (fun x=>x==e) l):=by
 unfold yF
 dsimp only
 refine kP (p:=fun x:Int=>x==e) (by omega) ?_ rfl
 intro i (x:Int) hx
 simp only [zJ hx,Option.bind_some]
 have:(e==x)=(x==e):=by rw [Bool.eq_iff_iff,beq_iff_eq,beq_iff_eq];exact eq_comm
 rw [this]
 cases x==e<;>rfl
theorem zAT (l:List Int) (e:Int) (hl:l.length≤1048576):Wp (vL (l,e,())) (fun b=>b=l.any (fun x=>x==e)):=by
 unfold vL
 dsimp only
 refine zC ((zCo l e hl).mono (fun k hk=>zB ?_))
 subst hk
 rw [Bool.eq_iff_iff,decide_eq_true_eq]
 exact zED
theorem zOe (v:Ty.El zS) (r i:Int) (hv:zBA v):Wp (zHX (v,r,i,())) (fun k=>k=zH5 v r i):=by
 unfold zHX
 dsimp only
 refine zC ((zCz v r i hv).mono (fun k hk=> ?_))
 subst hk
 refine zI (fun h=>zB ?_) (fun h=> ?_)
 ·unfold zH5
  rw [zIb]
  intro x _
  have: ¬(uR v r i≥0):=by omega
  simp [this]
 ·have:=hv.links
  refine zC ((zCo _ _ (by omega)).mono (fun k hk=>zB ?_))
  rw [hk]
  unfold zH5
  have h2:uR v r i≥0:=by omega
  congr 1
  funext l
  simp [h2]
theorem zNb (v:Ty.El zS) (r i:Int) (hv:zBA v):Wp (zFR (v,r,i,())) (fun k=>k=zH5 v r i):=by
 unfold zFR
 dsimp only
 refine zC ((zBK v r i hv).mono (fun k hk=> ?_))
 subst hk
 have:=hv.links
 refine kP (p:=fun l:Int=>decide (uR v r i≥0)&&l==uR v r i) (by omega) ?_ rfl
 intro i' (x:Int) hx
 simp only [zJ hx,Option.bind_some]
 cases decide (uR v r i≥0)<;>cases x==uR v r i<;>rfl
theorem zT4 {α:Type} {p:α→Bool} (l:List α):(!l.any p)=l.all (fun x=> !p x):=by
 induction l with
 |nil=>rfl
 |cons x l ih=>simp [←ih]
theorem zFN (v:Ty.El zS) (r i:Int) (hv:zBA v):Wp (zHW (v,r,i,())) (fun b=>b=upB v r i):=by
 unfold zHW
 dsimp only
 refine zC ((zCz v r i hv).mono (fun k hk=> ?_))
 subst hk
 refine zI (fun h=>zB ?_) (fun h=> ?_)
 ·unfold upB
  have: ¬(0≤uR v r i):=by omega
  simp [this]
 ·refine zC ((zOe v r i hv).mono (fun k hk=> ?_))
  subst hk
  have h0:0≤uR v r i:=by omega
  have hd:=hv.down
  refine zC (zI (fun h=>zB (zB ?_)) (fun h=> ?_))
  ·unfold upB
   simp only [h0,decide_true,Bool.true_and]
   symm
   rw [List.all_eq_true]
   intro x hx
   have:=hv.down0 x hx
   simp only [Bool.not_eq_true',beq_eq_false_iff_ne]
   omega
  ·refine zC ((zAT _ _ (by omega)).mono (fun b hb=>zB (zB ?_)))
   subst hb
   unfold upB
   simp only [h0,decide_true,Bool.true_and]
   exact zT4 _
theorem zPL (v:Ty.El zS) (r i:Int) (hv:zBA v):Wp (zKw (v,r,i,())) (fun b=>b=upB v r i):=by
 unfold zKw
 dsimp only
 refine zC ((zBK v r i hv).mono (fun k hk=> ?_))
 subst hk
 refine zI (fun h=>zB ?_) (fun h=> ?_)
 ·unfold upB
  have: ¬(0≤uR v r i):=by omega
  simp [this]
 ·refine zC ((zNb v r i hv).mono (fun k hk=> ?_))
  subst hk
  have h0:0≤uR v r i:=by omega
  have hd:=hv.down
  refine zFC (P:=fun x:Int=>(x==zH5 v r i)=false) (by omega) ?_ (fun hall=>zB ?_)
  ·intro i' (x:Int) hx
   simp only [zJ hx,Option.bind_some]
   refine zG (fun h=>zB (e2r (e2r ?_))) (fun h=>zB (e2l ⟨rfl,h⟩))
   unfold upB
   simp only [h0,decide_true,Bool.true_and]
   symm
   rw [Bool.eq_false_iff]
   intro hh
   have:=List.all_eq_true.1 hh x (List.mem_of_getElem? hx)
   simp [h] at this
  ·unfold upB
   simp only [h0,decide_true,Bool.true_and]
   symm
   rw [List.all_eq_true]
   intro x hx
   simp [hall x hx]
def zOU (r:Ty.El zD) (nm:Ty.El .str):Int:=uE (fun x:Ty.El z2=>x.1==nm) r.2.2.1
theorem zHg (r:Ty.El zD) (nm:Ty.El .str) (hr:SmR r):Wp (zBa (r,nm,())) (fun k=>k=zOU r nm):=by
 unfold zBa wT zBj
 dsimp only
 have:=hr.i1
 refine zC (kP (p:=fun x:Ty.El z2=>x.1==nm) (by omega) ?_ (zB rfl))
 intro i x hx
 simp only [zJ hx,Option.bind_some]
 cases x.1==nm<;>rfl
theorem zIn (r:Ty.El zD) (nm:Ty.El .str) (hr:SmR r):Wp (yJ (r,nm,())) (fun k=>k=zOU r nm):=by
 unfold yJ
 dsimp only
 have:=hr.i1
 refine kP (p:=fun x:Ty.El z2=>x.1==nm) (by omega) ?_ rfl
 intro i x hx
 simp only [zJ hx,Option.bind_some]
 cases x.1==nm<;>rfl
end Go.Ve

namespace Go.Ve
open Go
set_option maxRecDepth 1000000
set_option maxHeartbeats 4000000
def w4 (n:Int):Nat:=min n.toNat 32
def zDi (k:Nat):BitVec 32:=BitVec.allOnes 32<<< (32-k)
theorem zQ2 (n:Int):w4 n≤32:=Nat.min_le_right _ _
theorem zXs {x:Int} (h0:0≤x) (h1:x<4294967296):IntKind.wrap .u32 x=x:=by
 have e1:((2:Int)^IntKind.bits .u32)=4294967296:=by decide
 simp only [IntKind.wrap,IntKind.signed,Bool.false_and,Bool.false_eq_true,if_false,e1]
 omega
theorem zQ7 (x:BitVec 32):IntKind.wrap .u32 (x.toNat:Int)=(x.toNat:Int):=zXs (by omega) (by have:=x.isLt;omega)
theorem zKW (x:BitVec 32):BitVec.ofInt 32 (x.toNat:Int)=x:=by
 rw [BitVec.ofInt_natCast,BitVec.ofNat_toNat,BitVec.setWidth_eq]
theorem zWn: ∀i,i<32→zDi i|||BitVec.ofInt 32 (IntKind.wrap .u32 (1*2^min (31-i) 32))=zDi (i+1):=by decide+kernel
theorem zWP:zDi 0=0#32:=by decide+kernel
theorem zR9: ∀k,k<33→IntKind.wrap .u32 (4294967295*2^min (32-k) 32)=((zDi k).toNat:Int):=by decide+kernel
theorem zDS (n:Int):Wp (zBs (n,())) (fun m=>m=((zDi (w4 n)).toNat:Int)):=by
 unfold zBs
 dsimp only
 refine zC ((zSc (n:=32) (by omega) (fun i (m:Int)=>m=((zDi (min i (w4 n))).toNat:Int)) (by simp [zWP]) (fun i g _=>by simp) ?_ (Q:=fun m=>m=((zDi (w4 n)).toNat:Int)) (fun g hg=>by
  rw [hg,Nat.min_eq_right (zQ2 n)])).mono (fun m hm=>zB hm))
 intro i g hi hg
 subst hg
 refine zI (fun h=> ?_) (fun h=>zB ?_)
 ·have h:(i:Int)<n:=h
  have hk:i<w4 n:=by unfold w4;omega
  refine zI (fun _=>zB ?_) (fun h'=>absurd ?_ h')
  ·have e1:min i (w4 n)=i:=by omega
   have e2:min (i+1) (w4 n)=i+1:=by omega
   rw [e1,e2]
   dsimp only
   rw [zF (by omega) (by omega),zJ7 (by omega) (by omega),show ((31:Int) - (i:Int)).toNat=31-i by omega]
   change IntKind.wrap .u32 (((BitVec.ofInt 32 ((zDi i).toNat:Int)|||BitVec.ofInt 32 (IntKind.wrap .u32 (1*2^min (31-i) 32))).toNat:Nat):Int)=_
   rw [zKW,zWn i hi,zQ7]
  ·simp only
   rw [zF (by omega) (by omega),zJ7 (by omega) (by omega)]
   omega
 ·have h: ¬((i:Int)<n):=h
  have hk:w4 n≤i:=by unfold w4;omega
  rw [Nat.min_eq_right hk,Nat.min_eq_right (by omega)]
theorem zTM (n:Int):(if (if (32:Int)<n then (32:Int) else n)>(0:Int) then if (32:Int)<n then (32:Int) else n else (0:Int))=(w4 n:Int):=by
 unfold w4
 split<;>split<;>omega
theorem zXg (n:Int):(if (0:Int)>if (32:Int)<n then (32:Int) else n then (0:Int) else if (32:Int)<n then (32:Int) else n)=(w4 n:Int):=by
 unfold w4
 split<;>split<;>omega
theorem zPw (n:Int):w4 ((w4 n:Nat):Int)=w4 n:=by
 unfold w4
 omega
theorem zHh (n:Int):zDM (n,())=some ((zDi (w4 n)).toNat:Int):=by
 have hle:=zQ2 n
 unfold zDM zCI
 simp only [zTM,Option.bind_some]
 rw [zF (by omega) (by omega)]
 have h0:(0:Int)≤32- ((w4 n:Nat):Int):=by omega
 simp only [h0,decide_true,cond_true]
 rw [show ((32:Int) - ((w4 n:Nat):Int)).toNat=32-w4 n by omega]
 exact congrArg some (zR9 _ (by omega))
def zDx (a n:Int):Ty.El zH:=(((BitVec.ofInt 32 a&&&zDi (w4 n)).toNat:Int),(w4 n:Int),())
def zC6 (p:Ty.El zH) (a:Int):Bool:=(((BitVec.ofInt 32 a&&&zDi (w4 p.2.1)).toNat:Nat):Int)==p.1
theorem zR7 (a:Int) (k:Nat):IntKind.wrap .u32 (((BitVec.ofInt (IntKind.bits .u32) a&&&BitVec.ofInt (IntKind.bits .u32) ((zDi k).toNat:Int)).toNat:Nat):Int)=((BitVec.ofInt 32 a&&&zDi k).toNat:Int):=by
 change IntKind.wrap .u32 (((BitVec.ofInt 32 a&&&BitVec.ofInt 32 ((zDi k).toNat:Int)).toNat:Nat):Int)=_
 rw [zKW,zQ7]
theorem zKq (a n:Int):zDC (a,n,())=some (zDx a n):=by
 refine w9 ?_
 unfold zDC
 dsimp only
 refine zC (qI (zHh _) ?_)
 unfold zCI
 simp only [zTM,Option.bind_some]
 refine zB ?_
 unfold zDx
 rw [zR7]
theorem x4 (a n:Int):w7 (a,n,())=some (zDx a n):=by
 refine w9 ?_
 unfold w7
 simp only [zXg]
 refine zC ((zDS _).mono (fun m hm=>zB ?_))
 subst hm
 unfold zDx
 rw [zPw,zR7]
theorem zJj (p:Ty.El zH) (a:Int):xV (p,a,())=some (zC6 p a):=by
 refine w9 ?_
 unfold xV
 dsimp only
 refine zC ((zDS _).mono (fun m hm=>zB ?_))
 subst hm
 rw [zR7]
 rfl
theorem zJl (p:Ty.El zH) (a:Int):wO (p,a,())=some (zC6 p a):=by
 refine w9 ?_
 unfold wO
 dsimp only
 refine zC (qI (zHh _) (zB ?_))
 rw [zR7]
 rfl
theorem zWL (a n:Int):zC6 (zDx a n) (zDx a n).1=true:=by
 unfold zC6 zDx
 simp only [zPw,zKW]
 rw [BitVec.and_assoc,BitVec.and_self]
 simp
theorem zAo (p q:Ty.El zH):vB (p,q,())=some (decide (p.2.1≤q.2.1)&&zC6 p q.1):=by
 refine w9 ?_
 unfold vB
 dsimp only
 refine zC (zG (fun h=>zC (qI (zJj _ _) (zB (zB ?_)))) (fun h=>zB (zB ?_)))<;>(rw [h];rfl)
theorem zJi (p q:Ty.El zH):uL (p,q,())=some ((decide (p.2.1≤q.2.1)&&zC6 p q.1)||(decide (q.2.1≤p.2.1)&&zC6 q p.1)):=by
 refine w9 ?_
 unfold uL
 dsimp only
 refine zC (zC (qI (zAo _ _) (zG (fun h=>zB (zB ?_)) (fun h=>zC (qI (zAo _ _) (zB (zB ?_)))))))<;>(rw [h];rfl)
def zN1 (p:Ty.El zH):Bool:=decide (p.2.1≥0)&&(decide (p.2.1≤32)&&(BitVec.ofInt 32 p.1&&& ~~~ zDi (w4 p.2.1))==0#32)
theorem zNa (p:Ty.El zH):wY (p,())=some (zN1 p):=by
 refine w9 ?_
 unfold wY zN1
 dsimp only
 refine zC (zG (fun h=>zG (fun h'=>zC ((zDS _).mono (fun m hm=>zB (zB ?_)))) (fun h'=>zB (zB ?_))) (fun h=>zB (zB ?_)))
 ·subst hm
  rw [h,h']
  simp only [Bool.true_and]
  change (IntKind.wrap .u32 (((BitVec.ofInt 32 p.1&&& ~~~ BitVec.ofInt 32 ((zDi (w4 p.2.1)).toNat:Int)).toNat:Nat):Int)==(0:Int))=_
  rw [zKW,zQ7,Bool.eq_iff_iff,beq_iff_eq,beq_iff_eq]
  constructor
  ·intro h
   apply BitVec.eq_of_toNat_eq
   simp only [BitVec.toNat_ofNat]
   omega
  ·intro h
   rw [h];rfl
 ·rw [h,h'];rfl
 ·rw [h];rfl
end Go.Ve

namespace Go.Ve
open Go
set_option maxRecDepth 1000000
set_option maxHeartbeats 4000000
section
variable {ρ:Type}
theorem zZx {n:Nat} {body:Int→Option (Int ⊕ (Unit ⊕ ρ))} {Q:Unit ⊕ ρ→Prop} (hl:n<4611686018427387904) (J:Nat→Prop) (h0:J 0)
  (step: ∀i,i<n→J i→Wp (body (i:Int)) (wU (fun s'=>s'=IntKind.wrap IntKind.i64 ((i:Int)+1)∧J (i+1)) Q)) (fin:J n→Q (Sum.inl ())):
  Wp (zP (fun s:Int=>bif decide (s< (n:Int)) then body s else some (Sum.inr (Sum.inl ()))) (0:Int)) Q:=by
 refine jU (fun (s:Int)=> ∃i:Nat,s=(i:Int)∧i≤n∧J i) (fun (s:Int)=>((n:Int) -s).toNat) ⟨(0:Nat),rfl,Nat.zero_le _,h0⟩ ?_
 rintro s ⟨i,hi,hle,hj⟩
 subst hi
 refine zI ?_ ?_
 ·intro hc
  have hlt:i<n:=by omega
  refine (step i hlt hj).mono ?_
  intro o ho
  cases o with
  |inl s'=>
   obtain ⟨rfl,h2⟩:=ho
   rw [zF (by omega) (by omega)]
   exact ⟨⟨i+1,by omega,hlt,h2⟩,by omega⟩
  |inr o=>exact ho
 ·intro hc
  have:i=n:=by omega
  subst this
  exact zB (e2r (fin hj))
theorem zFB {n:Nat} {P:Nat→Prop} {body:Int→Option (Int ⊕ (Unit ⊕ ρ))} {Q:Unit ⊕ ρ→Prop} (hl:n<4611686018427387904)
  (step: ∀i,i<n→Wp (body (i:Int)) (wU (fun s'=>s'=IntKind.wrap IntKind.i64 ((i:Int)+1)∧P i) Q)) (fin:(∀i,i<n→P i)→Q (Sum.inl ())):
  Wp (zP (fun s:Int=>bif decide (s< (n:Int)) then body s else some (Sum.inr (Sum.inl ()))) (0:Int)) Q:=by
 refine zZx hl (fun i=> ∀j,j<i→P j) (fun j hj=>by omega) ?_ fin
 intro i hi hj
 refine (step i hi).mono ?_
 intro o ho
 cases o with
 |inl s'=>
  refine ⟨ho.1,?_⟩
  intro j hj'
  rcases Nat.lt_or_ge j i with h'|h'
  ·exact hj j h'
  ·have:j=i:=by omega
   subst this
   exact ho.2
 |inr o=>exact ho
end
theorem zZw {σ ρ:Type} {m:Option (σ ⊕ ρ)} {K:σ→Option ρ} {Q:ρ→Prop} (P:σ→Prop) (h:Wp m (wU P Q)) (hK: ∀s,P s→Wp (K s) Q):Wp (qT m K) Q:=by
 refine qF (h.mono ?_)
 intro o ho
 cases o with
 |inl s=>exact hK s ho
 |inr r=>exact ho
theorem qD (a lo hi:Int):zY (a,lo,hi,())=some (decide (lo≤a)&&decide (a≤hi)):=by
 refine w9 ?_
 unfold zY
 dsimp only
 refine zC (zG (fun h=>zB (zB ?_)) (fun h=>zB (zB ?_)))<;>(rw [h];rfl)
def ovB (p q:Ty.El zH):Bool:=(decide (p.2.1≤q.2.1)&&zC6 p q.1)||(decide (q.2.1≤p.2.1)&&zC6 q p.1)
theorem zSZ (a n:Int):ovB (zDx a n) (zDx a n)=true:=by
 unfold ovB
 rw [zWL]
 simp
structure qAL (l:List (Ty.El z2)) (i:Nat) (x:Ty.El z2):Prop where
 name: ∀j y,j<i→l[j]? =some y→y.1≠x.1
 len:0≤x.2.2.1∧x.2.2.1≤32
 addr:x.2.2.1≠0→x.2.1≠0
 ls:x.2.2.2.2.2.1=true→(0≤x.2.2.2.2.2.2.1∧x.2.2.2.2.2.2.1≤255)∧1≤x.2.2.2.2.2.2.2.1∧x.2.2.2.2.2.2.2.1≤65535
 apart: ∀j y,j<i→l[j]? =some y→x.2.2.1≠0→y.2.2.1≠0→ovB (zDx x.2.1 x.2.2.1) (zDx y.2.1 y.2.2.1)=false
def qAK (l:List (Ty.El z2)):Prop:= ∀i x,l[i]? =some x→qAL l i x
theorem zPy (l:List (Ty.El z2)) (h0:l.length≤20):Wp (kM (l,())) (fun e=>e=0→qAK l∧l.length≤8):=by
 unfold kM
 dsimp only
 refine zI (fun _=>zB (fun h=>by cases h)) (fun h=> ?_)
 refine x3 (by omega) (fun i=> ∀m x,m<i→l[m]? =some x→qAL l m x) (fun m x hm=>by omega) ?_ (fun hj=>zB (fun _=>⟨fun i x hx=>hj i x (List.getElem?_eq_some_iff.1 hx).1 hx,by omega⟩))
 intro i x hx hj
 have hi:=(List.getElem?_eq_some_iff.1 hx).1
 simp only [zJ hx,Option.bind_some]
 refine qF (zC ((vV _).mono (fun b _=> ?_)))
 refine zG (fun _=>zB (fun h=>by cases h)) (fun _=> ?_)
 refine qF (zFB (n:=i) (P:=fun j=> ∀y,l[j]? =some y→y.1≠x.1) (by omega) ?_ (fun hname=> ?_))
 ·intro j hjl
  have hy:l[j]? =some l[j]:=by simp
  simp only [zJ hy,Option.bind_some]
  refine zG (fun _=>zB (fun h=>by cases h)) (fun hn=>zB (e2l ⟨rfl,?_⟩))
  intro y hy'
  rw [hy] at hy'
  cases hy'
  simpa using hn
 ·refine e2l (zC ((show Wp _ (fun s:Bool=>s=false→0≤x.2.2.1∧x.2.2.1≤32) from ?_).mono (fun s hs=> ?_)))
  ·refine zC (qI (qD _ _ _) (zG (fun _=>zB (fun h=>by cases h)) (fun h1=>zC (qI (qD _ _ _) (zG (fun _=>zB (fun h=>by cases h)) (fun _=>zC (qI (qD _ _ _) (zB (fun _=> ?_)))))))))
   simpa using h1
  refine zG (fun _=>zB (fun h=>by cases h)) (fun h1=> ?_)
  have hlen:=hs h1
  refine zC ((show Wp _ (fun s:Bool=>s=false→x.2.2.1≠0→x.2.1≠0) from ?_).mono (fun s hs=> ?_))
  ·refine zG (fun hz=> ?_) (fun hz=> ?_)
   ·have hz:x.2.2.1=0:=by simpa using hz
    repeat' (first
     |exact zB (fun _ hne=>absurd hz hne)
     |refine zG (fun _=> ?_) (fun _=> ?_))
   ·refine zG (fun _=>zB (fun h' _=>by simpa using h')) (fun h'=>zB (fun _ hne=> ?_))
    rw [hz] at*
    exact absurd (show x.2.2.1=0 by simpa using h') hne
  refine zG (fun _=>zB (fun h=>by cases h)) (fun h2=> ?_)
  have haddr:=hs h2
  refine zC ((show Wp _ (fun s:Bool=>s=false→x.2.2.2.2.2.1=true→(0≤x.2.2.2.2.2.2.1∧x.2.2.2.2.2.2.1≤255)∧1≤x.2.2.2.2.2.2.2.1∧x.2.2.2.2.2.2.2.1≤65535) from ?_).mono (fun s hs=> ?_))
  ·refine zG (fun hz=> ?_) (fun hz=> ?_)
   ·refine zC (qI (qD _ _ _) (zG (fun _=>zB (fun h=>by cases h)) (fun h3=>zC (qI (qD _ _ _) (zG (fun _=>zB (fun h=>by cases h)) (fun h4=> ?_))))))
    have h3:0≤x.2.2.2.2.2.2.1∧x.2.2.2.2.2.2.1≤255:=by simpa using h3
    have h4:1≤x.2.2.2.2.2.2.2.1∧x.2.2.2.2.2.2.2.1≤65535:=by simpa using h4
    repeat' (first
     |exact zB (fun _ _=>⟨h3,h4⟩)
     |refine zG (fun _=> ?_) (fun _=> ?_))
   ·repeat' (first
     |exact zB (fun _ ht=>by rw [hz] at ht;cases ht)
     |refine zG (fun _=> ?_) (fun _=> ?_))
  refine zG (fun _=>zB (fun h=>by cases h)) (fun h3=> ?_)
  have hls:=hs h3
  refine zFB (n:=i) (P:=fun j=> ∀y,l[j]? =some y→x.2.2.1≠0→y.2.2.1≠0→ovB (zDx x.2.1 x.2.2.1) (zDx y.2.1 y.2.2.1)=false) (by omega) ?_ (fun hap=> ?_)
  ·intro j hjl
   have hy:l[j]? =some l[j]:=by simp
   simp only [zJ hy,Option.bind_some]
   refine zC ((show Wp _ (fun s:Bool=>s=false→x.2.2.1≠0→l[j].2.2.1≠0→ovB (zDx x.2.1 x.2.2.1) (zDx l[j].2.1 l[j].2.2.1)=false) from ?_).mono (fun s hs=> ?_))
   ·refine zG (fun _=>zG (fun _=> ?_) (fun hz=>zB (fun _ _ hne=> ?_))) (fun hz=>zB (fun _ hne=> ?_))
    ·exact zC (qI (x4 _ _) (zC (qI (x4 _ _) (zC (qI (zJi _ _) (zB (fun h _ _=>h)))))))
    ·exact absurd (show l[j].2.2.1=0 by simpa using hz) hne
    ·exact absurd (show x.2.2.1=0 by simpa using hz) hne
   ·refine zG (fun _=>zB (fun h=>by cases h)) (fun hn=>zB (e2l ⟨rfl,?_⟩))
    intro y hy'
    rw [hy] at hy'
    cases hy'
    exact hs hn
  ·refine e2l (zB (e2l ⟨rfl,?_⟩))
   intro m z hm hz
   rcases Nat.lt_or_ge m i with h'|h'
   ·exact hj m z h' hz
   ·have:m=i:=by omega
    subst this
    rw [hx] at hz
    cases hz
    exact ⟨fun j y hjl hy=>hname j hjl y hy,hlen,haddr,hls,fun j y hjl hy=>hap j hjl y hy⟩
structure qAI (r:Ty.El zD) (x:Ty.El zFJ):Prop where
 pre:zN1 x.1=true
 admin:1≤x.2.2.2.2.1∧x.2.2.2.2.1≤255
 tag:0≤x.2.2.2.2.2.1∧x.2.2.2.2.2.1≤65535
 one:(x.2.1≠0∧x.2.2.1= { data:= #[] } ∧x.2.2.2.1=false)∨(x.2.1=0∧x.2.2.1≠ { data:= #[] } ∧x.2.2.2.1=false)∨(x.2.1=0∧x.2.2.1= { data:= #[] } ∧x.2.2.2.1=true)
 iface:x.2.2.1≠ { data:= #[] } →0≤zOU r x.2.2.1
def qAH (r:Ty.El zD):Prop:= ∀x,x∈r.2.2.2.2.2.2.2.1→qAI r x
theorem zTO (r:Ty.El zD) (hr:SmR r):Wp (zAu (r,())) (fun e=>e=0→qAH r):=by
 have hs6:=hr.i6
 unfold zAu
 dsimp only
 refine zI (fun _=>zB (fun h=>by cases h)) (fun h=> ?_)
 refine zFC (P:=qAI r) (by omega) ?_ (fun hj=>zB (fun _=>hj))
 intro i x hx
 have hi:=(List.getElem?_eq_some_iff.1 hx).1
 simp only [zJ hx,Option.bind_some]
 refine qF ?_
 have w1:IntKind.wrap .i64 ((0:Int)+1)=1:=by decide
 have w2:IntKind.wrap .i64 ((1:Int)+1)=2:=by decide
 have w3:IntKind.wrap .i64 ((2:Int)+1)=3:=by decide
 refine zC ((show Wp _ (fun k:Int=>k=if x.2.1≠0 then 1 else 0) from ?_).mono (fun k1 hk1=> ?_))
 ·refine zG (fun h=>zB ?_) (fun h=>zB ?_)
  ·rw [w1,if_pos (by simpa using h)]
  ·rw [if_neg (by simpa using h)]
 refine zC ((show Wp _ (fun k:Int=>k=k1+if x.2.2.1≠ { data:= #[] } then 1 else 0) from ?_).mono (fun k2 hk2=> ?_))
 ·refine zG (fun h=>zB ?_) (fun h=>zB ?_)
  ·rw [if_pos (by simpa using h)]
   split at hk1<;>(subst hk1;first|exact w1|exact w2)
  ·rw [if_neg (by simpa using h)];omega
 refine zC ((show Wp _ (fun k:Int=>k=k2+if x.2.2.2.1=true then 1 else 0) from ?_).mono (fun k3 hk3=> ?_))
 ·refine zG (fun h=>zB ?_) (fun h=>zB ?_)
  ·have h:x.2.2.2.1=true:=h
   rw [if_pos h]
   split at hk1<;>split at hk2<;>(subst hk1;subst hk2;first|exact w1|exact w2|exact w3)
  ·have h:x.2.2.2.1=false:=h
   rw [if_neg (by rw [h];simp)];omega
 refine zC ((show Wp _ (fun s:Bool=>s=false→zN1 x.1=true∧k3=1∧(1≤x.2.2.2.2.1∧x.2.2.2.2.1≤255)∧0≤x.2.2.2.2.2.1∧x.2.2.2.2.2.1≤65535) from ?_).mono (fun s hs=> ?_))
 ·refine zC (qI (zNa _) (zG (fun _=>zB (fun h=>by cases h)) (fun h1=>zG (fun _=>zB (fun h=>by cases h)) (fun h2=> ?_))))
  have h1:zN1 x.1=true:=by simpa using h1
  have h2:k3=1:=by simpa using h2
  refine zG (fun _=>zC ((zCw r x.2.1 hr).mono (fun k _=>zI (fun _=>zB (fun h=>by cases h)) (fun _=> ?_)))) (fun _=> ?_)
  all_goals
   refine zC (qI (qD _ _ _) (zG (fun _=>zB (fun h=>by cases h)) (fun h3=>zC (qI (qD _ _ _) (zB (fun h4=>⟨h1,h2,?_,?_⟩))))))
   ·simpa using h3
   ·simpa using h4
 refine zG (fun _=>zB (fun h=>by cases h)) (fun h1=> ?_)
 obtain ⟨g1,g2,g3,g4⟩:=hs h1
 refine zZw (fun _:Unit=>x.2.2.1≠ { data:= #[] } →0≤zOU r x.2.2.1) ?_ (fun _ hif=> ?_)
 ·refine zG (fun hne=> ?_) (fun hne=>zB (e2l (fun h=>absurd h (by simpa using hne))))
  refine zC ((zIn r _ hr).mono (fun k hk=> ?_))
  subst hk
  refine zI (fun _=>zB (fun h=>by cases h)) (fun hk=> ?_)
  have hk0:0≤zOU r x.2.2.1:=Int.not_lt.1 hk
  obtain ⟨y,hy,_⟩:=zEE (p:=fun x':Ty.El z2=>x'.1==x.2.2.1) (xs:=r.2.2.1) hk0
  refine zC (qI (qAb hk0 hy) (zG (fun _=>zB (fun h=>by cases h)) (fun _=>zB (e2l (fun _=>hk0)))))
 ·refine zFB (n:=i) (P:=fun _=>True) (by omega) ?_ (fun _=>e2l (zB (e2l ⟨rfl,g1,g3,g4,?_,hif⟩)))
  ·intro j hjl
   have hy:r.2.2.2.2.2.2.2.1[j]? =some r.2.2.2.2.2.2.2.1[j]:=by simp
   simp only [zJ hy,Option.bind_some]
   refine zC ((show Wp _ (fun _:Bool=>True) from ?_).mono (fun s _=>zG (fun _=>zB (fun h=>by cases h)) (fun _=>zB (e2l ⟨rfl,trivial⟩))))
   exact zG (fun _=>zB trivial) (fun _=>zB trivial)
  ·rw [hk3,hk2,hk1] at g2
   by_cases c1:x.2.1=0<;>by_cases c2:x.2.2.1= { data:= #[] } <;>cases c3:x.2.2.2.1<;>simp [c1,c2,c3] at g2 ⊢
end Go.Ve

namespace Go.Ve
open Go
set_option maxRecDepth 1000000
set_option maxHeartbeats 4000000
def zZi (r:Ty.El zD) (a:Int):Int:=uE (fun x:Ty.El z2=>x.2.2.1 !=0&&x.2.1==a) r.2.2.1
theorem zKl (r:Ty.El zD) (a:Int) (hr:SmR r):Wp (xE (r,a,())) (fun k=>k=zZi r a):=by
 unfold xE
 dsimp only
 have:=hr.i1
 refine kP (p:=fun x:Ty.El z2=>x.2.2.1 !=0&&x.2.1==a) (by omega) ?_ rfl
 intro i x hx
 simp only [zJ hx,Option.bind_some]
 cases x.2.2.1 !=0<;>cases x.2.1==a<;>rfl
structure zZl (r:Ty.El zD):Prop where
 asn:0≤r.2.1∧r.2.1≤65535
 ifs:qAK r.2.2.1
 sts:qAH r
 lists:yG (r.2.2.2.1,())=some 0
 maps:kD (r,())=some 0
 acls:yI (r.2.2.2.2.2.1,())=some 0
 nat:kS (r,())=some 0
 filters:zBS (r,())=some 0
 ls:zAd (r,())=some 0
 dv:zAU (r,())=some 0
 pv:vI (r,())=some 0
 ifl:r.2.2.1.length≤8
theorem zNJ (r:Ty.El zD) (hr:SmR r):Wp (vZ (r,())) (fun e=>e=0→zZl r):=by
 have hr0:=hr
 obtain ⟨i1,i2,i3,i4,i5,i6,i7,i8,i9,i10,i11,i12,i13,i14,n1,n2,n3⟩:=hr0
 unfold vZ
 dsimp only
 refine zC ((vV _).mono (fun b _=> ?_))
 refine zG (fun _=>zB (fun h=>by cases h)) (fun _=> ?_)
 refine zC (qI (qD _ _ _) (zG (fun _=>zB (fun h=>by cases h)) (fun has=> ?_)))
 have has:0≤r.2.1∧r.2.1≤65535:=by simpa using has
 refine zC ((zPy _ i1).mono (fun y12 h12=> ?_))
 refine zAR ((zCR _ i2 n1).mono (fun _ _=>trivial)) (fun y13 h13=> ?_)
 refine zAR ((zDN _ hr).mono (fun _ _=>trivial)) (fun y14 h14=> ?_)
 refine zAR ((zCS _ i4 n3).mono (fun _ _=>trivial)) (fun y15 h15=> ?_)
 refine zAR ((zCm _ hr).mono (fun _ _=>trivial)) (fun y16 h16=> ?_)
 refine zAR ((zE2 _ hr).mono (fun _ _=>trivial)) (fun y17 h17=> ?_)
 refine zC ((zTO _ hr).mono (fun y18 h18=> ?_))
 refine zAR ((zDO _ hr).mono (fun _ _=>trivial)) (fun y19 h19=> ?_)
 refine zAR ((zEo _ hr).mono (fun _ _=>trivial)) (fun y20 h20=> ?_)
 refine zAR ((zDf _ hr).mono (fun _ _=>trivial)) (fun y21 h21=> ?_)
 refine zFC (P:=fun x:Int=>x=0) (xs:=[y12,y13,y14,y15,y16,y17,y18,y19,y20,y21]) (by simp) ?_ (fun hall=>zB (fun _=> ?_))
 ·intro i x hx
  simp only [zJ hx,Option.bind_some]
  refine zG (fun hne=>zB (fun h=> ?_)) (fun h=>zB (e2l ⟨rfl,by simpa using h⟩))
  have h:x=0:=h
  rw [h] at hne
  cases hne
 ·have e12:=hall y12 (by simp)
  have e13:=hall y13 (by simp)
  have e14:=hall y14 (by simp)
  have e15:=hall y15 (by simp)
  have e16:=hall y16 (by simp)
  have e17:=hall y17 (by simp)
  have e18:=hall y18 (by simp)
  have e19:=hall y19 (by simp)
  have e20:=hall y20 (by simp)
  have e21:=hall y21 (by simp)
  exact ⟨has,(h12 e12).1,h18 e18,e13▸h13,e14▸h14,e15▸h15,e16▸h16,e17▸h17,e19▸h19,e20▸h20,e21▸h21,(h12 e12).2⟩
structure qAJ (n:Ty.El zW):Prop where
 len:n.1.length≤8
 rt: ∀r,r∈n.1→zZl r
 name: ∀ (i j:Nat) r q,j<i→n.1[i]? =some r→n.1[j]? =some q→q.1≠r.1
 addr: ∀ (i j:Nat) r q,i≠j→n.1[i]? =some r→n.1[j]? =some q→ ∀x y,x∈r.2.2.1→y∈q.2.2.1→x.2.2.1≠0→y.2.2.1≠0→x.2.1≠y.2.1
theorem zXh (n:Ty.El zW) (hs: ∀y,y∈n.1→SmR y):Wp (uK (n,())) (fun e=>e=0→qAJ n):=by
 unfold uK
 dsimp only
 refine zI (fun _=>zB (fun h=>by cases h)) (fun hl=> ?_)
 refine x3 (by omega) (fun i=> ∀m r,m<i→n.1[m]? =some r→zZl r∧(∀j q,j<m→n.1[j]? =some q→q.1≠r.1∧ ∀x y,x∈r.2.2.1→y∈q.2.2.1→x.2.2.1≠0→y.2.2.1≠0→x.2.1≠y.2.1)) (fun m x hm=>by omega) ?_ (fun hj=>zB (fun _=> ?_))
 ·intro i r hr hj
  have hi:=(List.getElem?_eq_some_iff.1 hr).1
  have hsm:=hs r (List.mem_of_getElem? hr)
  have hs1:=hsm.i1
  simp only [zJ hr,Option.bind_some]
  refine qF (zC ((zNJ r hsm).mono (fun e he=> ?_)))
  refine zG (fun hne=>zB (fun h=> ?_)) (fun h=> ?_)
  ·have h:e=0:=h
   rw [h] at hne
   cases hne
  have hrt:=he (by simpa using h)
  refine qF (zFB (n:=i) (P:=fun j=> ∀q,n.1[j]? =some q→q.1≠r.1) (by omega) ?_ (fun hname=> ?_))
  ·intro j hjl
   have hq:n.1[j]? =some n.1[j]:=by simp
   simp only [zJ hq,Option.bind_some]
   refine zG (fun _=>zB (fun h=>by cases h)) (fun hn=>zB (e2l ⟨rfl,?_⟩))
   intro q hq'
   rw [hq] at hq'
   cases hq'
   simpa using hn
  refine e2l (zVI (P:=fun x:Ty.El z2=> ∀j q,j<i→n.1[j]? =some q→ ∀y,y∈q.2.2.1→x.2.2.1≠0→y.2.2.1≠0→x.2.1≠y.2.1) (by omega) ?_ (fun hall=> ?_))
  ·intro k x hx
   simp only [zJ hx,Option.bind_some]
   refine qF (zFB (n:=i) (P:=fun j=> ∀q,n.1[j]? =some q→ ∀y,y∈q.2.2.1→x.2.2.1≠0→y.2.2.1≠0→x.2.1≠y.2.1) (by omega) ?_ (fun hall=>e2l (zB (e2l ⟨rfl,fun j q hjl hq=>hall j hjl q hq⟩))))
   intro j hjl
   have hq:n.1[j]? =some n.1[j]:=by simp
   simp only [zJ hq,Option.bind_some]
   refine zC ((show Wp _ (fun s:Bool=>s=false→ ∀y,y∈n.1[j].2.2.1→x.2.2.1≠0→y.2.2.1≠0→x.2.1≠y.2.1) from ?_).mono (fun s hs'=> ?_))
   ·refine zG (fun _=>zC ((zKl _ _ (hs _ (List.getElem_mem _))).mono (fun k hk=>zB ?_))) (fun hz=>zB (fun _ y _ hne=>absurd (show x.2.2.1=0 by simpa using hz) hne))
    subst hk
    intro hlt y hy _ hyz hxy
    have hlt: ¬(zZi n.1[j] x.2.1≥0):=of_decide_eq_false hlt
    apply hlt
    unfold zZi
    rw [zED]
    refine List.any_eq_true.2 ⟨y,hy,?_⟩
    have h1:(y.2.2.1 !=0)=true:=by simpa using hyz
    have h2:(y.2.1==x.2.1)=true:=beq_iff_eq.2 hxy.symm
    rw [h1,h2];rfl
   ·refine zG (fun _=>zB ⟨(fun u h=>by cases h),(fun h=>by cases h)⟩) (fun hn=>zB (e2l ⟨rfl,?_⟩))
    intro q hq'
    rw [hq] at hq'
    cases hq'
    exact hs' hn
  ·refine e2l (zB (e2l ⟨rfl,?_⟩))
   intro m z hm hz
   rcases Nat.lt_or_ge m i with h'|h'
   ·exact hj m z h' hz
   ·have:m=i:=by omega
    subst this
    rw [hr] at hz
    cases hz
    exact ⟨hrt,fun j q hjl hq=>⟨hname j hjl q hq,fun x y hx hy=>hall x hx j q hjl hq y hy⟩⟩
 ·have hall: ∀m r,n.1[m]? =some r→_:=fun m r hr=>hj m r (List.getElem?_eq_some_iff.1 hr).1 hr
  refine ⟨by omega,?_,?_,?_⟩
  ·intro r hr
   obtain ⟨m,hm,rfl⟩:=List.getElem_of_mem hr
   exact (hall m _ (by simp [hm])).1
  ·intro i j r q hji hr hq
   exact ((hall i r hr).2 j q hji hq).1
  ·intro i j r q hne hr hq x y hx hy hx0 hy0
   rcases Nat.lt_or_ge j i with h'|h'
   ·exact ((hall i r hr).2 j q h' hq).2 x y hx hy hx0 hy0
   ·exact fun h=>((hall j q hq).2 i r (by omega) hr).2 y x hy hx hy0 hx0 h.symm
theorem zUK {n:Ty.El zW} {d:List Int} {v:Ty.El zS} (h:zCJ n d v):qAJ n:=by
 obtain ⟨e,h1,h2⟩:=zXh n h.sm
 have h3:=h.chk
 rw [h1] at h3
 exact h2 (Option.some.inj h3)
end Go.Ve

namespace Go.Ve
open Go
set_option maxRecDepth 1000000
set_option maxHeartbeats 4000000
def rlt (x y:Ty.El zA):Prop:=plt x.1 y.1
theorem zVT:Ord rlt where
 asym:=fun x y h=>zH3.asym _ _ h
 tr:=fun x y z h1 h2=>zH3.tr _ _ _ h1 h2
end Go.Ve

namespace Go.Ve
open Go
set_option maxRecDepth 1000000
set_option maxHeartbeats 4000000
def zDZ (x:Ty.El zA):Int×Int×Int×Int×Int×Int×Int:=
 bif x.2.1==(3:Int) then (x.2.2.1,x.2.2.2.2.1,x.2.2.2.2.2.1,x.2.2.2.2.2.2.1,(0:Int),(0:Int),(0:Int))
 else bif x.2.1==(4:Int) then (x.2.2.2.2.1,x.2.2.1,x.2.2.2.2.2.2.1,(0:Int),(0:Int),(0:Int),(0:Int))
 else bif x.2.1==(5:Int) then (if (3:Int)<x.2.2.1 then (3:Int) else x.2.2.1,IntKind.wrap IntKind.i64 ((1000000:Int) -x.2.2.2.2.2.2.2.1),(x.2.2.2.2.2.2.2.2.1.length:Int),x.2.2.2.2.1,x.2.2.1,IntKind.wrap IntKind.i64 x.2.2.2.2.2.2.2.2.2.1,(0:Int))
 else (x.2.2.2.1,(0:Int),(0:Int),(0:Int),(0:Int),(0:Int),(0:Int))
def zLt:List (Int×Int)→Int
 |[]=>0
 |(a,b)::r=>if a<b then-1 else if b<a then 1 else zLt r
def zCr (x y:Ty.El zA):Int:=
 zLt [((zDZ x).1,(zDZ y).1),((zDZ x).2.1,(zDZ y).2.1),((zDZ x).2.2.1,(zDZ y).2.2.1),((zDZ x).2.2.2.1,(zDZ y).2.2.2.1),((zDZ x).2.2.2.2.1,(zDZ y).2.2.2.2.1),((zDZ x).2.2.2.2.2.1,(zDZ y).2.2.2.2.2.1),((zDZ x).2.2.2.2.2.2,(zDZ y).2.2.2.2.2.2)]
section
variable {α:Type} {lt eq:α→α→Bool}
def zGZ (lt eq:α→α→Bool) (h:α):List α→List α
 |[]=>[h]
 |x::r=>bif lt x h then x::zGZ lt eq h r else bif eq x h then x::r else h::x::r
theorem zK3 (heq: ∀x y,eq x y=true↔x=y) {h z:α} : ∀ {l:List α},z∈zGZ lt eq h l↔z∈l∨z=h
 |[]=>by simp [zGZ]
 |x::r=>by
  simp only [zGZ]
  cases lt x h with
  |true=>simp only [cond_true,List.mem_cons,zK3 heq (l:=r)];exact or_assoc.symm
  |false=>
   simp only [cond_false]
   cases he:eq x h with
   |true=>
    have:=(heq x h).1 he
    subst this
    simp only [cond_true,List.mem_cons]
    exact ⟨fun h=> .inl h,fun h=>h.elim id .inl⟩
   |false=>simp only [cond_false,List.mem_cons];exact ⟨fun h=>h.elim .inr .inl,fun h=>h.elim .inr .inl⟩
theorem zHC {R:α→α→Prop} (ho:Ord R) (hlt: ∀x y,lt x y=true↔R x y) (heq: ∀x y,eq x y=true↔x=y) (htot: ∀x y, ¬R x y→x≠y→R y x) {h:α} : ∀ {l:List α},l.Pairwise R→(zGZ lt eq h l).Pairwise R
 |[],_=>by simp [zGZ]
 |x::r,hp=>by
  rw [List.pairwise_cons] at hp
  simp only [zGZ]
  cases hx:lt x h with
  |true=>
   simp only [cond_true]
   rw [List.pairwise_cons]
   refine ⟨fun z hz=> ?_,zHC ho hlt heq htot hp.2⟩
   rcases (zK3 heq).1 hz with hz|rfl
   ·exact hp.1 z hz
   ·exact (hlt _ _).1 hx
  |false=>
   simp only [cond_false]
   have hn: ¬R x h:=fun hh=>by rw [(hlt _ _).2 hh] at hx;cases hx
   cases he:eq x h with
   |true=>simp only [cond_true];rw [List.pairwise_cons];exact hp
   |false=>
    simp only [cond_false]
    have hne:x≠h:=fun e=>by rw [(heq _ _).2 e] at he;cases he
    have hr:=htot _ _ hn hne
    have tr: ∀z,R x z→R h z:=by
     intro z hz
     exact Classical.byContradiction (fun hnz=>ho.tr x z h (ho.asym _ _ hz) hnz hr)
    rw [List.pairwise_cons,List.pairwise_cons]
    refine ⟨fun z hz=> ?_,hp⟩
    rcases List.mem_cons.1 hz with rfl|hz
    ·exact hr
    ·exact tr z (hp.1 z hz)
end
end Go.Ve

namespace Go.Ve
open Go
set_option maxRecDepth 1000000
set_option maxHeartbeats 4000000
noncomputable def act (v:Ty.El zS) (t:List (Ty.El zA)) (r:Int) (rt:Ty.El zD) (x:Ty.El zFJ):Option (Ty.El zA):=
 bif x.2.1 !=(0:Int) then match zHk t x.1 x.2.1 with
  |none=>none
  |some y=>bif y.2.2.2.2.2.2.2.2.2.2.2.2.1 then none else some (x.1,(2:Int),(0:Int),x.2.2.2.2.1,(0:Int),(0:Int),x.2.2.2.2.2.1,(0:Int),[],(0:Int),x.2.1,[],false,())
 else bif x.2.2.1 != { data:= #[] } then
  bif upB v r (zOU rt x.2.2.1) then some (x.1,(2:Int),(0:Int),x.2.2.2.2.1,(0:Int),(0:Int),x.2.2.2.2.2.1,(0:Int),[],(0:Int),(0:Int),[(zOU rt x.2.2.1,(0:Int),())],false,()) else none
 else bif x.2.2.2.1 then some (x.1,(2:Int),(0:Int),x.2.2.2.2.1,(0:Int),(0:Int),x.2.2.2.2.2.1,(0:Int),[],(0:Int),(0:Int),[],true,()) else none
theorem vD {α β:Type} {f:α→Option β} {xs:List α} {i:Nat} {x:α} (h:xs[i]? =some x):(xs.take (i+1)).filterMap f=(xs.take i).filterMap f++(f x).toList:=by
 rw [List.take_add_one,h,Option.toList_some,List.filterMap_append,List.filterMap_cons,List.filterMap_nil]
 cases f x<;>rfl
theorem zJg (v:Ty.El zS) (t:List (Ty.El zA)) (r:Nat) (rt:Ty.El zD) (hv:zBA v) (hr:v.1.1[r]? =some rt) (ht:t.length≤1048576):
  Wp (zCN (v,t,(r:Int),())) (fun out=>out=rt.2.2.2.2.2.2.2.1.filterMap (act v t r rt)):=by
 unfold zCN
 dsimp only
 have hrl:=(List.getElem?_eq_some_iff.1 hr).1
 have hsm:=hv.sm rt (List.mem_of_getElem? hr)
 have hst:=hsm.i6
 have hr0: ¬((r:Int)<0):=by omega
 have hr1: ¬((r:Int)≥(List.length v.1.1:Int)):=by omega
 refine zC (zI (fun h=>absurd h hr0) (fun h=>zB ?_))
 refine zI (fun h=>absurd h hr1) (fun h=> ?_)
 simp only [zJ hr,Option.bind_some]
 refine zC ((vP (xs:=rt.2.2.2.2.2.2.2.1) (by omega) (fun i (g:List (Ty.El zA))=>g=(rt.2.2.2.2.2.2.2.1.take i).filterMap (act v t r rt)) rfl ?_ (Q:=fun g=>g=rt.2.2.2.2.2.2.2.1.filterMap (act v t r rt)) (fun g hg=>by rw [hg,List.take_length])).mono (fun g hg=>zB hg))
 intro i x g hx hg
 have hi:=(List.getElem?_eq_some_iff.1 hx).1
 have hgl:g.length≤i:=by
  rw [hg]
  refine Nat.le_trans (List.length_filterMap_le _ _) ?_
  rw [List.length_take]
  omega
 simp only [zJ hx,Option.bind_some]
 rw [vD hx, ←hg]
 have skip:act v t r rt x=none→(wU (fun s:List (Ty.El zA)×Ty.El zA=>Wp (Option.bind (app (136:Nat) s.1 [s.2]) fun y68=>some y68) (fun g'=>g'=g++(act v t r rt x).toList)) (fun g'=>g'=g++(act v t r rt x).toList)) (Sum.inr g):=by
  intro h
  rw [h]
  exact e2r (List.append_nil g).symm
 have take: ∀y,act v t r rt x=some y→(wU (fun s:List (Ty.El zA)×Ty.El zA=>Wp (Option.bind (app (136:Nat) s.1 [s.2]) fun y68=>some y68) (fun g'=>g'=g++(act v t r rt x).toList)) (fun g'=>g'=g++(act v t r rt x).toList)) (Sum.inl (g,y)):=by
  intro y h
  rw [h]
  refine e2l (zC (wD (by simp only [List.length_singleton];omega) (zB rfl)))
 refine qF (zG (fun h1=> ?_) (fun h1=>zG (fun h2=> ?_) (fun h2=>zG (fun h3=> ?_) (fun h3=> ?_))))
 ·refine zC ((zHd t x.1 x.2.1 (by omega)).mono (fun k hk=> ?_))
  rcases hk with ⟨hk,hn⟩|⟨m,y,rfl,hm,hy⟩
  ·refine zC (zI (fun _=>zB (zB (skip ?_))) (fun h=>absurd hk h))
   unfold act
   rw [h1,cond_true,hn]
  ·refine zC (zI (fun h=>absurd h (by omega)) (fun _=> ?_))
   simp only [zJ hm,Option.bind_some]
   refine zB (zG (fun h=>zB (skip ?_)) (fun h=>zB (take _ ?_)))
   ·unfold act
    rw [h1,cond_true,hy]
    simp only
    have h:y.2.2.2.2.2.2.2.2.2.2.2.2.1=true:=h
    rw [h];rfl
   ·unfold act
    rw [h1,cond_true,hy]
    simp only
    have h:y.2.2.2.2.2.2.2.2.2.2.2.2.1=false:=h
    rw [h];rfl
 ·refine zC ((zHg rt x.2.2.1 hsm).mono (fun k hk=> ?_))
  subst hk
  refine zC ((zFN v r _ hv).mono (fun b hb=> ?_))
  subst hb
  refine zG (fun h=>zB (skip ?_)) (fun h=>zB (take _ ?_))
  ·unfold act
   rw [h1,cond_false,h2,cond_true]
   simp only [Bool.not_eq_true'] at h
   rw [h];rfl
  ·unfold act
   rw [h1,cond_false,h2,cond_true]
   simp only [Bool.not_eq_false'] at h
   rw [h];rfl
 ·refine zB (take _ ?_)
  unfold act
  rw [h1,cond_false,h2,cond_false,h3];rfl
 ·refine zB (skip ?_)
  unfold act
  rw [h1,cond_false,h2,cond_false,h3];rfl
end Go.Ve

namespace Go.Ve
open Go
set_option maxRecDepth 1000000
set_option maxHeartbeats 4000000
theorem zXG {α:Type} {xs:List α} {k:Nat} (h:k≤xs.length):sub xs (k:Int) (xs.length:Int)=some (xs.drop k):=by
 unfold sub
 rw [if_pos (by omega),Int.toNat_natCast,Int.toNat_natCast,List.take_length]
def zPS (p q:Ty.El zH):Bool:=decide (qAm p q<0)
theorem zYd {p q:Ty.El zH} :zPS p q=true↔plt p q:=by
 unfold zPS;rw [decide_eq_true_eq];exact zNV
theorem zTl {α:Type} {lt eq:α→α→Bool} {h:α} : ∀ {l:List α},(zGZ lt eq h l).length≤l.length+1
 |[]=>by simp [zGZ]
 |x::r=>by
  have:=zTl (lt:=lt) (eq:=eq) (h:=h) (l:=r)
  simp only [zGZ]
  cases lt x h<;>cases eq x h<;>simp<;>omega
def zSW (l:List (Ty.El zA)):List (Ty.El zH):=l.foldl (fun acc x=>zGZ zPS kI x.1 acc) []
theorem zKF: ∀ (l:List (Ty.El zA)) (acc:List (Ty.El zH)),(l.foldl (fun acc x=>zGZ zPS kI x.1 acc) acc).length≤acc.length+l.length
 |[],acc=>by simp
 |x::l,acc=>by
  have h1:=zKF l (zGZ zPS kI x.1 acc)
  have h2:=zTl (lt:=zPS) (eq:=kI) (h:=x.1) (l:=acc)
  simp only [List.foldl_cons,List.length_cons]
  omega
theorem zYc (l:List (Ty.El zA)):(zSW l).length≤l.length:=by
 have:=zKF l []
 simpa [zSW] using this
theorem zOt: ∀ (l:List (Ty.El zA)) (acc:List (Ty.El zH)),acc.Pairwise plt→
  (l.foldl (fun acc x=>zGZ zPS kI x.1 acc) acc).Pairwise plt∧ ∀p,p∈l.foldl (fun acc x=>zGZ zPS kI x.1 acc) acc↔p∈acc∨ ∃x,x∈l∧x.1=p
 |[],acc,h=>⟨h,fun p=>by simp⟩
 |x::l,acc,h=>by
  have h2:=zOt l (zGZ zPS kI x.1 acc) (zHC zH3 (fun _ _=>zYd) (fun _ _=>zD0) (fun p q h1 h2=>zUC h1 (fun e=>h2 e.symm)) h)
  refine ⟨h2.1,fun p=> ?_⟩
  rw [List.foldl_cons,h2.2 p,zK3 (fun _ _=>zD0)]
  constructor
  ·rintro ((h|rfl)|⟨y,hy,rfl⟩)
   ·exact .inl h
   ·exact .inr ⟨x,by simp,rfl⟩
   ·exact .inr ⟨y,by simp [hy],rfl⟩
  ·rintro (h|⟨y,hy,rfl⟩)
   ·exact .inl (.inl h)
   ·rcases List.mem_cons.1 hy with rfl|hy
    ·exact .inl (.inr rfl)
    ·exact .inr ⟨y,hy,rfl⟩
theorem zHp (l:List (Ty.El zA)):(zSW l).Pairwise plt:=(zOt l [] List.Pairwise.nil).1
theorem zKE (l:List (Ty.El zA)) (p:Ty.El zH):p∈zSW l↔ ∃x,x∈l∧x.1=p:=by
 have:=(zOt l [] List.Pairwise.nil).2 p
 rw [show zSW l=l.foldl (fun acc x=>zGZ zPS kI x.1 acc) [] from rfl,this]
 simp
def hlt (a b:Ty.El qS):Prop:=zFe a.1 a.2.1 b.1 b.2.1
theorem zK7:Ord hlt where
 asym:=fun x y h=>by unfold hlt zFe at*;omega
 tr:=fun x y z h1 h2=>by unfold hlt zFe at*;omega
theorem zYx {p q:Ty.El qS} (h: ¬hlt q p) (hne:p≠q):hlt p q:=by
 refine zVY h (fun e=>hne ?_)
 obtain ⟨a,b,⟨⟩⟩:=p
 obtain ⟨c,d,⟨⟩⟩:=q
 obtain ⟨rfl,rfl⟩:=e
 rfl
def qBc (a b:Ty.El qS):Bool:=decide (zLu a.1 a.2.1 b.1 b.2.1<0)
theorem zYy {a b:Ty.El qS} :qBc a b=true↔hlt a b:=by
 unfold qBc;rw [decide_eq_true_eq];exact zR2
def zQa (a b:Ty.El qS):Bool:=a.1==b.1&&(a.2.1==b.2.1&&true)
def zGu (l:List (Ty.El qS)) (h:Ty.El qS):List (Ty.El qS):=zGZ qBc zQa h l
end Go.Ve

namespace Go.Ve
open Go
set_option maxRecDepth 1000000
set_option maxHeartbeats 4000000
def zVq (x:Ty.El zA) (b:Option (Ty.El zA)):Bool:=
 match b with
 |none=>true
 |some y=>decide (zCr x y<0)
def zMY (p:Ty.El zH) (b:Option (Ty.El zA)) (x:Ty.El zA):Option (Ty.El zA):=
 bif kI x.1 p&&zVq x b then some x else b
def zEg (l:List (Ty.El zA)) (p:Ty.El zH):Option (Ty.El zA):=l.foldl (zMY p) none
def xO (p:Ty.El zH) (b:Ty.El zA) (hs:List (Ty.El qS)) (x:Ty.El zA):List (Ty.El qS):=
 bif kI x.1 p&&(zCr x b==0) then x.2.2.2.2.2.2.2.2.2.2.2.1.foldl zGu hs else hs
def zEV (l:List (Ty.El zA)) (p:Ty.El zH) (b:Ty.El zA):List (Ty.El qS):=l.foldl (xO p b) []
def zZF (b:Ty.El zA) (hs:List (Ty.El qS)):Ty.El zA:=
 ((b.1.1,b.1.2.1,()),b.2.1,b.2.2.1,b.2.2.2.1,b.2.2.2.2.1,b.2.2.2.2.2.1,b.2.2.2.2.2.2.1,b.2.2.2.2.2.2.2.1,b.2.2.2.2.2.2.2.2.1,b.2.2.2.2.2.2.2.2.2.1,b.2.2.2.2.2.2.2.2.2.2.1,hs,b.2.2.2.2.2.2.2.2.2.2.2.2.1,())
def mrg (l:List (Ty.El zA)) (p:Ty.El zH):Option (Ty.El zA):=(zEg l p).map (fun b=>zZF b (zEV l p b))
def zBk (l:List (Ty.El zA)):List (Ty.El zA):=(zSW l).filterMap (mrg l)
end Go.Ve



namespace Go.Ve
open Go
set_option maxRecDepth 1000000
set_option maxHeartbeats 4000000
theorem zTW {p:Ty.El zH} {b:Ty.El zA} : ∀ (l:List (Ty.El zA)) (c:Option (Ty.El zA)),l.foldl (zMY p) c=some b→c=some b∨(b∈l∧b.1=p)
 |[],c,h=> .inl h
 |x::l,c,h=>by
  rw [List.foldl_cons] at h
  rcases zTW l _ h with h|⟨h1,h2⟩
  ·unfold zMY at h
   cases hc:kI x.1 p&&zVq x c with
   |true=>
    rw [hc,cond_true] at h
    cases h
    simp only [Bool.and_eq_true] at hc
    exact .inr ⟨by simp,zD0.1 hc.1⟩
   |false=>rw [hc,cond_false] at h;exact .inl h
  ·exact .inr ⟨List.mem_cons_of_mem _ h1,h2⟩
theorem zZc {l:List (Ty.El zA)} {p:Ty.El zH} {b:Ty.El zA} (h:zEg l p=some b):b∈l∧b.1=p:=by
 rcases zTW l none h with h|h
 ·cases h
 ·exact h
theorem zNQ {l:List (Ty.El zA)} {p:Ty.El zH} {z:Ty.El zA} (h:mrg l p=some z):z.1=p:=by
 unfold mrg at h
 cases hb:zEg l p with
 |none=>rw [hb] at h;cases h
 |some b=>rw [hb] at h;cases h;exact (zZc hb).2
theorem zIT (l:List (Ty.El zA)):(zBk l).Pairwise rlt:=by
 unfold zBk
 refine List.Pairwise.filterMap _ ?_ (zHp l)
 intro p q hpq y hy z hz
 unfold rlt
 rw [zNQ hy,zNQ hz]
 exact hpq
end Go.Ve

namespace Go.Ve
open Go
set_option maxHeartbeats 4000000
section
variable {α:Type}
def swF (a b n:Nat) (xs:List α) (k:Nat):Option α:=
 if a≤k∧k<a+n then xs[b+(k-a)]? else if b≤k∧k<b+n then xs[a+(k-b)]? else xs[k]?
def yV (lo m hi:Nat) (xs:List α) (k:Nat):Option α:=
 if lo≤k∧k<lo+(hi-m) then xs[k+(m-lo)]? else if lo+(hi-m)≤k∧k<hi then xs[k- (hi-m)]? else xs[k]?
theorem zXE {a b:Nat} {xs:List α} {k:Nat} :swF a b 0 xs k=xs[k]? :=by
 unfold swF
 rw [if_neg (by omega),if_neg (by omega)]
theorem zXF {a b n:Nat} {xs zs:List α} (hab:a+n<b) (hb:b+n<xs.length) (hl:zs.length=xs.length) (h: ∀k,zs[k]? =swF a b n xs k) {x y:α} (hx:zs[a+n]? =some x) (hy:zs[b+n]? =some y):
  ∀k,((zs.set (a+n) y).set (b+n) x)[k]? =swF a b (n+1) xs k:=by
 intro k
 have h1:=h (a+n)
 have h2:=h (b+n)
 unfold swF at h1 h2
 rw [if_neg (by omega),if_neg (by omega),hx] at h1
 rw [if_neg (by omega),if_neg (by omega),hy] at h2
 unfold swF
 by_cases e1:k=b+n
 ·subst e1
  rw [List.getElem?_set_self (by rw [List.length_set];omega),if_neg (by omega),if_pos (by omega),h1]
  congr 1;omega
 ·rw [List.getElem?_set_ne (by omega)]
  by_cases e2:k=a+n
  ·subst e2
   rw [List.getElem?_set_self (by omega),if_pos (by omega),h2]
   congr 1;omega
  ·rw [List.getElem?_set_ne (by omega),h k]
   unfold swF
   by_cases c1:a≤k∧k<a+n
   ·rw [if_pos c1,if_pos (by omega)]
   ·rw [if_neg c1]
    by_cases c2:b≤k∧k<b+n
    ·rw [if_pos c2,if_neg (by omega),if_pos (by omega)]
    ·rw [if_neg c2,if_neg (by omega),if_neg (by omega)]
theorem zAQ {xs:List α} {i j:Nat} (h:i=j):xs[i]? =xs[j]? :=by rw [h]
theorem zXY {lo m hi:Nat} {xs zs:List α} (h1:lo<m) (h2:m<hi) (hij:hi-m<m-lo) (h: ∀k,zs[k]? =swF lo m (hi-m) xs k) (k:Nat):yV (lo+(hi-m)) m hi zs k=yV lo m hi xs k:=by
 unfold yV
 rw [h,h,h]
 unfold swF
 repeat' split
 all_goals first
  |rfl
  |exact zAQ (by omega)
  |(exfalso;omega)
theorem zWy {lo m hi:Nat} {xs zs:List α} (h1:lo<m) (h2:m<hi) (hij:m-lo<hi-m) (h: ∀k,zs[k]? =swF lo (hi- (m-lo)) (m-lo) xs k) (k:Nat):yV lo m (hi- (m-lo)) zs k=yV lo m hi xs k:=by
 unfold yV
 rw [h,h,h]
 unfold swF
 repeat' split
 all_goals first
  |rfl
  |exact zAQ (by omega)
  |(exfalso;omega)
theorem zXZ {lo m hi:Nat} {xs zs:List α} (h1:lo≤m) (h2:m≤hi) (hij:m-lo=hi-m) (h: ∀k,zs[k]? =swF lo m (m-lo) xs k) (k:Nat):zs[k]? =yV lo m hi xs k:=by
 rw [h]
 unfold yV swF
 repeat' split
 all_goals first
  |rfl
  |exact zAQ (by omega)
  |(exfalso;omega)
end
end Go.Ve

namespace Go.Ve
open Go
set_option maxRecDepth 1000000
set_option linter.unusedVariables false
noncomputable def zAh {α:Type} (cmp:α×α×Unit→Option Int):List α→(Int×Int×Unit×Unit)→Option (List α×Unit):=fun a0 x=>match x with
 |(a1,a2,(),())=>
  zP
   (fun (s157:Int×List (α))=>
    bif decide (s157.1<a2) then
     Option.bind
      (zP
       (fun (s158:Int×List (α))=>
        Option.bind
         (bif decide (s158.1>a1) then
          Option.bind (idx s158.2 s158.1) fun (y159:α)=>
           Option.bind (atN s158.2 (Int.toNat s158.1)) fun (y160:α)=>
            Option.bind (idx s158.2 (IntKind.wrap IntKind.i64 (s158.1- (1:Int)))) fun (y161:α)=>
             Option.bind (atN s158.2 (Int.toNat (IntKind.wrap IntKind.i64 (s158.1- (1:Int))))) fun (y162:α)=>
              Option.bind (cmp (y160,y162,())) fun (y163:Int)=>some (decide (y163< (0:Int)),s158.2)
         else some (false,s158.2))
         fun (s164:Bool×List (α))=>
         bif s164.1 then
          Option.bind (idx s164.2 (IntKind.wrap IntKind.i64 (s158.1- (1:Int)))) fun (y165:α)=>
           Option.bind (atN s164.2 (Int.toNat (IntKind.wrap IntKind.i64 (s158.1- (1:Int))))) fun (y166:α)=>
            Option.bind (idx s164.2 s158.1) fun (y167:α)=>
             Option.bind (atN s164.2 (Int.toNat s158.1)) fun (y168:α)=>
              Option.bind (idx s164.2 s158.1) fun (y169:α)=>
               Option.bind (atN s164.2 (Int.toNat s158.1)) fun (y170:α)=>
                Option.bind (idx (List.set s164.2 (Int.toNat s158.1) y166) (IntKind.wrap IntKind.i64 (s158.1- (1:Int)))) fun (y171:α)=>
                 Option.bind (atN (List.set s164.2 (Int.toNat s158.1) y166) (Int.toNat (IntKind.wrap IntKind.i64 (s158.1- (1:Int)))))
                  fun (y172:α)=>
                  some
                   (Sum.inl
                    (IntKind.wrap IntKind.i64 (s158.1- (1:Int)),
                     List.set (List.set s164.2 (Int.toNat s158.1) y166) (Int.toNat (IntKind.wrap IntKind.i64 (s158.1- (1:Int)))) y168))
         else some (Sum.inr s164.2))
       s157)
      fun (s173:List (α))=>some (Sum.inl (IntKind.wrap IntKind.i64 (s157.1+(1:Int)),s173))
    else Option.map (fun (r:List (α)×Unit)=>Sum.inr r) (bif Nat.beq (List.length s157.2) (List.length a0) then some (s157.2,()) else none))
   (IntKind.wrap IntKind.i64 (a1+(1:Int)),a0)
noncomputable def zDR {α:Type} (cmp:α×α×Unit→Option Int):List α→(Int×Int×Int×Unit×Unit)→Option (List α×Unit):=fun a0 x=>match x with
 |(a1,a2,a3,(),())=>
  zP
   (fun (s17:Int×List (α))=>
    bif decide (s17.1<a3) then
     Option.bind (idx s17.2 (IntKind.wrap IntKind.i64 (a2+s17.1))) fun (y18:α)=>
      Option.bind (atN s17.2 (Int.toNat (IntKind.wrap IntKind.i64 (a2+s17.1)))) fun (y19:α)=>
       Option.bind (idx s17.2 (IntKind.wrap IntKind.i64 (a1+s17.1))) fun (y20:α)=>
        Option.bind (atN s17.2 (Int.toNat (IntKind.wrap IntKind.i64 (a1+s17.1)))) fun (y21:α)=>
         Option.bind (idx s17.2 (IntKind.wrap IntKind.i64 (a1+s17.1))) fun (y22:α)=>
          Option.bind (atN s17.2 (Int.toNat (IntKind.wrap IntKind.i64 (a1+s17.1)))) fun (y23:α)=>
           Option.bind (idx (List.set s17.2 (Int.toNat (IntKind.wrap IntKind.i64 (a1+s17.1))) y19) (IntKind.wrap IntKind.i64 (a2+s17.1)))
            fun (y24:α)=>
            Option.bind (atN (List.set s17.2 (Int.toNat (IntKind.wrap IntKind.i64 (a1+s17.1))) y19) (Int.toNat (IntKind.wrap IntKind.i64 (a2+s17.1))))
             fun (y25:α)=>
             some
              (Sum.inl
               (IntKind.wrap IntKind.i64 (s17.1+(1:Int)),
                List.set (List.set s17.2 (Int.toNat (IntKind.wrap IntKind.i64 (a1+s17.1))) y19) (Int.toNat (IntKind.wrap IntKind.i64 (a2+s17.1))) y21))
    else Option.map (fun (r:List (α)×Unit)=>Sum.inr r) (bif Nat.beq (List.length s17.2) (List.length a0) then some (s17.2,()) else none))
   ((0:Int),a0)
noncomputable def zRp {α:Type} (cmp:α×α×Unit→Option Int):List α→(Int×Int×Int×Unit×Unit)→Option (List α×Unit):=fun a0 x=>match x with
 |(a1,a2,a3,(),())=>
  Option.bind
   (zP
    (fun (s6:Int×Int×List (α))=>
     bif s6.1 !=s6.2.1 then
      bif decide (s6.1>s6.2.1) then
       bif Nat.beq (List.length s6.2.2) (List.length s6.2.2) then
        Option.bind (zDR cmp s6.2.2 (IntKind.wrap IntKind.i64 (a2-s6.1),a2,s6.2.1,(),())) fun (y7:List (α)×Unit)=>
         some (Sum.inl (IntKind.wrap IntKind.i64 (s6.1-s6.2.1),s6.2.1,y7.1))
       else none
      else
       bif Nat.beq (List.length s6.2.2) (List.length s6.2.2) then
        Option.bind
         (zDR cmp s6.2.2
          (IntKind.wrap IntKind.i64 (a2-s6.1),IntKind.wrap IntKind.i64 (IntKind.wrap IntKind.i64 (a2+s6.2.1) -s6.1),s6.1,(),()))
         fun (y8:List (α)×Unit)=>some (Sum.inl (s6.1,IntKind.wrap IntKind.i64 (s6.2.1-s6.1),y8.1))
       else none
     else some (Sum.inr (s6.2.2,s6.1)))
    (IntKind.wrap IntKind.i64 (a2-a1),IntKind.wrap IntKind.i64 (a3-a2),a0))
   fun (s9:List (α)×Int)=>
   bif Nat.beq (List.length s9.1) (List.length s9.1) then
    Option.bind (zDR cmp s9.1 (IntKind.wrap IntKind.i64 (a2-s9.2),a2,s9.2,(),())) fun (y10:List (α)×Unit)=>
     bif Nat.beq (List.length y10.1) (List.length a0) then some (y10.1,()) else none
   else none
noncomputable def zHb {α:Type} (cmp:α×α×Unit→Option Int) (self:List α→(Int×Int×Int×Unit×Unit)→Option (List α×Unit)):List α→(Int×Int×Int×Unit×Unit)→Option (List α×Unit):=fun a0 x=>match x with
 |(a1,a2,a3,(),())=>
  qT
   (bif IntKind.wrap IntKind.i64 (a2-a1)==(1:Int) then
    Option.bind
     (zP
      (fun (s50:Int×Int×List (α))=>
       bif decide (s50.1<s50.2.1) then
        Option.bind
         (idx s50.2.2
          (IntKind.wrap IntKind.i64
           (Int.fdiv (IntKind.wrap IntKind.u64 (IntKind.wrap IntKind.i64 (s50.1+s50.2.1))) ((2:Int)^min (Int.toNat (1:Int)) (IntKind.bits IntKind.u64)))))
         fun (y51:α)=>
         Option.bind
          (atN s50.2.2
           (Int.toNat
            (IntKind.wrap IntKind.i64
             (Int.fdiv (IntKind.wrap IntKind.u64 (IntKind.wrap IntKind.i64 (s50.1+s50.2.1))) ((2:Int)^min (Int.toNat (1:Int)) (IntKind.bits IntKind.u64))))))
          fun (y52:α)=>
          Option.bind (idx s50.2.2 a1) fun (y53:α)=>
           Option.bind (atN s50.2.2 (Int.toNat a1)) fun (y54:α)=>
            Option.bind (cmp (y52,y54,())) fun (y55:Int)=>
             bif decide (y55< (0:Int)) then
              some
               (Sum.inl
                (IntKind.wrap IntKind.i64
                  (IntKind.wrap IntKind.i64
                    (Int.fdiv (IntKind.wrap IntKind.u64 (IntKind.wrap IntKind.i64 (s50.1+s50.2.1)))
                     ((2:Int)^min (Int.toNat (1:Int)) (IntKind.bits IntKind.u64)))+
                   (1:Int)),
                 s50.2))
             else
              some
               (Sum.inl
                (s50.1,
                 IntKind.wrap IntKind.i64
                  (Int.fdiv (IntKind.wrap IntKind.u64 (IntKind.wrap IntKind.i64 (s50.1+s50.2.1)))
                   ((2:Int)^min (Int.toNat (1:Int)) (IntKind.bits IntKind.u64))),
                 s50.2.2))
       else some (Sum.inr (s50.1,s50.2.2)))
      (a2,a3,a0))
     fun (s56:Int×List (α))=>
     zP
      (fun (s57:Int×List (α))=>
       bif decide (s57.1<IntKind.wrap IntKind.i64 (s56.1- (1:Int))) then
        Option.bind (idx s57.2 (IntKind.wrap IntKind.i64 (s57.1+(1:Int)))) fun (y58:α)=>
         Option.bind (atN s57.2 (Int.toNat (IntKind.wrap IntKind.i64 (s57.1+(1:Int))))) fun (y59:α)=>
          Option.bind (idx s57.2 s57.1) fun (y60:α)=>
           Option.bind (atN s57.2 (Int.toNat s57.1)) fun (y61:α)=>
            Option.bind (idx s57.2 s57.1) fun (y62:α)=>
             Option.bind (atN s57.2 (Int.toNat s57.1)) fun (y63:α)=>
              Option.bind (idx (List.set s57.2 (Int.toNat s57.1) y59) (IntKind.wrap IntKind.i64 (s57.1+(1:Int)))) fun (y64:α)=>
               Option.bind (atN (List.set s57.2 (Int.toNat s57.1) y59) (Int.toNat (IntKind.wrap IntKind.i64 (s57.1+(1:Int))))) fun (y65:α)=>
                some
                 (Sum.inl
                  (IntKind.wrap IntKind.i64 (s57.1+(1:Int)),
                   List.set (List.set s57.2 (Int.toNat s57.1) y59) (Int.toNat (IntKind.wrap IntKind.i64 (s57.1+(1:Int)))) y61))
       else
        Option.map (fun (r:List (α) ⊕ List (α)×Unit)=>Sum.inr r)
         (Option.map (fun (r:List (α)×Unit)=>Sum.inr r) (bif Nat.beq (List.length s57.2) (List.length a0) then some (s57.2,()) else none)))
      (a1,s56.2)
   else some (Sum.inl a0))
   fun (s66:List (α))=>
   qT
    (bif IntKind.wrap IntKind.i64 (a3-a2)==(1:Int) then
     Option.bind
      (zP
       (fun (s117:Int×Int×List (α))=>
        bif decide (s117.1<s117.2.1) then
         Option.bind (idx s117.2.2 a2) fun (y118:α)=>
          Option.bind (atN s117.2.2 (Int.toNat a2)) fun (y119:α)=>
           Option.bind
            (idx s117.2.2
             (IntKind.wrap IntKind.i64
              (Int.fdiv (IntKind.wrap IntKind.u64 (IntKind.wrap IntKind.i64 (s117.1+s117.2.1)))
               ((2:Int)^min (Int.toNat (1:Int)) (IntKind.bits IntKind.u64)))))
            fun (y120:α)=>
            Option.bind
             (atN s117.2.2
              (Int.toNat
               (IntKind.wrap IntKind.i64
                (Int.fdiv (IntKind.wrap IntKind.u64 (IntKind.wrap IntKind.i64 (s117.1+s117.2.1)))
                 ((2:Int)^min (Int.toNat (1:Int)) (IntKind.bits IntKind.u64))))))
             fun (y121:α)=>
             Option.bind (cmp (y119,y121,())) fun (y122:Int)=>
              bif !decide (y122< (0:Int)) then
               some
                (Sum.inl
                 (IntKind.wrap IntKind.i64
                   (IntKind.wrap IntKind.i64
                     (Int.fdiv (IntKind.wrap IntKind.u64 (IntKind.wrap IntKind.i64 (s117.1+s117.2.1)))
                      ((2:Int)^min (Int.toNat (1:Int)) (IntKind.bits IntKind.u64)))+
                    (1:Int)),
                  s117.2))
              else
               some
                (Sum.inl
                 (s117.1,
                  IntKind.wrap IntKind.i64
                   (Int.fdiv (IntKind.wrap IntKind.u64 (IntKind.wrap IntKind.i64 (s117.1+s117.2.1)))
                    ((2:Int)^min (Int.toNat (1:Int)) (IntKind.bits IntKind.u64))),
                  s117.2.2))
        else some (Sum.inr (s117.1,s117.2.2)))
       (a1,a2,s66))
      fun (s123:Int×List (α))=>
      zP
       (fun (s124:Int×List (α))=>
        bif decide (s124.1>s123.1) then
         Option.bind (idx s124.2 (IntKind.wrap IntKind.i64 (s124.1- (1:Int)))) fun (y125:α)=>
          Option.bind (atN s124.2 (Int.toNat (IntKind.wrap IntKind.i64 (s124.1- (1:Int))))) fun (y126:α)=>
           Option.bind (idx s124.2 s124.1) fun (y127:α)=>
            Option.bind (atN s124.2 (Int.toNat s124.1)) fun (y128:α)=>
             Option.bind (idx s124.2 s124.1) fun (y129:α)=>
              Option.bind (atN s124.2 (Int.toNat s124.1)) fun (y130:α)=>
               Option.bind (idx (List.set s124.2 (Int.toNat s124.1) y126) (IntKind.wrap IntKind.i64 (s124.1- (1:Int)))) fun (y131:α)=>
                Option.bind (atN (List.set s124.2 (Int.toNat s124.1) y126) (Int.toNat (IntKind.wrap IntKind.i64 (s124.1- (1:Int)))))
                 fun (y132:α)=>
                 some
                  (Sum.inl
                   (IntKind.wrap IntKind.i64 (s124.1- (1:Int)),
                    List.set (List.set s124.2 (Int.toNat s124.1) y126) (Int.toNat (IntKind.wrap IntKind.i64 (s124.1- (1:Int)))) y128))
        else
         Option.map (fun (r:List (α) ⊕ List (α)×Unit)=>Sum.inr r)
          (Option.map (fun (r:List (α)×Unit)=>Sum.inr r) (bif Nat.beq (List.length s124.2) (List.length a0) then some (s124.2,()) else none)))
       (a2,s123.2)
    else some (Sum.inl s66))
    fun (s133:List (α))=>
    Option.bind
     (bif
       decide
        (a2>
         IntKind.wrap IntKind.i64
          (Int.fdiv (IntKind.wrap IntKind.u64 (IntKind.wrap IntKind.i64 (a1+a3))) ((2:Int)^min (Int.toNat (1:Int)) (IntKind.bits IntKind.u64)))) then
      some
       (IntKind.wrap IntKind.i64
         (IntKind.wrap IntKind.i64
           (IntKind.wrap IntKind.i64
             (Int.fdiv (IntKind.wrap IntKind.u64 (IntKind.wrap IntKind.i64 (a1+a3))) ((2:Int)^min (Int.toNat (1:Int)) (IntKind.bits IntKind.u64)))+
            a2) -
          a3),
        IntKind.wrap IntKind.i64 (Int.fdiv (IntKind.wrap IntKind.u64 (IntKind.wrap IntKind.i64 (a1+a3))) ((2:Int)^min (Int.toNat (1:Int)) (IntKind.bits IntKind.u64))),
        s133)
     else some (a1,a2,s133))
     fun (s134:Int×Int×List (α))=>
     Option.bind
      (zP
       (fun (s152:Int×Int×List (α))=>
        bif decide (s152.1<s152.2.1) then
         Option.bind
          (idx s152.2.2
           (IntKind.wrap IntKind.i64
            (IntKind.wrap IntKind.i64
              (IntKind.wrap IntKind.i64
                (IntKind.wrap IntKind.i64
                  (Int.fdiv (IntKind.wrap IntKind.u64 (IntKind.wrap IntKind.i64 (a1+a3))) ((2:Int)^min (Int.toNat (1:Int)) (IntKind.bits IntKind.u64)))+
                 a2) -
               (1:Int)) -
             IntKind.wrap IntKind.i64
              (Int.fdiv (IntKind.wrap IntKind.u64 (IntKind.wrap IntKind.i64 (s152.1+s152.2.1)))
               ((2:Int)^min (Int.toNat (1:Int)) (IntKind.bits IntKind.u64))))))
          fun (y153:α)=>
          Option.bind
           (atN s152.2.2
            (Int.toNat
             (IntKind.wrap IntKind.i64
              (IntKind.wrap IntKind.i64
                (IntKind.wrap IntKind.i64
                  (IntKind.wrap IntKind.i64
                    (Int.fdiv (IntKind.wrap IntKind.u64 (IntKind.wrap IntKind.i64 (a1+a3))) ((2:Int)^min (Int.toNat (1:Int)) (IntKind.bits IntKind.u64)))+
                   a2) -
                 (1:Int)) -
               IntKind.wrap IntKind.i64
                (Int.fdiv (IntKind.wrap IntKind.u64 (IntKind.wrap IntKind.i64 (s152.1+s152.2.1)))
                 ((2:Int)^min (Int.toNat (1:Int)) (IntKind.bits IntKind.u64)))))))
           fun (y154:α)=>
           Option.bind
            (idx s152.2.2
             (IntKind.wrap IntKind.i64
              (Int.fdiv (IntKind.wrap IntKind.u64 (IntKind.wrap IntKind.i64 (s152.1+s152.2.1)))
               ((2:Int)^min (Int.toNat (1:Int)) (IntKind.bits IntKind.u64)))))
            fun (y155:α)=>
            Option.bind
             (atN s152.2.2
              (Int.toNat
               (IntKind.wrap IntKind.i64
                (Int.fdiv (IntKind.wrap IntKind.u64 (IntKind.wrap IntKind.i64 (s152.1+s152.2.1)))
                 ((2:Int)^min (Int.toNat (1:Int)) (IntKind.bits IntKind.u64))))))
             fun (y156:α)=>
             Option.bind (cmp (y154,y156,())) fun (y157:Int)=>
              bif !decide (y157< (0:Int)) then
               some
                (Sum.inl
                 (IntKind.wrap IntKind.i64
                   (IntKind.wrap IntKind.i64
                     (Int.fdiv (IntKind.wrap IntKind.u64 (IntKind.wrap IntKind.i64 (s152.1+s152.2.1)))
                      ((2:Int)^min (Int.toNat (1:Int)) (IntKind.bits IntKind.u64)))+
                    (1:Int)),
                  s152.2))
              else
               some
                (Sum.inl
                 (s152.1,
                  IntKind.wrap IntKind.i64
                   (Int.fdiv (IntKind.wrap IntKind.u64 (IntKind.wrap IntKind.i64 (s152.1+s152.2.1)))
                    ((2:Int)^min (Int.toNat (1:Int)) (IntKind.bits IntKind.u64))),
                  s152.2.2))
        else some (Sum.inr (s152.1,s152.2.2)))
       s134)
      fun (s158:Int×List (α))=>
      Option.bind
       (Option.bind
        (bif decide (s158.1<a2) then
         some
          (decide
            (a2<
             IntKind.wrap IntKind.i64
              (IntKind.wrap IntKind.i64
                (IntKind.wrap IntKind.i64
                  (Int.fdiv (IntKind.wrap IntKind.u64 (IntKind.wrap IntKind.i64 (a1+a3))) ((2:Int)^min (Int.toNat (1:Int)) (IntKind.bits IntKind.u64)))+
                 a2) -
               s158.1)),
           s158.2)
        else some (false,s158.2))
        fun (s161:Bool×List (α))=>
        bif s161.1 then
         bif Nat.beq (List.length s161.2) (List.length s161.2) then
          Option.bind
           (zRp cmp s161.2
            (s158.1,a2,
             IntKind.wrap IntKind.i64
              (IntKind.wrap IntKind.i64
                (IntKind.wrap IntKind.i64
                  (Int.fdiv (IntKind.wrap IntKind.u64 (IntKind.wrap IntKind.i64 (a1+a3))) ((2:Int)^min (Int.toNat (1:Int)) (IntKind.bits IntKind.u64)))+
                 a2) -
               s158.1),
             (),()))
           fun (y162:List (α)×Unit)=>some y162.1
         else none
        else some s161.2)
       fun (s163:List (α))=>
       Option.bind
        (Option.bind
         (bif decide (a1<s158.1) then
          some
           (decide
             (s158.1<
              IntKind.wrap IntKind.i64
               (Int.fdiv (IntKind.wrap IntKind.u64 (IntKind.wrap IntKind.i64 (a1+a3))) ((2:Int)^min (Int.toNat (1:Int)) (IntKind.bits IntKind.u64)))),
            s163)
         else some (false,s163))
         fun (s166:Bool×List (α))=>
         bif s166.1 then
          bif Nat.beq (List.length s166.2) (List.length s166.2) then
           Option.bind
            (self s166.2
             (a1,s158.1,
              IntKind.wrap IntKind.i64
               (Int.fdiv (IntKind.wrap IntKind.u64 (IntKind.wrap IntKind.i64 (a1+a3))) ((2:Int)^min (Int.toNat (1:Int)) (IntKind.bits IntKind.u64))),
              (),()))
            fun (y167:List (α)×Unit)=>some y167.1
          else none
         else some s166.2)
        fun (s168:List (α))=>
        Option.bind
         (bif
           decide
            (IntKind.wrap IntKind.i64
              (Int.fdiv (IntKind.wrap IntKind.u64 (IntKind.wrap IntKind.i64 (a1+a3))) ((2:Int)^min (Int.toNat (1:Int)) (IntKind.bits IntKind.u64)))<
             IntKind.wrap IntKind.i64
              (IntKind.wrap IntKind.i64
                (IntKind.wrap IntKind.i64
                  (Int.fdiv (IntKind.wrap IntKind.u64 (IntKind.wrap IntKind.i64 (a1+a3))) ((2:Int)^min (Int.toNat (1:Int)) (IntKind.bits IntKind.u64)))+
                 a2) -
               s158.1)) then
          some
           (decide
             (IntKind.wrap IntKind.i64
               (IntKind.wrap IntKind.i64
                 (IntKind.wrap IntKind.i64
                   (Int.fdiv (IntKind.wrap IntKind.u64 (IntKind.wrap IntKind.i64 (a1+a3))) ((2:Int)^min (Int.toNat (1:Int)) (IntKind.bits IntKind.u64)))+
                  a2) -
                s158.1)<
              a3),
            s168)
         else some (false,s168))
         fun (s169:Bool×List (α))=>
         bif s169.1 then
          bif Nat.beq (List.length s169.2) (List.length s169.2) then
           Option.bind
            (self s169.2
             (IntKind.wrap IntKind.i64
               (Int.fdiv (IntKind.wrap IntKind.u64 (IntKind.wrap IntKind.i64 (a1+a3))) ((2:Int)^min (Int.toNat (1:Int)) (IntKind.bits IntKind.u64))),
              IntKind.wrap IntKind.i64
               (IntKind.wrap IntKind.i64
                 (IntKind.wrap IntKind.i64
                   (Int.fdiv (IntKind.wrap IntKind.u64 (IntKind.wrap IntKind.i64 (a1+a3))) ((2:Int)^min (Int.toNat (1:Int)) (IntKind.bits IntKind.u64)))+
                  a2) -
                s158.1),
              a3,(),()))
            fun (y170:List (α)×Unit)=>bif Nat.beq (List.length y170.1) (List.length a0) then some (y170.1,()) else none
          else none
         else bif Nat.beq (List.length s169.2) (List.length a0) then some (s169.2,()) else none
noncomputable def zBp {α:Type} (cmp:α×α×Unit→Option Int):Nat→(List α→(Int×Int×Int×Unit×Unit)→Option (List α×Unit))
 |0=>fun _ _=>none
 |n+1=>zHb cmp (zBp cmp n)
noncomputable def zE5 {α:Type} (cmp:α×α×Unit→Option Int):List α→(Int×Int×Int×Unit×Unit)→Option (List α×Unit):=zBp cmp 1048576
noncomputable def zKi {α:Type} (cmp:α×α×Unit→Option Int):List α→(Int×Unit×Unit)→Option (List α×Unit):=fun a0 x=>match x with
 |(a1,(),())=>
  Option.bind
   (zP
    (fun (s4:Int×List (α)×Int)=>
     bif decide (s4.1≤a1) then
      bif Nat.beq (List.length s4.2.1) (List.length s4.2.1) then
       Option.bind (zAh cmp s4.2.1 (s4.2.2,s4.1,(),())) fun (y5:List (α)×Unit)=>
        some (Sum.inl (IntKind.wrap IntKind.i64 (s4.1+(20:Int)),y5.1,s4.1))
      else none
     else some (Sum.inr s4.2))
    ((20:Int),a0,(0:Int)))
   fun (s6:List (α)×Int)=>
   bif Nat.beq (List.length s6.1) (List.length s6.1) then
    Option.bind (zAh cmp s6.1 (s6.2,a1,(),())) fun (y7:List (α)×Unit)=>
     zP
      (fun (s30:Int×List (α))=>
       bif decide (s30.1<a1) then
        Option.bind
         (zP
          (fun (s31:Int×List (α)×Int)=>
           bif decide (s31.1≤a1) then
            bif Nat.beq (List.length s31.2.1) (List.length s31.2.1) then
             Option.bind (zE5 cmp s31.2.1 (s31.2.2,IntKind.wrap IntKind.i64 (s31.2.2+s30.1),s31.1,(),()))
              fun (y32:List (α)×Unit)=>
              some (Sum.inl (IntKind.wrap IntKind.i64 (s31.1+IntKind.wrap IntKind.i64 ((2:Int)*s30.1)),y32.1,s31.1))
            else none
           else some (Sum.inr (s31.2.2,s31.2.1)))
          (IntKind.wrap IntKind.i64 ((2:Int)*s30.1),s30.2,(0:Int)))
         fun (s33:Int×List (α))=>
         Option.bind
          (bif decide (IntKind.wrap IntKind.i64 (s33.1+s30.1)<a1) then
           bif Nat.beq (List.length s33.2) (List.length s33.2) then
            Option.bind (zE5 cmp s33.2 (s33.1,IntKind.wrap IntKind.i64 (s33.1+s30.1),a1,(),())) fun (y34:List (α)×Unit)=>
             some y34.1
           else none
          else some s33.2)
          fun (s35:List (α))=>some (Sum.inl (IntKind.wrap IntKind.i64 (s30.1*(2:Int)),s35))
       else Option.map (fun (r:List (α)×Unit)=>Sum.inr r) (bif Nat.beq (List.length s30.2) (List.length a0) then some (s30.2,()) else none))
      ((20:Int),y7.1)
   else none
noncomputable def zEs {α:Type} (cmp:α×α×Unit→Option Int):List α→(Unit×Unit)→Option (List α×Unit):=fun a0 x=>match x with
 |((),())=>
  bif Nat.beq (List.length a0) (List.length a0)&&Nat.beq (List.length a0) (List.length a0) then
   Option.bind (zKi cmp a0 ((↑(List.length a0):Int),(),())) fun (y0:List (α)×Unit)=>
    bif Nat.beq (List.length y0.1) (List.length a0) then some (y0.1,()) else none
  else none
end Go.Ve

namespace Go.Ve
open Go
set_option maxRecDepth 1000000
set_option maxHeartbeats 4000000
section
variable {α:Type} {cmp:α×α×Unit→Option Int}
theorem zDa (xs:List α) (a b n:Nat) (hab:a+n≤b) (hb:b+n≤xs.length) (hl:xs.length<4611686018427387904):
  Wp (zDR cmp xs ((a:Int),(b:Int),(n:Int),(),())) (fun r=>r.1.length=xs.length∧ ∀k,r.1[k]? =swF a b n xs k):=by
 unfold zDR
 dsimp only
 refine jU (fun s:Int×List α=> ∃i:Nat,s.1=(i:Int)∧i≤n∧s.2.length=xs.length∧ ∀k,s.2[k]? =swF a b i xs k) (fun s=>((n:Int) -s.1).toNat) ⟨0,rfl,Nat.zero_le _,rfl,fun k=>zXE.symm⟩ ?_
 rintro ⟨s,zs⟩ ⟨i,hi,hin,hzl,hz⟩
 simp only at hi hzl hz
 subst hi
 refine zI (fun h=> ?_) (fun h=> ?_)
 ·have h:(i:Int)< (n:Int):=h
  have hx:zs[a+i]? =some (zs[a+i]'(by omega)):=by simp
  have hy:zs[b+i]? =some (zs[b+i]'(by omega)):=by simp
  have hy2:(zs.set (a+i) (zs[b+i]'(by omega)))[b+i]? =some (zs[b+i]'(by omega)):=by rw [List.getElem?_set_ne (by omega)];exact hy
  dsimp only
  rw [zF (x:=(b:Int)+(i:Int)) (by omega) (by omega),zF (x:=(a:Int)+(i:Int)) (by omega) (by omega),show ((b:Int)+(i:Int))=((b+i:Nat):Int) by omega,show ((a:Int)+(i:Int))=((a+i:Nat):Int) by omega]
  simp only [zJ hx,zJ hy,Int.toNat_natCast,vT hx,vT hy,Option.bind_some,zJ hy2,vT hy2]
  refine zB (e2l ⟨⟨i+1,?_,by omega,by simp only [List.length_set];exact hzl,zXF (by omega) (by omega) hzl hz hx hy⟩,?_⟩)
  ·simp only;rw [zF (by omega) (by omega)];omega
  ·simp only;rw [zF (by omega) (by omega)];omega
 ·have h: ¬(i:Int)< (n:Int):=h
  have:i=n:=by omega
  subst this
  exact zAK (zG (fun _=>zB (e2r ⟨hzl,hz⟩)) (fun h=>absurd h (by simp only;rw [hzl,Nat.beq_refl];decide)))
theorem zGq {xs ys:List α} (h:xs.length=ys.length):Nat.beq xs.length ys.length=true:=by rw [h];exact Nat.beq_refl _
theorem zRf (xs:List α) (a m b:Nat) (ham:a<m) (hmb:m<b) (hb:b≤xs.length) (hl:xs.length<4611686018427387904):
  Wp (zRp cmp xs ((a:Int),(m:Int),(b:Int),(),())) (fun r=>r.1.length=xs.length∧ ∀k,r.1[k]? =yV a m b xs k):=by
 unfold zRp
 dsimp only
 rw [zF (x:=(m:Int) - (a:Int)) (by omega) (by omega),zF (x:=(b:Int) - (m:Int)) (by omega) (by omega)]
 refine zC ((show Wp _ (fun s:List α×Int=>s.1.length=xs.length∧ ∃i:Nat,s.2=(i:Int)∧0<i∧i≤m∧m+i≤b∧ ∀k,yV (m-i) m (m+i) s.1 k=yV a m b xs k) from ?_).mono ?_)
 ·refine jU (fun s:Int×Int×List α=>s.2.2.length=xs.length∧ ∃i j:Nat,s.1=(i:Int)∧s.2.1=(j:Int)∧0<i∧0<j∧i≤m-a∧m+j≤b∧ ∀k,yV (m-i) m (m+j) s.2.2 k=yV a m b xs k) (fun s=>(s.1+s.2.1).toNat)
   ⟨rfl,m-a,b-m,by simp only;omega,by simp only;omega,by omega,by omega,by omega,by omega,fun k=>by rw [show m- (m-a)=a by omega,show m+(b-m)=b by omega]⟩ ?_
  rintro ⟨si,sj,zs⟩ ⟨hzl,i,j,hi,hj,hi0,hj0,hia,hjb,hz⟩
  simp only at hi hj hzl hz
  subst hi hj
  refine zG (fun hne=> ?_) (fun he=>zB (e2r ⟨hzl,i,rfl,hi0,by omega,?_,?_⟩))
  ·have hne: ¬(i:Int)=(j:Int):=by simpa using hne
   refine zI (fun hgt=> ?_) (fun hgt=> ?_)
   ·have hgt:(i:Int)>(j:Int):=hgt
    refine zG (fun _=> ?_) (fun h=>absurd h (by rw [Nat.beq_refl];decide))
    dsimp only
    rw [zF (x:=(m:Int) - (i:Int)) (by omega) (by omega),zF (x:=(i:Int) - (j:Int)) (by omega) (by omega),show ((m:Int) - (i:Int))=((m-i:Nat):Int) by omega]
    refine zC ((zDa zs (m-i) m j (by omega) (by omega) (by omega)).mono (fun y hy=>zB (e2l ⟨⟨hy.1.trans hzl,i-j,j,?_,rfl,by omega,hj0,by omega,hjb,fun k=> ?_⟩,?_⟩)))
    ·simp only;omega
    ·rw [←hz k, ←zXY (lo:=m-i) (m:=m) (hi:=m+j) (xs:=zs) (zs:=y.1) (by omega) (by omega) (by omega) (fun k=>by rw [hy.2,show m+j-m=j by omega]) k,show m- (i-j)=m-i+(m+j-m) by omega]
    ·simp only;omega
   ·have hgt: ¬(i:Int)>(j:Int):=hgt
    refine zG (fun _=> ?_) (fun h=>absurd h (by rw [Nat.beq_refl];decide))
    dsimp only
    rw [zF (x:=(m:Int) - (i:Int)) (by omega) (by omega),zF (x:=(m:Int)+(j:Int)) (by omega) (by omega),zF (x:=(m:Int)+(j:Int) - (i:Int)) (by omega) (by omega),zF (x:=(j:Int) - (i:Int)) (by omega) (by omega),show ((m:Int) - (i:Int))=((m-i:Nat):Int) by omega,show ((m:Int)+(j:Int) - (i:Int))=((m+j-i:Nat):Int) by omega]
    refine zC ((zDa zs (m-i) (m+j-i) i (by omega) (by omega) (by omega)).mono (fun y hy=>zB (e2l ⟨⟨hy.1.trans hzl,i,j-i,rfl,?_,hi0,by omega,hia,by omega,fun k=> ?_⟩,?_⟩)))
    ·simp only;omega
    ·rw [←hz k, ←zWy (lo:=m-i) (m:=m) (hi:=m+j) (xs:=zs) (zs:=y.1) (by omega) (by omega) (by omega) (fun k=>by rw [hy.2,show m- (m-i)=i by omega]) k,show m+(j-i)=m+j- (m- (m-i)) by omega]
    ·simp only;omega
  ·have he:(i:Int)=(j:Int):=by simpa using he
   omega
  ·have he:(i:Int)=(j:Int):=by simpa using he
   have:i=j:=by omega
   subst this
   exact hz
 ·rintro ⟨zs,s⟩ ⟨hzl,i,hi,hi0,him,hmi,hz⟩
  simp only at hi hzl hz
  subst hi
  refine zG (fun _=> ?_) (fun h=>absurd h (by rw [Nat.beq_refl];decide))
  dsimp only
  rw [zF (x:=(m:Int) - (i:Int)) (by omega) (by omega),show ((m:Int) - (i:Int))=((m-i:Nat):Int) by omega]
  refine zC ((zDa zs (m-i) m i (by omega) (by omega) (by omega)).mono (fun y hy=> ?_))
  refine zG (fun _=>zB ⟨hy.1.trans hzl,fun k=> ?_⟩) (fun h=>absurd h (by rw [zGq (hy.1.trans hzl)];decide))
  rw [←hz k]
  exact zXZ (lo:=m-i) (m:=m) (hi:=m+i) (by omega) (by omega) (by omega) (fun k=>by rw [hy.2,show m- (m-i)=i by omega]) k
end
end Go.Ve

namespace Go.Ve
open Go
set_option maxHeartbeats 4000000
section
variable {α κ:Type} {lt:α→α→Prop} {key:α→κ}
structure zM1 (lt:α→α→Prop) (key:α→κ):Prop where
 ord:Ord lt
 ne: ∀x y,lt x y→key x≠key y
open Classical in
noncomputable def zL4 (key:α→κ) (p:κ) (xs:List α):List α:=xs.filter (fun x=>decide (key x=p))
def zGJ (key:α→κ) (xs ys:List α):Prop:= ∀p,zL4 key p xs=zL4 key p ys
theorem zGJ.refl (xs:List α):zGJ key xs xs:=fun _=>rfl
theorem zGJ.trans {xs ys zs:List α} (h1:zGJ key xs ys) (h2:zGJ key ys zs):zGJ key xs zs:=fun p=>(h1 p).trans (h2 p)
theorem zTt (p:κ) (xs ys:List α):zL4 key p (xs++ys)=zL4 key p xs++zL4 key p ys:=List.filter_append ..
theorem zTs {p:κ} {xs:List α} (h: ∀x,x∈xs→key x≠p):zL4 key p xs=[]:=by
 unfold zL4
 rw [List.filter_eq_nil_iff]
 intro x hx
 simpa using h x hx
theorem zWt (hk:zM1 lt key) {P U V S:List α} (h: ∀x y,x∈U→y∈V→lt y x):zGJ key (P++U++V++S) (P++V++U++S):=by
 intro p
 simp only [zTt]
 congr 1
 rw [List.append_assoc,List.append_assoc]
 congr 1
 by_cases hu: ∃x,x∈U∧key x=p
 ·obtain ⟨x,hx,rfl⟩:=hu
  rw [zTs (xs:=V) (fun y hy=>hk.ne _ _ (h x y hx hy))]
  simp
 ·rw [zTs (xs:=U) (fun x hx e=>hu ⟨x,hx,e⟩)]
  simp
structure xH (key:α→κ) (a b:Nat) (xs ys:List α):Prop where
 len:ys.length=xs.length
 out: ∀k,k<a∨b≤k→ys[k]? =xs[k]?
 ins: ∀q y,a≤q→q<b→ys[q]? =some y→ ∃q',a≤q'∧q'<b∧xs[q']? =some y
 same:zGJ key xs ys
theorem xH.refl (a b:Nat) (xs:List α):xH key a b xs xs:=⟨rfl,fun _ _=>rfl,fun q y h1 h2 h3=>⟨q,h1,h2,h3⟩,zGJ.refl xs⟩
theorem xH.trans {a b:Nat} {xs ys zs:List α} (h1:xH key a b xs ys) (h2:xH key a b ys zs):xH key a b xs zs:=by
 refine ⟨h2.len.trans h1.len,fun k hk=>(h2.out k hk).trans (h1.out k hk),?_,h1.same.trans h2.same⟩
 intro q y hq1 hq2 hy
 obtain ⟨q',g1,g2,g3⟩:=h2.ins q y hq1 hq2 hy
 exact h1.ins q' y g1 g2 g3
theorem xH.mono {a b a' b':Nat} {xs ys:List α} (h:xH key a b xs ys) (ha:a'≤a) (hb:b≤b'):xH key a' b' xs ys:=by
 refine ⟨h.len,fun k hk=>h.out k (by omega),?_,h.same⟩
 intro q y hq1 hq2 hy
 by_cases hq:a≤q∧q<b
 ·obtain ⟨q',g1,g2,g3⟩:=h.ins q y hq.1 hq.2 hy
  exact ⟨q',by omega,by omega,g3⟩
 ·exact ⟨q,hq1,hq2,by rw [←h.out q (by omega)];exact hy⟩
def w5 (lt:α→α→Prop) (lo hi:Nat) (xs:List α):Prop:= ∀p q x y,lo≤p→p<q→q<hi→xs[p]? =some x→xs[q]? =some y→ ¬lt y x
theorem w5.out {lo hi a b:Nat} {xs ys:List α} (h:w5 lt lo hi xs) (hs:xH key a b xs ys) (hd:hi≤a∨b≤lo):w5 lt lo hi ys:=by
 intro p q x y h1 h2 h3 hx hy
 rw [hs.out p (by omega)] at hx
 rw [hs.out q (by omega)] at hy
 exact h p q x y h1 h2 h3 hx hy
theorem zJo {a c b:Nat} {xs:List α} (h1:w5 lt a c xs) (h2:w5 lt c b xs) (h3: ∀q r x y,a≤q→q<c→c≤r→r<b→xs[q]? =some x→xs[r]? =some y→ ¬lt y x):w5 lt a b xs:=by
 intro p q x y hp hpq hq hx hy
 by_cases g1:q<c
 ·exact h1 p q x y hp hpq g1 hx hy
 ·by_cases g2:p<c
  ·exact h3 p q x y hp g2 (by omega) hq hx hy
  ·exact h2 p q x y (by omega) hpq hq hx hy
theorem zWp {a:Nat} {xs:List α} :w5 lt a (a+1) xs:=fun p q x y h1 h2 h3 _ _=>by omega
theorem w5.sub {a b a' b':Nat} {xs:List α} (h:w5 lt a b xs) (ha:a≤a') (hb:b'≤b):w5 lt a' b' xs:=fun p q x y h1 h2 h3 hx hy=>h p q x y (by omega) h2 (by omega) hx hy
theorem zKv (hk:zM1 lt key) {lo m hi:Nat} {xs zs:List α} (h1:lo≤m) (h2:m≤hi) (h3:hi≤xs.length) (hl:zs.length=xs.length) (h: ∀k,zs[k]? =yV lo m hi xs k)
  (hlt: ∀q r x y,lo≤q→q<m→m≤r→r<hi→xs[q]? =some x→xs[r]? =some y→lt y x):xH key lo hi xs zs:=by
 have hsplit:xs=xs.take lo++(xs.drop lo).take (m-lo)++(xs.drop m).take (hi-m)++xs.drop hi:=by
  refine List.ext_getElem? (fun k=> ?_)
  simp only [List.getElem?_append,List.length_append,List.length_take,List.length_drop,List.getElem?_take,List.getElem?_drop]
  repeat' split
  all_goals first
   |rfl
   |exact zAQ (by omega)
   |(exfalso;omega)
 have hz:zs=xs.take lo++(xs.drop m).take (hi-m)++(xs.drop lo).take (m-lo)++xs.drop hi:=by
  refine List.ext_getElem? (fun k=> ?_)
  rw [h]
  unfold yV
  simp only [List.getElem?_append,List.length_append,List.length_take,List.length_drop,List.getElem?_take,List.getElem?_drop]
  repeat' split
  all_goals first
   |rfl
   |exact zAQ (by omega)
   |(exfalso;omega)
 refine ⟨hl,?_,?_,?_⟩
 ·intro k hk'
  rw [h]
  unfold yV
  rw [if_neg (by omega),if_neg (by omega)]
 ·intro q y hq1 hq2 hy
  rw [h] at hy
  unfold yV at hy
  split at hy
  ·exact ⟨q+(m-lo),by omega,by omega,hy⟩
  ·split at hy
   ·exact ⟨q- (hi-m),by omega,by omega,hy⟩
   ·exact ⟨q,hq1,hq2,hy⟩
 ·have hs:=zWt hk (P:=xs.take lo) (U:=(xs.drop lo).take (m-lo)) (V:=(xs.drop m).take (hi-m)) (S:=xs.drop hi) ?_
  ·rw [←hsplit, ←hz] at hs
   exact hs
  ·intro x y hx hy
   obtain ⟨i,hi',hx'⟩:=List.getElem_of_mem hx
   obtain ⟨j,hj',hy'⟩:=List.getElem_of_mem hy
   have e1:xs[lo+i]? =some x:=by
    have:((xs.drop lo).take (m-lo))[i]? =some x:=by rw [List.getElem?_eq_getElem hi',hx']
    rw [List.getElem?_take,List.getElem?_drop] at this
    split at this
    ·exact this
    ·cases this
   have e2:xs[m+j]? =some y:=by
    have:((xs.drop m).take (hi-m))[j]? =some y:=by rw [List.getElem?_eq_getElem hj',hy']
    rw [List.getElem?_take,List.getElem?_drop] at this
    split at this
    ·exact this
    ·cases this
   simp only [List.length_take,List.length_drop] at hi' hj'
   exact hlt (lo+i) (m+j) x y (by omega) (by omega) (by omega) (by omega) e1 e2
theorem zZM {a k:Nat} {xs zs:List α} (hak:a≤k) (hk:k+1<xs.length) (hl:zs.length=xs.length) (h: ∀j,zs[j]? =yV a (a+1) (k+1) xs j) {x y:α} (hx:zs[k]? =some x) (hy:zs[k+1]? =some y):
  ∀j,((zs.set k y).set (k+1) x)[j]? =yV a (a+1) (k+2) xs j:=by
 intro j
 have h1:=h k
 have h2:=h (k+1)
 unfold yV at h1 h2
 rw [hx,if_neg (by omega),if_pos (by omega)] at h1
 rw [hy,if_neg (by omega),if_neg (by omega)] at h2
 unfold yV
 by_cases e1:j=k+1
 ·subst e1
  rw [List.getElem?_set_self (by rw [List.length_set];omega),if_neg (by omega),if_pos (by omega),h1]
  exact zAQ (by omega)
 ·rw [List.getElem?_set_ne (by omega)]
  by_cases e2:j=k
  ·subst e2
   rw [List.getElem?_set_self (by omega),if_pos (by omega),h2]
   exact zAQ (by omega)
  ·rw [List.getElem?_set_ne (by omega),h j]
   unfold yV
   repeat' split
   all_goals first
    |rfl
    |exact zAQ (by omega)
    |(exfalso;omega)
theorem zQw {m k:Nat} {xs zs:List α} (hk0:0<k) (hkm:k≤m) (hm:m<xs.length) (hl:zs.length=xs.length) (h: ∀j,zs[j]? =yV k m (m+1) xs j) {x y:α} (hx:zs[k]? =some x) (hy:zs[k-1]? =some y):
  ∀j,((zs.set k y).set (k-1) x)[j]? =yV (k-1) m (m+1) xs j:=by
 intro j
 have h1:=h k
 have h2:=h (k-1)
 unfold yV at h1 h2
 rw [hx,if_pos (by omega)] at h1
 rw [hy,if_neg (by omega),if_neg (by omega)] at h2
 unfold yV
 by_cases e1:j=k-1
 ·subst e1
  rw [List.getElem?_set_self (by rw [List.length_set];omega),if_pos (by omega),h1]
  exact zAQ (by omega)
 ·rw [List.getElem?_set_ne (by omega)]
  by_cases e2:j=k
  ·subst e2
   rw [List.getElem?_set_self (by omega),if_neg (by omega),if_pos (by omega),h2]
   exact zAQ (by omega)
  ·rw [List.getElem?_set_ne (by omega),h j]
   unfold yV
   repeat' split
   all_goals first
    |rfl
    |exact zAQ (by omega)
    |(exfalso;omega)
theorem zX0 {a:Nat} {xs:List α} (j:Nat):yV a (a+1) (a+1) xs j=xs[j]? :=by
 unfold yV
 repeat' split
 all_goals first
  |rfl
  |exact zAQ (by omega)
  |(exfalso;omega)
theorem zSO {m:Nat} {xs:List α} (j:Nat):yV m m (m+1) xs j=xs[j]? :=by
 unfold yV
 repeat' split
 all_goals first
  |rfl
  |exact zAQ (by omega)
  |(exfalso;omega)
end
theorem zRz (i j:Nat) (h:i+j<4611686018427387904):IntKind.wrap .i64 (Int.fdiv (IntKind.wrap .u64 (IntKind.wrap .i64 ((i:Int)+(j:Int)))) ((2:Int)^min (Int.toNat (1:Int)) (IntKind.bits .u64)))=(((i+j) / 2:Nat):Int):=by
 have e:((2:Int)^min (Int.toNat (1:Int)) (IntKind.bits .u64))=2:=by decide
 rw [e,zF (x:=(i:Int)+(j:Int)) (by omega) (by omega),zJ7 (x:=(i:Int)+(j:Int)) (by omega) (by omega),Int.fdiv_eq_ediv_of_nonneg _ (by omega)]
 rw [zF (by omega) (by omega)]
 omega
end Go.Ve

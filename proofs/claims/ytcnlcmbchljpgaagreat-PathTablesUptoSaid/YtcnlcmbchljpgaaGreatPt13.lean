/-
  Plain laws: the prefixes of routes; hops added; routes merged.
  Plain laws: routes merged.
  Plain laws: connected routes: sorted, and valid; static routes are valid.
  Plain laws: merging where prefixes differ; the reference's connected and active routes.
  Plain laws: ranges swapped and rotated, stated place by place.
  Functions out of code: sorting, for any elements and any comparison.
  Plain laws: ranges swapped and rotated: the walks.
  Plain laws: stable merging in place: what the steps keep.
  Plain laws: stable merging in place: the walk.
  Plain laws: stable sorting, for any elements and any comparison that goes by a key.
  Plain laws: merging by prefix, as the program does it: what merging depends on.
  Plain laws: a sorted list without its repetitions.
  Plain laws of distance-vector routing: the neighbors of an interface.
  Plain laws of distance-vector routing: a router has one interface in a domain.
  Plain laws of distance-vector routing: what a prefix list permits.
  Plain laws of distance-vector routing: who takes part, what is made of a neighbor's table.
-/
import Derived.Test.YtcnlcmbchljpgaaGreatPt12
import Derived.Test.YtcnlcmbchljpgaaGreatPt11
import Derived.Test.YtcnlcmbchljpgaaGreatPt9
set_option linter.unusedVariables false
namespace Go.Ve
open Go
set_option maxRecDepth 1000000
set_option maxHeartbeats 4000000
theorem zUg {α:Type} {xs:List α} {k:Nat} (h:k≤xs.length):sub xs 0 (k:Int)=some (xs.take k):=by
 unfold sub
 rw [if_pos (by omega),aR]
 rfl
theorem zPp {α:Type} {xs:List α} {k:Nat} (h:k≤xs.length):sub xs (k:Int) (xs.length:Int)=some (xs.drop k):=by
 unfold sub
 rw [if_pos (by omega),aR,aR,aN]
def zHp (p q:Ty.El zG):Bool:=decide (qBR p q<0)
theorem zZR {p q:Ty.El zG} :zHp p q=true↔plt p q:=by
 unfold zHp;rw [decide_eq_true_eq];exact zMv
theorem zL3 {α:Type} {lt eq:α→α→Bool} {h:α} : ∀ {l:List α},(zDW lt eq h l).length≤l.length+1
 |[]=>by simp [zDW]
 |x::r=>by
  have:=zL3 (lt:=lt) (eq:=eq) (h:=h) (l:=r)
  simp only [zDW]
  cases lt x h<;>cases eq x h<;>simp<;>omega
def zLC (l:List (Ty.El zB)):List (Ty.El zG):=l.foldl (fun acc x=>zDW zHp jI x.1 acc) []
theorem zLB: ∀ (l:List (Ty.El zB)) (acc:List (Ty.El zG)),(l.foldl (fun acc x=>zDW zHp jI x.1 acc) acc).length≤acc.length+l.length
 |[],acc=>by simp
 |x::l,acc=>by
  have h1:=zLB l (zDW zHp jI x.1 acc)
  have h2:=zL3 (lt:=zHp) (eq:=jI) (h:=x.1) (l:=acc)
  simp only [bS,aA]
  omega
theorem zUE (l:List (Ty.El zB)):(zLC l).length≤l.length:=by
 have:=zLB l []
 simpa [zLC] using this
theorem zPL: ∀ (l:List (Ty.El zB)) (acc:List (Ty.El zG)),acc.Pairwise plt→
  (l.foldl (fun acc x=>zDW zHp jI x.1 acc) acc).Pairwise plt∧ ∀p,p∈l.foldl (fun acc x=>zDW zHp jI x.1 acc) acc↔p∈acc∨ ∃x,x∈l∧x.1=p
 |[],acc,h=>⟨h,fun p=>by simp⟩
 |x::l,acc,h=>by
  have h2:=zPL l (zDW zHp jI x.1 acc) (zIe zIP (fun _ _=>zZR) (fun _ _=>zDc) (fun p q h1 h2=>zWk h1 (fun e=>h2 e.symm)) h)
  refine ⟨h2.1,fun p=> ?_⟩
  rw [bS,h2.2 p,zL2 (fun _ _=>zDc)]
  constructor
  ·rintro ((h|rfl)|⟨y,hy,rfl⟩)
   ·exact .inl h
   ·exact .inr ⟨x,by simp,rfl⟩
   ·exact .inr ⟨y,by simp [hy],rfl⟩
  ·rintro (h|⟨y,hy,rfl⟩)
   ·exact .inl (.inl h)
   ·rcases aB.1 hy with rfl|hy
    ·exact .inl (.inr rfl)
    ·exact .inr ⟨y,hy,rfl⟩
theorem zH0 (l:List (Ty.El zB)):(zLC l).Pairwise plt:=(zPL l [] List.Pairwise.nil).1
theorem zH1 (l:List (Ty.El zB)) (p:Ty.El zG):p∈zLC l↔ ∃x,x∈l∧x.1=p:=by
 have:=(zPL l [] List.Pairwise.nil).2 p
 rw [show zLC l=l.foldl (fun acc x=>zDW zHp jI x.1 acc) [] from rfl,this]
 simp
theorem zJb (l:List (Ty.El zB)) (hl:l.length≤1048576):Wp (zB5 (l,())) (fun r=>r=zLC l):=by
 unfold zB5
 dsimp only
 refine zC ((qZ (xs:=l) (by omega) (fun i (acc:List (Ty.El zG))=>acc.length≤i∧acc=zLC (l.take i)) ⟨aK _,rfl⟩ ?_ (Q:=fun r=>r=zLC l) (fun g hg=>by have:=hg.2;rw [aN] at this;exact this)).mono (fun r hr=>zA hr))
 rintro i x acc hx ⟨hal,hacc⟩
 have hi:=(ac.1 hx).1
 have j5:zLC (l.take (i+1))=zDW zHp jI x.1 acc:=by
  unfold zLC
  rw [zCT hx,hacc]
  rfl
 rw [j5]
 refine Wp.mono (Q:=fun r=>r=zDW zHp jI x.1 acc) ?_ (fun r hr=>⟨by rw [hr];have:=zL3 (lt:=zHp) (eq:=jI) (h:=x.1) (l:=acc);omega,hr⟩)
 refine zC ((show Wp _ (fun s:Int×List (Ty.El zG)=>s.2=acc∧ ∃k:Nat,s.1=(k:Int)∧k≤acc.length∧(∀j p,j<k→acc[j]? =some p→zHp p x.1=true)∧ ∀p,acc[k]? =some p→zHp p x.1=false) from ?_).mono ?_)
 ·refine jF (fun s:Int×List (Ty.El zG)=>s.2=acc∧ ∃k:Nat,s.1=(k:Int)∧k≤acc.length∧(∀j p,j<k→acc[j]? =some p→zHp p x.1=true)) (fun s=>((acc.length:Int) -s.1).toNat)
   ⟨rfl,0,rfl,aI _,fun j p hj=>by omega⟩ ?_
  rintro ⟨s,g⟩ ⟨hg,k,hk,hkl,hj⟩
  simp only at hg hk
  subst hg hk
  refine zC ((show Wp _ (fun c:Bool×List (Ty.El zG)=>c.2=g∧(c.1=true→k<g.length∧ ∀p,g[k]? =some p→zHp p x.1=true)∧(c.1=false→ ∀p,g[k]? =some p→zHp p x.1=false)) from ?_).mono ?_)
  ·refine zJ (fun h=> ?_) (fun h=>zA ⟨rfl,(fun h=>by cases h),fun _ p hp=> ?_⟩)
   ·have h:(k:Int)< (g.length:Int):=h
    have hk:g[k]? =some (g[k]'(by omega)):=by simp
    simp only [zI hk,aR,vH hk,zI hx,ae]
    refine zC (zY (zBR _ _) (zA ⟨rfl,(fun h=>⟨by omega,fun p hp=> ?_⟩),fun h p hp=> ?_⟩))
    ·rw [hk] at hp;cases hp;exact h
    ·rw [hk] at hp;cases hp;exact h
   ·have h: ¬(k:Int)< (g.length:Int):=h
    have:=(ac.1 hp).1
    omega
  ·rintro ⟨c,g'⟩ ⟨hg,ht,hf⟩
   simp only at hg ht hf
   subst hg
   refine zD (fun h=> ?_) (fun h=>zA (e2r ⟨rfl,k,rfl,hkl,hj,hf h⟩))
   obtain ⟨h1,h2⟩:=ht h
   refine zA (e2l ⟨⟨rfl,k+1,?_,h1,?_⟩,?_⟩)
   ·simp only;rw [zH (by omega) (by omega)];omega
   ·intro j p hj' hp
    rcases aL j k with h'|h'
    ·exact hj j p h' hp
    ·have:j=k:=by omega
     subst this
     exact h2 p hp
   ·simp only;rw [zH (by omega) (by omega)];omega
 ·rintro ⟨s,g⟩ ⟨hg,k,hk,hkl,h1,h2⟩
  simp only at hg hk
  subst hg hk
  rw [zTn (eq:=jI) hkl h1 h2]
  refine zC ((show Wp _ (fun c:Bool×List (Ty.El zG)=>c.2=g∧(c.1=true↔ ¬ ∃y,g[k]? =some y∧jI y x.1=true)) from ?_).mono ?_)
  ·refine zD (fun h=>zA ⟨rfl,fun _=> ?_,fun _=>rfl⟩) (fun h=> ?_)
   ·have h:(k:Int)=(g.length:Int):=by simpa using h
    rintro ⟨y,hy,_⟩
    have:=(ac.1 hy).1
    omega
   ·have h: ¬(k:Int)=(g.length:Int):=by simpa using h
    have hk:g[k]? =some (g[k]'(by omega)):=by simp
    simp only [zI hk,aR,vH hk,zI hx,ae]
    refine zA ⟨rfl,?_⟩
    have hb:(!((g[k]'(by omega)).fst==x.1.1&&((g[k]'(by omega)).snd.fst==x.1.2.1&&true)))= !jI (g[k]'(by omega)) x.1:=rfl
    rw [hb]
    constructor
    ·rintro h3 ⟨y,hy,h4⟩
     rw [hk] at hy
     cases hy
     rw [h4] at h3
     cases h3
    ·intro h3
     cases h4:jI (g[k]'(by omega)) x.1 with
     |false=>rfl
     |true=>exact absurd ⟨_,hk,h4⟩ h3
  ·rintro ⟨c,g'⟩ ⟨hg,hc⟩
   simp only at hg hc
   subst hg
   refine zD (fun h=> ?_) (fun h=>zA ?_)
   ·rw [if_neg (hc.1 h)]
    refine zC (zY (zUg hkl) ?_)
    simp only [zI hx,ae]
    refine zC (zY (zPp hkl) ?_)
    refine zC (qU (by simp only [av,aZ];omega) ?_)
    refine zC (qU (by simp only [aH,av,aZ,aC];omega) ?_)
    refine zC (qU (by simp only [aH,av,aZ,bo,aC];omega) ?_)
    exact zA rfl
   ·have h:c=false:=h
    rw [if_pos]
    exact bP (fun hn=>by rw [hc.2 hn] at h;cases h)
def hlt (a b:Ty.El qB):Prop:=zFJ a.1 a.2.1 b.1 b.2.1
theorem zL6:Ord hlt where
 asym:=fun x y h=>by unfold hlt zFJ at*;omega
 tr:=fun x y z h1 h2=>by unfold hlt zFJ at*;omega
theorem qAa {p q:Ty.El qB} (h: ¬hlt q p) (hne:p≠q):hlt p q:=by
 refine zXB h (fun e=>hne ?_)
 obtain ⟨a,b,⟨⟩⟩:=p
 obtain ⟨c,d,⟨⟩⟩:=q
 obtain ⟨rfl,rfl⟩:=e
 rfl
def zRG (a b:Ty.El qB):Bool:=decide (zMw a.1 a.2.1 b.1 b.2.1<0)
theorem zU2 {a b:Ty.El qB} :zRG a b=true↔hlt a b:=by
 unfold zRG;rw [decide_eq_true_eq];exact zTL
def zOL (a b:Ty.El qB):Bool:=a.1==b.1&&(a.2.1==b.2.1&&true)
theorem zKb (a b:Ty.El qB):uO (a,b,())=some (zRG a b):=by
 refine j9 ?_
 unfold uO
 dsimp only
 have hd: ∀s:Bool,(s=true↔hlt a b)→s=zRG a b:=by
  intro s hs
  rw [bJ,zU2]
  exact hs
 refine zC (zJ (fun h=>zA (zA (hd _ ⟨fun _=> .inl h,fun _=>rfl⟩))) (fun h=>zD (fun h'=>zA (zA (hd _ ?_))) (fun h'=>zA (zA (hd _ ?_)))))
 ·have h':a.1=b.1:=by simpa using h'
  rw [decide_eq_true_eq]
  exact ⟨fun h2=> .inr ⟨h',h2⟩,fun h2=>h2.elim (fun h3=>absurd h3 h) (fun h3=>h3.2)⟩
 ·have h': ¬a.1=b.1:=by simpa using h'
  exact ⟨(fun h2=>by cases h2),fun h2=>(h2.elim (fun h3=>h h3) (fun h3=>h' h3.1)).elim⟩
def yD (l:List (Ty.El qB)) (h:Ty.El qB):List (Ty.El qB):=zDW zRG zOL h l
theorem zLk (l:List (Ty.El qB)) (h:Ty.El qB) (hl:l.length≤1099511627776):Wp (zB6 (l,h,())) (fun r=>r=yD l h):=by
 unfold zB6
 dsimp only
 refine zC ((show Wp _ (fun s:Int=> ∃k:Nat,s=(k:Int)∧k≤l.length∧(∀j p,j<k→l[j]? =some p→zRG p h=true)∧ ∀p,l[k]? =some p→zRG p h=false) from ?_).mono ?_)
 ·refine jF (fun s:Int=> ∃k:Nat,s=(k:Int)∧k≤l.length∧(∀j p,j<k→l[j]? =some p→zRG p h=true)) (fun s=>((l.length:Int) -s).toNat) ⟨0,rfl,aI _,fun j p hj=>by omega⟩ ?_
  rintro s ⟨k,rfl,hkl,hj⟩
  refine zC ((show Wp _ (fun c:Bool=>(c=true→k<l.length∧ ∀p,l[k]? =some p→zRG p h=true)∧(c=false→ ∀p,l[k]? =some p→zRG p h=false)) from ?_).mono ?_)
  ·refine zJ (fun hlt'=> ?_) (fun hge=>zA ⟨(fun h=>by cases h),fun _ p hp=> ?_⟩)
   ·have hk:l[k]? =some (l[k]'(by omega)):=by simp
    simp only [zI hk,ae]
    refine zC (zY (zKb _ _) (zA ⟨(fun h'=>⟨by omega,fun p hp=> ?_⟩),fun h' p hp=> ?_⟩))
    ·rw [hk] at hp;cases hp;exact h'
    ·rw [hk] at hp;cases hp;exact h'
   ·have:=(ac.1 hp).1
    omega
  ·rintro c ⟨ht,hf⟩
   refine zD (fun h'=> ?_) (fun h'=>zA (e2r ⟨k,rfl,hkl,hj,hf h'⟩))
   obtain ⟨h1,h2⟩:=ht h'
   refine zA (e2l ⟨⟨k+1,?_,h1,?_⟩,?_⟩)
   ·rw [zH (by omega) (by omega)];omega
   ·intro j p hj' hp
    rcases aL j k with h'|h'
    ·exact hj j p h' hp
    ·have:j=k:=by omega
     subst this
     exact h2 p hp
   ·rw [zH (by omega) (by omega)];omega
 ·rintro s ⟨k,rfl,hkl,h1,h2⟩
  unfold yD
  rw [zTn (eq:=zOL) hkl h1 h2]
  refine zC ((show Wp _ (fun c:Bool=>(c=true↔ ∃y,l[k]? =some y∧zOL y h=true)) from ?_).mono (fun c hc=> ?_))
  ·refine zJ (fun hlt'=> ?_) (fun hge=>zA ⟨(fun h=>by cases h),?_⟩)
   ·have hk:l[k]? =some (l[k]'(by omega)):=by simp
    simp only [zI hk,ae]
    refine zA ⟨fun h3=>⟨_,hk,h3⟩,?_⟩
    rintro ⟨y,hy,h4⟩
    rw [hk] at hy
    cases hy
    exact h4
   ·rintro ⟨y,hy,_⟩
    have:=(ac.1 hy).1
    omega
  ·refine zD (fun h'=>zA ?_) (fun h'=> ?_)
   ·rw [if_pos (hc.1 h')]
   ·have h':c=false:=h'
    rw [if_neg (fun h3=>by rw [hc.2 h3] at h';cases h')]
    refine zC (zY (zUg hkl) (zC (zY (zPp hkl) ?_)))
    refine zC (qU (by simp only [av,aZ];omega) ?_)
    refine zC (qU (by simp only [aH,av,aZ,aC];omega) ?_)
    refine zC (qU (by simp only [aH,av,aZ,bo,aC];omega) ?_)
    exact zA rfl
theorem zIz: ∀ (more l:List (Ty.El qB)),(more.foldl yD l).length≤l.length+more.length
 |[],l=>by simp
 |h::more,l=>by
  have h1:=zIz more (yD l h)
  have h2:(yD l h).length≤l.length+1:=zL3
  simp only [bS,aA]
  omega
theorem zKc (l more:List (Ty.El qB)) (hl:l.length+more.length≤1099511627776):Wp (zC4 (l,more,())) (fun r=>r=more.foldl yD l):=by
 unfold zC4
 dsimp only
 refine zC ((Wp.mono (Q:=fun r=>r=more.foldl yD l) ?_ (fun r hr=>zA hr)))
 have h:=qZ (xs:=more) (g0:=l) (body:=fun s=>Option.bind (idx more s.1) fun y7=>zB6 (s.2,y7,())) (by omega) (fun i (g:List (Ty.El qB))=>g=(more.take i).foldl yD l) rfl ?_ (Q:=fun r=>r=more.foldl yD l) (fun g hg=>by rw [hg,aN])
 ·simp only [Option.bind_assoc] at h
  exact h
 ·intro i x g hx hg
  have hi:=(ac.1 hx).1
  have hgl:g.length≤l.length+i:=by
   rw [hg]
   have:=zIz (more.take i) l
   rw [aZ] at this
   omega
  simp only [zI hx,ae]
  rw [zCT hx, ←hg]
  exact zLk g x (by omega)
end Go.Ve

namespace Go.Ve
open Go
set_option maxRecDepth 1000000
set_option maxHeartbeats 4000000
def zTP (x:Ty.El zB) (b:Option (Ty.El zB)):Bool:=
 match b with
 |none=>true
 |some y=>decide (xU x y<0)
def zCG (p:Ty.El zG) (b:Option (Ty.El zB)) (x:Ty.El zB):Option (Ty.El zB):=
 bif jI x.1 p&&zTP x b then some x else b
def zCW (l:List (Ty.El zB)) (p:Ty.El zG):Option (Ty.El zB):=l.foldl (zCG p) none
def j5 (p:Ty.El zG) (b:Ty.El zB) (hs:List (Ty.El qB)) (x:Ty.El zB):List (Ty.El qB):=
 bif jI x.1 p&&(xU x b==0) then x.2.2.2.2.2.2.2.2.2.2.2.1.foldl yD hs else hs
def zBt (l:List (Ty.El zB)) (p:Ty.El zG) (b:Ty.El zB):List (Ty.El qB):=l.foldl (j5 p b) []
def zXu (b:Ty.El zB) (hs:List (Ty.El qB)):Ty.El zB:=
 ((b.1.1,b.1.2.1,()),b.2.1,b.2.2.1,b.2.2.2.1,b.2.2.2.2.1,b.2.2.2.2.2.1,b.2.2.2.2.2.2.1,b.2.2.2.2.2.2.2.1,b.2.2.2.2.2.2.2.2.1,b.2.2.2.2.2.2.2.2.2.1,b.2.2.2.2.2.2.2.2.2.2.1,hs,b.2.2.2.2.2.2.2.2.2.2.2.2.1,())
def mrg (l:List (Ty.El zB)) (p:Ty.El zG):Option (Ty.El zB):=(zCW l p).map (fun b=>zXu b (zBt l p b))
def yV (l:List (Ty.El zB)):List (Ty.El zB):=(zLC l).filterMap (mrg l)
theorem zQ3 {p:Ty.El zG} {b:Option (Ty.El zB)} {x:Ty.El zB} (h:b.isSome=true∨x.1=p):(zCG p b x).isSome=true:=by
 unfold zCG
 cases b with
 |none=>
  rcases h with h|h
  ·cases h
  ·rw [zDc.2 h];rfl
 |some y=>cases jI x.1 p&&zTP x (some y)<;>rfl
theorem zJP {p:Ty.El zG} : ∀ (l:List (Ty.El zB)) (b:Option (Ty.El zB)),(b.isSome=true∨ ∃x,x∈l∧x.1=p)→(l.foldl (zCG p) b).isSome=true
 |[],b,h=>by
  rcases h with h|⟨x,hx,_⟩
  ·exact h
  ·cases hx
 |x::l,b,h=>by
  rw [bS]
  refine zJP l _ ?_
  rcases h with h|⟨y,hy,hp⟩
  ·exact .inl (zQ3 (.inl h))
  ·rcases aB.1 hy with rfl|hy
   ·exact .inl (zQ3 (.inr hp))
   ·exact .inr ⟨y,hy,hp⟩
theorem zYV {l:List (Ty.El zB)} {p:Ty.El zG} (h:p∈zLC l): ∃b,zCW l p=some b:=
 bv.1 (zJP l none (.inr ((zH1 l p).1 h)))
theorem zSo {p:Ty.El zG} {b:Ty.El zB} {hs:List (Ty.El qB)} {x:Ty.El zB} :(j5 p b hs x).length≤hs.length+x.2.2.2.2.2.2.2.2.2.2.2.1.length:=by
 unfold j5
 cases jI x.1 p&&(xU x b==0) with
 |true=>exact zIz _ _
 |false=>exact Nat.le_add_right _ _
theorem zMP (l:List (Ty.El zB)) (hl:l.length≤524288) (hs: ∀y,y∈l→RtS y):Wp (zE0 (l,())) (fun r=>r=yV l):=by
 unfold zE0
 dsimp only
 refine zC ((zJb l (by omega)).mono (fun P hP=> ?_))
 have hPl:=zUE l
 rw [←hP] at hPl
 refine zC ((qZ (xs:=P) (by omega) (fun i (g:List (Ty.El zB))=>g=(P.take i).filterMap (mrg l)) rfl ?_ (Q:=fun r=>r=yV l) (fun g hg=>by rw [hg,aN,hP];rfl)).mono (fun r hr=>zA hr))
 intro k p out hp hout
 have hk:=(ac.1 hp).1
 have hol:out.length≤k:=by
  rw [hout]
  refine ay (aF _ _) ?_
  rw [aZ]
  omega
 rw [qT hp, ←hout]
 obtain ⟨b,hb⟩:=zYV (l:=l) (p:=p) (by rw [←hP];exact af hp)
 refine zC ((qZ (xs:=l) (by omega) (fun i (g:Int×List (Ty.El zB))=>g.2=out∧((g.1<0∧(l.take i).foldl (zCG p) none=none)∨ ∃ (m:Nat) (y:Ty.El zB),g.1=(m:Int)∧l[m]? =some y∧(l.take i).foldl (zCG p) none=some y)) ⟨rfl, .inl ⟨by simp only;omega,rfl⟩⟩ ?_
  (Q:=fun g=>g.2=out∧ ∃ (m:Nat),g.1=(m:Int)∧l[m]? =some b) ?_).mono ?_)
 ·rintro i x ⟨kb,g⟩ hx ⟨hg,hj⟩
  simp only at hg hj
  subst hg
  rw [zCT hx]
  generalize (l.take i).foldl (zCG p) none=c at hj
  simp only [zI hx,zI hp,ae]
  refine zC ((show Wp _ (fun s:Bool×List (Ty.El zB)=>s.2=g∧s.1=(jI x.1 p&&zTP x c)) from ?_).mono ?_)
  ·refine zD (fun h=> ?_) (fun h=>zA ⟨rfl,?_⟩)
   ·have h:jI x.1 p=true:=h
    rw [h]
    rcases hj with ⟨h1,rfl⟩|⟨m,y,rfl,h2,rfl⟩
    ·exact zJ (fun _=>zA ⟨rfl,rfl⟩) (fun h'=>absurd h1 h')
    ·refine zJ (fun h'=>absurd h' (by omega)) (fun _=> ?_)
     simp only [zI h2,ae]
     exact zC (zY (zET _ _) (zA ⟨rfl,rfl⟩))
   ·have h:jI x.1 p=false:=h
    rw [h];rfl
  ·rintro ⟨s,g'⟩ ⟨hg,hs'⟩
   simp only at hg hs'
   subst hg
   refine zD (fun h=>zA ⟨rfl, .inr ⟨i,x,rfl,hx,?_⟩⟩) (fun h=>zA ⟨rfl,?_⟩)
   ·have h:s=true:=h
    unfold zCG
    rw [←hs',h];rfl
   ·have h:s=false:=h
    have hbs:zCG p c x=c:=by
     unfold zCG
     rw [←hs',h];rfl
    rw [hbs]
    exact hj
 ·rintro ⟨kb,g⟩ ⟨hg,hj⟩
  rw [aN] at hj
  refine ⟨hg,?_⟩
  have hb':l.foldl (zCG p) none=some b:=hb
  rcases hj with ⟨_,h⟩|⟨m,y,h1,h2,h3⟩
  ·rw [hb'] at h;cases h
  ·rw [hb'] at h3;cases h3;exact ⟨m,h1,h2⟩
 ·rintro ⟨kb,g⟩ ⟨hg,m,hm,hbm⟩
  simp only at hg hm
  subst hg hm
  have hbS:=hs b (af hbm)
  simp only [zI hbm,ae]
  refine zC (qU (by have:=hbS.path;simp only [av];omega) ?_)
  rw [bM]
  refine zC ((qZ (xs:=l) (by omega) (fun i (s:List (Ty.El zB)×Int×Int×Int×Int×Int×Int×Int×Int×Int×List Int×Int×Int×List (Ty.El qB)×Bool)=>
   s=(g,b.1.1,b.1.2.1,b.2.1,b.2.2.1,b.2.2.2.1,b.2.2.2.2.1,b.2.2.2.2.2.1,b.2.2.2.2.2.2.1,b.2.2.2.2.2.2.2.1,b.2.2.2.2.2.2.2.2.1,b.2.2.2.2.2.2.2.2.2.1,b.2.2.2.2.2.2.2.2.2.2.1,(l.take i).foldl (j5 p b) [],b.2.2.2.2.2.2.2.2.2.2.2.2.1)∧((l.take i).foldl (j5 p b) []).length≤i*1048576) ⟨rfl,by simp⟩ ?_
   (Q:=fun s=>s=(g,b.1.1,b.1.2.1,b.2.1,b.2.2.1,b.2.2.2.1,b.2.2.2.2.1,b.2.2.2.2.2.1,b.2.2.2.2.2.2.1,b.2.2.2.2.2.2.2.1,b.2.2.2.2.2.2.2.2.1,b.2.2.2.2.2.2.2.2.2.1,b.2.2.2.2.2.2.2.2.2.2.1,zBt l p b,b.2.2.2.2.2.2.2.2.2.2.2.2.1)) (fun s hs=>by have:=hs.1;rw [aN] at this;exact this)).mono ?_)
  ·rintro i x s hx ⟨rfl,hlen⟩
   have hi:=(ac.1 hx).1
   have hxS:=hs x (af hx)
   rw [zCT hx]
   have hl2:=zSo (p:=p) (b:=b) (hs:=(l.take i).foldl (j5 p b) []) (x:=x)
   have hxh:=hxS.hops
   generalize hH:(l.take i).foldl (j5 p b) []=H at hlen hl2
   simp only [zI hx,zI hp,zI hbm,ae]
   have hfin:(j5 p b H x).length≤(i+1)*1048576:=by omega
   refine zC (zD (fun h=>zC (zY (zET _ _) (zA ?_))) (fun h=>zA ?_))
   ·have h:jI x.1 p=true:=h
    refine zD (fun h'=> ?_) (fun h'=>zA ⟨?_,hfin⟩)
    ·have h':(xU x b==0)=true:=h'
     refine zC ((zKc H x.2.2.2.2.2.2.2.2.2.2.2.1 (by omega)).mono (fun r hr=>zA ⟨?_,hfin⟩))
     have he:j5 p b H x=r:=by
      unfold j5
      rw [h,h',hr];rfl
     rw [he]
    ·have h':(xU x b==0)=false:=h'
     have he:j5 p b H x=H:=by
      unfold j5
      rw [h,h'];rfl
     rw [he]
   ·have h:jI x.1 p=false:=h
    have he:j5 p b H x=H:=by
     unfold j5
     rw [h];rfl
    refine zD (fun h'=>by cases h') (fun _=>zA ⟨?_,hfin⟩)
    rw [he]
  ·rintro s rfl
   refine zC (qU (by simp only [aC];omega) (zA ?_))
   have hm:mrg l p=some (zXu b (zBt l p b)):=by unfold mrg;rw [hb];rfl
   rw [hm]
   rfl
end Go.Ve



namespace Go.Ve
open Go
set_option maxRecDepth 1000000
set_option maxHeartbeats 4000000
theorem zVH {p:Ty.El zG} {b:Ty.El zB} : ∀ (l:List (Ty.El zB)) (c:Option (Ty.El zB)),l.foldl (zCG p) c=some b→c=some b∨(b∈l∧b.1=p)
 |[],c,h=> .inl h
 |x::l,c,h=>by
  rw [bS] at h
  rcases zVH l _ h with h|⟨h1,h2⟩
  ·unfold zCG at h
   cases hc:jI x.1 p&&zTP x c with
   |true=>
    rw [hc,cond_true] at h
    cases h
    simp only [aj] at hc
    exact .inr ⟨by simp,zDc.1 hc.1⟩
   |false=>rw [hc,cond_false] at h;exact .inl h
  ·exact .inr ⟨aw _ h1,h2⟩
theorem zVG {l:List (Ty.El zB)} {p:Ty.El zG} {b:Ty.El zB} (h:zCW l p=some b):b∈l∧b.1=p:=by
 rcases zVH l none h with h|h
 ·cases h
 ·exact h
theorem zO8 {l:List (Ty.El zB)} {p:Ty.El zG} {z:Ty.El zB} (h:mrg l p=some z):z.1=p:=by
 unfold mrg at h
 cases hb:zCW l p with
 |none=>rw [hb] at h;cases h
 |some b=>rw [hb] at h;cases h;exact (zVG hb).2
theorem zJJ (l:List (Ty.El zB)):(yV l).Pairwise rlt:=by
 unfold yV
 refine List.Pairwise.filterMap _ ?_ (zH0 l)
 intro p q hpq y hy z hz
 unfold rlt
 rw [zO8 hy,zO8 hz]
 exact hpq
theorem zBS (v:Ty.El zN) (r:Nat) (h:r<v.1.1.length):zAF (v,(r:Int),())=some true:=by
 refine j9 ?_
 unfold zAF
 dsimp only
 refine zC (zJ (fun _=>zA (zA ?_)) (fun h'=>absurd (Int.natCast_nonneg r) h'))
 exact decide_eq_true (Int.ofNat_lt.2 h)
theorem zKa (v:Ty.El zN) (r k:Nat) (rt:Ty.El zF) (x:Ty.El qA) (hr:v.1.1[r]? =some rt) (hx:rt.2.2.1[k]? =some x):zC1 (v,(r:Int),(k:Int),())=some (zCS x.2.1 x.2.2.1):=by
 refine j9 ?_
 unfold zC1
 dsimp only
 refine zC (zY (zI hr) (zC (zY (zI hx) (zC (zY (kY _ _) (zA rfl))))))
theorem zJa (t:List (Ty.El zB)) (own:Ty.El zG) (a:Int) (hl:t.length<4611686018427387904):
  Wp (zB4 (t,own,a,())) (fun k=>(k<0∧zBZ t own a=none)∨ ∃ (i:Nat) (y:Ty.El zB),k=(i:Int)∧t[i]? =some y∧zBZ t own a=some y):=by
 unfold zB4
 dsimp only
 refine zC ((qZ (xs:=t) hl (fun i (k:Int)=>(k<0∧(t.take i).foldl (zEk own a) none=none)∨ ∃ (m:Nat) (y:Ty.El zB),k=(m:Int)∧t[m]? =some y∧(t.take i).foldl (zEk own a) none=some y)
  (.inl ⟨by omega,rfl⟩) ?_ (fun g hg=> ?_) (Q:=fun k=>(k<0∧zBZ t own a=none)∨ ∃ (i:Nat) (y:Ty.El zB),k=(i:Int)∧t[i]? =some y∧zBZ t own a=some y)).mono (fun k hk=>zA hk))
 ·intro i x k hx hj
  rw [zCT hx]
  generalize (t.take i).foldl (zEk own a) none=b at hj
  simp only [zI hx,ae]
  have skip:(jI x.1 own|| !zRT x.1 a)=true→Wp (some false) (fun s:Bool=>Wp (bif s then some (i:Int) else some k) (fun k=>(k<0∧zEk own a b x=none)∨ ∃ (m:Nat) (y:Ty.El zB),k=(m:Int)∧t[m]? =some y∧zEk own a b x=some y)):=by
   intro h
   refine zA (zA ?_)
   rw [zPz h]
   exact hj
  refine zC (zD (fun h=> ?_) (fun h=>skip ?_))
  ·have h:jI x.1 own=false:=by
    have h':(!jI x.1 own)=true:=h
    simpa using h'
   refine zC (zY (zEf _ _) (zD (fun h'=> ?_) (fun h'=>skip ?_)))
   ·have h':zBE x.1 a=true:=h'
    have hsk:(jI x.1 own|| !zRT x.1 a)=false:=by rw [h,zQW,h'];rfl
    rcases hj with ⟨h1,rfl⟩|⟨m,y,rfl,h2,rfl⟩
    ·refine zJ (fun _=>zA (zA ?_)) (fun h3=>absurd h1 h3)
     exact .inr ⟨i,x,rfl,hx,zPA hsk⟩
    ·refine zJ (fun h3=>absurd h3 (by omega)) (fun _=> ?_)
     simp only [zI h2,ae]
     refine zA (zJ (fun h4=>zA ?_) (fun h4=>zA ?_))
     ·exact .inr ⟨i,x,rfl,hx,by rw [zGk hsk,if_pos h4]⟩
     ·exact .inr ⟨m,y,rfl,h2,by rw [zGk hsk,if_neg h4]⟩
   ·have h':zBE x.1 a=false:=h'
    rw [zQW,h'];simp
  ·have h':(!jI x.1 own)=false:=h
   have h':jI x.1 own=true:=by simpa using h'
   rw [h'];rfl
 ·rw [aN] at hg
  exact hg
end Go.Ve

namespace Go.Ve
open Go
set_option maxHeartbeats 4000000
section
variable {α:Type}
def swF (a b n:Nat) (xs:List α) (k:Nat):Option α:=
 if a≤k∧k<a+n then xs[b+(k-a)]? else if b≤k∧k<b+n then xs[a+(k-b)]? else xs[k]?
def xC (lo m hi:Nat) (xs:List α) (k:Nat):Option α:=
 if lo≤k∧k<lo+(hi-m) then xs[k+(m-lo)]? else if lo+(hi-m)≤k∧k<hi then xs[k- (hi-m)]? else xs[k]?
theorem zZk {a b:Nat} {xs:List α} {k:Nat} :swF a b 0 xs k=xs[k]? :=by
 unfold swF
 rw [if_neg (by omega),if_neg (by omega)]
theorem zZl {a b n:Nat} {xs zs:List α} (hab:a+n<b) (hb:b+n<xs.length) (hl:zs.length=xs.length) (h: ∀k,zs[k]? =swF a b n xs k) {x y:α} (hx:zs[a+n]? =some x) (hy:zs[b+n]? =some y):
  ∀k,((zs.set (a+n) y).set (b+n) x)[k]? =swF a b (n+1) xs k:=by
 intro k
 have h1:=h (a+n)
 have h2:=h (b+n)
 unfold swF at h1 h2
 rw [if_neg (by omega),if_neg (by omega),hx] at h1
 rw [if_neg (by omega),if_neg (by omega),hy] at h2
 unfold swF
 by_cases e1:k=b+n
 ·subst e1
  rw [bc (by rw [bE];omega),if_neg (by omega),if_pos (by omega),h1]
  congr 1;omega
 ·rw [aG (by omega)]
  by_cases e2:k=a+n
  ·subst e2
   rw [bc (by omega),if_pos (by omega),h2]
   congr 1;omega
  ·rw [aG (by omega),h k]
   unfold swF
   by_cases c1:a≤k∧k<a+n
   ·rw [if_pos c1,if_pos (by omega)]
   ·rw [if_neg c1]
    by_cases c2:b≤k∧k<b+n
    ·rw [if_pos c2,if_neg (by omega),if_pos (by omega)]
    ·rw [if_neg c2,if_neg (by omega),if_neg (by omega)]
theorem zA2 {xs:List α} {i j:Nat} (h:i=j):xs[i]? =xs[j]? :=by rw [h]
theorem zZD {lo m hi:Nat} {xs zs:List α} (h1:lo<m) (h2:m<hi) (hij:hi-m<m-lo) (h: ∀k,zs[k]? =swF lo m (hi-m) xs k) (k:Nat):xC (lo+(hi-m)) m hi zs k=xC lo m hi xs k:=by
 unfold xC
 rw [h,h,h]
 unfold swF
 repeat' split
 all_goals first
  |rfl
  |exact zA2 (by omega)
  |(exfalso;omega)
theorem zYa {lo m hi:Nat} {xs zs:List α} (h1:lo<m) (h2:m<hi) (hij:m-lo<hi-m) (h: ∀k,zs[k]? =swF lo (hi- (m-lo)) (m-lo) xs k) (k:Nat):xC lo m (hi- (m-lo)) zs k=xC lo m hi xs k:=by
 unfold xC
 rw [h,h,h]
 unfold swF
 repeat' split
 all_goals first
  |rfl
  |exact zA2 (by omega)
  |(exfalso;omega)
theorem zZE {lo m hi:Nat} {xs zs:List α} (h1:lo≤m) (h2:m≤hi) (hij:m-lo=hi-m) (h: ∀k,zs[k]? =swF lo m (m-lo) xs k) (k:Nat):zs[k]? =xC lo m hi xs k:=by
 rw [h]
 unfold xC swF
 repeat' split
 all_goals first
  |rfl
  |exact zA2 (by omega)
  |(exfalso;omega)
end
end Go.Ve

namespace Go.Ve
open Go
set_option maxRecDepth 1000000
set_option linter.unusedVariables false
noncomputable def zAp {α:Type} (cmp:α×α×Unit→Option Int):List α→(Int×Int×Unit×Unit)→Option (List α×Unit):=fun a0 x=>match x with
 |(a1,a2,(),())=>
  zL
   (fun (s157:Int×List (α))=>
    bif decide (s157.1<a2) then
     Option.bind
      (zL
       (fun (s158:Int×List (α))=>
        Option.bind
         (bif decide (s158.1>a1) then
          Option.bind (idx s158.2 s158.1) fun (y159:α)=>
           Option.bind (atN s158.2 (Int.toNat s158.1)) fun (y160:α)=>
            Option.bind (idx s158.2 (IntKind.wrap .i64 (s158.1- (1:Int)))) fun (y161:α)=>
             Option.bind (atN s158.2 (Int.toNat (IntKind.wrap .i64 (s158.1- (1:Int))))) fun (y162:α)=>
              Option.bind (cmp (y160,y162,())) fun (y163:Int)=>some (decide (y163< (0:Int)),s158.2)
         else some (false,s158.2))
         fun (s164:Bool×List (α))=>
         bif s164.1 then
          Option.bind (idx s164.2 (IntKind.wrap .i64 (s158.1- (1:Int)))) fun (y165:α)=>
           Option.bind (atN s164.2 (Int.toNat (IntKind.wrap .i64 (s158.1- (1:Int))))) fun (y166:α)=>
            Option.bind (idx s164.2 s158.1) fun (y167:α)=>
             Option.bind (atN s164.2 (Int.toNat s158.1)) fun (y168:α)=>
              Option.bind (idx s164.2 s158.1) fun (y169:α)=>
               Option.bind (atN s164.2 (Int.toNat s158.1)) fun (y170:α)=>
                Option.bind (idx (List.set s164.2 (Int.toNat s158.1) y166) (IntKind.wrap .i64 (s158.1- (1:Int)))) fun (y171:α)=>
                 Option.bind (atN (List.set s164.2 (Int.toNat s158.1) y166) (Int.toNat (IntKind.wrap .i64 (s158.1- (1:Int)))))
                  fun (y172:α)=>
                  some
                   (Sum.inl
                    (IntKind.wrap .i64 (s158.1- (1:Int)),
                     List.set (List.set s164.2 (Int.toNat s158.1) y166) (Int.toNat (IntKind.wrap .i64 (s158.1- (1:Int)))) y168))
         else some (Sum.inr s164.2))
       s157)
      fun (s173:List (α))=>some (Sum.inl (IntKind.wrap .i64 (s157.1+(1:Int)),s173))
    else Option.map (fun (r:List (α)×Unit)=>Sum.inr r) (bif Nat.beq (List.length s157.2) (List.length a0) then some (s157.2,()) else none))
   (IntKind.wrap .i64 (a1+(1:Int)),a0)
noncomputable def zEd {α:Type} (cmp:α×α×Unit→Option Int):List α→(Int×Int×Int×Unit×Unit)→Option (List α×Unit):=fun a0 x=>match x with
 |(a1,a2,a3,(),())=>
  zL
   (fun (s17:Int×List (α))=>
    bif decide (s17.1<a3) then
     Option.bind (idx s17.2 (IntKind.wrap .i64 (a2+s17.1))) fun (y18:α)=>
      Option.bind (atN s17.2 (Int.toNat (IntKind.wrap .i64 (a2+s17.1)))) fun (y19:α)=>
       Option.bind (idx s17.2 (IntKind.wrap .i64 (a1+s17.1))) fun (y20:α)=>
        Option.bind (atN s17.2 (Int.toNat (IntKind.wrap .i64 (a1+s17.1)))) fun (y21:α)=>
         Option.bind (idx s17.2 (IntKind.wrap .i64 (a1+s17.1))) fun (y22:α)=>
          Option.bind (atN s17.2 (Int.toNat (IntKind.wrap .i64 (a1+s17.1)))) fun (y23:α)=>
           Option.bind (idx (List.set s17.2 (Int.toNat (IntKind.wrap .i64 (a1+s17.1))) y19) (IntKind.wrap .i64 (a2+s17.1)))
            fun (y24:α)=>
            Option.bind (atN (List.set s17.2 (Int.toNat (IntKind.wrap .i64 (a1+s17.1))) y19) (Int.toNat (IntKind.wrap .i64 (a2+s17.1))))
             fun (y25:α)=>
             some
              (Sum.inl
               (IntKind.wrap .i64 (s17.1+(1:Int)),
                List.set (List.set s17.2 (Int.toNat (IntKind.wrap .i64 (a1+s17.1))) y19) (Int.toNat (IntKind.wrap .i64 (a2+s17.1))) y21))
    else Option.map (fun (r:List (α)×Unit)=>Sum.inr r) (bif Nat.beq (List.length s17.2) (List.length a0) then some (s17.2,()) else none))
   ((0:Int),a0)
noncomputable def zS0 {α:Type} (cmp:α×α×Unit→Option Int):List α→(Int×Int×Int×Unit×Unit)→Option (List α×Unit):=fun a0 x=>match x with
 |(a1,a2,a3,(),())=>
  Option.bind
   (zL
    (fun (s6:Int×Int×List (α))=>
     bif s6.1 !=s6.2.1 then
      bif decide (s6.1>s6.2.1) then
       bif Nat.beq (List.length s6.2.2) (List.length s6.2.2) then
        Option.bind (zEd cmp s6.2.2 (IntKind.wrap .i64 (a2-s6.1),a2,s6.2.1,(),())) fun (y7:List (α)×Unit)=>
         some (Sum.inl (IntKind.wrap .i64 (s6.1-s6.2.1),s6.2.1,y7.1))
       else none
      else
       bif Nat.beq (List.length s6.2.2) (List.length s6.2.2) then
        Option.bind
         (zEd cmp s6.2.2
          (IntKind.wrap .i64 (a2-s6.1),IntKind.wrap .i64 (IntKind.wrap .i64 (a2+s6.2.1) -s6.1),s6.1,(),()))
         fun (y8:List (α)×Unit)=>some (Sum.inl (s6.1,IntKind.wrap .i64 (s6.2.1-s6.1),y8.1))
       else none
     else some (Sum.inr (s6.2.2,s6.1)))
    (IntKind.wrap .i64 (a2-a1),IntKind.wrap .i64 (a3-a2),a0))
   fun (s9:List (α)×Int)=>
   bif Nat.beq (List.length s9.1) (List.length s9.1) then
    Option.bind (zEd cmp s9.1 (IntKind.wrap .i64 (a2-s9.2),a2,s9.2,(),())) fun (y10:List (α)×Unit)=>
     bif Nat.beq (List.length y10.1) (List.length a0) then some (y10.1,()) else none
   else none
noncomputable def zHL {α:Type} (cmp:α×α×Unit→Option Int) (self:List α→(Int×Int×Int×Unit×Unit)→Option (List α×Unit)):List α→(Int×Int×Int×Unit×Unit)→Option (List α×Unit):=fun a0 x=>match x with
 |(a1,a2,a3,(),())=>
  qM
   (bif IntKind.wrap .i64 (a2-a1)==(1:Int) then
    Option.bind
     (zL
      (fun (s50:Int×Int×List (α))=>
       bif decide (s50.1<s50.2.1) then
        Option.bind
         (idx s50.2.2
          (IntKind.wrap .i64
           (Int.fdiv (IntKind.wrap .u64 (IntKind.wrap .i64 (s50.1+s50.2.1))) ((2:Int)^min (Int.toNat (1:Int)) (IntKind.bits IntKind.u64)))))
         fun (y51:α)=>
         Option.bind
          (atN s50.2.2
           (Int.toNat
            (IntKind.wrap .i64
             (Int.fdiv (IntKind.wrap .u64 (IntKind.wrap .i64 (s50.1+s50.2.1))) ((2:Int)^min (Int.toNat (1:Int)) (IntKind.bits IntKind.u64))))))
          fun (y52:α)=>
          Option.bind (idx s50.2.2 a1) fun (y53:α)=>
           Option.bind (atN s50.2.2 (Int.toNat a1)) fun (y54:α)=>
            Option.bind (cmp (y52,y54,())) fun (y55:Int)=>
             bif decide (y55< (0:Int)) then
              some
               (Sum.inl
                (IntKind.wrap .i64
                  (IntKind.wrap .i64
                    (Int.fdiv (IntKind.wrap .u64 (IntKind.wrap .i64 (s50.1+s50.2.1)))
                     ((2:Int)^min (Int.toNat (1:Int)) (IntKind.bits IntKind.u64)))+
                   (1:Int)),
                 s50.2))
             else
              some
               (Sum.inl
                (s50.1,
                 IntKind.wrap .i64
                  (Int.fdiv (IntKind.wrap .u64 (IntKind.wrap .i64 (s50.1+s50.2.1)))
                   ((2:Int)^min (Int.toNat (1:Int)) (IntKind.bits IntKind.u64))),
                 s50.2.2))
       else some (Sum.inr (s50.1,s50.2.2)))
      (a2,a3,a0))
     fun (s56:Int×List (α))=>
     zL
      (fun (s57:Int×List (α))=>
       bif decide (s57.1<IntKind.wrap .i64 (s56.1- (1:Int))) then
        Option.bind (idx s57.2 (IntKind.wrap .i64 (s57.1+(1:Int)))) fun (y58:α)=>
         Option.bind (atN s57.2 (Int.toNat (IntKind.wrap .i64 (s57.1+(1:Int))))) fun (y59:α)=>
          Option.bind (idx s57.2 s57.1) fun (y60:α)=>
           Option.bind (atN s57.2 (Int.toNat s57.1)) fun (y61:α)=>
            Option.bind (idx s57.2 s57.1) fun (y62:α)=>
             Option.bind (atN s57.2 (Int.toNat s57.1)) fun (y63:α)=>
              Option.bind (idx (List.set s57.2 (Int.toNat s57.1) y59) (IntKind.wrap .i64 (s57.1+(1:Int)))) fun (y64:α)=>
               Option.bind (atN (List.set s57.2 (Int.toNat s57.1) y59) (Int.toNat (IntKind.wrap .i64 (s57.1+(1:Int))))) fun (y65:α)=>
                some
                 (Sum.inl
                  (IntKind.wrap .i64 (s57.1+(1:Int)),
                   List.set (List.set s57.2 (Int.toNat s57.1) y59) (Int.toNat (IntKind.wrap .i64 (s57.1+(1:Int)))) y61))
       else
        Option.map (fun (r:List (α) ⊕ List (α)×Unit)=>Sum.inr r)
         (Option.map (fun (r:List (α)×Unit)=>Sum.inr r) (bif Nat.beq (List.length s57.2) (List.length a0) then some (s57.2,()) else none)))
      (a1,s56.2)
   else some (Sum.inl a0))
   fun (s66:List (α))=>
   qM
    (bif IntKind.wrap .i64 (a3-a2)==(1:Int) then
     Option.bind
      (zL
       (fun (s117:Int×Int×List (α))=>
        bif decide (s117.1<s117.2.1) then
         Option.bind (idx s117.2.2 a2) fun (y118:α)=>
          Option.bind (atN s117.2.2 (Int.toNat a2)) fun (y119:α)=>
           Option.bind
            (idx s117.2.2
             (IntKind.wrap .i64
              (Int.fdiv (IntKind.wrap .u64 (IntKind.wrap .i64 (s117.1+s117.2.1)))
               ((2:Int)^min (Int.toNat (1:Int)) (IntKind.bits IntKind.u64)))))
            fun (y120:α)=>
            Option.bind
             (atN s117.2.2
              (Int.toNat
               (IntKind.wrap .i64
                (Int.fdiv (IntKind.wrap .u64 (IntKind.wrap .i64 (s117.1+s117.2.1)))
                 ((2:Int)^min (Int.toNat (1:Int)) (IntKind.bits IntKind.u64))))))
             fun (y121:α)=>
             Option.bind (cmp (y119,y121,())) fun (y122:Int)=>
              bif !decide (y122< (0:Int)) then
               some
                (Sum.inl
                 (IntKind.wrap .i64
                   (IntKind.wrap .i64
                     (Int.fdiv (IntKind.wrap .u64 (IntKind.wrap .i64 (s117.1+s117.2.1)))
                      ((2:Int)^min (Int.toNat (1:Int)) (IntKind.bits IntKind.u64)))+
                    (1:Int)),
                  s117.2))
              else
               some
                (Sum.inl
                 (s117.1,
                  IntKind.wrap .i64
                   (Int.fdiv (IntKind.wrap .u64 (IntKind.wrap .i64 (s117.1+s117.2.1)))
                    ((2:Int)^min (Int.toNat (1:Int)) (IntKind.bits IntKind.u64))),
                  s117.2.2))
        else some (Sum.inr (s117.1,s117.2.2)))
       (a1,a2,s66))
      fun (s123:Int×List (α))=>
      zL
       (fun (s124:Int×List (α))=>
        bif decide (s124.1>s123.1) then
         Option.bind (idx s124.2 (IntKind.wrap .i64 (s124.1- (1:Int)))) fun (y125:α)=>
          Option.bind (atN s124.2 (Int.toNat (IntKind.wrap .i64 (s124.1- (1:Int))))) fun (y126:α)=>
           Option.bind (idx s124.2 s124.1) fun (y127:α)=>
            Option.bind (atN s124.2 (Int.toNat s124.1)) fun (y128:α)=>
             Option.bind (idx s124.2 s124.1) fun (y129:α)=>
              Option.bind (atN s124.2 (Int.toNat s124.1)) fun (y130:α)=>
               Option.bind (idx (List.set s124.2 (Int.toNat s124.1) y126) (IntKind.wrap .i64 (s124.1- (1:Int)))) fun (y131:α)=>
                Option.bind (atN (List.set s124.2 (Int.toNat s124.1) y126) (Int.toNat (IntKind.wrap .i64 (s124.1- (1:Int)))))
                 fun (y132:α)=>
                 some
                  (Sum.inl
                   (IntKind.wrap .i64 (s124.1- (1:Int)),
                    List.set (List.set s124.2 (Int.toNat s124.1) y126) (Int.toNat (IntKind.wrap .i64 (s124.1- (1:Int)))) y128))
        else
         Option.map (fun (r:List (α) ⊕ List (α)×Unit)=>Sum.inr r)
          (Option.map (fun (r:List (α)×Unit)=>Sum.inr r) (bif Nat.beq (List.length s124.2) (List.length a0) then some (s124.2,()) else none)))
       (a2,s123.2)
    else some (Sum.inl s66))
    fun (s133:List (α))=>
    Option.bind
     (bif
       decide
        (a2>
         IntKind.wrap .i64
          (Int.fdiv (IntKind.wrap .u64 (IntKind.wrap .i64 (a1+a3))) ((2:Int)^min (Int.toNat (1:Int)) (IntKind.bits IntKind.u64)))) then
      some
       (IntKind.wrap .i64
         (IntKind.wrap .i64
           (IntKind.wrap .i64
             (Int.fdiv (IntKind.wrap .u64 (IntKind.wrap .i64 (a1+a3))) ((2:Int)^min (Int.toNat (1:Int)) (IntKind.bits IntKind.u64)))+
            a2) -
          a3),
        IntKind.wrap .i64 (Int.fdiv (IntKind.wrap .u64 (IntKind.wrap .i64 (a1+a3))) ((2:Int)^min (Int.toNat (1:Int)) (IntKind.bits IntKind.u64))),
        s133)
     else some (a1,a2,s133))
     fun (s134:Int×Int×List (α))=>
     Option.bind
      (zL
       (fun (s152:Int×Int×List (α))=>
        bif decide (s152.1<s152.2.1) then
         Option.bind
          (idx s152.2.2
           (IntKind.wrap .i64
            (IntKind.wrap .i64
              (IntKind.wrap .i64
                (IntKind.wrap .i64
                  (Int.fdiv (IntKind.wrap .u64 (IntKind.wrap .i64 (a1+a3))) ((2:Int)^min (Int.toNat (1:Int)) (IntKind.bits IntKind.u64)))+
                 a2) -
               (1:Int)) -
             IntKind.wrap .i64
              (Int.fdiv (IntKind.wrap .u64 (IntKind.wrap .i64 (s152.1+s152.2.1)))
               ((2:Int)^min (Int.toNat (1:Int)) (IntKind.bits IntKind.u64))))))
          fun (y153:α)=>
          Option.bind
           (atN s152.2.2
            (Int.toNat
             (IntKind.wrap .i64
              (IntKind.wrap .i64
                (IntKind.wrap .i64
                  (IntKind.wrap .i64
                    (Int.fdiv (IntKind.wrap .u64 (IntKind.wrap .i64 (a1+a3))) ((2:Int)^min (Int.toNat (1:Int)) (IntKind.bits IntKind.u64)))+
                   a2) -
                 (1:Int)) -
               IntKind.wrap .i64
                (Int.fdiv (IntKind.wrap .u64 (IntKind.wrap .i64 (s152.1+s152.2.1)))
                 ((2:Int)^min (Int.toNat (1:Int)) (IntKind.bits IntKind.u64)))))))
           fun (y154:α)=>
           Option.bind
            (idx s152.2.2
             (IntKind.wrap .i64
              (Int.fdiv (IntKind.wrap .u64 (IntKind.wrap .i64 (s152.1+s152.2.1)))
               ((2:Int)^min (Int.toNat (1:Int)) (IntKind.bits IntKind.u64)))))
            fun (y155:α)=>
            Option.bind
             (atN s152.2.2
              (Int.toNat
               (IntKind.wrap .i64
                (Int.fdiv (IntKind.wrap .u64 (IntKind.wrap .i64 (s152.1+s152.2.1)))
                 ((2:Int)^min (Int.toNat (1:Int)) (IntKind.bits IntKind.u64))))))
             fun (y156:α)=>
             Option.bind (cmp (y154,y156,())) fun (y157:Int)=>
              bif !decide (y157< (0:Int)) then
               some
                (Sum.inl
                 (IntKind.wrap .i64
                   (IntKind.wrap .i64
                     (Int.fdiv (IntKind.wrap .u64 (IntKind.wrap .i64 (s152.1+s152.2.1)))
                      ((2:Int)^min (Int.toNat (1:Int)) (IntKind.bits IntKind.u64)))+
                    (1:Int)),
                  s152.2))
              else
               some
                (Sum.inl
                 (s152.1,
                  IntKind.wrap .i64
                   (Int.fdiv (IntKind.wrap .u64 (IntKind.wrap .i64 (s152.1+s152.2.1)))
                    ((2:Int)^min (Int.toNat (1:Int)) (IntKind.bits IntKind.u64))),
                  s152.2.2))
        else some (Sum.inr (s152.1,s152.2.2)))
       s134)
      fun (s158:Int×List (α))=>
      Option.bind
       (Option.bind
        (bif decide (s158.1<a2) then
         some
          (decide
            (a2<
             IntKind.wrap .i64
              (IntKind.wrap .i64
                (IntKind.wrap .i64
                  (Int.fdiv (IntKind.wrap .u64 (IntKind.wrap .i64 (a1+a3))) ((2:Int)^min (Int.toNat (1:Int)) (IntKind.bits IntKind.u64)))+
                 a2) -
               s158.1)),
           s158.2)
        else some (false,s158.2))
        fun (s161:Bool×List (α))=>
        bif s161.1 then
         bif Nat.beq (List.length s161.2) (List.length s161.2) then
          Option.bind
           (zS0 cmp s161.2
            (s158.1,a2,
             IntKind.wrap .i64
              (IntKind.wrap .i64
                (IntKind.wrap .i64
                  (Int.fdiv (IntKind.wrap .u64 (IntKind.wrap .i64 (a1+a3))) ((2:Int)^min (Int.toNat (1:Int)) (IntKind.bits IntKind.u64)))+
                 a2) -
               s158.1),
             (),()))
           fun (y162:List (α)×Unit)=>some y162.1
         else none
        else some s161.2)
       fun (s163:List (α))=>
       Option.bind
        (Option.bind
         (bif decide (a1<s158.1) then
          some
           (decide
             (s158.1<
              IntKind.wrap .i64
               (Int.fdiv (IntKind.wrap .u64 (IntKind.wrap .i64 (a1+a3))) ((2:Int)^min (Int.toNat (1:Int)) (IntKind.bits IntKind.u64)))),
            s163)
         else some (false,s163))
         fun (s166:Bool×List (α))=>
         bif s166.1 then
          bif Nat.beq (List.length s166.2) (List.length s166.2) then
           Option.bind
            (self s166.2
             (a1,s158.1,
              IntKind.wrap .i64
               (Int.fdiv (IntKind.wrap .u64 (IntKind.wrap .i64 (a1+a3))) ((2:Int)^min (Int.toNat (1:Int)) (IntKind.bits IntKind.u64))),
              (),()))
            fun (y167:List (α)×Unit)=>some y167.1
          else none
         else some s166.2)
        fun (s168:List (α))=>
        Option.bind
         (bif
           decide
            (IntKind.wrap .i64
              (Int.fdiv (IntKind.wrap .u64 (IntKind.wrap .i64 (a1+a3))) ((2:Int)^min (Int.toNat (1:Int)) (IntKind.bits IntKind.u64)))<
             IntKind.wrap .i64
              (IntKind.wrap .i64
                (IntKind.wrap .i64
                  (Int.fdiv (IntKind.wrap .u64 (IntKind.wrap .i64 (a1+a3))) ((2:Int)^min (Int.toNat (1:Int)) (IntKind.bits IntKind.u64)))+
                 a2) -
               s158.1)) then
          some
           (decide
             (IntKind.wrap .i64
               (IntKind.wrap .i64
                 (IntKind.wrap .i64
                   (Int.fdiv (IntKind.wrap .u64 (IntKind.wrap .i64 (a1+a3))) ((2:Int)^min (Int.toNat (1:Int)) (IntKind.bits IntKind.u64)))+
                  a2) -
                s158.1)<
              a3),
            s168)
         else some (false,s168))
         fun (s169:Bool×List (α))=>
         bif s169.1 then
          bif Nat.beq (List.length s169.2) (List.length s169.2) then
           Option.bind
            (self s169.2
             (IntKind.wrap .i64
               (Int.fdiv (IntKind.wrap .u64 (IntKind.wrap .i64 (a1+a3))) ((2:Int)^min (Int.toNat (1:Int)) (IntKind.bits IntKind.u64))),
              IntKind.wrap .i64
               (IntKind.wrap .i64
                 (IntKind.wrap .i64
                   (Int.fdiv (IntKind.wrap .u64 (IntKind.wrap .i64 (a1+a3))) ((2:Int)^min (Int.toNat (1:Int)) (IntKind.bits IntKind.u64)))+
                  a2) -
                s158.1),
              a3,(),()))
            fun (y170:List (α)×Unit)=>bif Nat.beq (List.length y170.1) (List.length a0) then some (y170.1,()) else none
          else none
         else bif Nat.beq (List.length s169.2) (List.length a0) then some (s169.2,()) else none
noncomputable def zBx {α:Type} (cmp:α×α×Unit→Option Int):Nat→(List α→(Int×Int×Int×Unit×Unit)→Option (List α×Unit))
 |0=>fun _ _=>none
 |n+1=>zHL cmp (zBx cmp n)
noncomputable def zFz {α:Type} (cmp:α×α×Unit→Option Int):List α→(Int×Int×Int×Unit×Unit)→Option (List α×Unit):=zBx cmp 1048576
noncomputable def zLd {α:Type} (cmp:α×α×Unit→Option Int):List α→(Int×Unit×Unit)→Option (List α×Unit):=fun a0 x=>match x with
 |(a1,(),())=>
  Option.bind
   (zL
    (fun (s4:Int×List (α)×Int)=>
     bif decide (s4.1≤a1) then
      bif Nat.beq (List.length s4.2.1) (List.length s4.2.1) then
       Option.bind (zAp cmp s4.2.1 (s4.2.2,s4.1,(),())) fun (y5:List (α)×Unit)=>
        some (Sum.inl (IntKind.wrap .i64 (s4.1+(20:Int)),y5.1,s4.1))
      else none
     else some (Sum.inr s4.2))
    ((20:Int),a0,(0:Int)))
   fun (s6:List (α)×Int)=>
   bif Nat.beq (List.length s6.1) (List.length s6.1) then
    Option.bind (zAp cmp s6.1 (s6.2,a1,(),())) fun (y7:List (α)×Unit)=>
     zL
      (fun (s30:Int×List (α))=>
       bif decide (s30.1<a1) then
        Option.bind
         (zL
          (fun (s31:Int×List (α)×Int)=>
           bif decide (s31.1≤a1) then
            bif Nat.beq (List.length s31.2.1) (List.length s31.2.1) then
             Option.bind (zFz cmp s31.2.1 (s31.2.2,IntKind.wrap .i64 (s31.2.2+s30.1),s31.1,(),()))
              fun (y32:List (α)×Unit)=>
              some (Sum.inl (IntKind.wrap .i64 (s31.1+IntKind.wrap .i64 ((2:Int)*s30.1)),y32.1,s31.1))
            else none
           else some (Sum.inr (s31.2.2,s31.2.1)))
          (IntKind.wrap .i64 ((2:Int)*s30.1),s30.2,(0:Int)))
         fun (s33:Int×List (α))=>
         Option.bind
          (bif decide (IntKind.wrap .i64 (s33.1+s30.1)<a1) then
           bif Nat.beq (List.length s33.2) (List.length s33.2) then
            Option.bind (zFz cmp s33.2 (s33.1,IntKind.wrap .i64 (s33.1+s30.1),a1,(),())) fun (y34:List (α)×Unit)=>
             some y34.1
           else none
          else some s33.2)
          fun (s35:List (α))=>some (Sum.inl (IntKind.wrap .i64 (s30.1*(2:Int)),s35))
       else Option.map (fun (r:List (α)×Unit)=>Sum.inr r) (bif Nat.beq (List.length s30.2) (List.length a0) then some (s30.2,()) else none))
      ((20:Int),y7.1)
   else none
noncomputable def zEV {α:Type} (cmp:α×α×Unit→Option Int):List α→(Unit×Unit)→Option (List α×Unit):=fun a0 x=>match x with
 |((),())=>
  bif Nat.beq (List.length a0) (List.length a0)&&Nat.beq (List.length a0) (List.length a0) then
   Option.bind (zLd cmp a0 ((↑(List.length a0):Int),(),())) fun (y0:List (α)×Unit)=>
    bif Nat.beq (List.length y0.1) (List.length a0) then some (y0.1,()) else none
  else none
end Go.Ve

namespace Go.Ve
open Go
set_option maxRecDepth 1000000
set_option maxHeartbeats 4000000
section
variable {α:Type} {cmp:α×α×Unit→Option Int}
theorem zDs (xs:List α) (a b n:Nat) (hab:a+n≤b) (hb:b+n≤xs.length) (hl:xs.length<4611686018427387904):
  Wp (zEd cmp xs ((a:Int),(b:Int),(n:Int),(),())) (fun r=>r.1.length=xs.length∧ ∀k,r.1[k]? =swF a b n xs k):=by
 unfold zEd
 dsimp only
 refine jF (fun s:Int×List α=> ∃i:Nat,s.1=(i:Int)∧i≤n∧s.2.length=xs.length∧ ∀k,s.2[k]? =swF a b i xs k) (fun s=>((n:Int) -s.1).toNat) ⟨0,rfl,aI _,rfl,fun k=>zZk.symm⟩ ?_
 rintro ⟨s,zs⟩ ⟨i,hi,hin,hzl,hz⟩
 simp only at hi hzl hz
 subst hi
 refine zJ (fun h=> ?_) (fun h=> ?_)
 ·have h:(i:Int)< (n:Int):=h
  have hx:zs[a+i]? =some (zs[a+i]'(by omega)):=by simp
  have hy:zs[b+i]? =some (zs[b+i]'(by omega)):=by simp
  have hy2:(zs.set (a+i) (zs[b+i]'(by omega)))[b+i]? =some (zs[b+i]'(by omega)):=by rw [aG (by omega)];exact hy
  dsimp only
  rw [zH (x:=(b:Int)+(i:Int)) (by omega) (by omega),zH (x:=(a:Int)+(i:Int)) (by omega) (by omega),show ((b:Int)+(i:Int))=((b+i:Nat):Int) by omega,show ((a:Int)+(i:Int))=((a+i:Nat):Int) by omega]
  simp only [zI hx,zI hy,aR,vH hx,vH hy,ae,zI hy2,vH hy2]
  refine zA (e2l ⟨⟨i+1,?_,by omega,by simp only [bE];exact hzl,zZl (by omega) (by omega) hzl hz hx hy⟩,?_⟩)
  ·simp only;rw [zH (by omega) (by omega)];omega
  ·simp only;rw [zH (by omega) (by omega)];omega
 ·have h: ¬(i:Int)< (n:Int):=h
  have:i=n:=by omega
  subst this
  exact zAV (zD (fun _=>zA (e2r ⟨hzl,hz⟩)) (fun h=>absurd h (by simp only;rw [hzl,bh];decide)))
theorem zGU {xs ys:List α} (h:xs.length=ys.length):Nat.beq xs.length ys.length=true:=by rw [h];exact bh _
theorem zSR (xs:List α) (a m b:Nat) (ham:a<m) (hmb:m<b) (hb:b≤xs.length) (hl:xs.length<4611686018427387904):
  Wp (zS0 cmp xs ((a:Int),(m:Int),(b:Int),(),())) (fun r=>r.1.length=xs.length∧ ∀k,r.1[k]? =xC a m b xs k):=by
 unfold zS0
 dsimp only
 rw [zH (x:=(m:Int) - (a:Int)) (by omega) (by omega),zH (x:=(b:Int) - (m:Int)) (by omega) (by omega)]
 refine zC ((show Wp _ (fun s:List α×Int=>s.1.length=xs.length∧ ∃i:Nat,s.2=(i:Int)∧0<i∧i≤m∧m+i≤b∧ ∀k,xC (m-i) m (m+i) s.1 k=xC a m b xs k) from ?_).mono ?_)
 ·refine jF (fun s:Int×Int×List α=>s.2.2.length=xs.length∧ ∃i j:Nat,s.1=(i:Int)∧s.2.1=(j:Int)∧0<i∧0<j∧i≤m-a∧m+j≤b∧ ∀k,xC (m-i) m (m+j) s.2.2 k=xC a m b xs k) (fun s=>(s.1+s.2.1).toNat)
   ⟨rfl,m-a,b-m,by simp only;omega,by simp only;omega,by omega,by omega,by omega,by omega,fun k=>by rw [show m- (m-a)=a by omega,show m+(b-m)=b by omega]⟩ ?_
  rintro ⟨si,sj,zs⟩ ⟨hzl,i,j,hi,hj,hi0,hj0,hia,hjb,hz⟩
  simp only at hi hj hzl hz
  subst hi hj
  refine zD (fun hne=> ?_) (fun he=>zA (e2r ⟨hzl,i,rfl,hi0,by omega,?_,?_⟩))
  ·have hne: ¬(i:Int)=(j:Int):=by simpa using hne
   refine zJ (fun hgt=> ?_) (fun hgt=> ?_)
   ·have hgt:(i:Int)>(j:Int):=hgt
    refine zD (fun _=> ?_) (fun h=>absurd h (by rw [bh];decide))
    dsimp only
    rw [zH (x:=(m:Int) - (i:Int)) (by omega) (by omega),zH (x:=(i:Int) - (j:Int)) (by omega) (by omega),show ((m:Int) - (i:Int))=((m-i:Nat):Int) by omega]
    refine zC ((zDs zs (m-i) m j (by omega) (by omega) (by omega)).mono (fun y hy=>zA (e2l ⟨⟨hy.1.trans hzl,i-j,j,?_,rfl,by omega,hj0,by omega,hjb,fun k=> ?_⟩,?_⟩)))
    ·simp only;omega
    ·rw [←hz k, ←zZD (lo:=m-i) (m:=m) (hi:=m+j) (xs:=zs) (zs:=y.1) (by omega) (by omega) (by omega) (fun k=>by rw [hy.2,show m+j-m=j by omega]) k,show m- (i-j)=m-i+(m+j-m) by omega]
    ·simp only;omega
   ·have hgt: ¬(i:Int)>(j:Int):=hgt
    refine zD (fun _=> ?_) (fun h=>absurd h (by rw [bh];decide))
    dsimp only
    rw [zH (x:=(m:Int) - (i:Int)) (by omega) (by omega),zH (x:=(m:Int)+(j:Int)) (by omega) (by omega),zH (x:=(m:Int)+(j:Int) - (i:Int)) (by omega) (by omega),zH (x:=(j:Int) - (i:Int)) (by omega) (by omega),show ((m:Int) - (i:Int))=((m-i:Nat):Int) by omega,show ((m:Int)+(j:Int) - (i:Int))=((m+j-i:Nat):Int) by omega]
    refine zC ((zDs zs (m-i) (m+j-i) i (by omega) (by omega) (by omega)).mono (fun y hy=>zA (e2l ⟨⟨hy.1.trans hzl,i,j-i,rfl,?_,hi0,by omega,hia,by omega,fun k=> ?_⟩,?_⟩)))
    ·simp only;omega
    ·rw [←hz k, ←zYa (lo:=m-i) (m:=m) (hi:=m+j) (xs:=zs) (zs:=y.1) (by omega) (by omega) (by omega) (fun k=>by rw [hy.2,show m- (m-i)=i by omega]) k,show m+(j-i)=m+j- (m- (m-i)) by omega]
    ·simp only;omega
  ·have he:(i:Int)=(j:Int):=by simpa using he
   omega
  ·have he:(i:Int)=(j:Int):=by simpa using he
   have:i=j:=by omega
   subst this
   exact hz
 ·rintro ⟨zs,s⟩ ⟨hzl,i,hi,hi0,him,hmi,hz⟩
  simp only at hi hzl hz
  subst hi
  refine zD (fun _=> ?_) (fun h=>absurd h (by rw [bh];decide))
  dsimp only
  rw [zH (x:=(m:Int) - (i:Int)) (by omega) (by omega),show ((m:Int) - (i:Int))=((m-i:Nat):Int) by omega]
  refine zC ((zDs zs (m-i) m i (by omega) (by omega) (by omega)).mono (fun y hy=> ?_))
  refine zD (fun _=>zA ⟨hy.1.trans hzl,fun k=> ?_⟩) (fun h=>absurd h (by rw [zGU (hy.1.trans hzl)];decide))
  rw [←hz k]
  exact zZE (lo:=m-i) (m:=m) (hi:=m+i) (by omega) (by omega) (by omega) (fun k=>by rw [hy.2,show m- (m-i)=i by omega]) k
end
end Go.Ve

namespace Go.Ve
open Go
set_option maxHeartbeats 4000000
section
variable {α κ:Type} {lt:α→α→Prop} {key:α→κ}
structure zOb (lt:α→α→Prop) (key:α→κ):Prop where
 ord:Ord lt
 ne: ∀x y,lt x y→key x≠key y
open Classical in
noncomputable def zNf (key:α→κ) (p:κ) (xs:List α):List α:=xs.filter (fun x=>decide (key x=p))
def zHh (key:α→κ) (xs ys:List α):Prop:= ∀p,zNf key p xs=zNf key p ys
theorem zHh.refl (xs:List α):zHh key xs xs:=fun _=>rfl
theorem zHh.trans {xs ys zs:List α} (h1:zHh key xs ys) (h2:zHh key ys zs):zHh key xs zs:=fun p=>(h1 p).trans (h2 p)
theorem zVb (p:κ) (xs ys:List α):zNf key p (xs++ys)=zNf key p xs++zNf key p ys:=dR ..
theorem zVa {p:κ} {xs:List α} (h: ∀x,x∈xs→key x≠p):zNf key p xs=[]:=by
 unfold zNf
 rw [List.filter_eq_nil_iff]
 intro x hx
 simpa using h x hx
theorem zX6 (hk:zOb lt key) {P U V S:List α} (h: ∀x y,x∈U→y∈V→lt y x):zHh key (P++U++V++S) (P++V++U++S):=by
 intro p
 simp only [zVb]
 congr 1
 rw [bp,bp]
 congr 1
 by_cases hu: ∃x,x∈U∧key x=p
 ·obtain ⟨x,hx,rfl⟩:=hu
  rw [zVa (xs:=V) (fun y hy=>hk.ne _ _ (h x y hx hy))]
  simp
 ·rw [zVa (xs:=U) (fun x hx e=>hu ⟨x,hx,e⟩)]
  simp
structure xO (key:α→κ) (a b:Nat) (xs ys:List α):Prop where
 len:ys.length=xs.length
 out: ∀k,k<a∨b≤k→ys[k]? =xs[k]?
 ins: ∀q y,a≤q→q<b→ys[q]? =some y→ ∃q',a≤q'∧q'<b∧xs[q']? =some y
 same:zHh key xs ys
theorem xO.refl (a b:Nat) (xs:List α):xO key a b xs xs:=⟨rfl,fun _ _=>rfl,fun q y h1 h2 h3=>⟨q,h1,h2,h3⟩,zHh.refl xs⟩
theorem xO.trans {a b:Nat} {xs ys zs:List α} (h1:xO key a b xs ys) (h2:xO key a b ys zs):xO key a b xs zs:=by
 refine ⟨h2.len.trans h1.len,fun k hk=>(h2.out k hk).trans (h1.out k hk),?_,h1.same.trans h2.same⟩
 intro q y hq1 hq2 hy
 obtain ⟨q',g1,g2,g3⟩:=h2.ins q y hq1 hq2 hy
 exact h1.ins q' y g1 g2 g3
theorem xO.mono {a b a' b':Nat} {xs ys:List α} (h:xO key a b xs ys) (ha:a'≤a) (hb:b≤b'):xO key a' b' xs ys:=by
 refine ⟨h.len,fun k hk=>h.out k (by omega),?_,h.same⟩
 intro q y hq1 hq2 hy
 by_cases hq:a≤q∧q<b
 ·obtain ⟨q',g1,g2,g3⟩:=h.ins q y hq.1 hq.2 hy
  exact ⟨q',by omega,by omega,g3⟩
 ·exact ⟨q,hq1,hq2,by rw [←h.out q (by omega)];exact hy⟩
def vB (lt:α→α→Prop) (lo hi:Nat) (xs:List α):Prop:= ∀p q x y,lo≤p→p<q→q<hi→xs[p]? =some x→xs[q]? =some y→ ¬lt y x
theorem vB.out {lo hi a b:Nat} {xs ys:List α} (h:vB lt lo hi xs) (hs:xO key a b xs ys) (hd:hi≤a∨b≤lo):vB lt lo hi ys:=by
 intro p q x y h1 h2 h3 hx hy
 rw [hs.out p (by omega)] at hx
 rw [hs.out q (by omega)] at hy
 exact h p q x y h1 h2 h3 hx hy
theorem zKg {a c b:Nat} {xs:List α} (h1:vB lt a c xs) (h2:vB lt c b xs) (h3: ∀q r x y,a≤q→q<c→c≤r→r<b→xs[q]? =some x→xs[r]? =some y→ ¬lt y x):vB lt a b xs:=by
 intro p q x y hp hpq hq hx hy
 by_cases g1:q<c
 ·exact h1 p q x y hp hpq g1 hx hy
 ·by_cases g2:p<c
  ·exact h3 p q x y hp g2 (by omega) hq hx hy
  ·exact h2 p q x y (by omega) hpq hq hx hy
theorem zX1 {a:Nat} {xs:List α} :vB lt a (a+1) xs:=fun p q x y h1 h2 h3 _ _=>by omega
theorem vB.sub {a b a' b':Nat} {xs:List α} (h:vB lt a b xs) (ha:a≤a') (hb:b'≤b):vB lt a' b' xs:=fun p q x y h1 h2 h3 hx hy=>h p q x y (by omega) h2 (by omega) hx hy
theorem zLs (hk:zOb lt key) {lo m hi:Nat} {xs zs:List α} (h1:lo≤m) (h2:m≤hi) (h3:hi≤xs.length) (hl:zs.length=xs.length) (h: ∀k,zs[k]? =xC lo m hi xs k)
  (hlt: ∀q r x y,lo≤q→q<m→m≤r→r<hi→xs[q]? =some x→xs[r]? =some y→lt y x):xO key lo hi xs zs:=by
 have hsplit:xs=xs.take lo++(xs.drop lo).take (m-lo)++(xs.drop m).take (hi-m)++xs.drop hi:=by
  refine ct (fun k=> ?_)
  simp only [List.getElem?_append,aH,aZ,bo,bu,bb]
  repeat' split
  all_goals first
   |rfl
   |exact zA2 (by omega)
   |(exfalso;omega)
 have hz:zs=xs.take lo++(xs.drop m).take (hi-m)++(xs.drop lo).take (m-lo)++xs.drop hi:=by
  refine ct (fun k=> ?_)
  rw [h]
  unfold xC
  simp only [List.getElem?_append,aH,aZ,bo,bu,bb]
  repeat' split
  all_goals first
   |rfl
   |exact zA2 (by omega)
   |(exfalso;omega)
 refine ⟨hl,?_,?_,?_⟩
 ·intro k hk'
  rw [h]
  unfold xC
  rw [if_neg (by omega),if_neg (by omega)]
 ·intro q y hq1 hq2 hy
  rw [h] at hy
  unfold xC at hy
  split at hy
  ·exact ⟨q+(m-lo),by omega,by omega,hy⟩
  ·split at hy
   ·exact ⟨q- (hi-m),by omega,by omega,hy⟩
   ·exact ⟨q,hq1,hq2,hy⟩
 ·have hs:=zX6 hk (P:=xs.take lo) (U:=(xs.drop lo).take (m-lo)) (V:=(xs.drop m).take (hi-m)) (S:=xs.drop hi) ?_
  ·rw [←hsplit, ←hz] at hs
   exact hs
  ·intro x y hx hy
   obtain ⟨i,hi',hx'⟩:=aD hx
   obtain ⟨j,hj',hy'⟩:=aD hy
   have e1:xs[lo+i]? =some x:=by
    have:((xs.drop lo).take (m-lo))[i]? =some x:=by rw [ai hi',hx']
    rw [bu,bb] at this
    split at this
    ·exact this
    ·cases this
   have e2:xs[m+j]? =some y:=by
    have:((xs.drop m).take (hi-m))[j]? =some y:=by rw [ai hj',hy']
    rw [bu,bb] at this
    split at this
    ·exact this
    ·cases this
   simp only [aZ,bo] at hi' hj'
   exact hlt (lo+i) (m+j) x y (by omega) (by omega) (by omega) (by omega) e1 e2
theorem qBj {a k:Nat} {xs zs:List α} (hak:a≤k) (hk:k+1<xs.length) (hl:zs.length=xs.length) (h: ∀j,zs[j]? =xC a (a+1) (k+1) xs j) {x y:α} (hx:zs[k]? =some x) (hy:zs[k+1]? =some y):
  ∀j,((zs.set k y).set (k+1) x)[j]? =xC a (a+1) (k+2) xs j:=by
 intro j
 have h1:=h k
 have h2:=h (k+1)
 unfold xC at h1 h2
 rw [hx,if_neg (by omega),if_pos (by omega)] at h1
 rw [hy,if_neg (by omega),if_neg (by omega)] at h2
 unfold xC
 by_cases e1:j=k+1
 ·subst e1
  rw [bc (by rw [bE];omega),if_neg (by omega),if_pos (by omega),h1]
  exact zA2 (by omega)
 ·rw [aG (by omega)]
  by_cases e2:j=k
  ·subst e2
   rw [bc (by omega),if_pos (by omega),h2]
   exact zA2 (by omega)
  ·rw [aG (by omega),h j]
   unfold xC
   repeat' split
   all_goals first
    |rfl
    |exact zA2 (by omega)
    |(exfalso;omega)
theorem zR6 {m k:Nat} {xs zs:List α} (hk0:0<k) (hkm:k≤m) (hm:m<xs.length) (hl:zs.length=xs.length) (h: ∀j,zs[j]? =xC k m (m+1) xs j) {x y:α} (hx:zs[k]? =some x) (hy:zs[k-1]? =some y):
  ∀j,((zs.set k y).set (k-1) x)[j]? =xC (k-1) m (m+1) xs j:=by
 intro j
 have h1:=h k
 have h2:=h (k-1)
 unfold xC at h1 h2
 rw [hx,if_pos (by omega)] at h1
 rw [hy,if_neg (by omega),if_neg (by omega)] at h2
 unfold xC
 by_cases e1:j=k-1
 ·subst e1
  rw [bc (by rw [bE];omega),if_pos (by omega),h1]
  exact zA2 (by omega)
 ·rw [aG (by omega)]
  by_cases e2:j=k
  ·subst e2
   rw [bc (by omega),if_neg (by omega),if_pos (by omega),h2]
   exact zA2 (by omega)
  ·rw [aG (by omega),h j]
   unfold xC
   repeat' split
   all_goals first
    |rfl
    |exact zA2 (by omega)
    |(exfalso;omega)
theorem zZF {a:Nat} {xs:List α} (j:Nat):xC a (a+1) (a+1) xs j=xs[j]? :=by
 unfold xC
 repeat' split
 all_goals first
  |rfl
  |exact zA2 (by omega)
  |(exfalso;omega)
theorem zUx {m:Nat} {xs:List α} (j:Nat):xC m m (m+1) xs j=xs[j]? :=by
 unfold xC
 repeat' split
 all_goals first
  |rfl
  |exact zA2 (by omega)
  |(exfalso;omega)
end
theorem zTf (i j:Nat) (h:i+j<4611686018427387904):IntKind.wrap .i64 (Int.fdiv (IntKind.wrap .u64 (IntKind.wrap .i64 ((i:Int)+(j:Int)))) ((2:Int)^min (Int.toNat (1:Int)) (IntKind.bits .u64)))=(((i+j) / 2:Nat):Int):=by
 have e:((2:Int)^min (Int.toNat (1:Int)) (IntKind.bits .u64))=2:=by decide
 rw [e,zH (x:=(i:Int)+(j:Int)) (by omega) (by omega),zK2 (x:=(i:Int)+(j:Int)) (by omega) (by omega),Int.fdiv_eq_ediv_of_nonneg _ (by omega)]
 rw [zH (by omega) (by omega)]
 omega
end Go.Ve

namespace Go.Ve
open Go
set_option maxRecDepth 1000000
set_option maxHeartbeats 4000000
theorem zXk {σ ρ:Type} {m:Option (σ ⊕ ρ)} {K:σ→Option ρ} {Q:ρ→Prop} (P:σ→Prop) (h:Wp m (wG P Q)) (hK: ∀s,P s→Wp (K s) Q):Wp (qM m K) Q:=by
 refine z8 (h.mono ?_)
 intro o ho
 cases o with
 |inl s=>exact hK s ho
 |inr r=>exact ho
theorem zJT {β:Type} {z:β} {i0 j0:Nat} {P:Nat→Prop} {T:Int×Int×β→Option ((Int×Int×β) ⊕ (Int×β))} (hij:i0≤j0)
  (step: ∀i j:Nat,i0≤i→i<j→j≤j0→Wp (T ((i:Int),(j:Int),z)) (fun o=>(o=Sum.inl ((((i+j) / 2+1:Nat):Int),(j:Int),z)∧P ((i+j) / 2))∨(o=Sum.inl ((i:Int),(((i+j) / 2:Nat):Int),z)∧ ¬P ((i+j) / 2)))):
  Wp (zL (fun s:Int×Int×β=>bif decide (s.1<s.2.1) then T s else some (Sum.inr (s.1,s.2.2))) ((i0:Int),(j0:Int),z)) (fun s=>s.2=z∧ ∃i:Nat,s.1=(i:Int)∧i0≤i∧i≤j0∧(i0<i→P (i-1))∧(i<j0→ ¬P i)):=by
 refine jF (fun s:Int×Int×β=>s.2.2=z∧ ∃i j:Nat,s.1=(i:Int)∧s.2.1=(j:Int)∧i0≤i∧i≤j∧j≤j0∧(i0<i→P (i-1))∧(j<j0→ ¬P j)) (fun s=>(s.2.1-s.1).toNat)
  ⟨rfl,i0,j0,rfl,rfl,aK _,hij,aK _,fun h=>by omega,fun h=>by omega⟩ ?_
 rintro ⟨si,sj,y⟩ ⟨hy,i,j,hi,hj,h1,h2,h3,h4,h5⟩
 simp only at hi hj hy
 subst hi hj hy
 refine zJ (fun h=> ?_) (fun h=>zA (e2r ⟨rfl,i,rfl,h1,by omega,h4,?_⟩))
 ·have h:(i:Int)< (j:Int):=h
  refine (step i j h1 (by omega) h3).mono ?_
  rintro o (⟨rfl,hp⟩|⟨rfl,hp⟩)
  ·refine ⟨⟨rfl,(i+j) / 2+1,j,rfl,rfl,by omega,by omega,h3,fun _=>by rw [Nat.add_sub_cancel];exact hp,h5⟩,?_⟩
   simp only;omega
  ·refine ⟨⟨rfl,i,(i+j) / 2,rfl,rfl,h1,by omega,by omega,h4,fun _=>hp⟩,?_⟩
   simp only;omega
 ·have h: ¬(i:Int)< (j:Int):=h
  have:i=j:=by omega
  subst this
  exact h5
section
variable {α κ:Type} {cmp:α×α×Unit→Option Int} {lt:α→α→Prop} {key:α→κ}
theorem vW {xs:List α} {i:Nat} (h:i<xs.length):xs[i]? =some xs[i]:=by simp [h]
theorem zFA (hk:zOb lt key) (hcmp: ∀x y,Wp (cmp (x,y,())) (fun c=>c<0↔lt x y)): ∀ (n:Nat) (xs:List α) (a m b:Nat),a<m→m<b→b≤xs.length→xs.length<1099511627776→b-a≤n→vB lt a m xs→vB lt m b xs→
  Wp (zBx cmp n xs ((a:Int),(m:Int),(b:Int),(),())) (fun r=>xO key a b xs r.1∧vB lt a b r.1):=by
 have ho:=hk.ord
 have tr1: ∀x y z, ¬lt y x→lt y z→lt x z:=fun x y z h1 h2=>bP (fun h3=>ho.tr z x y h3 h1 h2)
 have tr2: ∀x y z,lt x y→ ¬lt z y→lt x z:=fun x y z h1 h2=>bP (fun h3=>ho.tr y z x h2 h3 h1)
 intro n
 induction n with
 |zero=>intro xs a m b h1 h2 _ _ h3;omega
 |succ n ih=>
  intro xs a m b ham hmb hb hl hn hs1 hs2
  have ha? :=vW (xs:=xs) (i:=a) (by omega)
  have hm? :=vW (xs:=xs) (i:=m) (by omega)
  simp only [zBx]
  unfold zHL
  dsimp only
  rw [zH (x:=(m:Int) - (a:Int)) (by omega) (by omega),zH (x:=(b:Int) - (m:Int)) (by omega) (by omega)]
  refine zXk (fun s:List α=>s=xs∧m≠a+1) ?_ ?_
  ·refine zD (fun h=> ?_) (fun h=>zA (e2l ⟨rfl,?_⟩))
   ·have h:(m:Int) - (a:Int)=1:=by simpa using h
    have hma:m=a+1:=by omega
    subst hma
    refine zC ((zJT (z:=xs) (i0:=a+1) (j0:=b) (P:=fun q=> ∀y,xs[q]? =some y→lt y xs[a]) (by omega) ?_).mono ?_)
    ·intro i j hi hij hj
     have hh:=vW (xs:=xs) (i:=(i+j) / 2) (by omega)
     dsimp only
     rw [zTf i j (by omega)]
     simp only [zI hh,aR,vH hh,zI ha?,vH ha?,ae]
     refine zC ((hcmp _ _).mono (fun c hc=>zJ (fun h1=>zA (.inl ⟨?_,fun y hy=> ?_⟩)) (fun h1=>zA (.inr ⟨rfl,fun h2=>h1 (hc.2 (h2 _ hh))⟩))))
     ·rw [zH (by omega) (by omega)];congr 1
     ·rw [hh] at hy;cases hy;exact hc.1 h1
    ·rintro ⟨s,zs⟩ ⟨hz,i,hi,hi1,hi2,hP,hN⟩
     simp only at hz hi
     subst hz hi
     have hall1: ∀q y,a+1≤q→q<i→zs[q]? =some y→lt y zs[a]:=by
      intro q y hq1 hq2 hy
      have hp:=hP (by omega) _ (vW (by omega))
      by_cases e:q=i-1
      ·subst e;rw [vW (by omega)] at hy;cases hy;exact hp
      ·exact tr1 _ _ _ (hs2 q (i-1) y _ hq1 (by omega) (by omega) hy (vW (by omega))) hp
     have hall2: ∀q y,i≤q→q<b→zs[q]? =some y→ ¬lt y zs[a]:=by
      intro q y hq1 hq2 hy hlt
      have hnp:=hN (by omega)
      apply hnp
      intro w hw
      by_cases e:q=i
      ·subst e;rw [hw] at hy;cases hy;exact hlt
      ·exact tr1 _ _ _ (hs2 i q w y hi1 (by omega) hq2 hw hy) hlt
     dsimp only
     rw [zH (x:=(i:Int) -1) (by omega) (by omega)]
     refine jF (fun s:Int×List α=> ∃k:Nat,s.1=(k:Int)∧a≤k∧k+1≤i∧s.2.length=zs.length∧ ∀j,s.2[j]? =xC a (a+1) (k+1) zs j) (fun s=>((i:Int) -s.1).toNat) ⟨a,rfl,aK _,hi1,rfl,fun j=>(zZF j).symm⟩ ?_
     rintro ⟨s,ws⟩ ⟨k,hk',hka,hki,hwl,hw⟩
     simp only at hk' hwl hw
     subst hk'
     refine zJ (fun hlt=> ?_) (fun hge=> ?_)
     ·have hlt:(k:Int)< (i:Int) -1:=hlt
      have hx:=vW (xs:=ws) (i:=k) (by omega)
      have hy:=vW (xs:=ws) (i:=k+1) (by omega)
      have hy2:(ws.set k (ws[k+1]'(by omega)))[k+1]? =some (ws[k+1]'(by omega)):=by rw [aG (by omega)];exact hy
      dsimp only
      rw [zH (x:=(k:Int)+1) (by omega) (by omega),show ((k:Int)+1)=((k+1:Nat):Int) by omega]
      simp only [zI hx,zI hy,aR,vH hx,vH hy,ae,zI hy2,vH hy2]
      refine zA (e2l ⟨⟨k+1,rfl,by omega,by omega,by simp only [bE];exact hwl,qBj hka (by omega) hwl hw hx hy⟩,?_⟩)
      simp only;omega
     ·have hge: ¬(k:Int)< (i:Int) -1:=hge
      have hki':k+1=i:=by omega
      subst hki'
      refine zAV (zAV (zD (fun _=>zA (e2r (e2r ?_))) (fun h=>absurd h (by rw [zGU hwl];decide))))
      have hst:xO key a (k+1) zs ws:=zLs hk (m:=a+1) (by omega) (by omega) (by omega) hwl hw (fun q r x y h1 h2 h3 h4 hx hy=>by
       have:q=a:=by omega
       subst this
       rw [ha?] at hx;cases hx
       exact hall1 r y h3 h4 hy)
      refine ⟨hst.mono (aK _) (by omega),?_⟩
      have jB: ∀q y,a≤q→q<b→ws[q]? =some y→(q<k∧zs[q+1]? =some y)∨(q=k∧y=zs[a])∨(k<q∧zs[q]? =some y):=by
       intro q y h1 h2 hy
       rw [hw] at hy
       unfold xC at hy
       split at hy
       ·exact .inl ⟨by omega,by rw [←hy];exact zA2 (by omega)⟩
       ·split at hy
        ·refine .inr (.inl ⟨by omega,?_⟩)
         rw [show q- (k+1- (a+1))=a by omega,ha?] at hy
         cases hy;rfl
        ·exact .inr (.inr ⟨by omega,hy⟩)
      intro p q x y h1 h2 h3 hx hy
      rcases jB p x h1 (by omega) hx with ⟨g1,hx'⟩|⟨g1,rfl⟩|⟨g1,hx'⟩
      ·rcases jB q y (by omega) h3 hy with ⟨g2,hy'⟩|⟨g2,rfl⟩|⟨g2,hy'⟩
       ·exact hs2 (p+1) (q+1) x y (by omega) (by omega) (by omega) hx' hy'
       ·exact ho.asym _ _ (hall1 (p+1) x (by omega) (by omega) hx')
       ·exact hs2 (p+1) q x y (by omega) (by omega) h3 hx' hy'
      ·rcases jB q y (by omega) h3 hy with ⟨g2,hy'⟩|⟨g2,rfl⟩|⟨g2,hy'⟩
       ·omega
       ·omega
       ·exact hall2 q y (by omega) h3 hy'
      ·rcases jB q y (by omega) h3 hy with ⟨g2,hy'⟩|⟨g2,rfl⟩|⟨g2,hy'⟩
       ·omega
       ·omega
       ·exact hs2 p q x y (by omega) h2 h3 hx' hy'
   ·have h: ¬(m:Int) - (a:Int)=1:=by simpa using h
    omega
  rintro s ⟨rfl,hma⟩
  refine zXk (fun s':List α=>s'=s∧b≠m+1) ?_ ?_
  ·refine zD (fun h=> ?_) (fun h=>zA (e2l ⟨rfl,?_⟩))
   ·have h:(b:Int) - (m:Int)=1:=by simpa using h
    have hbm:b=m+1:=by omega
    subst hbm
    refine zC ((zJT (z:=s) (i0:=a) (j0:=m) (P:=fun q=> ∀y,s[q]? =some y→ ¬lt s[m] y) (by omega) ?_).mono ?_)
    ·intro i j hi hij hj
     have hh:=vW (xs:=s) (i:=(i+j) / 2) (by omega)
     dsimp only
     rw [zTf i j (by omega)]
     simp only [zI hh,aR,vH hh,zI hm?,vH hm?,ae]
     refine zC ((hcmp _ _).mono (fun c hc=>wD (fun h1=>zA (.inl ⟨?_,fun y hy=> ?_⟩)) (fun h1=>zA (.inr ⟨rfl,fun h2=>h2 _ hh (hc.1 h1)⟩))))
     ·rw [zH (by omega) (by omega)];congr 1
     ·rw [hh] at hy;cases hy;exact fun h2=>h1 (hc.2 h2)
    ·rintro ⟨s0,zs⟩ ⟨hz,i,hi,hi1,hi2,hP,hN⟩
     simp only at hz hi
     subst hz hi
     have hall1: ∀q y,a≤q→q<i→zs[q]? =some y→ ¬lt zs[m] y:=by
      intro q y hq1 hq2 hy
      have hp:=hP (by omega) _ (vW (by omega))
      by_cases e:q=i-1
      ·subst e;rw [vW (by omega)] at hy;cases hy;exact hp
      ·exact ho.tr _ _ _ (hs1 q (i-1) y _ hq1 (by omega) (by omega) hy (vW (by omega))) hp
     have hall2: ∀q y,i≤q→q<m→zs[q]? =some y→lt zs[m] y:=by
      intro q y hq1 hq2 hy
      refine bP (fun hnlt=> ?_)
      have hnp:=hN (by omega)
      apply hnp
      intro w hw
      by_cases e:q=i
      ·subst e;rw [hw] at hy;cases hy;exact hnlt
      ·exact ho.tr _ _ _ (hs1 i q w y hi1 (by omega) hq2 hw hy) hnlt
     dsimp only
     refine jF (fun s:Int×List α=> ∃k:Nat,s.1=(k:Int)∧i≤k∧k≤m∧s.2.length=zs.length∧ ∀j,s.2[j]? =xC k m (m+1) zs j) (fun s=>s.1.toNat) ⟨m,rfl,hi2,aK _,rfl,fun j=>(zUx j).symm⟩ ?_
     rintro ⟨s0,ws⟩ ⟨k,hk',hki,hkm,hwl,hw⟩
     simp only at hk' hwl hw
     subst hk'
     refine zJ (fun hgt=> ?_) (fun hge=> ?_)
     ·have hgt:(k:Int)>(i:Int):=hgt
      have hx:=vW (xs:=ws) (i:=k) (by omega)
      have hy:=vW (xs:=ws) (i:=k-1) (by omega)
      have hy2:(ws.set k (ws[k-1]'(by omega)))[k-1]? =some (ws[k-1]'(by omega)):=by rw [aG (by omega)];exact hy
      dsimp only
      rw [zH (x:=(k:Int) -1) (by omega) (by omega),show ((k:Int) -1)=((k-1:Nat):Int) by omega]
      simp only [zI hx,zI hy,aR,vH hx,vH hy,ae,zI hy2,vH hy2]
      refine zA (e2l ⟨⟨k-1,rfl,by omega,by omega,by simp only [bE];exact hwl,zR6 (by omega) hkm (by omega) hwl hw hx hy⟩,?_⟩)
      simp only;omega
     ·have hge: ¬(k:Int)>(i:Int):=hge
      have hki':k=i:=by omega
      subst hki'
      refine zAV (zAV (zD (fun _=>zA (e2r (e2r ?_))) (fun h=>absurd h (by rw [zGU hwl];decide))))
      have hst:xO key k (m+1) zs ws:=zLs hk (m:=m) (by omega) (by omega) (by omega) hwl hw (fun q r x y h1 h2 h3 h4 hx hy=>by
       have:r=m:=by omega
       subst this
       rw [hm?] at hy;cases hy
       exact hall2 q x h1 h2 hx)
      refine ⟨hst.mono hi1 (aK _),?_⟩
      have jB: ∀q y,a≤q→q<m+1→ws[q]? =some y→(q<k∧zs[q]? =some y)∨(q=k∧y=zs[m])∨(k<q∧zs[q-1]? =some y):=by
       intro q y h1 h2 hy
       rw [hw] at hy
       unfold xC at hy
       split at hy
       ·refine .inr (.inl ⟨by omega,?_⟩)
        rw [show q+(m-k)=m by omega,hm?] at hy
        cases hy;rfl
       ·split at hy
        ·exact .inr (.inr ⟨by omega,by rw [←hy];exact zA2 (by omega)⟩)
        ·exact .inl ⟨by omega,hy⟩
      intro p q x y h1 h2 h3 hx hy
      rcases jB p x h1 (by omega) hx with ⟨g1,hx'⟩|⟨g1,rfl⟩|⟨g1,hx'⟩
      ·rcases jB q y (by omega) h3 hy with ⟨g2,hy'⟩|⟨g2,rfl⟩|⟨g2,hy'⟩
       ·exact hs1 p q x y h1 h2 (by omega) hx' hy'
       ·exact hall1 p x h1 g1 hx'
       ·exact hs1 p (q-1) x y h1 (by omega) (by omega) hx' hy'
      ·rcases jB q y (by omega) h3 hy with ⟨g2,hy'⟩|⟨g2,rfl⟩|⟨g2,hy'⟩
       ·omega
       ·omega
       ·exact ho.asym _ _ (hall2 (q-1) y (by omega) (by omega) hy')
      ·rcases jB q y (by omega) h3 hy with ⟨g2,hy'⟩|⟨g2,rfl⟩|⟨g2,hy'⟩
       ·omega
       ·omega
       ·exact hs1 (p-1) (q-1) x y (by omega) (by omega) (by omega) hx' hy'
   ·have h: ¬(b:Int) - (m:Int)=1:=by simpa using h
    omega
  rintro s' ⟨rfl,hbm⟩
  clear ha? hm?
  rw [zTf a b (by omega)]
  have hM1:2*((a+b) / 2)≤a+b:=by omega
  have hM2:a+b<2*((a+b) / 2)+2:=by omega
  generalize (a+b) / 2=M at hM1 hM2
  rw [zH (x:=(M:Int)+(m:Int)) (by omega) (by omega),zH (x:=(M:Int)+(m:Int) -1) (by omega) (by omega)]
  refine zC ((show Wp _ (fun s:Int×Int×List α=> ∃st r:Nat,s=((st:Int),(r:Int),s')∧((M<m∧st+b=M+m∧r=M)∨(m≤M∧st=a∧r=m))) from ?_).mono ?_)
  ·refine zJ (fun h=>zA ⟨M+m-b,M,?_, .inl ⟨?_,?_,rfl⟩⟩) (fun h=>zA ⟨a,m,rfl, .inr ⟨?_,rfl,rfl⟩⟩)
   ·have h:(m:Int)>(M:Int):=h
    rw [zH (by omega) (by omega),show ((M:Int)+(m:Int) - (b:Int))=((M+m-b:Nat):Int) by omega]
   ·have h:(m:Int)>(M:Int):=h
    omega
   ·have h:(m:Int)>(M:Int):=h
    omega
   ·have h: ¬(m:Int)>(M:Int):=h
    omega
  rintro _ ⟨st,r,rfl,hst⟩
  refine zC ((zJT (z:=s') (i0:=st) (j0:=r) (P:=fun c=> ∀x y,s'[M+m-1-c]? =some x→s'[c]? =some y→ ¬lt x y) (by omega) ?_).mono ?_)
  ·intro i j hi hij hj
   have hh:=vW (xs:=s') (i:=(i+j) / 2) (by omega)
   have hh2:=vW (xs:=s') (i:=M+m-1- (i+j) / 2) (by omega)
   dsimp only
   rw [zTf i j (by omega),zH (x:=(M:Int)+(m:Int) -1- (((i+j) / 2:Nat):Int)) (by omega) (by omega),show ((M:Int)+(m:Int) -1- (((i+j) / 2:Nat):Int))=((M+m-1- (i+j) / 2:Nat):Int) by omega]
   simp only [zI hh,zI hh2,aR,vH hh,vH hh2,ae]
   refine zC ((hcmp _ _).mono (fun c hc=>wD (fun h1=>zA (.inl ⟨?_,fun x y hx hy=> ?_⟩)) (fun h1=>zA (.inr ⟨rfl,fun h2=>h2 _ _ hh2 hh (hc.1 h1)⟩))))
   ·rw [zH (by omega) (by omega)];congr 1
   ·rw [hh2] at hx;rw [hh] at hy;cases hx;cases hy;exact fun h2=>h1 (hc.2 h2)
  rintro ⟨s0,zs0⟩ ⟨hz0,start,hs0,hst1,hst2,hP,hN⟩
  simp only at hz0 hs0
  subst hz0 hs0
  dsimp only
  rw [zH (x:=(M:Int)+(m:Int) - (start:Int)) (by omega) (by omega),show ((M:Int)+(m:Int) - (start:Int))=((M+m-start:Nat):Int) by omega]
  have he1:m≤M+m-start:=by omega
  have he2:M+m-start≤b:=by omega
  have he3:start+(M+m-start-m)=M:=by omega
  have hst3:a≤start:=by omega
  have hst4:start≤m:=by omega
  have hl2: ∀q r' x y,start≤q→q<m→m≤r'→r'<M+m-start→zs0[q]? =some x→zs0[r']? =some y→lt y x:=by
   intro q r' x y h1 h2 h3 h4 hx hy
   have hlt:start<r:=by omega
   refine bP (fun hnl=>hN hlt ?_)
   intro u w hu hw hlt2
   apply hnl
   have k1:lt y w:=by
    by_cases e:r'=M+m-1-start
    ·subst e;rw [hu] at hy;cases hy;exact hlt2
    ·exact tr1 _ _ _ (hs2 r' (M+m-1-start) y u h3 (by omega) (by omega) hy hu) hlt2
   by_cases e:q=start
   ·subst e;rw [hw] at hx;cases hx;exact k1
   ·exact tr2 _ _ _ k1 (hs1 start q w x hst3 (by omega) (by omega) hw hx)
  have hl1: ∀q r' x y,a≤q→q<start→M+m-start≤r'→r'<b→zs0[q]? =some x→zs0[r']? =some y→ ¬lt y x:=by
   intro q r' x y h1 h2 h3 h4 hx hy
   have hlt:st<start:=by omega
   have g1:=vW (xs:=zs0) (i:=start-1) (by omega)
   have g2:=vW (xs:=zs0) (i:=M+m-1- (start-1)) (by omega)
   have hp:=hP hlt _ _ g2 g1
   have k1: ¬lt (zs0[M+m-1- (start-1)]'(by omega)) x:=by
    by_cases e:q=start-1
    ·subst e;rw [g1] at hx;cases hx;exact hp
    ·exact ho.tr _ _ _ (hs1 q (start-1) x _ h1 (by omega) (by omega) hx g1) hp
   by_cases e:r'=M+m-1- (start-1)
   ·subst e;rw [g2] at hy;cases hy;exact k1
   ·exact ho.tr _ _ _ k1 (hs2 (M+m-1- (start-1)) r' _ y (by omega) (by omega) h4 g2 hy)
  generalize he:M+m-start=e at he1 he2 he3 hl1 hl2
  refine zC ((show Wp _ (fun zs:List α=>zs.length=zs0.length∧ ∀k,zs[k]? =xC start m e zs0 k) from ?_).mono ?_)
  ·refine zC ((show Wp _ (fun c:Bool×List α=>c.2=zs0∧(c.1=true→start<m∧m<e)∧(c.1=false→start=m∨m=e)) from ?_).mono ?_)
   ·refine zJ (fun h=>zA ⟨rfl,(fun h2=> ?_),fun h2=> ?_⟩) (fun h=>zA ⟨rfl,(fun h2=>by cases h2),fun _=> ?_⟩)
    ·have h:(start:Int)< (m:Int):=h
     have h2:(m:Int)< (e:Int):=of_decide_eq_true h2
     omega
    ·have h2: ¬(m:Int)< (e:Int):=of_decide_eq_false h2
     omega
    ·have h: ¬(start:Int)< (m:Int):=h
     omega
   ·rintro ⟨c,zs⟩ ⟨hz,ht,hf⟩
    simp only at hz ht hf
    subst hz
    refine zD (fun h=> ?_) (fun h=>zA ⟨rfl,fun k=> ?_⟩)
    ·obtain ⟨g1,g2⟩:=ht h
     refine zD (fun _=>zC ((zSR zs start m e g1 g2 (by omega) (by omega)).mono (fun y hy=>zA hy))) (fun h=>absurd h (by rw [bh];decide))
    ·have:=hf h
     unfold xC
     repeat' split
     all_goals first
      |rfl
      |exact zA2 (by omega)
      |(exfalso;omega)
  intro zs hzz
  obtain ⟨hzl,hz⟩:=hzz
  have j5:=zLs hk hst4 he1 (by omega) hzl hz hl2
  have jB: ∀q y,a≤q→q<b→zs[q]? =some y→(q<start∧zs0[q]? =some y)∨(start≤q∧q<M∧zs0[q+(m-start)]? =some y)∨(M≤q∧q<e∧zs0[q- (e-m)]? =some y)∨(e≤q∧zs0[q]? =some y):=by
   intro q y h1 h2 hy
   rw [hz] at hy
   unfold xC at hy
   split at hy
   ·exact .inr (.inl ⟨by omega,by omega,hy⟩)
   ·split at hy
    ·exact .inr (.inr (.inl ⟨by omega,by omega,hy⟩))
    ·by_cases c:q<start
     ·exact .inl ⟨c,hy⟩
     ·exact .inr (.inr (.inr ⟨by omega,hy⟩))
  have r1:vB lt a start zs:=by
   intro p q x y h1 h2 h3 hx hy
   rw [j5.out p (by omega)] at hx
   rw [j5.out q (by omega)] at hy
   exact hs1 p q x y h1 h2 (by omega) hx hy
  have r2:vB lt start M zs:=by
   intro p q x y h1 h2 h3 hx hy
   rw [hz] at hx hy
   unfold xC at hx hy
   rw [if_pos (by omega)] at hx hy
   exact hs2 _ _ x y (by omega) (by omega) (by omega) hx hy
  have r3:vB lt M e zs:=by
   intro p q x y h1 h2 h3 hx hy
   rw [hz] at hx hy
   unfold xC at hx hy
   rw [if_neg (by omega),if_pos (by omega)] at hx hy
   exact hs1 _ _ x y (by omega) (by omega) (by omega) hx hy
  have r4:vB lt e b zs:=by
   intro p q x y h1 h2 h3 hx hy
   rw [j5.out p (by omega)] at hx
   rw [j5.out q (by omega)] at hy
   exact hs2 p q x y (by omega) h2 h3 hx hy
  have rc: ∀q r' x y,a≤q→q<M→M≤r'→r'<b→zs[q]? =some x→zs[r']? =some y→ ¬lt y x:=by
   intro q r' x y h1 h2 h3 h4 hx hy
   rcases jB q x h1 (by omega) hx with ⟨g1,hx'⟩|⟨g1,g2,hx'⟩|⟨g1,g2,hx'⟩|⟨g1,hx'⟩
   ·rcases jB r' y (by omega) h4 hy with ⟨g3,hy'⟩|⟨g3,g4,hy'⟩|⟨g3,g4,hy'⟩|⟨g3,hy'⟩
    ·omega
    ·omega
    ·exact hs1 q _ x y h1 (by omega) (by omega) hx' hy'
    ·exact hl1 q r' x y h1 g1 g3 h4 hx' hy'
   ·rcases jB r' y (by omega) h4 hy with ⟨g3,hy'⟩|⟨g3,g4,hy'⟩|⟨g3,g4,hy'⟩|⟨g3,hy'⟩
    ·omega
    ·omega
    ·exact ho.asym _ _ (hl2 _ _ y x (by omega) (by omega) (by omega) (by omega) hy' hx')
    ·exact hs2 _ r' x y (by omega) (by omega) h4 hx' hy'
   ·omega
   ·omega
  refine zC ((show Wp _ (fun ws:List α=>xO key a M zs ws∧vB lt a M ws) from ?_).mono ?_)
  ·refine zC ((show Wp _ (fun c:Bool×List α=>c.2=zs∧(c.1=true→a<start∧start<M)∧(c.1=false→a=start∨start=M)) from ?_).mono ?_)
   ·refine zJ (fun h=>zA ⟨rfl,(fun h2=> ?_),fun h2=> ?_⟩) (fun h=>zA ⟨rfl,(fun h2=>by cases h2),fun _=> ?_⟩)
    ·have h:(a:Int)< (start:Int):=h
     have h2:(start:Int)< (M:Int):=of_decide_eq_true h2
     omega
    ·have h2: ¬(start:Int)< (M:Int):=of_decide_eq_false h2
     omega
    ·have h: ¬(a:Int)< (start:Int):=h
     omega
   ·rintro ⟨c,vs⟩ ⟨hv,ht,hf⟩
    simp only at hv ht hf
    subst hv
    refine zD (fun h=> ?_) (fun h=>zA ⟨xO.refl _ _ _,?_⟩)
    ·obtain ⟨g1,g2⟩:=ht h
     exact zD (fun _=>zC ((ih vs a start M g1 g2 (by omega) (by omega) (by omega) r1 r2).mono (fun y hy=>zA hy))) (fun h=>absurd h (by rw [bh];decide))
    ·exact zKg r1 r2 (fun q r' x y h1 h2 h3 h4 hx hy=>by have:=hf h;omega)
  intro ws hws
  obtain ⟨hw1,hw2⟩:=hws
  have hwl:ws.length=zs0.length:=hw1.len.trans hzl
  have fin: ∀us,xO key M b ws us→vB lt M b us→xO key a b zs0 us∧vB lt a b us:=by
   intro us hu1 hu2
   refine ⟨((j5.mono hst3 he2).trans (hw1.mono (aK _) (by omega))).trans (hu1.mono (by omega) (aK _)),zKg (hw2.out hu1 (.inl (aK _))) hu2 ?_⟩
   intro q r' x y h1 h2 h3 h4 hx hy
   rw [hu1.out q (by omega)] at hx
   obtain ⟨q',k1,k2,hx'⟩:=hw1.ins q x h1 h2 hx
   obtain ⟨r2,k3,k4,hy'⟩:=hu1.ins r' y h3 h4 hy
   rw [hw1.out r2 (by omega)] at hy'
   exact rc q' r2 x y k1 k2 k3 k4 hx' hy'
  have q3:vB lt M e ws:=r3.out hw1 (.inr (aK _))
  have q4:vB lt e b ws:=r4.out hw1 (.inr (by omega))
  refine zC ((show Wp _ (fun c:Bool×List α=>c.2=ws∧(c.1=true→M<e∧e<b)∧(c.1=false→M=e∨e=b)) from ?_).mono ?_)
  ·refine zJ (fun h=>zA ⟨rfl,(fun h2=> ?_),fun h2=> ?_⟩) (fun h=>zA ⟨rfl,(fun h2=>by cases h2),fun _=> ?_⟩)
   ·have h:(M:Int)< (e:Int):=h
    have h2:(e:Int)< (b:Int):=of_decide_eq_true h2
    omega
   ·have h2: ¬(e:Int)< (b:Int):=of_decide_eq_false h2
    omega
   ·have h: ¬(M:Int)< (e:Int):=h
    omega
  ·rintro ⟨c,vs⟩ ⟨hv,ht,hf⟩
   simp only at hv ht hf
   subst hv
   refine zD (fun h=> ?_) (fun h=> ?_)
   ·obtain ⟨g1,g2⟩:=ht h
    refine zD (fun _=>zC ((ih vs M e b g1 g2 (by omega) (by omega) (by omega) q3 q4).mono (fun y hy=> ?_))) (fun h=>absurd h (by rw [bh];decide))
    exact zD (fun _=>zA (fin _ hy.1 hy.2)) (fun h=>absurd h (by rw [zGU (hy.1.len.trans hwl)];decide))
   ·refine zD (fun _=>zA (fin _ (xO.refl _ _ _) ?_)) (fun h=>absurd h (by rw [zGU hwl];decide))
    exact zKg q3 q4 (fun q r' x y h1 h2 h3 h4 hx hy=>by have:=hf h;omega)
end
end Go.Ve

namespace Go.Ve
open Go
set_option maxRecDepth 1000000
set_option maxHeartbeats 4000000
section
variable {α κ:Type} {cmp:α×α×Unit→Option Int} {lt:α→α→Prop} {key:α→κ}
def zMD (lt:α→α→Prop) (lo i j:Nat) (xs:List α):Prop:= ∀p q x y,lo≤p→p<q→q≤i→q≠j→xs[p]? =some x→xs[q]? =some y→ ¬lt y x
theorem zUn {lo i:Nat} {xs:List α} (h:vB lt lo i xs):zMD lt lo i i xs:=fun p q x y h0 h1 h2 h3 hx hy=>h p q x y h0 h1 (by omega) hx hy
theorem zWb (ho:Ord lt) {lo i j:Nat} {xs:List α} (h:zMD lt lo i j xs) (hj:j≤i) (hlo:lo≤j) (he:j=lo∨ ∀x y,xs[j]? =some x→xs[j-1]? =some y→ ¬lt x y):vB lt lo (i+1) xs:=by
 intro p q x y hp0 hpq hq hx hy
 by_cases hqj:q=j
 ·subst hqj
  rcases he with he|he
  ·omega
  ·by_cases hp:p=q-1
   ·subst hp
    exact he y x hy hx
   ·have hl:=(ac.1 hy).1
    have hz:xs[q-1]? =some (xs[q-1]'(by omega)):=by simp
    exact ho.tr _ _ _ (h p (q-1) x _ hp0 (by omega) (by omega) (by omega) hx hz) (he y _ hy hz)
 ·exact h p q x y hp0 hpq (by omega) hqj hx hy
theorem zWa (ho:Ord lt) {lo i j:Nat} {xs:List α} (h:zMD lt lo i j xs) (hj:lo<j) (hji:j≤i) (hi:i<xs.length) (hlt:lt (xs[j]'(by omega)) (xs[j-1]'(by omega))):
  zMD lt lo i (j-1) ((xs.set j (xs[j-1]'(by omega))).set (j-1) (xs[j]'(by omega))):=by
 have hjl:j<xs.length:=by omega
 have a1:xs[j]? =some xs[j]:=by simp
 have a2:xs[j-1]? =some (xs[j-1]'(by omega)):=by simp
 have at': ∀m z,((xs.set j (xs[j-1]'(by omega))).set (j-1) (xs[j]'(by omega)))[m]? =some z→(m=j-1∧z=xs[j])∨(m=j∧z=xs[j-1]'(by omega))∨(m≠j∧m≠j-1∧xs[m]? =some z):=by
  intro m z hm
  by_cases e1:m=j-1
  ·subst e1
   rw [bc (by rw [bE];omega)] at hm
   cases hm
   exact .inl ⟨rfl,rfl⟩
  ·rw [aG (by omega)] at hm
   by_cases e2:m=j
   ·subst e2
    rw [bc (by omega)] at hm
    cases hm
    exact .inr (.inl ⟨rfl,rfl⟩)
   ·rw [aG (by omega)] at hm
    exact .inr (.inr ⟨e2,e1,hm⟩)
 intro p q x y hp0 hpq hq hqj hx hy
 rcases at' q y hy with ⟨g,_⟩|⟨rfl,rfl⟩|⟨g1,g2,hy2⟩
 ·omega
 ·rcases at' p x hx with ⟨rfl,rfl⟩|⟨g,_⟩|⟨g3,g4,hx⟩
  ·exact ho.asym _ _ hlt
  ·omega
  ·exact h p (q-1) x _ hp0 (by omega) (by omega) (by omega) hx a2
 ·rcases at' p x hx with ⟨rfl,rfl⟩|⟨rfl,rfl⟩|⟨g3,g4,hx⟩
  ·exact h j q _ y (by omega) (by omega) hq g1 a1 hy2
  ·exact h (p-1) q _ y (by omega) (by omega) hq g1 a2 hy2
  ·exact h p q x y hp0 hpq hq g1 hx hy2
theorem zXY (hk:zOb lt key) {j:Nat} {xs:List α} (hj:0<j) (hjl:j<xs.length) (hlt:lt xs[j] (xs[j-1]'(by omega))):
  xO key (j-1) (j+1) xs ((xs.set j (xs[j-1]'(by omega))).set (j-1) xs[j]):=by
 have h1:=vW hjl
 have h2:=vW (xs:=xs) (i:=j-1) (by omega)
 refine zLs hk (m:=j) (by omega) (by omega) (by omega) (by simp) (zR6 (m:=j) (k:=j) hj (aK _) hjl rfl (fun k=>(zUx k).symm) h1 h2) ?_
 intro q r x y g1 g2 g3 g4 hx hy
 have e1:q=j-1:=by omega
 have e2:r=j:=by omega
 subst e1 e2
 rw [h2] at hx;rw [h1] at hy
 cases hx;cases hy
 exact hlt
theorem zDC (hk:zOb lt key) (hcmp: ∀x y,Wp (cmp (x,y,())) (fun c=>c<0↔lt x y)) (xs:List α) (a b:Nat) (hab:a≤b) (hb:b≤xs.length) (hl:xs.length<1099511627776):
  Wp (zAp cmp xs ((a:Int),(b:Int),(),())) (fun r=>xO key a b xs r.1∧vB lt a b r.1):=by
 have ho:=hk.ord
 unfold zAp
 dsimp only
 rw [zH (by omega) (by omega)]
 refine jF (fun s:Int×List α=>xO key a b xs s.2∧ ∃i:Nat,s.1=(i:Int)∧a+1≤i∧(i≤b∨i=a+1)∧vB lt a i s.2) (fun s=>((b:Int) -s.1).toNat)
  ⟨xO.refl _ _ _,a+1,by simp only;omega,aK _, .inr rfl,zX1⟩ ?_
 rintro ⟨s,zs⟩ ⟨hst,i,hi,hi1,hi2,hso⟩
 simp only at hi hst hso
 subst hi
 have hlen:zs.length=xs.length:=hst.len
 refine zJ (fun hlt=> ?_) (fun hge=> ?_)
 ·have hlt:(i:Int)< (b:Int):=hlt
  refine zC ((show Wp _ (fun ys:List α=>xO key a b zs ys∧vB lt a (i+1) ys) from ?_).mono (fun ys hys=>zA (e2l ⟨⟨hst.trans hys.1,i+1,?_,by omega, .inl (by omega),hys.2⟩,?_⟩)))
  ·refine jF (fun s:Int×List α=>xO key a b zs s.2∧ ∃j:Nat,s.1=(j:Int)∧a≤j∧j≤i∧zMD lt a i j s.2) (fun s=>s.1.toNat) ⟨xO.refl _ _ _,i,rfl,by omega,aK _,zUn hso⟩ ?_
   rintro ⟨s,ys⟩ ⟨hyst,j,hj,hja,hji,hex⟩
   simp only at hj hyst hex
   subst hj
   have hyl:ys.length=xs.length:=hyst.len.trans hlen
   refine zC ((show Wp _ (fun c:Bool×List α=>c.2=ys∧(c.1=true→a<j∧ ∀x y,ys[j]? =some x→ys[j-1]? =some y→lt x y)∧(c.1=false→j=a∨ ∀x y,ys[j]? =some x→ys[j-1]? =some y→ ¬lt x y)) from ?_).mono ?_)
   ·refine zJ (fun hj0=> ?_) (fun hj0=>zA ⟨rfl,(fun h=>by cases h),fun _=> .inl ?_⟩)
    ·have hj0:(j:Int)>(a:Int):=hj0
     have hy1:=vW (xs:=ys) (i:=j) (by omega)
     have hy2:=vW (xs:=ys) (i:=j-1) (by omega)
     dsimp only
     rw [zH (by omega) (by omega),show ((j:Int) -1)=((j-1:Nat):Int) by omega]
     simp only [zI hy1,zI hy2,aR,vH hy1,vH hy2,ae]
     refine zC ((hcmp _ _).mono (fun c hc=>zA ⟨rfl,(fun h=>⟨by omega,?_⟩),fun h=> .inr ?_⟩))
     ·intro x y hx hy
      rw [hy1] at hx;rw [hy2] at hy
      cases hx;cases hy
      exact hc.1 (of_decide_eq_true h)
     ·intro x y hx hy
      rw [hy1] at hx;rw [hy2] at hy
      cases hx;cases hy
      exact fun hh=>(of_decide_eq_false h) (hc.2 hh)
    ·have hj0: ¬(j:Int)>(a:Int):=hj0
     omega
   ·rintro ⟨c,ws⟩ ⟨hw,ht,hf⟩
    simp only at hw ht hf
    subst hw
    refine zD (fun hb'=> ?_) (fun hb'=>zA (e2r ⟨hyst,zWb ho hex hji hja (hf hb')⟩))
    obtain ⟨hj0,hlt2⟩:=ht hb'
    have hy1:=vW (xs:=ws) (i:=j) (by omega)
    have hy2:=vW (xs:=ws) (i:=j-1) (by omega)
    have hy3:(ws.set j (ws[j-1]'(by omega)))[j-1]? =some (ws[j-1]'(by omega)):=by
     rw [aG (by omega)];exact hy2
    dsimp only
    rw [zH (by omega) (by omega),show ((j:Int) -1)=((j-1:Nat):Int) by omega]
    simp only [zI hy1,zI hy2,aR,vH hy1,vH hy2,ae,zI hy3,vH hy3]
    refine zA (e2l ⟨⟨hyst.trans ((zXY hk (by omega) (by omega) (hlt2 _ _ hy1 hy2)).mono (by omega) (by omega)),j-1,rfl,by omega,by omega,zWa ho hex hj0 hji (by omega) (hlt2 _ _ hy1 hy2)⟩,?_⟩)
    simp only;omega
  ·simp only;rw [zH (by omega) (by omega)];omega
  ·simp only;rw [zH (by omega) (by omega)];omega
 ·have hge: ¬(i:Int)< (b:Int):=hge
  exact zAV (zD (fun _=>zA (e2r ⟨hst,hso.sub (aK _) (by omega)⟩)) (fun h=>absurd h (by rw [zGU hlen];decide)))
def zTV (lt:α→α→Prop) (bs n:Nat) (xs:List α):Prop:= ∀j,vB lt (j*bs) (min ((j+1)*bs) n) xs
theorem zSQ (hk:zOb lt key) (hcmp: ∀x y,Wp (cmp (x,y,())) (fun c=>c<0↔lt x y)) (xs:List α) (hl:xs.length≤1048576):
  Wp (zLd cmp xs ((xs.length:Int),(),())) (fun r=>xO key 0 xs.length xs r.1∧vB lt 0 xs.length r.1):=by
 unfold zLd
 dsimp only
 generalize hn:xs.length=n at hl
 refine zC ((show Wp _ (fun s:List α×Int=>xO key 0 n xs s.1∧ ∃t:Nat,s.2=((20*t:Nat):Int)∧20*t≤n∧n<20*t+20∧ ∀j,j<t→vB lt (j*20) ((j+1)*20) s.1) from ?_).mono ?_)
 ·refine jF (fun s:Int×List α×Int=>xO key 0 n xs s.2.1∧ ∃t:Nat,s.1=((20*t+20:Nat):Int)∧s.2.2=((20*t:Nat):Int)∧20*t≤n∧ ∀j,j<t→vB lt (j*20) ((j+1)*20) s.2.1) (fun s=>((n:Int)+20-s.1).toNat)
   ⟨xO.refl _ _ _,0,rfl,rfl,aI _,fun j hj=>by omega⟩ ?_
  rintro ⟨sb,zs,sa⟩ ⟨hst,t,hsb,hsa,htn,hbl⟩
  simp only at hsb hsa hst hbl
  subst hsb hsa
  have hzl:=hst.len
  refine zJ (fun h=> ?_) (fun h=>zA (e2r ⟨hst,t,rfl,htn,?_,hbl⟩))
  ·have h:((20*t+20:Nat):Int)≤(n:Int):=h
   refine zD (fun _=> ?_) (fun h=>absurd h (by rw [bh];decide))
   refine zC ((zDC hk hcmp zs (20*t) (20*t+20) (by omega) (by omega) (by omega)).mono (fun y hy=>zA (e2l ⟨⟨hst.trans (hy.1.mono (by omega) (by omega)),t+1,?_,?_,by omega,?_⟩,?_⟩)))
   ·simp only;rw [zH (by omega) (by omega)];omega
   ·simp only;omega
   ·intro j hj
    by_cases e:j=t
    ·subst e
     rw [show j*20=20*j by omega,show (j+1)*20=20*j+20 by omega]
     exact hy.2
    ·exact (hbl j (by omega)).out hy.1 (.inl (by omega))
   ·simp only;rw [zH (by omega) (by omega)];omega
  ·have h: ¬((20*t+20:Nat):Int)≤(n:Int):=h
   omega
 rintro ⟨zs,sa⟩ ⟨hst,t,hsa,htn,htn2,hbl⟩
 simp only at hsa hst hbl
 subst hsa
 have hzl:=hst.len
 refine zD (fun _=> ?_) (fun h=>absurd h (by rw [bh];decide))
 refine zC ((zDC hk hcmp zs (20*t) n htn (by omega) (by omega)).mono (fun y hy=> ?_))
 have hB:zTV lt 20 n y.1:=by
  intro j
  by_cases e:j<t
  ·rw [co (by omega)]
   exact (hbl j e).out hy.1 (.inl (by omega))
  ·by_cases e2:j=t
   ·subst e2
    refine hy.2.sub (by omega) (Nat.min_le_right _ _)
   ·intro p q x y' h1 h2 h3
    omega
 have hst2:xO key 0 n xs y.1:=hst.trans (hy.1.mono (by omega) (aK _))
 refine jF (fun s:Int×List α=>xO key 0 n xs s.2∧ ∃bs:Nat,s.1=(bs:Int)∧20≤bs∧bs≤2097152∧zTV lt bs n s.2) (fun s=>((n:Int) -s.1).toNat) ⟨hst2,20,rfl,aK _,by omega,hB⟩ ?_
 rintro ⟨sbs,ws⟩ ⟨hw,bs,hbs,hbs1,hbs2,hbl2⟩
 simp only at hbs hw hbl2
 subst hbs
 have hwl:=hw.len
 refine zJ (fun h=> ?_) (fun h=> ?_)
 ·have h:(bs:Int)< (n:Int):=h
  dsimp only
  rw [zH (x:=(2:Int)*(bs:Int)) (by omega) (by omega)]
  refine zC ((show Wp _ (fun s:Int×List α=>xO key 0 n ws s.2∧ ∃t:Nat,s.1=((t*(2*bs):Nat):Int)∧t*(2*bs)≤n∧n< (t+1)*(2*bs)∧(∀j,j<t→vB lt (j*(2*bs)) ((j+1)*(2*bs)) s.2)∧ ∀j,2*t≤j→vB lt (j*bs) (min ((j+1)*bs) n) s.2) from ?_).mono ?_)
  ·refine jF (fun s:Int×List α×Int=>xO key 0 n ws s.2.1∧ ∃t:Nat,s.1=(((t+1)*(2*bs):Nat):Int)∧s.2.2=((t*(2*bs):Nat):Int)∧t*(2*bs)≤n∧(∀j,j<t→vB lt (j*(2*bs)) ((j+1)*(2*bs)) s.2.1)∧ ∀j,2*t≤j→vB lt (j*bs) (min ((j+1)*bs) n) s.2.1) (fun s=>((n:Int)+2*(bs:Int) -s.1).toNat)
    ⟨xO.refl _ _ _,0,by simp only;omega,by simp,by omega,fun j hj=>by omega,fun j _=>hbl2 j⟩ ?_
   rintro ⟨sb,vs,sa⟩ ⟨hv,t,hsb,hsa,htn',hb1,hb2⟩
   simp only at hsb hsa hv hb1 hb2
   subst hsb hsa
   have hvl:vs.length=n:=by rw [hv.len,hwl,hn]
   have eT:(t+1)*(2*bs)=t*(2*bs)+2*bs:=bn _ _
   have eA:2*t*bs=t*(2*bs):=by rw [b6 2 t,Nat.mul_assoc]
   have eB:(2*t+1)*bs=t*(2*bs)+bs:=by rw [bn,eA]
   have eC:(2*t+2)*bs=t*(2*bs)+2*bs:=by rw [show 2*t+2=(2*t+1)+1 from rfl,bn,eB];omega
   generalize hA:t*(2*bs)=A at*
   refine zJ (fun h2=> ?_) (fun h2=>zA (e2r ⟨hv,t,by rw [hA],by rw [hA];exact htn',?_,hb1,hb2⟩))
   ·have h2:(((t+1)*(2*bs):Nat):Int)≤(n:Int):=h2
    rw [eT] at h2 ⊢
    refine zD (fun _=> ?_) (fun h=>absurd h (by rw [bh];decide))
    dsimp only
    rw [zH (x:=(A:Int)+(bs:Int)) (by omega) (by omega),show ((A:Int)+(bs:Int))=((A+bs:Nat):Int) by omega]
    have s1:=hb2 (2*t) (aK _)
    have s2:=hb2 (2*t+1) (by omega)
    rw [show 2*t+1+1=2*t+2 from rfl,eC,eB,co (by omega)] at s2
    rw [eB,eA,co (by omega)] at s1
    unfold zFz
    refine zC ((zFA hk hcmp 1048576 vs A (A+bs) (A+2*bs) (by omega) (by omega) (by omega) (by omega) (by omega) s1 s2).mono (fun y hy=>zA (e2l ⟨⟨hv.trans (hy.1.mono (by omega) (by omega)),t+1,?_,?_,?_,?_,?_⟩,?_⟩)))
    ·simp only
     rw [zH (by omega) (by omega),show (t+1+1)*(2*bs)=A+2*bs+2*bs by rw [bn,eT]]
     omega
    ·simp only;rw [eT]
    ·rw [eT];omega
    ·intro j hj
     by_cases e:j=t
     ·subst e
      rw [hA,eT]
      exact hy.2
     ·refine (hb1 j (by omega)).out hy.1 (.inl ?_)
      have:(j+1)*(2*bs)≤t*(2*bs):=ax _ (by omega)
      omega
    ·intro j hj
     refine (hb2 j (by omega)).out hy.1 (.inr ?_)
     have:(2*t+2)*bs≤j*bs:=ax _ (by omega)
     omega
    ·simp only
     rw [zH (by omega) (by omega)]
     omega
   ·have h2: ¬(((t+1)*(2*bs):Nat):Int)≤(n:Int):=h2
    omega
  rintro ⟨sa,vs⟩ ⟨hv,t,hsa,ht1,ht2,hb1,hb2⟩
  simp only at hsa hv hb1 hb2
  subst hsa
  have hvl:vs.length=n:=by rw [hv.len,hwl,hn]
  have eT:(t+1)*(2*bs)=t*(2*bs)+2*bs:=bn _ _
  have eA:2*t*bs=t*(2*bs):=by rw [b6 2 t,Nat.mul_assoc]
  have eB:(2*t+1)*bs=t*(2*bs)+bs:=by rw [bn,eA]
  have eC:(2*t+2)*bs=t*(2*bs)+2*bs:=by rw [show 2*t+2=(2*t+1)+1 from rfl,bn,eB];omega
  have s1:=hb2 (2*t) (aK _)
  have s2:=hb2 (2*t+1) (by omega)
  rw [show 2*t+1+1=2*t+2 from rfl,eC,eB,cA (by omega)] at s2
  rw [eB,eA] at s1
  have hbelow: ∀j,j<t→(j+1)*(2*bs)≤t*(2*bs):=fun j hj=>ax _ (by omega)
  have habove: ∀j,t<j→t*(2*bs)+2*bs≤j*(2*bs):=fun j hj=>by rw [←eT];exact ax _ (by omega)
  generalize hA:t*(2*bs)=A at*
  have fin: ∀us,xO key A n vs us→vB lt A n us→xO key 0 n xs us∧zTV lt (bs*2) n us:=by
   intro us hu1 hu2
   refine ⟨(hw.trans hv).trans (hu1.mono (by omega) (aK _)),?_⟩
   intro j
   rw [show bs*2=2*bs by omega]
   by_cases e:j<t
   ·have:=hbelow j e
    rw [co (by omega)]
    exact (hb1 j e).out hu1 (.inl this)
   ·by_cases e2:j=t
    ·subst e2
     rw [hA,eT,cA (by omega)]
     exact hu2
    ·have:=habove j (by omega)
     intro p q x y' h1 h2 h3
     omega
  dsimp only
  rw [zH (x:=(A:Int)+(bs:Int)) (by omega) (by omega),show ((A:Int)+(bs:Int))=((A+bs:Nat):Int) by omega]
  refine zC ((show Wp _ (fun us:List α=>xO key 0 n xs us∧zTV lt (bs*2) n us) from ?_).mono (fun us hus=>zA (e2l ⟨⟨hus.1,bs*2,?_,by omega,by omega,hus.2⟩,?_⟩)))
  ·refine zJ (fun h2=> ?_) (fun h2=>zA (fin vs (xO.refl _ _ _) ?_))
   ·have h2:((A+bs:Nat):Int)< (n:Int):=h2
    rw [co (by omega)] at s1
    refine zD (fun _=> ?_) (fun h=>absurd h (by rw [bh];decide))
    unfold zFz
    exact zC ((zFA hk hcmp 1048576 vs A (A+bs) n (by omega) (by omega) (by omega) (by omega) (by omega) s1 s2).mono (fun y hy=>zA (fin _ hy.1 hy.2)))
   ·have h2: ¬((A+bs:Nat):Int)< (n:Int):=h2
    rw [cA (by omega)] at s1
    exact s1
  ·simp only;rw [zH (by omega) (by omega)];omega
  ·simp only;rw [zH (by omega) (by omega)];omega
 ·have h: ¬(bs:Int)< (n:Int):=h
  refine zAV (zD (fun _=>zA (e2r ⟨hw,?_⟩)) (fun h=>absurd h (by simp only;rw [hwl,hn,bh];decide)))
  have:=hbl2 0
  rw [Nat.zero_mul,bK,Nat.one_mul,cA (by omega)] at this
  exact this
theorem zMM (hk:zOb lt key) (hcmp: ∀x y,Wp (cmp (x,y,())) (fun c=>c<0↔lt x y)) (xs:List α) (hl:xs.length≤1048576):
  Wp (zEV cmp xs ((),())) (fun r=>r.1.length=xs.length∧zHh key xs r.1∧r.1.Pairwise (fun x y=> ¬lt y x)):=by
 unfold zEV
 dsimp only
 refine zD (fun _=> ?_) (fun h=>absurd h (by rw [bh];decide))
 refine zC ((zSQ hk hcmp xs hl).mono (fun y hy=> ?_))
 refine zD (fun _=>zA ⟨hy.1.len,hy.1.same,?_⟩) (fun h=>absurd h (by rw [zGU hy.1.len];decide))
 rw [br]
 intro p q hp hq hpq
 have:=hy.1.len
 have hq:q<y.1.length:=hq
 exact hy.2 p q _ _ (aI _) hpq (by omega) (by simp) (by simp)
end
end Go.Ve

namespace Go.Ve
open Go
set_option maxRecDepth 1000000
set_option maxHeartbeats 4000000
theorem zIy: ∀ (more acc:List (Ty.El qB)),acc.Pairwise hlt→(more.foldl yD acc).Pairwise hlt∧ ∀h,h∈more.foldl yD acc↔h∈acc∨h∈more
 |[],acc,hp=>⟨hp,fun h=>by simp⟩
 |x::more,acc,hp=>by
  have heq: ∀a b:Ty.El qB,zOL a b=true↔a=b:=fun a b=>⟨fun h=>zGq h,fun h=>by subst h;simp [zOL]⟩
  have h1:(yD acc x).Pairwise hlt:=zIe zL6 (fun _ _=>zU2) heq (fun a b h1 h2=>qAa h1 (fun e=>h2 e.symm)) hp
  obtain ⟨h2,h3⟩:=zIy more (yD acc x) h1
  refine ⟨h2,fun h=> ?_⟩
  rw [bS,h3 h,show (h∈yD acc x↔h∈acc∨h=x) from zL2 heq,aB,or_assoc]
theorem zL4 {p:Ty.El zG} {b:Ty.El zB} : ∀ (l:List (Ty.El zB)) (acc:List (Ty.El qB)),acc.Pairwise hlt→
  (l.foldl (j5 p b) acc).Pairwise hlt∧ ∀h,h∈l.foldl (j5 p b) acc↔h∈acc∨ ∃x,x∈l∧x.1=p∧xU x b=0∧h∈x.2.2.2.2.2.2.2.2.2.2.2.1
 |[],acc,hp=>⟨hp,fun h=>by simp⟩
 |x::l,acc,hp=>by
  cases hc:jI x.1 p&&(xU x b==0) with
  |true=>
   have hs:j5 p b acc x=x.2.2.2.2.2.2.2.2.2.2.2.1.foldl yD acc:=by unfold j5;rw [hc];rfl
   have hc2:x.1=p∧xU x b=0:=by
    rw [aj] at hc
    exact ⟨zDc.1 hc.1,by simpa using hc.2⟩
   obtain ⟨h1,h2⟩:=zIy x.2.2.2.2.2.2.2.2.2.2.2.1 acc hp
   rw [←hs] at h1 h2
   obtain ⟨h3,h4⟩:=zL4 l (j5 p b acc x) h1
   refine ⟨h3,fun h=> ?_⟩
   rw [bS,h4 h,h2 h]
   constructor
   ·rintro ((h|h)|⟨y,hy,g⟩)
    ·exact .inl h
    ·exact .inr ⟨x,by simp,hc2.1,hc2.2,h⟩
    ·exact .inr ⟨y,aw _ hy,g⟩
   ·rintro (h|⟨y,hy,g⟩)
    ·exact .inl (.inl h)
    ·rcases aB.1 hy with rfl|hy
     ·exact .inl (.inr g.2.2)
     ·exact .inr ⟨y,hy,g⟩
  |false=>
   have hs:j5 p b acc x=acc:=by unfold j5;rw [hc];rfl
   have hc2: ¬(x.1=p∧xU x b=0):=by
    rintro ⟨h1,h2⟩
    rw [zDc.2 h1,h2] at hc
    cases hc
   obtain ⟨h3,h4⟩:=zL4 l acc hp
   rw [bS,hs]
   refine ⟨h3,fun h=> ?_⟩
   rw [h4 h]
   constructor
   ·rintro (h|⟨y,hy,g⟩)
    ·exact .inl h
    ·exact .inr ⟨y,aw _ hy,g⟩
   ·rintro (h|⟨y,hy,g⟩)
    ·exact .inl h
    ·rcases aB.1 hy with rfl|hy
     ·exact absurd ⟨g.1,g.2.1⟩ hc2
     ·exact .inr ⟨y,hy,g⟩
theorem zBe (l:List (Ty.El zB)) (p:Ty.El zG) (b:Ty.El zB):(zBt l p b).Pairwise hlt:=(zL4 l [] List.Pairwise.nil).1
theorem zEu (l:List (Ty.El zB)) (p:Ty.El zG) (b:Ty.El zB) (h:Ty.El qB):h∈zBt l p b↔ ∃x,x∈l∧x.1=p∧xU x b=0∧h∈x.2.2.2.2.2.2.2.2.2.2.2.1:=by
 have:=(zL4 (p:=p) (b:=b) l [] List.Pairwise.nil).2 h
 rw [show zBt l p b=l.foldl (j5 p b) [] from rfl,this]
 simp
noncomputable def zAS (p:Ty.El zG) (l:List (Ty.El zB)):List (Ty.El zB):=zNf (fun x:Ty.El zB=>x.1) p l
theorem zWr (p:Ty.El zG) (x:Ty.El zB) (l:List (Ty.El zB)):zAS p (x::l)=if x.1=p then x::zAS p l else zAS p l:=by
 unfold zAS zNf
 rw [List.filter_cons]
 by_cases h:x.1=p
 ·simp [h]
 ·simp [h]
theorem zD2 {p:Ty.El zG} {x:Ty.El zB} {l:List (Ty.El zB)} :x∈zAS p l↔x∈l∧x.1=p:=by
 unfold zAS zNf
 rw [aV]
 simp
def zMx (c:Option (Ty.El zB)) (l:List (Ty.El zB)):Option (Ty.El zB):=l.foldl (fun c x=>bif zTP x c then some x else c) c
theorem zEG {p:Ty.El zG} : ∀ (l:List (Ty.El zB)) (c:Option (Ty.El zB)),l.foldl (zCG p) c=zMx c (zAS p l)
 |[],c=>rfl
 |x::l,c=>by
  rw [bS,zWr]
  by_cases h:x.1=p
  ·rw [if_pos h]
   have hb:zCG p c x=bif zTP x c then some x else c:=by unfold zCG;rw [zDc.2 h];rfl
   rw [hb,zEG l]
   rfl
  ·rw [if_neg h]
   have hp:jI x.1 p=false:=by
    rw [Bool.eq_false_iff]
    exact fun hh=>h (zDc.1 hh)
   have hb:zCG p c x=c:=by unfold zCG;rw [hp];rfl
   rw [hb,zEG l]
theorem zEH (l:List (Ty.El zB)) (p:Ty.El zG):zCW l p=zMx none (zAS p l):=zEG l none
theorem zUS {l l':List (Ty.El zB)} (h:zHh (fun x:Ty.El zB=>x.1) l l'):yV l=yV l':=by
 have hm: ∀x,x∈l↔x∈l':=by
  intro x
  have h1:= @zD2 x.1 x l
  have h2:= @zD2 x.1 x l'
  have h3:zAS x.1 l=zAS x.1 l':=h x.1
  rw [h3] at h1
  constructor
  ·intro hx;exact (h2.1 (h1.2 ⟨hx,rfl⟩)).1
  ·intro hx;exact (h1.1 (h2.2 ⟨hx,rfl⟩)).1
 have hP:zLC l=zLC l':=zDZ zIP (zH0 l) (zH0 l') (fun p=>by
  rw [zH1,zH1]
  exact ⟨fun ⟨x,hx,e⟩=>⟨x,(hm x).1 hx,e⟩,fun ⟨x,hx,e⟩=>⟨x,(hm x).2 hx,e⟩⟩)
 unfold yV
 rw [hP]
 congr 1
 funext p
 unfold mrg
 have hb:zCW l p=zCW l' p:=by
  rw [zEH,zEH]
  exact congrArg (zMx none) (h p)
 rw [hb]
 cases zCW l' p with
 |none=>rfl
 |some b=>
  have hh:zBt l p b=zBt l' p b:=zDZ zL6 (zBe _ _ _) (zBe _ _ _) (fun h'=>by
   rw [zEu,zEu]
   exact ⟨fun ⟨x,hx,e⟩=>⟨x,(hm x).1 hx,e⟩,fun ⟨x,hx,e⟩=>⟨x,(hm x).2 hx,e⟩⟩)
  rw [aU,aU,hh]
end Go.Ve

namespace Go.Ve
open Go
def vR {α:Type} (eq:α→α→Bool):List α→List α
 |[]=>[]
 |[x]=>[x]
 |x::y::r=>bif eq x y then vR eq (y::r) else x::vR eq (y::r)
theorem zDX {α:Type} {eq:α→α→Bool} (he: ∀x y,eq x y=true↔x=y) (z:α): ∀ (l:List α),z∈vR eq l↔z∈l
 |[]=>cC
 |[x]=>cC
 |x::y::r=>by
  simp only [vR]
  cases h:eq x y with
  |true=>
   rw [cond_true,zDX he z (y::r),(he x y).1 h]
   simp
  |false=>
   rw [cond_false,aB,zDX he z (y::r),aB (a:=z) (b:=x)]
theorem zHg {α:Type} {eq:α→α→Bool} {R:α→α→Prop} (he: ∀x y,eq x y=true↔x=y) (ho:Ord R) (htot: ∀x y, ¬R y x→x≠y→R x y): ∀ (l:List α),l.Pairwise (fun x y=> ¬R y x)→(vR eq l).Pairwise R
 |[],_=>List.Pairwise.nil
 |[x],_=>cP _ _
 |x::y::r,hp=>by
  have hp2:=hp
  rw [bB] at hp
  have ih:=zHg he ho htot (y::r) hp.2
  simp only [vR]
  cases h:eq x y with
  |true=>exact ih
  |false=>
   rw [cond_false,bB]
   refine ⟨fun z hz=> ?_,ih⟩
   have hne:x≠y:=fun e=>by rw [(he x y).2 e] at h;cases h
   have hxy:R x y:=htot x y (hp.1 y (by simp)) hne
   have hz2:=(zDX he z (y::r)).1 hz
   rcases aB.1 hz2 with rfl|hz3
   ·exact hxy
   ·have hyz: ¬R z y:=by
     have:=hp.2
     rw [bB] at this
     exact this.1 z hz3
    exact bP (fun hn=>ho.tr y z x hyz hn hxy)
theorem zQl (a b:Ty.El qB):zOL a b=true↔a=b:=⟨fun h=>zGq h,fun h=>by subst h;simp [zOL]⟩
theorem zTo {l:List (Ty.El zB)} {p:Ty.El zG} {b:Ty.El zB} {hs:List (Ty.El qB)} (hp:hs.Pairwise (fun x y=> ¬hlt y x)) (hm: ∀h,h∈hs↔ ∃x,x∈l∧x.1=p∧xU x b=0∧h∈x.2.2.2.2.2.2.2.2.2.2.2.1):
  vR zOL hs=zBt l p b:=
 zDZ zL6 (zHg zQl zL6 (fun _ _ h1 h2=>qAa h1 h2) hs hp) (zBe l p b) (fun h=>by rw [zDX zQl,hm,zEu])
end Go.Ve

namespace Go.Ve
open Go
theorem zN1 {α:Type} {p:α→Bool} {xs:List α} {i:Nat} {x:α} (h:xs[i]? =some x):(xs.take (i+1)).filter p=(xs.take i).filter p++(if p x then [x] else []):=by
 obtain ⟨hi,he⟩:=ac.1 h
 rw [b9,h,dR]
 simp only [cQ,List.filter_cons,List.filter_nil]
theorem zG7 {α:Type} {p:α→Bool} {xs:List α} (i:Nat):((xs.take i).filter p).length≤xs.length:=
 ay (dA _ _) (bl _ _)
def zAu (v:Ty.El zN) (r i:Int):List (Ty.El zO):=match v.2.1.1[(uT v r i).toNat]? with
 |some d=>d.2.2.1
 |none=>[]
def zHx (v:Ty.El zN) (r i:Int) (p:Ty.El zO→Bool):List (Ty.El zO):=bif upB v r i then (zAu v r i).filter p else []
theorem zMt {v:Ty.El zN} {r i:Int} (h:upB v r i=true): ∃d,v.2.1.1[(uT v r i).toNat]? =some d∧0≤uT v r i∧zAu v r i=d.2.2.1:=by
 unfold upB at h
 simp only [aj,decide_eq_true_eq] at h
 obtain ⟨d,hd,_⟩:=zFa (p:=fun d:Ty.El uZ=>d.2.2.1.any (zHy (r,i,()))) (xs:=v.2.1.1) h.1
 refine ⟨d,hd,h.1,?_⟩
 unfold zAu
 have hd':v.2.1.1[(uT v r i).toNat]? =some d:=hd
 rw [hd']
theorem zQF {v:Ty.El zN} (hv:xY v) (r i:Int):(zAu v r i).length≤360:=by
 unfold zAu
 split
 ·rename_i d hd
  exact hv.ends d (af hd)
 ·exact aI _
theorem zHQ (v:Ty.El zN) (r i:Int) (hv:xY v):Wp (zBj (v,r,i,())) (fun l=>l=zHx v r i (fun e=>e.1 !=r)):=by
 unfold zBj zHx
 dsimp only
 refine zC ((zFi v r i hv).mono (fun b hb=> ?_))
 subst hb
 refine zD (fun h=>zA ?_) (fun h=> ?_)
 ·have h:upB v r i=false:=by simpa using h
  rw [h];rfl
 ·have h:upB v r i=true:=by simpa using h
  rw [h]
  obtain ⟨d,hd,h0,he⟩:=zMt h
  have hl:d.2.2.1.length≤360:=by rw [←he];exact zQF hv r i
  refine zC ((zBT v r i hv).mono (fun k hk=> ?_))
  subst hk
  simp only [jW hd h0,ae]
  refine zC (qZ (xs:=d.2.2.1) (by omega) (fun j (g:List (Ty.El zO))=>g=(d.2.2.1.take j).filter (fun e=>e.1 !=r)) (by simp) ?_ (fun g hg=>zA ?_))
  ·intro j x g hx hg
   have hgl:g.length≤360:=by rw [hg];exact ay (zG7 j) hl
   simp only [zI hx,ae]
   rw [zN1 hx, ←hg]
   refine zD (fun h=>zC (qU (by simp only [aC];omega) (zA ?_))) (fun h=>zA ?_)
   ·rw [if_pos h]
   ·rw [if_neg (by rw [h];decide),ba]
  ·rw [hg,aN,he];rfl
theorem zI7 (v:Ty.El zN) (r i:Int) (hv:xY v):Wp (zBO (v,r,i,())) (fun l=>l=zHx v r i (fun e=>e.1 !=r||e.2.1 !=i)):=by
 unfold zBO zHx
 dsimp only
 refine zC ((zGf v r i hv).mono (fun b hb=> ?_))
 subst hb
 refine zD (fun h=>zA ?_) (fun h=> ?_)
 ·have h:upB v r i=false:=by simpa using h
  rw [h];rfl
 ·have h:upB v r i=true:=by simpa using h
  rw [h]
  obtain ⟨d,hd,h0,he⟩:=zMt h
  have hl:d.2.2.1.length≤360:=by rw [←he];exact zQF hv r i
  refine zC (zC ((zCJ v r i hv).mono (fun k hk=> ?_)))
  subst hk
  simp only [jW hd h0,ae]
  refine qZ (xs:=d.2.2.1) (by omega) (fun j (g:List (Ty.El zO))=>g=(d.2.2.1.take j).filter (fun e=>e.1 !=r||e.2.1 !=i)) (by simp) ?_ (fun g hg=>zA ?_)
  ·intro j x g hx hg
   have hgl:g.length≤360:=by rw [hg];exact ay (zG7 j) hl
   simp only [zI hx,ae]
   rw [zN1 hx, ←hg]
   refine zC ((show Wp _ (fun s:Bool×List (Ty.El zO)=>s.1=(x.1 !=r||x.2.1 !=i)∧s.2=g) from ?_).mono (fun s hs=> ?_))
   ·refine zD (fun h=>zA ⟨?_,rfl⟩) (fun h=>zA ⟨?_,rfl⟩)
    ·rw [h];rfl
    ·rw [h];rfl
   ·obtain ⟨s1,s2⟩:=s
    obtain ⟨h1,h2⟩:=hs
    simp only at h1 h2
    subst h2
    refine zD (fun h=>zC (qU (by simp only [aC];omega) (zA ?_))) (fun h=>zA ?_)
    ·have h:s1=true:=h
     rw [←h1,if_pos h]
    ·have h:s1=false:=h
     rw [←h1,if_neg (by rw [h];decide),ba]
  ·rw [hg,aN,he];rfl
end Go.Ve

namespace Go.Ve
open Go
theorem qAE {n:Ty.El zX} {d:List Int} {v:Ty.El zN} (hv:zDz n d v) {r i:Int} (h:upB v r i=true): ∃dm:Ty.El uZ,zMF n dm.1 dm.2.1 (r,i,())∧(∀e,e∈zAu v r i→zMF n dm.1 dm.2.1 e):=by
 have h0:=h
 unfold upB at h0
 simp only [aj,decide_eq_true_eq] at h0
 obtain ⟨dm,h1,h2⟩:=zFa (p:=fun d:Ty.El uZ=>d.2.2.1.any (zHy (r,i,()))) (xs:=v.2.1.1) h0.1
 obtain ⟨e,he,h3⟩:=bt.1 h2
 have h4:=zVk.1 h3
 subst h4
 have hall:=(hv.topo.ends dm (af h1)).2
 refine ⟨dm,hall _ he,?_⟩
 intro e' he'
 obtain ⟨d',hd',_,hee⟩:=zMt h
 have h1':v.2.1.1[(uT v r i).toNat]? =some dm:=h1
 rw [hd'] at h1'
 cases h1'
 rw [hee] at he'
 exact hall e' he'
theorem zYI {n:Ty.El zX} {d:List Int} {v:Ty.El zN} (hv:zDz n d v) {r i:Int} (h:upB v r i=true) {e:Ty.El zO} (he:e∈zAu v r i) (hr:e.1=r):e.2.1=i:=by
 obtain ⟨dm,⟨a0,a1,rt,x,a2,a3,a4,_,a5,_⟩,hall⟩:=qAE hv h
 obtain ⟨b0,b1,rt',y,b2,b3,b4,_,b5,_⟩:=hall e he
 have a0:(0:Int)≤r:=a0
 have a1:(0:Int)≤i:=a1
 have a2:n.1[r.toNat]? =some rt:=a2
 have a3:rt.2.2.1[i.toNat]? =some x:=a3
 rw [hr,a2] at b2
 cases b2
 have hok:=(zTd hv).rt rt (af a2)
 have c1:some (zCS x.2.1 x.2.2.1)=some dm.1:=(kY x.2.1 x.2.2.1).symm.trans a5
 have c2:some (zCS y.2.1 y.2.2.1)=some dm.1:=(kY y.2.1 y.2.2.1).symm.trans b5
 have hn:zCS x.2.1 x.2.2.1=zCS y.2.1 y.2.2.1:=aJ (c1.trans c2.symm)
 have b1:(0:Int)≤e.2.1:=b1
 rcases cG i.toNat e.2.1.toNat with hlt|heq|hgt
 ·have:=(hok.ifs _ y b3).apart _ x hlt a3 b4 a4
  rw [hn,zUG] at this
  cases this
 ·exact (show ∀ (p q:Int),0≤p→0≤q→p.toNat=q.toNat→q=p from fun p q h1 h2 h3=>by omega) i e.2.1 a1 b1 heq
 ·have:=(hok.ifs _ x a3).apart _ y hgt b3 a4 b4
  rw [hn,zUG] at this
  cases this
theorem zZ0 {n:Ty.El zX} {d:List Int} {v:Ty.El zN} (hv:zDz n d v) (r i:Int):zHx v r i (fun e=>e.1 !=r||e.2.1 !=i)=zHx v r i (fun e=>e.1 !=r):=by
 unfold zHx
 cases h:upB v r i with
 |false=>rfl
 |true=>
  show (zAu v r i).filter _=(zAu v r i).filter _
  refine dp (fun e he=> ?_)
  cases hb:(e.1 !=r) with
  |true=>rfl
  |false=>
   have hr:e.1=r:=by simpa using hb
   have:=zYI hv h he hr
   simp [this]
end Go.Ve

namespace Go.Ve
open Go
def prB (x:Ty.El x6) (p:Ty.El zG):Bool:=(decide (x.2.1.2.1≤p.2.1)&&zBE x.2.1 p.1)&&(decide (x.2.2.1≤p.2.1)&&decide (p.2.1≤x.2.2.2.1))
theorem zFE (p q:Ty.El zG):zBG (p,q,())=some (decide (p.2.1≤q.2.1)&&zBE p q.1):=by
 unfold zBG
 dsimp only
 rw [show wR (p,q.1,())=some (zBE p q.1) from zEh p q.1]
 cases decide (p.2.1≤q.2.1)<;>rfl
theorem zJe (x:Ty.El x6) (p:Ty.El zG):zAo (x,p,())=some (prB x p):=by
 unfold zAo prB
 dsimp only
 rw [show zBG (x.2.1,p,())=some (decide (x.2.1.2.1≤p.2.1)&&zBE x.2.1 p.1) from zFE x.2.1 p]
 simp only [ae]
 cases (decide (x.2.1.2.1≤p.2.1)&&zBE x.2.1 p.1)<;>cases decide (x.2.2.1≤p.2.1)<;>rfl
theorem zFC (x:Ty.El x6) (p:Ty.El zG):kH (x,p,())=some (prB x p):=by
 unfold kH prB
 dsimp only
 rw [show wY (x.2.1,p,())=some (decide (x.2.1.2.1≤p.2.1)&&zBE x.2.1 p.1) from yH x.2.1 p]
 simp only [ae]
 cases (decide (x.2.1.2.1≤p.2.1)&&zBE x.2.1 p.1)<;>cases decide (x.2.2.1≤p.2.1)<;>rfl
theorem zLl (l:Ty.El j1) (p:Ty.El zG) (hl:l.2.1.length≤20):Wp (zDS (l,p,())) (fun k=>k=kQ (fun x=>prB x p) l.2.1):=by
 unfold zDS
 dsimp only
 refine kM (p:=fun x:Ty.El x6=>prB x p) (by omega) ?_ rfl
 intro i x hx
 simp only [zI hx,ae]
 rw [show zAo (x,p,())=some (prB x p) from zJe x p]
 cases prB x p<;>rfl
theorem zHm (l:Ty.El j1) (p:Ty.El zG) (hl:l.2.1.length≤20):Wp (zAE (l,p,())) (fun k=>k=kQ (fun x=>prB x p) l.2.1):=by
 unfold zAE
 dsimp only
 refine kM (p:=fun x:Ty.El x6=>prB x p) (by omega) ?_ rfl
 intro i x hx
 simp only [zI hx,ae]
 rw [show kH (x,p,())=some (prB x p) from zFC x p]
 cases prB x p<;>rfl
def zE3 (r:Ty.El zF) (nm:Ty.El .str):Int:=kQ (fun x:Ty.El j1=>x.1==nm) r.2.2.2.1
theorem zHo (r:Ty.El zF) (nm:Ty.El .str) (hr:SmR r):Wp (zAI (r,nm,())) (fun k=>k=zE3 r nm):=by
 unfold zAI w7 zA0
 dsimp only
 have:=hr.i2
 refine zC (kM (p:=fun x:Ty.El j1=>x.1==nm) (by omega) ?_ (zA rfl))
 intro i x hx
 simp only [zI hx,ae]
 cases x.1==nm<;>rfl
theorem zHP (r:Ty.El zF) (nm:Ty.El .str) (hr:SmR r):Wp (jX (r,nm,())) (fun k=>k=zE3 r nm):=by
 unfold jX
 dsimp only
 have:=hr.i2
 refine kM (p:=fun x:Ty.El j1=>x.1==nm) (by omega) ?_ rfl
 intro i x hx
 simp only [zI hx,ae]
 cases x.1==nm<;>rfl
def zSb (r:Ty.El zF) (nm:Ty.El .str) (p:Ty.El zG):Bool:=
 bif nm==({ data:= #[] } :ByteArray) then true else
 bif decide (zE3 r nm<0) then false else
 match r.2.2.2.1[(zE3 r nm).toNat]? with
 |some l=>bif decide (kQ (fun x=>prB x p) l.2.1≥0) then (match l.2.1[(kQ (fun x=>prB x p) l.2.1).toNat]? with
  |some z=>z.1
  |none=>false) else false
 |none=>false
theorem zJd (r:Ty.El zF) (nm:Ty.El .str) (p:Ty.El zG) (hr:SmR r):Wp (zB9 (r,nm,p,())) (fun b=>b=zSb r nm p):=by
 unfold zB9 zSb
 dsimp only
 refine zD (fun h=>zA (by rw [h];rfl)) (fun h=> ?_)
 rw [h]
 refine zC ((zHo r nm hr).mono (fun k hk=> ?_))
 subst hk
 refine zJ (fun h1=>zA ?_) (fun h1=> ?_)
 ·have h1:zE3 r nm<0:=h1
  simp [h1]
 ·have h1: ¬zE3 r nm<0:=h1
  obtain ⟨l,hl,_⟩:=zFa (p:=fun x:Ty.El j1=>x.1==nm) (xs:=r.2.2.2.1) (show 0≤zE3 r nm by omega)
  have hl:r.2.2.2.1[(zE3 r nm).toNat]? =some l:=hl
  simp only [jW hl (show 0≤zE3 r nm by omega),ae]
  refine zC ((zLl l p (hr.n1 l (af hl))).mono (fun k hk=> ?_))
  subst hk
  rw [hl]
  simp only [decide_eq_false h1,cond_false]
  refine zC (zJ (fun h2=> ?_) (fun h2=>zA (zA ?_)))
  ·have h2:kQ (fun x=>prB x p) l.2.1≥0:=h2
   obtain ⟨z,hz,_⟩:=zFa h2
   simp only [jW hz h2,ae]
   refine zA (zA ?_)
   simp only [hz,decide_eq_true h2,cond_true]
  ·have h2: ¬kQ (fun x=>prB x p) l.2.1≥0:=h2
   simp only [decide_eq_false h2,cond_false]
theorem zFB (r:Ty.El zF) (nm:Ty.El .str) (p:Ty.El zG) (hr:SmR r):Wp (xJ (r,nm,p,())) (fun b=>b=zSb r nm p):=by
 unfold xJ zSb
 dsimp only
 refine zD (fun h=>zA (by rw [h];rfl)) (fun h=> ?_)
 rw [h]
 refine zC ((zHP r nm hr).mono (fun k hk=> ?_))
 subst hk
 refine zJ (fun h1=>zA ?_) (fun h1=> ?_)
 ·have h1:zE3 r nm<0:=h1
  simp [h1]
 ·have h1: ¬zE3 r nm<0:=h1
  obtain ⟨l,hl,_⟩:=zFa (p:=fun x:Ty.El j1=>x.1==nm) (xs:=r.2.2.2.1) (show 0≤zE3 r nm by omega)
  have hl:r.2.2.2.1[(zE3 r nm).toNat]? =some l:=hl
  simp only [jW hl (show 0≤zE3 r nm by omega),ae]
  refine zC ((zHm l p (hr.n1 l (af hl))).mono (fun k hk=> ?_))
  subst hk
  rw [hl]
  simp only [decide_eq_false h1,cond_false]
  refine zC (zJ (fun h2=> ?_) (fun h2=>zA (zA ?_)))
  ·have h2:kQ (fun x=>prB x p) l.2.1≥0:=h2
   obtain ⟨z,hz,_⟩:=zFa h2
   simp only [jW hz h2,ae]
   refine zA (zA ?_)
   simp only [hz,decide_eq_true h2,cond_true]
  ·have h2: ¬kQ (fun x=>prB x p) l.2.1≥0:=h2
   simp only [decide_eq_false h2,cond_false]
end Go.Ve



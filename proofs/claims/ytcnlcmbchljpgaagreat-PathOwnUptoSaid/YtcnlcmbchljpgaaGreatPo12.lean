/-
  Plain laws: what the checks of a network say.
  Plain laws: prefixes in order; the sorting of routes; connected routes.
  Plain laws: preference of routes; insertion into ordered lists; the prefixes of routes; hops added.
  Plain laws: static routes that are active.
  Plain laws: the prefixes of routes; hops added; routes merged.
  Plain laws: routes merged.
  Plain laws: connected routes: sorted, and valid; static routes are valid.
  Plain laws: merging where prefixes differ; the reference's connected and active routes.
  Plain laws: ranges swapped and rotated, stated place by place.
  Functions out of code: sorting, for any elements and any comparison.
  Plain laws: ranges swapped and rotated: the walks.
  Plain laws: stable merging in place: what the steps keep.
  Plain laws: stable merging in place: the walk.
  Plain laws: stable sorting, for any elements and any comparison that goes by a key.
  Plain laws: merging by prefix, as the program does it: what merging depends on.
  Plain laws: a sorted list without its repetitions.
  Plain laws of distance-vector routing: the neighbors of an interface.
  Plain laws of distance-vector routing: a router has one interface in a domain.
-/
import Derived.Test.YtcnlcmbchljpgaaGreatPo11
import Derived.Test.YtcnlcmbchljpgaaGreatPo9
import Derived.Test.YtcnlcmbchljpgaaGreatPo10
set_option linter.unusedVariables false
namespace Go.Ve
open Go
set_option maxRecDepth 1000000
set_option maxHeartbeats 4000000
def zYF (r:Ty.El zF) (a:Int):Int:=xE (fun x:Ty.El qG=>x.2.2.1 !=0&&x.2.1==a) r.2.2.1
theorem zJO (r:Ty.El zF) (a:Int) (hr:SmR r):Wp (xD (r,a,())) (fun k=>k=zYF r a):=by
 unfold xD
 dsimp only
 have:=hr.i1
 refine zAs (p:=fun x:Ty.El qG=>x.2.2.1 !=0&&x.2.1==a) (by omega) ?_ rfl
 intro i x hx
 simp only [zJ hx,Option.bind_some]
 cases x.2.2.1 !=0<;>cases x.2.1==a<;>rfl
structure zWQ (r:Ty.El zF):Prop where
 asn:0≤r.2.1∧r.2.1≤65535
 ifs:zZ7 r.2.2.1
 sts:zZ4 r
 lists:yD (r.2.2.2.1,())=some 0
 maps:kI (r,())=some 0
 acls:yF (r.2.2.2.2.2.1,())=some 0
 nat:kZ (r,())=some 0
 filters:zBI (r,())=some 0
 ls:zAd (r,())=some 0
 dv:zAV (r,())=some 0
 pv:j9 (r,())=some 0
 ifl:r.2.2.1.length≤8
theorem zM0 (r:Ty.El zF) (hr:SmR r):Wp (kC (r,())) (fun e=>e=0→zWQ r):=by
 have hr0:=hr
 obtain ⟨i1,i2,i3,i4,i5,i6,i7,i8,i9,i10,i11,i12,i13,i14,n1,n2,n3⟩:=hr0
 unfold kC
 dsimp only
 refine zC ((v6 _).mono (fun b _=> ?_))
 refine zD (fun _=>zA (fun h=>by cases h)) (fun _=> ?_)
 refine zC (z7 (zY _ _ _) (zD (fun _=>zA (fun h=>by cases h)) (fun has=> ?_)))
 have has:0≤r.2.1∧r.2.1≤65535:=by simpa using has
 refine zC ((zOO _ i1).mono (fun y12 h12=> ?_))
 refine zAa ((zCD _ i2 n1).mono (fun _ _=>trivial)) (fun y13 h13=> ?_)
 refine zAa ((zDu _ hr).mono (fun _ _=>trivial)) (fun y14 h14=> ?_)
 refine zAa ((zCE _ i4 n3).mono (fun _ _=>trivial)) (fun y15 h15=> ?_)
 refine zAa ((zB6 _ hr).mono (fun _ _=>trivial)) (fun y16 h16=> ?_)
 refine zAa ((zEE _ hr).mono (fun _ _=>trivial)) (fun y17 h17=> ?_)
 refine zC ((zTb _ hr).mono (fun y18 h18=> ?_))
 refine zAa ((zDv _ hr).mono (fun _ _=>trivial)) (fun y19 h19=> ?_)
 refine zAa ((zD3 _ hr).mono (fun _ _=>trivial)) (fun y20 h20=> ?_)
 refine zAa ((zC2 _ hr).mono (fun _ _=>trivial)) (fun y21 h21=> ?_)
 refine zAb (P:=fun x:Int=>x=0) (xs:=[y12,y13,y14,y15,y16,y17,y18,y19,y20,y21]) (by simp) ?_ (fun hall=>zA (fun _=> ?_))
 ·intro i x hx
  simp only [zJ hx,Option.bind_some]
  refine zD (fun hne=>zA (fun h=> ?_)) (fun h=>zA (e2l ⟨rfl,by simpa using h⟩))
  have h:x=0:=h
  rw [h] at hne
  cases hne
 ·have e12:=hall y12 (by simp)
  have e13:=hall y13 (by simp)
  have e14:=hall y14 (by simp)
  have e15:=hall y15 (by simp)
  have e16:=hall y16 (by simp)
  have e17:=hall y17 (by simp)
  have e18:=hall y18 (by simp)
  have e19:=hall y19 (by simp)
  have e20:=hall y20 (by simp)
  have e21:=hall y21 (by simp)
  exact ⟨has,(h12 e12).1,h18 e18,e13▸h13,e14▸h14,e15▸h15,e16▸h16,e17▸h17,e19▸h19,e20▸h20,e21▸h21,(h12 e12).2⟩
structure zZ6 (n:Ty.El zQ):Prop where
 len:n.1.length≤8
 rt: ∀r,r∈n.1→zWQ r
 name: ∀ (i j:Nat) r q,j<i→n.1[i]? =some r→n.1[j]? =some q→q.1≠r.1
 addr: ∀ (i j:Nat) r q,i≠j→n.1[i]? =some r→n.1[j]? =some q→ ∀x y,x∈r.2.2.1→y∈q.2.2.1→x.2.2.1≠0→y.2.2.1≠0→x.2.1≠y.2.1
theorem zWF (n:Ty.El zQ) (hs: ∀y,y∈n.1→SmR y):Wp (uJ (n,())) (fun e=>e=0→zZ6 n):=by
 unfold uJ
 dsimp only
 refine zI (fun _=>zA (fun h=>by cases h)) (fun hl=> ?_)
 refine zA5 (by omega) (fun i=> ∀m r,m<i→n.1[m]? =some r→zWQ r∧(∀j q,j<m→n.1[j]? =some q→q.1≠r.1∧ ∀x y,x∈r.2.2.1→y∈q.2.2.1→x.2.2.1≠0→y.2.2.1≠0→x.2.1≠y.2.1)) (fun m x hm=>by omega) ?_ (fun hj=>zA (fun _=> ?_))
 ·intro i r hr hj
  have hi:=(List.getElem?_eq_some_iff.1 hr).1
  have hsm:=hs r (List.mem_of_getElem? hr)
  have hs1:=hsm.i1
  simp only [zJ hr,Option.bind_some]
  refine qE (zC ((zM0 r hsm).mono (fun e he=> ?_)))
  refine zD (fun hne=>zA (fun h=> ?_)) (fun h=> ?_)
  ·have h:e=0:=h
   rw [h] at hne
   cases hne
  have hrt:=he (by simpa using h)
  refine qE (zBy (n:=i) (P:=fun j=> ∀q,n.1[j]? =some q→q.1≠r.1) (by omega) ?_ (fun hname=> ?_))
  ·intro j hjl
   have hq:n.1[j]? =some n.1[j]:=by simp
   simp only [zJ hq,Option.bind_some]
   refine zD (fun _=>zA (fun h=>by cases h)) (fun hn=>zA (e2l ⟨rfl,?_⟩))
   intro q hq'
   rw [hq] at hq'
   cases hq'
   simpa using hn
  refine e2l (zU6 (P:=fun x:Ty.El qG=> ∀j q,j<i→n.1[j]? =some q→ ∀y,y∈q.2.2.1→x.2.2.1≠0→y.2.2.1≠0→x.2.1≠y.2.1) (by omega) ?_ (fun hall=> ?_))
  ·intro k x hx
   simp only [zJ hx,Option.bind_some]
   refine qE (zBy (n:=i) (P:=fun j=> ∀q,n.1[j]? =some q→ ∀y,y∈q.2.2.1→x.2.2.1≠0→y.2.2.1≠0→x.2.1≠y.2.1) (by omega) ?_ (fun hall=>e2l (zA (e2l ⟨rfl,fun j q hjl hq=>hall j hjl q hq⟩))))
   intro j hjl
   have hq:n.1[j]? =some n.1[j]:=by simp
   simp only [zJ hq,Option.bind_some]
   refine zC ((show Wp _ (fun s:Bool=>s=false→ ∀y,y∈n.1[j].2.2.1→x.2.2.1≠0→y.2.2.1≠0→x.2.1≠y.2.1) from ?_).mono (fun s hs'=> ?_))
   ·refine zD (fun _=>zC ((zJO _ _ (hs _ (List.getElem_mem _))).mono (fun k hk=>zA ?_))) (fun hz=>zA (fun _ y _ hne=>absurd (show x.2.2.1=0 by simpa using hz) hne))
    subst hk
    intro hlt y hy _ hyz hxy
    have hlt: ¬(zYF n.1[j] x.2.1≥0):=of_decide_eq_false hlt
    apply hlt
    unfold zYF
    rw [zG5]
    refine List.any_eq_true.2 ⟨y,hy,?_⟩
    have h1:(y.2.2.1 !=0)=true:=by simpa using hyz
    have h2:(y.2.1==x.2.1)=true:=beq_iff_eq.2 hxy.symm
    rw [h1,h2];rfl
   ·refine zD (fun _=>zA ⟨(fun u h=>by cases h),(fun h=>by cases h)⟩) (fun hn=>zA (e2l ⟨rfl,?_⟩))
    intro q hq'
    rw [hq] at hq'
    cases hq'
    exact hs' hn
  ·refine e2l (zA (e2l ⟨rfl,?_⟩))
   intro m z hm hz
   rcases Nat.lt_or_ge m i with h'|h'
   ·exact hj m z h' hz
   ·have:m=i:=by omega
    subst this
    rw [hr] at hz
    cases hz
    exact ⟨hrt,fun j q hjl hq=>⟨hname j hjl q hq,fun x y hx hy=>hall x hx j q hjl hq y hy⟩⟩
 ·have hall: ∀m r,n.1[m]? =some r→_:=fun m r hr=>hj m r (List.getElem?_eq_some_iff.1 hr).1 hr
  refine ⟨by omega,?_,?_,?_⟩
  ·intro r hr
   obtain ⟨m,hm,rfl⟩:=List.getElem_of_mem hr
   exact (hall m _ (by simp [hm])).1
  ·intro i j r q hji hr hq
   exact ((hall i r hr).2 j q hji hq).1
  ·intro i j r q hne hr hq x y hx hy hx0 hy0
   rcases Nat.lt_or_ge j i with h'|h'
   ·exact ((hall i r hr).2 j q h' hq).2 x y hx hy hx0 hy0
   ·exact fun h=>((hall j q hq).2 i r (by omega) hr).2 y x hy hx hy0 hx0 h.symm
theorem zFB {n:Ty.El zQ} {d:List Int} {v:Ty.El zR} (h:xX n d v):zZ6 n:=by
 obtain ⟨e,h1,h2⟩:=zWF n h.sm
 have h3:=h.chk
 rw [h1] at h3
 exact h2 (Option.some.inj h3)
end Go.Ve

namespace Go.Ve
open Go
set_option maxRecDepth 1000000
set_option maxHeartbeats 4000000
def rlt (x y:Ty.El zB):Prop:=plt x.1 y.1
theorem zVg:Ord rlt where
 asym:=fun x y h=>zHx.asym _ _ h
 tr:=fun x y z h1 h2=>zHx.tr _ _ _ h1 h2
end Go.Ve

namespace Go.Ve
open Go
set_option maxRecDepth 1000000
set_option maxHeartbeats 4000000
def wC (x:Ty.El zB):Int×Int×Int×Int×Int×Int×Int:=
 bif x.2.1==(3:Int) then (x.2.2.1,x.2.2.2.2.1,x.2.2.2.2.2.1,x.2.2.2.2.2.2.1,(0:Int),(0:Int),(0:Int))
 else bif x.2.1==(4:Int) then (x.2.2.2.2.1,x.2.2.1,x.2.2.2.2.2.2.1,(0:Int),(0:Int),(0:Int),(0:Int))
 else bif x.2.1==(5:Int) then (if (3:Int)<x.2.2.1 then (3:Int) else x.2.2.1,IntKind.wrap IntKind.i64 ((1000000:Int) -x.2.2.2.2.2.2.2.1),(x.2.2.2.2.2.2.2.2.1.length:Int),x.2.2.2.2.1,x.2.2.1,IntKind.wrap IntKind.i64 x.2.2.2.2.2.2.2.2.2.1,(0:Int))
 else (x.2.2.2.1,(0:Int),(0:Int),(0:Int),(0:Int),(0:Int),(0:Int))
def zFR:List (Int×Int)→Int
 |[]=>0
 |(a,b)::r=>if a<b then-1 else if b<a then 1 else zFR r
def xL (x y:Ty.El zB):Int:=
 zFR [((wC x).1,(wC y).1),((wC x).2.1,(wC y).2.1),((wC x).2.2.1,(wC y).2.2.1),((wC x).2.2.2.1,(wC y).2.2.2.1),((wC x).2.2.2.2.1,(wC y).2.2.2.2.1),((wC x).2.2.2.2.2.1,(wC y).2.2.2.2.2.1),((wC x).2.2.2.2.2.2,(wC y).2.2.2.2.2.2)]
theorem zWB (l:List Int):zFR (l.map (fun a=>(a,a)))=0:=by
 induction l with
 |nil=>rfl
 |cons a l ih=>
  simp only [List.map_cons,zFR]
  rw [if_neg (by omega),if_neg (by omega)]
  exact ih
theorem zT1 (x:Ty.El zB):xL x x=0:=zWB [(wC x).1,(wC x).2.1,(wC x).2.2.1,(wC x).2.2.2.1,(wC x).2.2.2.2.1,(wC x).2.2.2.2.2.1,(wC x).2.2.2.2.2.2]
section
variable {α:Type} {lt eq:α→α→Bool}
def zGp (lt eq:α→α→Bool) (h:α):List α→List α
 |[]=>[h]
 |x::r=>bif lt x h then x::zGp lt eq h r else bif eq x h then x::r else h::x::r
theorem zKp (heq: ∀x y,eq x y=true↔x=y) {h z:α} : ∀ {l:List α},z∈zGp lt eq h l↔z∈l∨z=h
 |[]=>by simp [zGp]
 |x::r=>by
  simp only [zGp]
  cases lt x h with
  |true=>simp only [cond_true,List.mem_cons,zKp heq (l:=r)];exact or_assoc.symm
  |false=>
   simp only [cond_false]
   cases he:eq x h with
   |true=>
    have:=(heq x h).1 he
    subst this
    simp only [cond_true,List.mem_cons]
    exact ⟨fun h=> .inl h,fun h=>h.elim id .inl⟩
   |false=>simp only [cond_false,List.mem_cons];exact ⟨fun h=>h.elim .inr .inl,fun h=>h.elim .inr .inl⟩
theorem zG4 {R:α→α→Prop} (ho:Ord R) (hlt: ∀x y,lt x y=true↔R x y) (heq: ∀x y,eq x y=true↔x=y) (htot: ∀x y, ¬R x y→x≠y→R y x) {h:α} : ∀ {l:List α},l.Pairwise R→(zGp lt eq h l).Pairwise R
 |[],_=>by simp [zGp]
 |x::r,hp=>by
  rw [List.pairwise_cons] at hp
  simp only [zGp]
  cases hx:lt x h with
  |true=>
   simp only [cond_true]
   rw [List.pairwise_cons]
   refine ⟨fun z hz=> ?_,zG4 ho hlt heq htot hp.2⟩
   rcases (zKp heq).1 hz with hz|rfl
   ·exact hp.1 z hz
   ·exact (hlt _ _).1 hx
  |false=>
   simp only [cond_false]
   have hn: ¬R x h:=fun hh=>by rw [(hlt _ _).2 hh] at hx;cases hx
   cases he:eq x h with
   |true=>simp only [cond_true];rw [List.pairwise_cons];exact hp
   |false=>
    simp only [cond_false]
    have hne:x≠h:=fun e=>by rw [(heq _ _).2 e] at he;cases he
    have hr:=htot _ _ hn hne
    have tr: ∀z,R x z→R h z:=by
     intro z hz
     exact Classical.byContradiction (fun hnz=>ho.tr x z h (ho.asym _ _ hz) hnz hr)
    rw [List.pairwise_cons,List.pairwise_cons]
    refine ⟨fun z hz=> ?_,hp⟩
    rcases List.mem_cons.1 hz with rfl|hz
    ·exact hr
    ·exact tr z (hp.1 z hz)
end
end Go.Ve

namespace Go.Ve
open Go
set_option maxRecDepth 1000000
set_option maxHeartbeats 4000000
noncomputable def act (v:Ty.El zR) (t:List (Ty.El zB)) (r:Int) (rt:Ty.El zF) (x:Ty.El zFd):Option (Ty.El zB):=
 bif x.2.1 !=(0:Int) then match zGJ t x.1 x.2.1 with
  |none=>none
  |some y=>bif y.2.2.2.2.2.2.2.2.2.2.2.2.1 then none else some (x.1,(2:Int),(0:Int),x.2.2.2.2.1,(0:Int),(0:Int),x.2.2.2.2.2.1,(0:Int),[],(0:Int),x.2.1,[],false,())
 else bif x.2.2.1 != { data:= #[] } then
  bif upB v r (zOd rt x.2.2.1) then some (x.1,(2:Int),(0:Int),x.2.2.2.2.1,(0:Int),(0:Int),x.2.2.2.2.2.1,(0:Int),[],(0:Int),(0:Int),[(zOd rt x.2.2.1,(0:Int),())],false,()) else none
 else bif x.2.2.2.1 then some (x.1,(2:Int),(0:Int),x.2.2.2.2.1,(0:Int),(0:Int),x.2.2.2.2.2.1,(0:Int),[],(0:Int),(0:Int),[],true,()) else none
theorem kJ {α β:Type} {f:α→Option β} {xs:List α} {i:Nat} {x:α} (h:xs[i]? =some x):(xs.take (i+1)).filterMap f=(xs.take i).filterMap f++(f x).toList:=by
 rw [List.take_add_one,h,Option.toList_some,List.filterMap_append,List.filterMap_cons,List.filterMap_nil]
 cases f x<;>rfl
theorem zIM (v:Ty.El zR) (t:List (Ty.El zB)) (r:Nat) (rt:Ty.El zF) (hv:zDa v) (hr:v.1.1[r]? =some rt) (ht:t.length≤1048576):
  Wp (zCy (v,t,(r:Int),())) (fun out=>out=rt.2.2.2.2.2.2.2.1.filterMap (act v t r rt)):=by
 unfold zCy
 dsimp only
 have hrl:=(List.getElem?_eq_some_iff.1 hr).1
 have hsm:=hv.sm rt (List.mem_of_getElem? hr)
 have hst:=hsm.i6
 have hr0: ¬((r:Int)<0):=by omega
 have hr1: ¬((r:Int)≥(List.length v.1.1:Int)):=by omega
 refine zC (zI (fun h=>absurd h hr0) (fun h=>zA ?_))
 refine zI (fun h=>absurd h hr1) (fun h=> ?_)
 simp only [zJ hr,Option.bind_some]
 refine zC ((uT (xs:=rt.2.2.2.2.2.2.2.1) (by omega) (fun i (g:List (Ty.El zB))=>g=(rt.2.2.2.2.2.2.2.1.take i).filterMap (act v t r rt)) rfl ?_ (Q:=fun g=>g=rt.2.2.2.2.2.2.2.1.filterMap (act v t r rt)) (fun g hg=>by rw [hg,List.take_length])).mono (fun g hg=>zA hg))
 intro i x g hx hg
 have hi:=(List.getElem?_eq_some_iff.1 hx).1
 have hgl:g.length≤i:=by
  rw [hg]
  refine Nat.le_trans (List.length_filterMap_le _ _) ?_
  rw [List.length_take]
  omega
 simp only [zJ hx,Option.bind_some]
 rw [kJ hx, ←hg]
 have skip:act v t r rt x=none→(vJ (fun s:List (Ty.El zB)×Ty.El zB=>Wp (Option.bind (app (136:Nat) s.1 [s.2]) fun y68=>some y68) (fun g'=>g'=g++(act v t r rt x).toList)) (fun g'=>g'=g++(act v t r rt x).toList)) (Sum.inr g):=by
  intro h
  rw [h]
  exact e2r (List.append_nil g).symm
 have take: ∀y,act v t r rt x=some y→(vJ (fun s:List (Ty.El zB)×Ty.El zB=>Wp (Option.bind (app (136:Nat) s.1 [s.2]) fun y68=>some y68) (fun g'=>g'=g++(act v t r rt x).toList)) (fun g'=>g'=g++(act v t r rt x).toList)) (Sum.inl (g,y)):=by
  intro y h
  rw [h]
  refine e2l (zC (vK (by simp only [List.length_singleton];omega) (zA rfl)))
 refine qE (zD (fun h1=> ?_) (fun h1=>zD (fun h2=> ?_) (fun h2=>zD (fun h3=> ?_) (fun h3=> ?_))))
 ·refine zC ((zGE t x.1 x.2.1 (by omega)).mono (fun k hk=> ?_))
  rcases hk with ⟨hk,hn⟩|⟨m,y,rfl,hm,hy⟩
  ·refine zC (zI (fun _=>zA (zA (skip ?_))) (fun h=>absurd hk h))
   unfold act
   rw [h1,cond_true,hn]
  ·refine zC (zI (fun h=>absurd h (by omega)) (fun _=> ?_))
   simp only [zJ hm,Option.bind_some]
   refine zA (zD (fun h=>zA (skip ?_)) (fun h=>zA (take _ ?_)))
   ·unfold act
    rw [h1,cond_true,hy]
    simp only
    have h:y.2.2.2.2.2.2.2.2.2.2.2.2.1=true:=h
    rw [h];rfl
   ·unfold act
    rw [h1,cond_true,hy]
    simp only
    have h:y.2.2.2.2.2.2.2.2.2.2.2.2.1=false:=h
    rw [h];rfl
 ·refine zC ((zGF rt x.2.2.1 hsm).mono (fun k hk=> ?_))
  subst hk
  refine zC ((zFh v r _ hv).mono (fun b hb=> ?_))
  subst hb
  refine zD (fun h=>zA (skip ?_)) (fun h=>zA (take _ ?_))
  ·unfold act
   rw [h1,cond_false,h2,cond_true]
   simp only [Bool.not_eq_true'] at h
   rw [h];rfl
  ·unfold act
   rw [h1,cond_false,h2,cond_true]
   simp only [Bool.not_eq_false'] at h
   rw [h];rfl
 ·refine zA (take _ ?_)
  unfold act
  rw [h1,cond_false,h2,cond_false,h3];rfl
 ·refine zA (skip ?_)
  unfold act
  rw [h1,cond_false,h2,cond_false,h3];rfl
end Go.Ve

namespace Go.Ve
open Go
set_option maxRecDepth 1000000
set_option maxHeartbeats 4000000
theorem zW6 {α:Type} {xs:List α} {k:Nat} (h:k≤xs.length):sub xs (k:Int) (xs.length:Int)=some (xs.drop k):=by
 unfold sub
 rw [if_pos (by omega),Int.toNat_natCast,Int.toNat_natCast,List.take_length]
def zPc (p q:Ty.El zH):Bool:=decide (zZH p q<0)
theorem zXA {p q:Ty.El zH} :zPc p q=true↔plt p q:=by
 unfold zPc;rw [decide_eq_true_eq];exact zHL
theorem zSE {α:Type} {lt eq:α→α→Bool} {h:α} : ∀ {l:List α},(zGp lt eq h l).length≤l.length+1
 |[]=>by simp [zGp]
 |x::r=>by
  have:=zSE (lt:=lt) (eq:=eq) (h:=h) (l:=r)
  simp only [zGp]
  cases lt x h<;>cases eq x h<;>simp<;>omega
def zPb (l:List (Ty.El zB)):List (Ty.El zH):=l.foldl (fun acc x=>zGp zPc vF x.1 acc) []
theorem zJ3: ∀ (l:List (Ty.El zB)) (acc:List (Ty.El zH)),(l.foldl (fun acc x=>zGp zPc vF x.1 acc) acc).length≤acc.length+l.length
 |[],acc=>by simp
 |x::l,acc=>by
  have h1:=zJ3 l (zGp zPc vF x.1 acc)
  have h2:=zSE (lt:=zPc) (eq:=vF) (h:=x.1) (l:=acc)
  simp only [List.foldl_cons,List.length_cons]
  omega
theorem zXz (l:List (Ty.El zB)):(zPb l).length≤l.length:=by
 have:=zJ3 l []
 simpa [zPb] using this
theorem zNL: ∀ (l:List (Ty.El zB)) (acc:List (Ty.El zH)),acc.Pairwise plt→
  (l.foldl (fun acc x=>zGp zPc vF x.1 acc) acc).Pairwise plt∧ ∀p,p∈l.foldl (fun acc x=>zGp zPc vF x.1 acc) acc↔p∈acc∨ ∃x,x∈l∧x.1=p
 |[],acc,h=>⟨h,fun p=>by simp⟩
 |x::l,acc,h=>by
  have h2:=zNL l (zGp zPc vF x.1 acc) (zG4 zHx (fun _ _=>zXA) (fun _ _=>zAg) (fun p q h1 h2=>zT2 h1 (fun e=>h2 e.symm)) h)
  refine ⟨h2.1,fun p=> ?_⟩
  rw [List.foldl_cons,h2.2 p,zKp (fun _ _=>zAg)]
  constructor
  ·rintro ((h|rfl)|⟨y,hy,rfl⟩)
   ·exact .inl h
   ·exact .inr ⟨x,by simp,rfl⟩
   ·exact .inr ⟨y,by simp [hy],rfl⟩
  ·rintro (h|⟨y,hy,rfl⟩)
   ·exact .inl (.inl h)
   ·rcases List.mem_cons.1 hy with rfl|hy
    ·exact .inl (.inr rfl)
    ·exact .inr ⟨y,hy,rfl⟩
theorem zGQ (l:List (Ty.El zB)):(zPb l).Pairwise plt:=(zNL l [] List.Pairwise.nil).1
theorem zEN (l:List (Ty.El zB)) (p:Ty.El zH):p∈zPb l↔ ∃x,x∈l∧x.1=p:=by
 have:=(zNL l [] List.Pairwise.nil).2 p
 rw [show zPb l=l.foldl (fun acc x=>zGp zPc vF x.1 acc) [] from rfl,this]
 simp
def hlt (a b:Ty.El qP):Prop:=zD1 a.1 a.2.1 b.1 b.2.1
theorem zKs:Ord hlt where
 asym:=fun x y h=>by unfold hlt zD1 at*;omega
 tr:=fun x y z h1 h2=>by unfold hlt zD1 at*;omega
theorem zXV {p q:Ty.El qP} (h: ¬hlt q p) (hne:p≠q):hlt p q:=by
 refine zVm h (fun e=>hne ?_)
 obtain ⟨a,b,⟨⟩⟩:=p
 obtain ⟨c,d,⟨⟩⟩:=q
 obtain ⟨rfl,rfl⟩:=e
 rfl
def qAB (a b:Ty.El qP):Bool:=decide (zKO a.1 a.2.1 b.1 b.2.1<0)
theorem zXW {a b:Ty.El qP} :qAB a b=true↔hlt a b:=by
 unfold qAB;rw [decide_eq_true_eq];exact zRl
def zPr (a b:Ty.El qP):Bool:=a.1==b.1&&(a.2.1==b.2.1&&true)
def zFX (l:List (Ty.El qP)) (h:Ty.El qP):List (Ty.El qP):=zGp qAB zPr h l
end Go.Ve

namespace Go.Ve
open Go
set_option maxRecDepth 1000000
set_option maxHeartbeats 4000000
def zRp (x:Ty.El zB) (b:Option (Ty.El zB)):Bool:=
 match b with
 |none=>true
 |some y=>decide (xL x y<0)
def zE2 (p:Ty.El zH) (b:Option (Ty.El zB)) (x:Ty.El zB):Option (Ty.El zB):=
 bif vF x.1 p&&zRp x b then some x else b
def zCu (l:List (Ty.El zB)) (p:Ty.El zH):Option (Ty.El zB):=l.foldl (zE2 p) none
def yX (p:Ty.El zH) (b:Ty.El zB) (hs:List (Ty.El qP)) (x:Ty.El zB):List (Ty.El qP):=
 bif vF x.1 p&&(xL x b==0) then x.2.2.2.2.2.2.2.2.2.2.2.1.foldl zFX hs else hs
def zCq (l:List (Ty.El zB)) (p:Ty.El zH) (b:Ty.El zB):List (Ty.El qP):=l.foldl (yX p b) []
def zM3 (b:Ty.El zB) (hs:List (Ty.El qP)):Ty.El zB:=
 ((b.1.1,b.1.2.1,()),b.2.1,b.2.2.1,b.2.2.2.1,b.2.2.2.2.1,b.2.2.2.2.2.1,b.2.2.2.2.2.2.1,b.2.2.2.2.2.2.2.1,b.2.2.2.2.2.2.2.2.1,b.2.2.2.2.2.2.2.2.2.1,b.2.2.2.2.2.2.2.2.2.2.1,hs,b.2.2.2.2.2.2.2.2.2.2.2.2.1,())
def mrg (l:List (Ty.El zB)) (p:Ty.El zH):Option (Ty.El zB):=(zCu l p).map (fun b=>zM3 b (zCq l p b))
def zAj (l:List (Ty.El zB)):List (Ty.El zB):=(zPb l).filterMap (mrg l)
theorem zOR {p:Ty.El zH} {b:Option (Ty.El zB)} {x:Ty.El zB} (h:b.isSome=true∨x.1=p):(zE2 p b x).isSome=true:=by
 unfold zE2
 cases b with
 |none=>
  rcases h with h|h
  ·cases h
  ·rw [zAg.2 h];rfl
 |some y=>cases vF x.1 p&&zRp x (some y)<;>rfl
theorem zIv {p:Ty.El zH} : ∀ (l:List (Ty.El zB)) (b:Option (Ty.El zB)),(b.isSome=true∨ ∃x,x∈l∧x.1=p)→(l.foldl (zE2 p) b).isSome=true
 |[],b,h=>by
  rcases h with h|⟨x,hx,_⟩
  ·exact h
  ·cases hx
 |x::l,b,h=>by
  rw [List.foldl_cons]
  refine zIv l _ ?_
  rcases h with h|⟨y,hy,hp⟩
  ·exact .inl (zOR (.inl h))
  ·rcases List.mem_cons.1 hy with rfl|hy
   ·exact .inl (zOR (.inr hp))
   ·exact .inr ⟨y,hy,hp⟩
theorem zWK {l:List (Ty.El zB)} {p:Ty.El zH} (h:p∈zPb l): ∃b,zCu l p=some b:=
 Option.isSome_iff_exists.1 (zIv l none (.inr ((zEN l p).1 h)))
end Go.Ve

namespace Go.Ve
open Go
set_option maxRecDepth 1000000
set_option maxHeartbeats 4000000
theorem zTD {l:List (Ty.El zB)} {proto:Int} (hl:l.length≤1048576) (hval: ∀x,x∈l→jJ (x,())=some true) (hpr: ∀x,x∈l→x.2.1=proto) (hs:l.Pairwise rlt):
  Wp (v8 (l,proto,())) (fun b=>b=true):=by
 have hs':=List.pairwise_iff_getElem.1 hs
 unfold v8
 dsimp only
 refine zAb (P:=fun _=>True) (by omega) ?_ (fun _=>zA rfl)
 intro i x hx
 have hi:=(List.getElem?_eq_some_iff.1 hx).1
 have hm:=List.mem_of_getElem? hx
 have hcmp:(i:Int)>0→Wp (Option.bind (idx l (IntKind.wrap IntKind.i64 ((i:Int) - (1:Int)))) fun (y44:Ty.El zB)=>Option.bind (vW (y44.1,x.1,())) fun (y46:Int)=>some (decide (y46≥(0:Int)))) (fun s=>s=false):=by
  intro h0
  rw [zG (by omega) (by omega),show ((i:Int) -1)=((i-1:Nat):Int) by omega]
  have hy:l[i-1]? =some (l[i-1]'(by omega)):=by simp
  refine zC (z7 (zJ hy) (zC (z7 (zBC _ _) (zA ?_))))
  have:=hs' (i-1) i (by omega) hi (by omega)
  rw [(List.getElem?_eq_some_iff.1 hx).2] at this
  exact decide_eq_false (Int.not_le.2 (zHL.2 this))
 simp only [zJ hx,Option.bind_some]
 refine zC ((show Wp _ (fun s:Bool=>s=false) from ?_).mono (fun s hs=>zD (fun h=>by rw [hs] at h;cases h) (fun _=>zA (e2l ⟨rfl,trivial⟩))))
 refine zC (z7 (hval x hm) (zD (fun h=>by cases h) (fun _=>zD (fun _=>zD (fun h=> ?_) (fun _=> ?_)) (fun _=> ?_))))
 ·rw [hpr x hm] at h;simp at h
 ·exact zI (fun h=>hcmp h) (fun _=>zA rfl)
 ·exact zI (fun h=>hcmp h) (fun _=>zA rfl)
end Go.Ve

namespace Go.Ve
open Go
set_option maxRecDepth 1000000
set_option maxHeartbeats 4000000
theorem zTl {p:Ty.El zH} {b:Ty.El zB} : ∀ (l:List (Ty.El zB)) (c:Option (Ty.El zB)),l.foldl (zE2 p) c=some b→c=some b∨(b∈l∧b.1=p)
 |[],c,h=> .inl h
 |x::l,c,h=>by
  rw [List.foldl_cons] at h
  rcases zTl l _ h with h|⟨h1,h2⟩
  ·unfold zE2 at h
   cases hc:vF x.1 p&&zRp x c with
   |true=>
    rw [hc,cond_true] at h
    cases h
    simp only [Bool.and_eq_true] at hc
    exact .inr ⟨by simp,zAg.1 hc.1⟩
   |false=>rw [hc,cond_false] at h;exact .inl h
  ·exact .inr ⟨List.mem_cons_of_mem _ h1,h2⟩
theorem zTk {l:List (Ty.El zB)} {p:Ty.El zH} {b:Ty.El zB} (h:zCu l p=some b):b∈l∧b.1=p:=by
 rcases zTl l none h with h|h
 ·cases h
 ·exact h
theorem zHy {l:List (Ty.El zB)} {p:Ty.El zH} {z:Ty.El zB} (h:mrg l p=some z):z.1=p:=by
 unfold mrg at h
 cases hb:zCu l p with
 |none=>rw [hb] at h;cases h
 |some b=>rw [hb] at h;cases h;exact (zTk hb).2
theorem zEw (l:List (Ty.El zB)):(zAj l).Pairwise rlt:=by
 unfold zAj
 refine List.Pairwise.filterMap _ ?_ (zGQ l)
 intro p q hpq y hy z hz
 unfold rlt
 rw [zHy hy,zHy hz]
 exact hpq
theorem zQC (b:Ty.El zB):zM3 b b.2.2.2.2.2.2.2.2.2.2.2.1=b:=rfl
end Go.Ve

namespace Go.Ve
open Go
set_option maxHeartbeats 4000000
section
variable {α:Type}
def swF (a b n:Nat) (xs:List α) (k:Nat):Option α:=
 if a≤k∧k<a+n then xs[b+(k-a)]? else if b≤k∧k<b+n then xs[a+(k-b)]? else xs[k]?
def yV (lo m hi:Nat) (xs:List α) (k:Nat):Option α:=
 if lo≤k∧k<lo+(hi-m) then xs[k+(m-lo)]? else if lo+(hi-m)≤k∧k<hi then xs[k- (hi-m)]? else xs[k]?
theorem zW4 {a b:Nat} {xs:List α} {k:Nat} :swF a b 0 xs k=xs[k]? :=by
 unfold swF
 rw [if_neg (by omega),if_neg (by omega)]
theorem zW5 {a b n:Nat} {xs zs:List α} (hab:a+n<b) (hb:b+n<xs.length) (hl:zs.length=xs.length) (h: ∀k,zs[k]? =swF a b n xs k) {x y:α} (hx:zs[a+n]? =some x) (hy:zs[b+n]? =some y):
  ∀k,((zs.set (a+n) y).set (b+n) x)[k]? =swF a b (n+1) xs k:=by
 intro k
 have h1:=h (a+n)
 have h2:=h (b+n)
 unfold swF at h1 h2
 rw [if_neg (by omega),if_neg (by omega),hx] at h1
 rw [if_neg (by omega),if_neg (by omega),hy] at h2
 unfold swF
 by_cases e1:k=b+n
 ·subst e1
  rw [List.getElem?_set_self (by rw [List.length_set];omega),if_neg (by omega),if_pos (by omega),h1]
  congr 1;omega
 ·rw [List.getElem?_set_ne (by omega)]
  by_cases e2:k=a+n
  ·subst e2
   rw [List.getElem?_set_self (by omega),if_pos (by omega),h2]
   congr 1;omega
  ·rw [List.getElem?_set_ne (by omega),h k]
   unfold swF
   by_cases c1:a≤k∧k<a+n
   ·rw [if_pos c1,if_pos (by omega)]
   ·rw [if_neg c1]
    by_cases c2:b≤k∧k<b+n
    ·rw [if_pos c2,if_neg (by omega),if_pos (by omega)]
    ·rw [if_neg c2,if_neg (by omega),if_neg (by omega)]
theorem zAR {xs:List α} {i j:Nat} (h:i=j):xs[i]? =xs[j]? :=by rw [h]
theorem zXk {lo m hi:Nat} {xs zs:List α} (h1:lo<m) (h2:m<hi) (hij:hi-m<m-lo) (h: ∀k,zs[k]? =swF lo m (hi-m) xs k) (k:Nat):yV (lo+(hi-m)) m hi zs k=yV lo m hi xs k:=by
 unfold yV
 rw [h,h,h]
 unfold swF
 repeat' split
 all_goals first
  |rfl
  |exact zAR (by omega)
  |(exfalso;omega)
theorem zVS {lo m hi:Nat} {xs zs:List α} (h1:lo<m) (h2:m<hi) (hij:m-lo<hi-m) (h: ∀k,zs[k]? =swF lo (hi- (m-lo)) (m-lo) xs k) (k:Nat):yV lo m (hi- (m-lo)) zs k=yV lo m hi xs k:=by
 unfold yV
 rw [h,h,h]
 unfold swF
 repeat' split
 all_goals first
  |rfl
  |exact zAR (by omega)
  |(exfalso;omega)
theorem zXl {lo m hi:Nat} {xs zs:List α} (h1:lo≤m) (h2:m≤hi) (hij:m-lo=hi-m) (h: ∀k,zs[k]? =swF lo m (m-lo) xs k) (k:Nat):zs[k]? =yV lo m hi xs k:=by
 rw [h]
 unfold yV swF
 repeat' split
 all_goals first
  |rfl
  |exact zAR (by omega)
  |(exfalso;omega)
end
end Go.Ve

namespace Go.Ve
open Go
set_option maxRecDepth 1000000
set_option linter.unusedVariables false
noncomputable def zAk {α:Type} (cmp:α×α×Unit→Option Int):List α→(Int×Int×Unit×Unit)→Option (List α×Unit):=fun a0 x=>match x with
 |(a1,a2,(),())=>
  zN
   (fun (s157:Int×List (α))=>
    bif decide (s157.1<a2) then
     Option.bind
      (zN
       (fun (s158:Int×List (α))=>
        Option.bind
         (bif decide (s158.1>a1) then
          Option.bind (idx s158.2 s158.1) fun (y159:α)=>
           Option.bind (atN s158.2 (Int.toNat s158.1)) fun (y160:α)=>
            Option.bind (idx s158.2 (IntKind.wrap IntKind.i64 (s158.1- (1:Int)))) fun (y161:α)=>
             Option.bind (atN s158.2 (Int.toNat (IntKind.wrap IntKind.i64 (s158.1- (1:Int))))) fun (y162:α)=>
              Option.bind (cmp (y160,y162,())) fun (y163:Int)=>some (decide (y163< (0:Int)),s158.2)
         else some (false,s158.2))
         fun (s164:Bool×List (α))=>
         bif s164.1 then
          Option.bind (idx s164.2 (IntKind.wrap IntKind.i64 (s158.1- (1:Int)))) fun (y165:α)=>
           Option.bind (atN s164.2 (Int.toNat (IntKind.wrap IntKind.i64 (s158.1- (1:Int))))) fun (y166:α)=>
            Option.bind (idx s164.2 s158.1) fun (y167:α)=>
             Option.bind (atN s164.2 (Int.toNat s158.1)) fun (y168:α)=>
              Option.bind (idx s164.2 s158.1) fun (y169:α)=>
               Option.bind (atN s164.2 (Int.toNat s158.1)) fun (y170:α)=>
                Option.bind (idx (List.set s164.2 (Int.toNat s158.1) y166) (IntKind.wrap IntKind.i64 (s158.1- (1:Int)))) fun (y171:α)=>
                 Option.bind (atN (List.set s164.2 (Int.toNat s158.1) y166) (Int.toNat (IntKind.wrap IntKind.i64 (s158.1- (1:Int)))))
                  fun (y172:α)=>
                  some
                   (Sum.inl
                    (IntKind.wrap IntKind.i64 (s158.1- (1:Int)),
                     List.set (List.set s164.2 (Int.toNat s158.1) y166) (Int.toNat (IntKind.wrap IntKind.i64 (s158.1- (1:Int)))) y168))
         else some (Sum.inr s164.2))
       s157)
      fun (s173:List (α))=>some (Sum.inl (IntKind.wrap IntKind.i64 (s157.1+(1:Int)),s173))
    else Option.map (fun (r:List (α)×Unit)=>Sum.inr r) (bif Nat.beq (List.length s157.2) (List.length a0) then some (s157.2,()) else none))
   (IntKind.wrap IntKind.i64 (a1+(1:Int)),a0)
noncomputable def zDy {α:Type} (cmp:α×α×Unit→Option Int):List α→(Int×Int×Int×Unit×Unit)→Option (List α×Unit):=fun a0 x=>match x with
 |(a1,a2,a3,(),())=>
  zN
   (fun (s17:Int×List (α))=>
    bif decide (s17.1<a3) then
     Option.bind (idx s17.2 (IntKind.wrap IntKind.i64 (a2+s17.1))) fun (y18:α)=>
      Option.bind (atN s17.2 (Int.toNat (IntKind.wrap IntKind.i64 (a2+s17.1)))) fun (y19:α)=>
       Option.bind (idx s17.2 (IntKind.wrap IntKind.i64 (a1+s17.1))) fun (y20:α)=>
        Option.bind (atN s17.2 (Int.toNat (IntKind.wrap IntKind.i64 (a1+s17.1)))) fun (y21:α)=>
         Option.bind (idx s17.2 (IntKind.wrap IntKind.i64 (a1+s17.1))) fun (y22:α)=>
          Option.bind (atN s17.2 (Int.toNat (IntKind.wrap IntKind.i64 (a1+s17.1)))) fun (y23:α)=>
           Option.bind (idx (List.set s17.2 (Int.toNat (IntKind.wrap IntKind.i64 (a1+s17.1))) y19) (IntKind.wrap IntKind.i64 (a2+s17.1)))
            fun (y24:α)=>
            Option.bind (atN (List.set s17.2 (Int.toNat (IntKind.wrap IntKind.i64 (a1+s17.1))) y19) (Int.toNat (IntKind.wrap IntKind.i64 (a2+s17.1))))
             fun (y25:α)=>
             some
              (Sum.inl
               (IntKind.wrap IntKind.i64 (s17.1+(1:Int)),
                List.set (List.set s17.2 (Int.toNat (IntKind.wrap IntKind.i64 (a1+s17.1))) y19) (Int.toNat (IntKind.wrap IntKind.i64 (a2+s17.1))) y21))
    else Option.map (fun (r:List (α)×Unit)=>Sum.inr r) (bif Nat.beq (List.length s17.2) (List.length a0) then some (s17.2,()) else none))
   ((0:Int),a0)
noncomputable def zQI {α:Type} (cmp:α×α×Unit→Option Int):List α→(Int×Int×Int×Unit×Unit)→Option (List α×Unit):=fun a0 x=>match x with
 |(a1,a2,a3,(),())=>
  Option.bind
   (zN
    (fun (s6:Int×Int×List (α))=>
     bif s6.1 !=s6.2.1 then
      bif decide (s6.1>s6.2.1) then
       bif Nat.beq (List.length s6.2.2) (List.length s6.2.2) then
        Option.bind (zDy cmp s6.2.2 (IntKind.wrap IntKind.i64 (a2-s6.1),a2,s6.2.1,(),())) fun (y7:List (α)×Unit)=>
         some (Sum.inl (IntKind.wrap IntKind.i64 (s6.1-s6.2.1),s6.2.1,y7.1))
       else none
      else
       bif Nat.beq (List.length s6.2.2) (List.length s6.2.2) then
        Option.bind
         (zDy cmp s6.2.2
          (IntKind.wrap IntKind.i64 (a2-s6.1),IntKind.wrap IntKind.i64 (IntKind.wrap IntKind.i64 (a2+s6.2.1) -s6.1),s6.1,(),()))
         fun (y8:List (α)×Unit)=>some (Sum.inl (s6.1,IntKind.wrap IntKind.i64 (s6.2.1-s6.1),y8.1))
       else none
     else some (Sum.inr (s6.2.2,s6.1)))
    (IntKind.wrap IntKind.i64 (a2-a1),IntKind.wrap IntKind.i64 (a3-a2),a0))
   fun (s9:List (α)×Int)=>
   bif Nat.beq (List.length s9.1) (List.length s9.1) then
    Option.bind (zDy cmp s9.1 (IntKind.wrap IntKind.i64 (a2-s9.2),a2,s9.2,(),())) fun (y10:List (α)×Unit)=>
     bif Nat.beq (List.length y10.1) (List.length a0) then some (y10.1,()) else none
   else none
noncomputable def zGB {α:Type} (cmp:α×α×Unit→Option Int) (self:List α→(Int×Int×Int×Unit×Unit)→Option (List α×Unit)):List α→(Int×Int×Int×Unit×Unit)→Option (List α×Unit):=fun a0 x=>match x with
 |(a1,a2,a3,(),())=>
  q8
   (bif IntKind.wrap IntKind.i64 (a2-a1)==(1:Int) then
    Option.bind
     (zN
      (fun (s50:Int×Int×List (α))=>
       bif decide (s50.1<s50.2.1) then
        Option.bind
         (idx s50.2.2
          (IntKind.wrap IntKind.i64
           (Int.fdiv (IntKind.wrap IntKind.u64 (IntKind.wrap IntKind.i64 (s50.1+s50.2.1))) ((2:Int)^min (Int.toNat (1:Int)) (IntKind.bits IntKind.u64)))))
         fun (y51:α)=>
         Option.bind
          (atN s50.2.2
           (Int.toNat
            (IntKind.wrap IntKind.i64
             (Int.fdiv (IntKind.wrap IntKind.u64 (IntKind.wrap IntKind.i64 (s50.1+s50.2.1))) ((2:Int)^min (Int.toNat (1:Int)) (IntKind.bits IntKind.u64))))))
          fun (y52:α)=>
          Option.bind (idx s50.2.2 a1) fun (y53:α)=>
           Option.bind (atN s50.2.2 (Int.toNat a1)) fun (y54:α)=>
            Option.bind (cmp (y52,y54,())) fun (y55:Int)=>
             bif decide (y55< (0:Int)) then
              some
               (Sum.inl
                (IntKind.wrap IntKind.i64
                  (IntKind.wrap IntKind.i64
                    (Int.fdiv (IntKind.wrap IntKind.u64 (IntKind.wrap IntKind.i64 (s50.1+s50.2.1)))
                     ((2:Int)^min (Int.toNat (1:Int)) (IntKind.bits IntKind.u64)))+
                   (1:Int)),
                 s50.2))
             else
              some
               (Sum.inl
                (s50.1,
                 IntKind.wrap IntKind.i64
                  (Int.fdiv (IntKind.wrap IntKind.u64 (IntKind.wrap IntKind.i64 (s50.1+s50.2.1)))
                   ((2:Int)^min (Int.toNat (1:Int)) (IntKind.bits IntKind.u64))),
                 s50.2.2))
       else some (Sum.inr (s50.1,s50.2.2)))
      (a2,a3,a0))
     fun (s56:Int×List (α))=>
     zN
      (fun (s57:Int×List (α))=>
       bif decide (s57.1<IntKind.wrap IntKind.i64 (s56.1- (1:Int))) then
        Option.bind (idx s57.2 (IntKind.wrap IntKind.i64 (s57.1+(1:Int)))) fun (y58:α)=>
         Option.bind (atN s57.2 (Int.toNat (IntKind.wrap IntKind.i64 (s57.1+(1:Int))))) fun (y59:α)=>
          Option.bind (idx s57.2 s57.1) fun (y60:α)=>
           Option.bind (atN s57.2 (Int.toNat s57.1)) fun (y61:α)=>
            Option.bind (idx s57.2 s57.1) fun (y62:α)=>
             Option.bind (atN s57.2 (Int.toNat s57.1)) fun (y63:α)=>
              Option.bind (idx (List.set s57.2 (Int.toNat s57.1) y59) (IntKind.wrap IntKind.i64 (s57.1+(1:Int)))) fun (y64:α)=>
               Option.bind (atN (List.set s57.2 (Int.toNat s57.1) y59) (Int.toNat (IntKind.wrap IntKind.i64 (s57.1+(1:Int))))) fun (y65:α)=>
                some
                 (Sum.inl
                  (IntKind.wrap IntKind.i64 (s57.1+(1:Int)),
                   List.set (List.set s57.2 (Int.toNat s57.1) y59) (Int.toNat (IntKind.wrap IntKind.i64 (s57.1+(1:Int)))) y61))
       else
        Option.map (fun (r:List (α) ⊕ List (α)×Unit)=>Sum.inr r)
         (Option.map (fun (r:List (α)×Unit)=>Sum.inr r) (bif Nat.beq (List.length s57.2) (List.length a0) then some (s57.2,()) else none)))
      (a1,s56.2)
   else some (Sum.inl a0))
   fun (s66:List (α))=>
   q8
    (bif IntKind.wrap IntKind.i64 (a3-a2)==(1:Int) then
     Option.bind
      (zN
       (fun (s117:Int×Int×List (α))=>
        bif decide (s117.1<s117.2.1) then
         Option.bind (idx s117.2.2 a2) fun (y118:α)=>
          Option.bind (atN s117.2.2 (Int.toNat a2)) fun (y119:α)=>
           Option.bind
            (idx s117.2.2
             (IntKind.wrap IntKind.i64
              (Int.fdiv (IntKind.wrap IntKind.u64 (IntKind.wrap IntKind.i64 (s117.1+s117.2.1)))
               ((2:Int)^min (Int.toNat (1:Int)) (IntKind.bits IntKind.u64)))))
            fun (y120:α)=>
            Option.bind
             (atN s117.2.2
              (Int.toNat
               (IntKind.wrap IntKind.i64
                (Int.fdiv (IntKind.wrap IntKind.u64 (IntKind.wrap IntKind.i64 (s117.1+s117.2.1)))
                 ((2:Int)^min (Int.toNat (1:Int)) (IntKind.bits IntKind.u64))))))
             fun (y121:α)=>
             Option.bind (cmp (y119,y121,())) fun (y122:Int)=>
              bif !decide (y122< (0:Int)) then
               some
                (Sum.inl
                 (IntKind.wrap IntKind.i64
                   (IntKind.wrap IntKind.i64
                     (Int.fdiv (IntKind.wrap IntKind.u64 (IntKind.wrap IntKind.i64 (s117.1+s117.2.1)))
                      ((2:Int)^min (Int.toNat (1:Int)) (IntKind.bits IntKind.u64)))+
                    (1:Int)),
                  s117.2))
              else
               some
                (Sum.inl
                 (s117.1,
                  IntKind.wrap IntKind.i64
                   (Int.fdiv (IntKind.wrap IntKind.u64 (IntKind.wrap IntKind.i64 (s117.1+s117.2.1)))
                    ((2:Int)^min (Int.toNat (1:Int)) (IntKind.bits IntKind.u64))),
                  s117.2.2))
        else some (Sum.inr (s117.1,s117.2.2)))
       (a1,a2,s66))
      fun (s123:Int×List (α))=>
      zN
       (fun (s124:Int×List (α))=>
        bif decide (s124.1>s123.1) then
         Option.bind (idx s124.2 (IntKind.wrap IntKind.i64 (s124.1- (1:Int)))) fun (y125:α)=>
          Option.bind (atN s124.2 (Int.toNat (IntKind.wrap IntKind.i64 (s124.1- (1:Int))))) fun (y126:α)=>
           Option.bind (idx s124.2 s124.1) fun (y127:α)=>
            Option.bind (atN s124.2 (Int.toNat s124.1)) fun (y128:α)=>
             Option.bind (idx s124.2 s124.1) fun (y129:α)=>
              Option.bind (atN s124.2 (Int.toNat s124.1)) fun (y130:α)=>
               Option.bind (idx (List.set s124.2 (Int.toNat s124.1) y126) (IntKind.wrap IntKind.i64 (s124.1- (1:Int)))) fun (y131:α)=>
                Option.bind (atN (List.set s124.2 (Int.toNat s124.1) y126) (Int.toNat (IntKind.wrap IntKind.i64 (s124.1- (1:Int)))))
                 fun (y132:α)=>
                 some
                  (Sum.inl
                   (IntKind.wrap IntKind.i64 (s124.1- (1:Int)),
                    List.set (List.set s124.2 (Int.toNat s124.1) y126) (Int.toNat (IntKind.wrap IntKind.i64 (s124.1- (1:Int)))) y128))
        else
         Option.map (fun (r:List (α) ⊕ List (α)×Unit)=>Sum.inr r)
          (Option.map (fun (r:List (α)×Unit)=>Sum.inr r) (bif Nat.beq (List.length s124.2) (List.length a0) then some (s124.2,()) else none)))
       (a2,s123.2)
    else some (Sum.inl s66))
    fun (s133:List (α))=>
    Option.bind
     (bif
       decide
        (a2>
         IntKind.wrap IntKind.i64
          (Int.fdiv (IntKind.wrap IntKind.u64 (IntKind.wrap IntKind.i64 (a1+a3))) ((2:Int)^min (Int.toNat (1:Int)) (IntKind.bits IntKind.u64)))) then
      some
       (IntKind.wrap IntKind.i64
         (IntKind.wrap IntKind.i64
           (IntKind.wrap IntKind.i64
             (Int.fdiv (IntKind.wrap IntKind.u64 (IntKind.wrap IntKind.i64 (a1+a3))) ((2:Int)^min (Int.toNat (1:Int)) (IntKind.bits IntKind.u64)))+
            a2) -
          a3),
        IntKind.wrap IntKind.i64 (Int.fdiv (IntKind.wrap IntKind.u64 (IntKind.wrap IntKind.i64 (a1+a3))) ((2:Int)^min (Int.toNat (1:Int)) (IntKind.bits IntKind.u64))),
        s133)
     else some (a1,a2,s133))
     fun (s134:Int×Int×List (α))=>
     Option.bind
      (zN
       (fun (s152:Int×Int×List (α))=>
        bif decide (s152.1<s152.2.1) then
         Option.bind
          (idx s152.2.2
           (IntKind.wrap IntKind.i64
            (IntKind.wrap IntKind.i64
              (IntKind.wrap IntKind.i64
                (IntKind.wrap IntKind.i64
                  (Int.fdiv (IntKind.wrap IntKind.u64 (IntKind.wrap IntKind.i64 (a1+a3))) ((2:Int)^min (Int.toNat (1:Int)) (IntKind.bits IntKind.u64)))+
                 a2) -
               (1:Int)) -
             IntKind.wrap IntKind.i64
              (Int.fdiv (IntKind.wrap IntKind.u64 (IntKind.wrap IntKind.i64 (s152.1+s152.2.1)))
               ((2:Int)^min (Int.toNat (1:Int)) (IntKind.bits IntKind.u64))))))
          fun (y153:α)=>
          Option.bind
           (atN s152.2.2
            (Int.toNat
             (IntKind.wrap IntKind.i64
              (IntKind.wrap IntKind.i64
                (IntKind.wrap IntKind.i64
                  (IntKind.wrap IntKind.i64
                    (Int.fdiv (IntKind.wrap IntKind.u64 (IntKind.wrap IntKind.i64 (a1+a3))) ((2:Int)^min (Int.toNat (1:Int)) (IntKind.bits IntKind.u64)))+
                   a2) -
                 (1:Int)) -
               IntKind.wrap IntKind.i64
                (Int.fdiv (IntKind.wrap IntKind.u64 (IntKind.wrap IntKind.i64 (s152.1+s152.2.1)))
                 ((2:Int)^min (Int.toNat (1:Int)) (IntKind.bits IntKind.u64)))))))
           fun (y154:α)=>
           Option.bind
            (idx s152.2.2
             (IntKind.wrap IntKind.i64
              (Int.fdiv (IntKind.wrap IntKind.u64 (IntKind.wrap IntKind.i64 (s152.1+s152.2.1)))
               ((2:Int)^min (Int.toNat (1:Int)) (IntKind.bits IntKind.u64)))))
            fun (y155:α)=>
            Option.bind
             (atN s152.2.2
              (Int.toNat
               (IntKind.wrap IntKind.i64
                (Int.fdiv (IntKind.wrap IntKind.u64 (IntKind.wrap IntKind.i64 (s152.1+s152.2.1)))
                 ((2:Int)^min (Int.toNat (1:Int)) (IntKind.bits IntKind.u64))))))
             fun (y156:α)=>
             Option.bind (cmp (y154,y156,())) fun (y157:Int)=>
              bif !decide (y157< (0:Int)) then
               some
                (Sum.inl
                 (IntKind.wrap IntKind.i64
                   (IntKind.wrap IntKind.i64
                     (Int.fdiv (IntKind.wrap IntKind.u64 (IntKind.wrap IntKind.i64 (s152.1+s152.2.1)))
                      ((2:Int)^min (Int.toNat (1:Int)) (IntKind.bits IntKind.u64)))+
                    (1:Int)),
                  s152.2))
              else
               some
                (Sum.inl
                 (s152.1,
                  IntKind.wrap IntKind.i64
                   (Int.fdiv (IntKind.wrap IntKind.u64 (IntKind.wrap IntKind.i64 (s152.1+s152.2.1)))
                    ((2:Int)^min (Int.toNat (1:Int)) (IntKind.bits IntKind.u64))),
                  s152.2.2))
        else some (Sum.inr (s152.1,s152.2.2)))
       s134)
      fun (s158:Int×List (α))=>
      Option.bind
       (Option.bind
        (bif decide (s158.1<a2) then
         some
          (decide
            (a2<
             IntKind.wrap IntKind.i64
              (IntKind.wrap IntKind.i64
                (IntKind.wrap IntKind.i64
                  (Int.fdiv (IntKind.wrap IntKind.u64 (IntKind.wrap IntKind.i64 (a1+a3))) ((2:Int)^min (Int.toNat (1:Int)) (IntKind.bits IntKind.u64)))+
                 a2) -
               s158.1)),
           s158.2)
        else some (false,s158.2))
        fun (s161:Bool×List (α))=>
        bif s161.1 then
         bif Nat.beq (List.length s161.2) (List.length s161.2) then
          Option.bind
           (zQI cmp s161.2
            (s158.1,a2,
             IntKind.wrap IntKind.i64
              (IntKind.wrap IntKind.i64
                (IntKind.wrap IntKind.i64
                  (Int.fdiv (IntKind.wrap IntKind.u64 (IntKind.wrap IntKind.i64 (a1+a3))) ((2:Int)^min (Int.toNat (1:Int)) (IntKind.bits IntKind.u64)))+
                 a2) -
               s158.1),
             (),()))
           fun (y162:List (α)×Unit)=>some y162.1
         else none
        else some s161.2)
       fun (s163:List (α))=>
       Option.bind
        (Option.bind
         (bif decide (a1<s158.1) then
          some
           (decide
             (s158.1<
              IntKind.wrap IntKind.i64
               (Int.fdiv (IntKind.wrap IntKind.u64 (IntKind.wrap IntKind.i64 (a1+a3))) ((2:Int)^min (Int.toNat (1:Int)) (IntKind.bits IntKind.u64)))),
            s163)
         else some (false,s163))
         fun (s166:Bool×List (α))=>
         bif s166.1 then
          bif Nat.beq (List.length s166.2) (List.length s166.2) then
           Option.bind
            (self s166.2
             (a1,s158.1,
              IntKind.wrap IntKind.i64
               (Int.fdiv (IntKind.wrap IntKind.u64 (IntKind.wrap IntKind.i64 (a1+a3))) ((2:Int)^min (Int.toNat (1:Int)) (IntKind.bits IntKind.u64))),
              (),()))
            fun (y167:List (α)×Unit)=>some y167.1
          else none
         else some s166.2)
        fun (s168:List (α))=>
        Option.bind
         (bif
           decide
            (IntKind.wrap IntKind.i64
              (Int.fdiv (IntKind.wrap IntKind.u64 (IntKind.wrap IntKind.i64 (a1+a3))) ((2:Int)^min (Int.toNat (1:Int)) (IntKind.bits IntKind.u64)))<
             IntKind.wrap IntKind.i64
              (IntKind.wrap IntKind.i64
                (IntKind.wrap IntKind.i64
                  (Int.fdiv (IntKind.wrap IntKind.u64 (IntKind.wrap IntKind.i64 (a1+a3))) ((2:Int)^min (Int.toNat (1:Int)) (IntKind.bits IntKind.u64)))+
                 a2) -
               s158.1)) then
          some
           (decide
             (IntKind.wrap IntKind.i64
               (IntKind.wrap IntKind.i64
                 (IntKind.wrap IntKind.i64
                   (Int.fdiv (IntKind.wrap IntKind.u64 (IntKind.wrap IntKind.i64 (a1+a3))) ((2:Int)^min (Int.toNat (1:Int)) (IntKind.bits IntKind.u64)))+
                  a2) -
                s158.1)<
              a3),
            s168)
         else some (false,s168))
         fun (s169:Bool×List (α))=>
         bif s169.1 then
          bif Nat.beq (List.length s169.2) (List.length s169.2) then
           Option.bind
            (self s169.2
             (IntKind.wrap IntKind.i64
               (Int.fdiv (IntKind.wrap IntKind.u64 (IntKind.wrap IntKind.i64 (a1+a3))) ((2:Int)^min (Int.toNat (1:Int)) (IntKind.bits IntKind.u64))),
              IntKind.wrap IntKind.i64
               (IntKind.wrap IntKind.i64
                 (IntKind.wrap IntKind.i64
                   (Int.fdiv (IntKind.wrap IntKind.u64 (IntKind.wrap IntKind.i64 (a1+a3))) ((2:Int)^min (Int.toNat (1:Int)) (IntKind.bits IntKind.u64)))+
                  a2) -
                s158.1),
              a3,(),()))
            fun (y170:List (α)×Unit)=>bif Nat.beq (List.length y170.1) (List.length a0) then some (y170.1,()) else none
          else none
         else bif Nat.beq (List.length s169.2) (List.length a0) then some (s169.2,()) else none
noncomputable def zBl {α:Type} (cmp:α×α×Unit→Option Int):Nat→(List α→(Int×Int×Int×Unit×Unit)→Option (List α×Unit))
 |0=>fun _ _=>none
 |n+1=>zGB cmp (zBl cmp n)
noncomputable def zEH {α:Type} (cmp:α×α×Unit→Option Int):List α→(Int×Int×Int×Unit×Unit)→Option (List α×Unit):=zBl cmp 1048576
noncomputable def zJL {α:Type} (cmp:α×α×Unit→Option Int):List α→(Int×Unit×Unit)→Option (List α×Unit):=fun a0 x=>match x with
 |(a1,(),())=>
  Option.bind
   (zN
    (fun (s4:Int×List (α)×Int)=>
     bif decide (s4.1≤a1) then
      bif Nat.beq (List.length s4.2.1) (List.length s4.2.1) then
       Option.bind (zAk cmp s4.2.1 (s4.2.2,s4.1,(),())) fun (y5:List (α)×Unit)=>
        some (Sum.inl (IntKind.wrap IntKind.i64 (s4.1+(20:Int)),y5.1,s4.1))
      else none
     else some (Sum.inr s4.2))
    ((20:Int),a0,(0:Int)))
   fun (s6:List (α)×Int)=>
   bif Nat.beq (List.length s6.1) (List.length s6.1) then
    Option.bind (zAk cmp s6.1 (s6.2,a1,(),())) fun (y7:List (α)×Unit)=>
     zN
      (fun (s30:Int×List (α))=>
       bif decide (s30.1<a1) then
        Option.bind
         (zN
          (fun (s31:Int×List (α)×Int)=>
           bif decide (s31.1≤a1) then
            bif Nat.beq (List.length s31.2.1) (List.length s31.2.1) then
             Option.bind (zEH cmp s31.2.1 (s31.2.2,IntKind.wrap IntKind.i64 (s31.2.2+s30.1),s31.1,(),()))
              fun (y32:List (α)×Unit)=>
              some (Sum.inl (IntKind.wrap IntKind.i64 (s31.1+IntKind.wrap IntKind.i64 ((2:Int)*s30.1)),y32.1,s31.1))
            else none
           else some (Sum.inr (s31.2.2,s31.2.1)))
          (IntKind.wrap IntKind.i64 ((2:Int)*s30.1),s30.2,(0:Int)))
         fun (s33:Int×List (α))=>
         Option.bind
          (bif decide (IntKind.wrap IntKind.i64 (s33.1+s30.1)<a1) then
           bif Nat.beq (List.length s33.2) (List.length s33.2) then
            Option.bind (zEH cmp s33.2 (s33.1,IntKind.wrap IntKind.i64 (s33.1+s30.1),a1,(),())) fun (y34:List (α)×Unit)=>
             some y34.1
           else none
          else some s33.2)
          fun (s35:List (α))=>some (Sum.inl (IntKind.wrap IntKind.i64 (s30.1*(2:Int)),s35))
       else Option.map (fun (r:List (α)×Unit)=>Sum.inr r) (bif Nat.beq (List.length s30.2) (List.length a0) then some (s30.2,()) else none))
      ((20:Int),y7.1)
   else none
noncomputable def zD6 {α:Type} (cmp:α×α×Unit→Option Int):List α→(Unit×Unit)→Option (List α×Unit):=fun a0 x=>match x with
 |((),())=>
  bif Nat.beq (List.length a0) (List.length a0)&&Nat.beq (List.length a0) (List.length a0) then
   Option.bind (zJL cmp a0 ((↑(List.length a0):Int),(),())) fun (y0:List (α)×Unit)=>
    bif Nat.beq (List.length y0.1) (List.length a0) then some (y0.1,()) else none
  else none
end Go.Ve

namespace Go.Ve
open Go
set_option maxRecDepth 1000000
set_option maxHeartbeats 4000000
section
variable {α:Type} {cmp:α×α×Unit→Option Int}
theorem zCX (xs:List α) (a b n:Nat) (hab:a+n≤b) (hb:b+n≤xs.length) (hl:xs.length<4611686018427387904):
  Wp (zDy cmp xs ((a:Int),(b:Int),(n:Int),(),())) (fun r=>r.1.length=xs.length∧ ∀k,r.1[k]? =swF a b n xs k):=by
 unfold zDy
 dsimp only
 refine j7 (fun s:Int×List α=> ∃i:Nat,s.1=(i:Int)∧i≤n∧s.2.length=xs.length∧ ∀k,s.2[k]? =swF a b i xs k) (fun s=>((n:Int) -s.1).toNat) ⟨0,rfl,Nat.zero_le _,rfl,fun k=>zW4.symm⟩ ?_
 rintro ⟨s,zs⟩ ⟨i,hi,hin,hzl,hz⟩
 simp only at hi hzl hz
 subst hi
 refine zI (fun h=> ?_) (fun h=> ?_)
 ·have h:(i:Int)< (n:Int):=h
  have hx:zs[a+i]? =some (zs[a+i]'(by omega)):=by simp
  have hy:zs[b+i]? =some (zs[b+i]'(by omega)):=by simp
  have hy2:(zs.set (a+i) (zs[b+i]'(by omega)))[b+i]? =some (zs[b+i]'(by omega)):=by rw [List.getElem?_set_ne (by omega)];exact hy
  dsimp only
  rw [zG (x:=(b:Int)+(i:Int)) (by omega) (by omega),zG (x:=(a:Int)+(i:Int)) (by omega) (by omega),show ((b:Int)+(i:Int))=((b+i:Nat):Int) by omega,show ((a:Int)+(i:Int))=((a+i:Nat):Int) by omega]
  simp only [zJ hx,zJ hy,Int.toNat_natCast,vZ hx,vZ hy,Option.bind_some,zJ hy2,vZ hy2]
  refine zA (e2l ⟨⟨i+1,?_,by omega,by simp only [List.length_set];exact hzl,zW5 (by omega) (by omega) hzl hz hx hy⟩,?_⟩)
  ·simp only;rw [zG (by omega) (by omega)];omega
  ·simp only;rw [zG (by omega) (by omega)];omega
 ·have h: ¬(i:Int)< (n:Int):=h
  have:i=n:=by omega
  subst this
  exact zAM (zD (fun _=>zA (e2r ⟨hzl,hz⟩)) (fun h=>absurd h (by simp only;rw [hzl,Nat.beq_refl];decide)))
theorem zFT {xs ys:List α} (h:xs.length=ys.length):Nat.beq xs.length ys.length=true:=by rw [h];exact Nat.beq_refl _
theorem zQx (xs:List α) (a m b:Nat) (ham:a<m) (hmb:m<b) (hb:b≤xs.length) (hl:xs.length<4611686018427387904):
  Wp (zQI cmp xs ((a:Int),(m:Int),(b:Int),(),())) (fun r=>r.1.length=xs.length∧ ∀k,r.1[k]? =yV a m b xs k):=by
 unfold zQI
 dsimp only
 rw [zG (x:=(m:Int) - (a:Int)) (by omega) (by omega),zG (x:=(b:Int) - (m:Int)) (by omega) (by omega)]
 refine zC ((show Wp _ (fun s:List α×Int=>s.1.length=xs.length∧ ∃i:Nat,s.2=(i:Int)∧0<i∧i≤m∧m+i≤b∧ ∀k,yV (m-i) m (m+i) s.1 k=yV a m b xs k) from ?_).mono ?_)
 ·refine j7 (fun s:Int×Int×List α=>s.2.2.length=xs.length∧ ∃i j:Nat,s.1=(i:Int)∧s.2.1=(j:Int)∧0<i∧0<j∧i≤m-a∧m+j≤b∧ ∀k,yV (m-i) m (m+j) s.2.2 k=yV a m b xs k) (fun s=>(s.1+s.2.1).toNat)
   ⟨rfl,m-a,b-m,by simp only;omega,by simp only;omega,by omega,by omega,by omega,by omega,fun k=>by rw [show m- (m-a)=a by omega,show m+(b-m)=b by omega]⟩ ?_
  rintro ⟨si,sj,zs⟩ ⟨hzl,i,j,hi,hj,hi0,hj0,hia,hjb,hz⟩
  simp only at hi hj hzl hz
  subst hi hj
  refine zD (fun hne=> ?_) (fun he=>zA (e2r ⟨hzl,i,rfl,hi0,by omega,?_,?_⟩))
  ·have hne: ¬(i:Int)=(j:Int):=by simpa using hne
   refine zI (fun hgt=> ?_) (fun hgt=> ?_)
   ·have hgt:(i:Int)>(j:Int):=hgt
    refine zD (fun _=> ?_) (fun h=>absurd h (by rw [Nat.beq_refl];decide))
    dsimp only
    rw [zG (x:=(m:Int) - (i:Int)) (by omega) (by omega),zG (x:=(i:Int) - (j:Int)) (by omega) (by omega),show ((m:Int) - (i:Int))=((m-i:Nat):Int) by omega]
    refine zC ((zCX zs (m-i) m j (by omega) (by omega) (by omega)).mono (fun y hy=>zA (e2l ⟨⟨hy.1.trans hzl,i-j,j,?_,rfl,by omega,hj0,by omega,hjb,fun k=> ?_⟩,?_⟩)))
    ·simp only;omega
    ·rw [←hz k, ←zXk (lo:=m-i) (m:=m) (hi:=m+j) (xs:=zs) (zs:=y.1) (by omega) (by omega) (by omega) (fun k=>by rw [hy.2,show m+j-m=j by omega]) k,show m- (i-j)=m-i+(m+j-m) by omega]
    ·simp only;omega
   ·have hgt: ¬(i:Int)>(j:Int):=hgt
    refine zD (fun _=> ?_) (fun h=>absurd h (by rw [Nat.beq_refl];decide))
    dsimp only
    rw [zG (x:=(m:Int) - (i:Int)) (by omega) (by omega),zG (x:=(m:Int)+(j:Int)) (by omega) (by omega),zG (x:=(m:Int)+(j:Int) - (i:Int)) (by omega) (by omega),zG (x:=(j:Int) - (i:Int)) (by omega) (by omega),show ((m:Int) - (i:Int))=((m-i:Nat):Int) by omega,show ((m:Int)+(j:Int) - (i:Int))=((m+j-i:Nat):Int) by omega]
    refine zC ((zCX zs (m-i) (m+j-i) i (by omega) (by omega) (by omega)).mono (fun y hy=>zA (e2l ⟨⟨hy.1.trans hzl,i,j-i,rfl,?_,hi0,by omega,hia,by omega,fun k=> ?_⟩,?_⟩)))
    ·simp only;omega
    ·rw [←hz k, ←zVS (lo:=m-i) (m:=m) (hi:=m+j) (xs:=zs) (zs:=y.1) (by omega) (by omega) (by omega) (fun k=>by rw [hy.2,show m- (m-i)=i by omega]) k,show m+(j-i)=m+j- (m- (m-i)) by omega]
    ·simp only;omega
  ·have he:(i:Int)=(j:Int):=by simpa using he
   omega
  ·have he:(i:Int)=(j:Int):=by simpa using he
   have:i=j:=by omega
   subst this
   exact hz
 ·rintro ⟨zs,s⟩ ⟨hzl,i,hi,hi0,him,hmi,hz⟩
  simp only at hi hzl hz
  subst hi
  refine zD (fun _=> ?_) (fun h=>absurd h (by rw [Nat.beq_refl];decide))
  dsimp only
  rw [zG (x:=(m:Int) - (i:Int)) (by omega) (by omega),show ((m:Int) - (i:Int))=((m-i:Nat):Int) by omega]
  refine zC ((zCX zs (m-i) m i (by omega) (by omega) (by omega)).mono (fun y hy=> ?_))
  refine zD (fun _=>zA ⟨hy.1.trans hzl,fun k=> ?_⟩) (fun h=>absurd h (by rw [zFT (hy.1.trans hzl)];decide))
  rw [←hz k]
  exact zXl (lo:=m-i) (m:=m) (hi:=m+i) (by omega) (by omega) (by omega) (fun k=>by rw [hy.2,show m- (m-i)=i by omega]) k
end
end Go.Ve

namespace Go.Ve
open Go
set_option maxHeartbeats 4000000
section
variable {α κ:Type} {lt:α→α→Prop} {key:α→κ}
structure zMn (lt:α→α→Prop) (key:α→κ):Prop where
 ord:Ord lt
 ne: ∀x y,lt x y→key x≠key y
open Classical in
noncomputable def zLt (key:α→κ) (p:κ) (xs:List α):List α:=xs.filter (fun x=>decide (key x=p))
def zGc (key:α→κ) (xs ys:List α):Prop:= ∀p,zLt key p xs=zLt key p ys
theorem zGc.refl (xs:List α):zGc key xs xs:=fun _=>rfl
theorem zGc.trans {xs ys zs:List α} (h1:zGc key xs ys) (h2:zGc key ys zs):zGc key xs zs:=fun p=>(h1 p).trans (h2 p)
theorem zSP (p:κ) (xs ys:List α):zLt key p (xs++ys)=zLt key p xs++zLt key p ys:=List.filter_append ..
theorem zSO {p:κ} {xs:List α} (h: ∀x,x∈xs→key x≠p):zLt key p xs=[]:=by
 unfold zLt
 rw [List.filter_eq_nil_iff]
 intro x hx
 simpa using h x hx
theorem zVP (hk:zMn lt key) {P U V S:List α} (h: ∀x y,x∈U→y∈V→lt y x):zGc key (P++U++V++S) (P++V++U++S):=by
 intro p
 simp only [zSP]
 congr 1
 rw [List.append_assoc,List.append_assoc]
 congr 1
 by_cases hu: ∃x,x∈U∧key x=p
 ·obtain ⟨x,hx,rfl⟩:=hu
  rw [zSO (xs:=V) (fun y hy=>hk.ne _ _ (h x y hx hy))]
  simp
 ·rw [zSO (xs:=U) (fun x hx e=>hu ⟨x,hx,e⟩)]
  simp
structure xH (key:α→κ) (a b:Nat) (xs ys:List α):Prop where
 len:ys.length=xs.length
 out: ∀k,k<a∨b≤k→ys[k]? =xs[k]?
 ins: ∀q y,a≤q→q<b→ys[q]? =some y→ ∃q',a≤q'∧q'<b∧xs[q']? =some y
 same:zGc key xs ys
theorem xH.refl (a b:Nat) (xs:List α):xH key a b xs xs:=⟨rfl,fun _ _=>rfl,fun q y h1 h2 h3=>⟨q,h1,h2,h3⟩,zGc.refl xs⟩
theorem xH.trans {a b:Nat} {xs ys zs:List α} (h1:xH key a b xs ys) (h2:xH key a b ys zs):xH key a b xs zs:=by
 refine ⟨h2.len.trans h1.len,fun k hk=>(h2.out k hk).trans (h1.out k hk),?_,h1.same.trans h2.same⟩
 intro q y hq1 hq2 hy
 obtain ⟨q',g1,g2,g3⟩:=h2.ins q y hq1 hq2 hy
 exact h1.ins q' y g1 g2 g3
theorem xH.mono {a b a' b':Nat} {xs ys:List α} (h:xH key a b xs ys) (ha:a'≤a) (hb:b≤b'):xH key a' b' xs ys:=by
 refine ⟨h.len,fun k hk=>h.out k (by omega),?_,h.same⟩
 intro q y hq1 hq2 hy
 by_cases hq:a≤q∧q<b
 ·obtain ⟨q',g1,g2,g3⟩:=h.ins q y hq.1 hq.2 hy
  exact ⟨q',by omega,by omega,g3⟩
 ·exact ⟨q,hq1,hq2,by rw [←h.out q (by omega)];exact hy⟩
def w7 (lt:α→α→Prop) (lo hi:Nat) (xs:List α):Prop:= ∀p q x y,lo≤p→p<q→q<hi→xs[p]? =some x→xs[q]? =some y→ ¬lt y x
theorem w7.out {lo hi a b:Nat} {xs ys:List α} (h:w7 lt lo hi xs) (hs:xH key a b xs ys) (hd:hi≤a∨b≤lo):w7 lt lo hi ys:=by
 intro p q x y h1 h2 h3 hx hy
 rw [hs.out p (by omega)] at hx
 rw [hs.out q (by omega)] at hy
 exact h p q x y h1 h2 h3 hx hy
theorem zIU {a c b:Nat} {xs:List α} (h1:w7 lt a c xs) (h2:w7 lt c b xs) (h3: ∀q r x y,a≤q→q<c→c≤r→r<b→xs[q]? =some x→xs[r]? =some y→ ¬lt y x):w7 lt a b xs:=by
 intro p q x y hp hpq hq hx hy
 by_cases g1:q<c
 ·exact h1 p q x y hp hpq g1 hx hy
 ·by_cases g2:p<c
  ·exact h3 p q x y hp g2 (by omega) hq hx hy
  ·exact h2 p q x y (by omega) hpq hq hx hy
theorem zVM {a:Nat} {xs:List α} :w7 lt a (a+1) xs:=fun p q x y h1 h2 h3 _ _=>by omega
theorem w7.sub {a b a' b':Nat} {xs:List α} (h:w7 lt a b xs) (ha:a≤a') (hb:b'≤b):w7 lt a' b' xs:=fun p q x y h1 h2 h3 hx hy=>h p q x y (by omega) h2 (by omega) hx hy
theorem zJW (hk:zMn lt key) {lo m hi:Nat} {xs zs:List α} (h1:lo≤m) (h2:m≤hi) (h3:hi≤xs.length) (hl:zs.length=xs.length) (h: ∀k,zs[k]? =yV lo m hi xs k)
  (hlt: ∀q r x y,lo≤q→q<m→m≤r→r<hi→xs[q]? =some x→xs[r]? =some y→lt y x):xH key lo hi xs zs:=by
 have hsplit:xs=xs.take lo++(xs.drop lo).take (m-lo)++(xs.drop m).take (hi-m)++xs.drop hi:=by
  refine List.ext_getElem? (fun k=> ?_)
  simp only [List.getElem?_append,List.length_append,List.length_take,List.length_drop,List.getElem?_take,List.getElem?_drop]
  repeat' split
  all_goals first
   |rfl
   |exact zAR (by omega)
   |(exfalso;omega)
 have hz:zs=xs.take lo++(xs.drop m).take (hi-m)++(xs.drop lo).take (m-lo)++xs.drop hi:=by
  refine List.ext_getElem? (fun k=> ?_)
  rw [h]
  unfold yV
  simp only [List.getElem?_append,List.length_append,List.length_take,List.length_drop,List.getElem?_take,List.getElem?_drop]
  repeat' split
  all_goals first
   |rfl
   |exact zAR (by omega)
   |(exfalso;omega)
 refine ⟨hl,?_,?_,?_⟩
 ·intro k hk'
  rw [h]
  unfold yV
  rw [if_neg (by omega),if_neg (by omega)]
 ·intro q y hq1 hq2 hy
  rw [h] at hy
  unfold yV at hy
  split at hy
  ·exact ⟨q+(m-lo),by omega,by omega,hy⟩
  ·split at hy
   ·exact ⟨q- (hi-m),by omega,by omega,hy⟩
   ·exact ⟨q,hq1,hq2,hy⟩
 ·have hs:=zVP hk (P:=xs.take lo) (U:=(xs.drop lo).take (m-lo)) (V:=(xs.drop m).take (hi-m)) (S:=xs.drop hi) ?_
  ·rw [←hsplit, ←hz] at hs
   exact hs
  ·intro x y hx hy
   obtain ⟨i,hi',hx'⟩:=List.getElem_of_mem hx
   obtain ⟨j,hj',hy'⟩:=List.getElem_of_mem hy
   have e1:xs[lo+i]? =some x:=by
    have:((xs.drop lo).take (m-lo))[i]? =some x:=by rw [List.getElem?_eq_getElem hi',hx']
    rw [List.getElem?_take,List.getElem?_drop] at this
    split at this
    ·exact this
    ·cases this
   have e2:xs[m+j]? =some y:=by
    have:((xs.drop m).take (hi-m))[j]? =some y:=by rw [List.getElem?_eq_getElem hj',hy']
    rw [List.getElem?_take,List.getElem?_drop] at this
    split at this
    ·exact this
    ·cases this
   simp only [List.length_take,List.length_drop] at hi' hj'
   exact hlt (lo+i) (m+j) x y (by omega) (by omega) (by omega) (by omega) e1 e2
theorem zY8 {a k:Nat} {xs zs:List α} (hak:a≤k) (hk:k+1<xs.length) (hl:zs.length=xs.length) (h: ∀j,zs[j]? =yV a (a+1) (k+1) xs j) {x y:α} (hx:zs[k]? =some x) (hy:zs[k+1]? =some y):
  ∀j,((zs.set k y).set (k+1) x)[j]? =yV a (a+1) (k+2) xs j:=by
 intro j
 have h1:=h k
 have h2:=h (k+1)
 unfold yV at h1 h2
 rw [hx,if_neg (by omega),if_pos (by omega)] at h1
 rw [hy,if_neg (by omega),if_neg (by omega)] at h2
 unfold yV
 by_cases e1:j=k+1
 ·subst e1
  rw [List.getElem?_set_self (by rw [List.length_set];omega),if_neg (by omega),if_pos (by omega),h1]
  exact zAR (by omega)
 ·rw [List.getElem?_set_ne (by omega)]
  by_cases e2:j=k
  ·subst e2
   rw [List.getElem?_set_self (by omega),if_pos (by omega),h2]
   exact zAR (by omega)
  ·rw [List.getElem?_set_ne (by omega),h j]
   unfold yV
   repeat' split
   all_goals first
    |rfl
    |exact zAR (by omega)
    |(exfalso;omega)
theorem zPN {m k:Nat} {xs zs:List α} (hk0:0<k) (hkm:k≤m) (hm:m<xs.length) (hl:zs.length=xs.length) (h: ∀j,zs[j]? =yV k m (m+1) xs j) {x y:α} (hx:zs[k]? =some x) (hy:zs[k-1]? =some y):
  ∀j,((zs.set k y).set (k-1) x)[j]? =yV (k-1) m (m+1) xs j:=by
 intro j
 have h1:=h k
 have h2:=h (k-1)
 unfold yV at h1 h2
 rw [hx,if_pos (by omega)] at h1
 rw [hy,if_neg (by omega),if_neg (by omega)] at h2
 unfold yV
 by_cases e1:j=k-1
 ·subst e1
  rw [List.getElem?_set_self (by rw [List.length_set];omega),if_pos (by omega),h1]
  exact zAR (by omega)
 ·rw [List.getElem?_set_ne (by omega)]
  by_cases e2:j=k
  ·subst e2
   rw [List.getElem?_set_self (by omega),if_neg (by omega),if_pos (by omega),h2]
   exact zAR (by omega)
  ·rw [List.getElem?_set_ne (by omega),h j]
   unfold yV
   repeat' split
   all_goals first
    |rfl
    |exact zAR (by omega)
    |(exfalso;omega)
theorem zXm {a:Nat} {xs:List α} (j:Nat):yV a (a+1) (a+1) xs j=xs[j]? :=by
 unfold yV
 repeat' split
 all_goals first
  |rfl
  |exact zAR (by omega)
  |(exfalso;omega)
theorem zR8 {m:Nat} {xs:List α} (j:Nat):yV m m (m+1) xs j=xs[j]? :=by
 unfold yV
 repeat' split
 all_goals first
  |rfl
  |exact zAR (by omega)
  |(exfalso;omega)
end
theorem zQT (i j:Nat) (h:i+j<4611686018427387904):IntKind.wrap .i64 (Int.fdiv (IntKind.wrap .u64 (IntKind.wrap .i64 ((i:Int)+(j:Int)))) ((2:Int)^min (Int.toNat (1:Int)) (IntKind.bits .u64)))=(((i+j) / 2:Nat):Int):=by
 have e:((2:Int)^min (Int.toNat (1:Int)) (IntKind.bits .u64))=2:=by decide
 rw [e,zG (x:=(i:Int)+(j:Int)) (by omega) (by omega),zJA (x:=(i:Int)+(j:Int)) (by omega) (by omega),Int.fdiv_eq_ediv_of_nonneg _ (by omega)]
 rw [zG (by omega) (by omega)]
 omega
end Go.Ve

namespace Go.Ve
open Go
set_option maxRecDepth 1000000
set_option maxHeartbeats 4000000
theorem zU5 {σ ρ:Type} {m:Option (σ ⊕ ρ)} {K:σ→Option ρ} {Q:ρ→Prop} (P:σ→Prop) (h:Wp m (vJ P Q)) (hK: ∀s,P s→Wp (K s) Q):Wp (q8 m K) Q:=by
 refine qE (h.mono ?_)
 intro o ho
 cases o with
 |inl s=>exact hK s ho
 |inr r=>exact ho
theorem zIy {β:Type} {z:β} {i0 j0:Nat} {P:Nat→Prop} {T:Int×Int×β→Option ((Int×Int×β) ⊕ (Int×β))} (hij:i0≤j0)
  (step: ∀i j:Nat,i0≤i→i<j→j≤j0→Wp (T ((i:Int),(j:Int),z)) (fun o=>(o=Sum.inl ((((i+j) / 2+1:Nat):Int),(j:Int),z)∧P ((i+j) / 2))∨(o=Sum.inl ((i:Int),(((i+j) / 2:Nat):Int),z)∧ ¬P ((i+j) / 2)))):
  Wp (zN (fun s:Int×Int×β=>bif decide (s.1<s.2.1) then T s else some (Sum.inr (s.1,s.2.2))) ((i0:Int),(j0:Int),z)) (fun s=>s.2=z∧ ∃i:Nat,s.1=(i:Int)∧i0≤i∧i≤j0∧(i0<i→P (i-1))∧(i<j0→ ¬P i)):=by
 refine j7 (fun s:Int×Int×β=>s.2.2=z∧ ∃i j:Nat,s.1=(i:Int)∧s.2.1=(j:Int)∧i0≤i∧i≤j∧j≤j0∧(i0<i→P (i-1))∧(j<j0→ ¬P j)) (fun s=>(s.2.1-s.1).toNat)
  ⟨rfl,i0,j0,rfl,rfl,Nat.le_refl _,hij,Nat.le_refl _,fun h=>by omega,fun h=>by omega⟩ ?_
 rintro ⟨si,sj,y⟩ ⟨hy,i,j,hi,hj,h1,h2,h3,h4,h5⟩
 simp only at hi hj hy
 subst hi hj hy
 refine zI (fun h=> ?_) (fun h=>zA (e2r ⟨rfl,i,rfl,h1,by omega,h4,?_⟩))
 ·have h:(i:Int)< (j:Int):=h
  refine (step i j h1 (by omega) h3).mono ?_
  rintro o (⟨rfl,hp⟩|⟨rfl,hp⟩)
  ·refine ⟨⟨rfl,(i+j) / 2+1,j,rfl,rfl,by omega,by omega,h3,fun _=>by rw [Nat.add_sub_cancel];exact hp,h5⟩,?_⟩
   simp only;omega
  ·refine ⟨⟨rfl,i,(i+j) / 2,rfl,rfl,h1,by omega,by omega,h4,fun _=>hp⟩,?_⟩
   simp only;omega
 ·have h: ¬(i:Int)< (j:Int):=h
  have:i=j:=by omega
  subst this
  exact h5
section
variable {α κ:Type} {cmp:α×α×Unit→Option Int} {lt:α→α→Prop} {key:α→κ}
theorem vY {xs:List α} {i:Nat} (h:i<xs.length):xs[i]? =some xs[i]:=by simp [h]
theorem zEI (hk:zMn lt key) (hcmp: ∀x y,Wp (cmp (x,y,())) (fun c=>c<0↔lt x y)): ∀ (n:Nat) (xs:List α) (a m b:Nat),a<m→m<b→b≤xs.length→xs.length<1099511627776→b-a≤n→w7 lt a m xs→w7 lt m b xs→
  Wp (zBl cmp n xs ((a:Int),(m:Int),(b:Int),(),())) (fun r=>xH key a b xs r.1∧w7 lt a b r.1):=by
 have ho:=hk.ord
 have tr1: ∀x y z, ¬lt y x→lt y z→lt x z:=fun x y z h1 h2=>Classical.byContradiction (fun h3=>ho.tr z x y h3 h1 h2)
 have tr2: ∀x y z,lt x y→ ¬lt z y→lt x z:=fun x y z h1 h2=>Classical.byContradiction (fun h3=>ho.tr y z x h2 h3 h1)
 intro n
 induction n with
 |zero=>intro xs a m b h1 h2 _ _ h3;omega
 |succ n ih=>
  intro xs a m b ham hmb hb hl hn hs1 hs2
  have ha? :=vY (xs:=xs) (i:=a) (by omega)
  have hm? :=vY (xs:=xs) (i:=m) (by omega)
  simp only [zBl]
  unfold zGB
  dsimp only
  rw [zG (x:=(m:Int) - (a:Int)) (by omega) (by omega),zG (x:=(b:Int) - (m:Int)) (by omega) (by omega)]
  refine zU5 (fun s:List α=>s=xs∧m≠a+1) ?_ ?_
  ·refine zD (fun h=> ?_) (fun h=>zA (e2l ⟨rfl,?_⟩))
   ·have h:(m:Int) - (a:Int)=1:=by simpa using h
    have hma:m=a+1:=by omega
    subst hma
    refine zC ((zIy (z:=xs) (i0:=a+1) (j0:=b) (P:=fun q=> ∀y,xs[q]? =some y→lt y xs[a]) (by omega) ?_).mono ?_)
    ·intro i j hi hij hj
     have hh:=vY (xs:=xs) (i:=(i+j) / 2) (by omega)
     dsimp only
     rw [zQT i j (by omega)]
     simp only [zJ hh,Int.toNat_natCast,vZ hh,zJ ha?,vZ ha?,Option.bind_some]
     refine zC ((hcmp _ _).mono (fun c hc=>zI (fun h1=>zA (.inl ⟨?_,fun y hy=> ?_⟩)) (fun h1=>zA (.inr ⟨rfl,fun h2=>h1 (hc.2 (h2 _ hh))⟩))))
     ·rw [zG (by omega) (by omega)];congr 1
     ·rw [hh] at hy;cases hy;exact hc.1 h1
    ·rintro ⟨s,zs⟩ ⟨hz,i,hi,hi1,hi2,hP,hN⟩
     simp only at hz hi
     subst hz hi
     have hall1: ∀q y,a+1≤q→q<i→zs[q]? =some y→lt y zs[a]:=by
      intro q y hq1 hq2 hy
      have hp:=hP (by omega) _ (vY (by omega))
      by_cases e:q=i-1
      ·subst e;rw [vY (by omega)] at hy;cases hy;exact hp
      ·exact tr1 _ _ _ (hs2 q (i-1) y _ hq1 (by omega) (by omega) hy (vY (by omega))) hp
     have hall2: ∀q y,i≤q→q<b→zs[q]? =some y→ ¬lt y zs[a]:=by
      intro q y hq1 hq2 hy hlt
      have hnp:=hN (by omega)
      apply hnp
      intro w hw
      by_cases e:q=i
      ·subst e;rw [hw] at hy;cases hy;exact hlt
      ·exact tr1 _ _ _ (hs2 i q w y hi1 (by omega) hq2 hw hy) hlt
     dsimp only
     rw [zG (x:=(i:Int) -1) (by omega) (by omega)]
     refine j7 (fun s:Int×List α=> ∃k:Nat,s.1=(k:Int)∧a≤k∧k+1≤i∧s.2.length=zs.length∧ ∀j,s.2[j]? =yV a (a+1) (k+1) zs j) (fun s=>((i:Int) -s.1).toNat) ⟨a,rfl,Nat.le_refl _,hi1,rfl,fun j=>(zXm j).symm⟩ ?_
     rintro ⟨s,ws⟩ ⟨k,hk',hka,hki,hwl,hw⟩
     simp only at hk' hwl hw
     subst hk'
     refine zI (fun hlt=> ?_) (fun hge=> ?_)
     ·have hlt:(k:Int)< (i:Int) -1:=hlt
      have hx:=vY (xs:=ws) (i:=k) (by omega)
      have hy:=vY (xs:=ws) (i:=k+1) (by omega)
      have hy2:(ws.set k (ws[k+1]'(by omega)))[k+1]? =some (ws[k+1]'(by omega)):=by rw [List.getElem?_set_ne (by omega)];exact hy
      dsimp only
      rw [zG (x:=(k:Int)+1) (by omega) (by omega),show ((k:Int)+1)=((k+1:Nat):Int) by omega]
      simp only [zJ hx,zJ hy,Int.toNat_natCast,vZ hx,vZ hy,Option.bind_some,zJ hy2,vZ hy2]
      refine zA (e2l ⟨⟨k+1,rfl,by omega,by omega,by simp only [List.length_set];exact hwl,zY8 hka (by omega) hwl hw hx hy⟩,?_⟩)
      simp only;omega
     ·have hge: ¬(k:Int)< (i:Int) -1:=hge
      have hki':k+1=i:=by omega
      subst hki'
      refine zAM (zAM (zD (fun _=>zA (e2r (e2r ?_))) (fun h=>absurd h (by rw [zFT hwl];decide))))
      have hst:xH key a (k+1) zs ws:=zJW hk (m:=a+1) (by omega) (by omega) (by omega) hwl hw (fun q r x y h1 h2 h3 h4 hx hy=>by
       have:q=a:=by omega
       subst this
       rw [ha?] at hx;cases hx
       exact hall1 r y h3 h4 hy)
      refine ⟨hst.mono (Nat.le_refl _) (by omega),?_⟩
      have q7: ∀q y,a≤q→q<b→ws[q]? =some y→(q<k∧zs[q+1]? =some y)∨(q=k∧y=zs[a])∨(k<q∧zs[q]? =some y):=by
       intro q y h1 h2 hy
       rw [hw] at hy
       unfold yV at hy
       split at hy
       ·exact .inl ⟨by omega,by rw [←hy];exact zAR (by omega)⟩
       ·split at hy
        ·refine .inr (.inl ⟨by omega,?_⟩)
         rw [show q- (k+1- (a+1))=a by omega,ha?] at hy
         cases hy;rfl
        ·exact .inr (.inr ⟨by omega,hy⟩)
      intro p q x y h1 h2 h3 hx hy
      rcases q7 p x h1 (by omega) hx with ⟨g1,hx'⟩|⟨g1,rfl⟩|⟨g1,hx'⟩
      ·rcases q7 q y (by omega) h3 hy with ⟨g2,hy'⟩|⟨g2,rfl⟩|⟨g2,hy'⟩
       ·exact hs2 (p+1) (q+1) x y (by omega) (by omega) (by omega) hx' hy'
       ·exact ho.asym _ _ (hall1 (p+1) x (by omega) (by omega) hx')
       ·exact hs2 (p+1) q x y (by omega) (by omega) h3 hx' hy'
      ·rcases q7 q y (by omega) h3 hy with ⟨g2,hy'⟩|⟨g2,rfl⟩|⟨g2,hy'⟩
       ·omega
       ·omega
       ·exact hall2 q y (by omega) h3 hy'
      ·rcases q7 q y (by omega) h3 hy with ⟨g2,hy'⟩|⟨g2,rfl⟩|⟨g2,hy'⟩
       ·omega
       ·omega
       ·exact hs2 p q x y (by omega) h2 h3 hx' hy'
   ·have h: ¬(m:Int) - (a:Int)=1:=by simpa using h
    omega
  rintro s ⟨rfl,hma⟩
  refine zU5 (fun s':List α=>s'=s∧b≠m+1) ?_ ?_
  ·refine zD (fun h=> ?_) (fun h=>zA (e2l ⟨rfl,?_⟩))
   ·have h:(b:Int) - (m:Int)=1:=by simpa using h
    have hbm:b=m+1:=by omega
    subst hbm
    refine zC ((zIy (z:=s) (i0:=a) (j0:=m) (P:=fun q=> ∀y,s[q]? =some y→ ¬lt s[m] y) (by omega) ?_).mono ?_)
    ·intro i j hi hij hj
     have hh:=vY (xs:=s) (i:=(i+j) / 2) (by omega)
     dsimp only
     rw [zQT i j (by omega)]
     simp only [zJ hh,Int.toNat_natCast,vZ hh,zJ hm?,vZ hm?,Option.bind_some]
     refine zC ((hcmp _ _).mono (fun c hc=>j8 (fun h1=>zA (.inl ⟨?_,fun y hy=> ?_⟩)) (fun h1=>zA (.inr ⟨rfl,fun h2=>h2 _ hh (hc.1 h1)⟩))))
     ·rw [zG (by omega) (by omega)];congr 1
     ·rw [hh] at hy;cases hy;exact fun h2=>h1 (hc.2 h2)
    ·rintro ⟨s0,zs⟩ ⟨hz,i,hi,hi1,hi2,hP,hN⟩
     simp only at hz hi
     subst hz hi
     have hall1: ∀q y,a≤q→q<i→zs[q]? =some y→ ¬lt zs[m] y:=by
      intro q y hq1 hq2 hy
      have hp:=hP (by omega) _ (vY (by omega))
      by_cases e:q=i-1
      ·subst e;rw [vY (by omega)] at hy;cases hy;exact hp
      ·exact ho.tr _ _ _ (hs1 q (i-1) y _ hq1 (by omega) (by omega) hy (vY (by omega))) hp
     have hall2: ∀q y,i≤q→q<m→zs[q]? =some y→lt zs[m] y:=by
      intro q y hq1 hq2 hy
      refine Classical.byContradiction (fun hnlt=> ?_)
      have hnp:=hN (by omega)
      apply hnp
      intro w hw
      by_cases e:q=i
      ·subst e;rw [hw] at hy;cases hy;exact hnlt
      ·exact ho.tr _ _ _ (hs1 i q w y hi1 (by omega) hq2 hw hy) hnlt
     dsimp only
     refine j7 (fun s:Int×List α=> ∃k:Nat,s.1=(k:Int)∧i≤k∧k≤m∧s.2.length=zs.length∧ ∀j,s.2[j]? =yV k m (m+1) zs j) (fun s=>s.1.toNat) ⟨m,rfl,hi2,Nat.le_refl _,rfl,fun j=>(zR8 j).symm⟩ ?_
     rintro ⟨s0,ws⟩ ⟨k,hk',hki,hkm,hwl,hw⟩
     simp only at hk' hwl hw
     subst hk'
     refine zI (fun hgt=> ?_) (fun hge=> ?_)
     ·have hgt:(k:Int)>(i:Int):=hgt
      have hx:=vY (xs:=ws) (i:=k) (by omega)
      have hy:=vY (xs:=ws) (i:=k-1) (by omega)
      have hy2:(ws.set k (ws[k-1]'(by omega)))[k-1]? =some (ws[k-1]'(by omega)):=by rw [List.getElem?_set_ne (by omega)];exact hy
      dsimp only
      rw [zG (x:=(k:Int) -1) (by omega) (by omega),show ((k:Int) -1)=((k-1:Nat):Int) by omega]
      simp only [zJ hx,zJ hy,Int.toNat_natCast,vZ hx,vZ hy,Option.bind_some,zJ hy2,vZ hy2]
      refine zA (e2l ⟨⟨k-1,rfl,by omega,by omega,by simp only [List.length_set];exact hwl,zPN (by omega) hkm (by omega) hwl hw hx hy⟩,?_⟩)
      simp only;omega
     ·have hge: ¬(k:Int)>(i:Int):=hge
      have hki':k=i:=by omega
      subst hki'
      refine zAM (zAM (zD (fun _=>zA (e2r (e2r ?_))) (fun h=>absurd h (by rw [zFT hwl];decide))))
      have hst:xH key k (m+1) zs ws:=zJW hk (m:=m) (by omega) (by omega) (by omega) hwl hw (fun q r x y h1 h2 h3 h4 hx hy=>by
       have:r=m:=by omega
       subst this
       rw [hm?] at hy;cases hy
       exact hall2 q x h1 h2 hx)
      refine ⟨hst.mono hi1 (Nat.le_refl _),?_⟩
      have q7: ∀q y,a≤q→q<m+1→ws[q]? =some y→(q<k∧zs[q]? =some y)∨(q=k∧y=zs[m])∨(k<q∧zs[q-1]? =some y):=by
       intro q y h1 h2 hy
       rw [hw] at hy
       unfold yV at hy
       split at hy
       ·refine .inr (.inl ⟨by omega,?_⟩)
        rw [show q+(m-k)=m by omega,hm?] at hy
        cases hy;rfl
       ·split at hy
        ·exact .inr (.inr ⟨by omega,by rw [←hy];exact zAR (by omega)⟩)
        ·exact .inl ⟨by omega,hy⟩
      intro p q x y h1 h2 h3 hx hy
      rcases q7 p x h1 (by omega) hx with ⟨g1,hx'⟩|⟨g1,rfl⟩|⟨g1,hx'⟩
      ·rcases q7 q y (by omega) h3 hy with ⟨g2,hy'⟩|⟨g2,rfl⟩|⟨g2,hy'⟩
       ·exact hs1 p q x y h1 h2 (by omega) hx' hy'
       ·exact hall1 p x h1 g1 hx'
       ·exact hs1 p (q-1) x y h1 (by omega) (by omega) hx' hy'
      ·rcases q7 q y (by omega) h3 hy with ⟨g2,hy'⟩|⟨g2,rfl⟩|⟨g2,hy'⟩
       ·omega
       ·omega
       ·exact ho.asym _ _ (hall2 (q-1) y (by omega) (by omega) hy')
      ·rcases q7 q y (by omega) h3 hy with ⟨g2,hy'⟩|⟨g2,rfl⟩|⟨g2,hy'⟩
       ·omega
       ·omega
       ·exact hs1 (p-1) (q-1) x y (by omega) (by omega) (by omega) hx' hy'
   ·have h: ¬(b:Int) - (m:Int)=1:=by simpa using h
    omega
  rintro s' ⟨rfl,hbm⟩
  clear ha? hm?
  rw [zQT a b (by omega)]
  have hM1:2*((a+b) / 2)≤a+b:=by omega
  have hM2:a+b<2*((a+b) / 2)+2:=by omega
  generalize (a+b) / 2=M at hM1 hM2
  rw [zG (x:=(M:Int)+(m:Int)) (by omega) (by omega),zG (x:=(M:Int)+(m:Int) -1) (by omega) (by omega)]
  refine zC ((show Wp _ (fun s:Int×Int×List α=> ∃st r:Nat,s=((st:Int),(r:Int),s')∧((M<m∧st+b=M+m∧r=M)∨(m≤M∧st=a∧r=m))) from ?_).mono ?_)
  ·refine zI (fun h=>zA ⟨M+m-b,M,?_, .inl ⟨?_,?_,rfl⟩⟩) (fun h=>zA ⟨a,m,rfl, .inr ⟨?_,rfl,rfl⟩⟩)
   ·have h:(m:Int)>(M:Int):=h
    rw [zG (by omega) (by omega),show ((M:Int)+(m:Int) - (b:Int))=((M+m-b:Nat):Int) by omega]
   ·have h:(m:Int)>(M:Int):=h
    omega
   ·have h:(m:Int)>(M:Int):=h
    omega
   ·have h: ¬(m:Int)>(M:Int):=h
    omega
  rintro _ ⟨st,r,rfl,hst⟩
  refine zC ((zIy (z:=s') (i0:=st) (j0:=r) (P:=fun c=> ∀x y,s'[M+m-1-c]? =some x→s'[c]? =some y→ ¬lt x y) (by omega) ?_).mono ?_)
  ·intro i j hi hij hj
   have hh:=vY (xs:=s') (i:=(i+j) / 2) (by omega)
   have hh2:=vY (xs:=s') (i:=M+m-1- (i+j) / 2) (by omega)
   dsimp only
   rw [zQT i j (by omega),zG (x:=(M:Int)+(m:Int) -1- (((i+j) / 2:Nat):Int)) (by omega) (by omega),show ((M:Int)+(m:Int) -1- (((i+j) / 2:Nat):Int))=((M+m-1- (i+j) / 2:Nat):Int) by omega]
   simp only [zJ hh,zJ hh2,Int.toNat_natCast,vZ hh,vZ hh2,Option.bind_some]
   refine zC ((hcmp _ _).mono (fun c hc=>j8 (fun h1=>zA (.inl ⟨?_,fun x y hx hy=> ?_⟩)) (fun h1=>zA (.inr ⟨rfl,fun h2=>h2 _ _ hh2 hh (hc.1 h1)⟩))))
   ·rw [zG (by omega) (by omega)];congr 1
   ·rw [hh2] at hx;rw [hh] at hy;cases hx;cases hy;exact fun h2=>h1 (hc.2 h2)
  rintro ⟨s0,zs0⟩ ⟨hz0,start,hs0,hst1,hst2,hP,hN⟩
  simp only at hz0 hs0
  subst hz0 hs0
  dsimp only
  rw [zG (x:=(M:Int)+(m:Int) - (start:Int)) (by omega) (by omega),show ((M:Int)+(m:Int) - (start:Int))=((M+m-start:Nat):Int) by omega]
  have he1:m≤M+m-start:=by omega
  have he2:M+m-start≤b:=by omega
  have he3:start+(M+m-start-m)=M:=by omega
  have hst3:a≤start:=by omega
  have hst4:start≤m:=by omega
  have hl2: ∀q r' x y,start≤q→q<m→m≤r'→r'<M+m-start→zs0[q]? =some x→zs0[r']? =some y→lt y x:=by
   intro q r' x y h1 h2 h3 h4 hx hy
   have hlt:start<r:=by omega
   refine Classical.byContradiction (fun hnl=>hN hlt ?_)
   intro u w hu hw hlt2
   apply hnl
   have k1:lt y w:=by
    by_cases e:r'=M+m-1-start
    ·subst e;rw [hu] at hy;cases hy;exact hlt2
    ·exact tr1 _ _ _ (hs2 r' (M+m-1-start) y u h3 (by omega) (by omega) hy hu) hlt2
   by_cases e:q=start
   ·subst e;rw [hw] at hx;cases hx;exact k1
   ·exact tr2 _ _ _ k1 (hs1 start q w x hst3 (by omega) (by omega) hw hx)
  have hl1: ∀q r' x y,a≤q→q<start→M+m-start≤r'→r'<b→zs0[q]? =some x→zs0[r']? =some y→ ¬lt y x:=by
   intro q r' x y h1 h2 h3 h4 hx hy
   have hlt:st<start:=by omega
   have g1:=vY (xs:=zs0) (i:=start-1) (by omega)
   have g2:=vY (xs:=zs0) (i:=M+m-1- (start-1)) (by omega)
   have hp:=hP hlt _ _ g2 g1
   have k1: ¬lt (zs0[M+m-1- (start-1)]'(by omega)) x:=by
    by_cases e:q=start-1
    ·subst e;rw [g1] at hx;cases hx;exact hp
    ·exact ho.tr _ _ _ (hs1 q (start-1) x _ h1 (by omega) (by omega) hx g1) hp
   by_cases e:r'=M+m-1- (start-1)
   ·subst e;rw [g2] at hy;cases hy;exact k1
   ·exact ho.tr _ _ _ k1 (hs2 (M+m-1- (start-1)) r' _ y (by omega) (by omega) h4 g2 hy)
  generalize he:M+m-start=e at he1 he2 he3 hl1 hl2
  refine zC ((show Wp _ (fun zs:List α=>zs.length=zs0.length∧ ∀k,zs[k]? =yV start m e zs0 k) from ?_).mono ?_)
  ·refine zC ((show Wp _ (fun c:Bool×List α=>c.2=zs0∧(c.1=true→start<m∧m<e)∧(c.1=false→start=m∨m=e)) from ?_).mono ?_)
   ·refine zI (fun h=>zA ⟨rfl,(fun h2=> ?_),fun h2=> ?_⟩) (fun h=>zA ⟨rfl,(fun h2=>by cases h2),fun _=> ?_⟩)
    ·have h:(start:Int)< (m:Int):=h
     have h2:(m:Int)< (e:Int):=of_decide_eq_true h2
     omega
    ·have h2: ¬(m:Int)< (e:Int):=of_decide_eq_false h2
     omega
    ·have h: ¬(start:Int)< (m:Int):=h
     omega
   ·rintro ⟨c,zs⟩ ⟨hz,ht,hf⟩
    simp only at hz ht hf
    subst hz
    refine zD (fun h=> ?_) (fun h=>zA ⟨rfl,fun k=> ?_⟩)
    ·obtain ⟨g1,g2⟩:=ht h
     refine zD (fun _=>zC ((zQx zs start m e g1 g2 (by omega) (by omega)).mono (fun y hy=>zA hy))) (fun h=>absurd h (by rw [Nat.beq_refl];decide))
    ·have:=hf h
     unfold yV
     repeat' split
     all_goals first
      |rfl
      |exact zAR (by omega)
      |(exfalso;omega)
  intro zs hzz
  obtain ⟨hzl,hz⟩:=hzz
  have yX:=zJW hk hst4 he1 (by omega) hzl hz hl2
  have q7: ∀q y,a≤q→q<b→zs[q]? =some y→(q<start∧zs0[q]? =some y)∨(start≤q∧q<M∧zs0[q+(m-start)]? =some y)∨(M≤q∧q<e∧zs0[q- (e-m)]? =some y)∨(e≤q∧zs0[q]? =some y):=by
   intro q y h1 h2 hy
   rw [hz] at hy
   unfold yV at hy
   split at hy
   ·exact .inr (.inl ⟨by omega,by omega,hy⟩)
   ·split at hy
    ·exact .inr (.inr (.inl ⟨by omega,by omega,hy⟩))
    ·by_cases c:q<start
     ·exact .inl ⟨c,hy⟩
     ·exact .inr (.inr (.inr ⟨by omega,hy⟩))
  have r1:w7 lt a start zs:=by
   intro p q x y h1 h2 h3 hx hy
   rw [yX.out p (by omega)] at hx
   rw [yX.out q (by omega)] at hy
   exact hs1 p q x y h1 h2 (by omega) hx hy
  have r2:w7 lt start M zs:=by
   intro p q x y h1 h2 h3 hx hy
   rw [hz] at hx hy
   unfold yV at hx hy
   rw [if_pos (by omega)] at hx hy
   exact hs2 _ _ x y (by omega) (by omega) (by omega) hx hy
  have r3:w7 lt M e zs:=by
   intro p q x y h1 h2 h3 hx hy
   rw [hz] at hx hy
   unfold yV at hx hy
   rw [if_neg (by omega),if_pos (by omega)] at hx hy
   exact hs1 _ _ x y (by omega) (by omega) (by omega) hx hy
  have r4:w7 lt e b zs:=by
   intro p q x y h1 h2 h3 hx hy
   rw [yX.out p (by omega)] at hx
   rw [yX.out q (by omega)] at hy
   exact hs2 p q x y (by omega) h2 h3 hx hy
  have rc: ∀q r' x y,a≤q→q<M→M≤r'→r'<b→zs[q]? =some x→zs[r']? =some y→ ¬lt y x:=by
   intro q r' x y h1 h2 h3 h4 hx hy
   rcases q7 q x h1 (by omega) hx with ⟨g1,hx'⟩|⟨g1,g2,hx'⟩|⟨g1,g2,hx'⟩|⟨g1,hx'⟩
   ·rcases q7 r' y (by omega) h4 hy with ⟨g3,hy'⟩|⟨g3,g4,hy'⟩|⟨g3,g4,hy'⟩|⟨g3,hy'⟩
    ·omega
    ·omega
    ·exact hs1 q _ x y h1 (by omega) (by omega) hx' hy'
    ·exact hl1 q r' x y h1 g1 g3 h4 hx' hy'
   ·rcases q7 r' y (by omega) h4 hy with ⟨g3,hy'⟩|⟨g3,g4,hy'⟩|⟨g3,g4,hy'⟩|⟨g3,hy'⟩
    ·omega
    ·omega
    ·exact ho.asym _ _ (hl2 _ _ y x (by omega) (by omega) (by omega) (by omega) hy' hx')
    ·exact hs2 _ r' x y (by omega) (by omega) h4 hx' hy'
   ·omega
   ·omega
  refine zC ((show Wp _ (fun ws:List α=>xH key a M zs ws∧w7 lt a M ws) from ?_).mono ?_)
  ·refine zC ((show Wp _ (fun c:Bool×List α=>c.2=zs∧(c.1=true→a<start∧start<M)∧(c.1=false→a=start∨start=M)) from ?_).mono ?_)
   ·refine zI (fun h=>zA ⟨rfl,(fun h2=> ?_),fun h2=> ?_⟩) (fun h=>zA ⟨rfl,(fun h2=>by cases h2),fun _=> ?_⟩)
    ·have h:(a:Int)< (start:Int):=h
     have h2:(start:Int)< (M:Int):=of_decide_eq_true h2
     omega
    ·have h2: ¬(start:Int)< (M:Int):=of_decide_eq_false h2
     omega
    ·have h: ¬(a:Int)< (start:Int):=h
     omega
   ·rintro ⟨c,vs⟩ ⟨hv,ht,hf⟩
    simp only at hv ht hf
    subst hv
    refine zD (fun h=> ?_) (fun h=>zA ⟨xH.refl _ _ _,?_⟩)
    ·obtain ⟨g1,g2⟩:=ht h
     exact zD (fun _=>zC ((ih vs a start M g1 g2 (by omega) (by omega) (by omega) r1 r2).mono (fun y hy=>zA hy))) (fun h=>absurd h (by rw [Nat.beq_refl];decide))
    ·exact zIU r1 r2 (fun q r' x y h1 h2 h3 h4 hx hy=>by have:=hf h;omega)
  intro ws hws
  obtain ⟨hw1,hw2⟩:=hws
  have hwl:ws.length=zs0.length:=hw1.len.trans hzl
  have fin: ∀us,xH key M b ws us→w7 lt M b us→xH key a b zs0 us∧w7 lt a b us:=by
   intro us hu1 hu2
   refine ⟨((yX.mono hst3 he2).trans (hw1.mono (Nat.le_refl _) (by omega))).trans (hu1.mono (by omega) (Nat.le_refl _)),zIU (hw2.out hu1 (.inl (Nat.le_refl _))) hu2 ?_⟩
   intro q r' x y h1 h2 h3 h4 hx hy
   rw [hu1.out q (by omega)] at hx
   obtain ⟨q',k1,k2,hx'⟩:=hw1.ins q x h1 h2 hx
   obtain ⟨r2,k3,k4,hy'⟩:=hu1.ins r' y h3 h4 hy
   rw [hw1.out r2 (by omega)] at hy'
   exact rc q' r2 x y k1 k2 k3 k4 hx' hy'
  have q3:w7 lt M e ws:=r3.out hw1 (.inr (Nat.le_refl _))
  have q4:w7 lt e b ws:=r4.out hw1 (.inr (by omega))
  refine zC ((show Wp _ (fun c:Bool×List α=>c.2=ws∧(c.1=true→M<e∧e<b)∧(c.1=false→M=e∨e=b)) from ?_).mono ?_)
  ·refine zI (fun h=>zA ⟨rfl,(fun h2=> ?_),fun h2=> ?_⟩) (fun h=>zA ⟨rfl,(fun h2=>by cases h2),fun _=> ?_⟩)
   ·have h:(M:Int)< (e:Int):=h
    have h2:(e:Int)< (b:Int):=of_decide_eq_true h2
    omega
   ·have h2: ¬(e:Int)< (b:Int):=of_decide_eq_false h2
    omega
   ·have h: ¬(M:Int)< (e:Int):=h
    omega
  ·rintro ⟨c,vs⟩ ⟨hv,ht,hf⟩
   simp only at hv ht hf
   subst hv
   refine zD (fun h=> ?_) (fun h=> ?_)
   ·obtain ⟨g1,g2⟩:=ht h
    refine zD (fun _=>zC ((ih vs M e b g1 g2 (by omega) (by omega) (by omega) q3 q4).mono (fun y hy=> ?_))) (fun h=>absurd h (by rw [Nat.beq_refl];decide))
    exact zD (fun _=>zA (fin _ hy.1 hy.2)) (fun h=>absurd h (by rw [zFT (hy.1.len.trans hwl)];decide))
   ·refine zD (fun _=>zA (fin _ (xH.refl _ _ _) ?_)) (fun h=>absurd h (by rw [zFT hwl];decide))
    exact zIU q3 q4 (fun q r' x y h1 h2 h3 h4 hx hy=>by have:=hf h;omega)
end
end Go.Ve

namespace Go.Ve
open Go
set_option maxRecDepth 1000000
set_option maxHeartbeats 4000000
section
variable {α κ:Type} {cmp:α×α×Unit→Option Int} {lt:α→α→Prop} {key:α→κ}
def zKW (lt:α→α→Prop) (lo i j:Nat) (xs:List α):Prop:= ∀p q x y,lo≤p→p<q→q≤i→q≠j→xs[p]? =some x→xs[q]? =some y→ ¬lt y x
theorem zRX {lo i:Nat} {xs:List α} (h:w7 lt lo i xs):zKW lt lo i i xs:=fun p q x y h0 h1 h2 h3 hx hy=>h p q x y h0 h1 (by omega) hx hy
theorem zTQ (ho:Ord lt) {lo i j:Nat} {xs:List α} (h:zKW lt lo i j xs) (hj:j≤i) (hlo:lo≤j) (he:j=lo∨ ∀x y,xs[j]? =some x→xs[j-1]? =some y→ ¬lt x y):w7 lt lo (i+1) xs:=by
 intro p q x y hp0 hpq hq hx hy
 by_cases hqj:q=j
 ·subst hqj
  rcases he with he|he
  ·omega
  ·by_cases hp:p=q-1
   ·subst hp
    exact he y x hy hx
   ·have hl:=(List.getElem?_eq_some_iff.1 hy).1
    have hz:xs[q-1]? =some (xs[q-1]'(by omega)):=by simp
    exact ho.tr _ _ _ (h p (q-1) x _ hp0 (by omega) (by omega) (by omega) hx hz) (he y _ hy hz)
 ·exact h p q x y hp0 hpq (by omega) hqj hx hy
theorem zTP (ho:Ord lt) {lo i j:Nat} {xs:List α} (h:zKW lt lo i j xs) (hj:lo<j) (hji:j≤i) (hi:i<xs.length) (hlt:lt (xs[j]'(by omega)) (xs[j-1]'(by omega))):
  zKW lt lo i (j-1) ((xs.set j (xs[j-1]'(by omega))).set (j-1) (xs[j]'(by omega))):=by
 have hjl:j<xs.length:=by omega
 have a1:xs[j]? =some xs[j]:=by simp
 have a2:xs[j-1]? =some (xs[j-1]'(by omega)):=by simp
 have at': ∀m z,((xs.set j (xs[j-1]'(by omega))).set (j-1) (xs[j]'(by omega)))[m]? =some z→(m=j-1∧z=xs[j])∨(m=j∧z=xs[j-1]'(by omega))∨(m≠j∧m≠j-1∧xs[m]? =some z):=by
  intro m z hm
  by_cases e1:m=j-1
  ·subst e1
   rw [List.getElem?_set_self (by rw [List.length_set];omega)] at hm
   cases hm
   exact .inl ⟨rfl,rfl⟩
  ·rw [List.getElem?_set_ne (by omega)] at hm
   by_cases e2:m=j
   ·subst e2
    rw [List.getElem?_set_self (by omega)] at hm
    cases hm
    exact .inr (.inl ⟨rfl,rfl⟩)
   ·rw [List.getElem?_set_ne (by omega)] at hm
    exact .inr (.inr ⟨e2,e1,hm⟩)
 intro p q x y hp0 hpq hq hqj hx hy
 rcases at' q y hy with ⟨g,_⟩|⟨rfl,rfl⟩|⟨g1,g2,hy2⟩
 ·omega
 ·rcases at' p x hx with ⟨rfl,rfl⟩|⟨g,_⟩|⟨g3,g4,hx⟩
  ·exact ho.asym _ _ hlt
  ·omega
  ·exact h p (q-1) x _ hp0 (by omega) (by omega) (by omega) hx a2
 ·rcases at' p x hx with ⟨rfl,rfl⟩|⟨rfl,rfl⟩|⟨g3,g4,hx⟩
  ·exact h j q _ y (by omega) (by omega) hq g1 a1 hy2
  ·exact h (p-1) q _ y (by omega) (by omega) hq g1 a2 hy2
  ·exact h p q x y hp0 hpq hq g1 hx hy2
theorem zVJ (hk:zMn lt key) {j:Nat} {xs:List α} (hj:0<j) (hjl:j<xs.length) (hlt:lt xs[j] (xs[j-1]'(by omega))):
  xH key (j-1) (j+1) xs ((xs.set j (xs[j-1]'(by omega))).set (j-1) xs[j]):=by
 have h1:=vY hjl
 have h2:=vY (xs:=xs) (i:=j-1) (by omega)
 refine zJW hk (m:=j) (by omega) (by omega) (by omega) (by simp) (zPN (m:=j) (k:=j) hj (Nat.le_refl _) hjl rfl (fun k=>(zR8 k).symm) h1 h2) ?_
 intro q r x y g1 g2 g3 g4 hx hy
 have e1:q=j-1:=by omega
 have e2:r=j:=by omega
 subst e1 e2
 rw [h2] at hx;rw [h1] at hy
 cases hx;cases hy
 exact hlt
theorem zC3 (hk:zMn lt key) (hcmp: ∀x y,Wp (cmp (x,y,())) (fun c=>c<0↔lt x y)) (xs:List α) (a b:Nat) (hab:a≤b) (hb:b≤xs.length) (hl:xs.length<1099511627776):
  Wp (zAk cmp xs ((a:Int),(b:Int),(),())) (fun r=>xH key a b xs r.1∧w7 lt a b r.1):=by
 have ho:=hk.ord
 unfold zAk
 dsimp only
 rw [zG (by omega) (by omega)]
 refine j7 (fun s:Int×List α=>xH key a b xs s.2∧ ∃i:Nat,s.1=(i:Int)∧a+1≤i∧(i≤b∨i=a+1)∧w7 lt a i s.2) (fun s=>((b:Int) -s.1).toNat)
  ⟨xH.refl _ _ _,a+1,by simp only;omega,Nat.le_refl _, .inr rfl,zVM⟩ ?_
 rintro ⟨s,zs⟩ ⟨hst,i,hi,hi1,hi2,hso⟩
 simp only at hi hst hso
 subst hi
 have hlen:zs.length=xs.length:=hst.len
 refine zI (fun hlt=> ?_) (fun hge=> ?_)
 ·have hlt:(i:Int)< (b:Int):=hlt
  refine zC ((show Wp _ (fun ys:List α=>xH key a b zs ys∧w7 lt a (i+1) ys) from ?_).mono (fun ys hys=>zA (e2l ⟨⟨hst.trans hys.1,i+1,?_,by omega, .inl (by omega),hys.2⟩,?_⟩)))
  ·refine j7 (fun s:Int×List α=>xH key a b zs s.2∧ ∃j:Nat,s.1=(j:Int)∧a≤j∧j≤i∧zKW lt a i j s.2) (fun s=>s.1.toNat) ⟨xH.refl _ _ _,i,rfl,by omega,Nat.le_refl _,zRX hso⟩ ?_
   rintro ⟨s,ys⟩ ⟨hyst,j,hj,hja,hji,hex⟩
   simp only at hj hyst hex
   subst hj
   have hyl:ys.length=xs.length:=hyst.len.trans hlen
   refine zC ((show Wp _ (fun c:Bool×List α=>c.2=ys∧(c.1=true→a<j∧ ∀x y,ys[j]? =some x→ys[j-1]? =some y→lt x y)∧(c.1=false→j=a∨ ∀x y,ys[j]? =some x→ys[j-1]? =some y→ ¬lt x y)) from ?_).mono ?_)
   ·refine zI (fun hj0=> ?_) (fun hj0=>zA ⟨rfl,(fun h=>by cases h),fun _=> .inl ?_⟩)
    ·have hj0:(j:Int)>(a:Int):=hj0
     have hy1:=vY (xs:=ys) (i:=j) (by omega)
     have hy2:=vY (xs:=ys) (i:=j-1) (by omega)
     dsimp only
     rw [zG (by omega) (by omega),show ((j:Int) -1)=((j-1:Nat):Int) by omega]
     simp only [zJ hy1,zJ hy2,Int.toNat_natCast,vZ hy1,vZ hy2,Option.bind_some]
     refine zC ((hcmp _ _).mono (fun c hc=>zA ⟨rfl,(fun h=>⟨by omega,?_⟩),fun h=> .inr ?_⟩))
     ·intro x y hx hy
      rw [hy1] at hx;rw [hy2] at hy
      cases hx;cases hy
      exact hc.1 (of_decide_eq_true h)
     ·intro x y hx hy
      rw [hy1] at hx;rw [hy2] at hy
      cases hx;cases hy
      exact fun hh=>(of_decide_eq_false h) (hc.2 hh)
    ·have hj0: ¬(j:Int)>(a:Int):=hj0
     omega
   ·rintro ⟨c,ws⟩ ⟨hw,ht,hf⟩
    simp only at hw ht hf
    subst hw
    refine zD (fun hb'=> ?_) (fun hb'=>zA (e2r ⟨hyst,zTQ ho hex hji hja (hf hb')⟩))
    obtain ⟨hj0,hlt2⟩:=ht hb'
    have hy1:=vY (xs:=ws) (i:=j) (by omega)
    have hy2:=vY (xs:=ws) (i:=j-1) (by omega)
    have hy3:(ws.set j (ws[j-1]'(by omega)))[j-1]? =some (ws[j-1]'(by omega)):=by
     rw [List.getElem?_set_ne (by omega)];exact hy2
    dsimp only
    rw [zG (by omega) (by omega),show ((j:Int) -1)=((j-1:Nat):Int) by omega]
    simp only [zJ hy1,zJ hy2,Int.toNat_natCast,vZ hy1,vZ hy2,Option.bind_some,zJ hy3,vZ hy3]
    refine zA (e2l ⟨⟨hyst.trans ((zVJ hk (by omega) (by omega) (hlt2 _ _ hy1 hy2)).mono (by omega) (by omega)),j-1,rfl,by omega,by omega,zTP ho hex hj0 hji (by omega) (hlt2 _ _ hy1 hy2)⟩,?_⟩)
    simp only;omega
  ·simp only;rw [zG (by omega) (by omega)];omega
  ·simp only;rw [zG (by omega) (by omega)];omega
 ·have hge: ¬(i:Int)< (b:Int):=hge
  exact zAM (zD (fun _=>zA (e2r ⟨hst,hso.sub (Nat.le_refl _) (by omega)⟩)) (fun h=>absurd h (by rw [zFT hlen];decide)))
def zRx (lt:α→α→Prop) (bs n:Nat) (xs:List α):Prop:= ∀j,w7 lt (j*bs) (min ((j+1)*bs) n) xs
theorem zQw (hk:zMn lt key) (hcmp: ∀x y,Wp (cmp (x,y,())) (fun c=>c<0↔lt x y)) (xs:List α) (hl:xs.length≤1048576):
  Wp (zJL cmp xs ((xs.length:Int),(),())) (fun r=>xH key 0 xs.length xs r.1∧w7 lt 0 xs.length r.1):=by
 unfold zJL
 dsimp only
 generalize hn:xs.length=n at hl
 refine zC ((show Wp _ (fun s:List α×Int=>xH key 0 n xs s.1∧ ∃t:Nat,s.2=((20*t:Nat):Int)∧20*t≤n∧n<20*t+20∧ ∀j,j<t→w7 lt (j*20) ((j+1)*20) s.1) from ?_).mono ?_)
 ·refine j7 (fun s:Int×List α×Int=>xH key 0 n xs s.2.1∧ ∃t:Nat,s.1=((20*t+20:Nat):Int)∧s.2.2=((20*t:Nat):Int)∧20*t≤n∧ ∀j,j<t→w7 lt (j*20) ((j+1)*20) s.2.1) (fun s=>((n:Int)+20-s.1).toNat)
   ⟨xH.refl _ _ _,0,rfl,rfl,Nat.zero_le _,fun j hj=>by omega⟩ ?_
  rintro ⟨sb,zs,sa⟩ ⟨hst,t,hsb,hsa,htn,hbl⟩
  simp only at hsb hsa hst hbl
  subst hsb hsa
  have hzl:=hst.len
  refine zI (fun h=> ?_) (fun h=>zA (e2r ⟨hst,t,rfl,htn,?_,hbl⟩))
  ·have h:((20*t+20:Nat):Int)≤(n:Int):=h
   refine zD (fun _=> ?_) (fun h=>absurd h (by rw [Nat.beq_refl];decide))
   refine zC ((zC3 hk hcmp zs (20*t) (20*t+20) (by omega) (by omega) (by omega)).mono (fun y hy=>zA (e2l ⟨⟨hst.trans (hy.1.mono (by omega) (by omega)),t+1,?_,?_,by omega,?_⟩,?_⟩)))
   ·simp only;rw [zG (by omega) (by omega)];omega
   ·simp only;omega
   ·intro j hj
    by_cases e:j=t
    ·subst e
     rw [show j*20=20*j by omega,show (j+1)*20=20*j+20 by omega]
     exact hy.2
    ·exact (hbl j (by omega)).out hy.1 (.inl (by omega))
   ·simp only;rw [zG (by omega) (by omega)];omega
  ·have h: ¬((20*t+20:Nat):Int)≤(n:Int):=h
   omega
 rintro ⟨zs,sa⟩ ⟨hst,t,hsa,htn,htn2,hbl⟩
 simp only at hsa hst hbl
 subst hsa
 have hzl:=hst.len
 refine zD (fun _=> ?_) (fun h=>absurd h (by rw [Nat.beq_refl];decide))
 refine zC ((zC3 hk hcmp zs (20*t) n htn (by omega) (by omega)).mono (fun y hy=> ?_))
 have hB:zRx lt 20 n y.1:=by
  intro j
  by_cases e:j<t
  ·rw [Nat.min_eq_left (by omega)]
   exact (hbl j e).out hy.1 (.inl (by omega))
  ·by_cases e2:j=t
   ·subst e2
    refine hy.2.sub (by omega) (Nat.min_le_right _ _)
   ·intro p q x y' h1 h2 h3
    omega
 have hst2:xH key 0 n xs y.1:=hst.trans (hy.1.mono (by omega) (Nat.le_refl _))
 refine j7 (fun s:Int×List α=>xH key 0 n xs s.2∧ ∃bs:Nat,s.1=(bs:Int)∧20≤bs∧bs≤2097152∧zRx lt bs n s.2) (fun s=>((n:Int) -s.1).toNat) ⟨hst2,20,rfl,Nat.le_refl _,by omega,hB⟩ ?_
 rintro ⟨sbs,ws⟩ ⟨hw,bs,hbs,hbs1,hbs2,hbl2⟩
 simp only at hbs hw hbl2
 subst hbs
 have hwl:=hw.len
 refine zI (fun h=> ?_) (fun h=> ?_)
 ·have h:(bs:Int)< (n:Int):=h
  dsimp only
  rw [zG (x:=(2:Int)*(bs:Int)) (by omega) (by omega)]
  refine zC ((show Wp _ (fun s:Int×List α=>xH key 0 n ws s.2∧ ∃t:Nat,s.1=((t*(2*bs):Nat):Int)∧t*(2*bs)≤n∧n< (t+1)*(2*bs)∧(∀j,j<t→w7 lt (j*(2*bs)) ((j+1)*(2*bs)) s.2)∧ ∀j,2*t≤j→w7 lt (j*bs) (min ((j+1)*bs) n) s.2) from ?_).mono ?_)
  ·refine j7 (fun s:Int×List α×Int=>xH key 0 n ws s.2.1∧ ∃t:Nat,s.1=(((t+1)*(2*bs):Nat):Int)∧s.2.2=((t*(2*bs):Nat):Int)∧t*(2*bs)≤n∧(∀j,j<t→w7 lt (j*(2*bs)) ((j+1)*(2*bs)) s.2.1)∧ ∀j,2*t≤j→w7 lt (j*bs) (min ((j+1)*bs) n) s.2.1) (fun s=>((n:Int)+2*(bs:Int) -s.1).toNat)
    ⟨xH.refl _ _ _,0,by simp only;omega,by simp,by omega,fun j hj=>by omega,fun j _=>hbl2 j⟩ ?_
   rintro ⟨sb,vs,sa⟩ ⟨hv,t,hsb,hsa,htn',hb1,hb2⟩
   simp only at hsb hsa hv hb1 hb2
   subst hsb hsa
   have hvl:vs.length=n:=by rw [hv.len,hwl,hn]
   have eT:(t+1)*(2*bs)=t*(2*bs)+2*bs:=Nat.succ_mul _ _
   have eA:2*t*bs=t*(2*bs):=by rw [Nat.mul_comm 2 t,Nat.mul_assoc]
   have eB:(2*t+1)*bs=t*(2*bs)+bs:=by rw [Nat.succ_mul,eA]
   have eC:(2*t+2)*bs=t*(2*bs)+2*bs:=by rw [show 2*t+2=(2*t+1)+1 from rfl,Nat.succ_mul,eB];omega
   generalize hA:t*(2*bs)=A at*
   refine zI (fun h2=> ?_) (fun h2=>zA (e2r ⟨hv,t,by rw [hA],by rw [hA];exact htn',?_,hb1,hb2⟩))
   ·have h2:(((t+1)*(2*bs):Nat):Int)≤(n:Int):=h2
    rw [eT] at h2 ⊢
    refine zD (fun _=> ?_) (fun h=>absurd h (by rw [Nat.beq_refl];decide))
    dsimp only
    rw [zG (x:=(A:Int)+(bs:Int)) (by omega) (by omega),show ((A:Int)+(bs:Int))=((A+bs:Nat):Int) by omega]
    have s1:=hb2 (2*t) (Nat.le_refl _)
    have s2:=hb2 (2*t+1) (by omega)
    rw [show 2*t+1+1=2*t+2 from rfl,eC,eB,Nat.min_eq_left (by omega)] at s2
    rw [eB,eA,Nat.min_eq_left (by omega)] at s1
    unfold zEH
    refine zC ((zEI hk hcmp 1048576 vs A (A+bs) (A+2*bs) (by omega) (by omega) (by omega) (by omega) (by omega) s1 s2).mono (fun y hy=>zA (e2l ⟨⟨hv.trans (hy.1.mono (by omega) (by omega)),t+1,?_,?_,?_,?_,?_⟩,?_⟩)))
    ·simp only
     rw [zG (by omega) (by omega),show (t+1+1)*(2*bs)=A+2*bs+2*bs by rw [Nat.succ_mul,eT]]
     omega
    ·simp only;rw [eT]
    ·rw [eT];omega
    ·intro j hj
     by_cases e:j=t
     ·subst e
      rw [hA,eT]
      exact hy.2
     ·refine (hb1 j (by omega)).out hy.1 (.inl ?_)
      have:(j+1)*(2*bs)≤t*(2*bs):=Nat.mul_le_mul_right _ (by omega)
      omega
    ·intro j hj
     refine (hb2 j (by omega)).out hy.1 (.inr ?_)
     have:(2*t+2)*bs≤j*bs:=Nat.mul_le_mul_right _ (by omega)
     omega
    ·simp only
     rw [zG (by omega) (by omega)]
     omega
   ·have h2: ¬(((t+1)*(2*bs):Nat):Int)≤(n:Int):=h2
    omega
  rintro ⟨sa,vs⟩ ⟨hv,t,hsa,ht1,ht2,hb1,hb2⟩
  simp only at hsa hv hb1 hb2
  subst hsa
  have hvl:vs.length=n:=by rw [hv.len,hwl,hn]
  have eT:(t+1)*(2*bs)=t*(2*bs)+2*bs:=Nat.succ_mul _ _
  have eA:2*t*bs=t*(2*bs):=by rw [Nat.mul_comm 2 t,Nat.mul_assoc]
  have eB:(2*t+1)*bs=t*(2*bs)+bs:=by rw [Nat.succ_mul,eA]
  have eC:(2*t+2)*bs=t*(2*bs)+2*bs:=by rw [show 2*t+2=(2*t+1)+1 from rfl,Nat.succ_mul,eB];omega
  have s1:=hb2 (2*t) (Nat.le_refl _)
  have s2:=hb2 (2*t+1) (by omega)
  rw [show 2*t+1+1=2*t+2 from rfl,eC,eB,Nat.min_eq_right (by omega)] at s2
  rw [eB,eA] at s1
  have hbelow: ∀j,j<t→(j+1)*(2*bs)≤t*(2*bs):=fun j hj=>Nat.mul_le_mul_right _ (by omega)
  have habove: ∀j,t<j→t*(2*bs)+2*bs≤j*(2*bs):=fun j hj=>by rw [←eT];exact Nat.mul_le_mul_right _ (by omega)
  generalize hA:t*(2*bs)=A at*
  have fin: ∀us,xH key A n vs us→w7 lt A n us→xH key 0 n xs us∧zRx lt (bs*2) n us:=by
   intro us hu1 hu2
   refine ⟨(hw.trans hv).trans (hu1.mono (by omega) (Nat.le_refl _)),?_⟩
   intro j
   rw [show bs*2=2*bs by omega]
   by_cases e:j<t
   ·have:=hbelow j e
    rw [Nat.min_eq_left (by omega)]
    exact (hb1 j e).out hu1 (.inl this)
   ·by_cases e2:j=t
    ·subst e2
     rw [hA,eT,Nat.min_eq_right (by omega)]
     exact hu2
    ·have:=habove j (by omega)
     intro p q x y' h1 h2 h3
     omega
  dsimp only
  rw [zG (x:=(A:Int)+(bs:Int)) (by omega) (by omega),show ((A:Int)+(bs:Int))=((A+bs:Nat):Int) by omega]
  refine zC ((show Wp _ (fun us:List α=>xH key 0 n xs us∧zRx lt (bs*2) n us) from ?_).mono (fun us hus=>zA (e2l ⟨⟨hus.1,bs*2,?_,by omega,by omega,hus.2⟩,?_⟩)))
  ·refine zI (fun h2=> ?_) (fun h2=>zA (fin vs (xH.refl _ _ _) ?_))
   ·have h2:((A+bs:Nat):Int)< (n:Int):=h2
    rw [Nat.min_eq_left (by omega)] at s1
    refine zD (fun _=> ?_) (fun h=>absurd h (by rw [Nat.beq_refl];decide))
    unfold zEH
    exact zC ((zEI hk hcmp 1048576 vs A (A+bs) n (by omega) (by omega) (by omega) (by omega) (by omega) s1 s2).mono (fun y hy=>zA (fin _ hy.1 hy.2)))
   ·have h2: ¬((A+bs:Nat):Int)< (n:Int):=h2
    rw [Nat.min_eq_right (by omega)] at s1
    exact s1
  ·simp only;rw [zG (by omega) (by omega)];omega
  ·simp only;rw [zG (by omega) (by omega)];omega
 ·have h: ¬(bs:Int)< (n:Int):=h
  refine zAM (zD (fun _=>zA (e2r ⟨hw,?_⟩)) (fun h=>absurd h (by simp only;rw [hwl,hn,Nat.beq_refl];decide)))
  have:=hbl2 0
  rw [Nat.zero_mul,Nat.zero_add,Nat.one_mul,Nat.min_eq_right (by omega)] at this
  exact this
theorem zK4 (hk:zMn lt key) (hcmp: ∀x y,Wp (cmp (x,y,())) (fun c=>c<0↔lt x y)) (xs:List α) (hl:xs.length≤1048576):
  Wp (zD6 cmp xs ((),())) (fun r=>r.1.length=xs.length∧zGc key xs r.1∧r.1.Pairwise (fun x y=> ¬lt y x)):=by
 unfold zD6
 dsimp only
 refine zD (fun _=> ?_) (fun h=>absurd h (by rw [Nat.beq_refl];decide))
 refine zC ((zQw hk hcmp xs hl).mono (fun y hy=> ?_))
 refine zD (fun _=>zA ⟨hy.1.len,hy.1.same,?_⟩) (fun h=>absurd h (by rw [zFT hy.1.len];decide))
 rw [List.pairwise_iff_getElem]
 intro p q hp hq hpq
 have:=hy.1.len
 have hq:q<y.1.length:=hq
 exact hy.2 p q _ _ (Nat.zero_le _) hpq (by omega) (by simp) (by simp)
end
end Go.Ve

namespace Go.Ve
open Go
set_option maxRecDepth 1000000
set_option maxHeartbeats 4000000
theorem zHi: ∀ (more acc:List (Ty.El qP)),acc.Pairwise hlt→(more.foldl zFX acc).Pairwise hlt∧ ∀h,h∈more.foldl zFX acc↔h∈acc∨h∈more
 |[],acc,hp=>⟨hp,fun h=>by simp⟩
 |x::more,acc,hp=>by
  have heq: ∀a b:Ty.El qP,zPr a b=true↔a=b:=fun a b=>⟨fun h=>zGP h,fun h=>by subst h;simp [zPr]⟩
  have h1:(zFX acc x).Pairwise hlt:=zG4 zKs (fun _ _=>zXW) heq (fun a b h1 h2=>zXV h1 (fun e=>h2 e.symm)) hp
  obtain ⟨h2,h3⟩:=zHi more (zFX acc x) h1
  refine ⟨h2,fun h=> ?_⟩
  rw [List.foldl_cons,h3 h,show (h∈zFX acc x↔h∈acc∨h=x) from zKp heq,List.mem_cons,or_assoc]
theorem zKq {p:Ty.El zH} {b:Ty.El zB} : ∀ (l:List (Ty.El zB)) (acc:List (Ty.El qP)),acc.Pairwise hlt→
  (l.foldl (yX p b) acc).Pairwise hlt∧ ∀h,h∈l.foldl (yX p b) acc↔h∈acc∨ ∃x,x∈l∧x.1=p∧xL x b=0∧h∈x.2.2.2.2.2.2.2.2.2.2.2.1
 |[],acc,hp=>⟨hp,fun h=>by simp⟩
 |x::l,acc,hp=>by
  cases hc:vF x.1 p&&(xL x b==0) with
  |true=>
   have hs:yX p b acc x=x.2.2.2.2.2.2.2.2.2.2.2.1.foldl zFX acc:=by unfold yX;rw [hc];rfl
   have hc2:x.1=p∧xL x b=0:=by
    rw [Bool.and_eq_true] at hc
    exact ⟨zAg.1 hc.1,by simpa using hc.2⟩
   obtain ⟨h1,h2⟩:=zHi x.2.2.2.2.2.2.2.2.2.2.2.1 acc hp
   rw [←hs] at h1 h2
   obtain ⟨h3,h4⟩:=zKq l (yX p b acc x) h1
   refine ⟨h3,fun h=> ?_⟩
   rw [List.foldl_cons,h4 h,h2 h]
   constructor
   ·rintro ((h|h)|⟨y,hy,g⟩)
    ·exact .inl h
    ·exact .inr ⟨x,by simp,hc2.1,hc2.2,h⟩
    ·exact .inr ⟨y,List.mem_cons_of_mem _ hy,g⟩
   ·rintro (h|⟨y,hy,g⟩)
    ·exact .inl (.inl h)
    ·rcases List.mem_cons.1 hy with rfl|hy
     ·exact .inl (.inr g.2.2)
     ·exact .inr ⟨y,hy,g⟩
  |false=>
   have hs:yX p b acc x=acc:=by unfold yX;rw [hc];rfl
   have hc2: ¬(x.1=p∧xL x b=0):=by
    rintro ⟨h1,h2⟩
    rw [zAg.2 h1,h2] at hc
    cases hc
   obtain ⟨h3,h4⟩:=zKq l acc hp
   rw [List.foldl_cons,hs]
   refine ⟨h3,fun h=> ?_⟩
   rw [h4 h]
   constructor
   ·rintro (h|⟨y,hy,g⟩)
    ·exact .inl h
    ·exact .inr ⟨y,List.mem_cons_of_mem _ hy,g⟩
   ·rintro (h|⟨y,hy,g⟩)
    ·exact .inl h
    ·rcases List.mem_cons.1 hy with rfl|hy
     ·exact absurd ⟨g.1,g.2.1⟩ hc2
     ·exact .inr ⟨y,hy,g⟩
theorem xT (l:List (Ty.El zB)) (p:Ty.El zH) (b:Ty.El zB):(zCq l p b).Pairwise hlt:=(zKq l [] List.Pairwise.nil).1
theorem zCp (l:List (Ty.El zB)) (p:Ty.El zH) (b:Ty.El zB) (h:Ty.El qP):h∈zCq l p b↔ ∃x,x∈l∧x.1=p∧xL x b=0∧h∈x.2.2.2.2.2.2.2.2.2.2.2.1:=by
 have:=(zKq (p:=p) (b:=b) l [] List.Pairwise.nil).2 h
 rw [show zCq l p b=l.foldl (yX p b) [] from rfl,this]
 simp
noncomputable def zAJ (p:Ty.El zH) (l:List (Ty.El zB)):List (Ty.El zB):=zLt (fun x:Ty.El zB=>x.1) p l
theorem zT8 (p:Ty.El zH) (x:Ty.El zB) (l:List (Ty.El zB)):zAJ p (x::l)=if x.1=p then x::zAJ p l else zAJ p l:=by
 unfold zAJ zLt
 rw [List.filter_cons]
 by_cases h:x.1=p
 ·simp [h]
 ·simp [h]
theorem zDo {p:Ty.El zH} {x:Ty.El zB} {l:List (Ty.El zB)} :x∈zAJ p l↔x∈l∧x.1=p:=by
 unfold zAJ zLt
 rw [List.mem_filter]
 simp
def zKP (c:Option (Ty.El zB)) (l:List (Ty.El zB)):Option (Ty.El zB):=l.foldl (fun c x=>bif zRp x c then some x else c) c
theorem zDT {p:Ty.El zH} : ∀ (l:List (Ty.El zB)) (c:Option (Ty.El zB)),l.foldl (zE2 p) c=zKP c (zAJ p l)
 |[],c=>rfl
 |x::l,c=>by
  rw [List.foldl_cons,zT8]
  by_cases h:x.1=p
  ·rw [if_pos h]
   have hb:zE2 p c x=bif zRp x c then some x else c:=by unfold zE2;rw [zAg.2 h];rfl
   rw [hb,zDT l]
   rfl
  ·rw [if_neg h]
   have hp:vF x.1 p=false:=by
    rw [Bool.eq_false_iff]
    exact fun hh=>h (zAg.1 hh)
   have hb:zE2 p c x=c:=by unfold zE2;rw [hp];rfl
   rw [hb,zDT l]
theorem zDU (l:List (Ty.El zB)) (p:Ty.El zH):zCu l p=zKP none (zAJ p l):=zDT l none
theorem zSt {l l':List (Ty.El zB)} (h:zGc (fun x:Ty.El zB=>x.1) l l'):zAj l=zAj l':=by
 have hm: ∀x,x∈l↔x∈l':=by
  intro x
  have h1:= @zDo x.1 x l
  have h2:= @zDo x.1 x l'
  have h3:zAJ x.1 l=zAJ x.1 l':=h x.1
  rw [h3] at h1
  constructor
  ·intro hx;exact (h2.1 (h1.2 ⟨hx,rfl⟩)).1
  ·intro hx;exact (h1.1 (h2.2 ⟨hx,rfl⟩)).1
 have hP:zPb l=zPb l':=zDl zHx (zGQ l) (zGQ l') (fun p=>by
  rw [zEN,zEN]
  exact ⟨fun ⟨x,hx,e⟩=>⟨x,(hm x).1 hx,e⟩,fun ⟨x,hx,e⟩=>⟨x,(hm x).2 hx,e⟩⟩)
 unfold zAj
 rw [hP]
 congr 1
 funext p
 unfold mrg
 have hb:zCu l p=zCu l' p:=by
  rw [zDU,zDU]
  exact congrArg (zKP none) (h p)
 rw [hb]
 cases zCu l' p with
 |none=>rfl
 |some b=>
  have hh:zCq l p b=zCq l' p b:=zDl zKs (xT _ _ _) (xT _ _ _) (fun h'=>by
   rw [zCp,zCp]
   exact ⟨fun ⟨x,hx,e⟩=>⟨x,(hm x).1 hx,e⟩,fun ⟨x,hx,e⟩=>⟨x,(hm x).2 hx,e⟩⟩)
  rw [Option.map_some,Option.map_some,hh]
end Go.Ve

namespace Go.Ve
open Go
def vU {α:Type} (eq:α→α→Bool):List α→List α
 |[]=>[]
 |[x]=>[x]
 |x::y::r=>bif eq x y then vU eq (y::r) else x::vU eq (y::r)
theorem zDj {α:Type} {eq:α→α→Bool} (he: ∀x y,eq x y=true↔x=y) (z:α): ∀ (l:List α),z∈vU eq l↔z∈l
 |[]=>Iff.rfl
 |[x]=>Iff.rfl
 |x::y::r=>by
  simp only [vU]
  cases h:eq x y with
  |true=>
   rw [cond_true,zDj he z (y::r),(he x y).1 h]
   simp
  |false=>
   rw [cond_false,List.mem_cons,zDj he z (y::r),List.mem_cons (a:=z) (b:=x)]
theorem zGb {α:Type} {eq:α→α→Bool} {R:α→α→Prop} (he: ∀x y,eq x y=true↔x=y) (ho:Ord R) (htot: ∀x y, ¬R y x→x≠y→R x y): ∀ (l:List α),l.Pairwise (fun x y=> ¬R y x)→(vU eq l).Pairwise R
 |[],_=>List.Pairwise.nil
 |[x],_=>List.pairwise_singleton _ _
 |x::y::r,hp=>by
  have hp2:=hp
  rw [List.pairwise_cons] at hp
  have ih:=zGb he ho htot (y::r) hp.2
  simp only [vU]
  cases h:eq x y with
  |true=>exact ih
  |false=>
   rw [cond_false,List.pairwise_cons]
   refine ⟨fun z hz=> ?_,ih⟩
   have hne:x≠y:=fun e=>by rw [(he x y).2 e] at h;cases h
   have hxy:R x y:=htot x y (hp.1 y (by simp)) hne
   have hz2:=(zDj he z (y::r)).1 hz
   rcases List.mem_cons.1 hz2 with rfl|hz3
   ·exact hxy
   ·have hyz: ¬R z y:=by
     have:=hp.2
     rw [List.pairwise_cons] at this
     exact this.1 z hz3
    exact Classical.byContradiction (fun hn=>ho.tr y z x hyz hn hxy)
theorem zOe (a b:Ty.El qP):zPr a b=true↔a=b:=⟨fun h=>zGP h,fun h=>by subst h;simp [zPr]⟩
theorem zQ1 {l:List (Ty.El zB)} {p:Ty.El zH} {b:Ty.El zB} {hs:List (Ty.El qP)} (hp:hs.Pairwise (fun x y=> ¬hlt y x)) (hm: ∀h,h∈hs↔ ∃x,x∈l∧x.1=p∧xL x b=0∧h∈x.2.2.2.2.2.2.2.2.2.2.2.1):
  vU zPr hs=zCq l p b:=
 zDl zKs (zGb zOe zKs (fun _ _ h1 h2=>zXV h1 h2) hs hp) (xT l p b) (fun h=>by rw [zDj zOe,hm,zCp])
end Go.Ve

namespace Go.Ve
open Go
theorem zSN {α:Type} {p:α→Bool} {xs:List α} {i:Nat} {x:α} (h:xs[i]? =some x):(xs.take (i+1)).filter p=(xs.take i).filter p++(if p x then [x] else []):=by
 obtain ⟨hi,he⟩:=List.getElem?_eq_some_iff.1 h
 rw [List.take_add_one,h,List.filter_append]
 simp only [Option.toList_some,List.filter_cons,List.filter_nil]
theorem zMN {α:Type} {p:α→Bool} {xs:List α} (i:Nat):((xs.take i).filter p).length≤xs.length:=
 Nat.le_trans (List.length_filter_le _ _) (List.length_take_le' _ _)
def vQ (v:Ty.El zR) (r i:Int):List (Ty.El zO):=match v.2.1.1[(yR v r i).toNat]? with
 |some d=>d.2.2.1
 |none=>[]
def zI8 (v:Ty.El zR) (r i:Int) (p:Ty.El zO→Bool):List (Ty.El zO):=bif upB v r i then (vQ v r i).filter p else []
theorem zKM {v:Ty.El zR} {r i:Int} (h:upB v r i=true): ∃d,v.2.1.1[(yR v r i).toNat]? =some d∧0≤yR v r i∧vQ v r i=d.2.2.1:=by
 unfold upB at h
 simp only [Bool.and_eq_true,decide_eq_true_eq] at h
 obtain ⟨d,hd,_⟩:=zHE (p:=fun d:Ty.El zAt=>d.2.2.1.any (zG9 (r,i,()))) (xs:=v.2.1.1) h.1
 refine ⟨d,hd,h.1,?_⟩
 unfold vQ
 have hd':v.2.1.1[(yR v r i).toNat]? =some d:=hd
 rw [hd']
theorem zSZ {v:Ty.El zR} (hv:zDa v) (r i:Int):(vQ v r i).length≤360:=by
 unfold vQ
 split
 ·rename_i d hd
  exact hv.ends d (List.mem_of_getElem? hd)
 ·exact Nat.zero_le _
theorem zHS (v:Ty.El zR) (r i:Int) (hv:zDa v):Wp (zBz (v,r,i,())) (fun l=>l=zI8 v r i (fun e=>e.1 !=r||e.2.1 !=i)):=by
 unfold zBz zI8
 dsimp only
 refine zC ((zFh v r i hv).mono (fun b hb=> ?_))
 subst hb
 refine zD (fun h=>zA ?_) (fun h=> ?_)
 ·have h:upB v r i=false:=by simpa using h
  rw [h];rfl
 ·have h:upB v r i=true:=by simpa using h
  rw [h]
  obtain ⟨d,hd,h0,he⟩:=zKM h
  have hl:d.2.2.1.length≤360:=by rw [←he];exact zSZ hv r i
  refine zC (zC ((zCj v r i hv).mono (fun k hk=> ?_)))
  subst hk
  simp only [wL hd h0,Option.bind_some]
  refine uT (xs:=d.2.2.1) (by omega) (fun j (g:List (Ty.El zO))=>g=(d.2.2.1.take j).filter (fun e=>e.1 !=r||e.2.1 !=i)) (by simp) ?_ (fun g hg=>zA ?_)
  ·intro j x g hx hg
   have hgl:g.length≤360:=by rw [hg];exact Nat.le_trans (zMN j) hl
   simp only [zJ hx,Option.bind_some]
   rw [zSN hx, ←hg]
   refine zC ((show Wp _ (fun s:Bool×List (Ty.El zO)=>s.1=(x.1 !=r||x.2.1 !=i)∧s.2=g) from ?_).mono (fun s hs=> ?_))
   ·refine zD (fun h=>zA ⟨?_,rfl⟩) (fun h=>zA ⟨?_,rfl⟩)
    ·rw [h];rfl
    ·rw [h];rfl
   ·obtain ⟨s1,s2⟩:=s
    obtain ⟨h1,h2⟩:=hs
    simp only at h1 h2
    subst h2
    refine zD (fun h=>zC (vK (by simp only [List.length_singleton];omega) (zA ?_))) (fun h=>zA ?_)
    ·have h:s1=true:=h
     rw [←h1,if_pos h]
    ·have h:s1=false:=h
     rw [←h1,if_neg (by rw [h];decide),List.append_nil]
  ·rw [hg,List.take_length,he];rfl
end Go.Ve

namespace Go.Ve
open Go
theorem zYp {n:Ty.El zQ} {d:List Int} {v:Ty.El zR} (hv:xX n d v) {r i:Int} (h:upB v r i=true): ∃dm:Ty.El zAt,zHm n dm.1 dm.2.1 (r,i,())∧(∀e,e∈vQ v r i→zHm n dm.1 dm.2.1 e):=by
 have h0:=h
 unfold upB at h0
 simp only [Bool.and_eq_true,decide_eq_true_eq] at h0
 obtain ⟨dm,h1,h2⟩:=zHE (p:=fun d:Ty.El zAt=>d.2.2.1.any (zG9 (r,i,()))) (xs:=v.2.1.1) h0.1
 obtain ⟨e,he,h3⟩:=List.any_eq_true.1 h2
 have h4:=zKC.1 h3
 subst h4
 have hall:=(hv.topo.ends dm (List.mem_of_getElem? h1)).2
 refine ⟨dm,hall _ he,?_⟩
 intro e' he'
 obtain ⟨d',hd',_,hee⟩:=zKM h
 have h1':v.2.1.1[(yR v r i).toNat]? =some dm:=h1
 rw [hd'] at h1'
 cases h1'
 rw [hee] at he'
 exact hall e' he'
theorem zQi {n:Ty.El zQ} {d:List Int} {v:Ty.El zR} (hv:xX n d v) {r i:Int} (h:upB v r i=true) {e:Ty.El zO} (he:e∈vQ v r i) (hr:e.1=r):e.2.1=i:=by
 obtain ⟨dm,⟨a0,a1,rt,x,a2,a3,a4,_,a5,_⟩,hall⟩:=zYp hv h
 obtain ⟨b0,b1,rt',y,b2,b3,b4,_,b5,_⟩:=hall e he
 have a0:(0:Int)≤r:=a0
 have a1:(0:Int)≤i:=a1
 have a2:n.1[r.toNat]? =some rt:=a2
 have a3:rt.2.2.1[i.toNat]? =some x:=a3
 rw [hr,a2] at b2
 cases b2
 have hok:=(zFB hv).rt rt (List.mem_of_getElem? a2)
 have c1:some (zAi x.2.1 x.2.2.1)=some dm.1:=(x4 x.2.1 x.2.2.1).symm.trans a5
 have c2:some (zAi y.2.1 y.2.2.1)=some dm.1:=(x4 y.2.1 y.2.2.1).symm.trans b5
 have hn:zAi x.2.1 x.2.2.1=zAi y.2.1 y.2.2.1:=Option.some.inj (c1.trans c2.symm)
 have b1:(0:Int)≤e.2.1:=b1
 rcases Nat.lt_trichotomy i.toNat e.2.1.toNat with hlt|heq|hgt
 ·have:=(hok.ifs _ y b3).apart _ x hlt a3 b4 a4
  rw [hn,zSi] at this
  cases this
 ·exact (show ∀ (p q:Int),0≤p→0≤q→p.toNat=q.toNat→q=p from fun p q h1 h2 h3=>by omega) i e.2.1 a1 b1 heq
 ·have:=(hok.ifs _ x a3).apart _ y hgt b3 a4 b4
  rw [hn,zSi] at this
  cases this
theorem zXJ {n:Ty.El zQ} {d:List Int} {v:Ty.El zR} (hv:xX n d v) (r i:Int):zI8 v r i (fun e=>e.1 !=r||e.2.1 !=i)=zI8 v r i (fun e=>e.1 !=r):=by
 unfold zI8
 cases h:upB v r i with
 |false=>rfl
 |true=>
  show (vQ v r i).filter _=(vQ v r i).filter _
  refine List.filter_congr (fun e he=> ?_)
  cases hb:(e.1 !=r) with
  |true=>rfl
  |false=>
   have hr:e.1=r:=by simpa using hb
   have:=zQi hv h he hr
   simp [this]
end Go.Ve

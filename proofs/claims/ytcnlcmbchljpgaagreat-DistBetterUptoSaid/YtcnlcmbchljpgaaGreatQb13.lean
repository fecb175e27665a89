/-
  Plain laws: ranges swapped and rotated: the walks.
  Plain laws: stable merging in place: what the steps keep.
  Plain laws: stable merging in place: the walk.
  Plain laws: stable sorting, for any elements and any comparison that goes by a key.
  Plain laws: merging by prefix, as the program does it: what merging depends on.
  Plain laws: a sorted list without its repetitions.
  The sorting of routes is the one that is proved for any elements.
  Plain laws of distance-vector routing: the neighbors of an interface.
  Plain laws of distance-vector routing: a router has one interface in a domain.
  Plain laws of distance-vector routing: what a prefix list permits.
  Plain laws of distance-vector routing: who takes part, what is made of a neighbor's table.
  Plain laws of distance-vector routing: what a router receives.
  Plain laws: what a table is.
  Plain laws of distance-vector routing: tables of neighbors, finding a prefix.
  Plain laws of distance-vector routing: the owner of an address.
  Plain laws of distance-vector routing: Owner finds the neighbor with an address.
  Plain laws of distance-vector routing: where a received route comes from.
  Plain laws of distance-vector routing: the index of a prefix in a table.
  Plain laws: valid routes.
  The law as a function: law17_DistFilters.
  Functions out of code, part 10: typed data out of data without types, lists too.
  Contracts at one point: what a function answers at given data.
  slices.Clone: the contract over typed lists, out of three that tell nil, empty and the rest apart.
-/
import Derived.Test.YtcnlcmbchljpgaaGreatQb12
import Derived.Test.YtcnlcmbchljpgaaGreatQb11
set_option linter.unusedVariables false
namespace Go.Ve
open Go
set_option maxRecDepth 1000000
set_option maxHeartbeats 4000000
section
variable {α:Type} {cmp:α×α×Unit→Option Int}
theorem zBz (xs:List α) (a b n:Nat) (hab:a+n≤b) (hb:b+n≤xs.length) (hl:xs.length<4611686018427387904):
  Wp (zB5 cmp xs ((a:Int),(b:Int),(n:Int),(),())) (fun r=>r.1.length=xs.length∧ ∀k,r.1[k]? =swF a b n xs k):=by
 unfold zB5
 dsimp only
 refine wO (fun s:Int×List α=> ∃i:Nat,s.1=(i:Int)∧i≤n∧s.2.length=xs.length∧ ∀k,s.2[k]? =swF a b i xs k) (fun s=>((n:Int) -s.1).toNat) ⟨0,rfl,Nat.zero_le _,rfl,fun k=>zTZ.symm⟩ ?_
 rintro ⟨s,zs⟩ ⟨i,hi,hin,hzl,hz⟩
 simp only at hi hzl hz
 subst hi
 refine zI (fun h=> ?_) (fun h=> ?_)
 ·have h:(i:Int)< (n:Int):=h
  have hx:zs[a+i]? =some (zs[a+i]'(by omega)):=by simp
  have hy:zs[b+i]? =some (zs[b+i]'(by omega)):=by simp
  have hy2:(zs.set (a+i) (zs[b+i]'(by omega)))[b+i]? =some (zs[b+i]'(by omega)):=by rw [List.getElem?_set_ne (by omega)];exact hy
  dsimp only
  rw [zD (x:=(b:Int)+(i:Int)) (by omega) (by omega),zD (x:=(a:Int)+(i:Int)) (by omega) (by omega),show ((b:Int)+(i:Int))=((b+i:Nat):Int) by omega,show ((a:Int)+(i:Int))=((a+i:Nat):Int) by omega]
  simp only [zT hx,zT hy,Int.toNat_natCast,wR hx,wR hy,Option.bind_some,zT hy2,wR hy2]
  refine zB (e2l ⟨⟨i+1,?_,by omega,by simp only [List.length_set];exact hzl,zT0 (by omega) (by omega) hzl hz hx hy⟩,?_⟩)
  ·simp only;rw [zD (by omega) (by omega)];omega
  ·simp only;rw [zD (by omega) (by omega)];omega
 ·have h: ¬(i:Int)< (n:Int):=h
  have:i=n:=by omega
  subst this
  exact xC (zH (fun _=>zB (e2r ⟨hzl,hz⟩)) (fun h=>absurd h (by simp only;rw [hzl,Nat.beq_refl];decide)))
theorem zEa {xs ys:List α} (h:xs.length=ys.length):Nat.beq xs.length ys.length=true:=by rw [h];exact Nat.beq_refl _
theorem zN8 (xs:List α) (a m b:Nat) (ham:a<m) (hmb:m<b) (hb:b≤xs.length) (hl:xs.length<4611686018427387904):
  Wp (zOg cmp xs ((a:Int),(m:Int),(b:Int),(),())) (fun r=>r.1.length=xs.length∧ ∀k,r.1[k]? =kS a m b xs k):=by
 unfold zOg
 dsimp only
 rw [zD (x:=(m:Int) - (a:Int)) (by omega) (by omega),zD (x:=(b:Int) - (m:Int)) (by omega) (by omega)]
 refine zC ((show Wp _ (fun s:List α×Int=>s.1.length=xs.length∧ ∃i:Nat,s.2=(i:Int)∧0<i∧i≤m∧m+i≤b∧ ∀k,kS (m-i) m (m+i) s.1 k=kS a m b xs k) from ?_).mono ?_)
 ·refine wO (fun s:Int×Int×List α=>s.2.2.length=xs.length∧ ∃i j:Nat,s.1=(i:Int)∧s.2.1=(j:Int)∧0<i∧0<j∧i≤m-a∧m+j≤b∧ ∀k,kS (m-i) m (m+j) s.2.2 k=kS a m b xs k) (fun s=>(s.1+s.2.1).toNat)
   ⟨rfl,m-a,b-m,by simp only;omega,by simp only;omega,by omega,by omega,by omega,by omega,fun k=>by rw [show m- (m-a)=a by omega,show m+(b-m)=b by omega]⟩ ?_
  rintro ⟨si,sj,zs⟩ ⟨hzl,i,j,hi,hj,hi0,hj0,hia,hjb,hz⟩
  simp only at hi hj hzl hz
  subst hi hj
  refine zH (fun hne=> ?_) (fun he=>zB (e2r ⟨hzl,i,rfl,hi0,by omega,?_,?_⟩))
  ·have hne: ¬(i:Int)=(j:Int):=by simpa using hne
   refine zI (fun hgt=> ?_) (fun hgt=> ?_)
   ·have hgt:(i:Int)>(j:Int):=hgt
    refine zH (fun _=> ?_) (fun h=>absurd h (by rw [Nat.beq_refl];decide))
    dsimp only
    rw [zD (x:=(m:Int) - (i:Int)) (by omega) (by omega),zD (x:=(i:Int) - (j:Int)) (by omega) (by omega),show ((m:Int) - (i:Int))=((m-i:Nat):Int) by omega]
    refine zC ((zBz zs (m-i) m j (by omega) (by omega) (by omega)).mono (fun y hy=>zB (e2l ⟨⟨hy.1.trans hzl,i-j,j,?_,rfl,by omega,hj0,by omega,hjb,fun k=> ?_⟩,?_⟩)))
    ·simp only;omega
    ·rw [←hz k, ←zUg (lo:=m-i) (m:=m) (hi:=m+j) (xs:=zs) (zs:=y.1) (by omega) (by omega) (by omega) (fun k=>by rw [hy.2,show m+j-m=j by omega]) k,show m- (i-j)=m-i+(m+j-m) by omega]
    ·simp only;omega
   ·have hgt: ¬(i:Int)>(j:Int):=hgt
    refine zH (fun _=> ?_) (fun h=>absurd h (by rw [Nat.beq_refl];decide))
    dsimp only
    rw [zD (x:=(m:Int) - (i:Int)) (by omega) (by omega),zD (x:=(m:Int)+(j:Int)) (by omega) (by omega),zD (x:=(m:Int)+(j:Int) - (i:Int)) (by omega) (by omega),zD (x:=(j:Int) - (i:Int)) (by omega) (by omega),show ((m:Int) - (i:Int))=((m-i:Nat):Int) by omega,show ((m:Int)+(j:Int) - (i:Int))=((m+j-i:Nat):Int) by omega]
    refine zC ((zBz zs (m-i) (m+j-i) i (by omega) (by omega) (by omega)).mono (fun y hy=>zB (e2l ⟨⟨hy.1.trans hzl,i,j-i,rfl,?_,hi0,by omega,hia,by omega,fun k=> ?_⟩,?_⟩)))
    ·simp only;omega
    ·rw [←hz k, ←zS5 (lo:=m-i) (m:=m) (hi:=m+j) (xs:=zs) (zs:=y.1) (by omega) (by omega) (by omega) (fun k=>by rw [hy.2,show m- (m-i)=i by omega]) k,show m+(j-i)=m+j- (m- (m-i)) by omega]
    ·simp only;omega
  ·have he:(i:Int)=(j:Int):=by simpa using he
   omega
  ·have he:(i:Int)=(j:Int):=by simpa using he
   have:i=j:=by omega
   subst this
   exact hz
 ·rintro ⟨zs,s⟩ ⟨hzl,i,hi,hi0,him,hmi,hz⟩
  simp only at hi hzl hz
  subst hi
  refine zH (fun _=> ?_) (fun h=>absurd h (by rw [Nat.beq_refl];decide))
  dsimp only
  rw [zD (x:=(m:Int) - (i:Int)) (by omega) (by omega),show ((m:Int) - (i:Int))=((m-i:Nat):Int) by omega]
  refine zC ((zBz zs (m-i) m i (by omega) (by omega) (by omega)).mono (fun y hy=> ?_))
  refine zH (fun _=>zB ⟨hy.1.trans hzl,fun k=> ?_⟩) (fun h=>absurd h (by rw [zEa (hy.1.trans hzl)];decide))
  rw [←hz k]
  exact zUh (lo:=m-i) (m:=m) (hi:=m+i) (by omega) (by omega) (by omega) (fun k=>by rw [hy.2,show m- (m-i)=i by omega]) k
end
end Go.Ve

namespace Go.Ve
open Go
set_option maxHeartbeats 4000000
section
variable {α κ:Type} {lt:α→α→Prop} {key:α→κ}
structure zJ3 (lt:α→α→Prop) (key:α→κ):Prop where
 ord:Ord lt
 ne: ∀x y,lt x y→key x≠key y
open Classical in
noncomputable def zIk (key:α→κ) (p:κ) (xs:List α):List α:=xs.filter (fun x=>decide (key x=p))
def zAY (key:α→κ) (xs ys:List α):Prop:= ∀p,zIk key p xs=zIk key p ys
theorem zAY.refl (xs:List α):zAY key xs xs:=fun _=>rfl
theorem zAY.trans {xs ys zs:List α} (h1:zAY key xs ys) (h2:zAY key ys zs):zAY key xs zs:=fun p=>(h1 p).trans (h2 p)
theorem zQb (p:κ) (xs ys:List α):zIk key p (xs++ys)=zIk key p xs++zIk key p ys:=List.filter_append ..
theorem zQa {p:κ} {xs:List α} (h: ∀x,x∈xs→key x≠p):zIk key p xs=[]:=by
 unfold zIk
 rw [List.filter_eq_nil_iff]
 intro x hx
 simpa using h x hx
theorem zS0 (hk:zJ3 lt key) {P U V S:List α} (h: ∀x y,x∈U→y∈V→lt y x):zAY key (P++U++V++S) (P++V++U++S):=by
 intro p
 simp only [zQb]
 congr 1
 rw [List.append_assoc,List.append_assoc]
 congr 1
 by_cases hu: ∃x,x∈U∧key x=p
 ·obtain ⟨x,hx,rfl⟩:=hu
  rw [zQa (xs:=V) (fun y hy=>hk.ne _ _ (h x y hx hy))]
  simp
 ·rw [zQa (xs:=U) (fun x hx e=>hu ⟨x,hx,e⟩)]
  simp
structure uF (key:α→κ) (a b:Nat) (xs ys:List α):Prop where
 len:ys.length=xs.length
 out: ∀k,k<a∨b≤k→ys[k]? =xs[k]?
 ins: ∀q y,a≤q→q<b→ys[q]? =some y→ ∃q',a≤q'∧q'<b∧xs[q']? =some y
 same:zAY key xs ys
theorem uF.refl (a b:Nat) (xs:List α):uF key a b xs xs:=⟨rfl,fun _ _=>rfl,fun q y h1 h2 h3=>⟨q,h1,h2,h3⟩,zAY.refl xs⟩
theorem uF.trans {a b:Nat} {xs ys zs:List α} (h1:uF key a b xs ys) (h2:uF key a b ys zs):uF key a b xs zs:=by
 refine ⟨h2.len.trans h1.len,fun k hk=>(h2.out k hk).trans (h1.out k hk),?_,h1.same.trans h2.same⟩
 intro q y hq1 hq2 hy
 obtain ⟨q',g1,g2,g3⟩:=h2.ins q y hq1 hq2 hy
 exact h1.ins q' y g1 g2 g3
theorem uF.mono {a b a' b':Nat} {xs ys:List α} (h:uF key a b xs ys) (ha:a'≤a) (hb:b≤b'):uF key a' b' xs ys:=by
 refine ⟨h.len,fun k hk=>h.out k (by omega),?_,h.same⟩
 intro q y hq1 hq2 hy
 by_cases hq:a≤q∧q<b
 ·obtain ⟨q',g1,g2,g3⟩:=h.ins q y hq.1 hq.2 hy
  exact ⟨q',by omega,by omega,g3⟩
 ·exact ⟨q,hq1,hq2,by rw [←h.out q (by omega)];exact hy⟩
def wB (lt:α→α→Prop) (lo hi:Nat) (xs:List α):Prop:= ∀p q x y,lo≤p→p<q→q<hi→xs[p]? =some x→xs[q]? =some y→ ¬lt y x
theorem wB.out {lo hi a b:Nat} {xs ys:List α} (h:wB lt lo hi xs) (hs:uF key a b xs ys) (hd:hi≤a∨b≤lo):wB lt lo hi ys:=by
 intro p q x y h1 h2 h3 hx hy
 rw [hs.out p (by omega)] at hx
 rw [hs.out q (by omega)] at hy
 exact h p q x y h1 h2 h3 hx hy
theorem zGN {a c b:Nat} {xs:List α} (h1:wB lt a c xs) (h2:wB lt c b xs) (h3: ∀q r x y,a≤q→q<c→c≤r→r<b→xs[q]? =some x→xs[r]? =some y→ ¬lt y x):wB lt a b xs:=by
 intro p q x y hp hpq hq hx hy
 by_cases g1:q<c
 ·exact h1 p q x y hp hpq g1 hx hy
 ·by_cases g2:p<c
  ·exact h3 p q x y hp g2 (by omega) hq hx hy
  ·exact h2 p q x y (by omega) hpq hq hx hy
theorem zSZ {a:Nat} {xs:List α} :wB lt a (a+1) xs:=fun p q x y h1 h2 h3 _ _=>by omega
theorem wB.sub {a b a' b':Nat} {xs:List α} (h:wB lt a b xs) (ha:a≤a') (hb:b'≤b):wB lt a' b' xs:=fun p q x y h1 h2 h3 hx hy=>h p q x y (by omega) h2 (by omega) hx hy
theorem zHN (hk:zJ3 lt key) {lo m hi:Nat} {xs zs:List α} (h1:lo≤m) (h2:m≤hi) (h3:hi≤xs.length) (hl:zs.length=xs.length) (h: ∀k,zs[k]? =kS lo m hi xs k)
  (hlt: ∀q r x y,lo≤q→q<m→m≤r→r<hi→xs[q]? =some x→xs[r]? =some y→lt y x):uF key lo hi xs zs:=by
 have hsplit:xs=xs.take lo++(xs.drop lo).take (m-lo)++(xs.drop m).take (hi-m)++xs.drop hi:=by
  refine List.ext_getElem? (fun k=> ?_)
  simp only [List.getElem?_append,List.length_append,List.length_take,List.length_drop,List.getElem?_take,List.getElem?_drop]
  repeat' split
  all_goals first
   |rfl
   |exact xG (by omega)
   |(exfalso;omega)
 have hz:zs=xs.take lo++(xs.drop m).take (hi-m)++(xs.drop lo).take (m-lo)++xs.drop hi:=by
  refine List.ext_getElem? (fun k=> ?_)
  rw [h]
  unfold kS
  simp only [List.getElem?_append,List.length_append,List.length_take,List.length_drop,List.getElem?_take,List.getElem?_drop]
  repeat' split
  all_goals first
   |rfl
   |exact xG (by omega)
   |(exfalso;omega)
 refine ⟨hl,?_,?_,?_⟩
 ·intro k hk'
  rw [h]
  unfold kS
  rw [if_neg (by omega),if_neg (by omega)]
 ·intro q y hq1 hq2 hy
  rw [h] at hy
  unfold kS at hy
  split at hy
  ·exact ⟨q+(m-lo),by omega,by omega,hy⟩
  ·split at hy
   ·exact ⟨q- (hi-m),by omega,by omega,hy⟩
   ·exact ⟨q,hq1,hq2,hy⟩
 ·have hs:=zS0 hk (P:=xs.take lo) (U:=(xs.drop lo).take (m-lo)) (V:=(xs.drop m).take (hi-m)) (S:=xs.drop hi) ?_
  ·rw [←hsplit, ←hz] at hs
   exact hs
  ·intro x y hx hy
   obtain ⟨i,hi',hx'⟩:=List.getElem_of_mem hx
   obtain ⟨j,hj',hy'⟩:=List.getElem_of_mem hy
   have e1:xs[lo+i]? =some x:=by
    have:((xs.drop lo).take (m-lo))[i]? =some x:=by rw [List.getElem?_eq_getElem hi',hx']
    rw [List.getElem?_take,List.getElem?_drop] at this
    split at this
    ·exact this
    ·cases this
   have e2:xs[m+j]? =some y:=by
    have:((xs.drop m).take (hi-m))[j]? =some y:=by rw [List.getElem?_eq_getElem hj',hy']
    rw [List.getElem?_take,List.getElem?_drop] at this
    split at this
    ·exact this
    ·cases this
   simp only [List.length_take,List.length_drop] at hi' hj'
   exact hlt (lo+i) (m+j) x y (by omega) (by omega) (by omega) (by omega) e1 e2
theorem zVL {a k:Nat} {xs zs:List α} (hak:a≤k) (hk:k+1<xs.length) (hl:zs.length=xs.length) (h: ∀j,zs[j]? =kS a (a+1) (k+1) xs j) {x y:α} (hx:zs[k]? =some x) (hy:zs[k+1]? =some y):
  ∀j,((zs.set k y).set (k+1) x)[j]? =kS a (a+1) (k+2) xs j:=by
 intro j
 have h1:=h k
 have h2:=h (k+1)
 unfold kS at h1 h2
 rw [hx,if_neg (by omega),if_pos (by omega)] at h1
 rw [hy,if_neg (by omega),if_neg (by omega)] at h2
 unfold kS
 by_cases e1:j=k+1
 ·subst e1
  rw [List.getElem?_set_self (by rw [List.length_set];omega),if_neg (by omega),if_pos (by omega),h1]
  exact xG (by omega)
 ·rw [List.getElem?_set_ne (by omega)]
  by_cases e2:j=k
  ·subst e2
   rw [List.getElem?_set_self (by omega),if_pos (by omega),h2]
   exact xG (by omega)
  ·rw [List.getElem?_set_ne (by omega),h j]
   unfold kS
   repeat' split
   all_goals first
    |rfl
    |exact xG (by omega)
    |(exfalso;omega)
theorem zNk {m k:Nat} {xs zs:List α} (hk0:0<k) (hkm:k≤m) (hm:m<xs.length) (hl:zs.length=xs.length) (h: ∀j,zs[j]? =kS k m (m+1) xs j) {x y:α} (hx:zs[k]? =some x) (hy:zs[k-1]? =some y):
  ∀j,((zs.set k y).set (k-1) x)[j]? =kS (k-1) m (m+1) xs j:=by
 intro j
 have h1:=h k
 have h2:=h (k-1)
 unfold kS at h1 h2
 rw [hx,if_pos (by omega)] at h1
 rw [hy,if_neg (by omega),if_neg (by omega)] at h2
 unfold kS
 by_cases e1:j=k-1
 ·subst e1
  rw [List.getElem?_set_self (by rw [List.length_set];omega),if_pos (by omega),h1]
  exact xG (by omega)
 ·rw [List.getElem?_set_ne (by omega)]
  by_cases e2:j=k
  ·subst e2
   rw [List.getElem?_set_self (by omega),if_neg (by omega),if_pos (by omega),h2]
   exact xG (by omega)
  ·rw [List.getElem?_set_ne (by omega),h j]
   unfold kS
   repeat' split
   all_goals first
    |rfl
    |exact xG (by omega)
    |(exfalso;omega)
theorem zUi {a:Nat} {xs:List α} (j:Nat):kS a (a+1) (a+1) xs j=xs[j]? :=by
 unfold kS
 repeat' split
 all_goals first
  |rfl
  |exact xG (by omega)
  |(exfalso;omega)
theorem zPA {m:Nat} {xs:List α} (j:Nat):kS m m (m+1) xs j=xs[j]? :=by
 unfold kS
 repeat' split
 all_goals first
  |rfl
  |exact xG (by omega)
  |(exfalso;omega)
end
theorem zOt (i j:Nat) (h:i+j<4611686018427387904):IntKind.wrap .i64 (Int.fdiv (IntKind.wrap .u64 (IntKind.wrap .i64 ((i:Int)+(j:Int)))) ((2:Int)^min (Int.toNat (1:Int)) (IntKind.bits .u64)))=(((i+j) / 2:Nat):Int):=by
 have e:((2:Int)^min (Int.toNat (1:Int)) (IntKind.bits .u64))=2:=by decide
 rw [e,zD (x:=(i:Int)+(j:Int)) (by omega) (by omega),zHp (x:=(i:Int)+(j:Int)) (by omega) (by omega),Int.fdiv_eq_ediv_of_nonneg _ (by omega)]
 rw [zD (by omega) (by omega)]
 omega
end Go.Ve

namespace Go.Ve
open Go
set_option maxRecDepth 1000000
set_option maxHeartbeats 4000000
theorem zSg {σ ρ:Type} {m:Option (σ ⊕ ρ)} {K:σ→Option ρ} {Q:ρ→Prop} (P:σ→Prop) (h:Wp m (uG P Q)) (hK: ∀s,P s→Wp (K s) Q):Wp (jP m K) Q:=by
 refine qT (h.mono ?_)
 intro o ho
 cases o with
 |inl s=>exact hK s ho
 |inr r=>exact ho
theorem zGv {β:Type} {z:β} {i0 j0:Nat} {P:Nat→Prop} {T:Int×Int×β→Option ((Int×Int×β) ⊕ (Int×β))} (hij:i0≤j0)
  (step: ∀i j:Nat,i0≤i→i<j→j≤j0→Wp (T ((i:Int),(j:Int),z)) (fun o=>(o=Sum.inl ((((i+j) / 2+1:Nat):Int),(j:Int),z)∧P ((i+j) / 2))∨(o=Sum.inl ((i:Int),(((i+j) / 2:Nat):Int),z)∧ ¬P ((i+j) / 2)))):
  Wp (zR (fun s:Int×Int×β=>bif decide (s.1<s.2.1) then T s else some (Sum.inr (s.1,s.2.2))) ((i0:Int),(j0:Int),z)) (fun s=>s.2=z∧ ∃i:Nat,s.1=(i:Int)∧i0≤i∧i≤j0∧(i0<i→P (i-1))∧(i<j0→ ¬P i)):=by
 refine wO (fun s:Int×Int×β=>s.2.2=z∧ ∃i j:Nat,s.1=(i:Int)∧s.2.1=(j:Int)∧i0≤i∧i≤j∧j≤j0∧(i0<i→P (i-1))∧(j<j0→ ¬P j)) (fun s=>(s.2.1-s.1).toNat)
  ⟨rfl,i0,j0,rfl,rfl,Nat.le_refl _,hij,Nat.le_refl _,fun h=>by omega,fun h=>by omega⟩ ?_
 rintro ⟨si,sj,y⟩ ⟨hy,i,j,hi,hj,h1,h2,h3,h4,h5⟩
 simp only at hi hj hy
 subst hi hj hy
 refine zI (fun h=> ?_) (fun h=>zB (e2r ⟨rfl,i,rfl,h1,by omega,h4,?_⟩))
 ·have h:(i:Int)< (j:Int):=h
  refine (step i j h1 (by omega) h3).mono ?_
  rintro o (⟨rfl,hp⟩|⟨rfl,hp⟩)
  ·refine ⟨⟨rfl,(i+j) / 2+1,j,rfl,rfl,by omega,by omega,h3,fun _=>by rw [Nat.add_sub_cancel];exact hp,h5⟩,?_⟩
   simp only;omega
  ·refine ⟨⟨rfl,i,(i+j) / 2,rfl,rfl,h1,by omega,by omega,h4,fun _=>hp⟩,?_⟩
   simp only;omega
 ·have h: ¬(i:Int)< (j:Int):=h
  have:i=j:=by omega
  subst this
  exact h5
section
variable {α κ:Type} {cmp:α×α×Unit→Option Int} {lt:α→α→Prop} {key:α→κ}
theorem wQ {xs:List α} {i:Nat} (h:i<xs.length):xs[i]? =some xs[i]:=by simp [h]
theorem zC9 (hk:zJ3 lt key) (hcmp: ∀x y,Wp (cmp (x,y,())) (fun c=>c<0↔lt x y)): ∀ (n:Nat) (xs:List α) (a m b:Nat),a<m→m<b→b≤xs.length→xs.length<1099511627776→b-a≤n→wB lt a m xs→wB lt m b xs→
  Wp (zAe cmp n xs ((a:Int),(m:Int),(b:Int),(),())) (fun r=>uF key a b xs r.1∧wB lt a b r.1):=by
 have ho:=hk.ord
 have tr1: ∀x y z, ¬lt y x→lt y z→lt x z:=fun x y z h1 h2=>Classical.byContradiction (fun h3=>ho.tr z x y h3 h1 h2)
 have tr2: ∀x y z,lt x y→ ¬lt z y→lt x z:=fun x y z h1 h2=>Classical.byContradiction (fun h3=>ho.tr y z x h2 h3 h1)
 intro n
 induction n with
 |zero=>intro xs a m b h1 h2 _ _ h3;omega
 |succ n ih=>
  intro xs a m b ham hmb hb hl hn hs1 hs2
  have ha? :=wQ (xs:=xs) (i:=a) (by omega)
  have hm? :=wQ (xs:=xs) (i:=m) (by omega)
  simp only [zAe]
  unfold zEV
  dsimp only
  rw [zD (x:=(m:Int) - (a:Int)) (by omega) (by omega),zD (x:=(b:Int) - (m:Int)) (by omega) (by omega)]
  refine zSg (fun s:List α=>s=xs∧m≠a+1) ?_ ?_
  ·refine zH (fun h=> ?_) (fun h=>zB (e2l ⟨rfl,?_⟩))
   ·have h:(m:Int) - (a:Int)=1:=by simpa using h
    have hma:m=a+1:=by omega
    subst hma
    refine zC ((zGv (z:=xs) (i0:=a+1) (j0:=b) (P:=fun q=> ∀y,xs[q]? =some y→lt y xs[a]) (by omega) ?_).mono ?_)
    ·intro i j hi hij hj
     have hh:=wQ (xs:=xs) (i:=(i+j) / 2) (by omega)
     dsimp only
     rw [zOt i j (by omega)]
     simp only [zT hh,Int.toNat_natCast,wR hh,zT ha?,wR ha?,Option.bind_some]
     refine zC ((hcmp _ _).mono (fun c hc=>zI (fun h1=>zB (.inl ⟨?_,fun y hy=> ?_⟩)) (fun h1=>zB (.inr ⟨rfl,fun h2=>h1 (hc.2 (h2 _ hh))⟩))))
     ·rw [zD (by omega) (by omega)];congr 1
     ·rw [hh] at hy;cases hy;exact hc.1 h1
    ·rintro ⟨s,zs⟩ ⟨hz,i,hi,hi1,hi2,hP,hN⟩
     simp only at hz hi
     subst hz hi
     have hall1: ∀q y,a+1≤q→q<i→zs[q]? =some y→lt y zs[a]:=by
      intro q y hq1 hq2 hy
      have hp:=hP (by omega) _ (wQ (by omega))
      by_cases e:q=i-1
      ·subst e;rw [wQ (by omega)] at hy;cases hy;exact hp
      ·exact tr1 _ _ _ (hs2 q (i-1) y _ hq1 (by omega) (by omega) hy (wQ (by omega))) hp
     have hall2: ∀q y,i≤q→q<b→zs[q]? =some y→ ¬lt y zs[a]:=by
      intro q y hq1 hq2 hy hlt
      have hnp:=hN (by omega)
      apply hnp
      intro w hw
      by_cases e:q=i
      ·subst e;rw [hw] at hy;cases hy;exact hlt
      ·exact tr1 _ _ _ (hs2 i q w y hi1 (by omega) hq2 hw hy) hlt
     dsimp only
     rw [zD (x:=(i:Int) -1) (by omega) (by omega)]
     refine wO (fun s:Int×List α=> ∃k:Nat,s.1=(k:Int)∧a≤k∧k+1≤i∧s.2.length=zs.length∧ ∀j,s.2[j]? =kS a (a+1) (k+1) zs j) (fun s=>((i:Int) -s.1).toNat) ⟨a,rfl,Nat.le_refl _,hi1,rfl,fun j=>(zUi j).symm⟩ ?_
     rintro ⟨s,ws⟩ ⟨k,hk',hka,hki,hwl,hw⟩
     simp only at hk' hwl hw
     subst hk'
     refine zI (fun hlt=> ?_) (fun hge=> ?_)
     ·have hlt:(k:Int)< (i:Int) -1:=hlt
      have hx:=wQ (xs:=ws) (i:=k) (by omega)
      have hy:=wQ (xs:=ws) (i:=k+1) (by omega)
      have hy2:(ws.set k (ws[k+1]'(by omega)))[k+1]? =some (ws[k+1]'(by omega)):=by rw [List.getElem?_set_ne (by omega)];exact hy
      dsimp only
      rw [zD (x:=(k:Int)+1) (by omega) (by omega),show ((k:Int)+1)=((k+1:Nat):Int) by omega]
      simp only [zT hx,zT hy,Int.toNat_natCast,wR hx,wR hy,Option.bind_some,zT hy2,wR hy2]
      refine zB (e2l ⟨⟨k+1,rfl,by omega,by omega,by simp only [List.length_set];exact hwl,zVL hka (by omega) hwl hw hx hy⟩,?_⟩)
      simp only;omega
     ·have hge: ¬(k:Int)< (i:Int) -1:=hge
      have hki':k+1=i:=by omega
      subst hki'
      refine xC (xC (zH (fun _=>zB (e2r (e2r ?_))) (fun h=>absurd h (by rw [zEa hwl];decide))))
      have hst:uF key a (k+1) zs ws:=zHN hk (m:=a+1) (by omega) (by omega) (by omega) hwl hw (fun q r x y h1 h2 h3 h4 hx hy=>by
       have:q=a:=by omega
       subst this
       rw [ha?] at hx;cases hx
       exact hall1 r y h3 h4 hy)
      refine ⟨hst.mono (Nat.le_refl _) (by omega),?_⟩
      have qR: ∀q y,a≤q→q<b→ws[q]? =some y→(q<k∧zs[q+1]? =some y)∨(q=k∧y=zs[a])∨(k<q∧zs[q]? =some y):=by
       intro q y h1 h2 hy
       rw [hw] at hy
       unfold kS at hy
       split at hy
       ·exact .inl ⟨by omega,by rw [←hy];exact xG (by omega)⟩
       ·split at hy
        ·refine .inr (.inl ⟨by omega,?_⟩)
         rw [show q- (k+1- (a+1))=a by omega,ha?] at hy
         cases hy;rfl
        ·exact .inr (.inr ⟨by omega,hy⟩)
      intro p q x y h1 h2 h3 hx hy
      rcases qR p x h1 (by omega) hx with ⟨g1,hx'⟩|⟨g1,rfl⟩|⟨g1,hx'⟩
      ·rcases qR q y (by omega) h3 hy with ⟨g2,hy'⟩|⟨g2,rfl⟩|⟨g2,hy'⟩
       ·exact hs2 (p+1) (q+1) x y (by omega) (by omega) (by omega) hx' hy'
       ·exact ho.asym _ _ (hall1 (p+1) x (by omega) (by omega) hx')
       ·exact hs2 (p+1) q x y (by omega) (by omega) h3 hx' hy'
      ·rcases qR q y (by omega) h3 hy with ⟨g2,hy'⟩|⟨g2,rfl⟩|⟨g2,hy'⟩
       ·omega
       ·omega
       ·exact hall2 q y (by omega) h3 hy'
      ·rcases qR q y (by omega) h3 hy with ⟨g2,hy'⟩|⟨g2,rfl⟩|⟨g2,hy'⟩
       ·omega
       ·omega
       ·exact hs2 p q x y (by omega) h2 h3 hx' hy'
   ·have h: ¬(m:Int) - (a:Int)=1:=by simpa using h
    omega
  rintro s ⟨rfl,hma⟩
  refine zSg (fun s':List α=>s'=s∧b≠m+1) ?_ ?_
  ·refine zH (fun h=> ?_) (fun h=>zB (e2l ⟨rfl,?_⟩))
   ·have h:(b:Int) - (m:Int)=1:=by simpa using h
    have hbm:b=m+1:=by omega
    subst hbm
    refine zC ((zGv (z:=s) (i0:=a) (j0:=m) (P:=fun q=> ∀y,s[q]? =some y→ ¬lt s[m] y) (by omega) ?_).mono ?_)
    ·intro i j hi hij hj
     have hh:=wQ (xs:=s) (i:=(i+j) / 2) (by omega)
     dsimp only
     rw [zOt i j (by omega)]
     simp only [zT hh,Int.toNat_natCast,wR hh,zT hm?,wR hm?,Option.bind_some]
     refine zC ((hcmp _ _).mono (fun c hc=>jT (fun h1=>zB (.inl ⟨?_,fun y hy=> ?_⟩)) (fun h1=>zB (.inr ⟨rfl,fun h2=>h2 _ hh (hc.1 h1)⟩))))
     ·rw [zD (by omega) (by omega)];congr 1
     ·rw [hh] at hy;cases hy;exact fun h2=>h1 (hc.2 h2)
    ·rintro ⟨s0,zs⟩ ⟨hz,i,hi,hi1,hi2,hP,hN⟩
     simp only at hz hi
     subst hz hi
     have hall1: ∀q y,a≤q→q<i→zs[q]? =some y→ ¬lt zs[m] y:=by
      intro q y hq1 hq2 hy
      have hp:=hP (by omega) _ (wQ (by omega))
      by_cases e:q=i-1
      ·subst e;rw [wQ (by omega)] at hy;cases hy;exact hp
      ·exact ho.tr _ _ _ (hs1 q (i-1) y _ hq1 (by omega) (by omega) hy (wQ (by omega))) hp
     have hall2: ∀q y,i≤q→q<m→zs[q]? =some y→lt zs[m] y:=by
      intro q y hq1 hq2 hy
      refine Classical.byContradiction (fun hnlt=> ?_)
      have hnp:=hN (by omega)
      apply hnp
      intro w hw
      by_cases e:q=i
      ·subst e;rw [hw] at hy;cases hy;exact hnlt
      ·exact ho.tr _ _ _ (hs1 i q w y hi1 (by omega) hq2 hw hy) hnlt
     dsimp only
     refine wO (fun s:Int×List α=> ∃k:Nat,s.1=(k:Int)∧i≤k∧k≤m∧s.2.length=zs.length∧ ∀j,s.2[j]? =kS k m (m+1) zs j) (fun s=>s.1.toNat) ⟨m,rfl,hi2,Nat.le_refl _,rfl,fun j=>(zPA j).symm⟩ ?_
     rintro ⟨s0,ws⟩ ⟨k,hk',hki,hkm,hwl,hw⟩
     simp only at hk' hwl hw
     subst hk'
     refine zI (fun hgt=> ?_) (fun hge=> ?_)
     ·have hgt:(k:Int)>(i:Int):=hgt
      have hx:=wQ (xs:=ws) (i:=k) (by omega)
      have hy:=wQ (xs:=ws) (i:=k-1) (by omega)
      have hy2:(ws.set k (ws[k-1]'(by omega)))[k-1]? =some (ws[k-1]'(by omega)):=by rw [List.getElem?_set_ne (by omega)];exact hy
      dsimp only
      rw [zD (x:=(k:Int) -1) (by omega) (by omega),show ((k:Int) -1)=((k-1:Nat):Int) by omega]
      simp only [zT hx,zT hy,Int.toNat_natCast,wR hx,wR hy,Option.bind_some,zT hy2,wR hy2]
      refine zB (e2l ⟨⟨k-1,rfl,by omega,by omega,by simp only [List.length_set];exact hwl,zNk (by omega) hkm (by omega) hwl hw hx hy⟩,?_⟩)
      simp only;omega
     ·have hge: ¬(k:Int)>(i:Int):=hge
      have hki':k=i:=by omega
      subst hki'
      refine xC (xC (zH (fun _=>zB (e2r (e2r ?_))) (fun h=>absurd h (by rw [zEa hwl];decide))))
      have hst:uF key k (m+1) zs ws:=zHN hk (m:=m) (by omega) (by omega) (by omega) hwl hw (fun q r x y h1 h2 h3 h4 hx hy=>by
       have:r=m:=by omega
       subst this
       rw [hm?] at hy;cases hy
       exact hall2 q x h1 h2 hx)
      refine ⟨hst.mono hi1 (Nat.le_refl _),?_⟩
      have qR: ∀q y,a≤q→q<m+1→ws[q]? =some y→(q<k∧zs[q]? =some y)∨(q=k∧y=zs[m])∨(k<q∧zs[q-1]? =some y):=by
       intro q y h1 h2 hy
       rw [hw] at hy
       unfold kS at hy
       split at hy
       ·refine .inr (.inl ⟨by omega,?_⟩)
        rw [show q+(m-k)=m by omega,hm?] at hy
        cases hy;rfl
       ·split at hy
        ·exact .inr (.inr ⟨by omega,by rw [←hy];exact xG (by omega)⟩)
        ·exact .inl ⟨by omega,hy⟩
      intro p q x y h1 h2 h3 hx hy
      rcases qR p x h1 (by omega) hx with ⟨g1,hx'⟩|⟨g1,rfl⟩|⟨g1,hx'⟩
      ·rcases qR q y (by omega) h3 hy with ⟨g2,hy'⟩|⟨g2,rfl⟩|⟨g2,hy'⟩
       ·exact hs1 p q x y h1 h2 (by omega) hx' hy'
       ·exact hall1 p x h1 g1 hx'
       ·exact hs1 p (q-1) x y h1 (by omega) (by omega) hx' hy'
      ·rcases qR q y (by omega) h3 hy with ⟨g2,hy'⟩|⟨g2,rfl⟩|⟨g2,hy'⟩
       ·omega
       ·omega
       ·exact ho.asym _ _ (hall2 (q-1) y (by omega) (by omega) hy')
      ·rcases qR q y (by omega) h3 hy with ⟨g2,hy'⟩|⟨g2,rfl⟩|⟨g2,hy'⟩
       ·omega
       ·omega
       ·exact hs1 (p-1) (q-1) x y (by omega) (by omega) (by omega) hx' hy'
   ·have h: ¬(b:Int) - (m:Int)=1:=by simpa using h
    omega
  rintro s' ⟨rfl,hbm⟩
  clear ha? hm?
  rw [zOt a b (by omega)]
  have hM1:2*((a+b) / 2)≤a+b:=by omega
  have hM2:a+b<2*((a+b) / 2)+2:=by omega
  generalize (a+b) / 2=M at hM1 hM2
  rw [zD (x:=(M:Int)+(m:Int)) (by omega) (by omega),zD (x:=(M:Int)+(m:Int) -1) (by omega) (by omega)]
  refine zC ((show Wp _ (fun s:Int×Int×List α=> ∃st r:Nat,s=((st:Int),(r:Int),s')∧((M<m∧st+b=M+m∧r=M)∨(m≤M∧st=a∧r=m))) from ?_).mono ?_)
  ·refine zI (fun h=>zB ⟨M+m-b,M,?_, .inl ⟨?_,?_,rfl⟩⟩) (fun h=>zB ⟨a,m,rfl, .inr ⟨?_,rfl,rfl⟩⟩)
   ·have h:(m:Int)>(M:Int):=h
    rw [zD (by omega) (by omega),show ((M:Int)+(m:Int) - (b:Int))=((M+m-b:Nat):Int) by omega]
   ·have h:(m:Int)>(M:Int):=h
    omega
   ·have h:(m:Int)>(M:Int):=h
    omega
   ·have h: ¬(m:Int)>(M:Int):=h
    omega
  rintro _ ⟨st,r,rfl,hst⟩
  refine zC ((zGv (z:=s') (i0:=st) (j0:=r) (P:=fun c=> ∀x y,s'[M+m-1-c]? =some x→s'[c]? =some y→ ¬lt x y) (by omega) ?_).mono ?_)
  ·intro i j hi hij hj
   have hh:=wQ (xs:=s') (i:=(i+j) / 2) (by omega)
   have hh2:=wQ (xs:=s') (i:=M+m-1- (i+j) / 2) (by omega)
   dsimp only
   rw [zOt i j (by omega),zD (x:=(M:Int)+(m:Int) -1- (((i+j) / 2:Nat):Int)) (by omega) (by omega),show ((M:Int)+(m:Int) -1- (((i+j) / 2:Nat):Int))=((M+m-1- (i+j) / 2:Nat):Int) by omega]
   simp only [zT hh,zT hh2,Int.toNat_natCast,wR hh,wR hh2,Option.bind_some]
   refine zC ((hcmp _ _).mono (fun c hc=>jT (fun h1=>zB (.inl ⟨?_,fun x y hx hy=> ?_⟩)) (fun h1=>zB (.inr ⟨rfl,fun h2=>h2 _ _ hh2 hh (hc.1 h1)⟩))))
   ·rw [zD (by omega) (by omega)];congr 1
   ·rw [hh2] at hx;rw [hh] at hy;cases hx;cases hy;exact fun h2=>h1 (hc.2 h2)
  rintro ⟨s0,zs0⟩ ⟨hz0,start,hs0,hst1,hst2,hP,hN⟩
  simp only at hz0 hs0
  subst hz0 hs0
  dsimp only
  rw [zD (x:=(M:Int)+(m:Int) - (start:Int)) (by omega) (by omega),show ((M:Int)+(m:Int) - (start:Int))=((M+m-start:Nat):Int) by omega]
  have he1:m≤M+m-start:=by omega
  have he2:M+m-start≤b:=by omega
  have he3:start+(M+m-start-m)=M:=by omega
  have hst3:a≤start:=by omega
  have hst4:start≤m:=by omega
  have hl2: ∀q r' x y,start≤q→q<m→m≤r'→r'<M+m-start→zs0[q]? =some x→zs0[r']? =some y→lt y x:=by
   intro q r' x y h1 h2 h3 h4 hx hy
   have hlt:start<r:=by omega
   refine Classical.byContradiction (fun hnl=>hN hlt ?_)
   intro u w hu hw hlt2
   apply hnl
   have k1:lt y w:=by
    by_cases e:r'=M+m-1-start
    ·subst e;rw [hu] at hy;cases hy;exact hlt2
    ·exact tr1 _ _ _ (hs2 r' (M+m-1-start) y u h3 (by omega) (by omega) hy hu) hlt2
   by_cases e:q=start
   ·subst e;rw [hw] at hx;cases hx;exact k1
   ·exact tr2 _ _ _ k1 (hs1 start q w x hst3 (by omega) (by omega) hw hx)
  have hl1: ∀q r' x y,a≤q→q<start→M+m-start≤r'→r'<b→zs0[q]? =some x→zs0[r']? =some y→ ¬lt y x:=by
   intro q r' x y h1 h2 h3 h4 hx hy
   have hlt:st<start:=by omega
   have g1:=wQ (xs:=zs0) (i:=start-1) (by omega)
   have g2:=wQ (xs:=zs0) (i:=M+m-1- (start-1)) (by omega)
   have hp:=hP hlt _ _ g2 g1
   have k1: ¬lt (zs0[M+m-1- (start-1)]'(by omega)) x:=by
    by_cases e:q=start-1
    ·subst e;rw [g1] at hx;cases hx;exact hp
    ·exact ho.tr _ _ _ (hs1 q (start-1) x _ h1 (by omega) (by omega) hx g1) hp
   by_cases e:r'=M+m-1- (start-1)
   ·subst e;rw [g2] at hy;cases hy;exact k1
   ·exact ho.tr _ _ _ k1 (hs2 (M+m-1- (start-1)) r' _ y (by omega) (by omega) h4 g2 hy)
  generalize he:M+m-start=e at he1 he2 he3 hl1 hl2
  refine zC ((show Wp _ (fun zs:List α=>zs.length=zs0.length∧ ∀k,zs[k]? =kS start m e zs0 k) from ?_).mono ?_)
  ·refine zC ((show Wp _ (fun c:Bool×List α=>c.2=zs0∧(c.1=true→start<m∧m<e)∧(c.1=false→start=m∨m=e)) from ?_).mono ?_)
   ·refine zI (fun h=>zB ⟨rfl,(fun h2=> ?_),fun h2=> ?_⟩) (fun h=>zB ⟨rfl,(fun h2=>by cases h2),fun _=> ?_⟩)
    ·have h:(start:Int)< (m:Int):=h
     have h2:(m:Int)< (e:Int):=of_decide_eq_true h2
     omega
    ·have h2: ¬(m:Int)< (e:Int):=of_decide_eq_false h2
     omega
    ·have h: ¬(start:Int)< (m:Int):=h
     omega
   ·rintro ⟨c,zs⟩ ⟨hz,ht,hf⟩
    simp only at hz ht hf
    subst hz
    refine zH (fun h=> ?_) (fun h=>zB ⟨rfl,fun k=> ?_⟩)
    ·obtain ⟨g1,g2⟩:=ht h
     refine zH (fun _=>zC ((zN8 zs start m e g1 g2 (by omega) (by omega)).mono (fun y hy=>zB hy))) (fun h=>absurd h (by rw [Nat.beq_refl];decide))
    ·have:=hf h
     unfold kS
     repeat' split
     all_goals first
      |rfl
      |exact xG (by omega)
      |(exfalso;omega)
  intro zs hzz
  obtain ⟨hzl,hz⟩:=hzz
  have yD:=zHN hk hst4 he1 (by omega) hzl hz hl2
  have qR: ∀q y,a≤q→q<b→zs[q]? =some y→(q<start∧zs0[q]? =some y)∨(start≤q∧q<M∧zs0[q+(m-start)]? =some y)∨(M≤q∧q<e∧zs0[q- (e-m)]? =some y)∨(e≤q∧zs0[q]? =some y):=by
   intro q y h1 h2 hy
   rw [hz] at hy
   unfold kS at hy
   split at hy
   ·exact .inr (.inl ⟨by omega,by omega,hy⟩)
   ·split at hy
    ·exact .inr (.inr (.inl ⟨by omega,by omega,hy⟩))
    ·by_cases c:q<start
     ·exact .inl ⟨c,hy⟩
     ·exact .inr (.inr (.inr ⟨by omega,hy⟩))
  have r1:wB lt a start zs:=by
   intro p q x y h1 h2 h3 hx hy
   rw [yD.out p (by omega)] at hx
   rw [yD.out q (by omega)] at hy
   exact hs1 p q x y h1 h2 (by omega) hx hy
  have r2:wB lt start M zs:=by
   intro p q x y h1 h2 h3 hx hy
   rw [hz] at hx hy
   unfold kS at hx hy
   rw [if_pos (by omega)] at hx hy
   exact hs2 _ _ x y (by omega) (by omega) (by omega) hx hy
  have r3:wB lt M e zs:=by
   intro p q x y h1 h2 h3 hx hy
   rw [hz] at hx hy
   unfold kS at hx hy
   rw [if_neg (by omega),if_pos (by omega)] at hx hy
   exact hs1 _ _ x y (by omega) (by omega) (by omega) hx hy
  have r4:wB lt e b zs:=by
   intro p q x y h1 h2 h3 hx hy
   rw [yD.out p (by omega)] at hx
   rw [yD.out q (by omega)] at hy
   exact hs2 p q x y (by omega) h2 h3 hx hy
  have rc: ∀q r' x y,a≤q→q<M→M≤r'→r'<b→zs[q]? =some x→zs[r']? =some y→ ¬lt y x:=by
   intro q r' x y h1 h2 h3 h4 hx hy
   rcases qR q x h1 (by omega) hx with ⟨g1,hx'⟩|⟨g1,g2,hx'⟩|⟨g1,g2,hx'⟩|⟨g1,hx'⟩
   ·rcases qR r' y (by omega) h4 hy with ⟨g3,hy'⟩|⟨g3,g4,hy'⟩|⟨g3,g4,hy'⟩|⟨g3,hy'⟩
    ·omega
    ·omega
    ·exact hs1 q _ x y h1 (by omega) (by omega) hx' hy'
    ·exact hl1 q r' x y h1 g1 g3 h4 hx' hy'
   ·rcases qR r' y (by omega) h4 hy with ⟨g3,hy'⟩|⟨g3,g4,hy'⟩|⟨g3,g4,hy'⟩|⟨g3,hy'⟩
    ·omega
    ·omega
    ·exact ho.asym _ _ (hl2 _ _ y x (by omega) (by omega) (by omega) (by omega) hy' hx')
    ·exact hs2 _ r' x y (by omega) (by omega) h4 hx' hy'
   ·omega
   ·omega
  refine zC ((show Wp _ (fun ws:List α=>uF key a M zs ws∧wB lt a M ws) from ?_).mono ?_)
  ·refine zC ((show Wp _ (fun c:Bool×List α=>c.2=zs∧(c.1=true→a<start∧start<M)∧(c.1=false→a=start∨start=M)) from ?_).mono ?_)
   ·refine zI (fun h=>zB ⟨rfl,(fun h2=> ?_),fun h2=> ?_⟩) (fun h=>zB ⟨rfl,(fun h2=>by cases h2),fun _=> ?_⟩)
    ·have h:(a:Int)< (start:Int):=h
     have h2:(start:Int)< (M:Int):=of_decide_eq_true h2
     omega
    ·have h2: ¬(start:Int)< (M:Int):=of_decide_eq_false h2
     omega
    ·have h: ¬(a:Int)< (start:Int):=h
     omega
   ·rintro ⟨c,vs⟩ ⟨hv,ht,hf⟩
    simp only at hv ht hf
    subst hv
    refine zH (fun h=> ?_) (fun h=>zB ⟨uF.refl _ _ _,?_⟩)
    ·obtain ⟨g1,g2⟩:=ht h
     exact zH (fun _=>zC ((ih vs a start M g1 g2 (by omega) (by omega) (by omega) r1 r2).mono (fun y hy=>zB hy))) (fun h=>absurd h (by rw [Nat.beq_refl];decide))
    ·exact zGN r1 r2 (fun q r' x y h1 h2 h3 h4 hx hy=>by have:=hf h;omega)
  intro ws hws
  obtain ⟨hw1,hw2⟩:=hws
  have hwl:ws.length=zs0.length:=hw1.len.trans hzl
  have fin: ∀us,uF key M b ws us→wB lt M b us→uF key a b zs0 us∧wB lt a b us:=by
   intro us hu1 hu2
   refine ⟨((yD.mono hst3 he2).trans (hw1.mono (Nat.le_refl _) (by omega))).trans (hu1.mono (by omega) (Nat.le_refl _)),zGN (hw2.out hu1 (.inl (Nat.le_refl _))) hu2 ?_⟩
   intro q r' x y h1 h2 h3 h4 hx hy
   rw [hu1.out q (by omega)] at hx
   obtain ⟨q',k1,k2,hx'⟩:=hw1.ins q x h1 h2 hx
   obtain ⟨r2,k3,k4,hy'⟩:=hu1.ins r' y h3 h4 hy
   rw [hw1.out r2 (by omega)] at hy'
   exact rc q' r2 x y k1 k2 k3 k4 hx' hy'
  have q3:wB lt M e ws:=r3.out hw1 (.inr (Nat.le_refl _))
  have q4:wB lt e b ws:=r4.out hw1 (.inr (by omega))
  refine zC ((show Wp _ (fun c:Bool×List α=>c.2=ws∧(c.1=true→M<e∧e<b)∧(c.1=false→M=e∨e=b)) from ?_).mono ?_)
  ·refine zI (fun h=>zB ⟨rfl,(fun h2=> ?_),fun h2=> ?_⟩) (fun h=>zB ⟨rfl,(fun h2=>by cases h2),fun _=> ?_⟩)
   ·have h:(M:Int)< (e:Int):=h
    have h2:(e:Int)< (b:Int):=of_decide_eq_true h2
    omega
   ·have h2: ¬(e:Int)< (b:Int):=of_decide_eq_false h2
    omega
   ·have h: ¬(M:Int)< (e:Int):=h
    omega
  ·rintro ⟨c,vs⟩ ⟨hv,ht,hf⟩
   simp only at hv ht hf
   subst hv
   refine zH (fun h=> ?_) (fun h=> ?_)
   ·obtain ⟨g1,g2⟩:=ht h
    refine zH (fun _=>zC ((ih vs M e b g1 g2 (by omega) (by omega) (by omega) q3 q4).mono (fun y hy=> ?_))) (fun h=>absurd h (by rw [Nat.beq_refl];decide))
    exact zH (fun _=>zB (fin _ hy.1 hy.2)) (fun h=>absurd h (by rw [zEa (hy.1.len.trans hwl)];decide))
   ·refine zH (fun _=>zB (fin _ (uF.refl _ _ _) ?_)) (fun h=>absurd h (by rw [zEa hwl];decide))
    exact zGN q3 q4 (fun q r' x y h1 h2 h3 h4 hx hy=>by have:=hf h;omega)
end
end Go.Ve

namespace Go.Ve
open Go
set_option maxRecDepth 1000000
set_option maxHeartbeats 4000000
section
variable {α κ:Type} {cmp:α×α×Unit→Option Int} {lt:α→α→Prop} {key:α→κ}
def zIE (lt:α→α→Prop) (lo i j:Nat) (xs:List α):Prop:= ∀p q x y,lo≤p→p<q→q≤i→q≠j→xs[p]? =some x→xs[q]? =some y→ ¬lt y x
theorem zPr {lo i:Nat} {xs:List α} (h:wB lt lo i xs):zIE lt lo i i xs:=fun p q x y h0 h1 h2 h3 hx hy=>h p q x y h0 h1 (by omega) hx hy
theorem zRa (ho:Ord lt) {lo i j:Nat} {xs:List α} (h:zIE lt lo i j xs) (hj:j≤i) (hlo:lo≤j) (he:j=lo∨ ∀x y,xs[j]? =some x→xs[j-1]? =some y→ ¬lt x y):wB lt lo (i+1) xs:=by
 intro p q x y hp0 hpq hq hx hy
 by_cases hqj:q=j
 ·subst hqj
  rcases he with he|he
  ·omega
  ·by_cases hp:p=q-1
   ·subst hp
    exact he y x hy hx
   ·have hl:=(List.getElem?_eq_some_iff.1 hy).1
    have hz:xs[q-1]? =some (xs[q-1]'(by omega)):=by simp
    exact ho.tr _ _ _ (h p (q-1) x _ hp0 (by omega) (by omega) (by omega) hx hz) (he y _ hy hz)
 ·exact h p q x y hp0 hpq (by omega) hqj hx hy
theorem zQ9 (ho:Ord lt) {lo i j:Nat} {xs:List α} (h:zIE lt lo i j xs) (hj:lo<j) (hji:j≤i) (hi:i<xs.length) (hlt:lt (xs[j]'(by omega)) (xs[j-1]'(by omega))):
  zIE lt lo i (j-1) ((xs.set j (xs[j-1]'(by omega))).set (j-1) (xs[j]'(by omega))):=by
 have hjl:j<xs.length:=by omega
 have a1:xs[j]? =some xs[j]:=by simp
 have a2:xs[j-1]? =some (xs[j-1]'(by omega)):=by simp
 have at': ∀m z,((xs.set j (xs[j-1]'(by omega))).set (j-1) (xs[j]'(by omega)))[m]? =some z→(m=j-1∧z=xs[j])∨(m=j∧z=xs[j-1]'(by omega))∨(m≠j∧m≠j-1∧xs[m]? =some z):=by
  intro m z hm
  by_cases e1:m=j-1
  ·subst e1
   rw [List.getElem?_set_self (by rw [List.length_set];omega)] at hm
   cases hm
   exact .inl ⟨rfl,rfl⟩
  ·rw [List.getElem?_set_ne (by omega)] at hm
   by_cases e2:m=j
   ·subst e2
    rw [List.getElem?_set_self (by omega)] at hm
    cases hm
    exact .inr (.inl ⟨rfl,rfl⟩)
   ·rw [List.getElem?_set_ne (by omega)] at hm
    exact .inr (.inr ⟨e2,e1,hm⟩)
 intro p q x y hp0 hpq hq hqj hx hy
 rcases at' q y hy with ⟨g,_⟩|⟨rfl,rfl⟩|⟨g1,g2,hy2⟩
 ·omega
 ·rcases at' p x hx with ⟨rfl,rfl⟩|⟨g,_⟩|⟨g3,g4,hx⟩
  ·exact ho.asym _ _ hlt
  ·omega
  ·exact h p (q-1) x _ hp0 (by omega) (by omega) (by omega) hx a2
 ·rcases at' p x hx with ⟨rfl,rfl⟩|⟨rfl,rfl⟩|⟨g3,g4,hx⟩
  ·exact h j q _ y (by omega) (by omega) hq g1 a1 hy2
  ·exact h (p-1) q _ y (by omega) (by omega) hq g1 a2 hy2
  ·exact h p q x y hp0 hpq hq g1 hx hy2
theorem zSW (hk:zJ3 lt key) {j:Nat} {xs:List α} (hj:0<j) (hjl:j<xs.length) (hlt:lt xs[j] (xs[j-1]'(by omega))):
  uF key (j-1) (j+1) xs ((xs.set j (xs[j-1]'(by omega))).set (j-1) xs[j]):=by
 have h1:=wQ hjl
 have h2:=wQ (xs:=xs) (i:=j-1) (by omega)
 refine zHN hk (m:=j) (by omega) (by omega) (by omega) (by simp) (zNk (m:=j) (k:=j) hj (Nat.le_refl _) hjl rfl (fun k=>(zPA k).symm) h1 h2) ?_
 intro q r x y g1 g2 g3 g4 hx hy
 have e1:q=j-1:=by omega
 have e2:r=j:=by omega
 subst e1 e2
 rw [h2] at hx;rw [h1] at hy
 cases hx;cases hy
 exact hlt
theorem zBE (hk:zJ3 lt key) (hcmp: ∀x y,Wp (cmp (x,y,())) (fun c=>c<0↔lt x y)) (xs:List α) (a b:Nat) (hab:a≤b) (hb:b≤xs.length) (hl:xs.length<1099511627776):
  Wp (yC cmp xs ((a:Int),(b:Int),(),())) (fun r=>uF key a b xs r.1∧wB lt a b r.1):=by
 have ho:=hk.ord
 unfold yC
 dsimp only
 rw [zD (by omega) (by omega)]
 refine wO (fun s:Int×List α=>uF key a b xs s.2∧ ∃i:Nat,s.1=(i:Int)∧a+1≤i∧(i≤b∨i=a+1)∧wB lt a i s.2) (fun s=>((b:Int) -s.1).toNat)
  ⟨uF.refl _ _ _,a+1,by simp only;omega,Nat.le_refl _, .inr rfl,zSZ⟩ ?_
 rintro ⟨s,zs⟩ ⟨hst,i,hi,hi1,hi2,hso⟩
 simp only at hi hst hso
 subst hi
 have hlen:zs.length=xs.length:=hst.len
 refine zI (fun hlt=> ?_) (fun hge=> ?_)
 ·have hlt:(i:Int)< (b:Int):=hlt
  refine zC ((show Wp _ (fun ys:List α=>uF key a b zs ys∧wB lt a (i+1) ys) from ?_).mono (fun ys hys=>zB (e2l ⟨⟨hst.trans hys.1,i+1,?_,by omega, .inl (by omega),hys.2⟩,?_⟩)))
  ·refine wO (fun s:Int×List α=>uF key a b zs s.2∧ ∃j:Nat,s.1=(j:Int)∧a≤j∧j≤i∧zIE lt a i j s.2) (fun s=>s.1.toNat) ⟨uF.refl _ _ _,i,rfl,by omega,Nat.le_refl _,zPr hso⟩ ?_
   rintro ⟨s,ys⟩ ⟨hyst,j,hj,hja,hji,hex⟩
   simp only at hj hyst hex
   subst hj
   have hyl:ys.length=xs.length:=hyst.len.trans hlen
   refine zC ((show Wp _ (fun c:Bool×List α=>c.2=ys∧(c.1=true→a<j∧ ∀x y,ys[j]? =some x→ys[j-1]? =some y→lt x y)∧(c.1=false→j=a∨ ∀x y,ys[j]? =some x→ys[j-1]? =some y→ ¬lt x y)) from ?_).mono ?_)
   ·refine zI (fun hj0=> ?_) (fun hj0=>zB ⟨rfl,(fun h=>by cases h),fun _=> .inl ?_⟩)
    ·have hj0:(j:Int)>(a:Int):=hj0
     have hy1:=wQ (xs:=ys) (i:=j) (by omega)
     have hy2:=wQ (xs:=ys) (i:=j-1) (by omega)
     dsimp only
     rw [zD (by omega) (by omega),show ((j:Int) -1)=((j-1:Nat):Int) by omega]
     simp only [zT hy1,zT hy2,Int.toNat_natCast,wR hy1,wR hy2,Option.bind_some]
     refine zC ((hcmp _ _).mono (fun c hc=>zB ⟨rfl,(fun h=>⟨by omega,?_⟩),fun h=> .inr ?_⟩))
     ·intro x y hx hy
      rw [hy1] at hx;rw [hy2] at hy
      cases hx;cases hy
      exact hc.1 (of_decide_eq_true h)
     ·intro x y hx hy
      rw [hy1] at hx;rw [hy2] at hy
      cases hx;cases hy
      exact fun hh=>(of_decide_eq_false h) (hc.2 hh)
    ·have hj0: ¬(j:Int)>(a:Int):=hj0
     omega
   ·rintro ⟨c,ws⟩ ⟨hw,ht,hf⟩
    simp only at hw ht hf
    subst hw
    refine zH (fun hb'=> ?_) (fun hb'=>zB (e2r ⟨hyst,zRa ho hex hji hja (hf hb')⟩))
    obtain ⟨hj0,hlt2⟩:=ht hb'
    have hy1:=wQ (xs:=ws) (i:=j) (by omega)
    have hy2:=wQ (xs:=ws) (i:=j-1) (by omega)
    have hy3:(ws.set j (ws[j-1]'(by omega)))[j-1]? =some (ws[j-1]'(by omega)):=by
     rw [List.getElem?_set_ne (by omega)];exact hy2
    dsimp only
    rw [zD (by omega) (by omega),show ((j:Int) -1)=((j-1:Nat):Int) by omega]
    simp only [zT hy1,zT hy2,Int.toNat_natCast,wR hy1,wR hy2,Option.bind_some,zT hy3,wR hy3]
    refine zB (e2l ⟨⟨hyst.trans ((zSW hk (by omega) (by omega) (hlt2 _ _ hy1 hy2)).mono (by omega) (by omega)),j-1,rfl,by omega,by omega,zQ9 ho hex hj0 hji (by omega) (hlt2 _ _ hy1 hy2)⟩,?_⟩)
    simp only;omega
  ·simp only;rw [zD (by omega) (by omega)];omega
  ·simp only;rw [zD (by omega) (by omega)];omega
 ·have hge: ¬(i:Int)< (b:Int):=hge
  exact xC (zH (fun _=>zB (e2r ⟨hst,hso.sub (Nat.le_refl _) (by omega)⟩)) (fun h=>absurd h (by rw [zEa hlen];decide)))
def zO1 (lt:α→α→Prop) (bs n:Nat) (xs:List α):Prop:= ∀j,wB lt (j*bs) (min ((j+1)*bs) n) xs
theorem zN7 (hk:zJ3 lt key) (hcmp: ∀x y,Wp (cmp (x,y,())) (fun c=>c<0↔lt x y)) (xs:List α) (hl:xs.length≤1048576):
  Wp (zHC cmp xs ((xs.length:Int),(),())) (fun r=>uF key 0 xs.length xs r.1∧wB lt 0 xs.length r.1):=by
 unfold zHC
 dsimp only
 generalize hn:xs.length=n at hl
 refine zC ((show Wp _ (fun s:List α×Int=>uF key 0 n xs s.1∧ ∃t:Nat,s.2=((20*t:Nat):Int)∧20*t≤n∧n<20*t+20∧ ∀j,j<t→wB lt (j*20) ((j+1)*20) s.1) from ?_).mono ?_)
 ·refine wO (fun s:Int×List α×Int=>uF key 0 n xs s.2.1∧ ∃t:Nat,s.1=((20*t+20:Nat):Int)∧s.2.2=((20*t:Nat):Int)∧20*t≤n∧ ∀j,j<t→wB lt (j*20) ((j+1)*20) s.2.1) (fun s=>((n:Int)+20-s.1).toNat)
   ⟨uF.refl _ _ _,0,rfl,rfl,Nat.zero_le _,fun j hj=>by omega⟩ ?_
  rintro ⟨sb,zs,sa⟩ ⟨hst,t,hsb,hsa,htn,hbl⟩
  simp only at hsb hsa hst hbl
  subst hsb hsa
  have hzl:=hst.len
  refine zI (fun h=> ?_) (fun h=>zB (e2r ⟨hst,t,rfl,htn,?_,hbl⟩))
  ·have h:((20*t+20:Nat):Int)≤(n:Int):=h
   refine zH (fun _=> ?_) (fun h=>absurd h (by rw [Nat.beq_refl];decide))
   refine zC ((zBE hk hcmp zs (20*t) (20*t+20) (by omega) (by omega) (by omega)).mono (fun y hy=>zB (e2l ⟨⟨hst.trans (hy.1.mono (by omega) (by omega)),t+1,?_,?_,by omega,?_⟩,?_⟩)))
   ·simp only;rw [zD (by omega) (by omega)];omega
   ·simp only;omega
   ·intro j hj
    by_cases e:j=t
    ·subst e
     rw [show j*20=20*j by omega,show (j+1)*20=20*j+20 by omega]
     exact hy.2
    ·exact (hbl j (by omega)).out hy.1 (.inl (by omega))
   ·simp only;rw [zD (by omega) (by omega)];omega
  ·have h: ¬((20*t+20:Nat):Int)≤(n:Int):=h
   omega
 rintro ⟨zs,sa⟩ ⟨hst,t,hsa,htn,htn2,hbl⟩
 simp only at hsa hst hbl
 subst hsa
 have hzl:=hst.len
 refine zH (fun _=> ?_) (fun h=>absurd h (by rw [Nat.beq_refl];decide))
 refine zC ((zBE hk hcmp zs (20*t) n htn (by omega) (by omega)).mono (fun y hy=> ?_))
 have hB:zO1 lt 20 n y.1:=by
  intro j
  by_cases e:j<t
  ·rw [Nat.min_eq_left (by omega)]
   exact (hbl j e).out hy.1 (.inl (by omega))
  ·by_cases e2:j=t
   ·subst e2
    refine hy.2.sub (by omega) (Nat.min_le_right _ _)
   ·intro p q x y' h1 h2 h3
    omega
 have hst2:uF key 0 n xs y.1:=hst.trans (hy.1.mono (by omega) (Nat.le_refl _))
 refine wO (fun s:Int×List α=>uF key 0 n xs s.2∧ ∃bs:Nat,s.1=(bs:Int)∧20≤bs∧bs≤2097152∧zO1 lt bs n s.2) (fun s=>((n:Int) -s.1).toNat) ⟨hst2,20,rfl,Nat.le_refl _,by omega,hB⟩ ?_
 rintro ⟨sbs,ws⟩ ⟨hw,bs,hbs,hbs1,hbs2,hbl2⟩
 simp only at hbs hw hbl2
 subst hbs
 have hwl:=hw.len
 refine zI (fun h=> ?_) (fun h=> ?_)
 ·have h:(bs:Int)< (n:Int):=h
  dsimp only
  rw [zD (x:=(2:Int)*(bs:Int)) (by omega) (by omega)]
  refine zC ((show Wp _ (fun s:Int×List α=>uF key 0 n ws s.2∧ ∃t:Nat,s.1=((t*(2*bs):Nat):Int)∧t*(2*bs)≤n∧n< (t+1)*(2*bs)∧(∀j,j<t→wB lt (j*(2*bs)) ((j+1)*(2*bs)) s.2)∧ ∀j,2*t≤j→wB lt (j*bs) (min ((j+1)*bs) n) s.2) from ?_).mono ?_)
  ·refine wO (fun s:Int×List α×Int=>uF key 0 n ws s.2.1∧ ∃t:Nat,s.1=(((t+1)*(2*bs):Nat):Int)∧s.2.2=((t*(2*bs):Nat):Int)∧t*(2*bs)≤n∧(∀j,j<t→wB lt (j*(2*bs)) ((j+1)*(2*bs)) s.2.1)∧ ∀j,2*t≤j→wB lt (j*bs) (min ((j+1)*bs) n) s.2.1) (fun s=>((n:Int)+2*(bs:Int) -s.1).toNat)
    ⟨uF.refl _ _ _,0,by simp only;omega,by simp,by omega,fun j hj=>by omega,fun j _=>hbl2 j⟩ ?_
   rintro ⟨sb,vs,sa⟩ ⟨hv,t,hsb,hsa,htn',hb1,hb2⟩
   simp only at hsb hsa hv hb1 hb2
   subst hsb hsa
   have hvl:vs.length=n:=by rw [hv.len,hwl,hn]
   have eT:(t+1)*(2*bs)=t*(2*bs)+2*bs:=Nat.succ_mul _ _
   have eA:2*t*bs=t*(2*bs):=by rw [Nat.mul_comm 2 t,Nat.mul_assoc]
   have eB:(2*t+1)*bs=t*(2*bs)+bs:=by rw [Nat.succ_mul,eA]
   have eC:(2*t+2)*bs=t*(2*bs)+2*bs:=by rw [show 2*t+2=(2*t+1)+1 from rfl,Nat.succ_mul,eB];omega
   generalize hA:t*(2*bs)=A at*
   refine zI (fun h2=> ?_) (fun h2=>zB (e2r ⟨hv,t,by rw [hA],by rw [hA];exact htn',?_,hb1,hb2⟩))
   ·have h2:(((t+1)*(2*bs):Nat):Int)≤(n:Int):=h2
    rw [eT] at h2 ⊢
    refine zH (fun _=> ?_) (fun h=>absurd h (by rw [Nat.beq_refl];decide))
    dsimp only
    rw [zD (x:=(A:Int)+(bs:Int)) (by omega) (by omega),show ((A:Int)+(bs:Int))=((A+bs:Nat):Int) by omega]
    have s1:=hb2 (2*t) (Nat.le_refl _)
    have s2:=hb2 (2*t+1) (by omega)
    rw [show 2*t+1+1=2*t+2 from rfl,eC,eB,Nat.min_eq_left (by omega)] at s2
    rw [eB,eA,Nat.min_eq_left (by omega)] at s1
    unfold zC8
    refine zC ((zC9 hk hcmp 1048576 vs A (A+bs) (A+2*bs) (by omega) (by omega) (by omega) (by omega) (by omega) s1 s2).mono (fun y hy=>zB (e2l ⟨⟨hv.trans (hy.1.mono (by omega) (by omega)),t+1,?_,?_,?_,?_,?_⟩,?_⟩)))
    ·simp only
     rw [zD (by omega) (by omega),show (t+1+1)*(2*bs)=A+2*bs+2*bs by rw [Nat.succ_mul,eT]]
     omega
    ·simp only;rw [eT]
    ·rw [eT];omega
    ·intro j hj
     by_cases e:j=t
     ·subst e
      rw [hA,eT]
      exact hy.2
     ·refine (hb1 j (by omega)).out hy.1 (.inl ?_)
      have:(j+1)*(2*bs)≤t*(2*bs):=Nat.mul_le_mul_right _ (by omega)
      omega
    ·intro j hj
     refine (hb2 j (by omega)).out hy.1 (.inr ?_)
     have:(2*t+2)*bs≤j*bs:=Nat.mul_le_mul_right _ (by omega)
     omega
    ·simp only
     rw [zD (by omega) (by omega)]
     omega
   ·have h2: ¬(((t+1)*(2*bs):Nat):Int)≤(n:Int):=h2
    omega
  rintro ⟨sa,vs⟩ ⟨hv,t,hsa,ht1,ht2,hb1,hb2⟩
  simp only at hsa hv hb1 hb2
  subst hsa
  have hvl:vs.length=n:=by rw [hv.len,hwl,hn]
  have eT:(t+1)*(2*bs)=t*(2*bs)+2*bs:=Nat.succ_mul _ _
  have eA:2*t*bs=t*(2*bs):=by rw [Nat.mul_comm 2 t,Nat.mul_assoc]
  have eB:(2*t+1)*bs=t*(2*bs)+bs:=by rw [Nat.succ_mul,eA]
  have eC:(2*t+2)*bs=t*(2*bs)+2*bs:=by rw [show 2*t+2=(2*t+1)+1 from rfl,Nat.succ_mul,eB];omega
  have s1:=hb2 (2*t) (Nat.le_refl _)
  have s2:=hb2 (2*t+1) (by omega)
  rw [show 2*t+1+1=2*t+2 from rfl,eC,eB,Nat.min_eq_right (by omega)] at s2
  rw [eB,eA] at s1
  have hbelow: ∀j,j<t→(j+1)*(2*bs)≤t*(2*bs):=fun j hj=>Nat.mul_le_mul_right _ (by omega)
  have habove: ∀j,t<j→t*(2*bs)+2*bs≤j*(2*bs):=fun j hj=>by rw [←eT];exact Nat.mul_le_mul_right _ (by omega)
  generalize hA:t*(2*bs)=A at*
  have fin: ∀us,uF key A n vs us→wB lt A n us→uF key 0 n xs us∧zO1 lt (bs*2) n us:=by
   intro us hu1 hu2
   refine ⟨(hw.trans hv).trans (hu1.mono (by omega) (Nat.le_refl _)),?_⟩
   intro j
   rw [show bs*2=2*bs by omega]
   by_cases e:j<t
   ·have:=hbelow j e
    rw [Nat.min_eq_left (by omega)]
    exact (hb1 j e).out hu1 (.inl this)
   ·by_cases e2:j=t
    ·subst e2
     rw [hA,eT,Nat.min_eq_right (by omega)]
     exact hu2
    ·have:=habove j (by omega)
     intro p q x y' h1 h2 h3
     omega
  dsimp only
  rw [zD (x:=(A:Int)+(bs:Int)) (by omega) (by omega),show ((A:Int)+(bs:Int))=((A+bs:Nat):Int) by omega]
  refine zC ((show Wp _ (fun us:List α=>uF key 0 n xs us∧zO1 lt (bs*2) n us) from ?_).mono (fun us hus=>zB (e2l ⟨⟨hus.1,bs*2,?_,by omega,by omega,hus.2⟩,?_⟩)))
  ·refine zI (fun h2=> ?_) (fun h2=>zB (fin vs (uF.refl _ _ _) ?_))
   ·have h2:((A+bs:Nat):Int)< (n:Int):=h2
    rw [Nat.min_eq_left (by omega)] at s1
    refine zH (fun _=> ?_) (fun h=>absurd h (by rw [Nat.beq_refl];decide))
    unfold zC8
    exact zC ((zC9 hk hcmp 1048576 vs A (A+bs) n (by omega) (by omega) (by omega) (by omega) (by omega) s1 s2).mono (fun y hy=>zB (fin _ hy.1 hy.2)))
   ·have h2: ¬((A+bs:Nat):Int)< (n:Int):=h2
    rw [Nat.min_eq_right (by omega)] at s1
    exact s1
  ·simp only;rw [zD (by omega) (by omega)];omega
  ·simp only;rw [zD (by omega) (by omega)];omega
 ·have h: ¬(bs:Int)< (n:Int):=h
  refine xC (zH (fun _=>zB (e2r ⟨hw,?_⟩)) (fun h=>absurd h (by simp only;rw [hwl,hn,Nat.beq_refl];decide)))
  have:=hbl2 0
  rw [Nat.zero_mul,Nat.zero_add,Nat.one_mul,Nat.min_eq_right (by omega)] at this
  exact this
theorem zIP (hk:zJ3 lt key) (hcmp: ∀x y,Wp (cmp (x,y,())) (fun c=>c<0↔lt x y)) (xs:List α) (hl:xs.length≤1048576):
  Wp (zCB cmp xs ((),())) (fun r=>r.1.length=xs.length∧zAY key xs r.1∧r.1.Pairwise (fun x y=> ¬lt y x)):=by
 unfold zCB
 dsimp only
 refine zH (fun _=> ?_) (fun h=>absurd h (by rw [Nat.beq_refl];decide))
 refine zC ((zN7 hk hcmp xs hl).mono (fun y hy=> ?_))
 refine zH (fun _=>zB ⟨hy.1.len,hy.1.same,?_⟩) (fun h=>absurd h (by rw [zEa hy.1.len];decide))
 rw [List.pairwise_iff_getElem]
 intro p q hp hq hpq
 have:=hy.1.len
 have hq:q<y.1.length:=hq
 exact hy.2 p q _ _ (Nat.zero_le _) hpq (by omega) (by simp) (by simp)
end
end Go.Ve

namespace Go.Ve
open Go
set_option maxRecDepth 1000000
set_option maxHeartbeats 4000000
theorem zFt: ∀ (more acc:List (Ty.El jJ)),acc.Pairwise hlt→(more.foldl zEe acc).Pairwise hlt∧ ∀h,h∈more.foldl zEe acc↔h∈acc∨h∈more
 |[],acc,hp=>⟨hp,fun h=>by simp⟩
 |x::more,acc,hp=>by
  have heq: ∀a b:Ty.El jJ,zMT a b=true↔a=b:=fun a b=>⟨fun h=>zE3 h,fun h=>by subst h;simp [zMT]⟩
  have h1:(zEe acc x).Pairwise hlt:=zFc zIg (fun _ _=>zUM) heq (fun a b h1 h2=>zUL h1 (fun e=>h2 e.symm)) hp
  obtain ⟨h2,h3⟩:=zFt more (zEe acc x) h1
  refine ⟨h2,fun h=> ?_⟩
  rw [List.foldl_cons,h3 h,show (h∈zEe acc x↔h∈acc∨h=x) from zIc heq,List.mem_cons,or_assoc]
theorem zIe {p:Ty.El zF} {b:Ty.El zA} : ∀ (l:List (Ty.El zA)) (acc:List (Ty.El jJ)),acc.Pairwise hlt→
  (l.foldl (yD p b) acc).Pairwise hlt∧ ∀h,h∈l.foldl (yD p b) acc↔h∈acc∨ ∃x,x∈l∧x.1=p∧uW x b=0∧h∈x.2.2.2.2.2.2.2.2.2.2.2.1
 |[],acc,hp=>⟨hp,fun h=>by simp⟩
 |x::l,acc,hp=>by
  cases hc:zCd x.1 p&&(uW x b==0) with
  |true=>
   have hs:yD p b acc x=x.2.2.2.2.2.2.2.2.2.2.2.1.foldl zEe acc:=by unfold yD;rw [hc];rfl
   have hc2:x.1=p∧uW x b=0:=by
    rw [Bool.and_eq_true] at hc
    exact ⟨xN.1 hc.1,by simpa using hc.2⟩
   obtain ⟨h1,h2⟩:=zFt x.2.2.2.2.2.2.2.2.2.2.2.1 acc hp
   rw [←hs] at h1 h2
   obtain ⟨h3,h4⟩:=zIe l (yD p b acc x) h1
   refine ⟨h3,fun h=> ?_⟩
   rw [List.foldl_cons,h4 h,h2 h]
   constructor
   ·rintro ((h|h)|⟨y,hy,g⟩)
    ·exact .inl h
    ·exact .inr ⟨x,by simp,hc2.1,hc2.2,h⟩
    ·exact .inr ⟨y,List.mem_cons_of_mem _ hy,g⟩
   ·rintro (h|⟨y,hy,g⟩)
    ·exact .inl (.inl h)
    ·rcases List.mem_cons.1 hy with rfl|hy
     ·exact .inl (.inr g.2.2)
     ·exact .inr ⟨y,hy,g⟩
  |false=>
   have hs:yD p b acc x=acc:=by unfold yD;rw [hc];rfl
   have hc2: ¬(x.1=p∧uW x b=0):=by
    rintro ⟨h1,h2⟩
    rw [xN.2 h1,h2] at hc
    cases hc
   obtain ⟨h3,h4⟩:=zIe l acc hp
   rw [List.foldl_cons,hs]
   refine ⟨h3,fun h=> ?_⟩
   rw [h4 h]
   constructor
   ·rintro (h|⟨y,hy,g⟩)
    ·exact .inl h
    ·exact .inr ⟨y,List.mem_cons_of_mem _ hy,g⟩
   ·rintro (h|⟨y,hy,g⟩)
    ·exact .inl h
    ·rcases List.mem_cons.1 hy with rfl|hy
     ·exact absurd ⟨g.1,g.2.1⟩ hc2
     ·exact .inr ⟨y,hy,g⟩
theorem xS (l:List (Ty.El zA)) (p:Ty.El zF) (b:Ty.El zA):(zCj l p b).Pairwise hlt:=(zIe l [] List.Pairwise.nil).1
theorem zCi (l:List (Ty.El zA)) (p:Ty.El zF) (b:Ty.El zA) (h:Ty.El jJ):h∈zCj l p b↔ ∃x,x∈l∧x.1=p∧uW x b=0∧h∈x.2.2.2.2.2.2.2.2.2.2.2.1:=by
 have:=(zIe (p:=p) (b:=b) l [] List.Pairwise.nil).2 h
 rw [show zCj l p b=l.foldl (yD p b) [] from rfl,this]
 simp
noncomputable def w5 (p:Ty.El zF) (l:List (Ty.El zA)):List (Ty.El zA):=zIk (fun x:Ty.El zA=>x.1) p l
theorem zRm (p:Ty.El zF) (x:Ty.El zA) (l:List (Ty.El zA)):w5 p (x::l)=if x.1=p then x::w5 p l else w5 p l:=by
 unfold w5 zIk
 rw [List.filter_cons]
 by_cases h:x.1=p
 ·simp [h]
 ·simp [h]
theorem uM {p:Ty.El zF} {x:Ty.El zA} {l:List (Ty.El zA)} :x∈w5 p l↔x∈l∧x.1=p:=by
 unfold w5 zIk
 rw [List.mem_filter]
 simp
def zFq (c:Option (Ty.El zA)) (l:List (Ty.El zA)):Option (Ty.El zA):=l.foldl (fun c x=>bif zM5 x c then some x else c) c
theorem zCp {p:Ty.El zF} : ∀ (l:List (Ty.El zA)) (c:Option (Ty.El zA)),l.foldl (zFp p) c=zFq c (w5 p l)
 |[],c=>rfl
 |x::l,c=>by
  rw [List.foldl_cons,zRm]
  by_cases h:x.1=p
  ·rw [if_pos h]
   have hb:zFp p c x=bif zM5 x c then some x else c:=by unfold zFp;rw [xN.2 h];rfl
   rw [hb,zCp l]
   rfl
  ·rw [if_neg h]
   have hp:zCd x.1 p=false:=by
    rw [Bool.eq_false_iff]
    exact fun hh=>h (xN.1 hh)
   have hb:zFp p c x=c:=by unfold zFp;rw [hp];rfl
   rw [hb,zCp l]
theorem zBb (l:List (Ty.El zA)) (p:Ty.El zF):zBc l p=zFq none (w5 p l):=zCp l none
theorem zJN {l l':List (Ty.El zA)} (h:zAY (fun x:Ty.El zA=>x.1) l l'):vC l=vC l':=by
 have hm: ∀x,x∈l↔x∈l':=by
  intro x
  have h1:= @uM x.1 x l
  have h2:= @uM x.1 x l'
  have h3:w5 x.1 l=w5 x.1 l':=h x.1
  rw [h3] at h1
  constructor
  ·intro hx;exact (h2.1 (h1.2 ⟨hx,rfl⟩)).1
  ·intro hx;exact (h1.1 (h2.2 ⟨hx,rfl⟩)).1
 have hP:zOk l=zOk l':=zA3 zFF (zE4 l) (zE4 l') (fun p=>by
  rw [zDd,zDd]
  exact ⟨fun ⟨x,hx,e⟩=>⟨x,(hm x).1 hx,e⟩,fun ⟨x,hx,e⟩=>⟨x,(hm x).2 hx,e⟩⟩)
 unfold vC
 rw [hP]
 congr 1
 funext p
 unfold mrg
 have hb:zBc l p=zBc l' p:=by
  rw [zBb,zBb]
  exact congrArg (zFq none) (h p)
 rw [hb]
 cases zBc l' p with
 |none=>rfl
 |some b=>
  have hh:zCj l p b=zCj l' p b:=zA3 zIg (xS _ _ _) (xS _ _ _) (fun h'=>by
   rw [zCi,zCi]
   exact ⟨fun ⟨x,hx,e⟩=>⟨x,(hm x).1 hx,e⟩,fun ⟨x,hx,e⟩=>⟨x,(hm x).2 hx,e⟩⟩)
  rw [Option.map_some,Option.map_some,hh]
end Go.Ve

namespace Go.Ve
open Go
def wM {α:Type} (eq:α→α→Bool):List α→List α
 |[]=>[]
 |[x]=>[x]
 |x::y::r=>bif eq x y then wM eq (y::r) else x::wM eq (y::r)
theorem zBV {α:Type} {eq:α→α→Bool} (he: ∀x y,eq x y=true↔x=y) (z:α): ∀ (l:List α),z∈wM eq l↔z∈l
 |[]=>Iff.rfl
 |[x]=>Iff.rfl
 |x::y::r=>by
  simp only [wM]
  cases h:eq x y with
  |true=>
   rw [cond_true,zBV he z (y::r),(he x y).1 h]
   simp
  |false=>
   rw [cond_false,List.mem_cons,zBV he z (y::r),List.mem_cons (a:=z) (b:=x)]
theorem zEu {α:Type} {eq:α→α→Bool} {R:α→α→Prop} (he: ∀x y,eq x y=true↔x=y) (ho:Ord R) (htot: ∀x y, ¬R y x→x≠y→R x y): ∀ (l:List α),l.Pairwise (fun x y=> ¬R y x)→(wM eq l).Pairwise R
 |[],_=>List.Pairwise.nil
 |[x],_=>List.pairwise_singleton _ _
 |x::y::r,hp=>by
  have hp2:=hp
  rw [List.pairwise_cons] at hp
  have ih:=zEu he ho htot (y::r) hp.2
  simp only [wM]
  cases h:eq x y with
  |true=>exact ih
  |false=>
   rw [cond_false,List.pairwise_cons]
   refine ⟨fun z hz=> ?_,ih⟩
   have hne:x≠y:=fun e=>by rw [(he x y).2 e] at h;cases h
   have hxy:R x y:=htot x y (hp.1 y (by simp)) hne
   have hz2:=(zBV he z (y::r)).1 hz
   rcases List.mem_cons.1 hz2 with rfl|hz3
   ·exact hxy
   ·have hyz: ¬R z y:=by
     have:=hp.2
     rw [List.pairwise_cons] at this
     exact this.1 z hz3
    exact Classical.byContradiction (fun hn=>ho.tr y z x hyz hn hxy)
theorem zLR (a b:Ty.El jJ):zMT a b=true↔a=b:=⟨fun h=>zE3 h,fun h=>by subst h;simp [zMT]⟩
theorem zOB {l:List (Ty.El zA)} {p:Ty.El zF} {b:Ty.El zA} {hs:List (Ty.El jJ)} (hp:hs.Pairwise (fun x y=> ¬hlt y x)) (hm: ∀h,h∈hs↔ ∃x,x∈l∧x.1=p∧uW x b=0∧h∈x.2.2.2.2.2.2.2.2.2.2.2.1):
  wM zMT hs=zCj l p b:=
 zA3 zIg (zEu zLR zIg (fun _ _ h1 h2=>zUL h1 h2) hs hp) (xS l p b) (fun h=>by rw [zBV zLR,hm,zCi])
end Go.Ve

namespace Go.Ve
open Go
set_option maxRecDepth 100000
theorem zOA:zX=yC zJ:=rfl
theorem zN4: ∀n,zW n=zAe zJ n:=by
 intro n
 induction n with
 |zero=>rfl
 |succ n ih=>
  show kE (zW n)=zEV zJ (zAe zJ n)
  rw [ih]
  rfl
theorem zPg:qB=zC8 zJ:=zN4 1048576
theorem zSY:qI=zHC zJ:=by
 unfold qI zHC
 rw [zPg,zOA]
theorem zMB:qE=zCB zJ:=by
 unfold qE zCB
 rw [zSY]
theorem zTi:zJ3 rlt (fun x:Ty.El zA=>x.1) where
 ord:=zOh
 ne:=fun x y h e=>by
  unfold rlt at h
  rw [e] at h
  exact zFF.asym _ _ h h
theorem zW9 (x y:Ty.El zA):Wp (zJ (x,y,())) (fun c=>c<0↔rlt x y):=by
 unfold zJ
 dsimp only
 exact zC (wD (zHI _ _) (zB zIz))
theorem zEh (l:List (Ty.El zA)) (hl:l.length≤1048576):
  Wp (qE l ((),())) (fun r=>r.1.length=l.length∧zAY (fun x:Ty.El zA=>x.1) l r.1∧r.1.Pairwise (fun x y=> ¬rlt y x)):=by
 rw [zMB]
 exact zIP zTi zW9 l hl
end Go.Ve

namespace Go.Ve
open Go
theorem zP9 {α:Type} {p:α→Bool} {xs:List α} {i:Nat} {x:α} (h:xs[i]? =some x):(xs.take (i+1)).filter p=(xs.take i).filter p++(if p x then [x] else []):=by
 obtain ⟨hi,he⟩:=List.getElem?_eq_some_iff.1 h
 rw [List.take_add_one,h,List.filter_append]
 simp only [Option.toList_some,List.filter_cons,List.filter_nil]
theorem zKr {α:Type} {p:α→Bool} {xs:List α} (i:Nat):((xs.take i).filter p).length≤xs.length:=
 Nat.le_trans (List.length_filter_le _ _) (List.length_take_le' _ _)
def zA9 (v:Ty.El z6) (r i:Int):List (Ty.El zO):=match v.2.1.1[(zBa v r i).toNat]? with
 |some d=>d.2.2.1
 |none=>[]
def zMS (v:Ty.El z6) (r i:Int) (p:Ty.El zO→Bool):List (Ty.El zO):=bif upB v r i then (zA9 v r i).filter p else []
theorem zQn {v:Ty.El z6} {r i:Int} (h:upB v r i=true): ∃d,v.2.1.1[(zBa v r i).toNat]? =some d∧0≤zBa v r i∧zA9 v r i=d.2.2.1:=by
 unfold upB at h
 simp only [Bool.and_eq_true,decide_eq_true_eq] at h
 obtain ⟨d,hd,_⟩:=zIl (p:=fun d:Ty.El zAu=>d.2.2.1.any (zJj (r,i,()))) (xs:=v.2.1.1) h.1
 refine ⟨d,hd,h.1,?_⟩
 unfold zA9
 have hd':v.2.1.1[(zBa v r i).toNat]? =some d:=hd
 rw [hd']
theorem zQj {v:Ty.El z6} (hv:zCQ v) (r i:Int):(zA9 v r i).length≤360:=by
 unfold zA9
 split
 ·rename_i d hd
  exact hv.ends d (List.mem_of_getElem? hd)
 ·exact Nat.zero_le _
theorem zFY (v:Ty.El z6) (r i:Int) (hv:zCQ v):Wp (zAt (v,r,i,())) (fun l=>l=zMS v r i (fun e=>e.1 !=r||e.2.1 !=i)):=by
 unfold zAt zMS
 dsimp only
 refine zC ((zHF v r i hv).mono (fun b hb=> ?_))
 subst hb
 refine zH (fun h=>zB ?_) (fun h=> ?_)
 ·have h:upB v r i=false:=by simpa using h
  rw [h];rfl
 ·have h:upB v r i=true:=by simpa using h
  rw [h]
  obtain ⟨d,hd,h0,he⟩:=zQn h
  have hl:d.2.2.1.length≤360:=by rw [←he];exact zQj hv r i
  refine zC (zC ((zA2 v r i hv).mono (fun k hk=> ?_)))
  subst hk
  simp only [jN hd h0,Option.bind_some]
  refine zBL (xs:=d.2.2.1) (by omega) (fun j (g:List (Ty.El zO))=>g=(d.2.2.1.take j).filter (fun e=>e.1 !=r||e.2.1 !=i)) (by simp) ?_ (fun g hg=>zB ?_)
  ·intro j x g hx hg
   have hgl:g.length≤360:=by rw [hg];exact Nat.le_trans (zKr j) hl
   simp only [zT hx,Option.bind_some]
   rw [zP9 hx, ←hg]
   refine zC ((show Wp _ (fun s:Bool×List (Ty.El zO)=>s.1=(x.1 !=r||x.2.1 !=i)∧s.2=g) from ?_).mono (fun s hs=> ?_))
   ·refine zH (fun h=>zB ⟨?_,rfl⟩) (fun h=>zB ⟨?_,rfl⟩)
    ·rw [h];rfl
    ·rw [h];rfl
   ·obtain ⟨s1,s2⟩:=s
    obtain ⟨h1,h2⟩:=hs
    simp only at h1 h2
    subst h2
    refine zH (fun h=>zC (zA0 (by simp only [List.length_singleton];omega) (zB ?_))) (fun h=>zB ?_)
    ·have h:s1=true:=h
     rw [←h1,if_pos h]
    ·have h:s1=false:=h
     rw [←h1,if_neg (by rw [h];decide),List.append_nil]
  ·rw [hg,List.take_length,he];rfl
end Go.Ve

namespace Go.Ve
open Go
theorem zW7 {n:Ty.El zV} {d:List Int} {v:Ty.El z6} (hv:zHm n d v) {r i:Int} (h:upB v r i=true): ∃dm:Ty.El zAu,zIG n dm.1 dm.2.1 (r,i,())∧(∀e,e∈zA9 v r i→zIG n dm.1 dm.2.1 e):=by
 have h0:=h
 unfold upB at h0
 simp only [Bool.and_eq_true,decide_eq_true_eq] at h0
 obtain ⟨dm,h1,h2⟩:=zIl (p:=fun d:Ty.El zAu=>d.2.2.1.any (zJj (r,i,()))) (xs:=v.2.1.1) h0.1
 obtain ⟨e,he,h3⟩:=List.any_eq_true.1 h2
 have h4:=zU9.1 h3
 subst h4
 have hall:=(hv.topo.ends dm (List.mem_of_getElem? h1)).2
 refine ⟨dm,hall _ he,?_⟩
 intro e' he'
 obtain ⟨d',hd',_,hee⟩:=zQn h
 have h1':v.2.1.1[(zBa v r i).toNat]? =some dm:=h1
 rw [hd'] at h1'
 cases h1'
 rw [hee] at he'
 exact hall e' he'
end Go.Ve

namespace Go.Ve
open Go
def prB (x:Ty.El zBy) (p:Ty.El zF):Bool:=(decide (x.2.1.2.1≤p.2.1)&&zNR x.2.1 p.1)&&(decide (x.2.2.1≤p.2.1)&&decide (p.2.1≤x.2.2.2.1))
theorem zIR (p q:Ty.El zF):zBw (p,q,())=some (decide (p.2.1≤q.2.1)&&zNR p q.1):=by
 unfold zBw
 dsimp only
 rw [show xV (p,q.1,())=some (zNR p q.1) from zGM p q.1]
 cases decide (p.2.1≤q.2.1)<;>rfl
theorem zF0 (x:Ty.El zBy) (p:Ty.El zF):yB (x,p,())=some (prB x p):=by
 unfold yB prB
 dsimp only
 rw [show zBw (x.2.1,p,())=some (decide (x.2.1.2.1≤p.2.1)&&zNR x.2.1 p.1) from zIR x.2.1 p]
 simp only [Option.bind_some]
 cases (decide (x.2.1.2.1≤p.2.1)&&zNR x.2.1 p.1)<;>cases decide (x.2.2.1≤p.2.1)<;>rfl
theorem zHG (l:Ty.El wE) (p:Ty.El zF) (hl:l.2.1.length≤20):Wp (zBR (l,p,())) (fun k=>k=zBs (fun x=>prB x p) l.2.1):=by
 unfold zBR
 dsimp only
 refine zFy (p:=fun x:Ty.El zBy=>prB x p) (by omega) ?_ rfl
 intro i x hx
 simp only [zT hx,Option.bind_some]
 rw [show yB (x,p,())=some (prB x p) from zF0 x p]
 cases prB x p<;>rfl
def zJM (r:Ty.El zG) (nm:Ty.El .str):Int:=zBs (fun x:Ty.El wE=>x.1==nm) r.2.2.2.1
theorem zEA (r:Ty.El zG) (nm:Ty.El .str) (hr:SmR r):Wp (yS (r,nm,())) (fun k=>k=zJM r nm):=by
 unfold yS j8 xF
 dsimp only
 have:=hr.i2
 refine zC (zFy (p:=fun x:Ty.El wE=>x.1==nm) (by omega) ?_ (zB rfl))
 intro i x hx
 simp only [zT hx,Option.bind_some]
 cases x.1==nm<;>rfl
def zEl (r:Ty.El zG) (nm:Ty.El .str) (p:Ty.El zF):Bool:=
 bif nm==({ data:= #[] } :ByteArray) then true else
 bif decide (zJM r nm<0) then false else
 match r.2.2.2.1[(zJM r nm).toNat]? with
 |some l=>bif decide (zBs (fun x=>prB x p) l.2.1≥0) then (match l.2.1[(zBs (fun x=>prB x p) l.2.1).toNat]? with
  |some z=>z.1
  |none=>false) else false
 |none=>false
theorem zBD (r:Ty.El zG) (nm:Ty.El .str) (p:Ty.El zF) (hr:SmR r):Wp (yA (r,nm,p,())) (fun b=>b=zEl r nm p):=by
 unfold yA zEl
 dsimp only
 refine zH (fun h=>zB (by rw [h];rfl)) (fun h=> ?_)
 rw [h]
 refine zC ((zEA r nm hr).mono (fun k hk=> ?_))
 subst hk
 refine zI (fun h1=>zB ?_) (fun h1=> ?_)
 ·have h1:zJM r nm<0:=h1
  simp [h1]
 ·have h1: ¬zJM r nm<0:=h1
  obtain ⟨l,hl,_⟩:=zIl (p:=fun x:Ty.El wE=>x.1==nm) (xs:=r.2.2.2.1) (show 0≤zJM r nm by omega)
  have hl:r.2.2.2.1[(zJM r nm).toNat]? =some l:=hl
  simp only [jN hl (show 0≤zJM r nm by omega),Option.bind_some]
  refine zC ((zHG l p (hr.n1 l (List.mem_of_getElem? hl))).mono (fun k hk=> ?_))
  subst hk
  rw [hl]
  simp only [decide_eq_false h1,cond_false]
  refine zC (zI (fun h2=> ?_) (fun h2=>zB (zB ?_)))
  ·have h2:zBs (fun x=>prB x p) l.2.1≥0:=h2
   obtain ⟨z,hz,_⟩:=zIl h2
   simp only [jN hz h2,Option.bind_some]
   refine zB (zB ?_)
   simp only [hz,decide_eq_true h2,cond_true]
  ·have h2: ¬zBs (fun x=>prB x p) l.2.1≥0:=h2
   simp only [decide_eq_false h2,cond_false]
end Go.Ve

namespace Go.Ve
open Go
theorem uQ (v:Ty.El z6) (r i:Nat) (rt:Ty.El zG) (x:Ty.El qQ) (hr:v.1.1[r]? =some rt) (hx:rt.2.2.1[i]? =some x):
  Wp (j3 (v,(r:Int),(i:Int),())) (fun y=>y=(x,true,())):=by
 unfold j3
 dsimp only
 have hrl:=(List.getElem?_eq_some_iff.1 hr).1
 have hil:=(List.getElem?_eq_some_iff.1 hx).1
 have q0: ¬((r:Int)<0):=by omega
 have q1: ¬((r:Int)≥(List.length v.1.1:Int)):=by omega
 have q2: ¬((i:Int)<0):=by omega
 refine zC ((show Wp _ (fun s:Bool=>s=false) from ?_).mono (fun s hs=> ?_))
 ·refine zI (fun h=>absurd h q0) (fun _=>zI (fun h=>absurd h q1) (fun _=>zI (fun h=>absurd h q2) (fun _=> ?_)))
  simp only [zT hr,Option.bind_some]
  refine zB ?_
  have: ¬((i:Int)≥(List.length rt.2.2.1:Int)):=by omega
  exact decide_eq_false this
 ·subst hs
  simp only [cond_false,zT hr,zT hx,Option.bind_some]
  exact zB rfl
def uX (v:Ty.El z6) (rt:Ty.El zG) (x:Ty.El qQ) (r i:Int):Bool:=rt.2.2.2.2.2.2.2.2.2.1.1&&(x.2.2.2.2.2.2.2.2.1&&upB v r i)
theorem vB (v:Ty.El z6) (r i:Nat) (rt:Ty.El zG) (x:Ty.El qQ) (hv:zCQ v) (hr:v.1.1[r]? =some rt) (hx:rt.2.2.1[i]? =some x):
  Wp (jZ (v,(r:Int),(i:Int),())) (fun b=>b=uX v rt x r i):=by
 unfold jZ uX
 dsimp only
 refine zC ((uQ v r i rt x hr hx).mono (fun y hy=> ?_))
 subst hy
 simp only [cond_true,zT hr,Option.bind_some]
 refine zC ?_
 refine zH (fun h=> ?_) (fun h=>zB (zB ?_))
 ·rw [h]
  refine zH (fun h=> ?_) (fun h=>zB (zB ?_))
  ·rw [h]
   exact zC ((zHF v r i hv).mono (fun b hb=>zB (zB (by rw [hb];rfl))))
  ·rw [h];rfl
 ·rw [h];rfl
def zKd (rt from':Ty.El zG) (y:Ty.El qQ) (i:Int) (x:Ty.El zA):Option (Ty.El zA):=
 bif decide (x.2.2.2.2.1<15)&&(zEl from' from'.2.2.2.2.2.2.2.2.2.1.2.2.2.1 x.1&&zEl rt rt.2.2.2.2.2.2.2.2.2.1.2.2.1 x.1) then
  some (x.1,(4:Int),(3:Int),rt.2.2.2.2.2.2.2.2.2.1.2.1,IntKind.wrap IntKind.i64 (x.2.2.2.2.1+(1:Int)),(0:Int),x.2.2.2.2.2.2.1,(0:Int),[],(0:Int),(0:Int),[(i,y.2.1,())],false,())
 else none
theorem zDa (v:Ty.El z6) (t:List (Ty.El zA)) (r q k:Nat) (i:Int) (rt from':Ty.El zG) (y:Ty.El qQ) (hr:v.1.1[r]? =some rt) (hq:v.1.1[q]? =some from') (hy:from'.2.2.1[k]? =some y)
  (h1:SmR rt) (h2:SmR from') (hl:t.length≤12):
  Wp (uD (v,t,(r:Int),i,((q:Int),(k:Int),()),())) (fun l=>l=t.filterMap (zKd rt from' y i)):=by
 unfold uD
 dsimp only
 simp only [zT hr,zT hq,Option.bind_some]
 refine zC ((uQ v q k from' y hq hy).mono (fun z hz=> ?_))
 subst hz
 refine zC (zBL (xs:=t) (by omega) (fun j (g:List (Ty.El zA))=>g=(t.take j).filterMap (zKd rt from' y i)) (by simp) ?_ (fun g hg=>zB (by rw [hg,List.take_length])))
 intro j x g hx hg
 have hgl:g.length≤12:=by rw [hg];exact Nat.le_trans (List.length_filterMap_le _ _) (Nat.le_trans (List.length_take_le' _ _) hl)
 simp only [zT hx,Option.bind_some]
 rw [zLW hx, ←hg]
 refine zC ((show Wp _ (fun s:Bool×List (Ty.El zA)=>s.1= !(decide (x.2.2.2.2.1<15)&&(zEl from' from'.2.2.2.2.2.2.2.2.2.1.2.2.2.1 x.1&&zEl rt rt.2.2.2.2.2.2.2.2.2.1.2.2.1 x.1))∧s.2=g) from ?_).mono (fun s hs=> ?_))
 ·refine zI (fun h=>zB ⟨?_,rfl⟩) (fun h=> ?_)
  ·have h: ¬x.2.2.2.2.1<15:=Int.not_lt.2 h
   rw [decide_eq_false h];rfl
  ·have h:x.2.2.2.2.1<15:=Int.not_le.1 h
   rw [decide_eq_true h]
   refine zC ((zBD from' _ _ h2).mono (fun b hb=> ?_))
   refine zH (fun hb'=>zB ⟨?_,rfl⟩) (fun hb'=> ?_)
   ·have hb':b=false:=by simpa using hb'
    rw [←hb,hb'];rfl
   ·have hb':b=true:=by simpa using hb'
    rw [←hb,hb']
    refine zC ((zBD rt _ _ h1).mono (fun c hc=>zB ⟨?_,rfl⟩))
    rw [hc];rfl
 ·obtain ⟨s1,s2⟩:=s
  obtain ⟨g1,g2⟩:=hs
  simp only at g1 g2
  subst g2
  unfold zKd
  refine zH (fun h=>zB ?_) (fun h=> ?_)
  ·have h:s1=true:=h
   rw [h] at g1
   have g1:=(Bool.not_eq_eq_eq_not).1 g1.symm
   rw [g1];simp
  ·have h:s1=false:=h
   rw [h] at g1
   have g1:=(Bool.not_eq_eq_eq_not).1 g1.symm
   rw [g1]
   exact zC (zA0 (by simp only [List.length_singleton];omega) (zB rfl))
end Go.Ve

namespace Go.Ve
open Go
def zGQ (v:Ty.El z6) (dv:List (List (Ty.El zA))) (rt:Ty.El zG) (i:Int) (e:Ty.El zO):List (Ty.El zA):=
 match v.1.1[Int.toNat e.1]? with
 |some q=>match q.2.2.1[Int.toNat e.2.1]?,dv[Int.toNat e.1]? with
  |some y,some t=>bif uX v q y e.1 e.2.1 then t.filterMap (zKd rt q y i) else []
  |_,_=>[]
 |none=>[]
def zIU (v:Ty.El z6) (dv:List (List (Ty.El zA))) (r:Int) (rt:Ty.El zG) (i:Nat):List (Ty.El zA):=
 match rt.2.2.1[i]? with
 |some x=>bif uX v rt x r i then (zMS v r i (fun e=>e.1 !=r||e.2.1 !=(i:Int))).flatMap (zGQ v dv rt i) else []
 |none=>[]
def zBO (v:Ty.El z6) (dv:List (List (Ty.El zA))) (r:Int) (rt:Ty.El zG):List (Ty.El zA):=(List.range rt.2.2.1.length).flatMap (zIU v dv r rt)
theorem zAk {α β:Type} {f:α→List β} {k:Nat} : ∀ {xs:List α},(∀x,x∈xs→(f x).length≤k)→(xs.flatMap f).length≤xs.length*k
 |[],_=>by simp
 |x::xs,h=>by
  have h1:=h x (by simp)
  have h2:=zAk (xs:=xs) (fun y hy=>h y (List.mem_cons_of_mem _ hy))
  simp only [List.flatMap_cons,List.length_append,List.length_cons,Nat.succ_mul]
  omega
theorem zIj {α β:Type} {f:α→List β} {xs:List α} {i:Nat} {x:α} (h:xs[i]? =some x):(xs.take (i+1)).flatMap f=(xs.take i).flatMap f++f x:=by
 rw [List.take_add_one,h,List.flatMap_append]
 simp
theorem zPJ {v:Ty.El z6} {dv:List (List (Ty.El zA))} {rt:Ty.El zG} {i:Int} {e:Ty.El zO} (h: ∀t,t∈dv→t.length≤12):(zGQ v dv rt i e).length≤12:=by
 unfold zGQ
 split
 ·split
  ·rename_i q _ _ _ y t _ ht
   cases uX v q y e.1 e.2.1
   ·exact Nat.zero_le _
   ·exact Nat.le_trans (List.length_filterMap_le _ _) (h t (List.mem_of_getElem? ht))
  ·exact Nat.zero_le _
 ·exact Nat.zero_le _
theorem zPQ {v:Ty.El z6} (hv:zCQ v) (r i:Int) (p:Ty.El zO→Bool):(zMS v r i p).length≤360:=by
 unfold zMS
 cases upB v r i
 ·exact Nat.zero_le _
 ·exact Nat.le_trans (List.length_filter_le _ _) (zQj hv r i)
theorem zPI {v:Ty.El z6} (hv:zCQ v) {dv:List (List (Ty.El zA))} {r:Int} {rt:Ty.El zG} {i:Nat} (h: ∀t,t∈dv→t.length≤12):(zIU v dv r rt i).length≤4320:=by
 unfold zIU
 split
 ·rename_i x _
  cases uX v rt x r i
  ·exact Nat.zero_le _
  ·have h1:=zPQ hv r i (fun e=>e.1 !=r||e.2.1 !=(i:Int))
   have h2:=zAk (xs:=zMS v r i (fun e=>e.1 !=r||e.2.1 !=(i:Int))) (f:=zGQ v dv rt i) (k:=12) (fun e _=>zPJ h)
   show (List.flatMap _ _).length≤_
   omega
 ·exact Nat.zero_le _
theorem zCY (v:Ty.El z6) (hs:zCQ v) (hE: ∀ (r i:Int) (e:Ty.El zO),upB v r i=true→e∈zA9 v r i→(0:Int)≤e.1∧(0:Int)≤e.2.1∧ ∃q y,v.1.1[Int.toNat e.1]? =some q∧q.2.2.1[Int.toNat e.2.1]? =some y) (dv:List (List (Ty.El zA))) (hdv:dv.length=v.1.1.length) (h12: ∀t,t∈dv→t.length≤12) (r:Nat) (rt:Ty.El zG) (hr:v.1.1[r]? =some rt):
  Wp (uE (v,dv,(r:Int),())) (fun l=>l=zBO v dv r rt):=by
 unfold uE
 dsimp only
 have hrl:=(List.getElem?_eq_some_iff.1 hr).1
 have hsm:=hs.sm rt (List.mem_of_getElem? hr)
 have hil:rt.2.2.1.length≤20:=hsm.i1
 have q0: ¬((r:Int)<0):=by omega
 have q1: ¬((r:Int)≥(List.length v.1.1:Int)):=by omega
 refine zC (zI (fun h=>absurd h q0) (fun _=>zB ?_))
 refine zI (fun h=>absurd h q1) (fun _=> ?_)
 simp only [zT hr,Option.bind_some]
 have hfl: ∀i,((List.range i).flatMap (zIU v dv r rt)).length≤i*4320:=fun i=>by
  have:=zAk (xs:=List.range i) (f:=zIU v dv r rt) (k:=4320) (fun e _=>zPI hs h12)
  rwa [List.length_range] at this
 refine zC (zBL (xs:=rt.2.2.1) (by omega) (fun i (g:List (Ty.El zA))=>g=(List.range i).flatMap (zIU v dv r rt)) rfl ?_ (fun g hg=>zB hg))
 intro i x g hx hg
 have hi:=(List.getElem?_eq_some_iff.1 hx).1
 have hgl:g.length≤i*4320:=by rw [hg];exact hfl i
 have yD:(List.range (i+1)).flatMap (zIU v dv r rt)=g++zIU v dv r rt i:=by
  rw [List.range_succ,List.flatMap_append, ←hg]
  simp
 rw [yD]
 have hI:zIU v dv r rt i=bif uX v rt x r i then (zMS v r i (fun e=>e.1 !=(r:Int)||e.2.1 !=(i:Int))).flatMap (zGQ v dv rt i) else []:=by unfold zIU;rw [hx]
 rw [hI]
 refine zC ((vB v r i rt x hs hr hx).mono (fun b hb=> ?_))
 subst hb
 refine zH (fun h=>zB ?_) (fun h=> ?_)
 ·have h:uX v rt x r i=false:=by simpa using h
  rw [h];simp
 have h:uX v rt x r i=true:=by simpa using h
 rw [h]
 refine zC ((zFY v r i hs).mono (fun ns hns=> ?_))
 have hnl:ns.length≤360:=by rw [hns];exact zPQ hs _ _ _
 have hup:upB v r i=true:=by
  unfold uX at h
  simp only [Bool.and_eq_true] at h
  exact h.2.2
 have hmem: ∀e,e∈ns→e∈zA9 v r i:=by
  intro e he
  rw [hns] at he
  unfold zMS at he
  rw [hup] at he
  exact (List.mem_filter.1 he).1
 refine (zBL (xs:=ns) (by omega) (fun j (g':List (Ty.El zA))=>g'=g++(ns.take j).flatMap (zGQ v dv rt i)) (by simp) ?_ (fun g' hg'=>by rw [hg',List.take_length,hns];rfl))
 intro j e g' he hg'
 have hj:=(List.getElem?_eq_some_iff.1 he).1
 have hg'l:g'.length≤i*4320+4320:=by
  have h2:=zAk (xs:=ns.take j) (f:=zGQ v dv rt i) (k:=12) (fun e _=>zPJ h12)
  have h3:=List.length_take_le' j ns
  rw [hg',List.length_append]
  omega
 simp only [zT he,Option.bind_some]
 rw [zIj he, ←List.append_assoc, ←hg']
 obtain ⟨b0,b1,q,y,b2,b3⟩:=hE _ _ e hup (hmem e (List.mem_of_getElem? he))
 obtain ⟨e1,e2,⟨⟩⟩:=e
 obtain ⟨qn,rfl⟩:=Int.eq_ofNat_of_zero_le (show (0:Int)≤e1 from b0)
 obtain ⟨kn,rfl⟩:=Int.eq_ofNat_of_zero_le (show (0:Int)≤e2 from b1)
 have b2:v.1.1[qn]? =some q:=b2
 have b3:q.2.2.1[kn]? =some y:=b3
 have c2:v.1.1[qn]? =some q:=b2
 have hql:=(List.getElem?_eq_some_iff.1 b2).1
 have hqd:qn<dv.length:=by omega
 have ht:dv[qn]? =some dv[qn]:=by simp [hqd]
 have hE:zGQ v dv rt i ((qn:Int),(kn:Int),())=bif uX v q y qn kn then dv[qn].filterMap (zKd rt q y i) else []:=by
  unfold zGQ
  simp only [Int.toNat_natCast,c2,b3,ht]
 rw [hE]
 refine zC ((show Wp _ (fun s:Bool×List (Ty.El zA)=>s.1=uX v q y qn kn∧s.2=g') from ?_).mono (fun s hs'=> ?_))
 ·refine zC ((vB v qn kn q y hs c2 b3).mono (fun b hb=> ?_))
  subst hb
  refine zH (fun hb=>zB ⟨?_,rfl⟩) (fun hb=>zB ⟨?_,rfl⟩)
  ·rw [hb]
   have:((qn:Int)< (dv.length:Int)):=by omega
   exact decide_eq_true this
  ·rw [hb]
 ·obtain ⟨s1,s2⟩:=s
  obtain ⟨k1,k2⟩:=hs'
  simp only at k1 k2
  subst k2
  refine zH (fun hb=> ?_) (fun hb=>zB ?_)
  ·have hb:s1=true:=hb
   rw [←k1,hb]
   simp only [zT ht,Option.bind_some]
   have h12':=h12 dv[qn] (List.getElem_mem _)
   refine zC ((zDa v dv[qn] r qn kn i rt q y hr c2 b3 hsm (hs.sm q (List.mem_of_getElem? c2)) h12').mono (fun l hl=> ?_))
   subst hl
   have:=Nat.le_trans (List.length_filterMap_le (zKd rt q y i) dv[qn]) h12'
   exact zC (zA0 (by omega) (zB rfl))
  ·have hb:s1=false:=hb
   rw [←k1,hb];simp
end Go.Ve

namespace Go.Ve
open Go
set_option maxRecDepth 1000000
set_option maxHeartbeats 4000000
structure zKQ (l:List (Ty.El zA)) (proto:Int):Prop where
 val: ∀x,x∈l→wU (x,())=some true
 pr:proto≠0→ ∀x,x∈l→x.2.1=proto
 so: ∀i x y,l[i]? =some x→l[i+1]? =some y→rlt x y
theorem zTE (l:List (Ty.El zA)) (proto:Int) (hl:l.length≤1048576) (hs: ∀y,y∈l→RtS y):Wp (zCE (l,proto,())) (fun b=>b=true→zKQ l proto):=by
 unfold zCE
 dsimp only
 refine zFx (by omega) (fun i=> ∀m x,m<i→l[m]? =some x→wU (x,())=some true∧(proto≠0→x.2.1=proto)∧(∀j y,m=j+1→l[j]? =some y→rlt y x)) (fun m x hm=>by omega) ?_ (fun hj=>zB (fun _=> ?_))
 ·intro i x hx hj
  have hi:=(List.getElem?_eq_some_iff.1 hx).1
  simp only [zT hx,Option.bind_some]
  have hcmp:(i:Int)>0→Wp (Option.bind (idx l (IntKind.wrap IntKind.i64 ((i:Int) - (1:Int)))) fun (y44:Ty.El zA)=>Option.bind (vJ (y44.1,x.1,())) fun (y46:Int)=>some (decide (y46≥(0:Int)))) (fun s=>s=false→ ∀j y,i=j+1→l[j]? =some y→rlt y x):=by
   intro h0
   rw [zD (by omega) (by omega),show ((i:Int) -1)=((i-1:Nat):Int) by omega]
   obtain ⟨yy,hy⟩: ∃yy,l[i-1]? =some yy:=⟨l[i-1]'(by omega),by simp⟩
   refine zC (wD (zT hy) (zC (wD (zCz _ _) (zB ?_))))
   intro h j y hji hyj
   rw [show i-1=j by omega] at hy
   rw [hy] at hyj
   cases hyj
   have h:=of_decide_eq_false h
   exact zIz.1 (Int.not_le.1 h)
  refine zC ((show Wp _ (fun s:Bool=>s=false→wU (x,())=some true∧(proto≠0→x.2.1=proto)∧(∀j y,i=j+1→l[j]? =some y→rlt y x)) from ?_).mono (fun s hs'=> ?_))
  ·refine zKU ((zJ6 x (hs x (List.mem_of_getElem? hx))).mono (fun _ _=>trivial)) (fun b hb=>zH (fun _=>zB (fun h=>by cases h)) (fun hb'=> ?_))
   have hv:wU (x,())=some true:=by
    rw [hb]
    have h:(!b)=false:=hb'
    cases b
    ·cases h
    ·rfl
   refine zH (fun hp=>zH (fun _=>zB (fun h=>by cases h)) (fun hpe=> ?_)) (fun hp=> ?_)
   ·have hpe:x.2.1=proto:=by simpa using hpe
    refine zI (fun h=>(hcmp h).mono (fun s h2 h3=>⟨hv,fun _=>hpe,h2 h3⟩)) (fun h=>zB (fun _=>⟨hv,fun _=>hpe,fun j y hj'=> ?_⟩))
    omega
   ·have hp:proto=0:=by simpa using hp
    refine zI (fun h=>(hcmp h).mono (fun s h2 h3=>⟨hv,fun hh=>absurd hp hh,h2 h3⟩)) (fun h=>zB (fun _=>⟨hv,fun hh=>absurd hp hh,fun j y hj'=> ?_⟩))
    omega
  ·refine zH (fun _=>zB (fun h=>by cases h)) (fun h=>zB (e2l ⟨rfl,?_⟩))
   intro m z hm hz
   rcases Nat.lt_or_ge m i with h'|h'
   ·exact hj m z h' hz
   ·have:m=i:=by omega
    subst this
    rw [hx] at hz
    cases hz
    exact hs' h
 ·have hall: ∀m x,l[m]? =some x→_:=fun m x hx=>hj m x (List.getElem?_eq_some_iff.1 hx).1 hx
  refine ⟨fun x hx=> ?_,fun hp x hx=> ?_,fun i x y hx hy=>(hall (i+1) y hy).2.2 i x rfl hx⟩
  ·obtain ⟨m,hm,rfl⟩:=List.getElem_of_mem hx
   exact (hall m _ (by simp [hm])).1
  ·obtain ⟨m,hm,rfl⟩:=List.getElem_of_mem hx
   exact (hall m _ (by simp [hm])).2.1 hp
structure DvR (x:Ty.El zA):Prop where
 pre:zKV x.1=true
 tag:0≤x.2.2.2.2.2.2.1∧x.2.2.2.2.2.2.1≤65535
 met:1≤x.2.2.2.2.1∧x.2.2.2.2.1≤15
 path:x.2.2.2.2.2.2.2.2.1=[]
theorem zTD (x:Ty.El zA) (c:Bool):Wp (wT (x,false,false,c,())) (fun b=>b=true→x.2.2.2.2.2.2.2.2.1=[]):=by
 unfold wT
 dsimp only
 refine zC (zH (fun h=>by cases h) (fun _=>zH (fun _=>zH (fun h=>by cases h) (fun _=>zH (fun _=>zH (fun hp=> ?_) (fun _=> ?_)) (fun _=> ?_))) (fun _=> ?_)))
 ·have hp:x.2.2.2.2.2.2.2.2.1=[]:=by
   have:(x.2.2.2.2.2.2.2.2.1.length:Int)=0:=by simpa using hp
   exact List.length_eq_zero_iff.1 (by omega)
  repeat' (first
   |exact zB (zB (fun _=>hp))
   |refine zH (fun _=> ?_) (fun _=> ?_))
 all_goals exact zB (zB (fun h=>by cases h))
theorem zRW (x:Ty.El zA) (hs:RtS x) (h4:x.2.1=4):Wp (wU (x,())) (fun b=>b=true→DvR x):=by
 unfold wU
 dsimp only
 refine zC ((show Wp _ (fun s:Bool=>s=false→zKV x.1=true∧(0≤x.2.2.2.2.2.2.1∧x.2.2.2.2.2.2.1≤65535)∧x.2.2.2.2.2.2.2.2.1.length≤64) from ?_).mono (fun s hs'=> ?_))
 ·refine zC (wD (zJ9 _) (zH (fun _=>zB (fun h=>by cases h)) (fun h1=>zC (wD (uP _ _ _) (zH (fun _=>zB (fun h=>by cases h)) (fun h2=>zB (fun h3=>⟨by simpa using h1,by simpa using h2,?_⟩)))))))
  have:=of_decide_eq_false h3
  omega
 refine zH (fun _=>zB (fun h=>by cases h)) (fun h=> ?_)
 obtain ⟨g1,g2,g3⟩:=hs' h
 refine zIJ (P:=fun _=>True) (by omega) ?_ (fun _=> ?_)
 ·intro i y hy
  simp only [zT hy,Option.bind_some]
  exact zC (wD (uP _ _ _) (zH (fun _=>zB (fun h=>by cases h)) (fun _=>zB (e2l ⟨rfl,trivial⟩))))
 ·have k1:(x.2.1==(1:Int))=false:=by rw [h4];rfl
  have k2:(x.2.1==(2:Int))=false:=by rw [h4];rfl
  have k3:(x.2.1==(3:Int))=false:=by rw [h4];rfl
  have k4:(x.2.1==(4:Int))=true:=by rw [h4];rfl
  rw [k1,k2,k3,k4]
  simp only [cond_false,cond_true]
  refine zC (Wp.mono (Q:=fun b=>b=true→DvR x) ?_ (fun b hb=>zB hb))
  unfold wL
  dsimp only
  refine zC ((show Wp _ (fun s:Bool=>s=false→(1≤x.2.2.2.2.1∧x.2.2.2.2.1≤15)∧x.2.2.2.2.2.2.2.2.1=[]) from ?_).mono (fun s hs2=> ?_))
  ·refine zC (wD (uP _ _ _) (zH (fun _=>zB (fun h=>by cases h)) (fun _=> ?_)))
   refine zC (wD (uP _ _ _) (zH (fun _=>zB (fun h=>by cases h)) (fun h2=> ?_)))
   refine zC ((zTD x false).mono (fun b hb=>zH (fun _=>zB (fun h=>by cases h)) (fun h3=>zB (fun _=> ?_))))
   exact ⟨by simpa using h2,hb (by simpa using h3)⟩
  refine zH (fun _=>zB (fun h=>by cases h)) (fun h5=> ?_)
  obtain ⟨g4,g5⟩:=hs2 h5
  have fin:DvR x:=⟨g1,g2,g4,g5⟩
  have hh:=hs.hops
  have hho: ∀d,Wp (w4 (x.2.2.2.2.2.2.2.2.2.2.2.1,d,())) (fun _=>True):=fun d=>kC _ _ hh
  repeat' (first
   |exact zB (fun _=>fin)
   |refine zC ((hho _).mono (fun _ _=> ?_))
   |refine zC (Wp.mono (Q:=fun _=>True) ?_ (fun _ _=>zB (fun _=>fin)))
   |exact zB trivial
   |refine zH (fun _=> ?_) (fun _=> ?_))
end Go.Ve

namespace Go.Ve
open Go
theorem zKa (t:List (Ty.El zA)) (p:Ty.El zF) (hl:t.length<4611686018427387904):Wp (zDL (t,p,())) (fun k=>k=zBs (fun x=>zCd x.1 p) t):=by
 unfold zDL
 dsimp only
 refine zFy (p:=fun x:Ty.El zA=>zCd x.1 p) hl ?_ rfl
 intro i x hx
 simp only [zT hx,Option.bind_some]
 show (bif zCd x.1 p then _ else _)=_
 cases zCd x.1 p<;>rfl
structure zSQ (m:Nat) (dv:List (List (Ty.El zA))):Prop where
 len:dv.length=m
 one: ∀t,t∈dv→t.length≤12∧zKQ t 4∧ ∀x,x∈t→DvR x
theorem zTF (v:Ty.El z6) (dv:List (List (Ty.El zA))) (hs: ∀t,t∈dv→ ∀y,y∈t→RtS y) (hl:v.1.1.length≤9):Wp (zCJ (v,dv,())) (fun b=>b=true→zSQ v.1.1.length dv):=by
 unfold zCJ
 dsimp only
 refine zH (fun _=>zB (fun h=>by cases h)) (fun h=> ?_)
 have hlen:dv.length=v.1.1.length:=by
  have h':((List.length dv:Int)==(List.length v.1.1:Int))=true:=by simpa using h
  have:=(beq_iff_eq).1 h'
  omega
 refine zFx (by omega) (fun i=> ∀m t,m<i→dv[m]? =some t→t.length≤12∧zKQ t 4∧ ∀x,x∈t→DvR x) (fun m t hm=>by omega) ?_ (fun hj=>zB (fun _=>⟨hlen,fun t ht=> ?_⟩))
 ·intro i t ht hj
  have hst:=hs t (List.mem_of_getElem? ht)
  simp only [zT ht,Option.bind_some]
  refine zC ((show Wp _ (fun s:Bool=>s=false→t.length≤12∧zKQ t 4∧ ∀x,x∈t→DvR x) from ?_).mono (fun s hs'=> ?_))
  ·refine zI (fun _=>zB (fun h=>by cases h)) (fun h=> ?_)
   have h12:t.length≤12:=by
    have: ¬((List.length t:Int)>12):=h
    omega
   refine zC ((zTE t 4 (by omega) hst).mono (fun b hb=>zB (fun h=> ?_)))
   have htab:=hb (by simpa using h)
   refine ⟨h12,htab,fun x hx=> ?_⟩
   have hx4:=htab.pr (by decide) x hx
   obtain ⟨b',hb1,hb2⟩:=zRW x (hst x hx) hx4
   rw [htab.val x hx] at hb1
   exact hb2 (Option.some.inj hb1).symm
  ·refine zH (fun _=>zB ?_) (fun h=>zB ?_)
   ·exact fun h=>by cases h
   ·have h:s=false:=h
    refine ⟨rfl,?_⟩
    intro m t' hm ht'
    by_cases hmi:m=i
    ·subst hmi
     rw [ht] at ht'
     cases ht'
     exact hs' h
    ·exact hj m t' (by omega) ht'
 ·obtain ⟨m,hm,hme⟩:=List.getElem_of_mem ht
  exact hj m t hm (by rw [List.getElem?_eq_getElem hm,hme])
end Go.Ve





namespace Go.Ve
open Go
theorem zLF {v:Ty.El z6} {dv:List (List (Ty.El zA))} {rt:Ty.El zG} {i:Int} {e:Ty.El zO} {x:Ty.El zA} (h:x∈zGQ v dv rt i e):
  ∃q y t x0,v.1.1[Int.toNat e.1]? =some q∧q.2.2.1[Int.toNat e.2.1]? =some y∧dv[Int.toNat e.1]? =some t∧uX v q y e.1 e.2.1=true∧x0∈t∧zKd rt q y i x0=some x:=by
 unfold zGQ at h
 cases hq:v.1.1[Int.toNat e.1]? with
 |none=>rw [hq] at h;cases h
 |some q=>
  rw [hq] at h
  simp only at h
  cases hy:q.2.2.1[Int.toNat e.2.1]? with
  |none=>rw [hy] at h;cases h
  |some y=>
   cases ht:dv[Int.toNat e.1]? with
   |none=>rw [hy,ht] at h;cases h
   |some t=>
    rw [hy,ht] at h
    simp only at h
    cases hp:uX v q y e.1 e.2.1 with
    |false=>rw [hp] at h;cases h
    |true=>
     rw [hp] at h
     obtain ⟨x0,h1,h2⟩:=List.mem_filterMap.1 h
     exact ⟨q,y,t,x0,rfl,hy,rfl,hp,h1,h2⟩
theorem zLE {v:Ty.El z6} {dv:List (List (Ty.El zA))} {r:Int} {rt:Ty.El zG} {x:Ty.El zA} (h:x∈zBO v dv r rt):
  ∃ (i:Nat) (z:Ty.El qQ) (e:Ty.El zO),rt.2.2.1[i]? =some z∧uX v rt z r i=true∧e∈zMS v r i (fun e=>e.1 !=r||e.2.1 !=(i:Int))∧x∈zGQ v dv rt i e:=by
 unfold zBO at h
 obtain ⟨i,_,hi⟩:=List.mem_flatMap.1 h
 unfold zIU at hi
 cases hz:rt.2.2.1[i]? with
 |none=>rw [hz] at hi;cases hi
 |some z=>
  rw [hz] at hi
  simp only at hi
  cases hp:uX v rt z r i with
  |false=>rw [hp] at hi;cases hi
  |true=>
   rw [hp] at hi
   obtain ⟨e,h1,h2⟩:=List.mem_flatMap.1 hi
   exact ⟨i,z,e,hz,hp,h1,h2⟩
end Go.Ve

namespace Go.Ve
open Go
theorem zV8 {t:List (Ty.El zA)} {x:Ty.El zA} (hx:x∈t) (ha: ∀y,y∈t→y.1=x.1→y=x):0≤zBs (fun y=>zCd y.1 x.1) t∧t[(zBs (fun y=>zCd y.1 x.1) t).toNat]? =some x:=by
 have h0:0≤zBs (fun y:Ty.El zA=>zCd y.1 x.1) t:=zFd.2 (List.any_eq_true.2 ⟨x,hx,xN.2 rfl⟩)
 obtain ⟨y,hy,hp⟩:=zIl h0
 have:=ha y (List.mem_of_getElem? hy) (xN.1 hp)
 rw [this] at hy
 exact ⟨h0,hy⟩
end Go.Ve

namespace Go.Ve
open Go
set_option maxRecDepth 1000000
set_option maxHeartbeats 4000000
theorem tt {α:Type} {c:Bool} {x y:Option α} {Q:α→Prop} (hc:c=true) (h:Wp x Q):Wp (bif c then x else y) Q:=by rw [hc];exact h
theorem ff {α:Type} {c:Bool} {x y:Option α} {Q:α→Prop} (hc:c=false) (h:Wp y Q):Wp (bif c then x else y) Q:=by rw [hc];exact h
end Go.Ve



namespace Go.Ve
open Go
def zVb {α:Type} (f:List V→Option (α×List V)):List V→Option (List α)
 |[]=>some []
 |e::r=>match f e.cells with
  |some (x,[])=>match zVb f r with
   |some xs=>some (x::xs)
   |none=>none
  |_=>none
def Ty.unc:(t:Ty)→List V→Option (t.El×List V)
 | .pair a b,cs=>match a.unc cs with
  |some (x,r)=>match b.unc r with
   |some (y,r)=>some ((x,y),r)
   |none=>none
  |none=>none
 | .sl t,cs=>match cs with
  | .sl es::r=>match zVb t.unc es with
   |some xs=>some (xs,r)
   |none=>none
  |cs=>zGF t cs
 | .int k,cs=>zDC k cs
 | .bool,cs=>zB4 cs
 | .str,cs=>zDB cs
 | .unit,cs=>some ((),cs)
 | .rf,cs=>zGG cs
theorem zQo {α:Type} {f:List V→Option (α×List V)} : ∀ {es:List V} {xs:List α},zVb f es=some xs→es.length=xs.length∧ ∀ (i:Nat) (x:α),xs[i]? =some x→ ∃e,es[i]? =some e∧f e.cells=some (x,[])
 |[],xs,h=>by simp only [zVb,Option.some.injEq] at h;subst h;exact ⟨rfl,fun i x h=>by simp at h⟩
 |e::r,xs,h=>by
  simp only [zVb] at h
  split at h
  ·rename_i x hx
   split at h
   ·rename_i xs' hxs
    simp only [Option.some.injEq] at h
    subst h
    obtain ⟨h1,h2⟩:=zQo hxs
    refine ⟨by simp [h1],fun i y hy=> ?_⟩
    cases i with
    |zero=>simp only [List.getElem?_cons_zero,Option.some.injEq] at hy;subst hy;exact ⟨e,rfl,hx⟩
    |succ i=>exact h2 i y (by simpa using hy)
   ·cases h
  ·cases h
theorem zVy {t:Ty} {es:List V} {xs:List t.El} (hl:es.length=xs.length) (h: ∀ (i:Nat) (e:V) (x:t.El),es[i]? =some e→xs[i]? =some x→j5 e.cells (t.cells x)):WkV (.sl es) (.tl t xs):=by
 intro w F v hr
 refine .tl t xs v ?_
 cases hr with
 |slemp a cap=>
  have:xs=[]:=List.eq_nil_of_length_eq_zero hl.symm
  subst this
  exact .slemp a cap
 |sl b off cap k _ g hFb hcap hk hg hr=>
  have hel:es.length=(xs.map t.enc).length:=by simpa using hl
  rw [hel] at hg hcap ⊢
  refine .sl b off cap k _ g hFb hcap ?_ hg ?_
  ·intro e he
   simp only [List.mem_map] at he
   obtain ⟨x,hx,rfl⟩:=he
   obtain ⟨j,hj⟩:=List.getElem?_of_mem hx
   have hjl:j<es.length:=by rw [hl];exact (List.getElem?_eq_some_iff.1 hj).1
   have h1:=(h j es[j] x (by simp [hjl]) hj).len
   rw [qL, ←h1]
   exact hk _ (List.getElem_mem hjl)
  ·intro i j e d hi hj
   simp only [List.getElem?_map,Option.map_eq_some_iff] at hi
   obtain ⟨x,hx,rfl⟩:=hi
   rw [qL] at hj
   have hil:i<es.length:=by rw [hl];exact (List.getElem?_eq_some_iff.1 hx).1
   have h1:=h i es[i] x (by simp [hil]) hx
   have hjl:j< (es[i]).cells.length:=by rw [h1.len];exact (List.getElem?_eq_some_iff.1 hj).1
   exact h1.get j _ d (List.getElem?_eq_getElem hjl) hj w F _ (hr i j es[i] _ (by simp [hil]) (List.getElem?_eq_getElem hjl))
theorem zNc: ∀ (t:Ty) (cs:List V) (x:t.El) (r:List V),t.unc cs=some (x,r)→ ∃cs1,cs=cs1++r∧j5 cs1 (t.cells x):=by
 intro t
 induction t with
 |int k=>exact fun cs x r h=>jF (.int k) cs x r h
 |bool=>exact fun cs x r h=>jF .bool cs x r h
 |str=>exact fun cs x r h=>jF .str cs x r h
 |unit=>exact fun cs x r h=>jF .unit cs x r h
 |rf=>exact fun cs x r h=>jF .rf cs x r h
 |pair a b iha ihb=>
  intro cs x r h
  simp only [Ty.unc] at h
  split at h
  ·rename_i xa r1 h1
   split at h
   ·rename_i xb r2 h2
    simp only [Option.some.injEq,Prod.mk.injEq] at h
    obtain ⟨rfl,rfl⟩:=h
    obtain ⟨c1,rfl,k1⟩:=iha cs xa r1 h1
    obtain ⟨c2,rfl,k2⟩:=ihb r1 xb r2 h2
    exact ⟨c1++c2,by rw [List.append_assoc],k1.append k2⟩
   ·cases h
  ·cases h
 |sl t ih=>
  intro cs x r h
  simp only [Ty.unc] at h
  split at h
  ·rename_i es r'
   split at h
   ·rename_i xs hxs
    simp only [Option.some.injEq,Prod.mk.injEq] at h
    obtain ⟨rfl,rfl⟩:=h
    obtain ⟨h1,h2⟩:=zQo hxs
    refine ⟨[.sl es],rfl,zVy h1 ?_,trivial⟩
    intro i e y he hy
    obtain ⟨e',he',hf⟩:=h2 i y hy
    rw [he] at he'
    simp only [Option.some.injEq] at he'
    subst he'
    obtain ⟨c1,hc,hw⟩:=ih e.cells y [] hf
    rw [List.append_nil] at hc
    rw [hc];exact hw
   ·cases h
  ·exact jF (.sl t) _ x r h
def Ty.decW (t:Ty) (d:V):Option t.El:=
 match t with
 | .pair a b=>match d with
  | .agg cs=>match (Ty.pair a b).unc cs with
   |some (x,[])=>some x
   |_=>none
  |_=>none
 | .unit=>none
 | .sl t=>match (Ty.sl t).unc [d] with
  |some (x,[])=>some x
  |_=>none
 | .int k=>(Ty.int k).dec d
 | .bool=>Ty.bool.dec d
 | .str=>Ty.str.dec d
 | .rf=>Ty.rf.dec d
theorem zRS {t:Ty} {d:V} {x:t.El} (h:t.decW d=some x):WkV d (t.enc x):=by
 cases t with
 |pair a b=>
  simp only [Ty.decW] at h
  split at h
  ·rename_i cs
   split at h
   ·rename_i x' hx
    simp only [Option.some.injEq] at h
    subst h
    obtain ⟨c1,h1,h2⟩:=zNc (.pair a b) cs x' [] hx
    simp only [List.append_nil] at h1
    subst h1
    exact WkV.agg h2
   ·cases h
  ·cases h
 |unit=>simp [Ty.decW] at h
 |sl t=>
  simp only [Ty.decW] at h
  split at h
  ·rename_i x' hx
   simp only [Option.some.injEq] at h
   subst h
   obtain ⟨c1,h1,h2⟩:=zNc (.sl t) [d] x' [] hx
   rw [List.append_nil] at h1
   subst h1
   exact h2.1
  ·cases h
 |int k=>exact vE h
 |bool=>exact vE h
 |str=>exact vE h
 |rf=>exact vE h
def zEs:(ts:List Ty)→List V→Option (ElS ts)
 |[],[]=>some ()
 |t::ts,d::ds=>match t.decW d with
  |some x=>match zEs ts ds with
   |some xs=>some (x,xs)
   |none=>none
  |none=>none
 |_,_=>none
theorem zJW: ∀ (ts:List Ty) (ds:List V) (x:ElS ts),zEs ts ds=some x→j5 ds (vA ts x)
 |[],[],_,_=>trivial
 |[],_::_,_,h=>by simp [zEs] at h
 |_::_,[],_,h=>by simp [zEs] at h
 |t::ts,d::ds,x,h=>by
  simp only [zEs] at h
  split at h
  ·rename_i y hy
   split at h
   ·rename_i ys hys
    simp only [Option.some.injEq] at h
    subst h
    exact ⟨zRS hy,zJW ts ds ys hys⟩
   ·cases h
  ·cases h
theorem zND {Γ:Sig} {P:Program} {G:Nat→Option (List V)} {f:FuncId} {ts:List Ty} {R:RTy} {g:ElS ts→Option R.El} (h:j7 Γ P G f (qG (jV ts R g))):j7 Γ P G f (qG (wF (zEs ts) R g)):=by
 intro w F O s args ds s' r hsig hG hF hlen hrd hspec
 simp only [qG,wF] at hspec
 cases hx:zEs ts ds with
 |none=>rw [hx] at hspec;cases hspec
 |some x=>
  rw [hx] at hspec
  have hwk:=zJW ts ds x hx
  refine h w F O s args (vA ts x) s' r hsig hG hF (hlen.trans hwk.len) ?_ ?_
  ·intro i u d hu hd
   have hlt:i<ds.length:=by rw [hwk.len];exact (List.getElem?_eq_some_iff.1 hd).1
   exact hwk.get i ds[i] d (by simp [hlt]) hd w F u (hrd i u ds[i] hu (by simp [hlt]))
  ·simp only [qG,jV,wF,zCn];exact hspec
end Go.Ve

namespace Go.Ve
open Go
def zPU {α:Type} (f:α→α→Bool):List α→List α→Bool
 |[],[]=>true
 |x::xs,y::ys=>f x y&&zPU f xs ys
 |_,_=>false
theorem zE9 {α:Type} {f:α→α→Bool} (hf: ∀x y,f x y=true→x=y): ∀ {xs ys:List α},zPU f xs ys=true→xs=ys
 |[],[],_=>rfl
 |x::xs,y::ys,h=>by
  simp only [zPU,Bool.and_eq_true] at h
  rw [hf x y h.1,zE9 hf h.2]
 |[],_::_,h=>by cases h
 |_::_,[],h=>by cases h
def Ty.eqb:(t:Ty)→t.El→t.El→Bool
 | .int _,a,b=>decide (a=b)
 | .bool,a,b=>match a,b with
  |true,true=>true
  |false,false=>true
  |_,_=>false
 | .str,a,b=>zPU (fun (x y:UInt8)=>Nat.beq x.toNat y.toNat) a.data.toList b.data.toList
 | .unit,_,_=>true
 | .pair s t,a,b=>s.eqb a.1 b.1&&t.eqb a.2 b.2
 | .sl t,a,b=>zPU t.eqb a b
 | .rf,_,_=>false
theorem zTz: ∀ (t:Ty) (a b:t.El),t.eqb a b=true→a=b:=by
 intro t
 induction t with
 |int k=>exact fun a b h=>of_decide_eq_true h
 |bool=>
  intro a b h
  cases a<;>cases b<;>first|rfl|cases h
 |str=>
  intro a b h
  have h:=zE9 (fun (x y:UInt8) h=>UInt8.toNat_inj.1 (Nat.eq_of_beq_eq_true h)) h
  cases a;cases b
  simp only at h
  rw [Array.toList_inj.1 h]
 |unit=>exact fun _ _ _=>rfl
 |pair s t ihs iht=>
  intro a b h
  simp only [Ty.eqb,Bool.and_eq_true] at h
  exact Prod.ext (ihs _ _ h.1) (iht _ _ h.2)
 |sl t ih=>exact fun a b h=>zE9 ih h
 |rf=>exact fun _ _ h=>by cases h
def eqS:(ts:List Ty)→ElS ts→ElS ts→Bool
 |[],_,_=>true
 |t::ts,a,b=>t.eqb a.1 b.1&&eqS ts a.2 b.2
theorem zNN: ∀ (ts:List Ty) (a b:ElS ts),eqS ts a b=true→a=b
 |[],_,_,_=>rfl
 |t::ts,a,b,h=>by
  simp only [eqS,Bool.and_eq_true] at h
  exact Prod.ext (zTz t _ _ h.1) (zNN ts _ _ h.2)
def atP (ts:List Ty) {α:Type} (x0:ElS ts) (y0:α) (f:ElS ts→Option α):ElS ts→Option α:=fun x=>bif eqS ts x x0 then some y0 else f x
def noF {X α:Type} :X→Option α:=fun _=>none
theorem zSE {Γ:Sig} {P:Program} {G:Nat→Option (List V)} {f:FuncId} {ts:List Ty} {R:RTy} {g h:ElS ts→Option R.El} (hg:j7 Γ P G f (qG (jV ts R g))) (hh: ∀x y,h x=some y→g x=some y):
  j7 Γ P G f (qG (wF (zEs ts) R h)):=by
 refine zP3 (zND hg) ?_
 intro s ds r hr
 simp only [qG,wF] at hr ⊢
 cases hx:zEs ts ds with
 |none=>rw [hx] at hr;cases hr
 |some x=>
  rw [hx] at hr
  simp only [Option.map_eq_some_iff] at hr ⊢
  obtain ⟨y,hy,e⟩:=hr
  exact ⟨y,hh x y hy,e⟩
theorem zQF {ts:List Ty} {α:Type} {x0:ElS ts} {y0:α} {f g:ElS ts→Option α} (h0:g x0=some y0) (hf: ∀x y,f x=some y→g x=some y): ∀x y,atP ts x0 y0 f x=some y→g x=some y:=by
 intro x y h
 unfold atP at h
 cases he:eqS ts x x0 with
 |false=>rw [he] at h;exact hf x y h
 |true=>
  rw [he] at h
  rw [zNN ts x x0 he,h0]
  exact h
theorem zSN {X α:Type} {g:X→Option α} : ∀x y,noF (X:=X) (α:=α) x=some y→g x=some y:=fun _ _ h=>by cases h
end Go.Ve

namespace Go.Ve
open Go
def zJZ (t:Ty) (ds:List V):Option (t.El×List t.El):=
 match zCu [.sl t] ds with
 |some (y::r,_)=>some (y,r)
 |_=>none
theorem zJY {t:Ty} {ds:List V} {q:t.El×List t.El} (h:zJZ t ds=some q):j5 ds [.tl t (q.1::q.2)]:=by
 unfold zJZ at h
 split at h
 ·rename_i y r u hd
  simp only [Option.some.injEq] at h
  subst h
  exact w6 [.sl t] ds (y::r,u) hd
 ·cases h
open Classical in
noncomputable def zEt (v:Value) (ds:List V):Option Unit:=if ds=[.val v] then some () else none
theorem zCO {v:Value} {ds:List V} {q:Unit} (h:zEt v ds=some q):j5 ds [.val v]:=by
 unfold zEt at h
 split at h
 ·rename_i hd
  subst hd
  exact ⟨.refl _,trivial⟩
 ·cases h
theorem zPF {w:World} {F:Blk→Prop} {v:Value} {t:Ty} (h:Rd w F v (.tl t [])): ∃a c,v= .slice a 0 c:=by
 have h2:=Rd.untl h
 simp only [List.map_nil] at h2
 generalize hd:V.sl []=d at h2
 cases h2 with
 |slemp a c=>exact ⟨a,c,rfl⟩
 |sl b off cap k es g hF hcap hk hg hr=>
  simp only [V.sl.injEq] at hd
  subst hd
  exact ⟨_,_,rfl⟩
 |_=>cases hd
theorem zRA {P:Program} {G:Nat→Option (List V)} {f:FuncId} {t:Ty} {bytes:Nat}
  (h1:j7 jI P G f (qG (wF (zJZ t) (.p (.sl t)) (fun q=>Option.bind (app bytes [] (q.1::q.2)) fun z=>some z))))
  (h2: ∀c,j7 jI P G f (qG (wF (zEt (.slice none 0 c)) (.p (.sl t)) (fun _=>some []))))
  (h3: ∀a c,j7 jI P G f (qG (wF (zEt (.slice (some a) 0 c)) (.p (.sl t)) (fun _=>some [])))):
  j7 jI P G f (qG (jV [.sl t] (.p (.sl t)) (fun x=>Option.bind (app bytes [] x.1) fun z=>some z))):=by
 intro w F O s args ds s' r hsig hG hF hlen hrd hspec
 simp only [qG,jV,wF] at hspec
 cases hx:zCu [.sl t] ds with
 |none=>rw [hx] at hspec;cases hspec
 |some x=>
  rw [hx] at hspec
  have hwk:=w6 [.sl t] ds x hx
  have hdl:ds.length=1:=hwk.len
  have hal:args.size=1:=hlen.trans hdl
  obtain ⟨xs,u⟩:=x
  have hv:Rd w F args[0] (.tl t xs):=hwk.get 0 (ds[0]'(by omega)) (.tl t xs) (by simp) rfl w F _ (hrd 0 _ _ (by simp) (by simp))
  cases xs with
  |cons y r0=>
   refine h1 w F O s args [.tl t (y::r0)] s' r hsig hG hF (by simpa using hal) ?_ ?_
   ·intro i v d hi hd
    match i with
    |0=>
     simp at hd
     subst hd
     have:v=args[0]:=by
      rw [Array.getElem?_eq_getElem (by omega)] at hi
      exact (Option.some.inj hi).symm
     rw [this];exact hv
    |i+1=>simp at hd
   ·have hde:zJZ t [.tl t (y::r0)]=some (y,r0):=by
     unfold zJZ
     rw [show zCu [.sl t] [.tl t (y::r0)]=some (y::r0,()) from zCn [.sl t] (y::r0,())]
    simp only [qG,wF,hde]
    exact hspec
  |nil=>
   obtain ⟨a,c,ha⟩:=zPF hv
   have hres:some (s',r)=some (s,(RTy.p (.sl t)).res []):=by
    have:(app bytes ([]:List t.El) [])=some []∨app bytes ([]:List t.El) []=none:=by
     unfold app;split
     ·exact .inl rfl
     ·exact .inr rfl
    rcases this with h|h
    ·simp only [h,Option.bind_some,Option.map_some] at hspec
     exact hspec.symm
    ·simp only [h,Option.bind_none,Option.map_none] at hspec
     cases hspec
   simp only [Option.some.injEq,Prod.mk.injEq] at hres
   obtain ⟨rfl,rfl⟩:=hres
   have go: ∀v,args[0]=v→j7 jI P G f (qG (wF (zEt v) (.p (.sl t)) (fun _=>some [])))→Calls P f args w fun e w'=> ∃ (v:Value) (F':Blk→Prop) (O':Nat→Prop),e= .returned v∧jI.R s' F' O' w'∧zBX O w w'∧
     (∀b,O' b→O b∨w.heap.size≤b)∧(∀b,F b→F' b)∧(∀b:Nat,F' b→(F b∨w.heap.size≤b)∧b<w'.heap.size∧ ¬O' b)∧uO w.heap.size w' F' O' v ((RTy.p (.sl t)).res []):=by
    intro v hv0 h
    refine h w F O s' args [.val v] s' _ hsig hG hF (by simpa using hal) ?_ ?_
    ·intro i u d hi hd
     match i with
     |0=>
      simp at hd
      subst hd
      have:u=args[0]:=by
       rw [Array.getElem?_eq_getElem (by omega)] at hi
       exact (Option.some.inj hi).symm
      rw [this,hv0];exact .val _
     |i+1=>simp at hd
    ·have hde:zEt v [.val v]=some ():=by unfold zEt;rw [if_pos rfl]
     simp only [qG,wF,hde]
     rfl
   cases a with
   |none=>exact go _ ha (h2 c)
   |some a=>exact go _ ha (h3 a c)
theorem zP5 {P:Program} {G:Nat→Option (List V)} {f:FuncId} {t:Ty} {bytes:Nat}
  (h1:j7 jI P G f (qG (wF (zJZ t) (.o t) (fun q=>Option.bind (app bytes [] (q.1::q.2)) fun z=>some z))))
  (h2: ∀c,j7 jI P G f (qG (wF (zEt (.slice none 0 c)) (.o t) (fun _=>some []))))
  (h3: ∀a c,j7 jI P G f (qG (wF (zEt (.slice (some a) 0 c)) (.o t) (fun _=>some [])))):
  j7 jI P G f (qG (jV [.sl t] (.o t) (fun x=>Option.bind (app bytes [] x.1) fun z=>some z))):=by
 intro w F O s args ds s' r hsig hG hF hlen hrd hspec
 simp only [qG,jV,wF] at hspec
 cases hx:zCu [.sl t] ds with
 |none=>rw [hx] at hspec;cases hspec
 |some x=>
  rw [hx] at hspec
  have hwk:=w6 [.sl t] ds x hx
  have hdl:ds.length=1:=hwk.len
  have hal:args.size=1:=hlen.trans hdl
  obtain ⟨xs,u⟩:=x
  have hv:Rd w F args[0] (.tl t xs):=hwk.get 0 (ds[0]'(by omega)) (.tl t xs) (by simp) rfl w F _ (hrd 0 _ _ (by simp) (by simp))
  cases xs with
  |cons y r0=>
   refine h1 w F O s args [.tl t (y::r0)] s' r hsig hG hF (by simpa using hal) ?_ ?_
   ·intro i v d hi hd
    match i with
    |0=>
     simp at hd
     subst hd
     have:v=args[0]:=by
      rw [Array.getElem?_eq_getElem (by omega)] at hi
      exact (Option.some.inj hi).symm
     rw [this];exact hv
    |i+1=>simp at hd
   ·have hde:zJZ t [.tl t (y::r0)]=some (y,r0):=by
     unfold zJZ
     rw [show zCu [.sl t] [.tl t (y::r0)]=some (y::r0,()) from zCn [.sl t] (y::r0,())]
    simp only [qG,wF,hde]
    exact hspec
  |nil=>
   obtain ⟨a,c,ha⟩:=zPF hv
   have hres:some (s',r)=some (s,(RTy.o t).res []):=by
    have:(app bytes ([]:List t.El) [])=some []∨app bytes ([]:List t.El) []=none:=by
     unfold app;split
     ·exact .inl rfl
     ·exact .inr rfl
    rcases this with h|h
    ·simp only [h,Option.bind_some,Option.map_some] at hspec
     exact hspec.symm
    ·simp only [h,Option.bind_none,Option.map_none] at hspec
     cases hspec
   simp only [Option.some.injEq,Prod.mk.injEq] at hres
   obtain ⟨rfl,rfl⟩:=hres
   have go: ∀v,args[0]=v→j7 jI P G f (qG (wF (zEt v) (.o t) (fun _=>some [])))→Calls P f args w fun e w'=> ∃ (v:Value) (F':Blk→Prop) (O':Nat→Prop),e= .returned v∧jI.R s' F' O' w'∧zBX O w w'∧
     (∀b,O' b→O b∨w.heap.size≤b)∧(∀b,F b→F' b)∧(∀b:Nat,F' b→(F b∨w.heap.size≤b)∧b<w'.heap.size∧ ¬O' b)∧uO w.heap.size w' F' O' v ((RTy.o t).res []):=by
    intro v hv0 h
    refine h w F O s' args [.val v] s' _ hsig hG hF (by simpa using hal) ?_ ?_
    ·intro i u d hi hd
     match i with
     |0=>
      simp at hd
      subst hd
      have:u=args[0]:=by
       rw [Array.getElem?_eq_getElem (by omega)] at hi
       exact (Option.some.inj hi).symm
      rw [this,hv0];exact .val _
     |i+1=>simp at hd
    ·have hde:zEt v [.val v]=some ():=by unfold zEt;rw [if_pos rfl]
     simp only [qG,wF,hde]
     rfl
   cases a with
   |none=>exact go _ ha (h2 c)
   |some a=>exact go _ ha (h3 a c)
theorem zWi {P:Program} {G:Nat→Option (List V)} {f:FuncId} {t:Ty} {ds:List V} (hnb:zCc ds=none) (h: ∀a:Option Addr, ∃S,j7 jI P G f S∧S () (.val (.slice a 0 0)::ds)=some ((), .p (.tup []))):
  zAZ jI P G f () t [] ds () [] (.tup []):=by
 refine zAZ.of hnb ?_
 intro w F O b v0 args hR hG hF hown _ hsz ha0 hrest
 have hv: ∃a,v0= .slice a 0 0:=by
  rcases hown with ⟨_,h⟩|⟨h,_⟩
  ·exact h
  ·exact absurd rfl h
 obtain ⟨a,rfl⟩:=hv
 obtain ⟨S,hS,hs⟩:=h a
 have hcall:=hS w F O () args (.val (.slice a 0 0)::ds) () (.p (.tup [])) hR hG hF (by simpa using hsz) (by
  intro i v d hi hd
  match i with
  |0=>
   simp at hd
   subst hd
   rw [ha0] at hi
   cases hi
   exact .val _
  |i+1=>exact hrest i v d hi (by simpa using hd)) hs
 refine hcall.mono ?_
 rintro e w' ⟨v,F',O',rfl,h1,h2,h3,h4,h5,h6⟩
 exact ⟨v,F',O',rfl,h1,⟨h2.os,h2.tape,h2.output,h2.size,fun c hc ho=>h2.block c hc (fun hh=>ho (.inl hh)),h2.drawn⟩,h3,h4,h5,zEf.of (.inl ⟨rfl,a,rfl⟩) h6⟩
end Go.Ve

/-
  Plain laws, part 1: what partial values come to.
  Plain laws, part 2: loops over lists.
  Plain laws, part 3: loops over lists within loops.
  Plain laws: sorting by insertion.
  Plain laws: prefixes in order; domains in order.
  Plain laws: the checks of a network always answer.
  Plain laws: the topology of a network is built, and what it is made of.
  Plain laws: the topology of a network is built: the walk.
  Plain laws: views.
  Plain laws: the checks of routes and tables always answer.
  Plain laws: equal routes; static routes that are active.
  Plain laws: interfaces that are up.
  Plain laws: masks, networks, and what prefixes contain.
  Plain laws: what the checks of a network say of its interfaces and static routes.
-/
import Derived.Test.YtcnlcmbchljpgaaGreatPo9
import Derived.Test.YtcnlcmbchljpgaaGreatPo10
set_option linter.unusedVariables false
namespace Go.Ve
open Go
def Wp {α:Type} (m:Option α) (Q:α→Prop):Prop:= ∃r,m=some r∧Q r
section
variable {α β ρ σ:Type}
theorem Wp.mono {m:Option α} {Q Q':α→Prop} (h:Wp m Q) (hq: ∀r,Q r→Q' r):Wp m Q':=by
 obtain ⟨r,h1,h2⟩:=h;exact ⟨r,h1,hq r h2⟩
theorem zA {x:α} {Q:α→Prop} (h:Q x):Wp (some x) Q:=⟨x,rfl,h⟩
theorem zC {m:Option α} {f:α→Option β} {Q:β→Prop} (h:Wp m (fun y=>Wp (f y) Q)):Wp (Option.bind m f) Q:=by
 obtain ⟨y,rfl,h⟩:=h;exact h
theorem zAa {m:Option α} {f:α→Option β} {Q:β→Prop} (h:Wp m (fun _=>True)) (k: ∀y,m=some y→Wp (f y) Q):Wp (Option.bind m f) Q:=by
 obtain ⟨y,rfl,_⟩:=h;exact k y rfl
theorem zD {c:Bool} {x y:Option α} {Q:α→Prop} (h1:c=true→Wp x Q) (h2:c=false→Wp y Q):Wp (bif c then x else y) Q:=by
 cases c
 ·exact h2 rfl
 ·exact h1 rfl
theorem zAM {m:Option α} {f:α→β} {Q:β→Prop} (h:Wp m (fun y=>Q (f y))):Wp (Option.map f m) Q:=by
 obtain ⟨y,rfl,h⟩:=h;exact ⟨_,rfl,h⟩
def vJ (P:σ→Prop) (Q:ρ→Prop):σ ⊕ ρ→Prop
 | .inl s=>P s
 | .inr r=>Q r
theorem e2l {P:σ→Prop} {Q:ρ→Prop} {s:σ} (h:P s):vJ P Q (.inl s):=h
theorem e2r {P:σ→Prop} {Q:ρ→Prop} {r:ρ} (h:Q r):vJ P Q (.inr r):=h
theorem qE {m:Option (σ ⊕ ρ)} {K:σ→Option ρ} {Q:ρ→Prop} (h:Wp m (vJ (fun s=>Wp (K s) Q) Q)):Wp (q8 m K) Q:=by
 obtain ⟨o,rfl,h⟩:=h
 cases o with
 |inl s=>exact h
 |inr r=>exact ⟨r,rfl,h⟩
theorem j7 {f:σ→Option (σ ⊕ ρ)} {Q:ρ→Prop} (J:σ→Prop) (m:σ→Nat) {s0:σ} (h0:J s0)
  (step: ∀s,J s→Wp (f s) (vJ (fun s'=>J s'∧m s'<m s) Q)):Wp (zN f s0) Q:=by
 refine zV9 J m Q ?_ h0
 intro s hs
 obtain ⟨o,h1,h2⟩:=step s hs
 refine ⟨o,h1,?_⟩
 cases o with
 |inl s'=>exact h2
 |inr r=>exact h2
theorem wU {n s0:Int} {body els:Int→Option (Int ⊕ ρ)} {Q:ρ→Prop}
  (step: ∀s,s0≤s→s<n→Wp (body s) (vJ (fun s'=>s'=s+1) Q))
  (fin: ∀s,s0≤s→n≤s→Wp (els s) (vJ (fun _=>False) Q)):Wp (zN (fun s=>bif decide (s<n) then body s else els s) s0) Q:=by
 refine j7 (fun s=>s0≤s) (fun s=>(n-s).toNat) (Int.le_refl _) ?_
 intro s hs
 refine zD ?_ ?_
 ·intro hc
  have hc:s<n:=by simpa using hc
  refine (step s hs hc).mono ?_
  intro o ho
  cases o with
  |inl s'=>have:s'=s+1:=ho;subst this;exact ⟨by omega,by omega⟩
  |inr r=>exact ho
 ·intro hc
  have hc:n≤s:=by simpa using hc
  refine (fin s hs hc).mono ?_
  intro o ho
  cases o with
  |inl s'=>exact ho.elim
  |inr r=>exact ho
theorem zYR {γ:Type} {n s0:Int} {g0:γ} {body els:Int×γ→Option ((Int×γ) ⊕ ρ)} {Q:ρ→Prop} (J:Int→γ→Prop) (h0:J s0 g0)
  (step: ∀s g,s0≤s→s<n→J s g→Wp (body (s,g)) (vJ (fun o=>o.1=s+1∧J (s+1) o.2) Q))
  (fin: ∀s g,s0≤s→n≤s→J s g→Wp (els (s,g)) (vJ (fun _=>False) Q)):Wp (zN (fun o=>bif decide (o.1<n) then body o else els o) (s0,g0)) Q:=by
 refine j7 (fun o=>s0≤o.1∧J o.1 o.2) (fun o=>(n-o.1).toNat) ⟨Int.le_refl _,h0⟩ ?_
 rintro ⟨s,g⟩ ⟨hs,hj⟩
 refine zD ?_ ?_
 ·intro hc
  have hc:s<n:=by simpa using hc
  refine (step s g hs hc hj).mono ?_
  intro o ho
  cases o with
  |inl s'=>obtain ⟨s1,g1⟩:=s';obtain ⟨h1,h2⟩:=ho;simp only at h1 h2;subst h1;exact ⟨⟨by omega,h2⟩,by simp only;omega⟩
  |inr r=>exact ho
 ·intro hc
  have hc:n≤s:=by simpa using hc
  refine (fin s g hs hc hj).mono ?_
  intro o ho
  cases o with
  |inl s'=>exact ho.elim
  |inr r=>exact ho
theorem wO {xs:List α} {i:Int} {Q:α→Prop} (h0:0≤i) (h1:i<xs.length) (h: ∀y,y∈xs→xs[i.toNat]? =some y→Q y):Wp (idx xs i) Q:=by
 unfold idx
 rw [if_pos h0]
 have hl:i.toNat<xs.length:=by omega
 exact ⟨xs[i.toNat],by simp [hl],h _ (List.getElem_mem hl) (by simp [hl])⟩
theorem xR {s:ByteArray} {i:Int} {Q:Int→Prop} (h0:0≤i) (h1:i<s.size) (h: ∀y,0≤y→y<256→Q y):Wp (zLU s i) Q:=by
 unfold zLU
 rw [if_pos h0]
 have hl:i.toNat<s.size:=by omega
 refine ⟨(s[i.toNat].toNat:Int),by simp [hl],h _ (by omega) ?_⟩
 have:=s[i.toNat].toNat_lt
 omega
theorem vK {bytes:Nat} {xs ys:List α} {Q:List α→Prop} (h0:(2*(xs.length+ys.length)+1024)*bytes≤140737488355328) (h:Q (xs++ys)):Wp (app bytes xs ys) Q:=by
 unfold app
 rw [if_pos h0]
 exact ⟨_,rfl,h⟩
end
theorem zG {x:Int} (h0: -9223372036854775808≤x) (h1:x<9223372036854775808):IntKind.wrap .i64 x=x:=by
 have e1:((2:Int)^IntKind.bits .i64)=18446744073709551616:=by decide
 have e2:((2:Int)^(IntKind.bits .i64-1))=9223372036854775808:=by decide
 simp only [IntKind.wrap,IntKind.signed,Bool.true_and,decide_eq_true_eq,e1,e2]
 split<;>omega
theorem zJA {x:Int} (h0:0≤x) (h1:x<18446744073709551616):IntKind.wrap .u64 x=x:=by
 have e1:((2:Int)^IntKind.bits .u64)=18446744073709551616:=by decide
 simp only [IntKind.wrap,IntKind.signed,Bool.false_and,Bool.false_eq_true,if_false,e1]
 omega
theorem zI {α:Type} {p:Prop} [Decidable p] {x y:Option α} {Q:α→Prop} (h1:p→Wp x Q) (h2: ¬p→Wp y Q):Wp (bif decide p then x else y) Q:=by
 by_cases h:p
 ·simp only [h,decide_true,cond_true];exact h1 h
 ·simp only [h,decide_false,cond_false];exact h2 h
theorem j8 {α:Type} {p:Prop} [Decidable p] {x y:Option α} {Q:α→Prop} (h1: ¬p→Wp x Q) (h2:p→Wp y Q):Wp (bif !decide p then x else y) Q:=by
 by_cases h:p
 ·simp only [h,decide_true,Bool.not_true,cond_false];exact h2 h
 ·simp only [h,decide_false,Bool.not_false,cond_true];exact h1 h
end Go.Ve

namespace Go.Ve
open Go
theorem zJ {α:Type} {xs:List α} {i:Nat} {x:α} (h:xs[i]? =some x):idx xs (i:Int)=some x:=by
 rw [idx,if_pos (by omega),Int.toNat_natCast];exact h
theorem zZu {α:Type} {xs:List α} {i:Int} {x:α} (h0:0≤i) (h:xs[i.toNat]? =some x):idx xs i=some x:=by
 rw [idx,if_pos h0];exact h
theorem z7 {α:Type} {m:Option α} {x:α} {Q:α→Prop} (h:m=some x) (hq:Q x):Wp m Q:=⟨x,h,hq⟩
section
variable {α γ ρ:Type}
theorem uT {xs:List α} {g0:γ} {body:Int×γ→Option γ} {Q:γ→Prop} (hl:xs.length<4611686018427387904) (J:Nat→γ→Prop) (h0:J 0 g0)
  (step: ∀i x g,xs[i]? =some x→J i g→Wp (body ((i:Int),g)) (J (i+1))) (fin: ∀g,J xs.length g→Q g):
  Wp (zN (fun s:Int×γ=>bif decide (s.1< (xs.length:Int)) then Option.bind (body s) (fun g=>some (Sum.inl (IntKind.wrap IntKind.i64 (s.1+(1:Int)),g))) else some (Sum.inr s.2)) ((0:Int),g0)) Q:=by
 refine j7 (fun (s:Int×γ)=> ∃i:Nat,s.1=(i:Int)∧i≤xs.length∧J i s.2) (fun (s:Int×γ)=>((xs.length:Int) -s.1).toNat) ⟨(0:Nat),rfl,Nat.zero_le _,h0⟩ ?_
 rintro ⟨s,g⟩ ⟨i,hi,hle,hj⟩
 simp only at hi
 subst hi
 refine zI ?_ ?_
 ·intro hc
  have hlt:i<xs.length:=by simp only at hc;omega
  refine zC ((step i xs[i] g (by simp [hlt]) hj).mono ?_)
  intro g' hg'
  refine zA ?_
  refine e2l ⟨⟨i+1,?_,hlt,hg'⟩,?_⟩
  ·simp only;rw [zG (by omega) (by omega)];omega
  ·simp only;rw [zG (by omega) (by omega)];omega
 ·intro hc
  have:i=xs.length:=by simp only at hc;omega
  subst this
  exact zA (e2r (fin _ hj))
theorem zRy {n:Nat} {c:Int×γ→Int} {g0:γ} {body:Int×γ→Option γ} {Q:γ→Prop} (hl:n<4611686018427387904) (J:Nat→γ→Prop) (h0:J 0 g0) (hc: ∀i g,J i g→c ((i:Int),g)=n)
  (step: ∀i g,i<n→J i g→Wp (body ((i:Int),g)) (J (i+1))) (fin: ∀g,J n g→Q g):
  Wp (zN (fun s:Int×γ=>bif decide (s.1<c s) then Option.bind (body s) (fun g=>some (Sum.inl (IntKind.wrap IntKind.i64 (s.1+(1:Int)),g))) else some (Sum.inr s.2)) ((0:Int),g0)) Q:=by
 refine j7 (fun (s:Int×γ)=> ∃i:Nat,s.1=(i:Int)∧i≤n∧J i s.2) (fun (s:Int×γ)=>((n:Int) -s.1).toNat) ⟨(0:Nat),rfl,Nat.zero_le _,h0⟩ ?_
 rintro ⟨s,g⟩ ⟨i,hi,hle,hj⟩
 simp only at hi
 subst hi
 have hci:=hc i g hj
 refine zI ?_ ?_
 ·intro hc'
  simp only [hci] at hc'
  have hlt:i<n:=by omega
  refine zC ((step i g hlt hj).mono ?_)
  intro g' hg'
  refine zA ?_
  refine e2l ⟨⟨i+1,?_,hlt,hg'⟩,?_⟩
  ·simp only;rw [zG (by omega) (by omega)];omega
  ·simp only;rw [zG (by omega) (by omega)];omega
 ·intro hc'
  simp only [hci] at hc'
  have:i=n:=by omega
  subst this
  exact zA (e2r (fin _ hj))
theorem zA5 {xs:List α} {body:Int→Option (Int ⊕ (Unit ⊕ ρ))} {K:Unit→Option ρ} {Q:ρ→Prop} (hl:xs.length<4611686018427387904) (J:Nat→Prop) (h0:J 0)
  (step: ∀i x,xs[i]? =some x→J i→Wp (body (i:Int)) (vJ (fun s'=>s'=IntKind.wrap IntKind.i64 ((i:Int)+1)∧J (i+1)) (vJ (fun _=>False) Q))) (fin:J xs.length→Wp (K ()) Q):
  Wp (q8 (zN (fun s:Int=>bif decide (s< (xs.length:Int)) then body s else some (Sum.inr (Sum.inl ()))) (0:Int)) K) Q:=by
 refine qE ?_
 refine j7 (fun (s:Int)=> ∃i:Nat,s=(i:Int)∧i≤xs.length∧J i) (fun (s:Int)=>((xs.length:Int) -s).toNat) ⟨(0:Nat),rfl,Nat.zero_le _,h0⟩ ?_
 rintro s ⟨i,hi,hle,hj⟩
 subst hi
 refine zI ?_ ?_
 ·intro hc
  have hlt:i<xs.length:=by omega
  refine (step i xs[i] (by simp [hlt]) hj).mono ?_
  intro o ho
  cases o with
  |inl s'=>
   obtain ⟨rfl,h2⟩:=ho
   rw [zG (by omega) (by omega)]
   exact ⟨⟨i+1,by omega,hlt,h2⟩,by omega⟩
  |inr o=>
   cases o with
   |inl _=>exact ho.elim
   |inr r=>exact ho
 ·intro hc
  have:i=xs.length:=by omega
  subst this
  exact zA (e2r (fin hj))
end
def xE {α:Type} (p:α→Bool) (xs:List α):Int:=
 match xs.findIdx? p with
 |some i=>i
 |none=> -1
theorem zLv {α:Type} {p:α→Bool} {xs:List α} (h: ∀x,x∈xs→p x=false):xE p xs= -1:=by
 have:xs.findIdx? p=none:=by rw [List.findIdx?_eq_none_iff];exact h
 simp [xE,this]
theorem zZB {α:Type} {p:α→Bool} {xs:List α} {i:Nat} {x:α} (h:xs[i]? =some x) (hp:p x=true) (hn: ∀j y,j<i→xs[j]? =some y→p y=false):xE p xs=i:=by
 have hlt:=(List.getElem?_eq_some_iff.1 h).1
 have hx:=(List.getElem?_eq_some_iff.1 h).2
 have:xs.findIdx? p=some i:=by
  rw [List.findIdx?_eq_some_iff_getElem]
  refine ⟨hlt,by rw [hx];exact hp,?_⟩
  intro j hj
  have:=hn j xs[j] hj (by simp)
  simp [this]
 simp [xE,this]
theorem zCr {α:Type} (p:α→Bool) (xs:List α):(xE p xs= -1∧ ∀x,x∈xs→p x=false)∨ ∃i x,xE p xs=(i:Nat)∧xs[i]? =some x∧p x=true∧ ∀j y,j<i→xs[j]? =some y→p y=false:=by
 cases h:xs.findIdx? p with
 |none=>left;refine ⟨by simp [xE,h],?_⟩;rw [List.findIdx?_eq_none_iff] at h;exact h
 |some i=>
  right
  rw [List.findIdx?_eq_some_iff_getElem] at h
  obtain ⟨h1,h2,h3⟩:=h
  have h':xs.findIdx? p=some i:=by rw [List.findIdx?_eq_some_iff_getElem];exact ⟨h1,h2,h3⟩
  refine ⟨i,xs[i],by simp [xE,h'],by simp [h1],h2,?_⟩
  intro j y hj hy
  obtain ⟨hjl,rfl⟩:=List.getElem?_eq_some_iff.1 hy
  have:=h3 j hj
  simpa using this
theorem zAs {α:Type} {xs:List α} {p:α→Bool} {body:Int→Option (Int ⊕ (Unit ⊕ Int))} {Q:Int→Prop} (hl:xs.length<4611686018427387904)
  (step: ∀ (i:Nat) x,xs[i]? =some x→body (i:Int)=some (bif p x then Sum.inr (Sum.inr (i:Int)) else Sum.inl (IntKind.wrap IntKind.i64 ((i:Int)+1)))) (fin:Q (xE p xs)):
  Wp (q8 (zN (fun s:Int=>bif decide (s< (xs.length:Int)) then body s else some (Sum.inr (Sum.inl ()))) (0:Int)) (fun _=>some (-1:Int))) Q:=by
 refine zA5 hl (fun i=> ∀j y,j<i→xs[j]? =some y→p y=false) (fun j y hj=>by omega) ?_ ?_
 ·intro i x hx hj
  refine z7 (step i x hx) ?_
  cases hp:p x with
  |true=>
   simp only [cond_true]
   refine e2r (e2r ?_)
   rw [zZB hx hp hj] at fin
   exact fin
  |false=>
   simp only [cond_false]
   refine e2l ⟨rfl,?_⟩
   intro j y hji hy
   rcases Nat.lt_or_ge j i with h|h
   ·exact hj j y h hy
   ·have:j=i:=by omega
    subst this
    rw [hx] at hy
    cases hy
    exact hp
 ·intro hj
  refine zA ?_
  rw [zLv] at fin
  ·exact fin
  ·intro x hx
   obtain ⟨j,hjl,rfl⟩:=List.getElem_of_mem hx
   exact hj j _ hjl (by simp [hjl])
end Go.Ve

namespace Go.Ve
open Go
section
variable {α ρ:Type}
theorem zWW {xs:List α} {body:Int→Option (Int ⊕ (Unit ⊕ ρ))} {Q:Unit ⊕ ρ→Prop} (hl:xs.length<4611686018427387904) (J:Nat→Prop) (h0:J 0)
  (step: ∀i x,xs[i]? =some x→J i→Wp (body (i:Int)) (vJ (fun s'=>s'=IntKind.wrap IntKind.i64 ((i:Int)+1)∧J (i+1)) (fun o=>(∀u,o≠Sum.inl u)∧Q o))) (fin:J xs.length→Q (Sum.inl ())):
  Wp (zN (fun s:Int=>bif decide (s< (xs.length:Int)) then body s else some (Sum.inr (Sum.inl ()))) (0:Int)) Q:=by
 refine j7 (fun (s:Int)=> ∃i:Nat,s=(i:Int)∧i≤xs.length∧J i) (fun (s:Int)=>((xs.length:Int) -s).toNat) ⟨(0:Nat),rfl,Nat.zero_le _,h0⟩ ?_
 rintro s ⟨i,hi,hle,hj⟩
 subst hi
 refine zI ?_ ?_
 ·intro hc
  have hlt:i<xs.length:=by omega
  refine (step i xs[i] (by simp [hlt]) hj).mono ?_
  intro o ho
  cases o with
  |inl s'=>
   obtain ⟨rfl,h2⟩:=ho
   rw [zG (by omega) (by omega)]
   exact ⟨⟨i+1,by omega,hlt,h2⟩,by omega⟩
  |inr o=>exact ho.2
 ·intro hc
  have:i=xs.length:=by omega
  subst this
  exact zA (e2r (fin hj))
theorem zU6 {xs:List α} {P:α→Prop} {body:Int→Option (Int ⊕ (Unit ⊕ ρ))} {Q:Unit ⊕ ρ→Prop} (hl:xs.length<4611686018427387904)
  (step: ∀ (i:Nat) x,xs[i]? =some x→Wp (body (i:Int)) (vJ (fun s'=>s'=IntKind.wrap IntKind.i64 ((i:Int)+1)∧P x) (fun o=>(∀u,o≠Sum.inl u)∧Q o))) (fin:(∀x,x∈xs→P x)→Q (Sum.inl ())):
  Wp (zN (fun s:Int=>bif decide (s< (xs.length:Int)) then body s else some (Sum.inr (Sum.inl ()))) (0:Int)) Q:=by
 refine zWW hl (fun i=> ∀j y,j<i→xs[j]? =some y→P y) (fun j y hj=>by omega) ?_ (fun h=>fin ?_)
 ·intro i x hx hj
  refine (step i x hx).mono ?_
  intro o ho
  cases o with
  |inl s'=>
   refine ⟨ho.1,?_⟩
   intro j y hj' hy
   rcases Nat.lt_or_ge j i with h'|h'
   ·exact hj j y h' hy
   ·have:j=i:=by omega
    subst this
    rw [hx] at hy
    cases hy
    exact ho.2
  |inr o=>exact ho
 ·intro x hx
  obtain ⟨j,hjl,rfl⟩:=List.getElem_of_mem hx
  exact h j _ hjl (by simp [hjl])
end
end Go.Ve

namespace Go.Ve
open Go
section
variable {α:Type} {lt:α→α→Prop}
structure Ord (lt:α→α→Prop):Prop where
 asym: ∀x y,lt x y→ ¬lt y x
 tr: ∀x y z, ¬lt y x→ ¬lt z y→ ¬lt z x
theorem zDl (ho:Ord lt): ∀ {xs ys:List α},xs.Pairwise lt→ys.Pairwise lt→(∀z,z∈xs↔z∈ys)→xs=ys
 |[],[],_,_,_=>rfl
 |[],y::ys,_,_,h=>by have:=(h y).2 (by simp);cases this
 |x::xs,[],_,_,h=>by have:=(h x).1 (by simp);cases this
 |x::xs,y::ys,hx,hy,h=>by
  rw [List.pairwise_cons] at hx hy
  have irr: ∀z, ¬lt z z:=fun z hz=>ho.asym z z hz hz
  have e:x=y:=by
   rcases List.mem_cons.1 ((h x).1 (by simp)) with h1|h1
   ·exact h1
   ·rcases List.mem_cons.1 ((h y).2 (by simp)) with h2|h2
    ·exact h2.symm
    ·exact absurd (hx.1 y h2) (ho.asym _ _ (hy.1 x h1))
  subst e
  have:xs=ys:=by
   refine zDl ho hx.2 hy.2 (fun z=>⟨fun hz=> ?_,fun hz=> ?_⟩)
   ·rcases List.mem_cons.1 ((h z).1 (List.mem_cons_of_mem _ hz)) with rfl|h1
    ·exact absurd (hx.1 z hz) (irr z)
    ·exact h1
   ·rcases List.mem_cons.1 ((h z).2 (List.mem_cons_of_mem _ hz)) with rfl|h1
    ·exact absurd (hy.1 z hz) (irr z)
    ·exact h1
  rw [this]
end
end Go.Ve

namespace Go.Ve
open Go
set_option maxRecDepth 1000000
set_option maxHeartbeats 4000000
theorem j2 {α:Type} {m:Option α} {x:α} (h:Wp m (fun r=>r=x)):m=some x:=by
 obtain ⟨r,h1,rfl⟩:=h;exact h1
theorem zGP {p q:Ty.El zH} (h:(p.1==q.1&&(p.2.1==q.2.1&&true))=true):p=q:=by
 obtain ⟨a,b,⟨⟩⟩:=p
 obtain ⟨c,d,⟨⟩⟩:=q
 simp only [Bool.and_true,Bool.and_eq_true,beq_iff_eq] at h
 obtain ⟨rfl,rfl⟩:=h
 rfl
def zD1 (a b c d:Int):Prop:=a<c∨(a=c∧b<d)
def plt (p q:Ty.El zH):Prop:=zD1 p.1 p.2.1 q.1 q.2.1
theorem zHx:Ord plt where
 asym:=fun x y h=>by unfold plt zD1 at*;omega
 tr:=fun x y z h1 h2=>by unfold plt zD1 at*;omega
theorem zVm {a b c d:Int} (h: ¬zD1 c d a b) (hne: ¬(a=c∧b=d)):zD1 a b c d:=by
 unfold zD1 at*
 omega
theorem zT2 {p q:Ty.El zH} (h: ¬plt q p) (hne:p≠q):plt p q:=by
 refine zVm h (fun e=>hne ?_)
 obtain ⟨a,b,⟨⟩⟩:=p
 obtain ⟨c,d,⟨⟩⟩:=q
 obtain ⟨rfl,rfl⟩:=e
 rfl
def zKO (a b c d:Int):Int:=if a<c then-1 else if c<a then 1 else if b<d then-1 else if d<b then 1 else 0
def zZH (p q:Ty.El zH):Int:=zKO p.1 p.2.1 q.1 q.2.1
theorem zRl {a b c d:Int} :zKO a b c d<0↔zD1 a b c d:=by
 unfold zKO zD1
 split
 ·omega
 ·split
  ·omega
  ·split
   ·omega
   ·split<;>omega
theorem zHL {p q:Ty.El zH} :zZH p q<0↔plt p q:=zRl
theorem zIQ (a b:Int):w6 (a,b,())=some (if a<b then-1 else if b<a then 1 else 0):=by
 refine j2 ?_
 unfold w6 zAE
 simp only [Option.bind_some,bne_self_eq_false,cond_false]
 refine zI (fun h=>zA ?_) (fun h=>zI (fun h'=>zA ?_) (fun h'=>zA ?_))
 ·rw [if_pos h]
 ·rw [if_neg h,if_pos h']
 ·rw [if_neg h,if_neg h']
theorem zBc (a b:Int):qC (a,b,())=some (if a<b then-1 else if b<a then 1 else 0):=by
 refine j2 ?_
 unfold qC zCC
 simp only [Option.bind_some,bne_self_eq_false,cond_false]
 refine zI (fun h=>zA ?_) (fun h=>zI (fun h'=>zA ?_) (fun h'=>zA ?_))
 ·rw [if_pos h]
 ·rw [if_neg h,if_pos h']
 ·rw [if_neg h,if_neg h']
theorem zVy {a b c d:Int} :(if ((if a<c then (-1:Int) else if c<a then 1 else 0) !=0)=true then (if a<c then (-1:Int) else if c<a then 1 else 0) else (if b<d then (-1:Int) else if d<b then 1 else 0))=zKO a b c d:=by
 unfold zKO
 by_cases h1:a<c
 ·simp [h1]
 ·by_cases h2:c<a
  ·simp [h1,h2]
  ·simp [h1,h2]
theorem zJR (p q:Ty.El zH):zB3 (p,q,())=some (zZH p q):=by
 refine j2 ?_
 unfold zB3
 dsimp only
 refine zC (z7 (zIQ _ _) (zD (fun h=>zA ?_) (fun h=>zC (z7 (zBc _ _) (zA ?_)))))
 ·have:=zVy (a:=p.1) (b:=p.2.1) (c:=q.1) (d:=q.2.1)
  rw [if_pos h] at this
  exact this
 ·have:=zVy (a:=p.1) (b:=p.2.1) (c:=q.1) (d:=q.2.1)
  rw [if_neg (by rw [h];simp)] at this
  exact this
theorem qAN {a b c d:Int} (h:zD1 a b c d): -1=zKO a b c d:=by
 unfold zKO;unfold zD1 at h
 by_cases h1:a<c
 ·rw [if_pos h1]
 ·rw [if_neg h1,if_neg (by omega),if_pos (by omega)]
theorem qAL {a b:Int} :0=zKO a b a b:=by
 unfold zKO
 rw [if_neg (by omega),if_neg (by omega),if_neg (by omega),if_neg (by omega)]
theorem qAM {a b c d:Int} (h: ¬zD1 a b c d) (hne: ¬(a=c∧b=d)):1=zKO a b c d:=by
 unfold zKO;unfold zD1 at h
 rw [if_neg (by omega)]
 by_cases h1:c<a
 ·rw [if_pos h1]
 ·rw [if_neg h1,if_neg (by omega),if_pos (by omega)]
theorem zBC (p q:Ty.El zH):vW (p,q,())=some (zZH p q):=by
 refine j2 ?_
 unfold vW
 dsimp only
 refine zC ((show Wp _ (fun s:Bool=>s=true↔plt p q) from ?_).mono (fun s hs=> ?_))
 ·refine zI (fun h=>zA ⟨fun _=> .inl h,fun _=>rfl⟩) (fun h=>zD (fun h'=>zA ?_) (fun h'=>zA ?_))
  ·have h':p.1=q.1:=by simpa using h'
   rw [decide_eq_true_eq]
   constructor
   ·intro h2;exact .inr ⟨h',h2⟩
   ·intro h2
    rcases h2 with h2|h2
    ·exact absurd h2 h
    ·exact h2.2
  ·have h': ¬p.1=q.1:=by simpa using h'
   constructor
   ·intro h2;cases h2
   ·intro h2
    exfalso
    rcases h2 with h2|h2
    ·exact h h2
    ·exact h' h2.1
 ·refine zD (fun h=>zA (qAN (hs.1 h))) (fun h=>zD (fun he=>zA ?_) (fun he=>zA (qAM ?_ ?_)))
  ·have:=zGP he
   subst this
   exact qAL
  ·exact fun hp=>by rw [hs.2 hp] at h;cases h
  ·intro e
   have h1:(p.1==q.1)=true:=by simpa using e.1
   have h2:(p.2.1==q.2.1)=true:=by simpa using e.2
   rw [h1,h2] at he
   cases he
def zCM (p:Ty.El zH) (v:Int) (p':Ty.El zH) (v':Int):Prop:=plt p p'∨(p=p'∧v<v')
theorem zSD {p q r:Ty.El zH} {u v w:Int} (h1:zCM p u q v) (h2:zCM q v r w):zCM p u r w:=by
 rcases h1 with h1|⟨rfl,h1⟩
 ·rcases h2 with h2|⟨rfl,h2⟩
  ·exact .inl (by unfold plt zD1 at*;omega)
  ·exact .inl h1
 ·rcases h2 with h2|⟨rfl,h2⟩
  ·exact .inl h2
  ·exact .inr ⟨rfl,by omega⟩
theorem zXR {p q:Ty.El zH} {u v:Int} (h: ¬zCM p u q v) (hne: ¬(p=q∧u=v)):zCM q v p u:=by
 by_cases he:p=q
 ·subst he
  refine .inr ⟨rfl,?_⟩
  have h1: ¬u<v:=fun h'=>h (.inr ⟨rfl,h'⟩)
  have h2: ¬u=v:=fun h'=>hne ⟨rfl,h'⟩
  omega
 ·exact .inl (zT2 (fun h'=>h (.inl h')) (fun h'=>he h'.symm))
theorem zWc {p:Ty.El zH} {u:Int} : ¬zCM p u p u:=by
 rintro (h|⟨_,h⟩)
 ·unfold plt zD1 at h;omega
 ·omega
end Go.Ve

namespace Go.Ve
open Go
set_option maxRecDepth 1000000
set_option maxHeartbeats 4000000
theorem wL {α:Type} {xs:List α} {i:Int} {y:α} (h:xs[i.toNat]? =some y) (h0:0≤i:=by omega):idx xs i=some y:=by
 rw [idx,if_pos h0];exact h
theorem qJ {α:Type} {xs:List α} {i:Int} {Q:α→Prop} {B:α→Prop} (hB: ∀y,y∈xs→B y) (h0:0≤i) (h1:i<xs.length) (h: ∀y,xs[i.toNat]? =some y→B y→Q y):Wp (idx xs i) Q:=
 wO h0 h1 (fun y hm hy=>h y hy (hB y hm))
structure SmR (r:Ty.El zF):Prop where
 i1:List.length r.2.2.1≤20
 i2:List.length r.2.2.2.1≤20
 i3:List.length r.2.2.2.2.1≤20
 i4:List.length r.2.2.2.2.2.1≤20
 i5:List.length r.2.2.2.2.2.2.1≤20
 i6:List.length r.2.2.2.2.2.2.2.1≤20
 i7:List.length r.2.2.2.2.2.2.2.2.1.2.2.1≤20
 i8:List.length r.2.2.2.2.2.2.2.2.1.2.2.2.1≤20
 i9:List.length r.2.2.2.2.2.2.2.2.2.1.2.2.2.2.1≤20
 i10:List.length r.2.2.2.2.2.2.2.2.2.2.1.2.2.2.1≤20
 i11:List.length r.2.2.2.2.2.2.2.2.2.2.1.2.2.2.2.1≤20
 i12:List.length r.2.2.2.2.2.2.2.2.2.2.1.2.2.2.2.2.1≤20
 i13:List.length r.2.2.2.2.2.2.2.2.2.2.1.2.2.2.2.2.2.1≤20
 i14:List.length r.2.2.2.2.2.2.2.2.2.2.1.2.2.2.2.2.2.2.1≤20
 n1: ∀y,y∈r.2.2.2.1→List.length y.2.1≤20
 n2: ∀y,y∈r.2.2.2.2.1→List.length y.2.1≤20
 n3: ∀y,y∈r.2.2.2.2.2.1→List.length y.2.1≤20
structure qBJ (r:Ty.El tPV):Prop where
 i10:List.length r.2.2.2.1≤20
 i11:List.length r.2.2.2.2.1≤20
 i12:List.length r.2.2.2.2.2.1≤20
 i13:List.length r.2.2.2.2.2.2.1≤20
 i14:List.length r.2.2.2.2.2.2.2.1≤20
theorem zEm (a1:Int):Wp (zBn (a1,())) (fun _=>True):=by
 unfold zBn
 refine zC ?_
 refine zYR (fun _ _=>True) trivial (fun s g h1 h2 _=> ?_) (fun s g _ _ _=>zA (e2r (zA trivial)))
 refine zC ?_
 refine zI (fun _=> ?_) (fun _=> ?_)
 ·refine zI (fun _=> ?_) (fun hn=> ?_)
  ·exact zA (zA (e2l ⟨zG (by simp only;omega) (by simp only;omega),trivial⟩))
  ·exfalso
   apply hn
   simp only
   rw [zG (by omega) (by omega),zJA (by omega) (by omega)]
   omega
 ·exact zA (zA (e2l ⟨zG (by simp only;omega) (by simp only;omega),trivial⟩))
theorem zMo (a1:Ty.El (.int .u8))  :Wp (zCG (a1,())) (fun _=>True):=by
 unfold zCG
 try dsimp only
 repeat' (first
  |with_reducible exact trivial
  |assumption
  |contradiction
  |with_reducible first|refine zA ?_|refine zI (fun _=> ?_) (fun _=> ?_)|refine zD (fun _=> ?_) (fun _=> ?_)|refine zC ?_
  |omega)
theorem v6 (a1:Ty.El (.str))  :Wp (zBm (a1,())) (fun _=>True):=by
 unfold zBm
 try dsimp only
 repeat' (first
  |with_reducible exact trivial
  |assumption
  |contradiction
  |with_reducible first|refine zA ?_|refine (zMo _).mono (fun r _=> ?_)|refine xR ?_ ?_ (fun y _ _=> ?_)|refine j8 (fun _=> ?_) (fun _=> ?_)|refine zI (fun _=> ?_) (fun _=> ?_)|refine zD (fun _=> ?_) (fun _=> ?_)|refine qE ?_|refine wU (fun s _ _=> ?_) (fun s _ _=> ?_)|refine zC ?_|refine e2l ?_|refine e2r ?_
  |exact zG (by omega) (by omega)
  |omega
  |(simp only [List.length_cons,List.length_nil] at*;exact zG (by omega) (by omega)))
theorem jF (a1:Ty.El (tI)) (a2:Ty.El (tI)) (a3:Ty.El (tI))  :Wp (zX (a1,a2,a3,())) (fun _=>True):=by
 unfold zX
 try dsimp only
 repeat' (first
  |with_reducible exact trivial
  |assumption
  |contradiction
  |with_reducible first|refine zA ?_|refine zI (fun _=> ?_) (fun _=> ?_)|refine zD (fun _=> ?_) (fun _=> ?_)|refine zC ?_
  |omega)
theorem zEF (a1:Ty.El (tU)) (a2:Ty.El (tI))  :Wp (w9 (a1,a2,())) (fun _=>True):=by
 unfold w9
 try dsimp only
 repeat' (first
  |with_reducible exact trivial
  |assumption
  |contradiction
  |with_reducible first|refine zA ?_|refine (zEm _).mono (fun r _=> ?_)|refine zC ?_
  |exact zG (by omega) (by omega)
  |omega
  |(simp only [List.length_cons,List.length_nil] at*;exact zG (by omega) (by omega)))
theorem zJE (a1:Ty.El (zH)) (a2:Ty.El (tU))  :Wp (xS (a1,a2,())) (fun _=>True):=by
 unfold xS
 try dsimp only
 repeat' (first
  |with_reducible exact trivial
  |assumption
  |contradiction
  |with_reducible first|refine zA ?_|refine (zEm _).mono (fun r _=> ?_)|refine zC ?_
  |exact zG (by omega) (by omega)
  |omega
  |(simp only [List.length_cons,List.length_nil] at*;exact zG (by omega) (by omega)))
theorem zMp (a1:Ty.El (zH)) (a2:Ty.El (zH))  :Wp (zAe (a1,a2,())) (fun _=>True):=by
 unfold zAe
 try dsimp only
 repeat' (first
  |with_reducible exact trivial
  |assumption
  |contradiction
  |with_reducible first|refine zA ?_|refine (zJE _ _).mono (fun r _=> ?_)|refine zI (fun _=> ?_) (fun _=> ?_)|refine zD (fun _=> ?_) (fun _=> ?_)|refine zC ?_
  |omega)
theorem zD4 (a1:Ty.El (zH)) (a2:Ty.El (zH))  :Wp (uK (a1,a2,())) (fun _=>True):=by
 unfold uK
 try dsimp only
 repeat' (first
  |with_reducible exact trivial
  |assumption
  |contradiction
  |with_reducible first|refine zA ?_|refine (zMp _ _).mono (fun r _=> ?_)|refine zD (fun _=> ?_) (fun _=> ?_)|refine zC ?_
  |omega)
theorem zHP (a1:Ty.El (.sl qG)) (h0:List.length a1≤20):Wp (kU (a1,())) (fun _=>True):=by
 unfold kU
 try dsimp only
 repeat' (first
  |with_reducible exact trivial
  |assumption
  |contradiction
  |with_reducible first|refine zA ?_|refine (v6 _).mono (fun r _=> ?_)|refine (jF _ _ _).mono (fun r _=> ?_)|refine (zEF _ _).mono (fun r _=> ?_)|refine (zD4 _ _).mono (fun r _=> ?_)|refine wO ?_ ?_ (fun y _ _=> ?_)|refine j8 (fun _=> ?_) (fun _=> ?_)|refine zI (fun _=> ?_) (fun _=> ?_)|refine zD (fun _=> ?_) (fun _=> ?_)|refine qE ?_|refine wU (fun s _ _=> ?_) (fun s _ _=> ?_)
  |simp only [wL ‹_[_]? =some _›,Option.bind_some]
  |with_reducible first|refine zC ?_|refine e2l ?_|refine e2r ?_
  |exact zG (by omega) (by omega)
  |omega
  |(simp only [List.length_cons,List.length_nil] at*;exact zG (by omega) (by omega)))
theorem zAc (a1:Ty.El (zH))  :Wp (w4 (a1,())) (fun _=>True):=by
 unfold w4
 try dsimp only
 repeat' (first
  |with_reducible exact trivial
  |assumption
  |contradiction
  |with_reducible first|refine zA ?_|refine (zEm _).mono (fun r _=> ?_)|refine zI (fun _=> ?_) (fun _=> ?_)|refine zD (fun _=> ?_) (fun _=> ?_)|refine zC ?_
  |exact zG (by omega) (by omega)
  |omega
  |(simp only [List.length_cons,List.length_nil] at*;exact zG (by omega) (by omega)))
theorem zEl (a1:Ty.El (zCW))  :Wp (k6 (a1,())) (fun _=>True):=by
 unfold k6
 try dsimp only
 repeat' (first
  |with_reducible exact trivial
  |assumption
  |contradiction
  |with_reducible first|refine zA ?_|refine (zAc _).mono (fun r _=> ?_)|refine zI (fun _=> ?_) (fun _=> ?_)|refine zD (fun _=> ?_) (fun _=> ?_)|refine zC ?_
  |omega)
theorem zCD (a1:Ty.El (.sl vC)) (h0:List.length a1≤20) (h1: ∀y,y∈a1→List.length y.2.1≤20):Wp (yD (a1,())) (fun _=>True):=by
 unfold yD
 try dsimp only
 repeat' (first
  |with_reducible exact trivial
  |assumption
  |contradiction
  |with_reducible first|refine zA ?_|refine (v6 _).mono (fun r _=> ?_)|refine (zEl _).mono (fun r _=> ?_)|refine qJ h1 ?_ ?_ (fun y _ _=> ?_)|refine wO ?_ ?_ (fun y _ _=> ?_)|refine j8 (fun _=> ?_) (fun _=> ?_)|refine zI (fun _=> ?_) (fun _=> ?_)|refine zD (fun _=> ?_) (fun _=> ?_)|refine qE ?_|refine wU (fun s _ _=> ?_) (fun s _ _=> ?_)
  |simp only [wL ‹_[_]? =some _›,Option.bind_some]
  |with_reducible first|refine zC ?_|refine e2l ?_|refine e2r ?_
  |exact zG (by omega) (by omega)
  |omega
  |(simp only [List.length_cons,List.length_nil] at*;exact zG (by omega) (by omega)))
theorem zAN (a1:Ty.El (zF)) (a2:Ty.El (.str)) (h0:SmR a1):Wp (vM (a1,a2,())) (fun (r:Int)=> -1≤r∧r< (List.length a1.2.2.2.1:Int)):=by
 have hh0:=h0
 obtain ⟨i1,i2,i3,i4,i5,i6,i7,i8,i9,i10,i11,i12,i13,i14,n1,n2,n3⟩:=hh0
 unfold vM
 try dsimp only
 repeat' (first
  |with_reducible exact trivial
  |exact ⟨i10,i11,i12,i13,i14⟩
  |assumption
  |contradiction
  |with_reducible first|refine zA ?_|refine qJ n1 ?_ ?_ (fun y _ _=> ?_)|refine qJ n2 ?_ ?_ (fun y _ _=> ?_)|refine qJ n3 ?_ ?_ (fun y _ _=> ?_)|refine wO ?_ ?_ (fun y _ _=> ?_)|refine zI (fun _=> ?_) (fun _=> ?_)|refine zD (fun _=> ?_) (fun _=> ?_)|refine qE ?_|refine wU (fun s _ _=> ?_) (fun s _ _=> ?_)
  |simp only [wL ‹_[_]? =some _›,Option.bind_some]
  |with_reducible first|refine zC ?_|refine e2l ?_|refine e2r ?_
  |exact zG (by omega) (by omega)
  |omega
  |(simp only [List.length_cons,List.length_nil] at*;exact zG (by omega) (by omega))
  |exact ⟨by omega,by omega⟩)
theorem zDu (a1:Ty.El (zF)) (h0:SmR a1):Wp (kI (a1,())) (fun _=>True):=by
 have hh0:=h0
 obtain ⟨i1,i2,i3,i4,i5,i6,i7,i8,i9,i10,i11,i12,i13,i14,n1,n2,n3⟩:=hh0
 unfold kI
 try dsimp only
 repeat' (first
  |with_reducible exact trivial
  |exact ⟨i10,i11,i12,i13,i14⟩
  |assumption
  |contradiction
  |with_reducible first|refine zA ?_|refine (v6 _).mono (fun r _=> ?_)|refine (zAN _ _ ?_).mono (fun r _=> ?_)|refine (jF _ _ _).mono (fun r _=> ?_)|refine qJ n1 ?_ ?_ (fun y _ _=> ?_)|refine qJ n2 ?_ ?_ (fun y _ _=> ?_)|refine qJ n3 ?_ ?_ (fun y _ _=> ?_)|refine wO ?_ ?_ (fun y _ _=> ?_)|refine j8 (fun _=> ?_) (fun _=> ?_)|refine zI (fun _=> ?_) (fun _=> ?_)|refine zD (fun _=> ?_) (fun _=> ?_)|refine qE ?_|refine wU (fun s _ _=> ?_) (fun s _ _=> ?_)
  |simp only [wL ‹_[_]? =some _›,Option.bind_some]
  |with_reducible first|refine zC ?_|refine e2l ?_|refine e2r ?_
  |exact zG (by omega) (by omega)
  |omega
  |(simp only [List.length_cons,List.length_nil] at*;exact zG (by omega) (by omega)))
theorem zNl (a1:Ty.El (zO))  :Wp (zDD (a1,())) (fun _=>True):=by
 unfold zDD
 try dsimp only
 repeat' (first
  |with_reducible exact trivial
  |assumption
  |contradiction
  |with_reducible first|refine zA ?_|refine zI (fun _=> ?_) (fun _=> ?_)|refine zD (fun _=> ?_) (fun _=> ?_)|refine zC ?_
  |omega)
theorem zQt (a1:Ty.El (zO))  :Wp (zGL (a1,())) (fun _=>True):=by
 unfold zGL
 try dsimp only
 repeat' (first
  |with_reducible exact trivial
  |assumption
  |contradiction
  |with_reducible refine zA ?_
  |omega)
theorem zIE (a1:Ty.El (zRP))  :Wp (zBJ (a1,())) (fun _=>True):=by
 unfold zBJ
 try dsimp only
 repeat' (first
  |with_reducible exact trivial
  |assumption
  |contradiction
  |with_reducible first|refine zA ?_|refine (jF _ _ _).mono (fun r _=> ?_)|refine (zNl _).mono (fun r _=> ?_)|refine (zQt _).mono (fun r _=> ?_)|refine j8 (fun _=> ?_) (fun _=> ?_)|refine zD (fun _=> ?_) (fun _=> ?_)|refine zC ?_
  |exact zG (by omega) (by omega)
  |omega
  |(simp only [List.length_cons,List.length_nil] at*;exact zG (by omega) (by omega)))
theorem zCE (a1:Ty.El (.sl zK2)) (h0:List.length a1≤20) (h1: ∀y,y∈a1→List.length y.2.1≤20):Wp (yF (a1,())) (fun _=>True):=by
 unfold yF
 try dsimp only
 repeat' (first
  |with_reducible exact trivial
  |assumption
  |contradiction
  |with_reducible first|refine zA ?_|refine (v6 _).mono (fun r _=> ?_)|refine (zIE _).mono (fun r _=> ?_)|refine qJ h1 ?_ ?_ (fun y _ _=> ?_)|refine wO ?_ ?_ (fun y _ _=> ?_)|refine j8 (fun _=> ?_) (fun _=> ?_)|refine zI (fun _=> ?_) (fun _=> ?_)|refine zD (fun _=> ?_) (fun _=> ?_)|refine qE ?_|refine wU (fun s _ _=> ?_) (fun s _ _=> ?_)
  |simp only [wL ‹_[_]? =some _›,Option.bind_some]
  |with_reducible first|refine zC ?_|refine e2l ?_|refine e2r ?_
  |exact zG (by omega) (by omega)
  |omega
  |(simp only [List.length_cons,List.length_nil] at*;exact zG (by omega) (by omega)))
theorem zJD (a1:Ty.El (zF)) (a2:Ty.El (.str)) (h0:SmR a1):Wp (zDE (a1,a2,())) (fun (r:Int)=> -1≤r∧r< (List.length a1.2.2.2.2.2.1:Int)):=by
 have hh0:=h0
 obtain ⟨i1,i2,i3,i4,i5,i6,i7,i8,i9,i10,i11,i12,i13,i14,n1,n2,n3⟩:=hh0
 unfold zDE
 try dsimp only
 repeat' (first
  |with_reducible exact trivial
  |exact ⟨i10,i11,i12,i13,i14⟩
  |assumption
  |contradiction
  |with_reducible first|refine zA ?_|refine qJ n1 ?_ ?_ (fun y _ _=> ?_)|refine qJ n2 ?_ ?_ (fun y _ _=> ?_)|refine qJ n3 ?_ ?_ (fun y _ _=> ?_)|refine wO ?_ ?_ (fun y _ _=> ?_)|refine zI (fun _=> ?_) (fun _=> ?_)|refine zD (fun _=> ?_) (fun _=> ?_)|refine qE ?_|refine wU (fun s _ _=> ?_) (fun s _ _=> ?_)
  |simp only [wL ‹_[_]? =some _›,Option.bind_some]
  |with_reducible first|refine zC ?_|refine e2l ?_|refine e2r ?_
  |exact zG (by omega) (by omega)
  |omega
  |(simp only [List.length_cons,List.length_nil] at*;exact zG (by omega) (by omega))
  |exact ⟨by omega,by omega⟩)
theorem zB6 (a1:Ty.El (zF)) (h0:SmR a1):Wp (kZ (a1,())) (fun _=>True):=by
 have hh0:=h0
 obtain ⟨i1,i2,i3,i4,i5,i6,i7,i8,i9,i10,i11,i12,i13,i14,n1,n2,n3⟩:=hh0
 unfold kZ
 try dsimp only
 repeat' (first
  |with_reducible exact trivial
  |exact ⟨i10,i11,i12,i13,i14⟩
  |assumption
  |contradiction
  |with_reducible first|refine zA ?_|refine (jF _ _ _).mono (fun r _=> ?_)|refine (zJD _ _ ?_).mono (fun r _=> ?_)|refine qJ n1 ?_ ?_ (fun y _ _=> ?_)|refine qJ n2 ?_ ?_ (fun y _ _=> ?_)|refine qJ n3 ?_ ?_ (fun y _ _=> ?_)|refine wO ?_ ?_ (fun y _ _=> ?_)|refine j8 (fun _=> ?_) (fun _=> ?_)|refine zI (fun _=> ?_) (fun _=> ?_)|refine zD (fun _=> ?_) (fun _=> ?_)|refine qE ?_|refine wU (fun s _ _=> ?_) (fun s _ _=> ?_)
  |simp only [wL ‹_[_]? =some _›,Option.bind_some]
  |with_reducible first|refine zC ?_|refine e2l ?_|refine e2r ?_
  |exact zG (by omega) (by omega)
  |omega
  |(simp only [List.length_cons,List.length_nil] at*;exact zG (by omega) (by omega)))
theorem zEE (a1:Ty.El (zF)) (h0:SmR a1):Wp (zBI (a1,())) (fun _=>True):=by
 have hh0:=h0
 obtain ⟨i1,i2,i3,i4,i5,i6,i7,i8,i9,i10,i11,i12,i13,i14,n1,n2,n3⟩:=hh0
 unfold zBI
 try dsimp only
 repeat' (first
  |with_reducible exact trivial
  |exact ⟨i10,i11,i12,i13,i14⟩
  |assumption
  |contradiction
  |with_reducible first|refine zA ?_|refine (zJD _ _ ?_).mono (fun r _=> ?_)|refine qJ n1 ?_ ?_ (fun y _ _=> ?_)|refine qJ n2 ?_ ?_ (fun y _ _=> ?_)|refine qJ n3 ?_ ?_ (fun y _ _=> ?_)|refine wO ?_ ?_ (fun y _ _=> ?_)|refine zI (fun _=> ?_) (fun _=> ?_)|refine zD (fun _=> ?_) (fun _=> ?_)|refine qE ?_|refine wU (fun s _ _=> ?_) (fun s _ _=> ?_)
  |simp only [wL ‹_[_]? =some _›,Option.bind_some]
  |with_reducible first|refine zC ?_|refine e2l ?_|refine e2r ?_
  |exact zG (by omega) (by omega)
  |omega
  |(simp only [List.length_cons,List.length_nil] at*;exact zG (by omega) (by omega)))
theorem zCh (a1:Ty.El (zF)) (a2:Ty.El (tU)) (h0:SmR a1):Wp (xD (a1,a2,())) (fun (r:Int)=> -1≤r∧r< (List.length a1.2.2.1:Int)):=by
 have hh0:=h0
 obtain ⟨i1,i2,i3,i4,i5,i6,i7,i8,i9,i10,i11,i12,i13,i14,n1,n2,n3⟩:=hh0
 unfold xD
 try dsimp only
 repeat' (first
  |with_reducible exact trivial
  |exact ⟨i10,i11,i12,i13,i14⟩
  |assumption
  |contradiction
  |with_reducible first|refine zA ?_|refine qJ n1 ?_ ?_ (fun y _ _=> ?_)|refine qJ n2 ?_ ?_ (fun y _ _=> ?_)|refine qJ n3 ?_ ?_ (fun y _ _=> ?_)|refine wO ?_ ?_ (fun y _ _=> ?_)|refine zI (fun _=> ?_) (fun _=> ?_)|refine zD (fun _=> ?_) (fun _=> ?_)|refine qE ?_|refine wU (fun s _ _=> ?_) (fun s _ _=> ?_)
  |simp only [wL ‹_[_]? =some _›,Option.bind_some]
  |with_reducible first|refine zC ?_|refine e2l ?_|refine e2r ?_
  |exact zG (by omega) (by omega)
  |omega
  |(simp only [List.length_cons,List.length_nil] at*;exact zG (by omega) (by omega))
  |exact ⟨by omega,by omega⟩)
theorem zIF (a1:Ty.El (zF)) (a2:Ty.El (.str)) (h0:SmR a1):Wp (yG (a1,a2,())) (fun (r:Int)=> -1≤r∧r< (List.length a1.2.2.1:Int)):=by
 have hh0:=h0
 obtain ⟨i1,i2,i3,i4,i5,i6,i7,i8,i9,i10,i11,i12,i13,i14,n1,n2,n3⟩:=hh0
 unfold yG
 try dsimp only
 repeat' (first
  |with_reducible exact trivial
  |exact ⟨i10,i11,i12,i13,i14⟩
  |assumption
  |contradiction
  |with_reducible first|refine zA ?_|refine qJ n1 ?_ ?_ (fun y _ _=> ?_)|refine qJ n2 ?_ ?_ (fun y _ _=> ?_)|refine qJ n3 ?_ ?_ (fun y _ _=> ?_)|refine wO ?_ ?_ (fun y _ _=> ?_)|refine zI (fun _=> ?_) (fun _=> ?_)|refine zD (fun _=> ?_) (fun _=> ?_)|refine qE ?_|refine wU (fun s _ _=> ?_) (fun s _ _=> ?_)
  |simp only [wL ‹_[_]? =some _›,Option.bind_some]
  |with_reducible first|refine zC ?_|refine e2l ?_|refine e2r ?_
  |exact zG (by omega) (by omega)
  |omega
  |(simp only [List.length_cons,List.length_nil] at*;exact zG (by omega) (by omega))
  |exact ⟨by omega,by omega⟩)
theorem zK1 (a1:Ty.El (zF)) (h0:SmR a1):Wp (zAz (a1,())) (fun _=>True):=by
 have hh0:=h0
 obtain ⟨i1,i2,i3,i4,i5,i6,i7,i8,i9,i10,i11,i12,i13,i14,n1,n2,n3⟩:=hh0
 unfold zAz
 try dsimp only
 repeat' (first
  |with_reducible exact trivial
  |exact ⟨i10,i11,i12,i13,i14⟩
  |assumption
  |contradiction
  |with_reducible first|refine zA ?_|refine (zAc _).mono (fun r _=> ?_)|refine (zCh _ _ ?_).mono (fun r _=> ?_)|refine (jF _ _ _).mono (fun r _=> ?_)|refine (zIF _ _ ?_).mono (fun r _=> ?_)|refine qJ n1 ?_ ?_ (fun y _ _=> ?_)|refine qJ n2 ?_ ?_ (fun y _ _=> ?_)|refine qJ n3 ?_ ?_ (fun y _ _=> ?_)|refine wO ?_ ?_ (fun y _ _=> ?_)|refine j8 (fun _=> ?_) (fun _=> ?_)|refine zI (fun _=> ?_) (fun _=> ?_)|refine zD (fun _=> ?_) (fun _=> ?_)|refine qE ?_|refine wU (fun s _ _=> ?_) (fun s _ _=> ?_)
  |simp only [wL ‹_[_]? =some _›,Option.bind_some]
  |with_reducible first|refine zC ?_|refine e2l ?_|refine e2r ?_
  |exact zG (by omega) (by omega)
  |omega
  |(simp only [List.length_cons,List.length_nil] at*;exact zG (by omega) (by omega)))
theorem x3 (a1:Ty.El (zF)) (a2:Ty.El (.str)) (h0:SmR a1):Wp (v7 (a1,a2,())) (fun (r:Int)=> -1≤r∧r< (List.length a1.2.2.2.2.1:Int)):=by
 have hh0:=h0
 obtain ⟨i1,i2,i3,i4,i5,i6,i7,i8,i9,i10,i11,i12,i13,i14,n1,n2,n3⟩:=hh0
 unfold v7
 try dsimp only
 repeat' (first
  |with_reducible exact trivial
  |exact ⟨i10,i11,i12,i13,i14⟩
  |assumption
  |contradiction
  |with_reducible first|refine zA ?_|refine qJ n1 ?_ ?_ (fun y _ _=> ?_)|refine qJ n2 ?_ ?_ (fun y _ _=> ?_)|refine qJ n3 ?_ ?_ (fun y _ _=> ?_)|refine wO ?_ ?_ (fun y _ _=> ?_)|refine zI (fun _=> ?_) (fun _=> ?_)|refine zD (fun _=> ?_) (fun _=> ?_)|refine qE ?_|refine wU (fun s _ _=> ?_) (fun s _ _=> ?_)
  |simp only [wL ‹_[_]? =some _›,Option.bind_some]
  |with_reducible first|refine zC ?_|refine e2l ?_|refine e2r ?_
  |exact zG (by omega) (by omega)
  |omega
  |(simp only [List.length_cons,List.length_nil] at*;exact zG (by omega) (by omega))
  |exact ⟨by omega,by omega⟩)
theorem w8 (a1:Ty.El (zF)) (a2:Ty.El (.sl qT)) (a3:Ty.El (tI)) (a4:Ty.El (tI)) (a5:Ty.El (tI)) (h0:SmR a1) (h1:List.length a2≤20):Wp (jA (a1,a2,a3,a4,a5,())) (fun _=>True):=by
 have hh0:=h0
 obtain ⟨i1,i2,i3,i4,i5,i6,i7,i8,i9,i10,i11,i12,i13,i14,n1,n2,n3⟩:=hh0
 unfold jA
 try dsimp only
 repeat' (first
  |with_reducible exact trivial
  |exact ⟨i10,i11,i12,i13,i14⟩
  |assumption
  |contradiction
  |with_reducible first|refine zA ?_|refine (jF _ _ _).mono (fun r _=> ?_)|refine (x3 _ _ ?_).mono (fun r _=> ?_)|refine qJ n1 ?_ ?_ (fun y _ _=> ?_)|refine qJ n2 ?_ ?_ (fun y _ _=> ?_)|refine qJ n3 ?_ ?_ (fun y _ _=> ?_)|refine wO ?_ ?_ (fun y _ _=> ?_)|refine j8 (fun _=> ?_) (fun _=> ?_)|refine zI (fun _=> ?_) (fun _=> ?_)|refine zD (fun _=> ?_) (fun _=> ?_)|refine qE ?_|refine wU (fun s _ _=> ?_) (fun s _ _=> ?_)
  |simp only [wL ‹_[_]? =some _›,Option.bind_some]
  |with_reducible first|refine zC ?_|refine e2l ?_|refine e2r ?_
  |exact zG (by omega) (by omega)
  |omega
  |(simp only [List.length_cons,List.length_nil] at*;exact zG (by omega) (by omega)))
theorem zDv (a1:Ty.El (zF)) (h0:SmR a1):Wp (zAd (a1,())) (fun _=>True):=by
 have hh0:=h0
 obtain ⟨i1,i2,i3,i4,i5,i6,i7,i8,i9,i10,i11,i12,i13,i14,n1,n2,n3⟩:=hh0
 unfold zAd
 try dsimp only
 repeat' (first
  |with_reducible exact trivial
  |exact ⟨i10,i11,i12,i13,i14⟩
  |assumption
  |contradiction
  |with_reducible first|refine zA ?_|refine (jF _ _ _).mono (fun r _=> ?_)|refine (zAc _).mono (fun r _=> ?_)|refine (zD4 _ _).mono (fun r _=> ?_)|refine (w8 _ _ _ _ _ ?_ ?_).mono (fun r _=> ?_)|refine qJ n1 ?_ ?_ (fun y _ _=> ?_)|refine qJ n2 ?_ ?_ (fun y _ _=> ?_)|refine qJ n3 ?_ ?_ (fun y _ _=> ?_)|refine wO ?_ ?_ (fun y _ _=> ?_)|refine j8 (fun _=> ?_) (fun _=> ?_)|refine zI (fun _=> ?_) (fun _=> ?_)|refine zD (fun _=> ?_) (fun _=> ?_)|refine qE ?_|refine wU (fun s _ _=> ?_) (fun s _ _=> ?_)
  |simp only [wL ‹_[_]? =some _›,Option.bind_some]
  |with_reducible first|refine zC ?_|refine e2l ?_|refine e2r ?_
  |exact zG (by omega) (by omega)
  |omega
  |(simp only [List.length_cons,List.length_nil] at*;exact zG (by omega) (by omega)))
theorem zD3 (a1:Ty.El (zF)) (h0:SmR a1):Wp (zAV (a1,())) (fun _=>True):=by
 have hh0:=h0
 obtain ⟨i1,i2,i3,i4,i5,i6,i7,i8,i9,i10,i11,i12,i13,i14,n1,n2,n3⟩:=hh0
 unfold zAV
 try dsimp only
 repeat' (first
  |with_reducible exact trivial
  |exact ⟨i10,i11,i12,i13,i14⟩
  |assumption
  |contradiction
  |with_reducible first|refine zA ?_|refine (jF _ _ _).mono (fun r _=> ?_)|refine (zAN _ _ ?_).mono (fun r _=> ?_)|refine (w8 _ _ _ _ _ ?_ ?_).mono (fun r _=> ?_)|refine j8 (fun _=> ?_) (fun _=> ?_)|refine zI (fun _=> ?_) (fun _=> ?_)|refine zD (fun _=> ?_) (fun _=> ?_)|refine zC ?_
  |omega)
theorem zID (a1:Ty.El (zF)) (h0:SmR a1):Wp (yE (a1,())) (fun _=>True):=by
 have hh0:=h0
 obtain ⟨i1,i2,i3,i4,i5,i6,i7,i8,i9,i10,i11,i12,i13,i14,n1,n2,n3⟩:=hh0
 unfold yE
 try dsimp only
 repeat' (first
  |with_reducible exact trivial
  |exact ⟨i10,i11,i12,i13,i14⟩
  |assumption
  |contradiction
  |with_reducible first|refine zA ?_|refine (jF _ _ _).mono (fun r _=> ?_)|refine (x3 _ _ ?_).mono (fun r _=> ?_)|refine qJ n1 ?_ ?_ (fun y _ _=> ?_)|refine qJ n2 ?_ ?_ (fun y _ _=> ?_)|refine qJ n3 ?_ ?_ (fun y _ _=> ?_)|refine wO ?_ ?_ (fun y _ _=> ?_)|refine zI (fun _=> ?_) (fun _=> ?_)|refine zD (fun _=> ?_) (fun _=> ?_)|refine qE ?_|refine wU (fun s _ _=> ?_) (fun s _ _=> ?_)
  |simp only [wL ‹_[_]? =some _›,Option.bind_some]
  |with_reducible first|refine zC ?_|refine e2l ?_|refine e2r ?_
  |exact zG (by omega) (by omega)
  |omega
  |(simp only [List.length_cons,List.length_nil] at*;exact zG (by omega) (by omega)))
theorem zB7 (a1:Ty.El (tPV)) (h0:qBJ a1):Wp (vH (a1,())) (fun _=>True):=by
 have hh0:=h0
 obtain ⟨i10,i11,i12,i13,i14⟩:=hh0
 unfold vH
 try dsimp only
 repeat' (first
  |with_reducible exact trivial
  |assumption
  |contradiction
  |with_reducible first|refine zA ?_|refine (zAc _).mono (fun r _=> ?_)|refine wO ?_ ?_ (fun y _ _=> ?_)|refine j8 (fun _=> ?_) (fun _=> ?_)|refine zI (fun _=> ?_) (fun _=> ?_)|refine zD (fun _=> ?_) (fun _=> ?_)|refine qE ?_|refine wU (fun s _ _=> ?_) (fun s _ _=> ?_)
  |simp only [wL ‹_[_]? =some _›,Option.bind_some]
  |with_reducible first|refine zC ?_|refine e2l ?_|refine e2r ?_
  |exact zG (by omega) (by omega)
  |omega
  |(simp only [List.length_cons,List.length_nil] at*;exact zG (by omega) (by omega)))
theorem zC2 (a1:Ty.El (zF)) (h0:SmR a1):Wp (j9 (a1,())) (fun _=>True):=by
 have hh0:=h0
 obtain ⟨i1,i2,i3,i4,i5,i6,i7,i8,i9,i10,i11,i12,i13,i14,n1,n2,n3⟩:=hh0
 unfold j9
 try dsimp only
 repeat' (first
  |with_reducible exact trivial
  |exact ⟨i10,i11,i12,i13,i14⟩
  |assumption
  |contradiction
  |with_reducible first|refine zA ?_|refine (jF _ _ _).mono (fun r _=> ?_)|refine (zID _ ?_).mono (fun r _=> ?_)|refine (zB7 _ ?_).mono (fun r _=> ?_)|refine (w8 _ _ _ _ _ ?_ ?_).mono (fun r _=> ?_)|refine j8 (fun _=> ?_) (fun _=> ?_)|refine zD (fun _=> ?_) (fun _=> ?_)|refine zC ?_
  |exact zG (by omega) (by omega)
  |omega
  |(simp only [List.length_cons,List.length_nil] at*;exact zG (by omega) (by omega)))
theorem zGx (a1:Ty.El (zF)) (h0:SmR a1):Wp (kC (a1,())) (fun _=>True):=by
 have hh0:=h0
 obtain ⟨i1,i2,i3,i4,i5,i6,i7,i8,i9,i10,i11,i12,i13,i14,n1,n2,n3⟩:=hh0
 unfold kC
 try dsimp only
 repeat' (first
  |with_reducible exact trivial
  |exact ⟨i10,i11,i12,i13,i14⟩
  |assumption
  |contradiction
  |with_reducible first|refine zA ?_|refine (v6 _).mono (fun r _=> ?_)|refine (jF _ _ _).mono (fun r _=> ?_)|refine (zHP _ ?_).mono (fun r _=> ?_)|refine (zCD _ ?_ ?_).mono (fun r _=> ?_)|refine (zDu _ ?_).mono (fun r _=> ?_)|refine (zCE _ ?_ ?_).mono (fun r _=> ?_)|refine (zB6 _ ?_).mono (fun r _=> ?_)|refine (zEE _ ?_).mono (fun r _=> ?_)|refine (zK1 _ ?_).mono (fun r _=> ?_)|refine (zDv _ ?_).mono (fun r _=> ?_)|refine (zD3 _ ?_).mono (fun r _=> ?_)|refine (zC2 _ ?_).mono (fun r _=> ?_)|refine qJ n1 ?_ ?_ (fun y _ _=> ?_)|refine qJ n2 ?_ ?_ (fun y _ _=> ?_)|refine qJ n3 ?_ ?_ (fun y _ _=> ?_)|refine wO ?_ ?_ (fun y _ _=> ?_)|refine j8 (fun _=> ?_) (fun _=> ?_)|refine zI (fun _=> ?_) (fun _=> ?_)|refine zD (fun _=> ?_) (fun _=> ?_)|refine qE ?_|refine wU (fun s _ _=> ?_) (fun s _ _=> ?_)
  |simp only [wL ‹_[_]? =some _›,Option.bind_some]
  |with_reducible first|refine zC ?_|refine e2l ?_|refine e2r ?_
  |exact zG (by omega) (by omega)
  |omega
  |(simp only [List.length_cons,List.length_nil] at*;exact zG (by omega) (by omega)))
theorem zNm (a1:Ty.El (zQ)) (h0: ∀y,y∈a1.1→SmR y):Wp (uJ (a1,())) (fun _=>True):=by
 unfold uJ
 try dsimp only
 repeat' (first
  |with_reducible exact trivial
  |assumption
  |contradiction
  |with_reducible first|refine zA ?_|refine (zGx _ ?_).mono (fun r _=> ?_)|refine (zCh _ _ ?_).mono (fun r _=> ?_)|refine qJ h0 ?_ ?_ (fun y _ _=> ?_)|refine wO ?_ ?_ (fun y _ _=> ?_)|refine zI (fun _=> ?_) (fun _=> ?_)|refine zD (fun _=> ?_) (fun _=> ?_)|refine qE ?_|refine wU (fun s _ _=> ?_) (fun s _ _=> ?_)
  |simp only [wL ‹_[_]? =some _›,Option.bind_some]
  |with_reducible first|refine zC ?_|refine e2l ?_|refine e2r ?_
  |exact zG (by omega) (by omega)
  |omega
  |(simp only [List.length_cons,List.length_nil] at*;exact zG (by omega) (by omega))
  |exact zG (by omega) (by have:=SmR.i1 ‹SmR _›;omega))
end Go.Ve

namespace Go.Ve
open Go
set_option maxRecDepth 1000000
set_option maxHeartbeats 4000000
def zHm (n:Ty.El zQ) (p:Ty.El zH) (vl:Int) (e:Ty.El zO):Prop:=
 0≤e.1∧0≤e.2.1∧ ∃r x,n.1[e.1.toNat]? =some r∧r.2.2.1[e.2.1.toNat]? =some x∧x.2.2.1≠0∧x.2.2.2.2.1=false∧w9 (x.2.1,x.2.2.1,())=some p∧x.2.2.2.1=vl
def qBv (st:HSt zO) (B:Nat) (E:Ty.El zO→Prop) (q:Option (Nat×Nat)):Prop:=
 ∀id m,q=some (id,m)→ ∃xs,st[id]? =some (some xs)∧xs.length=m∧xs.length≤B∧ ∀e,e∈xs→E e
def zO2 (d d':Ty.El zP):Prop:= ∀id m m',d.2.2.1=some (id,m)→d'.2.2.1=some (id,m')→False
theorem zO2.symm {d d':Ty.El zP} (h:zO2 d d'):zO2 d' d:=fun id m m' h1 h2=>h id m' m h2 h1
structure Bld (n:Ty.El zQ) (B:Nat) (D:List (Ty.El zP)) (st:HSt zO):Prop where
 len:D.length≤B
 ok: ∀d,d∈D→qBv st B (zHm n d.1 d.2.1) d.2.2.1
 ap:D.Pairwise zO2
 so:D.Pairwise (fun d d'=>zCM d.1 d.2.1 d'.1 d'.2.1)
theorem zE3 {n:Ty.El zQ} {B B':Nat} {D:List (Ty.El zP)} {st:HSt zO} (h:Bld n B D st) (hb:B≤B'):Bld n B' D st:=by
 refine ⟨Nat.le_trans h.len hb,?_,h.ap,h.so⟩
 intro d hd id m hq
 obtain ⟨xs,h1,h2,h3,h4⟩:=h.ok d hd id m hq
 exact ⟨xs,h1,h2,Nat.le_trans h3 hb,h4⟩
theorem zZN {n:Ty.El zQ} {B:Nat} {st:HSt zO} :Bld n B [] st:=⟨Nat.zero_le _,(fun d hd=>by cases hd),List.Pairwise.nil,List.Pairwise.nil⟩
theorem zZO {n:Ty.El zQ} {B:Nat} {D:List (Ty.El zP)} {st:HSt zO} (h:Bld n B D st) (k:Nat) (p:Ty.El zH) (v:Int)
  (hlo: ∀j d,j<k→D[j]? =some d→zCM d.1 d.2.1 p v) (hhi: ∀d,D[k]? =some d→zCM p v d.1 d.2.1):
  Bld n (B+1) (D.take k++[((p,v,none,()):Ty.El zP)]++D.drop k) st:=by
 have h':=zE3 h (Nat.le_succ B)
 have hnew: ∀d:Ty.El zP,zO2 d ((p,v,none,()):Ty.El zP):=fun d id m m' _ h2=>by cases h2
 refine ⟨?_,?_,?_,?_⟩
 ·have:=h.len;simp only [List.length_append,List.length_take,List.length_drop,List.length_singleton];omega
 ·intro d hd
  simp only [List.mem_append,List.mem_singleton] at hd
  rcases hd with (hd|rfl)|hd
  ·exact h'.ok d (List.mem_of_mem_take hd)
  ·intro id m hq;cases hq
  ·exact h'.ok d (List.mem_of_mem_drop hd)
 ·have hp:=h.ap
  rw [←List.take_append_drop k D,List.pairwise_append] at hp
  obtain ⟨h1,h2,h3⟩:=hp
  rw [List.pairwise_append,List.pairwise_append]
  refine ⟨⟨h1,List.pairwise_singleton _ _,?_⟩,h2,?_⟩
  ·intro a _ b hb
   simp only [List.mem_singleton] at hb
   subst hb
   exact hnew a
  ·intro a ha b hb
   simp only [List.mem_append,List.mem_singleton] at ha
   rcases ha with ha|rfl
   ·exact h3 a ha b hb
   ·exact (hnew b).symm
 ·have hso:=h.so
  have hso':=List.pairwise_iff_getElem.1 hso
  rw [←List.take_append_drop k D,List.pairwise_append] at hso
  obtain ⟨h1,h2,h3⟩:=hso
  rw [List.pairwise_append,List.pairwise_append]
  refine ⟨⟨h1,List.pairwise_singleton _ _,?_⟩,h2,?_⟩
  ·intro a ha b hb
   simp only [List.mem_singleton] at hb
   subst hb
   obtain ⟨j,hj,hje⟩:=List.getElem_of_mem ha
   rw [List.length_take] at hj
   refine hlo j a (by omega) ?_
   rw [←hje,List.getElem_take,List.getElem?_eq_getElem (by omega)]
  ·intro a ha b hb
   simp only [List.mem_append,List.mem_singleton] at ha
   rcases ha with ha|rfl
   ·exact h3 a ha b hb
   ·obtain ⟨j,hj,hje⟩:=List.getElem_of_mem hb
    rw [List.length_drop] at hj
    rw [List.getElem_drop] at hje
    have hk:D[k]? =some (D[k]'(by omega)):=by simp
    have hlt:=hhi _ hk
    rcases Nat.eq_zero_or_pos j with h0|h0
    ·subst h0
     simp only [Nat.add_zero] at hje
     rw [←hje];exact hlt
    ·rw [←hje]
     exact zSD hlt (hso' k (k+j) (by omega) (by omega) (by omega))
theorem zVz {n:Ty.El zQ} {B:Nat} {D:List (Ty.El zP)} {st st':HSt zO} (h:Bld n B D st) {k:Nat} {d:Ty.El zP} (hd:D[k]? =some d) {id m:Nat} {xs:List (Ty.El zO)}
  (hnew:st'[id]? =some (some xs)) (hm:xs.length=m) (hB:xs.length≤B+1) (hE: ∀e,e∈xs→zHm n d.1 d.2.1 e) (hid:st.length≤id)
  (hkeep: ∀j ys,st[j]? =some (some ys)→(∀m',d.2.2.1≠some (j,m'))→st'[j]? =some (some ys)):
  Bld n (B+1) (D.set k ((d.1,d.2.1,some (id,m),()):Ty.El zP)) st':=by
 have hlt:k<D.length:=(List.getElem?_eq_some_iff.1 hd).1
 have hdk:D[k]=d:=(List.getElem?_eq_some_iff.1 hd).2
 have hap:=List.pairwise_iff_getElem.1 h.ap
 have hother: ∀j (hj:j<D.length),j≠k→zO2 d D[j]:=by
  intro j hj hne
  rcases Nat.lt_or_ge j k with hh|hh
  ·have:=hap j k hj hlt hh;rw [hdk] at this;exact this.symm
  ·have:=hap k j hlt hj (by omega);rw [hdk] at this;exact this
 have hold: ∀j (hj:j<D.length),zO2 D[j] ((d.1,d.2.1,some (id,m),()):Ty.El zP):=by
  intro j hj i m1 m2 h1 h2
  obtain ⟨ys,g1,_⟩:=h.ok D[j] (List.getElem_mem hj) i m1 h1
  simp only [Option.some.injEq,Prod.mk.injEq] at h2
  obtain ⟨rfl,_⟩:=h2
  have:=(List.getElem?_eq_some_iff.1 g1).1
  omega
 refine ⟨by rw [List.length_set];have:=h.len;omega,?_,?_,?_⟩
 ·intro x hx
  obtain ⟨j,hj,rfl⟩:=List.getElem_of_mem hx
  rw [List.length_set] at hj
  rw [List.getElem_set]
  split
  ·intro i m1 h1
   simp only [Option.some.injEq,Prod.mk.injEq] at h1
   obtain ⟨rfl,rfl⟩:=h1
   exact ⟨xs,hnew,hm,hB,hE⟩
  ·rename_i hne
   intro i m1 h1
   obtain ⟨ys,g1,g2,g3,g4⟩:=h.ok D[j] (List.getElem_mem hj) i m1 h1
   exact ⟨ys,hkeep i ys g1 (fun m' hq=>hother j hj (fun hh=>hne hh.symm) i m' m1 hq h1),g2,by omega,g4⟩
 ·rw [List.pairwise_iff_getElem]
  intro i j hi hj hij
  rw [List.length_set] at hi hj
  rw [List.getElem_set,List.getElem_set]
  split
  ·split
   ·omega
   ·exact (hold j hj).symm
  ·split
   ·exact hold i hi
   ·exact hap i j hi hj hij
 ·have hso:=List.pairwise_iff_getElem.1 h.so
  rw [List.pairwise_iff_getElem]
  intro i j hi hj hij
  rw [List.length_set] at hi hj
  have:=hso i j hi hj hij
  rw [List.getElem_set,List.getElem_set]
  split
  ·split
   ·omega
   ·rename_i hki _
    subst hki
    rw [hdk] at this
    exact this
  ·split
   ·rename_i hkj
    subst hkj
    rw [hdk] at this
    exact this
   ·exact this
theorem zZP {n:Ty.El zQ} {B:Nat} {D:List (Ty.El zP)} {st:HSt zO} (h:Bld n B D st) (hb:B≤1000) {k:Nat} {d:Ty.El zP} (hd:D[k]? =some d) {e:Ty.El zO} (he:zHm n d.1 d.2.1 e):
  Wp (zPs 16 st d.2.2.1 [e]) (fun r=>Bld n (B+1) (D.set k ((d.1,d.2.1,r.2,()):Ty.El zP)) r.1):=by
 have hmem:d∈D:=List.mem_of_getElem? hd
 cases hq:d.2.2.1 with
 |none=>
  refine ⟨(st++[some [e]],some (st.length,1)),?_,?_⟩
  ·simp only [zPs,List.length_singleton]
   rw [if_pos (by omega)]
  ·refine zVz h hd (xs:=[e]) ?_ rfl (by simp) (fun e' h'=>by simp only [List.mem_singleton] at h';subst h';exact he) (Nat.le_refl _) ?_
   ·simp
   ·intro j ys hj _
    rw [List.getElem?_append_left (List.getElem?_eq_some_iff.1 hj).1]
    exact hj
 |some q=>
  obtain ⟨id,m⟩:=q
  obtain ⟨xs,h1,h2,h3,h4⟩:=h.ok d hmem id m hq
  have hlt:=(List.getElem?_eq_some_iff.1 h1).1
  refine ⟨(st.set id none++[some (xs++[e])],some (st.length,(xs++[e]).length)),?_,?_⟩
  ·simp only [zPs,h1,List.length_singleton]
   rw [if_pos (by omega)]
  ·refine zVz h hd (xs:=xs++[e]) ?_ rfl (by simp;omega) ?_ (Nat.le_refl _) ?_
   ·rw [List.getElem?_append_right (by simp)]
    simp
   ·intro e' h'
    simp only [List.mem_append,List.mem_singleton] at h'
    rcases h' with h'|rfl
    ·exact h4 e' h'
    ·exact he
   ·intro j ys hj hne
    have hjl:=(List.getElem?_eq_some_iff.1 hj).1
    rw [List.getElem?_append_left (by rw [List.length_set];exact hjl),List.getElem?_set_ne]
    ·exact hj
    ·intro hh
     subst hh
     exact hne m hq
structure zYH (n:Ty.El zQ) (t:Ty.El zJK):Prop where
 doms:t.1.length≤360
 ends : ∀ d, d ∈ t.1 → d.2.2.1.length ≤ 360 ∧ ∀ e, e ∈ d.2.2.1 → zHm n d.1 d.2.1 e
 links:t.2.1.length≤12
 link: ∀l,l∈t.2.1→0≤l∧l< (t.1.length:Int)
 so:t.1.Pairwise (fun d d'=>zCM d.1 d.2.1 d'.1 d'.2.1)
theorem zSv {α β:Type} {f:α→Option β} {R:α→β→Prop} : ∀ {xs:List α},(∀x,x∈xs→Wp (f x) (R x))→Wp (zKl f xs) (fun ys:List β=>ys.length=xs.length∧ ∀ (i:Nat) x y,xs[i]? =some x→ys[i]? =some y→R x y)
 |[],_=>⟨[],rfl,rfl,fun i x y h=>by simp at h⟩
 |x::r,h=>by
  obtain ⟨y,h1,h2⟩:=h x (by simp)
  obtain ⟨ys,h3,h4,h5⟩:=zSv (xs:=r) (fun z hz=>h z (List.mem_cons_of_mem _ hz))
  refine ⟨y::ys,by simp only [zKl,h1,h3],by simp [h4],?_⟩
  intro i a b ha hb
  cases i with
  |zero=>simp only [List.getElem?_cons_zero,Option.some.injEq] at ha hb;subst ha hb;exact h2
  |succ i=>exact h5 i a b (by simpa using ha) (by simpa using hb)
theorem zYy {n:Ty.El zQ} {B:Nat} {D:List (Ty.El zP)} {st:HSt zO} (h:Bld n B D st):
  Wp (zKl (zAI st zP) D) (fun ys=>ys.length=D.length∧(∀d:Ty.El zAt,d∈ys→d.2.2.1.length≤B∧ ∀e,e∈d.2.2.1→zHm n d.1 d.2.1 e)∧ys.Pairwise (fun d d':Ty.El zAt=>zCM d.1 d.2.1 d'.1 d'.2.1)):=by
 refine (zSv (R:=fun (d:Ty.El zP) (y:Ty.El zAt)=>(y.2.2.1.length≤B∧ ∀e,e∈y.2.2.1→zHm n y.1 y.2.1 e)∧y.1=d.1∧y.2.1=d.2.1) ?_).mono ?_
 ·intro d hd
  obtain ⟨⟨p1,p2,⟨⟩⟩,v,q,⟨⟩⟩:=d
  cases q with
  |none=>exact ⟨((p1,p2,()),v,[],()),rfl,⟨Nat.zero_le _,fun e he=>by cases he⟩,rfl,rfl⟩
  |some q=>
   obtain ⟨id,m⟩:=q
   obtain ⟨xs,h1,h2,h3,h4⟩:=h.ok _ hd id m rfl
   refine ⟨((p1,p2,()),v,xs,()),?_,⟨h3,h4⟩,rfl,rfl⟩
   simp only [zAI,h1]
 ·rintro ys ⟨h1,h2⟩
  have hat: ∀i (hi:i<ys.length), ∃d,D[i]? =some d∧((ys[i].2.2.1.length≤B∧ ∀e,e∈ys[i].2.2.1→zHm n ys[i].1 ys[i].2.1 e)∧ys[i].1=d.1∧ys[i].2.1=d.2.1):=by
   intro i hi
   refine ⟨D[i]'(by omega),by simp,h2 i _ _ (by simp) (by simp [hi])⟩
  refine ⟨h1,?_,?_⟩
  ·intro d hd
   obtain ⟨i,hi,rfl⟩:=List.getElem_of_mem hd
   obtain ⟨_,_,h3,_⟩:=hat i hi
   exact h3
  ·rw [List.pairwise_iff_getElem]
   intro i j hi hj hij
   have hso:=List.pairwise_iff_getElem.1 h.so i j (by omega) (by omega) hij
   obtain ⟨d,hd,_,e1,e2⟩:=hat i hi
   obtain ⟨d',hd',_,e3,e4⟩:=hat j hj
   obtain ⟨_,rfl⟩:=List.getElem?_eq_some_iff.1 hd
   obtain ⟨_,rfl⟩:=List.getElem?_eq_some_iff.1 hd'
   rw [e1,e2,e3,e4]
   exact hso
end Go.Ve

namespace Go.Ve
open Go
set_option maxRecDepth 1000000
set_option maxHeartbeats 4000000
theorem vZ {α:Type} {xs:List α} {i:Nat} {x:α} (h:xs[i]? =some x):atN xs i=some x:=h
abbrev BSt:=(List (Ty.El zP)×List Int)×HSt zO
theorem zJG (a1:Ty.El zQ) (hn:a1.1.length≤9) (hs: ∀y,y∈a1.1→SmR y):
  Wp (zCA [] (a1,())) (fun r=>(r.2.2.1=0→Bld a1 360 r.2.1.1 r.1∧r.2.1.2.1.length≤12∧(∀l,l∈r.2.1.2.1→0≤l∧l< (r.2.1.1.length:Int))∧uJ (a1,())=some 0)∧(r.2.2.1≠0→r.2.1=([],[],()))):=by
 unfold zCA
 dsimp only
 refine zAa ((zNm a1 hs).mono (fun _ _=>trivial)) (fun y0 hy0=> ?_)
 refine zD (fun hc=> ?_) (fun hc=> ?_)
 ·refine zA ⟨fun h=> ?_,fun _=>rfl⟩
  simp only at h
  subst h
  cases hc
 have hy:y0=0:=by simpa using hc
 subst hy
 refine zC ((uT (xs:=a1.1) (by omega) (fun i (g:BSt)=>g.1.2=[]∧Bld a1 (40*i) g.1.1 g.2) ⟨rfl,zZN⟩ ?_ (Q:=fun g=>g.1.2=[]∧Bld a1 360 g.1.1 g.2) (fun g hg=>⟨hg.1,zE3 hg.2 (by omega)⟩)).mono ?_)
 ·intro i x g hx hj
  have hi:i<9:=by have:=(List.getElem?_eq_some_iff.1 hx).1;omega
  have hsx:=(hs x (List.mem_of_getElem? hx)).i1
  simp only [zJ hx,Option.bind_some]
  refine (uT (xs:=x.2.2.1) (by omega) (fun j (g:BSt)=>g.1.2=[]∧Bld a1 (40*i+2*j) g.1.1 g.2) hj ?_ (fun g hg=>⟨hg.1,zE3 hg.2 (by omega)⟩))
  intro j f g hf hj
  have hjl:j<20:=by have:=(List.getElem?_eq_some_iff.1 hf).1;omega
  obtain ⟨⟨D,L⟩,st⟩:=g
  obtain ⟨rfl,hD⟩:=hj
  simp only [zJ hf,Option.bind_some]
  refine zC ((show Wp _ (fun s:Bool×BSt=>s.2=((D,[]),st)∧(s.1=false→f.2.2.1≠0∧f.2.2.2.2.1=false)) from ?_).mono ?_)
  ·refine zD (fun h=>zA ⟨rfl,fun h=>by cases h⟩) (fun h=>zA ⟨rfl,fun h'=>⟨by simpa using h,h'⟩⟩)
  rintro ⟨b,g⟩ ⟨hg,hb⟩
  simp only at hg hb
  subst hg
  refine zD (fun _=>zA ⟨rfl,zE3 hD (by omega)⟩) (fun hb'=> ?_)
  obtain ⟨hlen,hdown⟩:=hb hb'
  refine zAa (zEF _ _) (fun p hp=> ?_)
  refine zC ((show Wp _ (fun s:Int×BSt=> ∃k:Nat,s.1=(k:Int)∧k≤D.length∧s.2=((D,[]),st)∧(∀m d,m<k→D[m]? =some d→zCM d.1 d.2.1 p f.2.2.2.1)∧(∀d,D[k]? =some d→ ¬zCM d.1 d.2.1 p f.2.2.2.1)) from ?_).mono ?_)
  ·refine j7 (fun s:Int×BSt=> ∃k:Nat,s.1=(k:Int)∧k≤D.length∧s.2=((D,[]),st)∧(∀m d,m<k→D[m]? =some d→zCM d.1 d.2.1 p f.2.2.2.1)) (fun s=>((D.length:Int) -s.1).toNat) ⟨(0:Nat),rfl,Nat.zero_le _,rfl,fun m d hm=>by omega⟩ ?_
   rintro ⟨s,g⟩ ⟨k,hk,hkl,hg,hlo⟩
   simp only at hk hg
   subst hk hg
   have hDl:D.length≤_:=hD.len
   refine zC ((show Wp _ (fun s:Bool×BSt=>s.2=((D,[]),st)∧(s.1=true→ ∃d,D[k]? =some d∧zCM d.1 d.2.1 p f.2.2.2.1)∧(s.1=false→ ∀d,D[k]? =some d→ ¬zCM d.1 d.2.1 p f.2.2.2.1)) from ?_).mono ?_)
   ·refine zI (fun hlt=> ?_) (fun hge=>zA ⟨rfl,(fun h=>by cases h),fun _ d hd=> ?_⟩)
    ·have hlt:k<D.length:=by simp only at hlt;omega
     have hk:D[k]? =some D[k]:=by simp [hlt]
     generalize D[k]=dk at hk
     have hone: ∀d,D[k]? =some d→d=dk:=fun d hd=>by rw [hk] at hd;exact (Option.some.inj hd).symm
     simp only [zJ hk,Int.toNat_natCast,vZ hk,Option.bind_some]
     refine zC (z7 (zBC _ _) ?_)
     refine zI (fun hc=>zA ⟨rfl,fun _=>⟨dk,hk, .inl (zHL.1 hc)⟩,fun h=>by cases h⟩) (fun hc=> ?_)
     have hc: ¬plt dk.1 p:=fun h=>hc (zHL.2 h)
     refine zD (fun he=>zA ⟨rfl,fun h=>⟨dk,hk, .inr ⟨zGP he,of_decide_eq_true h⟩⟩,fun h d hd=> ?_⟩) (fun he=>zA ⟨rfl,(fun h=>by cases h),fun _ d hd=> ?_⟩)
     ·have hd:d=dk:=hone d hd
      subst hd
      rintro (h1|⟨_,h1⟩)
      ·exact hc h1
      ·exact of_decide_eq_false h h1
     ·have hd:d=dk:=hone d hd
      subst hd
      rintro (h1|⟨h1,_⟩)
      ·exact hc h1
      ·have he:(d.1.fst==p.1&&(d.1.snd.fst==p.2.1&&true))=false:=he
       rw [h1] at he
       simp at he
    ·have hge: ¬(k:Int)< (D.length:Int):=hge
     have:=(List.getElem?_eq_some_iff.1 hd).1
     omega
   ·rintro ⟨b,g⟩ ⟨hg,hb,hb2⟩
    simp only at hg hb hb2
    subst hg
    refine zD (fun h=> ?_) (fun h=> ?_)
    ·obtain ⟨d,hd,hlt2⟩:=hb h
     have hlt:=(List.getElem?_eq_some_iff.1 hd).1
     refine zA (e2l ⟨⟨k+1,?_,hlt,rfl,?_⟩,?_⟩)
     ·simp only;rw [zG (by omega) (by omega)];omega
     ·intro m d' hm hd'
      rcases Nat.lt_or_ge m k with h'|h'
      ·exact hlo m d' h' hd'
      ·have:m=k:=by omega
       subst this
       rw [hd] at hd'
       cases hd'
       exact hlt2
     ·simp only;rw [zG (by omega) (by omega)];omega
    ·exact zA (e2r ⟨k,rfl,hkl,rfl,hlo,hb2 h⟩)
  rintro ⟨s,g⟩ ⟨k,hk,hkl,hg,hlo,hhi⟩
  simp only at hk hg
  subst hk hg
  have hDl:D.length≤_:=hD.len
  refine zC ((show Wp _ (fun g:BSt=>g.1.2=[]∧Bld a1 (40*i+2*j+1) g.1.1 g.2∧ ∃d,g.1.1[k]? =some d∧d.1=p∧d.2.1=f.2.2.2.1) from ?_).mono ?_)
  ·refine zC ((show Wp _ (fun s:Bool×BSt=>s.2=((D,[]),st)∧(s.1=false→ ∃d,D[k]? =some d∧d.1=p∧d.2.1=f.2.2.2.1)∧(s.1=true→ ∀d,D[k]? =some d→ ¬(d.1=p∧d.2.1=f.2.2.2.1))) from ?_).mono ?_)
   ·refine zD (fun heq=>zA ⟨rfl,(fun h=>by cases h),fun _ d hd=> ?_⟩) (fun hne=> ?_)
    ·have heq:(k:Int)=(D.length:Int):=by simpa using heq
     have:=(List.getElem?_eq_some_iff.1 hd).1
     omega
    have hlt:k<D.length:=by
     have: ¬((k:Int)=(D.length:Int)):=by simpa using hne
     omega
    have hk:D[k]? =some D[k]:=by simp [hlt]
    generalize D[k]=dk at hk
    have hone: ∀d,D[k]? =some d→d=dk:=fun d hd=>by rw [hk] at hd;exact (Option.some.inj hd).symm
    simp only [zJ hk,Int.toNat_natCast,vZ hk,Option.bind_some]
    refine zD (fun he=>zA ⟨rfl,(fun h=>by cases h),fun _ d hd h2=> ?_⟩) (fun he=> ?_)
    ·have hd:d=dk:=hone d hd
     subst hd
     have he:(!(d.1.fst==p.1&&(d.1.snd.fst==p.2.1&&true)))=true:=he
     rw [h2.1] at he
     simp at he
    have hpe:=zGP (by simpa using he)
    refine zA ⟨rfl,fun hv=>⟨dk,hk,hpe,by simpa using hv⟩,fun hv d hd h2=> ?_⟩
    have hd:d=dk:=hone d hd
    subst hd
    have hv:(d.2.1 !=f.2.2.2.1)=true:=hv
    rw [h2.2] at hv
    simp at hv
   ·rintro ⟨b,g⟩ ⟨hg,hb,hb2⟩
    simp only at hg hb hb2
    subst hg
    refine zD (fun hbt=> ?_) (fun hf'=>zA ⟨rfl,zE3 hD (by omega),hb hf'⟩)
    have hins: ∀d,D[k]? =some d→zCM p f.2.2.2.1 d.1 d.2.1:=fun d hd=>zXR (hhi d hd) (hb2 hbt d hd)
    refine zD (fun _=> ?_) (fun h=> ?_)
    ·simp only [Int.toNat_natCast,List.take_length]
     refine zC (vK (by simp only [List.length_nil,List.length_drop];omega) ?_)
     refine zD (fun _=> ?_) (fun h=> ?_)
     ·refine zC (vK (by simp only [List.length_take,List.length_singleton];omega) ?_)
      refine zC (vK (by simp only [List.length_append,List.length_nil,List.length_take,List.length_drop,List.length_singleton];omega) ?_)
      rw [List.nil_append]
      refine zA ⟨rfl,zZO hD k p _ hlo hins,⟨(p,f.2.2.2.1,none,()),?_,rfl,rfl⟩⟩
      simp only
      rw [List.append_assoc,List.getElem?_append_right (by simp only [List.length_take];omega)]
      simp only [List.length_take]
      rw [show k-min k D.length=0 by omega]
      rfl
     ·exfalso
      simp only [Bool.and_eq_false_iff,decide_eq_false_iff_not] at h
      omega
    ·exfalso
     simp only [Bool.and_eq_false_iff,decide_eq_false_iff_not] at h
     omega
  rintro ⟨⟨D',L'⟩,st'⟩ ⟨hL,hD',d,hk,hd1,hd2⟩
  simp only at hL hD' hk
  subst hL
  have hD'l:D'.length≤_:=hD'.len
  simp only [zJ hk,Int.toNat_natCast,vZ hk,Option.bind_some]
  refine zC ((zZP hD' (by omega) hk (e:=(↑i, ↑j,())) ⟨(show (0:Int)≤(i:Int) by omega),(show (0:Int)≤(j:Int) by omega),x,f,by simpa using hx,by simpa using hf,hlen,hdown,?_,?_⟩).mono ?_)
  ·rw [hp,hd1]
  ·exact hd2.symm
  ·rintro ⟨st2,q2⟩ hB
   exact zA ⟨rfl,zE3 hB (by omega)⟩
 ·rintro ⟨⟨D,L⟩,st⟩ ⟨hL,hD⟩
  simp only at hL hD
  subst hL
  have hDl:D.length≤_:=hD.len
  refine zC ((zRy (n:=D.length) (by omega) (fun i (g:BSt)=>g.1.1=D∧g.2=st∧g.1.2.length≤i∧ ∀l,l∈g.1.2→0≤l∧l< (D.length:Int)) ⟨rfl,rfl,Nat.le_refl _,(fun l hl=>by cases hl)⟩ (fun i g hg=>by simp only [hg.1]) ?_
   (Q:=fun g:BSt=>g.1.1=D∧g.2=st∧ ∀l,l∈g.1.2→0≤l∧l< (D.length:Int)) (fun g hg=>⟨hg.1,hg.2.1,hg.2.2.2⟩)).mono ?_)
  ·rintro i ⟨⟨D',L⟩,st'⟩ hi ⟨rfl,rfl,hL,hl⟩
   simp only at hi hL hl
   have hDl2:D'.length≤360:=hD.len
   have hk:D'[i]? =some D'[i]:=by simp [hi]
   simp only [zJ hk,Int.toNat_natCast,vZ hk,Option.bind_some]
   refine zI (fun _=> ?_) (fun _=>zA ⟨rfl,rfl,by simp only;omega,hl⟩)
   refine zC (vK (by simp only [List.length_singleton];omega) (zA ⟨rfl,rfl,by simp only [List.length_append,List.length_singleton];omega,?_⟩))
   intro l hl'
   simp only [List.mem_append,List.mem_singleton] at hl'
   rcases hl' with hl'|rfl
   ·exact hl l hl'
   ·omega
  ·rintro ⟨⟨D',L⟩,st'⟩ ⟨rfl,rfl,hl⟩
   simp only at hl
   refine zI (fun _=>zA ⟨(fun h=>by cases h),fun _=>rfl⟩) (fun h=>zA ⟨fun _=>⟨hD,?_,hl,hy0⟩,fun h=>absurd rfl h⟩)
   simp only at h ⊢
   omega
end Go.Ve

namespace Go.Ve
open Go
set_option maxRecDepth 1000000
set_option maxHeartbeats 4000000
theorem zPH {tE a b:Ty} {st:HSt tE} {x:a.El} {y:b.El} {x':(v2 tE a).El} {y':(v2 tE b).El} (h1:zAI st a x=some x') (h2:zAI st b y=some y'):zAI st (.pair a b) (x,y)=some (x',y'):=by
 simp only [zAI,h1,h2]
theorem zTB {tE a:Ty} {r:List Ty} {st:HSt tE} {x:a.El} {y:ElS r} {x':(v2 tE a).El} {y':ElS (zGw tE r)} (h1:zAI st a x=some x') (h2:zNi st r y=some y'):zNi st (a::r) (x,y)=some (x',y'):=by
 simp only [zNi,h1,h2]
theorem zPW {α:Type} {f:α→Option α} (hf: ∀x,f x=some x): ∀l:List α,zKl f l=some l
 |[]=>rfl
 |x::l=>by simp only [zKl,hf x,zPW hf l]
theorem zMr (a1:Ty.El zQ) (hn:a1.1.length≤9) (hs: ∀y,y∈a1.1→SmR y):
  Wp (zEa (a1,())) (fun r=>r.2.1=0→zYH a1 r.1∧uJ (a1,())=some 0):=by
 obtain ⟨⟨st,⟨D,L,⟨⟩⟩,e,⟨⟩⟩,h1,h2,h3⟩:=zJG a1 hn hs
 unfold zEa zNj
 rw [h1]
 simp only at h2 h3
 by_cases he:e=0
 ·subst he
  obtain ⟨hB,hL,hl,hc⟩:=h2 rfl
  obtain ⟨ys,g1,g2,g3,g4⟩:=zYy hB
  refine ⟨((ys,L,()),0,()),?_,fun _=>⟨⟨?_,g3,hL,?_,g4⟩,hc⟩⟩
  ·have e1:zAI st (.sl zP) D=some ys:=g1
   have e2:zAI st (.sl tI) L=some L:=zPW (fun _=>rfl) L
   exact zTB (r:=[tI]) (zPH e1 (zPH e2 rfl)) rfl
  ·simp only;have:D.length≤360:=hB.len;omega
  ·intro l hh;simp only;rw [g2];exact hl l hh
 ·have:=h3 he
  simp only [Prod.mk.injEq] at this
  obtain ⟨rfl,rfl,_⟩:=this
  exact ⟨(([],[],()),e,()),rfl,fun h=>absurd h he⟩
structure zYM (d:List Int) (m:Int):Prop where
 len:d.length≤2
 lo: ∀x,x∈d→0≤x∧x<m
theorem zHR (d:List Int) (m:Int):Wp (zA8 (d,m,())) (fun b=>b=true→zYM d m):=by
 unfold zA8
 dsimp only
 refine zI (fun _=>zA (fun h=>by cases h)) (fun h=> ?_)
 refine zA5 (by omega) (fun i=> ∀ (j:Nat) (y:Int),j<i→d[j]? =some y→0≤y∧y<m) (fun j y hj=>by omega) ?_ ?_
 ·intro i (x:Int) hx hj
  have hi:=(List.getElem?_eq_some_iff.1 hx).1
  simp only [zJ hx,Option.bind_some]
  refine zC ((show Wp _ (fun b:Bool=>b=false→0≤x∧x<m) from ?_).mono ?_)
  ·refine zI (fun _=>zA (fun h=>by cases h)) (fun h1=> ?_)
   refine zI (fun _=>zA (fun h=>by cases h)) (fun h2=> ?_)
   refine zI (fun h3=> ?_) (fun _=>zA (fun _=>⟨by omega,by omega⟩))
   refine zC (wO (by rw [zG (by omega) (by omega)];omega) (by rw [zG (by omega) (by omega)];omega) (fun y _ _=>zA (fun _=>⟨by omega,by omega⟩)))
  ·intro b hb
   refine zD (fun _=>zA (e2r (e2r (fun h=>by cases h)))) (fun h=>zA (e2l ⟨rfl,?_⟩))
   intro j y hj' hy
   rcases Nat.lt_or_ge j i with h'|h'
   ·exact hj j y h' hy
   ·have:j=i:=by omega
    subst this
    rw [hx] at hy
    cases hy
    exact hb h
 ·intro hj
  refine zA (fun _=>⟨by omega,?_⟩)
  intro x hx
  obtain ⟨j,hjl,rfl⟩:=List.getElem_of_mem hx
  exact hj j _ hjl (by simp [hjl])
theorem qAR {α:Type} {xs:List α} {P:α→Prop} (h: ∀j y,j<xs.length→xs[j]? =some y→P y): ∀y,y∈xs→P y:=by
 intro x hx
 obtain ⟨j,hjl,rfl⟩:=List.getElem_of_mem hx
 exact h j _ hjl (by simp [hjl])
theorem zAb {α ρ:Type} {xs:List α} {P:α→Prop} {body:Int→Option (Int ⊕ (Unit ⊕ ρ))} {K:Unit→Option ρ} {Q:ρ→Prop} (hl:xs.length<4611686018427387904)
  (step: ∀ (i:Nat) x,xs[i]? =some x→Wp (body (i:Int)) (vJ (fun s'=>s'=IntKind.wrap IntKind.i64 ((i:Int)+1)∧P x) (vJ (fun _=>False) Q))) (fin:(∀x,x∈xs→P x)→Wp (K ()) Q):
  Wp (q8 (zN (fun s:Int=>bif decide (s< (xs.length:Int)) then body s else some (Sum.inr (Sum.inl ()))) (0:Int)) K) Q:=by
 refine zA5 hl (fun i=> ∀j y,j<i→xs[j]? =some y→P y) (fun j y hj=>by omega) ?_ (fun h=>fin (qAR h))
 intro i x hx hj
 refine (step i x hx).mono ?_
 intro o ho
 cases o with
 |inl s'=>
  refine ⟨ho.1,?_⟩
  intro j y hj' hy
  rcases Nat.lt_or_ge j i with h'|h'
  ·exact hj j y h' hy
  ·have:j=i:=by omega
   subst this
   rw [hx] at hy
   cases hy
   exact ho.2
 |inr o=>exact ho
theorem zNo (a1:Ty.El zF):Wp (zFD (a1,())) (fun b=>b=true→SmR a1):=by
 unfold zFD
 dsimp only
 refine zC ((show Wp _ (fun b:Bool=>b=false→List.length a1.2.2.1≤12∧List.length a1.2.2.2.1≤12∧List.length a1.2.2.2.2.1≤12∧List.length a1.2.2.2.2.2.1≤12∧List.length a1.2.2.2.2.2.2.1≤12∧
  List.length a1.2.2.2.2.2.2.2.1≤20∧List.length a1.2.2.2.2.2.2.2.2.1.2.2.1≤8∧List.length a1.2.2.2.2.2.2.2.2.1.2.2.2.1≤8∧List.length a1.2.2.2.2.2.2.2.2.2.1.2.2.2.2.1≤8∧
  List.length a1.2.2.2.2.2.2.2.2.2.2.1.2.2.2.2.2.2.2.1≤8∧List.length a1.2.2.2.2.2.2.2.2.2.2.1.2.2.2.1≤12∧List.length a1.2.2.2.2.2.2.2.2.2.2.1.2.2.2.2.1≤12∧
  List.length a1.2.2.2.2.2.2.2.2.2.2.1.2.2.2.2.2.1≤12∧List.length a1.2.2.2.2.2.2.2.2.2.2.1.2.2.2.2.2.2.1≤12) from ?_).mono ?_)
 ·iterate 13 (refine zI (fun _=>zA (fun h=>by cases h)) (fun _=> ?_))
  refine zA (fun h=> ?_)
  have h:=of_decide_eq_false h
  refine ⟨?_,?_,?_,?_,?_,?_,?_,?_,?_,?_,?_,?_,?_,?_⟩<;>omega
 intro b hb
 refine zD (fun _=>zA (fun h=>by cases h)) (fun h=> ?_)
 obtain ⟨i1,i2,i3,i4,i5,i6,i7,i8,i9,i10,i11,i12,i13,i14⟩:=hb h
 refine zAb (P:=fun y=>List.length y.2.1≤20) (by omega) ?_ (fun n1=> ?_)
 ·intro i x hx
  simp only [zJ hx,Option.bind_some]
  exact zI (fun _=>zA (e2r (e2r (fun h=>by cases h)))) (fun _=>zA (e2l ⟨rfl,by omega⟩))
 refine zAb (P:=fun y=>List.length y.2.1≤20) (by omega) ?_ (fun n2=> ?_)
 ·intro i x hx
  simp only [zJ hx,Option.bind_some]
  exact zI (fun _=>zA (e2r (e2r (fun h=>by cases h)))) (fun _=>zA (e2l ⟨rfl,by omega⟩))
 refine zAb (P:=fun y=>List.length y.2.1≤20) (by omega) ?_ (fun n3=> ?_)
 ·intro i x hx
  simp only [zJ hx,Option.bind_some]
  exact zI (fun _=>zA (e2r (e2r (fun h=>by cases h)))) (fun _=>zA (e2l ⟨rfl,by omega⟩))
 refine zA (fun _=> ?_)
 constructor<;>first|assumption|omega
theorem zMs (a1:Ty.El zQ):Wp (zEe (a1,())) (fun b=>b=true→a1.1.length≤9∧ ∀y,y∈a1.1→SmR y):=by
 unfold zEe
 dsimp only
 refine zI (fun _=>zA (fun h=>by cases h)) (fun hn=> ?_)
 refine zAb (P:=SmR) (by omega) ?_ (fun h=>zA (fun _=>⟨by omega,h⟩))
 intro i x hx
 simp only [zJ hx,Option.bind_some]
 refine zC ((zNo x).mono (fun b hb=> ?_))
 refine zD (fun _=>zA (e2r (e2r (fun h=>by cases h)))) (fun h=>zA (e2l ⟨rfl,hb (by simpa using h)⟩))
structure xX (n:Ty.El zQ) (d:List Int) (v:Ty.El zR):Prop where
 net:v.1=n
 rs:n.1.length≤9
 sm: ∀y,y∈n.1→SmR y
 chk:uJ (n,())=some 0
 topo:zYH n v.2.1
 dn:v.2.2.1=d
 down:zYM d v.2.1.2.1.length
theorem zNn (n:Ty.El zQ) (d:List Int) (hn:n.1.length≤9) (hs: ∀y,y∈n.1→SmR y):
  Wp (zFm (n,d,())) (fun r=>r.2.1=0→xX n d r.1):=by
 unfold zFm
 dsimp only
 refine zC ((zMr n hn hs).mono (fun y0 hy=> ?_))
 refine zD (fun h=>zA (fun h'=> ?_)) (fun h=> ?_)
 ·simp only at h'
  rw [h'] at h
  cases h
 have he:y0.2.1=0:=by simpa using h
 obtain ⟨ht,hc⟩:=hy he
 refine zC ((zHR _ _).mono (fun b hb=> ?_))
 refine zD (fun _=>zA (fun h'=>by cases h')) (fun hb'=> ?_)
 have hd:=hb (by simpa using hb')
 refine zC (vK (by have:=hd.len;simp only [List.length_nil];omega) ?_)
 refine zA (fun _=>⟨rfl,hn,hs,hc,ht,rfl,?_⟩)
 exact hd
theorem zNp (n:Ty.El zQ) (d:List Int):Wp (zFE (n,d,())) (fun r=>r.2.1=true→xX n d r.1):=by
 unfold zFE
 dsimp only
 refine zC (zC ((zMs n).mono (fun b hb=> ?_)))
 refine zD (fun _=>zA ?_) (fun h=>zA ?_)
 ·exact zA (fun h=>by cases h)
 ·obtain ⟨hn,hs⟩:=hb (by simpa using h)
  refine zD (fun _=>zA (fun h=>by cases h)) (fun _=> ?_)
  refine zC ((zNn n d hn hs).mono (fun r hr=>zA (fun h=>hr ?_)))
  simpa using h
end Go.Ve

namespace Go.Ve
open Go
set_option maxRecDepth 1000000
set_option maxHeartbeats 4000000
structure RtS (x:Ty.El zB):Prop where
 path:List.length x.2.2.2.2.2.2.2.2.1≤1048576
 hops:List.length x.2.2.2.2.2.2.2.2.2.2.2.1≤1048576
theorem u7 (a1:Ty.El (tI)) (a2:Ty.El (tI)) (a3:Ty.El (tI))  :Wp (qS (a1,a2,a3,())) (fun _=>True):=by
 unfold qS
 try dsimp only
 repeat' (first
  |with_reducible exact trivial
  |assumption
  |contradiction
  |with_reducible refine zA ?_
  |with_reducible refine xR ?_ ?_ (fun y _ _=> ?_)
  |with_reducible refine wO ?_ ?_ (fun y _ _=> ?_)
  |with_reducible refine j8 (fun _=> ?_) (fun _=> ?_)
  |with_reducible refine zI (fun _=> ?_) (fun _=> ?_)
  |with_reducible refine zD (fun _=> ?_) (fun _=> ?_)
  |with_reducible refine qE ?_
  |with_reducible refine wU (fun s _ _=> ?_) (fun s _ _=> ?_)
  |simp only [wL ‹_[_]? =some _›,Option.bind_some]
  |with_reducible refine zAM ?_
  |with_reducible refine zC ?_
  |with_reducible refine e2l ?_
  |with_reducible refine e2r ?_
  |exact zG (by omega) (by omega)
  |omega
  |(rw [zG (by omega) (by omega)];omega)
  |(simp only [beq_iff_eq] at*;omega)
  |(simp only [List.length_cons,List.length_nil] at*;exact zG (by omega) (by omega)))
theorem xI (a1:Ty.El (zB)) (a2:Ty.El (.bool)) (a3:Ty.El (.bool)) (a4:Ty.El (.bool)) (h0:RtS a1):Wp (wT (a1,a2,a3,a4,())) (fun _=>True):=by
 have hh0:=h0
 obtain ⟨p01,p02⟩:=hh0
 unfold wT
 try dsimp only
 repeat' (first
  |with_reducible exact trivial
  |assumption
  |contradiction
  |with_reducible refine zA ?_
  |with_reducible refine xR ?_ ?_ (fun y _ _=> ?_)
  |with_reducible refine wO ?_ ?_ (fun y _ _=> ?_)
  |with_reducible refine j8 (fun _=> ?_) (fun _=> ?_)
  |with_reducible refine zI (fun _=> ?_) (fun _=> ?_)
  |with_reducible refine zD (fun _=> ?_) (fun _=> ?_)
  |with_reducible refine qE ?_
  |with_reducible refine wU (fun s _ _=> ?_) (fun s _ _=> ?_)
  |simp only [wL ‹_[_]? =some _›,Option.bind_some]
  |with_reducible refine zAM ?_
  |with_reducible refine zC ?_
  |with_reducible refine e2l ?_
  |with_reducible refine e2r ?_
  |exact zG (by omega) (by omega)
  |omega
  |(rw [zG (by omega) (by omega)];omega)
  |(simp only [beq_iff_eq] at*;omega)
  |(simp only [List.length_cons,List.length_nil] at*;exact zG (by omega) (by omega)))
theorem zJF (a1:Ty.El (qP)) (a2:Ty.El (qP))  :Wp (zCz (a1,a2,())) (fun _=>True):=by
 unfold zCz
 try dsimp only
 repeat' (first
  |with_reducible exact trivial
  |assumption
  |contradiction
  |with_reducible refine zA ?_
  |with_reducible refine xR ?_ ?_ (fun y _ _=> ?_)
  |with_reducible refine wO ?_ ?_ (fun y _ _=> ?_)
  |with_reducible refine j8 (fun _=> ?_) (fun _=> ?_)
  |with_reducible refine zI (fun _=> ?_) (fun _=> ?_)
  |with_reducible refine zD (fun _=> ?_) (fun _=> ?_)
  |with_reducible refine qE ?_
  |with_reducible refine wU (fun s _ _=> ?_) (fun s _ _=> ?_)
  |simp only [wL ‹_[_]? =some _›,Option.bind_some]
  |with_reducible refine zAM ?_
  |with_reducible refine zC ?_
  |with_reducible refine e2l ?_
  |with_reducible refine e2r ?_
  |exact zG (by omega) (by omega)
  |omega
  |(rw [zG (by omega) (by omega)];omega)
  |(simp only [beq_iff_eq] at*;omega)
  |(simp only [List.length_cons,List.length_nil] at*;exact zG (by omega) (by omega)))
theorem u9 (a1:Ty.El (.sl qP)) (a2:Ty.El (.bool)) (h0:List.length a1≤1048576):Wp (jV (a1,a2,())) (fun _=>True):=by
 unfold jV
 try dsimp only
 repeat' (first
  |with_reducible exact trivial
  |assumption
  |contradiction
  |with_reducible refine zA ?_
  |with_reducible refine (zJF _ _).mono (fun r _=> ?_)
  |with_reducible refine xR ?_ ?_ (fun y _ _=> ?_)
  |with_reducible refine wO ?_ ?_ (fun y _ _=> ?_)
  |with_reducible refine j8 (fun _=> ?_) (fun _=> ?_)
  |with_reducible refine zI (fun _=> ?_) (fun _=> ?_)
  |with_reducible refine zD (fun _=> ?_) (fun _=> ?_)
  |with_reducible refine qE ?_
  |with_reducible refine wU (fun s _ _=> ?_) (fun s _ _=> ?_)
  |simp only [wL ‹_[_]? =some _›,Option.bind_some]
  |with_reducible refine zAM ?_
  |with_reducible refine zC ?_
  |with_reducible refine e2l ?_
  |with_reducible refine e2r ?_
  |exact zG (by omega) (by omega)
  |omega
  |(rw [zG (by omega) (by omega)];omega)
  |(simp only [beq_iff_eq] at*;omega)
  |(simp only [List.length_cons,List.length_nil] at*;exact zG (by omega) (by omega)))
theorem zGe (a1:Ty.El (zB)) (h0:RtS a1):Wp (x6 (a1,())) (fun _=>True):=by
 have hh0:=h0
 obtain ⟨p01,p02⟩:=hh0
 unfold x6
 try dsimp only
 repeat' (first
  |with_reducible exact trivial
  |assumption
  |contradiction
  |with_reducible refine zA ?_
  |with_reducible refine (u7 _ _ _).mono (fun r _=> ?_)
  |with_reducible refine (xI _ _ _ _ ?_).mono (fun r _=> ?_)
  |with_reducible refine (u9 _ _ ?_).mono (fun r _=> ?_)
  |with_reducible refine xR ?_ ?_ (fun y _ _=> ?_)
  |with_reducible refine wO ?_ ?_ (fun y _ _=> ?_)
  |with_reducible refine j8 (fun _=> ?_) (fun _=> ?_)
  |with_reducible refine zI (fun _=> ?_) (fun _=> ?_)
  |with_reducible refine zD (fun _=> ?_) (fun _=> ?_)
  |with_reducible refine qE ?_
  |with_reducible refine wU (fun s _ _=> ?_) (fun s _ _=> ?_)
  |simp only [wL ‹_[_]? =some _›,Option.bind_some]
  |with_reducible refine zAM ?_
  |with_reducible refine zC ?_
  |with_reducible refine e2l ?_
  |with_reducible refine e2r ?_
  |exact zG (by omega) (by omega)
  |omega
  |(rw [zG (by omega) (by omega)];omega)
  |(simp only [beq_iff_eq] at*;omega)
  |(simp only [List.length_cons,List.length_nil] at*;exact zG (by omega) (by omega)))
theorem zEn (a1:Ty.El (zB)) (h0:RtS a1):Wp (k7 (a1,())) (fun _=>True):=by
 have hh0:=h0
 obtain ⟨p01,p02⟩:=hh0
 unfold k7
 try dsimp only
 repeat' (first
  |with_reducible exact trivial
  |assumption
  |contradiction
  |with_reducible refine zA ?_
  |with_reducible refine (u7 _ _ _).mono (fun r _=> ?_)
  |with_reducible refine (xI _ _ _ _ ?_).mono (fun r _=> ?_)
  |with_reducible refine (u9 _ _ ?_).mono (fun r _=> ?_)
  |with_reducible refine xR ?_ ?_ (fun y _ _=> ?_)
  |with_reducible refine wO ?_ ?_ (fun y _ _=> ?_)
  |with_reducible refine j8 (fun _=> ?_) (fun _=> ?_)
  |with_reducible refine zI (fun _=> ?_) (fun _=> ?_)
  |with_reducible refine zD (fun _=> ?_) (fun _=> ?_)
  |with_reducible refine qE ?_
  |with_reducible refine wU (fun s _ _=> ?_) (fun s _ _=> ?_)
  |simp only [wL ‹_[_]? =some _›,Option.bind_some]
  |with_reducible refine zAM ?_
  |with_reducible refine zC ?_
  |with_reducible refine e2l ?_
  |with_reducible refine e2r ?_
  |exact zG (by omega) (by omega)
  |omega
  |(rw [zG (by omega) (by omega)];omega)
  |(simp only [beq_iff_eq] at*;omega)
  |(simp only [List.length_cons,List.length_nil] at*;exact zG (by omega) (by omega)))
theorem zEG (a1:Ty.El (zB)) (h0:RtS a1):Wp (uW (a1,())) (fun _=>True):=by
 have hh0:=h0
 obtain ⟨p01,p02⟩:=hh0
 unfold uW
 try dsimp only
 repeat' (first
  |with_reducible exact trivial
  |assumption
  |contradiction
  |with_reducible refine zA ?_
  |with_reducible refine (u7 _ _ _).mono (fun r _=> ?_)
  |with_reducible refine (xI _ _ _ _ ?_).mono (fun r _=> ?_)
  |with_reducible refine (u9 _ _ ?_).mono (fun r _=> ?_)
  |with_reducible refine xR ?_ ?_ (fun y _ _=> ?_)
  |with_reducible refine wO ?_ ?_ (fun y _ _=> ?_)
  |with_reducible refine j8 (fun _=> ?_) (fun _=> ?_)
  |with_reducible refine zI (fun _=> ?_) (fun _=> ?_)
  |with_reducible refine zD (fun _=> ?_) (fun _=> ?_)
  |with_reducible refine qE ?_
  |with_reducible refine wU (fun s _ _=> ?_) (fun s _ _=> ?_)
  |simp only [wL ‹_[_]? =some _›,Option.bind_some]
  |with_reducible refine zAM ?_
  |with_reducible refine zC ?_
  |with_reducible refine e2l ?_
  |with_reducible refine e2r ?_
  |exact zG (by omega) (by omega)
  |omega
  |(rw [zG (by omega) (by omega)];omega)
  |(simp only [beq_iff_eq] at*;omega)
  |(simp only [List.length_cons,List.length_nil] at*;exact zG (by omega) (by omega)))
theorem zHQ (a1:Ty.El (zB)) (h0:RtS a1):Wp (vN (a1,())) (fun _=>True):=by
 have hh0:=h0
 obtain ⟨p01,p02⟩:=hh0
 unfold vN
 try dsimp only
 repeat' (first
  |with_reducible exact trivial
  |assumption
  |contradiction
  |with_reducible refine zA ?_
  |with_reducible refine (u7 _ _ _).mono (fun r _=> ?_)
  |with_reducible refine (xI _ _ _ _ ?_).mono (fun r _=> ?_)
  |with_reducible refine (u9 _ _ ?_).mono (fun r _=> ?_)
  |with_reducible refine xR ?_ ?_ (fun y _ _=> ?_)
  |with_reducible refine wO ?_ ?_ (fun y _ _=> ?_)
  |with_reducible refine j8 (fun _=> ?_) (fun _=> ?_)
  |with_reducible refine zI (fun _=> ?_) (fun _=> ?_)
  |with_reducible refine zD (fun _=> ?_) (fun _=> ?_)
  |with_reducible refine qE ?_
  |with_reducible refine wU (fun s _ _=> ?_) (fun s _ _=> ?_)
  |simp only [wL ‹_[_]? =some _›,Option.bind_some]
  |with_reducible refine zAM ?_
  |with_reducible refine zC ?_
  |with_reducible refine e2l ?_
  |with_reducible refine e2r ?_
  |exact zG (by omega) (by omega)
  |omega
  |(rw [zG (by omega) (by omega)];omega)
  |(simp only [beq_iff_eq] at*;omega)
  |(simp only [List.length_cons,List.length_nil] at*;exact zG (by omega) (by omega)))
theorem zMq (a1:Ty.El (zB)) (h0:RtS a1):Wp (jJ (a1,())) (fun _=>True):=by
 have hh0:=h0
 obtain ⟨p01,p02⟩:=hh0
 unfold jJ
 try dsimp only
 repeat' (first
  |with_reducible exact trivial
  |assumption
  |contradiction
  |with_reducible refine zA ?_
  |with_reducible refine (zAc _).mono (fun r _=> ?_)
  |with_reducible refine (u7 _ _ _).mono (fun r _=> ?_)
  |with_reducible refine (xI _ _ _ _ ?_).mono (fun r _=> ?_)
  |with_reducible refine (u9 _ _ ?_).mono (fun r _=> ?_)
  |with_reducible refine (zGe _ ?_).mono (fun r _=> ?_)
  |with_reducible refine (zEn _ ?_).mono (fun r _=> ?_)
  |with_reducible refine (zEG _ ?_).mono (fun r _=> ?_)
  |with_reducible refine (zHQ _ ?_).mono (fun r _=> ?_)
  |with_reducible refine xR ?_ ?_ (fun y _ _=> ?_)
  |with_reducible refine wO ?_ ?_ (fun y _ _=> ?_)
  |with_reducible refine j8 (fun _=> ?_) (fun _=> ?_)
  |with_reducible refine zI (fun _=> ?_) (fun _=> ?_)
  |with_reducible refine zD (fun _=> ?_) (fun _=> ?_)
  |with_reducible refine qE ?_
  |with_reducible refine wU (fun s _ _=> ?_) (fun s _ _=> ?_)
  |simp only [wL ‹_[_]? =some _›,Option.bind_some]
  |with_reducible refine zAM ?_
  |with_reducible refine zC ?_
  |with_reducible refine e2l ?_
  |with_reducible refine e2r ?_
  |exact zG (by omega) (by omega)
  |omega
  |(rw [zG (by omega) (by omega)];omega)
  |(simp only [beq_iff_eq] at*;omega)
  |(simp only [List.length_cons,List.length_nil] at*;exact zG (by omega) (by omega)))
end Go.Ve

namespace Go.Ve
open Go
set_option maxRecDepth 1000000
set_option maxHeartbeats 4000000
structure RtB (x:Ty.El zB):Prop where
 path:x.2.2.2.2.2.2.2.2.1.length≤1152921504606846976
 hops:x.2.2.2.2.2.2.2.2.2.2.2.1.length≤1152921504606846976
theorem zJH (p:Ty.El zH) (a:Int):Wp (wN (p,a,())) (fun _=>True):=by
 unfold wN zDt zCv
 simp only [Option.bind_some]
 refine zC (zD (fun _=>zA (zA trivial)) (fun h=> ?_))
 exfalso
 simp only [decide_eq_false_iff_not] at h
 apply h
 split<;>split<;>(rw [zG (by omega) (by omega)];omega)
theorem zVN {α:Type} {m:Option α} {x:α} (h:Wp m (fun _=>True)):m=some (m.getD x):=by
 obtain ⟨r,h,_⟩:=h
 rw [h];rfl
noncomputable def zUF (p:Ty.El zH) (a:Int):Bool:=(wN (p,a,())).getD false
theorem zZG (p:Ty.El zH) (a:Int):wN (p,a,())=some (zUF p a):=zVN (zJH p a)
def vF (p q:Ty.El zH):Bool:=p.1==q.1&&(p.2.1==q.2.1&&true)
theorem zAg {p q:Ty.El zH} :vF p q=true↔p=q:=⟨fun h=>zGP h,fun h=>by subst h;simp [vF]⟩
noncomputable def zIl (own:Ty.El zH) (a:Int) (best:Option (Ty.El zB)) (x:Ty.El zB):Option (Ty.El zB):=
 if vF x.1 own|| !zUF x.1 a then best else match best with
  |none=>some x
  |some b=>if x.1.2.1>b.1.2.1 then some x else best
theorem zTT {own:Ty.El zH} {a:Int} {b:Option (Ty.El zB)} {x:Ty.El zB} (h:(vF x.1 own|| !zUF x.1 a)=true):zIl own a b x=b:=by
 unfold zIl;rw [if_pos h]
theorem zTU {own:Ty.El zH} {a:Int} {x:Ty.El zB} (h:(vF x.1 own|| !zUF x.1 a)=false):zIl own a none x=some x:=by
 unfold zIl;rw [if_neg (by rw [h];simp)]
theorem zNz {own:Ty.El zH} {a:Int} {b x:Ty.El zB} (h:(vF x.1 own|| !zUF x.1 a)=false):zIl own a (some b) x=if x.1.2.1>b.1.2.1 then some x else some b:=by
 unfold zIl;rw [if_neg (by rw [h];simp)]
noncomputable def zGJ (t:List (Ty.El zB)) (own:Ty.El zH) (a:Int):Option (Ty.El zB):=t.foldl (zIl own a) none
theorem zUg {α β:Type} {f:β→α→β} {b:β} {xs:List α} {i:Nat} {x:α} (h:xs[i]? =some x):(xs.take (i+1)).foldl f b=f ((xs.take i).foldl f b) x:=by
 rw [List.take_add_one,h]
 simp
theorem zGE (t:List (Ty.El zB)) (own:Ty.El zH) (a:Int) (hl:t.length<4611686018427387904):
  Wp (zA6 (t,own,a,())) (fun k=>(k<0∧zGJ t own a=none)∨ ∃ (i:Nat) (y:Ty.El zB),k=(i:Int)∧t[i]? =some y∧zGJ t own a=some y):=by
 unfold zA6
 dsimp only
 refine zC ((uT (xs:=t) hl (fun i (k:Int)=>(k<0∧(t.take i).foldl (zIl own a) none=none)∨ ∃ (m:Nat) (y:Ty.El zB),k=(m:Int)∧t[m]? =some y∧(t.take i).foldl (zIl own a) none=some y)
  (.inl ⟨by omega,rfl⟩) ?_ (fun g hg=> ?_) (Q:=fun k=>(k<0∧zGJ t own a=none)∨ ∃ (i:Nat) (y:Ty.El zB),k=(i:Int)∧t[i]? =some y∧zGJ t own a=some y)).mono (fun k hk=>zA hk))
 ·intro i x k hx hj
  rw [zUg hx]
  generalize (t.take i).foldl (zIl own a) none=b at hj
  simp only [zJ hx,Option.bind_some]
  refine zC ((show Wp _ (fun s:Bool=>s=(vF x.1 own|| !zUF x.1 a)) from ?_).mono ?_)
  ·refine zD (fun h=>zA ?_) (fun h=>zC (z7 (zZG _ _) (zA ?_)))
   ·have h':vF x.1 own=true:=h
    simp [h']
   ·have h':vF x.1 own=false:=h
    simp [h']
  intro s hs
  refine zD (fun h=>zA ?_) (fun h=> ?_)
  ·rw [zTT (by rw [←hs,h])]
   exact hj
  ·have hsk:(vF x.1 own|| !zUF x.1 a)=false:=by rw [←hs,h]
   rcases hj with ⟨h1,rfl⟩|⟨m,y,rfl,h2,rfl⟩
   ·refine zC (zD (fun _=>zA ?_) (fun h'=> ?_))
    ·exact zA (.inr ⟨i,x,rfl,hx,zTU hsk⟩)
    ·exfalso;simp only [decide_eq_false_iff_not] at h';exact h' h1
   ·refine zC (zD (fun h'=> ?_) (fun _=> ?_))
    ·exfalso;simp only [decide_eq_true_eq] at h';omega
    ·simp only [zJ h2,Option.bind_some]
     refine zA (zI (fun h'=> ?_) (fun h'=> ?_))
     ·exact zA (.inr ⟨i,x,rfl,hx,by rw [zNz hsk,if_pos h']⟩)
     ·exact zA (.inr ⟨m,y,rfl,h2,by rw [zNz hsk,if_neg h']⟩)
 ·rw [List.take_length] at hg
  exact hg
end Go.Ve

namespace Go.Ve
open Go
set_option maxRecDepth 1000000
set_option maxHeartbeats 4000000
def zG9 (e y:Ty.El zO):Bool:=y.1==e.1&&(y.2.1==e.2.1&&true)
theorem zKC {e y:Ty.El zO} :zG9 e y=true↔y=e:=⟨fun h=>zGP h,fun h=>by subst h;simp [zG9]⟩
def yR (v:Ty.El zR) (r i:Int):Int:=xE (fun d:Ty.El zAt=>d.2.2.1.any (zG9 (r,i,()))) v.2.1.1
def zM8 (v:Ty.El zR) (r i:Int):Int:=xE (fun l:Int=>decide (yR v r i≥0)&&l==yR v r i) v.2.1.2.1
def upB (v:Ty.El zR) (r i:Int):Bool:=decide (0≤yR v r i)&&v.2.2.1.all (fun x:Int=> !(x==zM8 v r i))
structure zDa (v:Ty.El zR):Prop where
 rs:v.1.1.length≤9
 sm: ∀y,y∈v.1.1→SmR y
 doms:v.2.1.1.length≤360
 ends : ∀ d, d ∈ v.2.1.1 → d.2.2.1.length ≤ 360
 links:v.2.1.2.1.length≤12
 link0: ∀l,l∈v.2.1.2.1→(0:Int)≤l
 down:v.2.2.1.length≤2
 down0: ∀l,l∈v.2.2.1→(0:Int)≤l
theorem xX.s {n:Ty.El zQ} {d:List Int} {v:Ty.El zR} (h:xX n d v):zDa v where
 rs:=by rw [h.net];exact h.rs
 sm:=by rw [h.net];exact h.sm
 doms:=h.topo.doms
 ends := fun d hd => (h.topo.ends d hd).1
 links:=h.topo.links
 link0:=fun l hl=>(h.topo.link l hl).1
 down:=by rw [h.dn];exact h.down.len
 down0:=by rw [h.dn];exact fun l hl=>(h.down.lo l hl).1
theorem zG5 {α:Type} {p:α→Bool} {xs:List α} :xE p xs≥0↔xs.any p=true:=by
 rcases zCr p xs with ⟨h,h2⟩|⟨i,x,h,h2,h3,_⟩
 ·rw [h]
  constructor
  ·intro h';omega
  ·intro h'
   obtain ⟨x,hx,hp⟩:=List.any_eq_true.1 h'
   rw [h2 x hx] at hp
   cases hp
 ·rw [h]
  exact ⟨fun _=>List.any_eq_true.2 ⟨x,List.mem_of_getElem? h2,h3⟩,fun _=>by omega⟩
theorem zHE {α:Type} {p:α→Bool} {xs:List α} (h:0≤xE p xs): ∃x,xs[(xE p xs).toNat]? =some x∧p x=true:=by
 rcases zCr p xs with ⟨h1,h2⟩|⟨i,x,h1,h2,h3,_⟩
 ·omega
 ·rw [h1];exact ⟨x,by simpa using h2,h3⟩
theorem zGf (l:List (Ty.El zO)) (e:Ty.El zO) (hl:l.length≤1048576):Wp (zAw (l,e,())) (fun k=>k=xE (zG9 e) l):=by
 unfold zAw
 dsimp only
 refine zAs (p:=zG9 e) (by omega) ?_ rfl
 intro i x hx
 simp only [zJ hx,Option.bind_some]
 have:(e.1==x.1&&(e.2.1==x.2.1&&true))=zG9 e x:=by
  unfold zG9
  rw [Bool.eq_iff_iff]
  simp only [Bool.and_true,Bool.and_eq_true,beq_iff_eq]
  exact ⟨fun h=>⟨h.1.symm,h.2.symm⟩,fun h=>⟨h.1.symm,h.2.symm⟩⟩
 rw [this]
 cases zG9 e x<;>rfl
theorem zEo (l:List (Ty.El zO)) (e:Ty.El zO) (hl:l.length≤1048576):Wp (uV (l,e,())) (fun b=>b=l.any (zG9 e)):=by
 unfold uV
 dsimp only
 refine zC ((zGf l e hl).mono (fun k hk=>zA ?_))
 subst hk
 rw [Bool.eq_iff_iff,decide_eq_true_eq]
 exact zG5
theorem zCj (v:Ty.El zR) (r i:Int) (hv:zDa v):Wp (zBk (v,r,i,())) (fun k=>k=yR v r i):=by
 unfold zBk
 dsimp only
 have:=hv.doms
 refine zAs (p:=fun d:Ty.El zAt=>d.2.2.1.any (zG9 (r,i,()))) (by omega) ?_ rfl
 intro k x hx
 simp only [zJ hx,Option.bind_some]
 have:=hv.ends x (List.mem_of_getElem? hx)
 have h1:=j2 (zEo x.2.2.1 (r,i,()) (by omega))
 refine (congrArg (fun m=>Option.bind m _) h1).trans ?_
 simp only [Option.bind_some]
 cases List.any x.2.2.1 (zG9 (r,i,()))<;>rfl
theorem zB8 (l:List Int) (e:Int) (hl:l.length≤1048576):Wp (yC (l,e,())) (fun k=>k=xE (fun x=>x==e) l):=by
 unfold yC
 dsimp only
 refine zAs (p:=fun x:Int=>x==e) (by omega) ?_ rfl
 intro i (x:Int) hx
 simp only [zJ hx,Option.bind_some]
 have:(e==x)=(x==e):=by rw [Bool.eq_iff_iff,beq_iff_eq,beq_iff_eq];exact eq_comm
 rw [this]
 cases x==e<;>rfl
theorem zAU (l:List Int) (e:Int) (hl:l.length≤1048576):Wp (vR (l,e,())) (fun b=>b=l.any (fun x=>x==e)):=by
 unfold vR
 dsimp only
 refine zC ((zB8 l e hl).mono (fun k hk=>zA ?_))
 subst hk
 rw [Bool.eq_iff_iff,decide_eq_true_eq]
 exact zG5
theorem zNu (v:Ty.El zR) (r i:Int) (hv:zDa v):Wp (zHs (v,r,i,())) (fun k=>k=zM8 v r i):=by
 unfold zHs
 dsimp only
 refine zC ((zCj v r i hv).mono (fun k hk=> ?_))
 subst hk
 refine zI (fun h=>zA ?_) (fun h=> ?_)
 ·unfold zM8
  rw [zLv]
  intro x _
  have: ¬(yR v r i≥0):=by omega
  simp [this]
 ·have:=hv.links
  refine zC ((zB8 _ _ (by omega)).mono (fun k hk=>zA ?_))
  rw [hk]
  unfold zM8
  have h2:yR v r i≥0:=by omega
  congr 1
  funext l
  simp [h2]
theorem zTt {α:Type} {p:α→Bool} (l:List α):(!l.any p)=l.all (fun x=> !p x):=by
 induction l with
 |nil=>rfl
 |cons x l ih=>simp [←ih]
theorem zFh (v:Ty.El zR) (r i:Int) (hv:zDa v):Wp (zHr (v,r,i,())) (fun b=>b=upB v r i):=by
 unfold zHr
 dsimp only
 refine zC ((zCj v r i hv).mono (fun k hk=> ?_))
 subst hk
 refine zI (fun h=>zA ?_) (fun h=> ?_)
 ·unfold upB
  have: ¬(0≤yR v r i):=by omega
  simp [this]
 ·refine zC ((zNu v r i hv).mono (fun k hk=> ?_))
  subst hk
  have h0:0≤yR v r i:=by omega
  have hd:=hv.down
  refine zC (zI (fun h=>zA (zA ?_)) (fun h=> ?_))
  ·unfold upB
   simp only [h0,decide_true,Bool.true_and]
   symm
   rw [List.all_eq_true]
   intro x hx
   have:=hv.down0 x hx
   simp only [Bool.not_eq_true',beq_eq_false_iff_ne]
   omega
  ·refine zC ((zAU _ _ (by omega)).mono (fun b hb=>zA (zA ?_)))
   subst hb
   unfold upB
   simp only [h0,decide_true,Bool.true_and]
   exact zTt _
def zOd (r:Ty.El zF) (nm:Ty.El .str):Int:=xE (fun x:Ty.El qG=>x.1==nm) r.2.2.1
theorem zGF (r:Ty.El zF) (nm:Ty.El .str) (hr:SmR r):Wp (zA9 (r,nm,())) (fun k=>k=zOd r nm):=by
 unfold zA9 wV zBg
 dsimp only
 have:=hr.i1
 refine zC (zAs (p:=fun x:Ty.El qG=>x.1==nm) (by omega) ?_ (zA rfl))
 intro i x hx
 simp only [zJ hx,Option.bind_some]
 cases x.1==nm<;>rfl
theorem zHU (r:Ty.El zF) (nm:Ty.El .str) (hr:SmR r):Wp (yG (r,nm,())) (fun k=>k=zOd r nm):=by
 unfold yG
 dsimp only
 have:=hr.i1
 refine zAs (p:=fun x:Ty.El qG=>x.1==nm) (by omega) ?_ rfl
 intro i x hx
 simp only [zJ hx,Option.bind_some]
 cases x.1==nm<;>rfl
end Go.Ve

namespace Go.Ve
open Go
set_option maxRecDepth 1000000
set_option maxHeartbeats 4000000
def jW (n:Int):Nat:=min n.toNat 32
def zBU (k:Nat):BitVec 32:=BitVec.allOnes 32<<< (32-k)
theorem zHM (n:Int):jW n≤32:=Nat.min_le_right _ _
theorem zWT {x:Int} (h0:0≤x) (h1:x<4294967296):IntKind.wrap .u32 x=x:=by
 have e1:((2:Int)^IntKind.bits .u32)=4294967296:=by decide
 simp only [IntKind.wrap,IntKind.signed,Bool.false_and,Bool.false_eq_true,if_false,e1]
 omega
theorem zQq (x:BitVec 32):IntKind.wrap .u32 (x.toNat:Int)=(x.toNat:Int):=zWT (by omega) (by have:=x.isLt;omega)
theorem zGZ (x:BitVec 32):BitVec.ofInt 32 (x.toNat:Int)=x:=by
 rw [BitVec.ofInt_natCast,BitVec.ofNat_toNat,BitVec.setWidth_eq]
theorem zVK: ∀i,i<32→zBU i|||BitVec.ofInt 32 (IntKind.wrap .u32 (1*2^min (31-i) 32))=zBU (i+1):=by decide+kernel
theorem zV7:zBU 0=0#32:=by decide+kernel
theorem zRu: ∀k,k<33→IntKind.wrap .u32 (4294967295*2^min (32-k) 32)=((zBU k).toNat:Int):=by decide+kernel
theorem zDz (n:Int):Wp (zBn (n,())) (fun m=>m=((zBU (jW n)).toNat:Int)):=by
 unfold zBn
 dsimp only
 refine zC ((zRy (n:=32) (by omega) (fun i (m:Int)=>m=((zBU (min i (jW n))).toNat:Int)) (by simp [zV7]) (fun i g _=>by simp) ?_ (Q:=fun m=>m=((zBU (jW n)).toNat:Int)) (fun g hg=>by
  rw [hg,Nat.min_eq_right (zHM n)])).mono (fun m hm=>zA hm))
 intro i g hi hg
 subst hg
 refine zI (fun h=> ?_) (fun h=>zA ?_)
 ·have h:(i:Int)<n:=h
  have hk:i<jW n:=by unfold jW;omega
  refine zI (fun _=>zA ?_) (fun h'=>absurd ?_ h')
  ·have e1:min i (jW n)=i:=by omega
   have e2:min (i+1) (jW n)=i+1:=by omega
   rw [e1,e2]
   dsimp only
   rw [zG (by omega) (by omega),zJA (by omega) (by omega),show ((31:Int) - (i:Int)).toNat=31-i by omega]
   change IntKind.wrap .u32 (((BitVec.ofInt 32 ((zBU i).toNat:Int)|||BitVec.ofInt 32 (IntKind.wrap .u32 (1*2^min (31-i) 32))).toNat:Nat):Int)=_
   rw [zGZ,zVK i hi,zQq]
  ·simp only
   rw [zG (by omega) (by omega),zJA (by omega) (by omega)]
   omega
 ·have h: ¬((i:Int)<n):=h
  have hk:jW n≤i:=by unfold jW;omega
  rw [Nat.min_eq_right hk,Nat.min_eq_right (by omega)]
theorem zS9 (n:Int):(if (if (32:Int)<n then (32:Int) else n)>(0:Int) then if (32:Int)<n then (32:Int) else n else (0:Int))=(jW n:Int):=by
 unfold jW
 split<;>split<;>omega
theorem zWD (n:Int):(if (0:Int)>if (32:Int)<n then (32:Int) else n then (0:Int) else if (32:Int)<n then (32:Int) else n)=(jW n:Int):=by
 unfold jW
 split<;>split<;>omega
theorem zJt (n:Int):jW ((jW n:Nat):Int)=jW n:=by
 unfold jW
 omega
theorem zGG (n:Int):zDt (n,())=some ((zBU (jW n)).toNat:Int):=by
 have hle:=zHM n
 unfold zDt zCv
 simp only [zS9,Option.bind_some]
 rw [zG (by omega) (by omega)]
 have h0:(0:Int)≤32- ((jW n:Nat):Int):=by omega
 simp only [h0,decide_true,cond_true]
 rw [show ((32:Int) - ((jW n:Nat):Int)).toNat=32-jW n by omega]
 exact congrArg some (zRu _ (by omega))
def zAi (a n:Int):Ty.El zH:=(((BitVec.ofInt 32 a&&&zBU (jW n)).toNat:Int),(jW n:Int),())
def zCg (p:Ty.El zH) (a:Int):Bool:=(((BitVec.ofInt 32 a&&&zBU (jW p.2.1)).toNat:Nat):Int)==p.1
theorem zRs (a:Int) (k:Nat):IntKind.wrap .u32 (((BitVec.ofInt (IntKind.bits .u32) a&&&BitVec.ofInt (IntKind.bits .u32) ((zBU k).toNat:Int)).toNat:Nat):Int)=((BitVec.ofInt 32 a&&&zBU k).toNat:Int):=by
 change IntKind.wrap .u32 (((BitVec.ofInt 32 a&&&BitVec.ofInt 32 ((zBU k).toNat:Int)).toNat:Nat):Int)=_
 rw [zGZ,zQq]
theorem zJQ (a n:Int):zDk (a,n,())=some (zAi a n):=by
 refine j2 ?_
 unfold zDk
 dsimp only
 refine zC (z7 (zGG _) ?_)
 unfold zCv
 simp only [zS9,Option.bind_some]
 refine zA ?_
 unfold zAi
 rw [zRs]
theorem x4 (a n:Int):w9 (a,n,())=some (zAi a n):=by
 refine j2 ?_
 unfold w9
 simp only [zWD]
 refine zC ((zDz _).mono (fun m hm=>zA ?_))
 subst hm
 unfold zAi
 rw [zJt,zRs]
theorem zIP (p:Ty.El zH) (a:Int):xS (p,a,())=some (zCg p a):=by
 refine j2 ?_
 unfold xS
 dsimp only
 refine zC ((zDz _).mono (fun m hm=>zA ?_))
 subst hm
 rw [zRs]
 rfl
theorem zIR (p:Ty.El zH) (a:Int):wN (p,a,())=some (zCg p a):=by
 refine j2 ?_
 unfold wN
 dsimp only
 refine zC (z7 (zGG _) (zA ?_))
 rw [zRs]
 rfl
theorem zV4 (a n:Int):zCg (zAi a n) (zAi a n).1=true:=by
 unfold zCg zAi
 simp only [zJt,zGZ]
 rw [BitVec.and_assoc,BitVec.and_self]
 simp
theorem zEJ (p q:Ty.El zH):zAe (p,q,())=some (decide (p.2.1≤q.2.1)&&zCg p q.1):=by
 refine j2 ?_
 unfold zAe
 dsimp only
 refine zC (zD (fun h=>zC (z7 (zIP _ _) (zA (zA ?_)))) (fun h=>zA (zA ?_)))<;>(rw [h];rfl)
theorem zIO (p q:Ty.El zH):uK (p,q,())=some ((decide (p.2.1≤q.2.1)&&zCg p q.1)||(decide (q.2.1≤p.2.1)&&zCg q p.1)):=by
 refine j2 ?_
 unfold uK
 dsimp only
 refine zC (zC (z7 (zEJ _ _) (zD (fun h=>zA (zA ?_)) (fun h=>zC (z7 (zEJ _ _) (zA (zA ?_)))))))<;>(rw [h];rfl)
def vB (p:Ty.El zH):Bool:=decide (p.2.1≥0)&&(decide (p.2.1≤32)&&(BitVec.ofInt 32 p.1&&& ~~~ zBU (jW p.2.1))==0#32)
theorem wS (p:Ty.El zH):w4 (p,())=some (vB p):=by
 refine j2 ?_
 unfold w4 vB
 dsimp only
 refine zC (zD (fun h=>zD (fun h'=>zC ((zDz _).mono (fun m hm=>zA (zA ?_)))) (fun h'=>zA (zA ?_))) (fun h=>zA (zA ?_)))
 ·subst hm
  rw [h,h']
  simp only [Bool.true_and]
  change (IntKind.wrap .u32 (((BitVec.ofInt 32 p.1&&& ~~~ BitVec.ofInt 32 ((zBU (jW p.2.1)).toNat:Int)).toNat:Nat):Int)==(0:Int))=_
  rw [zGZ,zQq,Bool.eq_iff_iff,beq_iff_eq,beq_iff_eq]
  constructor
  ·intro h
   apply BitVec.eq_of_toNat_eq
   simp only [BitVec.toNat_ofNat]
   omega
  ·intro h
   rw [h];rfl
 ·rw [h,h'];rfl
 ·rw [h];rfl
end Go.Ve

namespace Go.Ve
open Go
set_option maxRecDepth 1000000
set_option maxHeartbeats 4000000
section
variable {ρ:Type}
theorem zYT {n:Nat} {body:Int→Option (Int ⊕ (Unit ⊕ ρ))} {Q:Unit ⊕ ρ→Prop} (hl:n<4611686018427387904) (J:Nat→Prop) (h0:J 0)
  (step: ∀i,i<n→J i→Wp (body (i:Int)) (vJ (fun s'=>s'=IntKind.wrap IntKind.i64 ((i:Int)+1)∧J (i+1)) Q)) (fin:J n→Q (Sum.inl ())):
  Wp (zN (fun s:Int=>bif decide (s< (n:Int)) then body s else some (Sum.inr (Sum.inl ()))) (0:Int)) Q:=by
 refine j7 (fun (s:Int)=> ∃i:Nat,s=(i:Int)∧i≤n∧J i) (fun (s:Int)=>((n:Int) -s).toNat) ⟨(0:Nat),rfl,Nat.zero_le _,h0⟩ ?_
 rintro s ⟨i,hi,hle,hj⟩
 subst hi
 refine zI ?_ ?_
 ·intro hc
  have hlt:i<n:=by omega
  refine (step i hlt hj).mono ?_
  intro o ho
  cases o with
  |inl s'=>
   obtain ⟨rfl,h2⟩:=ho
   rw [zG (by omega) (by omega)]
   exact ⟨⟨i+1,by omega,hlt,h2⟩,by omega⟩
  |inr o=>exact ho
 ·intro hc
  have:i=n:=by omega
  subst this
  exact zA (e2r (fin hj))
theorem zBy {n:Nat} {P:Nat→Prop} {body:Int→Option (Int ⊕ (Unit ⊕ ρ))} {Q:Unit ⊕ ρ→Prop} (hl:n<4611686018427387904)
  (step: ∀i,i<n→Wp (body (i:Int)) (vJ (fun s'=>s'=IntKind.wrap IntKind.i64 ((i:Int)+1)∧P i) Q)) (fin:(∀i,i<n→P i)→Q (Sum.inl ())):
  Wp (zN (fun s:Int=>bif decide (s< (n:Int)) then body s else some (Sum.inr (Sum.inl ()))) (0:Int)) Q:=by
 refine zYT hl (fun i=> ∀j,j<i→P j) (fun j hj=>by omega) ?_ fin
 intro i hi hj
 refine (step i hi).mono ?_
 intro o ho
 cases o with
 |inl s'=>
  refine ⟨ho.1,?_⟩
  intro j hj'
  rcases Nat.lt_or_ge j i with h'|h'
  ·exact hj j h'
  ·have:j=i:=by omega
   subst this
   exact ho.2
 |inr o=>exact ho
end
theorem zYS {σ ρ:Type} {m:Option (σ ⊕ ρ)} {K:σ→Option ρ} {Q:ρ→Prop} (P:σ→Prop) (h:Wp m (vJ P Q)) (hK: ∀s,P s→Wp (K s) Q):Wp (q8 m K) Q:=by
 refine qE (h.mono ?_)
 intro o ho
 cases o with
 |inl s=>exact hK s ho
 |inr r=>exact ho
theorem zY (a lo hi:Int):zX (a,lo,hi,())=some (decide (lo≤a)&&decide (a≤hi)):=by
 refine j2 ?_
 unfold zX
 dsimp only
 refine zC (zD (fun h=>zA (zA ?_)) (fun h=>zA (zA ?_)))<;>(rw [h];rfl)
theorem q9 (a lo hi:Int):qS (a,lo,hi,())=some (decide (lo≤a)&&decide (a≤hi)):=by
 refine j2 ?_
 unfold qS
 dsimp only
 refine zC (zD (fun h=>zA (zA ?_)) (fun h=>zA (zA ?_)))<;>(rw [h];rfl)
def ovB (p q:Ty.El zH):Bool:=(decide (p.2.1≤q.2.1)&&zCg p q.1)||(decide (q.2.1≤p.2.1)&&zCg q p.1)
theorem zSi (a n:Int):ovB (zAi a n) (zAi a n)=true:=by
 unfold ovB
 rw [zV4]
 simp
structure zZ8 (l:List (Ty.El qG)) (i:Nat) (x:Ty.El qG):Prop where
 name: ∀j y,j<i→l[j]? =some y→y.1≠x.1
 len:0≤x.2.2.1∧x.2.2.1≤32
 addr:x.2.2.1≠0→x.2.1≠0
 ls:x.2.2.2.2.2.1=true→(0≤x.2.2.2.2.2.2.1∧x.2.2.2.2.2.2.1≤255)∧1≤x.2.2.2.2.2.2.2.1∧x.2.2.2.2.2.2.2.1≤65535
 apart: ∀j y,j<i→l[j]? =some y→x.2.2.1≠0→y.2.2.1≠0→ovB (zAi x.2.1 x.2.2.1) (zAi y.2.1 y.2.2.1)=false
def zZ7 (l:List (Ty.El qG)):Prop:= ∀i x,l[i]? =some x→zZ8 l i x
theorem zOO (l:List (Ty.El qG)) (h0:l.length≤20):Wp (kU (l,())) (fun e=>e=0→zZ7 l∧l.length≤8):=by
 unfold kU
 dsimp only
 refine zI (fun _=>zA (fun h=>by cases h)) (fun h=> ?_)
 refine zA5 (by omega) (fun i=> ∀m x,m<i→l[m]? =some x→zZ8 l m x) (fun m x hm=>by omega) ?_ (fun hj=>zA (fun _=>⟨fun i x hx=>hj i x (List.getElem?_eq_some_iff.1 hx).1 hx,by omega⟩))
 intro i x hx hj
 have hi:=(List.getElem?_eq_some_iff.1 hx).1
 simp only [zJ hx,Option.bind_some]
 refine qE (zC ((v6 _).mono (fun b _=> ?_)))
 refine zD (fun _=>zA (fun h=>by cases h)) (fun _=> ?_)
 refine qE (zBy (n:=i) (P:=fun j=> ∀y,l[j]? =some y→y.1≠x.1) (by omega) ?_ (fun hname=> ?_))
 ·intro j hjl
  have hy:l[j]? =some l[j]:=by simp
  simp only [zJ hy,Option.bind_some]
  refine zD (fun _=>zA (fun h=>by cases h)) (fun hn=>zA (e2l ⟨rfl,?_⟩))
  intro y hy'
  rw [hy] at hy'
  cases hy'
  simpa using hn
 ·refine e2l (zC ((show Wp _ (fun s:Bool=>s=false→0≤x.2.2.1∧x.2.2.1≤32) from ?_).mono (fun s hs=> ?_)))
  ·refine zC (z7 (zY _ _ _) (zD (fun _=>zA (fun h=>by cases h)) (fun h1=>zC (z7 (zY _ _ _) (zD (fun _=>zA (fun h=>by cases h)) (fun _=>zC (z7 (zY _ _ _) (zA (fun _=> ?_)))))))))
   simpa using h1
  refine zD (fun _=>zA (fun h=>by cases h)) (fun h1=> ?_)
  have hlen:=hs h1
  refine zC ((show Wp _ (fun s:Bool=>s=false→x.2.2.1≠0→x.2.1≠0) from ?_).mono (fun s hs=> ?_))
  ·refine zD (fun hz=> ?_) (fun hz=> ?_)
   ·have hz:x.2.2.1=0:=by simpa using hz
    repeat' (first
     |exact zA (fun _ hne=>absurd hz hne)
     |refine zD (fun _=> ?_) (fun _=> ?_))
   ·refine zD (fun _=>zA (fun h' _=>by simpa using h')) (fun h'=>zA (fun _ hne=> ?_))
    rw [hz] at*
    exact absurd (show x.2.2.1=0 by simpa using h') hne
  refine zD (fun _=>zA (fun h=>by cases h)) (fun h2=> ?_)
  have haddr:=hs h2
  refine zC ((show Wp _ (fun s:Bool=>s=false→x.2.2.2.2.2.1=true→(0≤x.2.2.2.2.2.2.1∧x.2.2.2.2.2.2.1≤255)∧1≤x.2.2.2.2.2.2.2.1∧x.2.2.2.2.2.2.2.1≤65535) from ?_).mono (fun s hs=> ?_))
  ·refine zD (fun hz=> ?_) (fun hz=> ?_)
   ·refine zC (z7 (zY _ _ _) (zD (fun _=>zA (fun h=>by cases h)) (fun h3=>zC (z7 (zY _ _ _) (zD (fun _=>zA (fun h=>by cases h)) (fun h4=> ?_))))))
    have h3:0≤x.2.2.2.2.2.2.1∧x.2.2.2.2.2.2.1≤255:=by simpa using h3
    have h4:1≤x.2.2.2.2.2.2.2.1∧x.2.2.2.2.2.2.2.1≤65535:=by simpa using h4
    repeat' (first
     |exact zA (fun _ _=>⟨h3,h4⟩)
     |refine zD (fun _=> ?_) (fun _=> ?_))
   ·repeat' (first
     |exact zA (fun _ ht=>by rw [hz] at ht;cases ht)
     |refine zD (fun _=> ?_) (fun _=> ?_))
  refine zD (fun _=>zA (fun h=>by cases h)) (fun h3=> ?_)
  have hls:=hs h3
  refine zBy (n:=i) (P:=fun j=> ∀y,l[j]? =some y→x.2.2.1≠0→y.2.2.1≠0→ovB (zAi x.2.1 x.2.2.1) (zAi y.2.1 y.2.2.1)=false) (by omega) ?_ (fun hap=> ?_)
  ·intro j hjl
   have hy:l[j]? =some l[j]:=by simp
   simp only [zJ hy,Option.bind_some]
   refine zC ((show Wp _ (fun s:Bool=>s=false→x.2.2.1≠0→l[j].2.2.1≠0→ovB (zAi x.2.1 x.2.2.1) (zAi l[j].2.1 l[j].2.2.1)=false) from ?_).mono (fun s hs=> ?_))
   ·refine zD (fun _=>zD (fun _=> ?_) (fun hz=>zA (fun _ _ hne=> ?_))) (fun hz=>zA (fun _ hne=> ?_))
    ·exact zC (z7 (x4 _ _) (zC (z7 (x4 _ _) (zC (z7 (zIO _ _) (zA (fun h _ _=>h)))))))
    ·exact absurd (show l[j].2.2.1=0 by simpa using hz) hne
    ·exact absurd (show x.2.2.1=0 by simpa using hz) hne
   ·refine zD (fun _=>zA (fun h=>by cases h)) (fun hn=>zA (e2l ⟨rfl,?_⟩))
    intro y hy'
    rw [hy] at hy'
    cases hy'
    exact hs hn
  ·refine e2l (zA (e2l ⟨rfl,?_⟩))
   intro m z hm hz
   rcases Nat.lt_or_ge m i with h'|h'
   ·exact hj m z h' hz
   ·have:m=i:=by omega
    subst this
    rw [hx] at hz
    cases hz
    exact ⟨fun j y hjl hy=>hname j hjl y hy,hlen,haddr,hls,fun j y hjl hy=>hap j hjl y hy⟩
structure zZ5 (r:Ty.El zF) (x:Ty.El zFd):Prop where
 pre:vB x.1=true
 admin:1≤x.2.2.2.2.1∧x.2.2.2.2.1≤255
 tag:0≤x.2.2.2.2.2.1∧x.2.2.2.2.2.1≤65535
 one:(x.2.1≠0∧x.2.2.1= { data:= #[] } ∧x.2.2.2.1=false)∨(x.2.1=0∧x.2.2.1≠ { data:= #[] } ∧x.2.2.2.1=false)∨(x.2.1=0∧x.2.2.1= { data:= #[] } ∧x.2.2.2.1=true)
 iface:x.2.2.1≠ { data:= #[] } →0≤zOd r x.2.2.1
def zZ4 (r:Ty.El zF):Prop:= ∀x,x∈r.2.2.2.2.2.2.2.1→zZ5 r x
theorem zTb (r:Ty.El zF) (hr:SmR r):Wp (zAz (r,())) (fun e=>e=0→zZ4 r):=by
 have hs6:=hr.i6
 unfold zAz
 dsimp only
 refine zI (fun _=>zA (fun h=>by cases h)) (fun h=> ?_)
 refine zAb (P:=zZ5 r) (by omega) ?_ (fun hj=>zA (fun _=>hj))
 intro i x hx
 have hi:=(List.getElem?_eq_some_iff.1 hx).1
 simp only [zJ hx,Option.bind_some]
 refine qE ?_
 have w1:IntKind.wrap .i64 ((0:Int)+1)=1:=by decide
 have w2:IntKind.wrap .i64 ((1:Int)+1)=2:=by decide
 have w3:IntKind.wrap .i64 ((2:Int)+1)=3:=by decide
 refine zC ((show Wp _ (fun k:Int=>k=if x.2.1≠0 then 1 else 0) from ?_).mono (fun k1 hk1=> ?_))
 ·refine zD (fun h=>zA ?_) (fun h=>zA ?_)
  ·rw [w1,if_pos (by simpa using h)]
  ·rw [if_neg (by simpa using h)]
 refine zC ((show Wp _ (fun k:Int=>k=k1+if x.2.2.1≠ { data:= #[] } then 1 else 0) from ?_).mono (fun k2 hk2=> ?_))
 ·refine zD (fun h=>zA ?_) (fun h=>zA ?_)
  ·rw [if_pos (by simpa using h)]
   split at hk1<;>(subst hk1;first|exact w1|exact w2)
  ·rw [if_neg (by simpa using h)];omega
 refine zC ((show Wp _ (fun k:Int=>k=k2+if x.2.2.2.1=true then 1 else 0) from ?_).mono (fun k3 hk3=> ?_))
 ·refine zD (fun h=>zA ?_) (fun h=>zA ?_)
  ·have h:x.2.2.2.1=true:=h
   rw [if_pos h]
   split at hk1<;>split at hk2<;>(subst hk1;subst hk2;first|exact w1|exact w2|exact w3)
  ·have h:x.2.2.2.1=false:=h
   rw [if_neg (by rw [h];simp)];omega
 refine zC ((show Wp _ (fun s:Bool=>s=false→vB x.1=true∧k3=1∧(1≤x.2.2.2.2.1∧x.2.2.2.2.1≤255)∧0≤x.2.2.2.2.2.1∧x.2.2.2.2.2.1≤65535) from ?_).mono (fun s hs=> ?_))
 ·refine zC (z7 (wS _) (zD (fun _=>zA (fun h=>by cases h)) (fun h1=>zD (fun _=>zA (fun h=>by cases h)) (fun h2=> ?_))))
  have h1:vB x.1=true:=by simpa using h1
  have h2:k3=1:=by simpa using h2
  refine zD (fun _=>zC ((zCh r x.2.1 hr).mono (fun k _=>zI (fun _=>zA (fun h=>by cases h)) (fun _=> ?_)))) (fun _=> ?_)
  all_goals
   refine zC (z7 (zY _ _ _) (zD (fun _=>zA (fun h=>by cases h)) (fun h3=>zC (z7 (zY _ _ _) (zA (fun h4=>⟨h1,h2,?_,?_⟩))))))
   ·simpa using h3
   ·simpa using h4
 refine zD (fun _=>zA (fun h=>by cases h)) (fun h1=> ?_)
 obtain ⟨g1,g2,g3,g4⟩:=hs h1
 refine zYS (fun _:Unit=>x.2.2.1≠ { data:= #[] } →0≤zOd r x.2.2.1) ?_ (fun _ hif=> ?_)
 ·refine zD (fun hne=> ?_) (fun hne=>zA (e2l (fun h=>absurd h (by simpa using hne))))
  refine zC ((zHU r _ hr).mono (fun k hk=> ?_))
  subst hk
  refine zI (fun _=>zA (fun h=>by cases h)) (fun hk=> ?_)
  have hk0:0≤zOd r x.2.2.1:=Int.not_lt.1 hk
  obtain ⟨y,hy,_⟩:=zHE (p:=fun x':Ty.El qG=>x'.1==x.2.2.1) (xs:=r.2.2.1) hk0
  refine zC (z7 (zZu hk0 hy) (zD (fun _=>zA (fun h=>by cases h)) (fun _=>zA (e2l (fun _=>hk0)))))
 ·refine zBy (n:=i) (P:=fun _=>True) (by omega) ?_ (fun _=>e2l (zA (e2l ⟨rfl,g1,g3,g4,?_,hif⟩)))
  ·intro j hjl
   have hy:r.2.2.2.2.2.2.2.1[j]? =some r.2.2.2.2.2.2.2.1[j]:=by simp
   simp only [zJ hy,Option.bind_some]
   refine zC ((show Wp _ (fun _:Bool=>True) from ?_).mono (fun s _=>zD (fun _=>zA (fun h=>by cases h)) (fun _=>zA (e2l ⟨rfl,trivial⟩))))
   exact zD (fun _=>zA trivial) (fun _=>zA trivial)
  ·rw [hk3,hk2,hk1] at g2
   by_cases c1:x.2.1=0<;>by_cases c2:x.2.2.1= { data:= #[] } <;>cases c3:x.2.2.2.1<;>simp [c1,c2,c3] at g2 ⊢
end Go.Ve

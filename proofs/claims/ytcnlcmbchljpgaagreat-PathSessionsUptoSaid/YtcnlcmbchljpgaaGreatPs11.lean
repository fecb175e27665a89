/-
  Plain laws, part 1: what partial values come to.
  Plain laws, part 2: loops over lists.
  Plain laws, part 3: loops over lists within loops.
  Plain laws: sorting by insertion.
  Plain laws: prefixes in order; domains in order.
  Plain laws: the checks of a network always answer.
  Plain laws: the topology of a network is built, and what it is made of.
  Plain laws: the topology of a network is built: the walk.
  Plain laws: views.
  Plain laws: the checks of routes and tables always answer.
  Plain laws: equal routes; static routes that are active.
  Plain laws: interfaces that are up.
  Plain laws: masks, networks, and what prefixes contain.
  Plain laws: what the checks of a network say of its interfaces and static routes.
  Plain laws: what the checks of a network say.
  Plain laws: prefixes in order; the sorting of routes; connected routes.
-/
import Derived.Test.YtcnlcmbchljpgaaGreatPs9
import Derived.Test.YtcnlcmbchljpgaaGreatPs10
set_option linter.unusedVariables false
namespace Go.Ve
open Go
def Wp {α:Type} (m:Option α) (Q:α→Prop):Prop:= ∃r,m=some r∧Q r
section
variable {α β ρ σ:Type}
theorem Wp.mono {m:Option α} {Q Q':α→Prop} (h:Wp m Q) (hq: ∀r,Q r→Q' r):Wp m Q':=by
 obtain ⟨r,h1,h2⟩:=h;exact ⟨r,h1,hq r h2⟩
theorem zB {x:α} {Q:α→Prop} (h:Q x):Wp (some x) Q:=⟨x,rfl,h⟩
theorem zC {m:Option α} {f:α→Option β} {Q:β→Prop} (h:Wp m (fun y=>Wp (f y) Q)):Wp (Option.bind m f) Q:=by
 obtain ⟨y,rfl,h⟩:=h;exact h
theorem zAj {m:Option α} {f:α→Option β} {Q:β→Prop} (h:Wp m (fun _=>True)) (k: ∀y,m=some y→Wp (f y) Q):Wp (Option.bind m f) Q:=by
 obtain ⟨y,rfl,_⟩:=h;exact k y rfl
theorem zG {c:Bool} {x y:Option α} {Q:α→Prop} (h1:c=true→Wp x Q) (h2:c=false→Wp y Q):Wp (bif c then x else y) Q:=by
 cases c
 ·exact h2 rfl
 ·exact h1 rfl
theorem zHP {m:Option α} {f:α→β} {Q:β→Prop} (h:Wp m (fun y=>Q (f y))):Wp (Option.map f m) Q:=by
 obtain ⟨y,rfl,h⟩:=h;exact ⟨_,rfl,h⟩
def w4 (P:σ→Prop) (Q:ρ→Prop):σ ⊕ ρ→Prop
 | .inl s=>P s
 | .inr r=>Q r
theorem e2l {P:σ→Prop} {Q:ρ→Prop} {s:σ} (h:P s):w4 P Q (.inl s):=h
theorem e2r {P:σ→Prop} {Q:ρ→Prop} {r:ρ} (h:Q r):w4 P Q (.inr r):=h
theorem qV {m:Option (σ ⊕ ρ)} {K:σ→Option ρ} {Q:ρ→Prop} (h:Wp m (w4 (fun s=>Wp (K s) Q) Q)):Wp (qW m K) Q:=by
 obtain ⟨o,rfl,h⟩:=h
 cases o with
 |inl s=>exact h
 |inr r=>exact ⟨r,rfl,h⟩
theorem jW {f:σ→Option (σ ⊕ ρ)} {Q:ρ→Prop} (J:σ→Prop) (m:σ→Nat) {s0:σ} (h0:J s0)
  (step: ∀s,J s→Wp (f s) (w4 (fun s'=>J s'∧m s'<m s) Q)):Wp (zP f s0) Q:=by
 refine zU7 J m Q ?_ h0
 intro s hs
 obtain ⟨o,h1,h2⟩:=step s hs
 refine ⟨o,h1,?_⟩
 cases o with
 |inl s'=>exact h2
 |inr r=>exact h2
theorem yC {n s0:Int} {body els:Int→Option (Int ⊕ ρ)} {Q:ρ→Prop}
  (step: ∀s,s0≤s→s<n→Wp (body s) (w4 (fun s'=>s'=s+1) Q))
  (fin: ∀s,s0≤s→n≤s→Wp (els s) (w4 (fun _=>False) Q)):Wp (zP (fun s=>bif decide (s<n) then body s else els s) s0) Q:=by
 refine jW (fun s=>s0≤s) (fun s=>(n-s).toNat) (Int.le_refl _) ?_
 intro s hs
 refine zG ?_ ?_
 ·intro hc
  have hc:s<n:=by simpa using hc
  refine (step s hs hc).mono ?_
  intro o ho
  cases o with
  |inl s'=>have:s'=s+1:=ho;subst this;exact ⟨by omega,by omega⟩
  |inr r=>exact ho
 ·intro hc
  have hc:n≤s:=by simpa using hc
  refine (fin s hs hc).mono ?_
  intro o ho
  cases o with
  |inl s'=>exact ho.elim
  |inr r=>exact ho
theorem zXL {γ:Type} {n s0:Int} {g0:γ} {body els:Int×γ→Option ((Int×γ) ⊕ ρ)} {Q:ρ→Prop} (J:Int→γ→Prop) (h0:J s0 g0)
  (step: ∀s g,s0≤s→s<n→J s g→Wp (body (s,g)) (w4 (fun o=>o.1=s+1∧J (s+1) o.2) Q))
  (fin: ∀s g,s0≤s→n≤s→J s g→Wp (els (s,g)) (w4 (fun _=>False) Q)):Wp (zP (fun o=>bif decide (o.1<n) then body o else els o) (s0,g0)) Q:=by
 refine jW (fun o=>s0≤o.1∧J o.1 o.2) (fun o=>(n-o.1).toNat) ⟨Int.le_refl _,h0⟩ ?_
 rintro ⟨s,g⟩ ⟨hs,hj⟩
 refine zG ?_ ?_
 ·intro hc
  have hc:s<n:=by simpa using hc
  refine (step s g hs hc hj).mono ?_
  intro o ho
  cases o with
  |inl s'=>obtain ⟨s1,g1⟩:=s';obtain ⟨h1,h2⟩:=ho;simp only at h1 h2;subst h1;exact ⟨⟨by omega,h2⟩,by simp only;omega⟩
  |inr r=>exact ho
 ·intro hc
  have hc:n≤s:=by simpa using hc
  refine (fin s g hs hc hj).mono ?_
  intro o ho
  cases o with
  |inl s'=>exact ho.elim
  |inr r=>exact ho
theorem uI {xs:List α} {i:Int} {Q:α→Prop} (h0:0≤i) (h1:i<xs.length) (h: ∀y,y∈xs→xs[i.toNat]? =some y→Q y):Wp (idx xs i) Q:=by
 unfold idx
 rw [if_pos h0]
 have hl:i.toNat<xs.length:=by omega
 exact ⟨xs[i.toNat],by simp [hl],h _ (List.getElem_mem hl) (by simp [hl])⟩
theorem zUB {s:ByteArray} {i:Int} {Q:Int→Prop} (h0:0≤i) (h1:i<s.size) (h: ∀y,0≤y→y<256→Q y):Wp (zLg s i) Q:=by
 unfold zLg
 rw [if_pos h0]
 have hl:i.toNat<s.size:=by omega
 refine ⟨(s[i.toNat].toNat:Int),by simp [hl],h _ (by omega) ?_⟩
 have:=s[i.toNat].toNat_lt
 omega
theorem wH {bytes:Nat} {xs ys:List α} {Q:List α→Prop} (h0:(2*(xs.length+ys.length)+1024)*bytes≤140737488355328) (h:Q (xs++ys)):Wp (app bytes xs ys) Q:=by
 unfold app
 rw [if_pos h0]
 exact ⟨_,rfl,h⟩
end
theorem zH {x:Int} (h0: -9223372036854775808≤x) (h1:x<9223372036854775808):IntKind.wrap .i64 x=x:=by
 have e1:((2:Int)^IntKind.bits .i64)=18446744073709551616:=by decide
 have e2:((2:Int)^(IntKind.bits .i64-1))=9223372036854775808:=by decide
 simp only [IntKind.wrap,IntKind.signed,Bool.true_and,decide_eq_true_eq,e1,e2]
 split<;>omega
theorem zIT {x:Int} (h0:0≤x) (h1:x<18446744073709551616):IntKind.wrap .u64 x=x:=by
 have e1:((2:Int)^IntKind.bits .u64)=18446744073709551616:=by decide
 simp only [IntKind.wrap,IntKind.signed,Bool.false_and,Bool.false_eq_true,if_false,e1]
 omega
theorem zI {α:Type} {p:Prop} [Decidable p] {x y:Option α} {Q:α→Prop} (h1:p→Wp x Q) (h2: ¬p→Wp y Q):Wp (bif decide p then x else y) Q:=by
 by_cases h:p
 ·simp only [h,decide_true,cond_true];exact h1 h
 ·simp only [h,decide_false,cond_false];exact h2 h
theorem uB {α:Type} {p:Prop} [Decidable p] {x y:Option α} {Q:α→Prop} (h1: ¬p→Wp x Q) (h2:p→Wp y Q):Wp (bif !decide p then x else y) Q:=by
 by_cases h:p
 ·simp only [h,decide_true,Bool.not_true,cond_false];exact h2 h
 ·simp only [h,decide_false,Bool.not_false,cond_true];exact h1 h
end Go.Ve

namespace Go.Ve
open Go
theorem zJ {α:Type} {xs:List α} {i:Nat} {x:α} (h:xs[i]? =some x):idx xs (i:Int)=some x:=by
 rw [idx,if_pos (by omega),Int.toNat_natCast];exact h
theorem zYo {α:Type} {xs:List α} {i:Int} {x:α} (h0:0≤i) (h:xs[i.toNat]? =some x):idx xs i=some x:=by
 rw [idx,if_pos h0];exact h
theorem qN {α:Type} {m:Option α} {x:α} {Q:α→Prop} (h:m=some x) (hq:Q x):Wp m Q:=⟨x,h,hq⟩
section
variable {α γ ρ:Type}
theorem wW {xs:List α} {g0:γ} {body:Int×γ→Option γ} {Q:γ→Prop} (hl:xs.length<4611686018427387904) (J:Nat→γ→Prop) (h0:J 0 g0)
  (step: ∀i x g,xs[i]? =some x→J i g→Wp (body ((i:Int),g)) (J (i+1))) (fin: ∀g,J xs.length g→Q g):
  Wp (zP (fun s:Int×γ=>bif decide (s.1< (xs.length:Int)) then Option.bind (body s) (fun g=>some (Sum.inl (IntKind.wrap IntKind.i64 (s.1+(1:Int)),g))) else some (Sum.inr s.2)) ((0:Int),g0)) Q:=by
 refine jW (fun (s:Int×γ)=> ∃i:Nat,s.1=(i:Int)∧i≤xs.length∧J i s.2) (fun (s:Int×γ)=>((xs.length:Int) -s.1).toNat) ⟨(0:Nat),rfl,Nat.zero_le _,h0⟩ ?_
 rintro ⟨s,g⟩ ⟨i,hi,hle,hj⟩
 simp only at hi
 subst hi
 refine zI ?_ ?_
 ·intro hc
  have hlt:i<xs.length:=by simp only at hc;omega
  refine zC ((step i xs[i] g (by simp [hlt]) hj).mono ?_)
  intro g' hg'
  refine zB ?_
  refine e2l ⟨⟨i+1,?_,hlt,hg'⟩,?_⟩
  ·simp only;rw [zH (by omega) (by omega)];omega
  ·simp only;rw [zH (by omega) (by omega)];omega
 ·intro hc
  have:i=xs.length:=by simp only at hc;omega
  subst this
  exact zB (e2r (fin _ hj))
theorem zQE {n:Nat} {c:Int×γ→Int} {g0:γ} {body:Int×γ→Option γ} {Q:γ→Prop} (hl:n<4611686018427387904) (J:Nat→γ→Prop) (h0:J 0 g0) (hc: ∀i g,J i g→c ((i:Int),g)=n)
  (step: ∀i g,i<n→J i g→Wp (body ((i:Int),g)) (J (i+1))) (fin: ∀g,J n g→Q g):
  Wp (zP (fun s:Int×γ=>bif decide (s.1<c s) then Option.bind (body s) (fun g=>some (Sum.inl (IntKind.wrap IntKind.i64 (s.1+(1:Int)),g))) else some (Sum.inr s.2)) ((0:Int),g0)) Q:=by
 refine jW (fun (s:Int×γ)=> ∃i:Nat,s.1=(i:Int)∧i≤n∧J i s.2) (fun (s:Int×γ)=>((n:Int) -s.1).toNat) ⟨(0:Nat),rfl,Nat.zero_le _,h0⟩ ?_
 rintro ⟨s,g⟩ ⟨i,hi,hle,hj⟩
 simp only at hi
 subst hi
 have hci:=hc i g hj
 refine zI ?_ ?_
 ·intro hc'
  simp only [hci] at hc'
  have hlt:i<n:=by omega
  refine zC ((step i g hlt hj).mono ?_)
  intro g' hg'
  refine zB ?_
  refine e2l ⟨⟨i+1,?_,hlt,hg'⟩,?_⟩
  ·simp only;rw [zH (by omega) (by omega)];omega
  ·simp only;rw [zH (by omega) (by omega)];omega
 ·intro hc'
  simp only [hci] at hc'
  have:i=n:=by omega
  subst this
  exact zB (e2r (fin _ hj))
theorem zAx {xs:List α} {body:Int→Option (Int ⊕ (Unit ⊕ ρ))} {K:Unit→Option ρ} {Q:ρ→Prop} (hl:xs.length<4611686018427387904) (J:Nat→Prop) (h0:J 0)
  (step: ∀i x,xs[i]? =some x→J i→Wp (body (i:Int)) (w4 (fun s'=>s'=IntKind.wrap IntKind.i64 ((i:Int)+1)∧J (i+1)) (w4 (fun _=>False) Q))) (fin:J xs.length→Wp (K ()) Q):
  Wp (qW (zP (fun s:Int=>bif decide (s< (xs.length:Int)) then body s else some (Sum.inr (Sum.inl ()))) (0:Int)) K) Q:=by
 refine qV ?_
 refine jW (fun (s:Int)=> ∃i:Nat,s=(i:Int)∧i≤xs.length∧J i) (fun (s:Int)=>((xs.length:Int) -s).toNat) ⟨(0:Nat),rfl,Nat.zero_le _,h0⟩ ?_
 rintro s ⟨i,hi,hle,hj⟩
 subst hi
 refine zI ?_ ?_
 ·intro hc
  have hlt:i<xs.length:=by omega
  refine (step i xs[i] (by simp [hlt]) hj).mono ?_
  intro o ho
  cases o with
  |inl s'=>
   obtain ⟨rfl,h2⟩:=ho
   rw [zH (by omega) (by omega)]
   exact ⟨⟨i+1,by omega,hlt,h2⟩,by omega⟩
  |inr o=>
   cases o with
   |inl _=>exact ho.elim
   |inr r=>exact ho
 ·intro hc
  have:i=xs.length:=by omega
  subst this
  exact zB (e2r (fin hj))
end
def u9 {α:Type} (p:α→Bool) (xs:List α):Int:=
 match xs.findIdx? p with
 |some i=>i
 |none=> -1
theorem zG0 {α:Type} {p:α→Bool} {xs:List α} (h: ∀x,x∈xs→p x=false):u9 p xs= -1:=by
 have:xs.findIdx? p=none:=by rw [List.findIdx?_eq_none_iff];exact h
 simp [u9,this]
theorem zUo {α:Type} {p:α→Bool} {xs:List α} {i:Nat} {x:α} (h:xs[i]? =some x) (hp:p x=true) (hn: ∀j y,j<i→xs[j]? =some y→p y=false):u9 p xs=i:=by
 have hlt:=(List.getElem?_eq_some_iff.1 h).1
 have hx:=(List.getElem?_eq_some_iff.1 h).2
 have:xs.findIdx? p=some i:=by
  rw [List.findIdx?_eq_some_iff_getElem]
  refine ⟨hlt,by rw [hx];exact hp,?_⟩
  intro j hj
  have:=hn j xs[j] hj (by simp)
  simp [this]
 simp [u9,this]
theorem zBW {α:Type} (p:α→Bool) (xs:List α):(u9 p xs= -1∧ ∀x,x∈xs→p x=false)∨ ∃i x,u9 p xs=(i:Nat)∧xs[i]? =some x∧p x=true∧ ∀j y,j<i→xs[j]? =some y→p y=false:=by
 cases h:xs.findIdx? p with
 |none=>left;refine ⟨by simp [u9,h],?_⟩;rw [List.findIdx?_eq_none_iff] at h;exact h
 |some i=>
  right
  rw [List.findIdx?_eq_some_iff_getElem] at h
  obtain ⟨h1,h2,h3⟩:=h
  have h':xs.findIdx? p=some i:=by rw [List.findIdx?_eq_some_iff_getElem];exact ⟨h1,h2,h3⟩
  refine ⟨i,xs[i],by simp [u9,h'],by simp [h1],h2,?_⟩
  intro j y hj hy
  obtain ⟨hjl,rfl⟩:=List.getElem?_eq_some_iff.1 hy
  have:=h3 j hj
  simpa using this
theorem yY {α:Type} {xs:List α} {p:α→Bool} {body:Int→Option (Int ⊕ (Unit ⊕ Int))} {Q:Int→Prop} (hl:xs.length<4611686018427387904)
  (step: ∀ (i:Nat) x,xs[i]? =some x→body (i:Int)=some (bif p x then Sum.inr (Sum.inr (i:Int)) else Sum.inl (IntKind.wrap IntKind.i64 ((i:Int)+1)))) (fin:Q (u9 p xs)):
  Wp (qW (zP (fun s:Int=>bif decide (s< (xs.length:Int)) then body s else some (Sum.inr (Sum.inl ()))) (0:Int)) (fun _=>some (-1:Int))) Q:=by
 refine zAx hl (fun i=> ∀j y,j<i→xs[j]? =some y→p y=false) (fun j y hj=>by omega) ?_ ?_
 ·intro i x hx hj
  refine qN (step i x hx) ?_
  cases hp:p x with
  |true=>
   simp only [cond_true]
   refine e2r (e2r ?_)
   rw [zUo hx hp hj] at fin
   exact fin
  |false=>
   simp only [cond_false]
   refine e2l ⟨rfl,?_⟩
   intro j y hji hy
   rcases Nat.lt_or_ge j i with h|h
   ·exact hj j y h hy
   ·have:j=i:=by omega
    subst this
    rw [hx] at hy
    cases hy
    exact hp
 ·intro hj
  refine zB ?_
  rw [zG0] at fin
  ·exact fin
  ·intro x hx
   obtain ⟨j,hjl,rfl⟩:=List.getElem_of_mem hx
   exact hj j _ hjl (by simp [hjl])
end Go.Ve

namespace Go.Ve
open Go
section
variable {α ρ:Type}
theorem zVP {xs:List α} {body:Int→Option (Int ⊕ (Unit ⊕ ρ))} {Q:Unit ⊕ ρ→Prop} (hl:xs.length<4611686018427387904) (J:Nat→Prop) (h0:J 0)
  (step: ∀i x,xs[i]? =some x→J i→Wp (body (i:Int)) (w4 (fun s'=>s'=IntKind.wrap IntKind.i64 ((i:Int)+1)∧J (i+1)) (fun o=>(∀u,o≠Sum.inl u)∧Q o))) (fin:J xs.length→Q (Sum.inl ())):
  Wp (zP (fun s:Int=>bif decide (s< (xs.length:Int)) then body s else some (Sum.inr (Sum.inl ()))) (0:Int)) Q:=by
 refine jW (fun (s:Int)=> ∃i:Nat,s=(i:Int)∧i≤xs.length∧J i) (fun (s:Int)=>((xs.length:Int) -s).toNat) ⟨(0:Nat),rfl,Nat.zero_le _,h0⟩ ?_
 rintro s ⟨i,hi,hle,hj⟩
 subst hi
 refine zI ?_ ?_
 ·intro hc
  have hlt:i<xs.length:=by omega
  refine (step i xs[i] (by simp [hlt]) hj).mono ?_
  intro o ho
  cases o with
  |inl s'=>
   obtain ⟨rfl,h2⟩:=ho
   rw [zH (by omega) (by omega)]
   exact ⟨⟨i+1,by omega,hlt,h2⟩,by omega⟩
  |inr o=>exact ho.2
 ·intro hc
  have:i=xs.length:=by omega
  subst this
  exact zB (e2r (fin hj))
theorem zXO {xs:List α} {P:α→Prop} {body:Int→Option (Int ⊕ (Unit ⊕ ρ))} {Q:Unit ⊕ ρ→Prop} (hl:xs.length<4611686018427387904)
  (step: ∀ (i:Nat) x,xs[i]? =some x→Wp (body (i:Int)) (w4 (fun s'=>s'=IntKind.wrap IntKind.i64 ((i:Int)+1)∧P x) (fun o=>(∀u,o≠Sum.inl u)∧Q o))) (fin:(∀x,x∈xs→P x)→Q (Sum.inl ())):
  Wp (zP (fun s:Int=>bif decide (s< (xs.length:Int)) then body s else some (Sum.inr (Sum.inl ()))) (0:Int)) Q:=by
 refine zVP hl (fun i=> ∀j y,j<i→xs[j]? =some y→P y) (fun j y hj=>by omega) ?_ (fun h=>fin ?_)
 ·intro i x hx hj
  refine (step i x hx).mono ?_
  intro o ho
  cases o with
  |inl s'=>
   refine ⟨ho.1,?_⟩
   intro j y hj' hy
   rcases Nat.lt_or_ge j i with h'|h'
   ·exact hj j y h' hy
   ·have:j=i:=by omega
    subst this
    rw [hx] at hy
    cases hy
    exact ho.2
  |inr o=>exact ho
 ·intro x hx
  obtain ⟨j,hjl,rfl⟩:=List.getElem_of_mem hx
  exact h j _ hjl (by simp [hjl])
theorem zY3 {xs:List α} {body:Int×Bool→Option Bool} {Q:Bool→Prop} {p:α→Prop} (hl:xs.length<4611686018427387904)
  (step: ∀ (i:Nat) x,xs[i]? =some x→body ((i:Int),true)=some true∧Wp (body ((i:Int),false)) (fun b=>b=true↔p x)) (fin: ∀b:Bool,(b=true↔ ∃x,x∈xs∧p x)→Q b):
  Wp (zP (fun s:Int×Bool=>bif decide (s.1< (xs.length:Int)) then Option.bind (body s) (fun g=>some (Sum.inl (IntKind.wrap IntKind.i64 (s.1+(1:Int)),g))) else some (Sum.inr s.2)) ((0:Int),false)) Q:=by
 refine wW hl (fun i b=>b=true↔ ∃x,x∈xs.take i∧p x) (by simp) ?_ (fun b hb=>fin b (by rw [List.take_length] at hb;exact hb))
 intro i x b hx hb
 obtain ⟨h1,h2⟩:=step i x hx
 have hm: ∀y,y∈xs.take (i+1)↔y∈xs.take i∨y=x:=by
  intro y
  rw [List.take_add_one,hx,Option.toList_some,List.mem_append,List.mem_singleton]
 cases b with
 |true=>
  obtain ⟨y,hy,hp⟩:=hb.1 rfl
  refine qN h1 ⟨fun _=>⟨y,(hm y).2 (.inl hy),hp⟩,fun _=>rfl⟩
 |false=>
  refine h2.mono (fun c hc=>hc.trans ⟨fun hp=>⟨x,(hm x).2 (.inr rfl),hp⟩,?_⟩)
  rintro ⟨y,hy,hp⟩
  rcases (hm y).1 hy with hy|rfl
  ·exact absurd (hb.2 ⟨y,hy,hp⟩) (by simp)
  ·exact hp
end
end Go.Ve

namespace Go.Ve
open Go
section
variable {α:Type} {lt:α→α→Prop}
structure Ord (lt:α→α→Prop):Prop where
 asym: ∀x y,lt x y→ ¬lt y x
 tr: ∀x y z, ¬lt y x→ ¬lt z y→ ¬lt z x
theorem zCQ (ho:Ord lt): ∀ {xs ys:List α},xs.Pairwise lt→ys.Pairwise lt→(∀z,z∈xs↔z∈ys)→xs=ys
 |[],[],_,_,_=>rfl
 |[],y::ys,_,_,h=>by have:=(h y).2 (by simp);cases this
 |x::xs,[],_,_,h=>by have:=(h x).1 (by simp);cases this
 |x::xs,y::ys,hx,hy,h=>by
  rw [List.pairwise_cons] at hx hy
  have irr: ∀z, ¬lt z z:=fun z hz=>ho.asym z z hz hz
  have e:x=y:=by
   rcases List.mem_cons.1 ((h x).1 (by simp)) with h1|h1
   ·exact h1
   ·rcases List.mem_cons.1 ((h y).2 (by simp)) with h2|h2
    ·exact h2.symm
    ·exact absurd (hx.1 y h2) (ho.asym _ _ (hy.1 x h1))
  subst e
  have:xs=ys:=by
   refine zCQ ho hx.2 hy.2 (fun z=>⟨fun hz=> ?_,fun hz=> ?_⟩)
   ·rcases List.mem_cons.1 ((h z).1 (List.mem_cons_of_mem _ hz)) with rfl|h1
    ·exact absurd (hx.1 z hz) (irr z)
    ·exact h1
   ·rcases List.mem_cons.1 ((h z).2 (List.mem_cons_of_mem _ hz)) with rfl|h1
    ·exact absurd (hy.1 z hz) (irr z)
    ·exact h1
  rw [this]
end
end Go.Ve

namespace Go.Ve
open Go
set_option maxRecDepth 1000000
set_option maxHeartbeats 4000000
theorem wQ {α:Type} {m:Option α} {x:α} (h:Wp m (fun r=>r=x)):m=some x:=by
 obtain ⟨r,h1,rfl⟩:=h;exact h1
theorem zGf {p q:Ty.El zF} (h:(p.1==q.1&&(p.2.1==q.2.1&&true))=true):p=q:=by
 obtain ⟨a,b,⟨⟩⟩:=p
 obtain ⟨c,d,⟨⟩⟩:=q
 simp only [Bool.and_true,Bool.and_eq_true,beq_iff_eq] at h
 obtain ⟨rfl,rfl⟩:=h
 rfl
def zD0 (a b c d:Int):Prop:=a<c∨(a=c∧b<d)
def plt (p q:Ty.El zF):Prop:=zD0 p.1 p.2.1 q.1 q.2.1
theorem zGU:Ord plt where
 asym:=fun x y h=>by unfold plt zD0 at*;omega
 tr:=fun x y z h1 h2=>by unfold plt zD0 at*;omega
theorem zUh {a b c d:Int} (h: ¬zD0 c d a b) (hne: ¬(a=c∧b=d)):zD0 a b c d:=by
 unfold zD0 at*
 omega
theorem zSV {p q:Ty.El zF} (h: ¬plt q p) (hne:p≠q):plt p q:=by
 refine zUh h (fun e=>hne ?_)
 obtain ⟨a,b,⟨⟩⟩:=p
 obtain ⟨c,d,⟨⟩⟩:=q
 obtain ⟨rfl,rfl⟩:=e
 rfl
def zKd (a b c d:Int):Int:=if a<c then-1 else if c<a then 1 else if b<d then-1 else if d<b then 1 else 0
def zYA (p q:Ty.El zF):Int:=zKd p.1 p.2.1 q.1 q.2.1
theorem zQu {a b c d:Int} :zKd a b c d<0↔zD0 a b c d:=by
 unfold zKd zD0
 split
 ·omega
 ·split
  ·omega
  ·split
   ·omega
   ·split<;>omega
theorem zMy {p q:Ty.El zF} :zYA p q<0↔plt p q:=zQu
theorem zH8 (a b:Int):wK (a,b,())=some (if a<b then-1 else if b<a then 1 else 0):=by
 refine wQ ?_
 unfold wK x6
 simp only [Option.bind_some,bne_self_eq_false,cond_false]
 refine zI (fun h=>zB ?_) (fun h=>zI (fun h'=>zB ?_) (fun h'=>zB ?_))
 ·rw [if_pos h]
 ·rw [if_neg h,if_pos h']
 ·rw [if_neg h,if_neg h']
theorem zAE (a b:Int):z7 (a,b,())=some (if a<b then-1 else if b<a then 1 else 0):=by
 refine wQ ?_
 unfold z7 zB4
 simp only [Option.bind_some,bne_self_eq_false,cond_false]
 refine zI (fun h=>zB ?_) (fun h=>zI (fun h'=>zB ?_) (fun h'=>zB ?_))
 ·rw [if_pos h]
 ·rw [if_neg h,if_pos h']
 ·rw [if_neg h,if_neg h']
theorem zUt {a b c d:Int} :(if ((if a<c then (-1:Int) else if c<a then 1 else 0) !=0)=true then (if a<c then (-1:Int) else if c<a then 1 else 0) else (if b<d then (-1:Int) else if d<b then 1 else 0))=zKd a b c d:=by
 unfold zKd
 by_cases h1:a<c
 ·simp [h1]
 ·by_cases h2:c<a
  ·simp [h1,h2]
  ·simp [h1,h2]
theorem zJa (p q:Ty.El zF):zBz (p,q,())=some (zYA p q):=by
 refine wQ ?_
 unfold zBz
 dsimp only
 refine zC (qN (zH8 _ _) (zG (fun h=>zB ?_) (fun h=>zC (qN (zAE _ _) (zB ?_)))))
 ·have:=zUt (a:=p.1) (b:=p.2.1) (c:=q.1) (d:=q.2.1)
  rw [if_pos h] at this
  exact this
 ·have:=zUt (a:=p.1) (b:=p.2.1) (c:=q.1) (d:=q.2.1)
  rw [if_neg (by rw [h];simp)] at this
  exact this
theorem zZF {a b c d:Int} (h:zD0 a b c d): -1=zKd a b c d:=by
 unfold zKd;unfold zD0 at h
 by_cases h1:a<c
 ·rw [if_pos h1]
 ·rw [if_neg h1,if_neg (by omega),if_pos (by omega)]
theorem zZD {a b:Int} :0=zKd a b a b:=by
 unfold zKd
 rw [if_neg (by omega),if_neg (by omega),if_neg (by omega),if_neg (by omega)]
theorem zZE {a b c d:Int} (h: ¬zD0 a b c d) (hne: ¬(a=c∧b=d)):1=zKd a b c d:=by
 unfold zKd;unfold zD0 at h
 rw [if_neg (by omega)]
 by_cases h1:c<a
 ·rw [if_pos h1]
 ·rw [if_neg h1,if_neg (by omega),if_pos (by omega)]
theorem zI7 (p q:Ty.El zF):zBg (p,q,())=some (zYA p q):=by
 refine wQ ?_
 unfold zBg
 dsimp only
 refine zC ((show Wp _ (fun s:Bool=>s=true↔plt p q) from ?_).mono (fun s hs=> ?_))
 ·refine zI (fun h=>zB ⟨fun _=> .inl h,fun _=>rfl⟩) (fun h=>zG (fun h'=>zB ?_) (fun h'=>zB ?_))
  ·have h':p.1=q.1:=by simpa using h'
   rw [decide_eq_true_eq]
   constructor
   ·intro h2;exact .inr ⟨h',h2⟩
   ·intro h2
    rcases h2 with h2|h2
    ·exact absurd h2 h
    ·exact h2.2
  ·have h': ¬p.1=q.1:=by simpa using h'
   constructor
   ·intro h2;cases h2
   ·intro h2
    exfalso
    rcases h2 with h2|h2
    ·exact h h2
    ·exact h' h2.1
 ·refine zG (fun h=>zB (zZF (hs.1 h))) (fun h=>zG (fun he=>zB ?_) (fun he=>zB (zZE ?_ ?_)))
  ·have:=zGf he
   subst this
   exact zZD
  ·exact fun hp=>by rw [hs.2 hp] at h;cases h
  ·intro e
   have h1:(p.1==q.1)=true:=by simpa using e.1
   have h2:(p.2.1==q.2.1)=true:=by simpa using e.2
   rw [h1,h2] at he
   cases he
def zCe (p:Ty.El zF) (v:Int) (p':Ty.El zF) (v':Int):Prop:=plt p p'∨(p=p'∧v<v')
theorem zRG {p q r:Ty.El zF} {u v w:Int} (h1:zCe p u q v) (h2:zCe q v r w):zCe p u r w:=by
 rcases h1 with h1|⟨rfl,h1⟩
 ·rcases h2 with h2|⟨rfl,h2⟩
  ·exact .inl (by unfold plt zD0 at*;omega)
  ·exact .inl h1
 ·rcases h2 with h2|⟨rfl,h2⟩
  ·exact .inl h2
  ·exact .inr ⟨rfl,by omega⟩
theorem zWM {p q:Ty.El zF} {u v:Int} (h: ¬zCe p u q v) (hne: ¬(p=q∧u=v)):zCe q v p u:=by
 by_cases he:p=q
 ·subst he
  refine .inr ⟨rfl,?_⟩
  have h1: ¬u<v:=fun h'=>h (.inr ⟨rfl,h'⟩)
  have h2: ¬u=v:=fun h'=>hne ⟨rfl,h'⟩
  omega
 ·exact .inl (zSV (fun h'=>h (.inl h')) (fun h'=>he h'.symm))
theorem zVa {p:Ty.El zF} {u:Int} : ¬zCe p u p u:=by
 rintro (h|⟨_,h⟩)
 ·unfold plt zD0 at h;omega
 ·omega
end Go.Ve

namespace Go.Ve
open Go
set_option maxRecDepth 1000000
set_option maxHeartbeats 4000000
theorem vH {α:Type} {xs:List α} {i:Int} {y:α} (h:xs[i.toNat]? =some y) (h0:0≤i:=by omega):idx xs i=some y:=by
 rw [idx,if_pos h0];exact h
theorem qE {α:Type} {xs:List α} {i:Int} {Q:α→Prop} {B:α→Prop} (hB: ∀y,y∈xs→B y) (h0:0≤i) (h1:i<xs.length) (h: ∀y,xs[i.toNat]? =some y→B y→Q y):Wp (idx xs i) Q:=
 uI h0 h1 (fun y hm hy=>h y hy (hB y hm))
structure SmR (r:Ty.El zD):Prop where
 i1:List.length r.2.2.1≤20
 i2:List.length r.2.2.2.1≤20
 i3:List.length r.2.2.2.2.1≤20
 i4:List.length r.2.2.2.2.2.1≤20
 i5:List.length r.2.2.2.2.2.2.1≤20
 i6:List.length r.2.2.2.2.2.2.2.1≤20
 i7:List.length r.2.2.2.2.2.2.2.2.1.2.2.1≤20
 i8:List.length r.2.2.2.2.2.2.2.2.1.2.2.2.1≤20
 i9:List.length r.2.2.2.2.2.2.2.2.2.1.2.2.2.2.1≤20
 i10:List.length r.2.2.2.2.2.2.2.2.2.2.1.2.2.2.1≤20
 i11:List.length r.2.2.2.2.2.2.2.2.2.2.1.2.2.2.2.1≤20
 i12:List.length r.2.2.2.2.2.2.2.2.2.2.1.2.2.2.2.2.1≤20
 i13:List.length r.2.2.2.2.2.2.2.2.2.2.1.2.2.2.2.2.2.1≤20
 i14:List.length r.2.2.2.2.2.2.2.2.2.2.1.2.2.2.2.2.2.2.1≤20
 n1: ∀y,y∈r.2.2.2.1→List.length y.2.1≤20
 n2: ∀y,y∈r.2.2.2.2.1→List.length y.2.1≤20
 n3: ∀y,y∈r.2.2.2.2.2.1→List.length y.2.1≤20
structure qAy (r:Ty.El tPV):Prop where
 i10:List.length r.2.2.2.1≤20
 i11:List.length r.2.2.2.2.1≤20
 i12:List.length r.2.2.2.2.2.1≤20
 i13:List.length r.2.2.2.2.2.2.1≤20
 i14:List.length r.2.2.2.2.2.2.2.1≤20
theorem zDU (a1:Int):Wp (zAQ (a1,())) (fun _=>True):=by
 unfold zAQ
 refine zC ?_
 refine zXL (fun _ _=>True) trivial (fun s g h1 h2 _=> ?_) (fun s g _ _ _=>zB (e2r (zB trivial)))
 refine zC ?_
 refine zI (fun _=> ?_) (fun _=> ?_)
 ·refine zI (fun _=> ?_) (fun hn=> ?_)
  ·exact zB (zB (e2l ⟨zH (by simp only;omega) (by simp only;omega),trivial⟩))
  ·exfalso
   apply hn
   simp only
   rw [zH (by omega) (by omega),zIT (by omega) (by omega)]
   omega
 ·exact zB (zB (e2l ⟨zH (by simp only;omega) (by simp only;omega),trivial⟩))
theorem zLM (a1:Ty.El (.int .u8))  :Wp (zB8 (a1,())) (fun _=>True):=by
 unfold zB8
 try dsimp only
 repeat' (first
  |with_reducible exact trivial
  |assumption
  |contradiction
  |with_reducible first|refine zB ?_|refine zI (fun _=> ?_) (fun _=> ?_)|refine zG (fun _=> ?_) (fun _=> ?_)|refine zC ?_
  |omega)
theorem kS (a1:Ty.El (.str))  :Wp (zAP (a1,())) (fun _=>True):=by
 unfold zAP
 try dsimp only
 repeat' (first
  |with_reducible exact trivial
  |assumption
  |contradiction
  |with_reducible first|refine zB ?_|refine (zLM _).mono (fun r _=> ?_)|refine zUB ?_ ?_ (fun y _ _=> ?_)|refine uB (fun _=> ?_) (fun _=> ?_)|refine zI (fun _=> ?_) (fun _=> ?_)|refine zG (fun _=> ?_) (fun _=> ?_)|refine qV ?_|refine yC (fun s _ _=> ?_) (fun s _ _=> ?_)|refine zC ?_|refine e2l ?_|refine e2r ?_
  |exact zH (by omega) (by omega)
  |omega
  |(simp only [List.length_cons,List.length_nil] at*;exact zH (by omega) (by omega)))
theorem q9 (a1:Ty.El (tI)) (a2:Ty.El (tI)) (a3:Ty.El (tI))  :Wp (zX (a1,a2,a3,())) (fun _=>True):=by
 unfold zX
 try dsimp only
 repeat' (first
  |with_reducible exact trivial
  |assumption
  |contradiction
  |with_reducible first|refine zB ?_|refine zI (fun _=> ?_) (fun _=> ?_)|refine zG (fun _=> ?_) (fun _=> ?_)|refine zC ?_
  |omega)
theorem zEd (a1:Ty.El (tU)) (a2:Ty.El (tI))  :Wp (wO (a1,a2,())) (fun _=>True):=by
 unfold wO
 try dsimp only
 repeat' (first
  |with_reducible exact trivial
  |assumption
  |contradiction
  |with_reducible first|refine zB ?_|refine (zDU _).mono (fun r _=> ?_)|refine zC ?_
  |exact zH (by omega) (by omega)
  |omega
  |(simp only [List.length_cons,List.length_nil] at*;exact zH (by omega) (by omega)))
theorem zIX (a1:Ty.El (zF)) (a2:Ty.El (tU))  :Wp (yU (a1,a2,())) (fun _=>True):=by
 unfold yU
 try dsimp only
 repeat' (first
  |with_reducible exact trivial
  |assumption
  |contradiction
  |with_reducible first|refine zB ?_|refine (zDU _).mono (fun r _=> ?_)|refine zC ?_
  |exact zH (by omega) (by omega)
  |omega
  |(simp only [List.length_cons,List.length_nil] at*;exact zH (by omega) (by omega)))
theorem zLN (a1:Ty.El (zF)) (a2:Ty.El (zF))  :Wp (xH (a1,a2,())) (fun _=>True):=by
 unfold xH
 try dsimp only
 repeat' (first
  |with_reducible exact trivial
  |assumption
  |contradiction
  |with_reducible first|refine zB ?_|refine (zIX _ _).mono (fun r _=> ?_)|refine zI (fun _=> ?_) (fun _=> ?_)|refine zG (fun _=> ?_) (fun _=> ?_)|refine zC ?_
  |omega)
theorem zDD (a1:Ty.El (zF)) (a2:Ty.El (zF))  :Wp (kW (a1,a2,())) (fun _=>True):=by
 unfold kW
 try dsimp only
 repeat' (first
  |with_reducible exact trivial
  |assumption
  |contradiction
  |with_reducible first|refine zB ?_|refine (zLN _ _).mono (fun r _=> ?_)|refine zG (fun _=> ?_) (fun _=> ?_)|refine zC ?_
  |omega)
theorem zG8 (a1:Ty.El (.sl z8)) (h0:List.length a1≤20):Wp (v8 (a1,())) (fun _=>True):=by
 unfold v8
 try dsimp only
 repeat' (first
  |with_reducible exact trivial
  |assumption
  |contradiction
  |with_reducible first|refine zB ?_|refine (kS _).mono (fun r _=> ?_)|refine (q9 _ _ _).mono (fun r _=> ?_)|refine (zEd _ _).mono (fun r _=> ?_)|refine (zDD _ _).mono (fun r _=> ?_)|refine uI ?_ ?_ (fun y _ _=> ?_)|refine uB (fun _=> ?_) (fun _=> ?_)|refine zI (fun _=> ?_) (fun _=> ?_)|refine zG (fun _=> ?_) (fun _=> ?_)|refine qV ?_|refine yC (fun s _ _=> ?_) (fun s _ _=> ?_)
  |simp only [vH ‹_[_]? =some _›,Option.bind_some]
  |with_reducible first|refine zC ?_|refine e2l ?_|refine e2r ?_
  |exact zH (by omega) (by omega)
  |omega
  |(simp only [List.length_cons,List.length_nil] at*;exact zH (by omega) (by omega)))
theorem zA3 (a1:Ty.El (zF))  :Wp (w8 (a1,())) (fun _=>True):=by
 unfold w8
 try dsimp only
 repeat' (first
  |with_reducible exact trivial
  |assumption
  |contradiction
  |with_reducible first|refine zB ?_|refine (zDU _).mono (fun r _=> ?_)|refine zI (fun _=> ?_) (fun _=> ?_)|refine zG (fun _=> ?_) (fun _=> ?_)|refine zC ?_
  |exact zH (by omega) (by omega)
  |omega
  |(simp only [List.length_cons,List.length_nil] at*;exact zH (by omega) (by omega)))
theorem zDT (a1:Ty.El (zCo))  :Wp (kG (a1,())) (fun _=>True):=by
 unfold kG
 try dsimp only
 repeat' (first
  |with_reducible exact trivial
  |assumption
  |contradiction
  |with_reducible first|refine zB ?_|refine (zA3 _).mono (fun r _=> ?_)|refine zI (fun _=> ?_) (fun _=> ?_)|refine zG (fun _=> ?_) (fun _=> ?_)|refine zC ?_
  |omega)
theorem zB5 (a1:Ty.El (.sl wR)) (h0:List.length a1≤20) (h1: ∀y,y∈a1→List.length y.2.1≤20):Wp (uN (a1,())) (fun _=>True):=by
 unfold uN
 try dsimp only
 repeat' (first
  |with_reducible exact trivial
  |assumption
  |contradiction
  |with_reducible first|refine zB ?_|refine (kS _).mono (fun r _=> ?_)|refine (zDT _).mono (fun r _=> ?_)|refine qE h1 ?_ ?_ (fun y _ _=> ?_)|refine uI ?_ ?_ (fun y _ _=> ?_)|refine uB (fun _=> ?_) (fun _=> ?_)|refine zI (fun _=> ?_) (fun _=> ?_)|refine zG (fun _=> ?_) (fun _=> ?_)|refine qV ?_|refine yC (fun s _ _=> ?_) (fun s _ _=> ?_)
  |simp only [vH ‹_[_]? =some _›,Option.bind_some]
  |with_reducible first|refine zC ?_|refine e2l ?_|refine e2r ?_
  |exact zH (by omega) (by omega)
  |omega
  |(simp only [List.length_cons,List.length_nil] at*;exact zH (by omega) (by omega)))
theorem zCv (a1:Ty.El (zD)) (a2:Ty.El (.str)) (h0:SmR a1):Wp (w7 (a1,a2,())) (fun (r:Int)=> -1≤r∧r< (List.length a1.2.2.2.1:Int)):=by
 have hh0:=h0
 obtain ⟨i1,i2,i3,i4,i5,i6,i7,i8,i9,i10,i11,i12,i13,i14,n1,n2,n3⟩:=hh0
 unfold w7
 try dsimp only
 repeat' (first
  |with_reducible exact trivial
  |exact ⟨i10,i11,i12,i13,i14⟩
  |assumption
  |contradiction
  |with_reducible first|refine zB ?_|refine qE n1 ?_ ?_ (fun y _ _=> ?_)|refine qE n2 ?_ ?_ (fun y _ _=> ?_)|refine qE n3 ?_ ?_ (fun y _ _=> ?_)|refine uI ?_ ?_ (fun y _ _=> ?_)|refine zI (fun _=> ?_) (fun _=> ?_)|refine zG (fun _=> ?_) (fun _=> ?_)|refine qV ?_|refine yC (fun s _ _=> ?_) (fun s _ _=> ?_)
  |simp only [vH ‹_[_]? =some _›,Option.bind_some]
  |with_reducible first|refine zC ?_|refine e2l ?_|refine e2r ?_
  |exact zH (by omega) (by omega)
  |omega
  |(simp only [List.length_cons,List.length_nil] at*;exact zH (by omega) (by omega))
  |exact ⟨by omega,by omega⟩)
theorem zCZ (a1:Ty.El (zD)) (h0:SmR a1):Wp (xF (a1,())) (fun _=>True):=by
 have hh0:=h0
 obtain ⟨i1,i2,i3,i4,i5,i6,i7,i8,i9,i10,i11,i12,i13,i14,n1,n2,n3⟩:=hh0
 unfold xF
 try dsimp only
 repeat' (first
  |with_reducible exact trivial
  |exact ⟨i10,i11,i12,i13,i14⟩
  |assumption
  |contradiction
  |with_reducible first|refine zB ?_|refine (kS _).mono (fun r _=> ?_)|refine (zCv _ _ ?_).mono (fun r _=> ?_)|refine (q9 _ _ _).mono (fun r _=> ?_)|refine qE n1 ?_ ?_ (fun y _ _=> ?_)|refine qE n2 ?_ ?_ (fun y _ _=> ?_)|refine qE n3 ?_ ?_ (fun y _ _=> ?_)|refine uI ?_ ?_ (fun y _ _=> ?_)|refine uB (fun _=> ?_) (fun _=> ?_)|refine zI (fun _=> ?_) (fun _=> ?_)|refine zG (fun _=> ?_) (fun _=> ?_)|refine qV ?_|refine yC (fun s _ _=> ?_) (fun s _ _=> ?_)
  |simp only [vH ‹_[_]? =some _›,Option.bind_some]
  |with_reducible first|refine zC ?_|refine e2l ?_|refine e2r ?_
  |exact zH (by omega) (by omega)
  |omega
  |(simp only [List.length_cons,List.length_nil] at*;exact zH (by omega) (by omega)))
theorem zMI (a1:Ty.El (zL))  :Wp (zC8 (a1,())) (fun _=>True):=by
 unfold zC8
 try dsimp only
 repeat' (first
  |with_reducible exact trivial
  |assumption
  |contradiction
  |with_reducible first|refine zB ?_|refine zI (fun _=> ?_) (fun _=> ?_)|refine zG (fun _=> ?_) (fun _=> ?_)|refine zC ?_
  |omega)
theorem zPE (a1:Ty.El (zL))  :Wp (zGc (a1,())) (fun _=>True):=by
 unfold zGc
 try dsimp only
 repeat' (first
  |with_reducible exact trivial
  |assumption
  |contradiction
  |with_reducible refine zB ?_
  |omega)
theorem zHW (a1:Ty.El (zQV))  :Wp (zBf (a1,())) (fun _=>True):=by
 unfold zBf
 try dsimp only
 repeat' (first
  |with_reducible exact trivial
  |assumption
  |contradiction
  |with_reducible first|refine zB ?_|refine (q9 _ _ _).mono (fun r _=> ?_)|refine (zMI _).mono (fun r _=> ?_)|refine (zPE _).mono (fun r _=> ?_)|refine uB (fun _=> ?_) (fun _=> ?_)|refine zG (fun _=> ?_) (fun _=> ?_)|refine zC ?_
  |exact zH (by omega) (by omega)
  |omega
  |(simp only [List.length_cons,List.length_nil] at*;exact zH (by omega) (by omega)))
theorem zB6 (a1:Ty.El (.sl zKq)) (h0:List.length a1≤20) (h1: ∀y,y∈a1→List.length y.2.1≤20):Wp (uP (a1,())) (fun _=>True):=by
 unfold uP
 try dsimp only
 repeat' (first
  |with_reducible exact trivial
  |assumption
  |contradiction
  |with_reducible first|refine zB ?_|refine (kS _).mono (fun r _=> ?_)|refine (zHW _).mono (fun r _=> ?_)|refine qE h1 ?_ ?_ (fun y _ _=> ?_)|refine uI ?_ ?_ (fun y _ _=> ?_)|refine uB (fun _=> ?_) (fun _=> ?_)|refine zI (fun _=> ?_) (fun _=> ?_)|refine zG (fun _=> ?_) (fun _=> ?_)|refine qV ?_|refine yC (fun s _ _=> ?_) (fun s _ _=> ?_)
  |simp only [vH ‹_[_]? =some _›,Option.bind_some]
  |with_reducible first|refine zC ?_|refine e2l ?_|refine e2r ?_
  |exact zH (by omega) (by omega)
  |omega
  |(simp only [List.length_cons,List.length_nil] at*;exact zH (by omega) (by omega)))
theorem zIW (a1:Ty.El (zD)) (a2:Ty.El (.str)) (h0:SmR a1):Wp (zC9 (a1,a2,())) (fun (r:Int)=> -1≤r∧r< (List.length a1.2.2.2.2.2.1:Int)):=by
 have hh0:=h0
 obtain ⟨i1,i2,i3,i4,i5,i6,i7,i8,i9,i10,i11,i12,i13,i14,n1,n2,n3⟩:=hh0
 unfold zC9
 try dsimp only
 repeat' (first
  |with_reducible exact trivial
  |exact ⟨i10,i11,i12,i13,i14⟩
  |assumption
  |contradiction
  |with_reducible first|refine zB ?_|refine qE n1 ?_ ?_ (fun y _ _=> ?_)|refine qE n2 ?_ ?_ (fun y _ _=> ?_)|refine qE n3 ?_ ?_ (fun y _ _=> ?_)|refine uI ?_ ?_ (fun y _ _=> ?_)|refine zI (fun _=> ?_) (fun _=> ?_)|refine zG (fun _=> ?_) (fun _=> ?_)|refine qV ?_|refine yC (fun s _ _=> ?_) (fun s _ _=> ?_)
  |simp only [vH ‹_[_]? =some _›,Option.bind_some]
  |with_reducible first|refine zC ?_|refine e2l ?_|refine e2r ?_
  |exact zH (by omega) (by omega)
  |omega
  |(simp only [List.length_cons,List.length_nil] at*;exact zH (by omega) (by omega))
  |exact ⟨by omega,by omega⟩)
theorem zBC (a1:Ty.El (zD)) (h0:SmR a1):Wp (kF (a1,())) (fun _=>True):=by
 have hh0:=h0
 obtain ⟨i1,i2,i3,i4,i5,i6,i7,i8,i9,i10,i11,i12,i13,i14,n1,n2,n3⟩:=hh0
 unfold kF
 try dsimp only
 repeat' (first
  |with_reducible exact trivial
  |exact ⟨i10,i11,i12,i13,i14⟩
  |assumption
  |contradiction
  |with_reducible first|refine zB ?_|refine (q9 _ _ _).mono (fun r _=> ?_)|refine (zIW _ _ ?_).mono (fun r _=> ?_)|refine qE n1 ?_ ?_ (fun y _ _=> ?_)|refine qE n2 ?_ ?_ (fun y _ _=> ?_)|refine qE n3 ?_ ?_ (fun y _ _=> ?_)|refine uI ?_ ?_ (fun y _ _=> ?_)|refine uB (fun _=> ?_) (fun _=> ?_)|refine zI (fun _=> ?_) (fun _=> ?_)|refine zG (fun _=> ?_) (fun _=> ?_)|refine qV ?_|refine yC (fun s _ _=> ?_) (fun s _ _=> ?_)
  |simp only [vH ‹_[_]? =some _›,Option.bind_some]
  |with_reducible first|refine zC ?_|refine e2l ?_|refine e2r ?_
  |exact zH (by omega) (by omega)
  |omega
  |(simp only [List.length_cons,List.length_nil] at*;exact zH (by omega) (by omega)))
theorem zEc (a1:Ty.El (zD)) (h0:SmR a1):Wp (zBe (a1,())) (fun _=>True):=by
 have hh0:=h0
 obtain ⟨i1,i2,i3,i4,i5,i6,i7,i8,i9,i10,i11,i12,i13,i14,n1,n2,n3⟩:=hh0
 unfold zBe
 try dsimp only
 repeat' (first
  |with_reducible exact trivial
  |exact ⟨i10,i11,i12,i13,i14⟩
  |assumption
  |contradiction
  |with_reducible first|refine zB ?_|refine (zIW _ _ ?_).mono (fun r _=> ?_)|refine qE n1 ?_ ?_ (fun y _ _=> ?_)|refine qE n2 ?_ ?_ (fun y _ _=> ?_)|refine qE n3 ?_ ?_ (fun y _ _=> ?_)|refine uI ?_ ?_ (fun y _ _=> ?_)|refine zI (fun _=> ?_) (fun _=> ?_)|refine zG (fun _=> ?_) (fun _=> ?_)|refine qV ?_|refine yC (fun s _ _=> ?_) (fun s _ _=> ?_)
  |simp only [vH ‹_[_]? =some _›,Option.bind_some]
  |with_reducible first|refine zC ?_|refine e2l ?_|refine e2r ?_
  |exact zH (by omega) (by omega)
  |omega
  |(simp only [List.length_cons,List.length_nil] at*;exact zH (by omega) (by omega)))
theorem zBN (a1:Ty.El (zD)) (a2:Ty.El (tU)) (h0:SmR a1):Wp (yG (a1,a2,())) (fun (r:Int)=> -1≤r∧r< (List.length a1.2.2.1:Int)):=by
 have hh0:=h0
 obtain ⟨i1,i2,i3,i4,i5,i6,i7,i8,i9,i10,i11,i12,i13,i14,n1,n2,n3⟩:=hh0
 unfold yG
 try dsimp only
 repeat' (first
  |with_reducible exact trivial
  |exact ⟨i10,i11,i12,i13,i14⟩
  |assumption
  |contradiction
  |with_reducible first|refine zB ?_|refine qE n1 ?_ ?_ (fun y _ _=> ?_)|refine qE n2 ?_ ?_ (fun y _ _=> ?_)|refine qE n3 ?_ ?_ (fun y _ _=> ?_)|refine uI ?_ ?_ (fun y _ _=> ?_)|refine zI (fun _=> ?_) (fun _=> ?_)|refine zG (fun _=> ?_) (fun _=> ?_)|refine qV ?_|refine yC (fun s _ _=> ?_) (fun s _ _=> ?_)
  |simp only [vH ‹_[_]? =some _›,Option.bind_some]
  |with_reducible first|refine zC ?_|refine e2l ?_|refine e2r ?_
  |exact zH (by omega) (by omega)
  |omega
  |(simp only [List.length_cons,List.length_nil] at*;exact zH (by omega) (by omega))
  |exact ⟨by omega,by omega⟩)
theorem zHX (a1:Ty.El (zD)) (a2:Ty.El (.str)) (h0:SmR a1):Wp (uQ (a1,a2,())) (fun (r:Int)=> -1≤r∧r< (List.length a1.2.2.1:Int)):=by
 have hh0:=h0
 obtain ⟨i1,i2,i3,i4,i5,i6,i7,i8,i9,i10,i11,i12,i13,i14,n1,n2,n3⟩:=hh0
 unfold uQ
 try dsimp only
 repeat' (first
  |with_reducible exact trivial
  |exact ⟨i10,i11,i12,i13,i14⟩
  |assumption
  |contradiction
  |with_reducible first|refine zB ?_|refine qE n1 ?_ ?_ (fun y _ _=> ?_)|refine qE n2 ?_ ?_ (fun y _ _=> ?_)|refine qE n3 ?_ ?_ (fun y _ _=> ?_)|refine uI ?_ ?_ (fun y _ _=> ?_)|refine zI (fun _=> ?_) (fun _=> ?_)|refine zG (fun _=> ?_) (fun _=> ?_)|refine qV ?_|refine yC (fun s _ _=> ?_) (fun s _ _=> ?_)
  |simp only [vH ‹_[_]? =some _›,Option.bind_some]
  |with_reducible first|refine zC ?_|refine e2l ?_|refine e2r ?_
  |exact zH (by omega) (by omega)
  |omega
  |(simp only [List.length_cons,List.length_nil] at*;exact zH (by omega) (by omega))
  |exact ⟨by omega,by omega⟩)
theorem zKp (a1:Ty.El (zD)) (h0:SmR a1):Wp (xW (a1,())) (fun _=>True):=by
 have hh0:=h0
 obtain ⟨i1,i2,i3,i4,i5,i6,i7,i8,i9,i10,i11,i12,i13,i14,n1,n2,n3⟩:=hh0
 unfold xW
 try dsimp only
 repeat' (first
  |with_reducible exact trivial
  |exact ⟨i10,i11,i12,i13,i14⟩
  |assumption
  |contradiction
  |with_reducible first|refine zB ?_|refine (zA3 _).mono (fun r _=> ?_)|refine (zBN _ _ ?_).mono (fun r _=> ?_)|refine (q9 _ _ _).mono (fun r _=> ?_)|refine (zHX _ _ ?_).mono (fun r _=> ?_)|refine qE n1 ?_ ?_ (fun y _ _=> ?_)|refine qE n2 ?_ ?_ (fun y _ _=> ?_)|refine qE n3 ?_ ?_ (fun y _ _=> ?_)|refine uI ?_ ?_ (fun y _ _=> ?_)|refine uB (fun _=> ?_) (fun _=> ?_)|refine zI (fun _=> ?_) (fun _=> ?_)|refine zG (fun _=> ?_) (fun _=> ?_)|refine qV ?_|refine yC (fun s _ _=> ?_) (fun s _ _=> ?_)
  |simp only [vH ‹_[_]? =some _›,Option.bind_some]
  |with_reducible first|refine zC ?_|refine e2l ?_|refine e2r ?_
  |exact zH (by omega) (by omega)
  |omega
  |(simp only [List.length_cons,List.length_nil] at*;exact zH (by omega) (by omega)))
theorem zA2 (a1:Ty.El (zD)) (a2:Ty.El (.str)) (h0:SmR a1):Wp (vL (a1,a2,())) (fun (r:Int)=> -1≤r∧r< (List.length a1.2.2.2.2.1:Int)):=by
 have hh0:=h0
 obtain ⟨i1,i2,i3,i4,i5,i6,i7,i8,i9,i10,i11,i12,i13,i14,n1,n2,n3⟩:=hh0
 unfold vL
 try dsimp only
 repeat' (first
  |with_reducible exact trivial
  |exact ⟨i10,i11,i12,i13,i14⟩
  |assumption
  |contradiction
  |with_reducible first|refine zB ?_|refine qE n1 ?_ ?_ (fun y _ _=> ?_)|refine qE n2 ?_ ?_ (fun y _ _=> ?_)|refine qE n3 ?_ ?_ (fun y _ _=> ?_)|refine uI ?_ ?_ (fun y _ _=> ?_)|refine zI (fun _=> ?_) (fun _=> ?_)|refine zG (fun _=> ?_) (fun _=> ?_)|refine qV ?_|refine yC (fun s _ _=> ?_) (fun s _ _=> ?_)
  |simp only [vH ‹_[_]? =some _›,Option.bind_some]
  |with_reducible first|refine zC ?_|refine e2l ?_|refine e2r ?_
  |exact zH (by omega) (by omega)
  |omega
  |(simp only [List.length_cons,List.length_nil] at*;exact zH (by omega) (by omega))
  |exact ⟨by omega,by omega⟩)
theorem wN (a1:Ty.El (zD)) (a2:Ty.El (.sl jC)) (a3:Ty.El (tI)) (a4:Ty.El (tI)) (a5:Ty.El (tI)) (h0:SmR a1) (h1:List.length a2≤20):Wp (j2 (a1,a2,a3,a4,a5,())) (fun _=>True):=by
 have hh0:=h0
 obtain ⟨i1,i2,i3,i4,i5,i6,i7,i8,i9,i10,i11,i12,i13,i14,n1,n2,n3⟩:=hh0
 unfold j2
 try dsimp only
 repeat' (first
  |with_reducible exact trivial
  |exact ⟨i10,i11,i12,i13,i14⟩
  |assumption
  |contradiction
  |with_reducible first|refine zB ?_|refine (q9 _ _ _).mono (fun r _=> ?_)|refine (zA2 _ _ ?_).mono (fun r _=> ?_)|refine qE n1 ?_ ?_ (fun y _ _=> ?_)|refine qE n2 ?_ ?_ (fun y _ _=> ?_)|refine qE n3 ?_ ?_ (fun y _ _=> ?_)|refine uI ?_ ?_ (fun y _ _=> ?_)|refine uB (fun _=> ?_) (fun _=> ?_)|refine zI (fun _=> ?_) (fun _=> ?_)|refine zG (fun _=> ?_) (fun _=> ?_)|refine qV ?_|refine yC (fun s _ _=> ?_) (fun s _ _=> ?_)
  |simp only [vH ‹_[_]? =some _›,Option.bind_some]
  |with_reducible first|refine zC ?_|refine e2l ?_|refine e2r ?_
  |exact zH (by omega) (by omega)
  |omega
  |(simp only [List.length_cons,List.length_nil] at*;exact zH (by omega) (by omega)))
theorem zC0 (a1:Ty.El (zD)) (h0:SmR a1):Wp (xG (a1,())) (fun _=>True):=by
 have hh0:=h0
 obtain ⟨i1,i2,i3,i4,i5,i6,i7,i8,i9,i10,i11,i12,i13,i14,n1,n2,n3⟩:=hh0
 unfold xG
 try dsimp only
 repeat' (first
  |with_reducible exact trivial
  |exact ⟨i10,i11,i12,i13,i14⟩
  |assumption
  |contradiction
  |with_reducible first|refine zB ?_|refine (q9 _ _ _).mono (fun r _=> ?_)|refine (zA3 _).mono (fun r _=> ?_)|refine (zDD _ _).mono (fun r _=> ?_)|refine (wN _ _ _ _ _ ?_ ?_).mono (fun r _=> ?_)|refine qE n1 ?_ ?_ (fun y _ _=> ?_)|refine qE n2 ?_ ?_ (fun y _ _=> ?_)|refine qE n3 ?_ ?_ (fun y _ _=> ?_)|refine uI ?_ ?_ (fun y _ _=> ?_)|refine uB (fun _=> ?_) (fun _=> ?_)|refine zI (fun _=> ?_) (fun _=> ?_)|refine zG (fun _=> ?_) (fun _=> ?_)|refine qV ?_|refine yC (fun s _ _=> ?_) (fun s _ _=> ?_)
  |simp only [vH ‹_[_]? =some _›,Option.bind_some]
  |with_reducible first|refine zC ?_|refine e2l ?_|refine e2r ?_
  |exact zH (by omega) (by omega)
  |omega
  |(simp only [List.length_cons,List.length_nil] at*;exact zH (by omega) (by omega)))
theorem zDC (a1:Ty.El (zD)) (h0:SmR a1):Wp (zAn (a1,())) (fun _=>True):=by
 have hh0:=h0
 obtain ⟨i1,i2,i3,i4,i5,i6,i7,i8,i9,i10,i11,i12,i13,i14,n1,n2,n3⟩:=hh0
 unfold zAn
 try dsimp only
 repeat' (first
  |with_reducible exact trivial
  |exact ⟨i10,i11,i12,i13,i14⟩
  |assumption
  |contradiction
  |with_reducible first|refine zB ?_|refine (q9 _ _ _).mono (fun r _=> ?_)|refine (zCv _ _ ?_).mono (fun r _=> ?_)|refine (wN _ _ _ _ _ ?_ ?_).mono (fun r _=> ?_)|refine uB (fun _=> ?_) (fun _=> ?_)|refine zI (fun _=> ?_) (fun _=> ?_)|refine zG (fun _=> ?_) (fun _=> ?_)|refine zC ?_
  |omega)
theorem zHV (a1:Ty.El (zD)) (h0:SmR a1):Wp (uO (a1,())) (fun _=>True):=by
 have hh0:=h0
 obtain ⟨i1,i2,i3,i4,i5,i6,i7,i8,i9,i10,i11,i12,i13,i14,n1,n2,n3⟩:=hh0
 unfold uO
 try dsimp only
 repeat' (first
  |with_reducible exact trivial
  |exact ⟨i10,i11,i12,i13,i14⟩
  |assumption
  |contradiction
  |with_reducible first|refine zB ?_|refine (q9 _ _ _).mono (fun r _=> ?_)|refine (zA2 _ _ ?_).mono (fun r _=> ?_)|refine qE n1 ?_ ?_ (fun y _ _=> ?_)|refine qE n2 ?_ ?_ (fun y _ _=> ?_)|refine qE n3 ?_ ?_ (fun y _ _=> ?_)|refine uI ?_ ?_ (fun y _ _=> ?_)|refine zI (fun _=> ?_) (fun _=> ?_)|refine zG (fun _=> ?_) (fun _=> ?_)|refine qV ?_|refine yC (fun s _ _=> ?_) (fun s _ _=> ?_)
  |simp only [vH ‹_[_]? =some _›,Option.bind_some]
  |with_reducible first|refine zC ?_|refine e2l ?_|refine e2r ?_
  |exact zH (by omega) (by omega)
  |omega
  |(simp only [List.length_cons,List.length_nil] at*;exact zH (by omega) (by omega)))
theorem zBD (a1:Ty.El (tPV)) (h0:qAy a1):Wp (xB (a1,())) (fun _=>True):=by
 have hh0:=h0
 obtain ⟨i10,i11,i12,i13,i14⟩:=hh0
 unfold xB
 try dsimp only
 repeat' (first
  |with_reducible exact trivial
  |assumption
  |contradiction
  |with_reducible first|refine zB ?_|refine (zA3 _).mono (fun r _=> ?_)|refine uI ?_ ?_ (fun y _ _=> ?_)|refine uB (fun _=> ?_) (fun _=> ?_)|refine zI (fun _=> ?_) (fun _=> ?_)|refine zG (fun _=> ?_) (fun _=> ?_)|refine qV ?_|refine yC (fun s _ _=> ?_) (fun s _ _=> ?_)
  |simp only [vH ‹_[_]? =some _›,Option.bind_some]
  |with_reducible first|refine zC ?_|refine e2l ?_|refine e2r ?_
  |exact zH (by omega) (by omega)
  |omega
  |(simp only [List.length_cons,List.length_nil] at*;exact zH (by omega) (by omega)))
theorem zCu (a1:Ty.El (zD)) (h0:SmR a1):Wp (w6 (a1,())) (fun _=>True):=by
 have hh0:=h0
 obtain ⟨i1,i2,i3,i4,i5,i6,i7,i8,i9,i10,i11,i12,i13,i14,n1,n2,n3⟩:=hh0
 unfold w6
 try dsimp only
 repeat' (first
  |with_reducible exact trivial
  |exact ⟨i10,i11,i12,i13,i14⟩
  |assumption
  |contradiction
  |with_reducible first|refine zB ?_|refine (q9 _ _ _).mono (fun r _=> ?_)|refine (zHV _ ?_).mono (fun r _=> ?_)|refine (zBD _ ?_).mono (fun r _=> ?_)|refine (wN _ _ _ _ _ ?_ ?_).mono (fun r _=> ?_)|refine uB (fun _=> ?_) (fun _=> ?_)|refine zG (fun _=> ?_) (fun _=> ?_)|refine zC ?_
  |exact zH (by omega) (by omega)
  |omega
  |(simp only [List.length_cons,List.length_nil] at*;exact zH (by omega) (by omega)))
theorem zFY (a1:Ty.El (zD)) (h0:SmR a1):Wp (vO (a1,())) (fun _=>True):=by
 have hh0:=h0
 obtain ⟨i1,i2,i3,i4,i5,i6,i7,i8,i9,i10,i11,i12,i13,i14,n1,n2,n3⟩:=hh0
 unfold vO
 try dsimp only
 repeat' (first
  |with_reducible exact trivial
  |exact ⟨i10,i11,i12,i13,i14⟩
  |assumption
  |contradiction
  |with_reducible first|refine zB ?_|refine (kS _).mono (fun r _=> ?_)|refine (q9 _ _ _).mono (fun r _=> ?_)|refine (zG8 _ ?_).mono (fun r _=> ?_)|refine (zB5 _ ?_ ?_).mono (fun r _=> ?_)|refine (zCZ _ ?_).mono (fun r _=> ?_)|refine (zB6 _ ?_ ?_).mono (fun r _=> ?_)|refine (zBC _ ?_).mono (fun r _=> ?_)|refine (zEc _ ?_).mono (fun r _=> ?_)|refine (zKp _ ?_).mono (fun r _=> ?_)|refine (zC0 _ ?_).mono (fun r _=> ?_)|refine (zDC _ ?_).mono (fun r _=> ?_)|refine (zCu _ ?_).mono (fun r _=> ?_)|refine qE n1 ?_ ?_ (fun y _ _=> ?_)|refine qE n2 ?_ ?_ (fun y _ _=> ?_)|refine qE n3 ?_ ?_ (fun y _ _=> ?_)|refine uI ?_ ?_ (fun y _ _=> ?_)|refine uB (fun _=> ?_) (fun _=> ?_)|refine zI (fun _=> ?_) (fun _=> ?_)|refine zG (fun _=> ?_) (fun _=> ?_)|refine qV ?_|refine yC (fun s _ _=> ?_) (fun s _ _=> ?_)
  |simp only [vH ‹_[_]? =some _›,Option.bind_some]
  |with_reducible first|refine zC ?_|refine e2l ?_|refine e2r ?_
  |exact zH (by omega) (by omega)
  |omega
  |(simp only [List.length_cons,List.length_nil] at*;exact zH (by omega) (by omega)))
theorem zMJ (a1:Ty.El (zT)) (h0: ∀y,y∈a1.1→SmR y):Wp (kU (a1,())) (fun _=>True):=by
 unfold kU
 try dsimp only
 repeat' (first
  |with_reducible exact trivial
  |assumption
  |contradiction
  |with_reducible first|refine zB ?_|refine (zFY _ ?_).mono (fun r _=> ?_)|refine (zBN _ _ ?_).mono (fun r _=> ?_)|refine qE h0 ?_ ?_ (fun y _ _=> ?_)|refine uI ?_ ?_ (fun y _ _=> ?_)|refine zI (fun _=> ?_) (fun _=> ?_)|refine zG (fun _=> ?_) (fun _=> ?_)|refine qV ?_|refine yC (fun s _ _=> ?_) (fun s _ _=> ?_)
  |simp only [vH ‹_[_]? =some _›,Option.bind_some]
  |with_reducible first|refine zC ?_|refine e2l ?_|refine e2r ?_
  |exact zH (by omega) (by omega)
  |omega
  |(simp only [List.length_cons,List.length_nil] at*;exact zH (by omega) (by omega))
  |exact zH (by omega) (by have:=SmR.i1 ‹SmR _›;omega))
end Go.Ve

namespace Go.Ve
open Go
set_option maxRecDepth 1000000
set_option maxHeartbeats 4000000
def zGJ (n:Ty.El zT) (p:Ty.El zF) (vl:Int) (e:Ty.El zL):Prop:=
 0≤e.1∧0≤e.2.1∧ ∃r x,n.1[e.1.toNat]? =some r∧r.2.2.1[e.2.1.toNat]? =some x∧x.2.2.1≠0∧x.2.2.2.2.1=false∧wO (x.2.1,x.2.2.1,())=some p∧x.2.2.2.1=vl
def qAk (st:HSt zL) (B:Nat) (E:Ty.El zL→Prop) (q:Option (Nat×Nat)):Prop:=
 ∀id m,q=some (id,m)→ ∃xs,st[id]? =some (some xs)∧xs.length=m∧xs.length≤B∧ ∀e,e∈xs→E e
def zOh (d d':Ty.El zQ):Prop:= ∀id m m',d.2.2.1=some (id,m)→d'.2.2.1=some (id,m')→False
theorem zOh.symm {d d':Ty.El zQ} (h:zOh d d'):zOh d' d:=fun id m m' h1 h2=>h id m' m h2 h1
structure Bld (n:Ty.El zT) (B:Nat) (D:List (Ty.El zQ)) (st:HSt zL):Prop where
 len:D.length≤B
 ok: ∀d,d∈D→qAk st B (zGJ n d.1 d.2.1) d.2.2.1
 ap:D.Pairwise zOh
 so:D.Pairwise (fun d d'=>zCe d.1 d.2.1 d'.1 d'.2.1)
theorem zEy {n:Ty.El zT} {B B':Nat} {D:List (Ty.El zQ)} {st:HSt zL} (h:Bld n B D st) (hb:B≤B'):Bld n B' D st:=by
 refine ⟨Nat.le_trans h.len hb,?_,h.ap,h.so⟩
 intro d hd id m hq
 obtain ⟨xs,h1,h2,h3,h4⟩:=h.ok d hd id m hq
 exact ⟨xs,h1,h2,Nat.le_trans h3 hb,h4⟩
theorem zYG {n:Ty.El zT} {B:Nat} {st:HSt zL} :Bld n B [] st:=⟨Nat.zero_le _,(fun d hd=>by cases hd),List.Pairwise.nil,List.Pairwise.nil⟩
theorem zYH {n:Ty.El zT} {B:Nat} {D:List (Ty.El zQ)} {st:HSt zL} (h:Bld n B D st) (k:Nat) (p:Ty.El zF) (v:Int)
  (hlo: ∀j d,j<k→D[j]? =some d→zCe d.1 d.2.1 p v) (hhi: ∀d,D[k]? =some d→zCe p v d.1 d.2.1):
  Bld n (B+1) (D.take k++[((p,v,none,()):Ty.El zQ)]++D.drop k) st:=by
 have h':=zEy h (Nat.le_succ B)
 have hnew: ∀d:Ty.El zQ,zOh d ((p,v,none,()):Ty.El zQ):=fun d id m m' _ h2=>by cases h2
 refine ⟨?_,?_,?_,?_⟩
 ·have:=h.len;simp only [List.length_append,List.length_take,List.length_drop,List.length_singleton];omega
 ·intro d hd
  simp only [List.mem_append,List.mem_singleton] at hd
  rcases hd with (hd|rfl)|hd
  ·exact h'.ok d (List.mem_of_mem_take hd)
  ·intro id m hq;cases hq
  ·exact h'.ok d (List.mem_of_mem_drop hd)
 ·have hp:=h.ap
  rw [←List.take_append_drop k D,List.pairwise_append] at hp
  obtain ⟨h1,h2,h3⟩:=hp
  rw [List.pairwise_append,List.pairwise_append]
  refine ⟨⟨h1,List.pairwise_singleton _ _,?_⟩,h2,?_⟩
  ·intro a _ b hb
   simp only [List.mem_singleton] at hb
   subst hb
   exact hnew a
  ·intro a ha b hb
   simp only [List.mem_append,List.mem_singleton] at ha
   rcases ha with ha|rfl
   ·exact h3 a ha b hb
   ·exact (hnew b).symm
 ·have hso:=h.so
  have hso':=List.pairwise_iff_getElem.1 hso
  rw [←List.take_append_drop k D,List.pairwise_append] at hso
  obtain ⟨h1,h2,h3⟩:=hso
  rw [List.pairwise_append,List.pairwise_append]
  refine ⟨⟨h1,List.pairwise_singleton _ _,?_⟩,h2,?_⟩
  ·intro a ha b hb
   simp only [List.mem_singleton] at hb
   subst hb
   obtain ⟨j,hj,hje⟩:=List.getElem_of_mem ha
   rw [List.length_take] at hj
   refine hlo j a (by omega) ?_
   rw [←hje,List.getElem_take,List.getElem?_eq_getElem (by omega)]
  ·intro a ha b hb
   simp only [List.mem_append,List.mem_singleton] at ha
   rcases ha with ha|rfl
   ·exact h3 a ha b hb
   ·obtain ⟨j,hj,hje⟩:=List.getElem_of_mem hb
    rw [List.length_drop] at hj
    rw [List.getElem_drop] at hje
    have hk:D[k]? =some (D[k]'(by omega)):=by simp
    have hlt:=hhi _ hk
    rcases Nat.eq_zero_or_pos j with h0|h0
    ·subst h0
     simp only [Nat.add_zero] at hje
     rw [←hje];exact hlt
    ·rw [←hje]
     exact zRG hlt (hso' k (k+j) (by omega) (by omega) (by omega))
theorem zUv {n:Ty.El zT} {B:Nat} {D:List (Ty.El zQ)} {st st':HSt zL} (h:Bld n B D st) {k:Nat} {d:Ty.El zQ} (hd:D[k]? =some d) {id m:Nat} {xs:List (Ty.El zL)}
  (hnew:st'[id]? =some (some xs)) (hm:xs.length=m) (hB:xs.length≤B+1) (hE: ∀e,e∈xs→zGJ n d.1 d.2.1 e) (hid:st.length≤id)
  (hkeep: ∀j ys,st[j]? =some (some ys)→(∀m',d.2.2.1≠some (j,m'))→st'[j]? =some (some ys)):
  Bld n (B+1) (D.set k ((d.1,d.2.1,some (id,m),()):Ty.El zQ)) st':=by
 have hlt:k<D.length:=(List.getElem?_eq_some_iff.1 hd).1
 have hdk:D[k]=d:=(List.getElem?_eq_some_iff.1 hd).2
 have hap:=List.pairwise_iff_getElem.1 h.ap
 have hother: ∀j (hj:j<D.length),j≠k→zOh d D[j]:=by
  intro j hj hne
  rcases Nat.lt_or_ge j k with hh|hh
  ·have:=hap j k hj hlt hh;rw [hdk] at this;exact this.symm
  ·have:=hap k j hlt hj (by omega);rw [hdk] at this;exact this
 have hold: ∀j (hj:j<D.length),zOh D[j] ((d.1,d.2.1,some (id,m),()):Ty.El zQ):=by
  intro j hj i m1 m2 h1 h2
  obtain ⟨ys,g1,_⟩:=h.ok D[j] (List.getElem_mem hj) i m1 h1
  simp only [Option.some.injEq,Prod.mk.injEq] at h2
  obtain ⟨rfl,_⟩:=h2
  have:=(List.getElem?_eq_some_iff.1 g1).1
  omega
 refine ⟨by rw [List.length_set];have:=h.len;omega,?_,?_,?_⟩
 ·intro x hx
  obtain ⟨j,hj,rfl⟩:=List.getElem_of_mem hx
  rw [List.length_set] at hj
  rw [List.getElem_set]
  split
  ·intro i m1 h1
   simp only [Option.some.injEq,Prod.mk.injEq] at h1
   obtain ⟨rfl,rfl⟩:=h1
   exact ⟨xs,hnew,hm,hB,hE⟩
  ·rename_i hne
   intro i m1 h1
   obtain ⟨ys,g1,g2,g3,g4⟩:=h.ok D[j] (List.getElem_mem hj) i m1 h1
   exact ⟨ys,hkeep i ys g1 (fun m' hq=>hother j hj (fun hh=>hne hh.symm) i m' m1 hq h1),g2,by omega,g4⟩
 ·rw [List.pairwise_iff_getElem]
  intro i j hi hj hij
  rw [List.length_set] at hi hj
  rw [List.getElem_set,List.getElem_set]
  split
  ·split
   ·omega
   ·exact (hold j hj).symm
  ·split
   ·exact hold i hi
   ·exact hap i j hi hj hij
 ·have hso:=List.pairwise_iff_getElem.1 h.so
  rw [List.pairwise_iff_getElem]
  intro i j hi hj hij
  rw [List.length_set] at hi hj
  have:=hso i j hi hj hij
  rw [List.getElem_set,List.getElem_set]
  split
  ·split
   ·omega
   ·rename_i hki _
    subst hki
    rw [hdk] at this
    exact this
  ·split
   ·rename_i hkj
    subst hkj
    rw [hdk] at this
    exact this
   ·exact this
theorem zYI {n:Ty.El zT} {B:Nat} {D:List (Ty.El zQ)} {st:HSt zL} (h:Bld n B D st) (hb:B≤1000) {k:Nat} {d:Ty.El zQ} (hd:D[k]? =some d) {e:Ty.El zL} (he:zGJ n d.1 d.2.1 e):
  Wp (zOJ 16 st d.2.2.1 [e]) (fun r=>Bld n (B+1) (D.set k ((d.1,d.2.1,r.2,()):Ty.El zQ)) r.1):=by
 have hmem:d∈D:=List.mem_of_getElem? hd
 cases hq:d.2.2.1 with
 |none=>
  refine ⟨(st++[some [e]],some (st.length,1)),?_,?_⟩
  ·simp only [zOJ,List.length_singleton]
   rw [if_pos (by omega)]
  ·refine zUv h hd (xs:=[e]) ?_ rfl (by simp) (fun e' h'=>by simp only [List.mem_singleton] at h';subst h';exact he) (Nat.le_refl _) ?_
   ·simp
   ·intro j ys hj _
    rw [List.getElem?_append_left (List.getElem?_eq_some_iff.1 hj).1]
    exact hj
 |some q=>
  obtain ⟨id,m⟩:=q
  obtain ⟨xs,h1,h2,h3,h4⟩:=h.ok d hmem id m hq
  have hlt:=(List.getElem?_eq_some_iff.1 h1).1
  refine ⟨(st.set id none++[some (xs++[e])],some (st.length,(xs++[e]).length)),?_,?_⟩
  ·simp only [zOJ,h1,List.length_singleton]
   rw [if_pos (by omega)]
  ·refine zUv h hd (xs:=xs++[e]) ?_ rfl (by simp;omega) ?_ (Nat.le_refl _) ?_
   ·rw [List.getElem?_append_right (by simp)]
    simp
   ·intro e' h'
    simp only [List.mem_append,List.mem_singleton] at h'
    rcases h' with h'|rfl
    ·exact h4 e' h'
    ·exact he
   ·intro j ys hj hne
    have hjl:=(List.getElem?_eq_some_iff.1 hj).1
    rw [List.getElem?_append_left (by rw [List.length_set];exact hjl),List.getElem?_set_ne]
    ·exact hj
    ·intro hh
     subst hh
     exact hne m hq
structure zXC (n:Ty.El zT) (t:Ty.El zI2):Prop where
 doms:t.1.length≤360
 ends : ∀ d, d ∈ t.1 → d.2.2.1.length ≤ 360 ∧ ∀ e, e ∈ d.2.2.1 → zGJ n d.1 d.2.1 e
 links:t.2.1.length≤12
 link: ∀l,l∈t.2.1→0≤l∧l< (t.1.length:Int)
 so:t.1.Pairwise (fun d d'=>zCe d.1 d.2.1 d'.1 d'.2.1)
theorem zRA {α β:Type} {f:α→Option β} {R:α→β→Prop} : ∀ {xs:List α},(∀x,x∈xs→Wp (f x) (R x))→Wp (zJK f xs) (fun ys:List β=>ys.length=xs.length∧ ∀ (i:Nat) x y,xs[i]? =some x→ys[i]? =some y→R x y)
 |[],_=>⟨[],rfl,rfl,fun i x y h=>by simp at h⟩
 |x::r,h=>by
  obtain ⟨y,h1,h2⟩:=h x (by simp)
  obtain ⟨ys,h3,h4,h5⟩:=zRA (xs:=r) (fun z hz=>h z (List.mem_cons_of_mem _ hz))
  refine ⟨y::ys,by simp only [zJK,h1,h3],by simp [h4],?_⟩
  intro i a b ha hb
  cases i with
  |zero=>simp only [List.getElem?_cons_zero,Option.some.injEq] at ha hb;subst ha hb;exact h2
  |succ i=>exact h5 i a b (by simpa using ha) (by simpa using hb)
theorem zXq {n:Ty.El zT} {B:Nat} {D:List (Ty.El zQ)} {st:HSt zL} (h:Bld n B D st):
  Wp (zJK (zAa st zQ) D) (fun ys=>ys.length=D.length∧(∀d:Ty.El kB,d∈ys→d.2.2.1.length≤B∧ ∀e,e∈d.2.2.1→zGJ n d.1 d.2.1 e)∧ys.Pairwise (fun d d':Ty.El kB=>zCe d.1 d.2.1 d'.1 d'.2.1)):=by
 refine (zRA (R:=fun (d:Ty.El zQ) (y:Ty.El kB)=>(y.2.2.1.length≤B∧ ∀e,e∈y.2.2.1→zGJ n y.1 y.2.1 e)∧y.1=d.1∧y.2.1=d.2.1) ?_).mono ?_
 ·intro d hd
  obtain ⟨⟨p1,p2,⟨⟩⟩,v,q,⟨⟩⟩:=d
  cases q with
  |none=>exact ⟨((p1,p2,()),v,[],()),rfl,⟨Nat.zero_le _,fun e he=>by cases he⟩,rfl,rfl⟩
  |some q=>
   obtain ⟨id,m⟩:=q
   obtain ⟨xs,h1,h2,h3,h4⟩:=h.ok _ hd id m rfl
   refine ⟨((p1,p2,()),v,xs,()),?_,⟨h3,h4⟩,rfl,rfl⟩
   simp only [zAa,h1]
 ·rintro ys ⟨h1,h2⟩
  have hat: ∀i (hi:i<ys.length), ∃d,D[i]? =some d∧((ys[i].2.2.1.length≤B∧ ∀e,e∈ys[i].2.2.1→zGJ n ys[i].1 ys[i].2.1 e)∧ys[i].1=d.1∧ys[i].2.1=d.2.1):=by
   intro i hi
   refine ⟨D[i]'(by omega),by simp,h2 i _ _ (by simp) (by simp [hi])⟩
  refine ⟨h1,?_,?_⟩
  ·intro d hd
   obtain ⟨i,hi,rfl⟩:=List.getElem_of_mem hd
   obtain ⟨_,_,h3,_⟩:=hat i hi
   exact h3
  ·rw [List.pairwise_iff_getElem]
   intro i j hi hj hij
   have hso:=List.pairwise_iff_getElem.1 h.so i j (by omega) (by omega) hij
   obtain ⟨d,hd,_,e1,e2⟩:=hat i hi
   obtain ⟨d',hd',_,e3,e4⟩:=hat j hj
   obtain ⟨_,rfl⟩:=List.getElem?_eq_some_iff.1 hd
   obtain ⟨_,rfl⟩:=List.getElem?_eq_some_iff.1 hd'
   rw [e1,e2,e3,e4]
   exact hso
end Go.Ve

namespace Go.Ve
open Go
set_option maxRecDepth 1000000
set_option maxHeartbeats 4000000
theorem vJ {α:Type} {xs:List α} {i:Nat} {x:α} (h:xs[i]? =some x):atN xs i=some x:=h
abbrev BSt:=(List (Ty.El zQ)×List Int)×HSt zL
theorem zIY (a1:Ty.El zT) (hn:a1.1.length≤9) (hs: ∀y,y∈a1.1→SmR y):
  Wp (zB3 [] (a1,())) (fun r=>(r.2.2.1=0→Bld a1 360 r.2.1.1 r.1∧r.2.1.2.1.length≤12∧(∀l,l∈r.2.1.2.1→0≤l∧l< (r.2.1.1.length:Int))∧kU (a1,())=some 0)∧(r.2.2.1≠0→r.2.1=([],[],()))):=by
 unfold zB3
 dsimp only
 refine zAj ((zMJ a1 hs).mono (fun _ _=>trivial)) (fun y0 hy0=> ?_)
 refine zG (fun hc=> ?_) (fun hc=> ?_)
 ·refine zB ⟨fun h=> ?_,fun _=>rfl⟩
  simp only at h
  subst h
  cases hc
 have hy:y0=0:=by simpa using hc
 subst hy
 refine zC ((wW (xs:=a1.1) (by omega) (fun i (g:BSt)=>g.1.2=[]∧Bld a1 (40*i) g.1.1 g.2) ⟨rfl,zYG⟩ ?_ (Q:=fun g=>g.1.2=[]∧Bld a1 360 g.1.1 g.2) (fun g hg=>⟨hg.1,zEy hg.2 (by omega)⟩)).mono ?_)
 ·intro i x g hx hj
  have hi:i<9:=by have:=(List.getElem?_eq_some_iff.1 hx).1;omega
  have hsx:=(hs x (List.mem_of_getElem? hx)).i1
  simp only [zJ hx,Option.bind_some]
  refine (wW (xs:=x.2.2.1) (by omega) (fun j (g:BSt)=>g.1.2=[]∧Bld a1 (40*i+2*j) g.1.1 g.2) hj ?_ (fun g hg=>⟨hg.1,zEy hg.2 (by omega)⟩))
  intro j f g hf hj
  have hjl:j<20:=by have:=(List.getElem?_eq_some_iff.1 hf).1;omega
  obtain ⟨⟨D,L⟩,st⟩:=g
  obtain ⟨rfl,hD⟩:=hj
  simp only [zJ hf,Option.bind_some]
  refine zC ((show Wp _ (fun s:Bool×BSt=>s.2=((D,[]),st)∧(s.1=false→f.2.2.1≠0∧f.2.2.2.2.1=false)) from ?_).mono ?_)
  ·refine zG (fun h=>zB ⟨rfl,fun h=>by cases h⟩) (fun h=>zB ⟨rfl,fun h'=>⟨by simpa using h,h'⟩⟩)
  rintro ⟨b,g⟩ ⟨hg,hb⟩
  simp only at hg hb
  subst hg
  refine zG (fun _=>zB ⟨rfl,zEy hD (by omega)⟩) (fun hb'=> ?_)
  obtain ⟨hlen,hdown⟩:=hb hb'
  refine zAj (zEd _ _) (fun p hp=> ?_)
  refine zC ((show Wp _ (fun s:Int×BSt=> ∃k:Nat,s.1=(k:Int)∧k≤D.length∧s.2=((D,[]),st)∧(∀m d,m<k→D[m]? =some d→zCe d.1 d.2.1 p f.2.2.2.1)∧(∀d,D[k]? =some d→ ¬zCe d.1 d.2.1 p f.2.2.2.1)) from ?_).mono ?_)
  ·refine jW (fun s:Int×BSt=> ∃k:Nat,s.1=(k:Int)∧k≤D.length∧s.2=((D,[]),st)∧(∀m d,m<k→D[m]? =some d→zCe d.1 d.2.1 p f.2.2.2.1)) (fun s=>((D.length:Int) -s.1).toNat) ⟨(0:Nat),rfl,Nat.zero_le _,rfl,fun m d hm=>by omega⟩ ?_
   rintro ⟨s,g⟩ ⟨k,hk,hkl,hg,hlo⟩
   simp only at hk hg
   subst hk hg
   have hDl:D.length≤_:=hD.len
   refine zC ((show Wp _ (fun s:Bool×BSt=>s.2=((D,[]),st)∧(s.1=true→ ∃d,D[k]? =some d∧zCe d.1 d.2.1 p f.2.2.2.1)∧(s.1=false→ ∀d,D[k]? =some d→ ¬zCe d.1 d.2.1 p f.2.2.2.1)) from ?_).mono ?_)
   ·refine zI (fun hlt=> ?_) (fun hge=>zB ⟨rfl,(fun h=>by cases h),fun _ d hd=> ?_⟩)
    ·have hlt:k<D.length:=by simp only at hlt;omega
     have hk:D[k]? =some D[k]:=by simp [hlt]
     generalize D[k]=dk at hk
     have hone: ∀d,D[k]? =some d→d=dk:=fun d hd=>by rw [hk] at hd;exact (Option.some.inj hd).symm
     simp only [zJ hk,Int.toNat_natCast,vJ hk,Option.bind_some]
     refine zC (qN (zI7 _ _) ?_)
     refine zI (fun hc=>zB ⟨rfl,fun _=>⟨dk,hk, .inl (zMy.1 hc)⟩,fun h=>by cases h⟩) (fun hc=> ?_)
     have hc: ¬plt dk.1 p:=fun h=>hc (zMy.2 h)
     refine zG (fun he=>zB ⟨rfl,fun h=>⟨dk,hk, .inr ⟨zGf he,of_decide_eq_true h⟩⟩,fun h d hd=> ?_⟩) (fun he=>zB ⟨rfl,(fun h=>by cases h),fun _ d hd=> ?_⟩)
     ·have hd:d=dk:=hone d hd
      subst hd
      rintro (h1|⟨_,h1⟩)
      ·exact hc h1
      ·exact of_decide_eq_false h h1
     ·have hd:d=dk:=hone d hd
      subst hd
      rintro (h1|⟨h1,_⟩)
      ·exact hc h1
      ·have he:(d.1.fst==p.1&&(d.1.snd.fst==p.2.1&&true))=false:=he
       rw [h1] at he
       simp at he
    ·have hge: ¬(k:Int)< (D.length:Int):=hge
     have:=(List.getElem?_eq_some_iff.1 hd).1
     omega
   ·rintro ⟨b,g⟩ ⟨hg,hb,hb2⟩
    simp only at hg hb hb2
    subst hg
    refine zG (fun h=> ?_) (fun h=> ?_)
    ·obtain ⟨d,hd,hlt2⟩:=hb h
     have hlt:=(List.getElem?_eq_some_iff.1 hd).1
     refine zB (e2l ⟨⟨k+1,?_,hlt,rfl,?_⟩,?_⟩)
     ·simp only;rw [zH (by omega) (by omega)];omega
     ·intro m d' hm hd'
      rcases Nat.lt_or_ge m k with h'|h'
      ·exact hlo m d' h' hd'
      ·have:m=k:=by omega
       subst this
       rw [hd] at hd'
       cases hd'
       exact hlt2
     ·simp only;rw [zH (by omega) (by omega)];omega
    ·exact zB (e2r ⟨k,rfl,hkl,rfl,hlo,hb2 h⟩)
  rintro ⟨s,g⟩ ⟨k,hk,hkl,hg,hlo,hhi⟩
  simp only at hk hg
  subst hk hg
  have hDl:D.length≤_:=hD.len
  refine zC ((show Wp _ (fun g:BSt=>g.1.2=[]∧Bld a1 (40*i+2*j+1) g.1.1 g.2∧ ∃d,g.1.1[k]? =some d∧d.1=p∧d.2.1=f.2.2.2.1) from ?_).mono ?_)
  ·refine zC ((show Wp _ (fun s:Bool×BSt=>s.2=((D,[]),st)∧(s.1=false→ ∃d,D[k]? =some d∧d.1=p∧d.2.1=f.2.2.2.1)∧(s.1=true→ ∀d,D[k]? =some d→ ¬(d.1=p∧d.2.1=f.2.2.2.1))) from ?_).mono ?_)
   ·refine zG (fun heq=>zB ⟨rfl,(fun h=>by cases h),fun _ d hd=> ?_⟩) (fun hne=> ?_)
    ·have heq:(k:Int)=(D.length:Int):=by simpa using heq
     have:=(List.getElem?_eq_some_iff.1 hd).1
     omega
    have hlt:k<D.length:=by
     have: ¬((k:Int)=(D.length:Int)):=by simpa using hne
     omega
    have hk:D[k]? =some D[k]:=by simp [hlt]
    generalize D[k]=dk at hk
    have hone: ∀d,D[k]? =some d→d=dk:=fun d hd=>by rw [hk] at hd;exact (Option.some.inj hd).symm
    simp only [zJ hk,Int.toNat_natCast,vJ hk,Option.bind_some]
    refine zG (fun he=>zB ⟨rfl,(fun h=>by cases h),fun _ d hd h2=> ?_⟩) (fun he=> ?_)
    ·have hd:d=dk:=hone d hd
     subst hd
     have he:(!(d.1.fst==p.1&&(d.1.snd.fst==p.2.1&&true)))=true:=he
     rw [h2.1] at he
     simp at he
    have hpe:=zGf (by simpa using he)
    refine zB ⟨rfl,fun hv=>⟨dk,hk,hpe,by simpa using hv⟩,fun hv d hd h2=> ?_⟩
    have hd:d=dk:=hone d hd
    subst hd
    have hv:(d.2.1 !=f.2.2.2.1)=true:=hv
    rw [h2.2] at hv
    simp at hv
   ·rintro ⟨b,g⟩ ⟨hg,hb,hb2⟩
    simp only at hg hb hb2
    subst hg
    refine zG (fun hbt=> ?_) (fun hf'=>zB ⟨rfl,zEy hD (by omega),hb hf'⟩)
    have hins: ∀d,D[k]? =some d→zCe p f.2.2.2.1 d.1 d.2.1:=fun d hd=>zWM (hhi d hd) (hb2 hbt d hd)
    refine zG (fun _=> ?_) (fun h=> ?_)
    ·simp only [Int.toNat_natCast,List.take_length]
     refine zC (wH (by simp only [List.length_nil,List.length_drop];omega) ?_)
     refine zG (fun _=> ?_) (fun h=> ?_)
     ·refine zC (wH (by simp only [List.length_take,List.length_singleton];omega) ?_)
      refine zC (wH (by simp only [List.length_append,List.length_nil,List.length_take,List.length_drop,List.length_singleton];omega) ?_)
      rw [List.nil_append]
      refine zB ⟨rfl,zYH hD k p _ hlo hins,⟨(p,f.2.2.2.1,none,()),?_,rfl,rfl⟩⟩
      simp only
      rw [List.append_assoc,List.getElem?_append_right (by simp only [List.length_take];omega)]
      simp only [List.length_take]
      rw [show k-min k D.length=0 by omega]
      rfl
     ·exfalso
      simp only [Bool.and_eq_false_iff,decide_eq_false_iff_not] at h
      omega
    ·exfalso
     simp only [Bool.and_eq_false_iff,decide_eq_false_iff_not] at h
     omega
  rintro ⟨⟨D',L'⟩,st'⟩ ⟨hL,hD',d,hk,hd1,hd2⟩
  simp only at hL hD' hk
  subst hL
  have hD'l:D'.length≤_:=hD'.len
  simp only [zJ hk,Int.toNat_natCast,vJ hk,Option.bind_some]
  refine zC ((zYI hD' (by omega) hk (e:=(↑i, ↑j,())) ⟨(show (0:Int)≤(i:Int) by omega),(show (0:Int)≤(j:Int) by omega),x,f,by simpa using hx,by simpa using hf,hlen,hdown,?_,?_⟩).mono ?_)
  ·rw [hp,hd1]
  ·exact hd2.symm
  ·rintro ⟨st2,q2⟩ hB
   exact zB ⟨rfl,zEy hB (by omega)⟩
 ·rintro ⟨⟨D,L⟩,st⟩ ⟨hL,hD⟩
  simp only at hL hD
  subst hL
  have hDl:D.length≤_:=hD.len
  refine zC ((zQE (n:=D.length) (by omega) (fun i (g:BSt)=>g.1.1=D∧g.2=st∧g.1.2.length≤i∧ ∀l,l∈g.1.2→0≤l∧l< (D.length:Int)) ⟨rfl,rfl,Nat.le_refl _,(fun l hl=>by cases hl)⟩ (fun i g hg=>by simp only [hg.1]) ?_
   (Q:=fun g:BSt=>g.1.1=D∧g.2=st∧ ∀l,l∈g.1.2→0≤l∧l< (D.length:Int)) (fun g hg=>⟨hg.1,hg.2.1,hg.2.2.2⟩)).mono ?_)
  ·rintro i ⟨⟨D',L⟩,st'⟩ hi ⟨rfl,rfl,hL,hl⟩
   simp only at hi hL hl
   have hDl2:D'.length≤360:=hD.len
   have hk:D'[i]? =some D'[i]:=by simp [hi]
   simp only [zJ hk,Int.toNat_natCast,vJ hk,Option.bind_some]
   refine zI (fun _=> ?_) (fun _=>zB ⟨rfl,rfl,by simp only;omega,hl⟩)
   refine zC (wH (by simp only [List.length_singleton];omega) (zB ⟨rfl,rfl,by simp only [List.length_append,List.length_singleton];omega,?_⟩))
   intro l hl'
   simp only [List.mem_append,List.mem_singleton] at hl'
   rcases hl' with hl'|rfl
   ·exact hl l hl'
   ·omega
  ·rintro ⟨⟨D',L⟩,st'⟩ ⟨rfl,rfl,hl⟩
   simp only at hl
   refine zI (fun _=>zB ⟨(fun h=>by cases h),fun _=>rfl⟩) (fun h=>zB ⟨fun _=>⟨hD,?_,hl,hy0⟩,fun h=>absurd rfl h⟩)
   simp only at h ⊢
   omega
end Go.Ve

namespace Go.Ve
open Go
set_option maxRecDepth 1000000
set_option maxHeartbeats 4000000
theorem zOW {tE a b:Ty} {st:HSt tE} {x:a.El} {y:b.El} {x':(vK tE a).El} {y':(vK tE b).El} (h1:zAa st a x=some x') (h2:zAa st b y=some y'):zAa st (.pair a b) (x,y)=some (x',y'):=by
 simp only [zAa,h1,h2]
theorem zSy {tE a:Ty} {r:List Ty} {st:HSt tE} {x:a.El} {y:ElS r} {x':(vK tE a).El} {y':ElS (zFX tE r)} (h1:zAa st a x=some x') (h2:zMF st r y=some y'):zMF st (a::r) (x,y)=some (x',y'):=by
 simp only [zMF,h1,h2]
theorem zO9 {α:Type} {f:α→Option α} (hf: ∀x,f x=some x): ∀l:List α,zJK f l=some l
 |[]=>rfl
 |x::l=>by simp only [zJK,hf x,zO9 hf l]
theorem zLO (a1:Ty.El zT) (hn:a1.1.length≤9) (hs: ∀y,y∈a1.1→SmR y):
  Wp (zDI (a1,())) (fun r=>r.2.1=0→zXC a1 r.1∧kU (a1,())=some 0):=by
 obtain ⟨⟨st,⟨D,L,⟨⟩⟩,e,⟨⟩⟩,h1,h2,h3⟩:=zIY a1 hn hs
 unfold zDI zMG
 rw [h1]
 simp only at h2 h3
 by_cases he:e=0
 ·subst he
  obtain ⟨hB,hL,hl,hc⟩:=h2 rfl
  obtain ⟨ys,g1,g2,g3,g4⟩:=zXq hB
  refine ⟨((ys,L,()),0,()),?_,fun _=>⟨⟨?_,g3,hL,?_,g4⟩,hc⟩⟩
  ·have e1:zAa st (.sl zQ) D=some ys:=g1
   have e2:zAa st (.sl tI) L=some L:=zO9 (fun _=>rfl) L
   exact zSy (r:=[tI]) (zOW e1 (zOW e2 rfl)) rfl
  ·simp only;have:D.length≤360:=hB.len;omega
  ·intro l hh;simp only;rw [g2];exact hl l hh
 ·have:=h3 he
  simp only [Prod.mk.injEq] at this
  obtain ⟨rfl,rfl,_⟩:=this
  exact ⟨(([],[],()),e,()),rfl,fun h=>absurd h he⟩
structure zXG (d:List Int) (m:Int):Prop where
 len:d.length≤2
 lo: ∀x,x∈d→0≤x∧x<m
theorem zG9 (d:List Int) (m:Int):Wp (zAB (d,m,())) (fun b=>b=true→zXG d m):=by
 unfold zAB
 dsimp only
 refine zI (fun _=>zB (fun h=>by cases h)) (fun h=> ?_)
 refine zAx (by omega) (fun i=> ∀ (j:Nat) (y:Int),j<i→d[j]? =some y→0≤y∧y<m) (fun j y hj=>by omega) ?_ ?_
 ·intro i (x:Int) hx hj
  have hi:=(List.getElem?_eq_some_iff.1 hx).1
  simp only [zJ hx,Option.bind_some]
  refine zC ((show Wp _ (fun b:Bool=>b=false→0≤x∧x<m) from ?_).mono ?_)
  ·refine zI (fun _=>zB (fun h=>by cases h)) (fun h1=> ?_)
   refine zI (fun _=>zB (fun h=>by cases h)) (fun h2=> ?_)
   refine zI (fun h3=> ?_) (fun _=>zB (fun _=>⟨by omega,by omega⟩))
   refine zC (uI (by rw [zH (by omega) (by omega)];omega) (by rw [zH (by omega) (by omega)];omega) (fun y _ _=>zB (fun _=>⟨by omega,by omega⟩)))
  ·intro b hb
   refine zG (fun _=>zB (e2r (e2r (fun h=>by cases h)))) (fun h=>zB (e2l ⟨rfl,?_⟩))
   intro j y hj' hy
   rcases Nat.lt_or_ge j i with h'|h'
   ·exact hj j y h' hy
   ·have:j=i:=by omega
    subst this
    rw [hx] at hy
    cases hy
    exact hb h
 ·intro hj
  refine zB (fun _=>⟨by omega,?_⟩)
  intro x hx
  obtain ⟨j,hjl,rfl⟩:=List.getElem_of_mem hx
  exact hj j _ hjl (by simp [hjl])
theorem zZJ {α:Type} {xs:List α} {P:α→Prop} (h: ∀j y,j<xs.length→xs[j]? =some y→P y): ∀y,y∈xs→P y:=by
 intro x hx
 obtain ⟨j,hjl,rfl⟩:=List.getElem_of_mem hx
 exact h j _ hjl (by simp [hjl])
theorem zFU {α ρ:Type} {xs:List α} {P:α→Prop} {body:Int→Option (Int ⊕ (Unit ⊕ ρ))} {K:Unit→Option ρ} {Q:ρ→Prop} (hl:xs.length<4611686018427387904)
  (step: ∀ (i:Nat) x,xs[i]? =some x→Wp (body (i:Int)) (w4 (fun s'=>s'=IntKind.wrap IntKind.i64 ((i:Int)+1)∧P x) (w4 (fun _=>False) Q))) (fin:(∀x,x∈xs→P x)→Wp (K ()) Q):
  Wp (qW (zP (fun s:Int=>bif decide (s< (xs.length:Int)) then body s else some (Sum.inr (Sum.inl ()))) (0:Int)) K) Q:=by
 refine zAx hl (fun i=> ∀j y,j<i→xs[j]? =some y→P y) (fun j y hj=>by omega) ?_ (fun h=>fin (zZJ h))
 intro i x hx hj
 refine (step i x hx).mono ?_
 intro o ho
 cases o with
 |inl s'=>
  refine ⟨ho.1,?_⟩
  intro j y hj' hy
  rcases Nat.lt_or_ge j i with h'|h'
  ·exact hj j y h' hy
  ·have:j=i:=by omega
   subst this
   rw [hx] at hy
   cases hy
   exact ho.2
 |inr o=>exact ho
theorem zML (a1:Ty.El zD):Wp (zE4 (a1,())) (fun b=>b=true→SmR a1):=by
 unfold zE4
 dsimp only
 refine zC ((show Wp _ (fun b:Bool=>b=false→List.length a1.2.2.1≤12∧List.length a1.2.2.2.1≤12∧List.length a1.2.2.2.2.1≤12∧List.length a1.2.2.2.2.2.1≤12∧List.length a1.2.2.2.2.2.2.1≤12∧
  List.length a1.2.2.2.2.2.2.2.1≤20∧List.length a1.2.2.2.2.2.2.2.2.1.2.2.1≤8∧List.length a1.2.2.2.2.2.2.2.2.1.2.2.2.1≤8∧List.length a1.2.2.2.2.2.2.2.2.2.1.2.2.2.2.1≤8∧
  List.length a1.2.2.2.2.2.2.2.2.2.2.1.2.2.2.2.2.2.2.1≤8∧List.length a1.2.2.2.2.2.2.2.2.2.2.1.2.2.2.1≤12∧List.length a1.2.2.2.2.2.2.2.2.2.2.1.2.2.2.2.1≤12∧
  List.length a1.2.2.2.2.2.2.2.2.2.2.1.2.2.2.2.2.1≤12∧List.length a1.2.2.2.2.2.2.2.2.2.2.1.2.2.2.2.2.2.1≤12) from ?_).mono ?_)
 ·iterate 13 (refine zI (fun _=>zB (fun h=>by cases h)) (fun _=> ?_))
  refine zB (fun h=> ?_)
  have h:=of_decide_eq_false h
  refine ⟨?_,?_,?_,?_,?_,?_,?_,?_,?_,?_,?_,?_,?_,?_⟩<;>omega
 intro b hb
 refine zG (fun _=>zB (fun h=>by cases h)) (fun h=> ?_)
 obtain ⟨i1,i2,i3,i4,i5,i6,i7,i8,i9,i10,i11,i12,i13,i14⟩:=hb h
 refine zFU (P:=fun y=>List.length y.2.1≤20) (by omega) ?_ (fun n1=> ?_)
 ·intro i x hx
  simp only [zJ hx,Option.bind_some]
  exact zI (fun _=>zB (e2r (e2r (fun h=>by cases h)))) (fun _=>zB (e2l ⟨rfl,by omega⟩))
 refine zFU (P:=fun y=>List.length y.2.1≤20) (by omega) ?_ (fun n2=> ?_)
 ·intro i x hx
  simp only [zJ hx,Option.bind_some]
  exact zI (fun _=>zB (e2r (e2r (fun h=>by cases h)))) (fun _=>zB (e2l ⟨rfl,by omega⟩))
 refine zFU (P:=fun y=>List.length y.2.1≤20) (by omega) ?_ (fun n3=> ?_)
 ·intro i x hx
  simp only [zJ hx,Option.bind_some]
  exact zI (fun _=>zB (e2r (e2r (fun h=>by cases h)))) (fun _=>zB (e2l ⟨rfl,by omega⟩))
 refine zB (fun _=> ?_)
 constructor<;>first|assumption|omega
theorem zLP (a1:Ty.El zT):Wp (zDL (a1,())) (fun b=>b=true→a1.1.length≤9∧ ∀y,y∈a1.1→SmR y):=by
 unfold zDL
 dsimp only
 refine zI (fun _=>zB (fun h=>by cases h)) (fun hn=> ?_)
 refine zFU (P:=SmR) (by omega) ?_ (fun h=>zB (fun _=>⟨by omega,h⟩))
 intro i x hx
 simp only [zJ hx,Option.bind_some]
 refine zC ((zML x).mono (fun b hb=> ?_))
 refine zG (fun _=>zB (e2r (e2r (fun h=>by cases h)))) (fun h=>zB (e2l ⟨rfl,hb (by simpa using h)⟩))
structure zAi (n:Ty.El zT) (d:List Int) (v:Ty.El zR):Prop where
 net:v.1=n
 rs:n.1.length≤9
 sm: ∀y,y∈n.1→SmR y
 chk:kU (n,())=some 0
 topo:zXC n v.2.1
 dn:v.2.2.1=d
 down:zXG d v.2.1.2.1.length
theorem zMK (n:Ty.El zT) (d:List Int) (hn:n.1.length≤9) (hs: ∀y,y∈n.1→SmR y):
  Wp (zER (n,d,())) (fun r=>r.2.1=0→zAi n d r.1):=by
 unfold zER
 dsimp only
 refine zC ((zLO n hn hs).mono (fun y0 hy=> ?_))
 refine zG (fun h=>zB (fun h'=> ?_)) (fun h=> ?_)
 ·simp only at h'
  rw [h'] at h
  cases h
 have he:y0.2.1=0:=by simpa using h
 obtain ⟨ht,hc⟩:=hy he
 refine zC ((zG9 _ _).mono (fun b hb=> ?_))
 refine zG (fun _=>zB (fun h'=>by cases h')) (fun hb'=> ?_)
 have hd:=hb (by simpa using hb')
 refine zC (wH (by have:=hd.len;simp only [List.length_nil];omega) ?_)
 refine zB (fun _=>⟨rfl,hn,hs,hc,ht,rfl,?_⟩)
 exact hd
theorem zMM (n:Ty.El zT) (d:List Int):Wp (zE5 (n,d,())) (fun r=>r.2.1=true→zAi n d r.1):=by
 unfold zE5
 dsimp only
 refine zC (zC ((zLP n).mono (fun b hb=> ?_)))
 refine zG (fun _=>zB ?_) (fun h=>zB ?_)
 ·exact zB (fun h=>by cases h)
 ·obtain ⟨hn,hs⟩:=hb (by simpa using h)
  refine zG (fun _=>zB (fun h=>by cases h)) (fun _=> ?_)
  refine zC ((zMK n d hn hs).mono (fun r hr=>zB (fun h=>hr ?_)))
  simpa using h
end Go.Ve

namespace Go.Ve
open Go
set_option maxRecDepth 1000000
set_option maxHeartbeats 4000000
structure RtS (x:Ty.El zA):Prop where
 path:List.length x.2.2.2.2.2.2.2.2.1≤1048576
 hops:List.length x.2.2.2.2.2.2.2.2.2.2.2.1≤1048576
end Go.Ve

namespace Go.Ve
open Go
set_option maxRecDepth 1000000
set_option maxHeartbeats 4000000
structure RtB (x:Ty.El zA):Prop where
 path:x.2.2.2.2.2.2.2.2.1.length≤1152921504606846976
 hops:x.2.2.2.2.2.2.2.2.2.2.2.1.length≤1152921504606846976
theorem zIZ (p:Ty.El zF) (a:Int):Wp (wA (p,a,())) (fun _=>True):=by
 unfold wA zCY zBZ
 simp only [Option.bind_some]
 refine zC (zG (fun _=>zB (zB trivial)) (fun h=> ?_))
 exfalso
 simp only [decide_eq_false_iff_not] at h
 apply h
 split<;>split<;>(rw [zH (by omega) (by omega)];omega)
theorem zUJ {α:Type} {m:Option α} {x:α} (h:Wp m (fun _=>True)):m=some (m.getD x):=by
 obtain ⟨r,h,_⟩:=h
 rw [h];rfl
noncomputable def zTD (p:Ty.El zF) (a:Int):Bool:=(wA (p,a,())).getD false
theorem zYz (p:Ty.El zF) (a:Int):wA (p,a,())=some (zTD p a):=zUJ (zIZ p a)
def v2 (p q:Ty.El zF):Bool:=p.1==q.1&&(p.2.1==q.2.1&&true)
theorem zDe {p q:Ty.El zF} :v2 p q=true↔p=q:=⟨fun h=>zGf h,fun h=>by subst h;simp [v2]⟩
noncomputable def zHE (own:Ty.El zF) (a:Int) (best:Option (Ty.El zA)) (x:Ty.El zA):Option (Ty.El zA):=
 if v2 x.1 own|| !zTD x.1 a then best else match best with
  |none=>some x
  |some b=>if x.1.2.1>b.1.2.1 then some x else best
theorem zSO {own:Ty.El zF} {a:Int} {b:Option (Ty.El zA)} {x:Ty.El zA} (h:(v2 x.1 own|| !zTD x.1 a)=true):zHE own a b x=b:=by
 unfold zHE;rw [if_pos h]
theorem zSP {own:Ty.El zF} {a:Int} {x:Ty.El zA} (h:(v2 x.1 own|| !zTD x.1 a)=false):zHE own a none x=some x:=by
 unfold zHE;rw [if_neg (by rw [h];simp)]
theorem zMX {own:Ty.El zF} {a:Int} {b x:Ty.El zA} (h:(v2 x.1 own|| !zTD x.1 a)=false):zHE own a (some b) x=if x.1.2.1>b.1.2.1 then some x else some b:=by
 unfold zHE;rw [if_neg (by rw [h];simp)]
noncomputable def zGa (t:List (Ty.El zA)) (own:Ty.El zF) (a:Int):Option (Ty.El zA):=t.foldl (zHE own a) none
theorem zTc {α β:Type} {f:β→α→β} {b:β} {xs:List α} {i:Nat} {x:α} (h:xs[i]? =some x):(xs.take (i+1)).foldl f b=f ((xs.take i).foldl f b) x:=by
 rw [List.take_add_one,h]
 simp
theorem zF5 (t:List (Ty.El zA)) (own:Ty.El zF) (a:Int) (hl:t.length<4611686018427387904):
  Wp (zAy (t,own,a,())) (fun k=>(k<0∧zGa t own a=none)∨ ∃ (i:Nat) (y:Ty.El zA),k=(i:Int)∧t[i]? =some y∧zGa t own a=some y):=by
 unfold zAy
 dsimp only
 refine zC ((wW (xs:=t) hl (fun i (k:Int)=>(k<0∧(t.take i).foldl (zHE own a) none=none)∨ ∃ (m:Nat) (y:Ty.El zA),k=(m:Int)∧t[m]? =some y∧(t.take i).foldl (zHE own a) none=some y)
  (.inl ⟨by omega,rfl⟩) ?_ (fun g hg=> ?_) (Q:=fun k=>(k<0∧zGa t own a=none)∨ ∃ (i:Nat) (y:Ty.El zA),k=(i:Int)∧t[i]? =some y∧zGa t own a=some y)).mono (fun k hk=>zB hk))
 ·intro i x k hx hj
  rw [zTc hx]
  generalize (t.take i).foldl (zHE own a) none=b at hj
  simp only [zJ hx,Option.bind_some]
  refine zC ((show Wp _ (fun s:Bool=>s=(v2 x.1 own|| !zTD x.1 a)) from ?_).mono ?_)
  ·refine zG (fun h=>zB ?_) (fun h=>zC (qN (zYz _ _) (zB ?_)))
   ·have h':v2 x.1 own=true:=h
    simp [h']
   ·have h':v2 x.1 own=false:=h
    simp [h']
  intro s hs
  refine zG (fun h=>zB ?_) (fun h=> ?_)
  ·rw [zSO (by rw [←hs,h])]
   exact hj
  ·have hsk:(v2 x.1 own|| !zTD x.1 a)=false:=by rw [←hs,h]
   rcases hj with ⟨h1,rfl⟩|⟨m,y,rfl,h2,rfl⟩
   ·refine zC (zG (fun _=>zB ?_) (fun h'=> ?_))
    ·exact zB (.inr ⟨i,x,rfl,hx,zSP hsk⟩)
    ·exfalso;simp only [decide_eq_false_iff_not] at h';exact h' h1
   ·refine zC (zG (fun h'=> ?_) (fun _=> ?_))
    ·exfalso;simp only [decide_eq_true_eq] at h';omega
    ·simp only [zJ h2,Option.bind_some]
     refine zB (zI (fun h'=> ?_) (fun h'=> ?_))
     ·exact zB (.inr ⟨i,x,rfl,hx,by rw [zMX hsk,if_pos h']⟩)
     ·exact zB (.inr ⟨m,y,rfl,h2,by rw [zMX hsk,if_neg h']⟩)
 ·rw [List.take_length] at hg
  exact hg
end Go.Ve

namespace Go.Ve
open Go
set_option maxRecDepth 1000000
set_option maxHeartbeats 4000000
def zD5 (e y:Ty.El zL):Bool:=y.1==e.1&&(y.2.1==e.2.1&&true)
theorem zJ1 {e y:Ty.El zL} :zD5 e y=true↔y=e:=⟨fun h=>zGf h,fun h=>by subst h;simp [zD5]⟩
def wJ (v:Ty.El zR) (r i:Int):Int:=u9 (fun d:Ty.El kB=>d.2.2.1.any (zD5 (r,i,()))) v.2.1.1
def zCJ (v:Ty.El zR) (r i:Int):Int:=u9 (fun l:Int=>decide (wJ v r i≥0)&&l==wJ v r i) v.2.1.2.1
def upB (v:Ty.El zR) (r i:Int):Bool:=decide (0≤wJ v r i)&&v.2.2.1.all (fun x:Int=> !(x==zCJ v r i))
structure zAW (v:Ty.El zR):Prop where
 rs:v.1.1.length≤9
 sm: ∀y,y∈v.1.1→SmR y
 doms:v.2.1.1.length≤360
 ends : ∀ d, d ∈ v.2.1.1 → d.2.2.1.length ≤ 360
 links:v.2.1.2.1.length≤12
 link0: ∀l,l∈v.2.1.2.1→(0:Int)≤l
 down:v.2.2.1.length≤2
 down0: ∀l,l∈v.2.2.1→(0:Int)≤l
theorem zAi.s {n:Ty.El zT} {d:List Int} {v:Ty.El zR} (h:zAi n d v):zAW v where
 rs:=by rw [h.net];exact h.rs
 sm:=by rw [h.net];exact h.sm
 doms:=h.topo.doms
 ends := fun d hd => (h.topo.ends d hd).1
 links:=h.topo.links
 link0:=fun l hl=>(h.topo.link l hl).1
 down:=by rw [h.dn];exact h.down.len
 down0:=by rw [h.dn];exact fun l hl=>(h.down.lo l hl).1
theorem zDO {α:Type} {p:α→Bool} {xs:List α} :u9 p xs≥0↔xs.any p=true:=by
 rcases zBW p xs with ⟨h,h2⟩|⟨i,x,h,h2,h3,_⟩
 ·rw [h]
  constructor
  ·intro h';omega
  ·intro h'
   obtain ⟨x,hx,hp⟩:=List.any_eq_true.1 h'
   rw [h2 x hx] at hp
   cases hp
 ·rw [h]
  exact ⟨fun _=>List.any_eq_true.2 ⟨x,List.mem_of_getElem? h2,h3⟩,fun _=>by omega⟩
theorem zG1 {α:Type} {p:α→Bool} {xs:List α} (h:0≤u9 p xs): ∃x,xs[(u9 p xs).toNat]? =some x∧p x=true:=by
 rcases zBW p xs with ⟨h1,h2⟩|⟨i,x,h1,h2,h3,_⟩
 ·omega
 ·rw [h1];exact ⟨x,by simpa using h2,h3⟩
theorem zFF (l:List (Ty.El zL)) (e:Ty.El zL) (hl:l.length≤1048576):Wp (xT (l,e,())) (fun k=>k=u9 (zD5 e) l):=by
 unfold xT
 dsimp only
 refine yY (p:=zD5 e) (by omega) ?_ rfl
 intro i x hx
 simp only [zJ hx,Option.bind_some]
 have:(e.1==x.1&&(e.2.1==x.2.1&&true))=zD5 e x:=by
  unfold zD5
  rw [Bool.eq_iff_iff]
  simp only [Bool.and_true,Bool.and_eq_true,beq_iff_eq]
  exact ⟨fun h=>⟨h.1.symm,h.2.symm⟩,fun h=>⟨h.1.symm,h.2.symm⟩⟩
 rw [this]
 cases zD5 e x<;>rfl
theorem zDV (l:List (Ty.El zL)) (e:Ty.El zL) (hl:l.length≤1048576):Wp (uD (l,e,())) (fun b=>b=l.any (zD5 e)):=by
 unfold uD
 dsimp only
 refine zC ((zFF l e hl).mono (fun k hk=>zB ?_))
 subst hk
 rw [Bool.eq_iff_iff,decide_eq_true_eq]
 exact zDO
theorem zBQ (v:Ty.El zR) (r i:Int) (hv:zAW v):Wp (zAN (v,r,i,())) (fun k=>k=wJ v r i):=by
 unfold zAN
 dsimp only
 have:=hv.doms
 refine yY (p:=fun d:Ty.El kB=>d.2.2.1.any (zD5 (r,i,()))) (by omega) ?_ rfl
 intro k x hx
 simp only [zJ hx,Option.bind_some]
 have:=hv.ends x (List.mem_of_getElem? hx)
 have h1:=wQ (zDV x.2.2.1 (r,i,()) (by omega))
 refine (congrArg (fun m=>Option.bind m _) h1).trans ?_
 simp only [Option.bind_some]
 cases List.any x.2.2.1 (zD5 (r,i,()))<;>rfl
theorem zA7 (v:Ty.El zR) (r i:Int) (hv:zAW v):Wp (xX (v,r,i,())) (fun k=>k=wJ v r i):=by
 unfold xX
 dsimp only
 have:=hv.doms
 refine zAx (by omega) (fun k=> ∀j y,j<k→v.2.1.1[j]? =some y→y.2.2.1.any (zD5 (r,i,()))=false) (fun j y hj=>by omega) ?_ ?_
 ·intro k x hx hj
  have hends:=hv.ends x (List.mem_of_getElem? hx)
  simp only [zJ hx,Option.bind_some]
  refine zAx (xs:=x.2.2.1) (by omega) (fun m=> ∀y,y∈x.2.2.1.take m→zD5 (r,i,()) y=false) (fun y hy=>by simp at hy) ?_ ?_
  ·intro m y hy hm
   simp only [zJ hy,Option.bind_some]
   refine zG (fun h=>zB (e2r (e2r (e2r (e2r ?_))))) (fun h=>zB (e2l ⟨rfl,?_⟩))
   ·have h1:x.2.2.1.any (zD5 (r,i,()))=true:=List.any_eq_true.2 ⟨y,List.mem_of_getElem? hy,h⟩
    exact (zUo (p:=fun d:Ty.El kB=>d.2.2.1.any (zD5 (r,i,()))) hx h1 hj).symm
   ·intro z hz
    rw [List.take_add_one,hy] at hz
    simp only [Option.toList_some,List.mem_append,List.mem_singleton] at hz
    rcases hz with hz|rfl
    ·exact hm z hz
    ·exact h
  ·intro hm
   rw [List.take_length] at hm
   refine zB (e2l ⟨rfl,?_⟩)
   intro j y hj' hy
   rcases Nat.lt_or_ge j k with h'|h'
   ·exact hj j y h' hy
   ·have:j=k:=by omega
    subst this
    rw [hx] at hy
    cases hy
    rw [Bool.eq_false_iff]
    intro h
    obtain ⟨z,hz,hz2⟩:=List.any_eq_true.1 h
    rw [hm z hz] at hz2
    cases hz2
 ·intro hj
  refine zB (zG0 ?_).symm
  intro x hx
  obtain ⟨j,hjl,rfl⟩:=List.getElem_of_mem hx
  exact hj j _ hjl (by simp [hjl])
theorem zBE (l:List Int) (e:Int) (hl:l.length≤1048576):Wp (uM (l,e,())) (fun k=>k=u9 (fun x=>x==e) l):=by
 unfold uM
 dsimp only
 refine yY (p:=fun x:Int=>x==e) (by omega) ?_ rfl
 intro i (x:Int) hx
 simp only [zJ hx,Option.bind_some]
 have:(e==x)=(x==e):=by rw [Bool.eq_iff_iff,beq_iff_eq,beq_iff_eq];exact eq_comm
 rw [this]
 cases x==e<;>rfl
theorem zAl (l:List Int) (e:Int) (hl:l.length≤1048576):Wp (vB (l,e,())) (fun b=>b=l.any (fun x=>x==e)):=by
 unfold vB
 dsimp only
 refine zC ((zBE l e hl).mono (fun k hk=>zB ?_))
 subst hk
 rw [Bool.eq_iff_iff,decide_eq_true_eq]
 exact zDO
theorem zMR (v:Ty.El zR) (r i:Int) (hv:zAW v):Wp (zGQ (v,r,i,())) (fun k=>k=zCJ v r i):=by
 unfold zGQ
 dsimp only
 refine zC ((zBQ v r i hv).mono (fun k hk=> ?_))
 subst hk
 refine zI (fun h=>zB ?_) (fun h=> ?_)
 ·unfold zCJ
  rw [zG0]
  intro x _
  have: ¬(wJ v r i≥0):=by omega
  simp [this]
 ·have:=hv.links
  refine zC ((zBE _ _ (by omega)).mono (fun k hk=>zB ?_))
  rw [hk]
  unfold zCJ
  have h2:wJ v r i≥0:=by omega
  congr 1
  funext l
  simp [h2]
theorem zLU (v:Ty.El zR) (r i:Int) (hv:zAW v):Wp (zES (v,r,i,())) (fun k=>k=zCJ v r i):=by
 unfold zES
 dsimp only
 refine zC ((zA7 v r i hv).mono (fun k hk=> ?_))
 subst hk
 have:=hv.links
 refine yY (p:=fun l:Int=>decide (wJ v r i≥0)&&l==wJ v r i) (by omega) ?_ rfl
 intro i' (x:Int) hx
 simp only [zJ hx,Option.bind_some]
 cases decide (wJ v r i≥0)<;>cases x==wJ v r i<;>rfl
theorem zSr {α:Type} {p:α→Bool} (l:List α):(!l.any p)=l.all (fun x=> !p x):=by
 induction l with
 |nil=>rfl
 |cons x l ih=>simp [←ih]
theorem zEM (v:Ty.El zR) (r i:Int) (hv:zAW v):Wp (zGP (v,r,i,())) (fun b=>b=upB v r i):=by
 unfold zGP
 dsimp only
 refine zC ((zBQ v r i hv).mono (fun k hk=> ?_))
 subst hk
 refine zI (fun h=>zB ?_) (fun h=> ?_)
 ·unfold upB
  have: ¬(0≤wJ v r i):=by omega
  simp [this]
 ·refine zC ((zMR v r i hv).mono (fun k hk=> ?_))
  subst hk
  have h0:0≤wJ v r i:=by omega
  have hd:=hv.down
  refine zC (zI (fun h=>zB (zB ?_)) (fun h=> ?_))
  ·unfold upB
   simp only [h0,decide_true,Bool.true_and]
   symm
   rw [List.all_eq_true]
   intro x hx
   have:=hv.down0 x hx
   simp only [Bool.not_eq_true',beq_eq_false_iff_ne]
   omega
  ·refine zC ((zAl _ _ (by omega)).mono (fun b hb=>zB (zB ?_)))
   subst hb
   unfold upB
   simp only [h0,decide_true,Bool.true_and]
   exact zSr _
theorem zOl (v:Ty.El zR) (r i:Int) (hv:zAW v):Wp (zJg (v,r,i,())) (fun b=>b=upB v r i):=by
 unfold zJg
 dsimp only
 refine zC ((zA7 v r i hv).mono (fun k hk=> ?_))
 subst hk
 refine zI (fun h=>zB ?_) (fun h=> ?_)
 ·unfold upB
  have: ¬(0≤wJ v r i):=by omega
  simp [this]
 ·refine zC ((zLU v r i hv).mono (fun k hk=> ?_))
  subst hk
  have h0:0≤wJ v r i:=by omega
  have hd:=hv.down
  refine zFU (P:=fun x:Int=>(x==zCJ v r i)=false) (by omega) ?_ (fun hall=>zB ?_)
  ·intro i' (x:Int) hx
   simp only [zJ hx,Option.bind_some]
   refine zG (fun h=>zB (e2r (e2r ?_))) (fun h=>zB (e2l ⟨rfl,h⟩))
   unfold upB
   simp only [h0,decide_true,Bool.true_and]
   symm
   rw [Bool.eq_false_iff]
   intro hh
   have:=List.all_eq_true.1 hh x (List.mem_of_getElem? hx)
   simp [h] at this
  ·unfold upB
   simp only [h0,decide_true,Bool.true_and]
   symm
   rw [List.all_eq_true]
   intro x hx
   simp [hall x hx]
def zNw (r:Ty.El zD) (nm:Ty.El .str):Int:=u9 (fun x:Ty.El z8=>x.1==nm) r.2.2.1
theorem zF7 (r:Ty.El zD) (nm:Ty.El .str) (hr:SmR r):Wp (zAC (r,nm,())) (fun k=>k=zNw r nm):=by
 unfold zAC wE zAI
 dsimp only
 have:=hr.i1
 refine zC (yY (p:=fun x:Ty.El z8=>x.1==nm) (by omega) ?_ (zB rfl))
 intro i x hx
 simp only [zJ hx,Option.bind_some]
 cases x.1==nm<;>rfl
theorem zHc (r:Ty.El zD) (nm:Ty.El .str) (hr:SmR r):Wp (uQ (r,nm,())) (fun k=>k=zNw r nm):=by
 unfold uQ
 dsimp only
 have:=hr.i1
 refine yY (p:=fun x:Ty.El z8=>x.1==nm) (by omega) ?_ rfl
 intro i x hx
 simp only [zJ hx,Option.bind_some]
 cases x.1==nm<;>rfl
end Go.Ve

namespace Go.Ve
open Go
set_option maxRecDepth 1000000
set_option maxHeartbeats 4000000
def wL (n:Int):Nat:=min n.toNat 32
def zCy (k:Nat):BitVec 32:=BitVec.allOnes 32<<< (32-k)
theorem zPw (n:Int):wL n≤32:=Nat.min_le_right _ _
theorem zVM {x:Int} (h0:0≤x) (h1:x<4294967296):IntKind.wrap .u32 x=x:=by
 have e1:((2:Int)^IntKind.bits .u32)=4294967296:=by decide
 simp only [IntKind.wrap,IntKind.signed,Bool.false_and,Bool.false_eq_true,if_false,e1]
 omega
theorem zPB (x:BitVec 32):IntKind.wrap .u32 (x.toNat:Int)=(x.toNat:Int):=zVM (by omega) (by have:=x.isLt;omega)
theorem zJG (x:BitVec 32):BitVec.ofInt 32 (x.toNat:Int)=x:=by
 rw [BitVec.ofInt_natCast,BitVec.ofNat_toNat,BitVec.setWidth_eq]
theorem zUG: ∀i,i<32→zCy i|||BitVec.ofInt 32 (IntKind.wrap .u32 (1*2^min (31-i) 32))=zCy (i+1):=by decide+kernel
theorem zU5:zCy 0=0#32:=by decide+kernel
theorem zQA: ∀k,k<33→IntKind.wrap .u32 (4294967295*2^min (32-k) 32)=((zCy k).toNat:Int):=by decide+kernel
theorem zC4 (n:Int):Wp (zAQ (n,())) (fun m=>m=((zCy (wL n)).toNat:Int)):=by
 unfold zAQ
 dsimp only
 refine zC ((zQE (n:=32) (by omega) (fun i (m:Int)=>m=((zCy (min i (wL n))).toNat:Int)) (by simp [zU5]) (fun i g _=>by simp) ?_ (Q:=fun m=>m=((zCy (wL n)).toNat:Int)) (fun g hg=>by
  rw [hg,Nat.min_eq_right (zPw n)])).mono (fun m hm=>zB hm))
 intro i g hi hg
 subst hg
 refine zI (fun h=> ?_) (fun h=>zB ?_)
 ·have h:(i:Int)<n:=h
  have hk:i<wL n:=by unfold wL;omega
  refine zI (fun _=>zB ?_) (fun h'=>absurd ?_ h')
  ·have e1:min i (wL n)=i:=by omega
   have e2:min (i+1) (wL n)=i+1:=by omega
   rw [e1,e2]
   dsimp only
   rw [zH (by omega) (by omega),zIT (by omega) (by omega),show ((31:Int) - (i:Int)).toNat=31-i by omega]
   change IntKind.wrap .u32 (((BitVec.ofInt 32 ((zCy i).toNat:Int)|||BitVec.ofInt 32 (IntKind.wrap .u32 (1*2^min (31-i) 32))).toNat:Nat):Int)=_
   rw [zJG,zUG i hi,zPB]
  ·simp only
   rw [zH (by omega) (by omega),zIT (by omega) (by omega)]
   omega
 ·have h: ¬((i:Int)<n):=h
  have hk:wL n≤i:=by unfold wL;omega
  rw [Nat.min_eq_right hk,Nat.min_eq_right (by omega)]
theorem zR9 (n:Int):(if (if (32:Int)<n then (32:Int) else n)>(0:Int) then if (32:Int)<n then (32:Int) else n else (0:Int))=(wL n:Int):=by
 unfold wL
 split<;>split<;>omega
theorem zVA (n:Int):(if (0:Int)>if (32:Int)<n then (32:Int) else n then (0:Int) else if (32:Int)<n then (32:Int) else n)=(wL n:Int):=by
 unfold wL
 split<;>split<;>omega
theorem zN4 (n:Int):wL ((wL n:Nat):Int)=wL n:=by
 unfold wL
 omega
theorem zF8 (n:Int):zCY (n,())=some ((zCy (wL n)).toNat:Int):=by
 have hle:=zPw n
 unfold zCY zBZ
 simp only [zR9,Option.bind_some]
 rw [zH (by omega) (by omega)]
 have h0:(0:Int)≤32- ((wL n:Nat):Int):=by omega
 simp only [h0,decide_true,cond_true]
 rw [show ((32:Int) - ((wL n:Nat):Int)).toNat=32-wL n by omega]
 exact congrArg some (zQA _ (by omega))
def zCI (a n:Int):Ty.El zF:=(((BitVec.ofInt 32 a&&&zCy (wL n)).toNat:Int),(wL n:Int),())
def zDp (p:Ty.El zF) (a:Int):Bool:=(((BitVec.ofInt 32 a&&&zCy (wL p.2.1)).toNat:Nat):Int)==p.1
theorem zQy (a:Int) (k:Nat):IntKind.wrap .u32 (((BitVec.ofInt (IntKind.bits .u32) a&&&BitVec.ofInt (IntKind.bits .u32) ((zCy k).toNat:Int)).toNat:Nat):Int)=((BitVec.ofInt 32 a&&&zCy k).toNat:Int):=by
 change IntKind.wrap .u32 (((BitVec.ofInt 32 a&&&BitVec.ofInt 32 ((zCy k).toNat:Int)).toNat:Nat):Int)=_
 rw [zJG,zPB]
theorem zI9 (a n:Int):zCP (a,n,())=some (zCI a n):=by
 refine wQ ?_
 unfold zCP
 dsimp only
 refine zC (qN (zF8 _) ?_)
 unfold zBZ
 simp only [zR9,Option.bind_some]
 refine zB ?_
 unfold zCI
 rw [zQy]
theorem yZ (a n:Int):wO (a,n,())=some (zCI a n):=by
 refine wQ ?_
 unfold wO
 simp only [zVA]
 refine zC ((zC4 _).mono (fun m hm=>zB ?_))
 subst hm
 unfold zCI
 rw [zN4,zQy]
theorem zH7 (p:Ty.El zF) (a:Int):yU (p,a,())=some (zDp p a):=by
 refine wQ ?_
 unfold yU
 dsimp only
 refine zC ((zC4 _).mono (fun m hm=>zB ?_))
 subst hm
 rw [zQy]
 rfl
theorem zH9 (p:Ty.El zF) (a:Int):wA (p,a,())=some (zDp p a):=by
 refine wQ ?_
 unfold wA
 dsimp only
 refine zC (qN (zF8 _) (zB ?_))
 rw [zQy]
 rfl
theorem zU1 (a n:Int):zDp (zCI a n) (zCI a n).1=true:=by
 unfold zDp zCI
 simp only [zN4,zJG]
 rw [BitVec.and_assoc,BitVec.and_self]
 simp
theorem zEg (p q:Ty.El zF):xH (p,q,())=some (decide (p.2.1≤q.2.1)&&zDp p q.1):=by
 refine wQ ?_
 unfold xH
 dsimp only
 refine zC (zG (fun h=>zC (qN (zH7 _ _) (zB (zB ?_)))) (fun h=>zB (zB ?_)))<;>(rw [h];rfl)
theorem zH6 (p q:Ty.El zF):kW (p,q,())=some ((decide (p.2.1≤q.2.1)&&zDp p q.1)||(decide (q.2.1≤p.2.1)&&zDp q p.1)):=by
 refine wQ ?_
 unfold kW
 dsimp only
 refine zC (zC (qN (zEg _ _) (zG (fun h=>zB (zB ?_)) (fun h=>zC (qN (zEg _ _) (zB (zB ?_)))))))<;>(rw [h];rfl)
def zME (p:Ty.El zF):Bool:=decide (p.2.1≥0)&&(decide (p.2.1≤32)&&(BitVec.ofInt 32 p.1&&& ~~~ zCy (wL p.2.1))==0#32)
theorem zLT (p:Ty.El zF):w8 (p,())=some (zME p):=by
 refine wQ ?_
 unfold w8 zME
 dsimp only
 refine zC (zG (fun h=>zG (fun h'=>zC ((zC4 _).mono (fun m hm=>zB (zB ?_)))) (fun h'=>zB (zB ?_))) (fun h=>zB (zB ?_)))
 ·subst hm
  rw [h,h']
  simp only [Bool.true_and]
  change (IntKind.wrap .u32 (((BitVec.ofInt 32 p.1&&& ~~~ BitVec.ofInt 32 ((zCy (wL p.2.1)).toNat:Int)).toNat:Nat):Int)==(0:Int))=_
  rw [zJG,zPB,Bool.eq_iff_iff,beq_iff_eq,beq_iff_eq]
  constructor
  ·intro h
   apply BitVec.eq_of_toNat_eq
   simp only [BitVec.toNat_ofNat]
   omega
  ·intro h
   rw [h];rfl
 ·rw [h,h'];rfl
 ·rw [h];rfl
end Go.Ve

namespace Go.Ve
open Go
set_option maxRecDepth 1000000
set_option maxHeartbeats 4000000
section
variable {ρ:Type}
theorem zXN {n:Nat} {body:Int→Option (Int ⊕ (Unit ⊕ ρ))} {Q:Unit ⊕ ρ→Prop} (hl:n<4611686018427387904) (J:Nat→Prop) (h0:J 0)
  (step: ∀i,i<n→J i→Wp (body (i:Int)) (w4 (fun s'=>s'=IntKind.wrap IntKind.i64 ((i:Int)+1)∧J (i+1)) Q)) (fin:J n→Q (Sum.inl ())):
  Wp (zP (fun s:Int=>bif decide (s< (n:Int)) then body s else some (Sum.inr (Sum.inl ()))) (0:Int)) Q:=by
 refine jW (fun (s:Int)=> ∃i:Nat,s=(i:Int)∧i≤n∧J i) (fun (s:Int)=>((n:Int) -s).toNat) ⟨(0:Nat),rfl,Nat.zero_le _,h0⟩ ?_
 rintro s ⟨i,hi,hle,hj⟩
 subst hi
 refine zI ?_ ?_
 ·intro hc
  have hlt:i<n:=by omega
  refine (step i hlt hj).mono ?_
  intro o ho
  cases o with
  |inl s'=>
   obtain ⟨rfl,h2⟩:=ho
   rw [zH (by omega) (by omega)]
   exact ⟨⟨i+1,by omega,hlt,h2⟩,by omega⟩
  |inr o=>exact ho
 ·intro hc
  have:i=n:=by omega
  subst this
  exact zB (e2r (fin hj))
theorem zGM {n:Nat} {P:Nat→Prop} {body:Int→Option (Int ⊕ (Unit ⊕ ρ))} {Q:Unit ⊕ ρ→Prop} (hl:n<4611686018427387904)
  (step: ∀i,i<n→Wp (body (i:Int)) (w4 (fun s'=>s'=IntKind.wrap IntKind.i64 ((i:Int)+1)∧P i) Q)) (fin:(∀i,i<n→P i)→Q (Sum.inl ())):
  Wp (zP (fun s:Int=>bif decide (s< (n:Int)) then body s else some (Sum.inr (Sum.inl ()))) (0:Int)) Q:=by
 refine zXN hl (fun i=> ∀j,j<i→P j) (fun j hj=>by omega) ?_ fin
 intro i hi hj
 refine (step i hi).mono ?_
 intro o ho
 cases o with
 |inl s'=>
  refine ⟨ho.1,?_⟩
  intro j hj'
  rcases Nat.lt_or_ge j i with h'|h'
  ·exact hj j h'
  ·have:j=i:=by omega
   subst this
   exact ho.2
 |inr o=>exact ho
end
theorem zXM {σ ρ:Type} {m:Option (σ ⊕ ρ)} {K:σ→Option ρ} {Q:ρ→Prop} (P:σ→Prop) (h:Wp m (w4 P Q)) (hK: ∀s,P s→Wp (K s) Q):Wp (qW m K) Q:=by
 refine qV (h.mono ?_)
 intro o ho
 cases o with
 |inl s=>exact hK s ho
 |inr r=>exact ho
theorem qR (a lo hi:Int):zX (a,lo,hi,())=some (decide (lo≤a)&&decide (a≤hi)):=by
 refine wQ ?_
 unfold zX
 dsimp only
 refine zC (zG (fun h=>zB (zB ?_)) (fun h=>zB (zB ?_)))<;>(rw [h];rfl)
def ovB (p q:Ty.El zF):Bool:=(decide (p.2.1≤q.2.1)&&zDp p q.1)||(decide (q.2.1≤p.2.1)&&zDp q p.1)
theorem zRo (a n:Int):ovB (zCI a n) (zCI a n)=true:=by
 unfold ovB
 rw [zU1]
 simp
structure zY0 (l:List (Ty.El z8)) (i:Nat) (x:Ty.El z8):Prop where
 name: ∀j y,j<i→l[j]? =some y→y.1≠x.1
 len:0≤x.2.2.1∧x.2.2.1≤32
 addr:x.2.2.1≠0→x.2.1≠0
 ls:x.2.2.2.2.2.1=true→(0≤x.2.2.2.2.2.2.1∧x.2.2.2.2.2.2.1≤255)∧1≤x.2.2.2.2.2.2.2.1∧x.2.2.2.2.2.2.2.1≤65535
 apart: ∀j y,j<i→l[j]? =some y→x.2.2.1≠0→y.2.2.1≠0→ovB (zCI x.2.1 x.2.2.1) (zCI y.2.1 y.2.2.1)=false
def zYZ (l:List (Ty.El z8)):Prop:= ∀i x,l[i]? =some x→zY0 l i x
theorem zN6 (l:List (Ty.El z8)) (h0:l.length≤20):Wp (v8 (l,())) (fun e=>e=0→zYZ l∧l.length≤8):=by
 unfold v8
 dsimp only
 refine zI (fun _=>zB (fun h=>by cases h)) (fun h=> ?_)
 refine zAx (by omega) (fun i=> ∀m x,m<i→l[m]? =some x→zY0 l m x) (fun m x hm=>by omega) ?_ (fun hj=>zB (fun _=>⟨fun i x hx=>hj i x (List.getElem?_eq_some_iff.1 hx).1 hx,by omega⟩))
 intro i x hx hj
 have hi:=(List.getElem?_eq_some_iff.1 hx).1
 simp only [zJ hx,Option.bind_some]
 refine qV (zC ((kS _).mono (fun b _=> ?_)))
 refine zG (fun _=>zB (fun h=>by cases h)) (fun _=> ?_)
 refine qV (zGM (n:=i) (P:=fun j=> ∀y,l[j]? =some y→y.1≠x.1) (by omega) ?_ (fun hname=> ?_))
 ·intro j hjl
  have hy:l[j]? =some l[j]:=by simp
  simp only [zJ hy,Option.bind_some]
  refine zG (fun _=>zB (fun h=>by cases h)) (fun hn=>zB (e2l ⟨rfl,?_⟩))
  intro y hy'
  rw [hy] at hy'
  cases hy'
  simpa using hn
 ·refine e2l (zC ((show Wp _ (fun s:Bool=>s=false→0≤x.2.2.1∧x.2.2.1≤32) from ?_).mono (fun s hs=> ?_)))
  ·refine zC (qN (qR _ _ _) (zG (fun _=>zB (fun h=>by cases h)) (fun h1=>zC (qN (qR _ _ _) (zG (fun _=>zB (fun h=>by cases h)) (fun _=>zC (qN (qR _ _ _) (zB (fun _=> ?_)))))))))
   simpa using h1
  refine zG (fun _=>zB (fun h=>by cases h)) (fun h1=> ?_)
  have hlen:=hs h1
  refine zC ((show Wp _ (fun s:Bool=>s=false→x.2.2.1≠0→x.2.1≠0) from ?_).mono (fun s hs=> ?_))
  ·refine zG (fun hz=> ?_) (fun hz=> ?_)
   ·have hz:x.2.2.1=0:=by simpa using hz
    repeat' (first
     |exact zB (fun _ hne=>absurd hz hne)
     |refine zG (fun _=> ?_) (fun _=> ?_))
   ·refine zG (fun _=>zB (fun h' _=>by simpa using h')) (fun h'=>zB (fun _ hne=> ?_))
    rw [hz] at*
    exact absurd (show x.2.2.1=0 by simpa using h') hne
  refine zG (fun _=>zB (fun h=>by cases h)) (fun h2=> ?_)
  have haddr:=hs h2
  refine zC ((show Wp _ (fun s:Bool=>s=false→x.2.2.2.2.2.1=true→(0≤x.2.2.2.2.2.2.1∧x.2.2.2.2.2.2.1≤255)∧1≤x.2.2.2.2.2.2.2.1∧x.2.2.2.2.2.2.2.1≤65535) from ?_).mono (fun s hs=> ?_))
  ·refine zG (fun hz=> ?_) (fun hz=> ?_)
   ·refine zC (qN (qR _ _ _) (zG (fun _=>zB (fun h=>by cases h)) (fun h3=>zC (qN (qR _ _ _) (zG (fun _=>zB (fun h=>by cases h)) (fun h4=> ?_))))))
    have h3:0≤x.2.2.2.2.2.2.1∧x.2.2.2.2.2.2.1≤255:=by simpa using h3
    have h4:1≤x.2.2.2.2.2.2.2.1∧x.2.2.2.2.2.2.2.1≤65535:=by simpa using h4
    repeat' (first
     |exact zB (fun _ _=>⟨h3,h4⟩)
     |refine zG (fun _=> ?_) (fun _=> ?_))
   ·repeat' (first
     |exact zB (fun _ ht=>by rw [hz] at ht;cases ht)
     |refine zG (fun _=> ?_) (fun _=> ?_))
  refine zG (fun _=>zB (fun h=>by cases h)) (fun h3=> ?_)
  have hls:=hs h3
  refine zGM (n:=i) (P:=fun j=> ∀y,l[j]? =some y→x.2.2.1≠0→y.2.2.1≠0→ovB (zCI x.2.1 x.2.2.1) (zCI y.2.1 y.2.2.1)=false) (by omega) ?_ (fun hap=> ?_)
  ·intro j hjl
   have hy:l[j]? =some l[j]:=by simp
   simp only [zJ hy,Option.bind_some]
   refine zC ((show Wp _ (fun s:Bool=>s=false→x.2.2.1≠0→l[j].2.2.1≠0→ovB (zCI x.2.1 x.2.2.1) (zCI l[j].2.1 l[j].2.2.1)=false) from ?_).mono (fun s hs=> ?_))
   ·refine zG (fun _=>zG (fun _=> ?_) (fun hz=>zB (fun _ _ hne=> ?_))) (fun hz=>zB (fun _ hne=> ?_))
    ·exact zC (qN (yZ _ _) (zC (qN (yZ _ _) (zC (qN (zH6 _ _) (zB (fun h _ _=>h)))))))
    ·exact absurd (show l[j].2.2.1=0 by simpa using hz) hne
    ·exact absurd (show x.2.2.1=0 by simpa using hz) hne
   ·refine zG (fun _=>zB (fun h=>by cases h)) (fun hn=>zB (e2l ⟨rfl,?_⟩))
    intro y hy'
    rw [hy] at hy'
    cases hy'
    exact hs hn
  ·refine e2l (zB (e2l ⟨rfl,?_⟩))
   intro m z hm hz
   rcases Nat.lt_or_ge m i with h'|h'
   ·exact hj m z h' hz
   ·have:m=i:=by omega
    subst this
    rw [hx] at hz
    cases hz
    exact ⟨fun j y hjl hy=>hname j hjl y hy,hlen,haddr,hls,fun j y hjl hy=>hap j hjl y hy⟩
structure zYX (r:Ty.El zD) (x:Ty.El zEI):Prop where
 pre:zME x.1=true
 admin:1≤x.2.2.2.2.1∧x.2.2.2.2.1≤255
 tag:0≤x.2.2.2.2.2.1∧x.2.2.2.2.2.1≤65535
 one:(x.2.1≠0∧x.2.2.1= { data:= #[] } ∧x.2.2.2.1=false)∨(x.2.1=0∧x.2.2.1≠ { data:= #[] } ∧x.2.2.2.1=false)∨(x.2.1=0∧x.2.2.1= { data:= #[] } ∧x.2.2.2.1=true)
 iface:x.2.2.1≠ { data:= #[] } →0≤zNw r x.2.2.1
def zYW (r:Ty.El zD):Prop:= ∀x,x∈r.2.2.2.2.2.2.2.1→zYX r x
theorem zSb (r:Ty.El zD) (hr:SmR r):Wp (xW (r,())) (fun e=>e=0→zYW r):=by
 have hs6:=hr.i6
 unfold xW
 dsimp only
 refine zI (fun _=>zB (fun h=>by cases h)) (fun h=> ?_)
 refine zFU (P:=zYX r) (by omega) ?_ (fun hj=>zB (fun _=>hj))
 intro i x hx
 have hi:=(List.getElem?_eq_some_iff.1 hx).1
 simp only [zJ hx,Option.bind_some]
 refine qV ?_
 have w1:IntKind.wrap .i64 ((0:Int)+1)=1:=by decide
 have w2:IntKind.wrap .i64 ((1:Int)+1)=2:=by decide
 have w3:IntKind.wrap .i64 ((2:Int)+1)=3:=by decide
 refine zC ((show Wp _ (fun k:Int=>k=if x.2.1≠0 then 1 else 0) from ?_).mono (fun k1 hk1=> ?_))
 ·refine zG (fun h=>zB ?_) (fun h=>zB ?_)
  ·rw [w1,if_pos (by simpa using h)]
  ·rw [if_neg (by simpa using h)]
 refine zC ((show Wp _ (fun k:Int=>k=k1+if x.2.2.1≠ { data:= #[] } then 1 else 0) from ?_).mono (fun k2 hk2=> ?_))
 ·refine zG (fun h=>zB ?_) (fun h=>zB ?_)
  ·rw [if_pos (by simpa using h)]
   split at hk1<;>(subst hk1;first|exact w1|exact w2)
  ·rw [if_neg (by simpa using h)];omega
 refine zC ((show Wp _ (fun k:Int=>k=k2+if x.2.2.2.1=true then 1 else 0) from ?_).mono (fun k3 hk3=> ?_))
 ·refine zG (fun h=>zB ?_) (fun h=>zB ?_)
  ·have h:x.2.2.2.1=true:=h
   rw [if_pos h]
   split at hk1<;>split at hk2<;>(subst hk1;subst hk2;first|exact w1|exact w2|exact w3)
  ·have h:x.2.2.2.1=false:=h
   rw [if_neg (by rw [h];simp)];omega
 refine zC ((show Wp _ (fun s:Bool=>s=false→zME x.1=true∧k3=1∧(1≤x.2.2.2.2.1∧x.2.2.2.2.1≤255)∧0≤x.2.2.2.2.2.1∧x.2.2.2.2.2.1≤65535) from ?_).mono (fun s hs=> ?_))
 ·refine zC (qN (zLT _) (zG (fun _=>zB (fun h=>by cases h)) (fun h1=>zG (fun _=>zB (fun h=>by cases h)) (fun h2=> ?_))))
  have h1:zME x.1=true:=by simpa using h1
  have h2:k3=1:=by simpa using h2
  refine zG (fun _=>zC ((zBN r x.2.1 hr).mono (fun k _=>zI (fun _=>zB (fun h=>by cases h)) (fun _=> ?_)))) (fun _=> ?_)
  all_goals
   refine zC (qN (qR _ _ _) (zG (fun _=>zB (fun h=>by cases h)) (fun h3=>zC (qN (qR _ _ _) (zB (fun h4=>⟨h1,h2,?_,?_⟩))))))
   ·simpa using h3
   ·simpa using h4
 refine zG (fun _=>zB (fun h=>by cases h)) (fun h1=> ?_)
 obtain ⟨g1,g2,g3,g4⟩:=hs h1
 refine zXM (fun _:Unit=>x.2.2.1≠ { data:= #[] } →0≤zNw r x.2.2.1) ?_ (fun _ hif=> ?_)
 ·refine zG (fun hne=> ?_) (fun hne=>zB (e2l (fun h=>absurd h (by simpa using hne))))
  refine zC ((zHc r _ hr).mono (fun k hk=> ?_))
  subst hk
  refine zI (fun _=>zB (fun h=>by cases h)) (fun hk=> ?_)
  have hk0:0≤zNw r x.2.2.1:=Int.not_lt.1 hk
  obtain ⟨y,hy,_⟩:=zG1 (p:=fun x':Ty.El z8=>x'.1==x.2.2.1) (xs:=r.2.2.1) hk0
  refine zC (qN (zYo hk0 hy) (zG (fun _=>zB (fun h=>by cases h)) (fun _=>zB (e2l (fun _=>hk0)))))
 ·refine zGM (n:=i) (P:=fun _=>True) (by omega) ?_ (fun _=>e2l (zB (e2l ⟨rfl,g1,g3,g4,?_,hif⟩)))
  ·intro j hjl
   have hy:r.2.2.2.2.2.2.2.1[j]? =some r.2.2.2.2.2.2.2.1[j]:=by simp
   simp only [zJ hy,Option.bind_some]
   refine zC ((show Wp _ (fun _:Bool=>True) from ?_).mono (fun s _=>zG (fun _=>zB (fun h=>by cases h)) (fun _=>zB (e2l ⟨rfl,trivial⟩))))
   exact zG (fun _=>zB trivial) (fun _=>zB trivial)
  ·rw [hk3,hk2,hk1] at g2
   by_cases c1:x.2.1=0<;>by_cases c2:x.2.2.1= { data:= #[] } <;>cases c3:x.2.2.2.1<;>simp [c1,c2,c3] at g2 ⊢
end Go.Ve

namespace Go.Ve
open Go
set_option maxRecDepth 1000000
set_option maxHeartbeats 4000000
def zXA (r:Ty.El zD) (a:Int):Int:=u9 (fun x:Ty.El z8=>x.2.2.1 !=0&&x.2.1==a) r.2.2.1
theorem zI6 (r:Ty.El zD) (a:Int) (hr:SmR r):Wp (yG (r,a,())) (fun k=>k=zXA r a):=by
 unfold yG
 dsimp only
 have:=hr.i1
 refine yY (p:=fun x:Ty.El z8=>x.2.2.1 !=0&&x.2.1==a) (by omega) ?_ rfl
 intro i x hx
 simp only [zJ hx,Option.bind_some]
 cases x.2.2.1 !=0<;>cases x.2.1==a<;>rfl
structure zYL (r:Ty.El zD):Prop where
 asn:0≤r.2.1∧r.2.1≤65535
 ifs:zYZ r.2.2.1
 sts:zYW r
 lists:uN (r.2.2.2.1,())=some 0
 maps:xF (r,())=some 0
 acls:uP (r.2.2.2.2.2.1,())=some 0
 nat:kF (r,())=some 0
 filters:zBe (r,())=some 0
 ls:xG (r,())=some 0
 dv:zAn (r,())=some 0
 pv:w6 (r,())=some 0
 ifl:r.2.2.1.length≤8
theorem zMn (r:Ty.El zD) (hr:SmR r):Wp (vO (r,())) (fun e=>e=0→zYL r):=by
 have hr0:=hr
 obtain ⟨i1,i2,i3,i4,i5,i6,i7,i8,i9,i10,i11,i12,i13,i14,n1,n2,n3⟩:=hr0
 unfold vO
 dsimp only
 refine zC ((kS _).mono (fun b _=> ?_))
 refine zG (fun _=>zB (fun h=>by cases h)) (fun _=> ?_)
 refine zC (qN (qR _ _ _) (zG (fun _=>zB (fun h=>by cases h)) (fun has=> ?_)))
 have has:0≤r.2.1∧r.2.1≤65535:=by simpa using has
 refine zC ((zN6 _ i1).mono (fun y12 h12=> ?_))
 refine zAj ((zB5 _ i2 n1).mono (fun _ _=>trivial)) (fun y13 h13=> ?_)
 refine zAj ((zCZ _ hr).mono (fun _ _=>trivial)) (fun y14 h14=> ?_)
 refine zAj ((zB6 _ i4 n3).mono (fun _ _=>trivial)) (fun y15 h15=> ?_)
 refine zAj ((zBC _ hr).mono (fun _ _=>trivial)) (fun y16 h16=> ?_)
 refine zAj ((zEc _ hr).mono (fun _ _=>trivial)) (fun y17 h17=> ?_)
 refine zC ((zSb _ hr).mono (fun y18 h18=> ?_))
 refine zAj ((zC0 _ hr).mono (fun _ _=>trivial)) (fun y19 h19=> ?_)
 refine zAj ((zDC _ hr).mono (fun _ _=>trivial)) (fun y20 h20=> ?_)
 refine zAj ((zCu _ hr).mono (fun _ _=>trivial)) (fun y21 h21=> ?_)
 refine zFU (P:=fun x:Int=>x=0) (xs:=[y12,y13,y14,y15,y16,y17,y18,y19,y20,y21]) (by simp) ?_ (fun hall=>zB (fun _=> ?_))
 ·intro i x hx
  simp only [zJ hx,Option.bind_some]
  refine zG (fun hne=>zB (fun h=> ?_)) (fun h=>zB (e2l ⟨rfl,by simpa using h⟩))
  have h:x=0:=h
  rw [h] at hne
  cases hne
 ·have e12:=hall y12 (by simp)
  have e13:=hall y13 (by simp)
  have e14:=hall y14 (by simp)
  have e15:=hall y15 (by simp)
  have e16:=hall y16 (by simp)
  have e17:=hall y17 (by simp)
  have e18:=hall y18 (by simp)
  have e19:=hall y19 (by simp)
  have e20:=hall y20 (by simp)
  have e21:=hall y21 (by simp)
  exact ⟨has,(h12 e12).1,h18 e18,e13▸h13,e14▸h14,e15▸h15,e16▸h16,e17▸h17,e19▸h19,e20▸h20,e21▸h21,(h12 e12).2⟩
structure zYY (n:Ty.El zT):Prop where
 len:n.1.length≤8
 rt: ∀r,r∈n.1→zYL r
 name: ∀ (i j:Nat) r q,j<i→n.1[i]? =some r→n.1[j]? =some q→q.1≠r.1
 addr: ∀ (i j:Nat) r q,i≠j→n.1[i]? =some r→n.1[j]? =some q→ ∀x y,x∈r.2.2.1→y∈q.2.2.1→x.2.2.1≠0→y.2.2.1≠0→x.2.1≠y.2.1
theorem zVB (n:Ty.El zT) (hs: ∀y,y∈n.1→SmR y):Wp (kU (n,())) (fun e=>e=0→zYY n):=by
 unfold kU
 dsimp only
 refine zI (fun _=>zB (fun h=>by cases h)) (fun hl=> ?_)
 refine zAx (by omega) (fun i=> ∀m r,m<i→n.1[m]? =some r→zYL r∧(∀j q,j<m→n.1[j]? =some q→q.1≠r.1∧ ∀x y,x∈r.2.2.1→y∈q.2.2.1→x.2.2.1≠0→y.2.2.1≠0→x.2.1≠y.2.1)) (fun m x hm=>by omega) ?_ (fun hj=>zB (fun _=> ?_))
 ·intro i r hr hj
  have hi:=(List.getElem?_eq_some_iff.1 hr).1
  have hsm:=hs r (List.mem_of_getElem? hr)
  have hs1:=hsm.i1
  simp only [zJ hr,Option.bind_some]
  refine qV (zC ((zMn r hsm).mono (fun e he=> ?_)))
  refine zG (fun hne=>zB (fun h=> ?_)) (fun h=> ?_)
  ·have h:e=0:=h
   rw [h] at hne
   cases hne
  have hrt:=he (by simpa using h)
  refine qV (zGM (n:=i) (P:=fun j=> ∀q,n.1[j]? =some q→q.1≠r.1) (by omega) ?_ (fun hname=> ?_))
  ·intro j hjl
   have hq:n.1[j]? =some n.1[j]:=by simp
   simp only [zJ hq,Option.bind_some]
   refine zG (fun _=>zB (fun h=>by cases h)) (fun hn=>zB (e2l ⟨rfl,?_⟩))
   intro q hq'
   rw [hq] at hq'
   cases hq'
   simpa using hn
  refine e2l (zXO (P:=fun x:Ty.El z8=> ∀j q,j<i→n.1[j]? =some q→ ∀y,y∈q.2.2.1→x.2.2.1≠0→y.2.2.1≠0→x.2.1≠y.2.1) (by omega) ?_ (fun hall=> ?_))
  ·intro k x hx
   simp only [zJ hx,Option.bind_some]
   refine qV (zGM (n:=i) (P:=fun j=> ∀q,n.1[j]? =some q→ ∀y,y∈q.2.2.1→x.2.2.1≠0→y.2.2.1≠0→x.2.1≠y.2.1) (by omega) ?_ (fun hall=>e2l (zB (e2l ⟨rfl,fun j q hjl hq=>hall j hjl q hq⟩))))
   intro j hjl
   have hq:n.1[j]? =some n.1[j]:=by simp
   simp only [zJ hq,Option.bind_some]
   refine zC ((show Wp _ (fun s:Bool=>s=false→ ∀y,y∈n.1[j].2.2.1→x.2.2.1≠0→y.2.2.1≠0→x.2.1≠y.2.1) from ?_).mono (fun s hs'=> ?_))
   ·refine zG (fun _=>zC ((zI6 _ _ (hs _ (List.getElem_mem _))).mono (fun k hk=>zB ?_))) (fun hz=>zB (fun _ y _ hne=>absurd (show x.2.2.1=0 by simpa using hz) hne))
    subst hk
    intro hlt y hy _ hyz hxy
    have hlt: ¬(zXA n.1[j] x.2.1≥0):=of_decide_eq_false hlt
    apply hlt
    unfold zXA
    rw [zDO]
    refine List.any_eq_true.2 ⟨y,hy,?_⟩
    have h1:(y.2.2.1 !=0)=true:=by simpa using hyz
    have h2:(y.2.1==x.2.1)=true:=beq_iff_eq.2 hxy.symm
    rw [h1,h2];rfl
   ·refine zG (fun _=>zB ⟨(fun u h=>by cases h),(fun h=>by cases h)⟩) (fun hn=>zB (e2l ⟨rfl,?_⟩))
    intro q hq'
    rw [hq] at hq'
    cases hq'
    exact hs' hn
  ·refine e2l (zB (e2l ⟨rfl,?_⟩))
   intro m z hm hz
   rcases Nat.lt_or_ge m i with h'|h'
   ·exact hj m z h' hz
   ·have:m=i:=by omega
    subst this
    rw [hr] at hz
    cases hz
    exact ⟨hrt,fun j q hjl hq=>⟨hname j hjl q hq,fun x y hx hy=>hall x hx j q hjl hq y hy⟩⟩
 ·have hall: ∀m r,n.1[m]? =some r→_:=fun m r hr=>hj m r (List.getElem?_eq_some_iff.1 hr).1 hr
  refine ⟨by omega,?_,?_,?_⟩
  ·intro r hr
   obtain ⟨m,hm,rfl⟩:=List.getElem_of_mem hr
   exact (hall m _ (by simp [hm])).1
  ·intro i j r q hji hr hq
   exact ((hall i r hr).2 j q hji hq).1
  ·intro i j r q hne hr hq x y hx hy hx0 hy0
   rcases Nat.lt_or_ge j i with h'|h'
   ·exact ((hall i r hr).2 j q h' hq).2 x y hx hy hx0 hy0
   ·exact fun h=>((hall j q hq).2 i r (by omega) hr).2 y x hy hx hy0 hx0 h.symm
theorem zWB {n:Ty.El zT} {d:List Int} {v:Ty.El zR} (h:zAi n d v):zYY n:=by
 obtain ⟨e,h1,h2⟩:=zVB n h.sm
 have h3:=h.chk
 rw [h1] at h3
 exact h2 (Option.some.inj h3)
end Go.Ve

namespace Go.Ve
open Go
set_option maxRecDepth 1000000
set_option maxHeartbeats 4000000
def rlt (x y:Ty.El zA):Prop:=plt x.1 y.1
theorem zUc:Ord rlt where
 asym:=fun x y h=>zGU.asym _ _ h
 tr:=fun x y z h1 h2=>zGU.tr _ _ _ h1 h2
end Go.Ve

/-
  Decision diagrams, in plain Lean: nodes, what they denote, and that equal functions have one number.
  Decision diagrams, in plain Lean: making a node, and the choice of two functions by a third.
  Decision diagrams, in plain Lean: one round of the choice of two functions by a third, taken apart.
  Decision diagrams, in plain Lean: how many nodes a function has.
  Decision diagrams, in plain Lean: the width of wildcards and ranges.
-/
import Init
set_option linter.unusedVariables false
namespace Go.Bd
abbrev Nd:=Nat×Nat×Nat
def lvl (n:Nat) (ns:List Nd) (f:Nat):Nat:=
 if f<2 then n else match ns[f-2]? with
  |some x=>x.1
  |none=>n
def ev (ns:List Nd) (a:Nat→Bool):Nat→Nat→Bool
 |0,f=>f==1
 |k+1,f=>if f<2 then f==1 else match ns[f-2]? with
  |some x=>ev ns a k (if a x.1 then x.2.2 else x.2.1)
  |none=>false
def den (ns:List Nd) (f:Nat) (a:Nat→Bool):Bool:=ev ns a (f+1) f
structure Wf (n:Nat) (ns:List Nd):Prop where
 v: ∀ {i:Nat} {x:Nd},ns[i]? =some x→x.1<n
 lo: ∀ {i:Nat} {x:Nd},ns[i]? =some x→x.2.1<i+2∧x.1<lvl n ns x.2.1
 hi: ∀ {i:Nat} {x:Nd},ns[i]? =some x→x.2.2<i+2∧x.1<lvl n ns x.2.2
 ne: ∀ {i:Nat} {x:Nd},ns[i]? =some x→x.2.1≠x.2.2
 inj: ∀ {i j:Nat} {x:Nd},ns[i]? =some x→ns[j]? =some x→i=j
variable {n:Nat} {ns:List Nd}
theorem zEK (W:Wf n ns) (a:Nat→Bool): ∀ (N f:Nat),f<N→ ∀k,f<k→ev ns a k f=ev ns a (f+1) f
 |0,_,h,_,_=>absurd h (Nat.not_lt_zero _)
 |N+1,f,hN,k,hk=>by
  obtain ⟨k,rfl⟩: ∃j,k=j+1:=⟨k-1,by omega⟩
  simp only [ev]
  split
  ·rfl
  ·rename_i h2
   cases hx:ns[f-2]? with
   |none=>rfl
   |some x=>
    simp only
    have h1:=(W.lo hx).1
    have h3:=(W.hi hx).1
    have hc:(if a x.1 then x.2.2 else x.2.1)<f:=by split<;>omega
    generalize (if a x.1 then x.2.2 else x.2.1)=c at hc
    rw [zEK W a N c (by omega) k (by omega),zEK W a N c (by omega) f (by omega)]
theorem wT {f:Nat} (h:f<2) (a:Nat→Bool):den ns f a=(f==1):=by simp [den,ev,h]
theorem vZ (W:Wf n ns) {i:Nat} {x:Nd} (h:ns[i]? =some x) (a:Nat→Bool):den ns (i+2) a=if a x.1 then den ns x.2.2 a else den ns x.2.1 a:=by
 have h1:=(W.lo h).1
 have h2:=(W.hi h).1
 rw [den,ev,if_neg (by omega)]
 simp only [show i+2-2=i by omega,h]
 split
 ·exact zEK W a (x.2.2+1) _ (by omega) _ (by omega)
 ·exact zEK W a (x.2.1+1) _ (by omega) _ (by omega)
theorem uH {f:Nat} (h:f<2):lvl n ns f=n:=by simp [lvl,h]
theorem wI {i:Nat} {x:Nd} (h:ns[i]? =some x):lvl n ns (i+2)=x.1:=by
 rw [lvl,if_neg (by omega)]
 simp [show i+2-2=i by omega,h]
theorem zLj (W:Wf n ns) (f:Nat):lvl n ns f≤n:=by
 rw [lvl]
 split
 ·exact Nat.le_refl _
 ·split
  ·rename_i x hx
   exact Nat.le_of_lt (W.v hx)
  ·exact Nat.le_refl _
theorem jH (ns:List Nd) {f:Nat} (h:f<ns.length+2):f<2∨ ∃i x,f=i+2∧ns[i]? =some x:=by
 rcases Nat.lt_or_ge f 2 with h1|h1
 ·exact .inl h1
 ·have:f-2<ns.length:=by omega
  exact .inr ⟨f-2,ns[f-2],by omega,by simp [this]⟩
theorem zLy (W:Wf n ns): ∀ (N f:Nat),f<N→f<ns.length+2→ ∀a b:Nat→Bool,(∀u,lvl n ns f≤u→a u=b u)→den ns f a=den ns f b
 |0,_,h,_,_,_,_=>absurd h (Nat.not_lt_zero _)
 |N+1,f,hN,hf,a,b,hab=>by
  rcases jH ns hf with h|⟨i,x,rfl,hx⟩
  ·rw [wT h,wT h]
  ·rw [wI hx] at hab
   rw [vZ W hx,vZ W hx, ←hab x.1 (Nat.le_refl _)]
   have h1:=W.lo hx
   have h2:=W.hi hx
   have hi:=(List.getElem?_eq_some_iff.1 hx).1
   split
   ·exact zLy W N _ (by omega) (by omega) a b (fun u hu=>hab u (by omega))
   ·exact zLy W N _ (by omega) (by omega) a b (fun u hu=>hab u (by omega))
theorem Wf.dep (W:Wf n ns) {f:Nat} (hf:f<ns.length+2) {a b:Nat→Bool} (h: ∀u,lvl n ns f≤u→a u=b u):den ns f a=den ns f b:=
 zLy W (f+1) f (Nat.lt_succ_self _) hf a b h
def upd (a:Nat→Bool) (v:Nat) (c:Bool):Nat→Bool:=fun u=>if u=v then c else a u
theorem upd_same (a:Nat→Bool) (v:Nat) (c:Bool):upd a v c v=c:=by simp [upd]
theorem upd_ne (a:Nat→Bool) {v u:Nat} (c:Bool) (h:u≠v):upd a v c u=a u:=by simp [upd,h]
theorem xQ (W:Wf n ns) {i:Nat} {x:Nd} (h:ns[i]? =some x) (c:Bool) (a:Nat→Bool):
  den ns (i+2) (upd a x.1 c)=den ns (if c then x.2.2 else x.2.1) a:=by
 have hi:=(List.getElem?_eq_some_iff.1 h).1
 have h1:=W.lo h
 have h2:=W.hi h
 rw [vZ W h,upd_same]
 cases c
 ·exact W.dep (f:=x.2.1) (by omega) (fun u hu=>upd_ne a _ (by omega))
 ·exact W.dep (f:=x.2.2) (by omega) (fun u hu=>upd_ne a _ (by omega))
theorem uM (W:Wf n ns) {g v:Nat} (hg:g<ns.length+2) (h:v<lvl n ns g) (c:Bool) (a:Nat→Bool):den ns g (upd a v c)=den ns g a:=
 W.dep hg (fun u hu=>upd_ne a c (by omega))
theorem canon (W:Wf n ns): ∀ (N f g:Nat),f<N→g<N→f<ns.length+2→g<ns.length+2→(∀a,den ns f a=den ns g a)→f=g
 |0,_,_,h,_,_,_,_=>absurd h (Nat.not_lt_zero _)
 |N+1,f,g,hfN,hgN,hf,hg,he=>by
  have key: ∀ (i:Nat) (x:Nd) (g:Nat),ns[i]? =some x→i+2<N+1→g<ns.length+2→x.1<lvl n ns g→(∀a,den ns (i+2) a=den ns g a)→False:=by
   intro i x g hx hN hg hl he
   have hi:=(List.getElem?_eq_some_iff.1 hx).1
   have h1:=W.lo hx
   have h2:=W.hi hx
   have hlo: ∀a,den ns x.2.1 a=den ns g a:=fun a=>by
    have:=xQ W hx false a
    rw [he,uM W hg hl] at this
    exact this.symm
   have hhi: ∀a,den ns x.2.2 a=den ns g a:=fun a=>by
    have:=xQ W hx true a
    rw [he,uM W hg hl] at this
    exact this.symm
   exact W.ne hx (canon W N _ _ (by omega) (by omega) (by omega) (by omega) (fun a=>(hlo a).trans (hhi a).symm))
  rcases jH ns hf with h|⟨i,x,rfl,hx⟩
  ·rcases jH ns hg with h'|⟨j,y,rfl,hy⟩
   ·have:=he (fun _=>false)
    rw [wT h,wT h'] at this
    have h3:f=0∨f=1:=by omega
    have h4:g=0∨g=1:=by omega
    rcases h3 with rfl|rfl<;>rcases h4 with rfl|rfl<;>first|rfl|simp at this
   ·exact (key j y f hy hgN hf (by rw [uH h];exact W.v hy) (fun a=>(he a).symm)).elim
  ·rcases jH ns hg with h'|⟨j,y,rfl,hy⟩
   ·exact (key i x g hx hfN hg (by rw [uH h'];exact W.v hx) he).elim
   ·rcases Nat.lt_trichotomy x.1 y.1 with hl|hl|hl
    ·exact (key i x _ hx hfN hg (by rw [wI hy];exact hl) he).elim
    ·have hi:=(List.getElem?_eq_some_iff.1 hx).1
     have hj:=(List.getElem?_eq_some_iff.1 hy).1
     have h1:=W.lo hx
     have h2:=W.hi hx
     have h3:=W.lo hy
     have h4:=W.hi hy
     have e1:x.2.1=y.2.1:=canon W N _ _ (by omega) (by omega) (by omega) (by omega) (fun a=>by
      have:=xQ W hx false a
      rw [he,hl,xQ W hy false a] at this
      exact this.symm)
     have e2:x.2.2=y.2.2:=canon W N _ _ (by omega) (by omega) (by omega) (by omega) (fun a=>by
      have:=xQ W hx true a
      rw [he,hl,xQ W hy true a] at this
      exact this.symm)
     have:x=y:=by
      obtain ⟨x1,x2,x3⟩:=x
      obtain ⟨y1,y2,y3⟩:=y
      simp only at hl e1 e2
      subst hl e1 e2;rfl
     subst this
     rw [W.inj hx hy]
    ·exact (key j y _ hy hgN hf (by rw [wI hx];exact hl) (fun a=>(he a).symm)).elim
theorem Wf.canon (W:Wf n ns) {f g:Nat} (hf:f<ns.length+2) (hg:g<ns.length+2) (h: ∀a,den ns f a=den ns g a):f=g:=
 Bd.canon W (f+g+1) f g (by omega) (by omega) hf hg h
theorem zEB {e:List Nd} {f:Nat} (h:f<ns.length+2):lvl n (ns++e) f=lvl n ns f:=by
 rw [lvl,lvl]
 split
 ·rfl
 ·rw [List.getElem?_append_left (by omega)]
theorem zLz (W:Wf n ns) {e:List Nd} (W':Wf n (ns++e)) (a:Nat→Bool): ∀ (N f:Nat),f<N→f<ns.length+2→den (ns++e) f a=den ns f a
 |0,_,h,_=>absurd h (Nat.not_lt_zero _)
 |N+1,f,hN,hf=>by
  rcases jH ns hf with h|⟨i,x,rfl,hx⟩
  ·rw [wT h,wT h]
  ·have hi:=(List.getElem?_eq_some_iff.1 hx).1
   have hx':(ns++e)[i]? =some x:=by rw [List.getElem?_append_left hi];exact hx
   have h1:=W.lo hx
   have h2:=W.hi hx
   rw [vZ W hx,vZ W' hx',zLz W W' a N _ (by omega) (by omega),zLz W W' a N _ (by omega) (by omega)]
theorem Wf.app (W:Wf n ns) {e:List Nd} (W':Wf n (ns++e)) {f:Nat} (hf:f<ns.length+2) (a:Nat→Bool):den (ns++e) f a=den ns f a:=
 zLz W W' a (f+1) f (by omega) hf
end Go.Bd

namespace Go.Bd
def fnd (x:Nd):List Nd→Nat→Option Nat
 |[],_=>none
 |y::l,k=>if y=x then some k else fnd x l (k+1)
theorem zMF {x:Nd} : ∀ {l:List Nd} {k j:Nat},fnd x l k=some j→ ∃i,j=k+i∧l[i]? =some x
 |[],_,_,h=>by simp [fnd] at h
 |y::l,k,j,h=>by
  simp only [fnd] at h
  split at h
  ·rename_i he
   simp only [Option.some.injEq] at h
   exact ⟨0,by omega,by simp [he]⟩
  ·obtain ⟨i,h1,h2⟩:=zMF h
   exact ⟨i+1,by omega,by simpa using h2⟩
theorem zMG {x:Nd} : ∀ {l:List Nd} {k:Nat},fnd x l k=none→ ∀i:Nat,l[i]? ≠some x
 |[],_,_,i,h=>by simp at h
 |y::l,k,h,i,hi=>by
  simp only [fnd] at h
  split at h
  ·cases h
  ·rename_i hne
   cases i with
   |zero=>simp only [List.getElem?_cons_zero,Option.some.injEq] at hi;exact hne hi
   |succ i=>simp only [List.getElem?_cons_succ] at hi;exact zMG h i hi
def mk (ns:List Nd) (v lo hi:Nat):Nat×List Nd:=
 if lo=hi then (lo,ns) else match fnd (v,lo,hi) ns 2 with
  |some i=>(i,ns)
  |none=>(ns.length+2,ns++[(v,lo,hi)])
inductive Rch (ns:List Nd):Nat→Nat→Prop
 |refl (f:Nat):Rch ns f f
 |lo {i:Nat} {x:Nd} {g:Nat} (h:ns[i]? =some x) (r:Rch ns x.2.1 g):Rch ns (i+2) g
 |hi {i:Nat} {x:Nd} {g:Nat} (h:ns[i]? =some x) (r:Rch ns x.2.2 g):Rch ns (i+2) g
theorem Rch.app {ns e:List Nd} {f g:Nat} (h:Rch ns f g):Rch (ns++e) f g:=by
 induction h with
 |refl f=>exact .refl f
 |lo h _ ih=>exact .lo (by rw [List.getElem?_append_left (List.getElem?_eq_some_iff.1 h).1];exact h) ih
 |hi h _ ih=>exact .hi (by rw [List.getElem?_append_left (List.getElem?_eq_some_iff.1 h).1];exact h) ih
theorem Rch.trans {ns:List Nd} {f g k:Nat} (h:Rch ns f g) (r:Rch ns g k):Rch ns f k:=by
 induction h with
 |refl f=>exact r
 |lo h _ ih=>exact .lo h (ih r)
 |hi h _ ih=>exact .hi h (ih r)
variable {n:Nat} {ns:List Nd}
theorem kQ {α:Type} {l:List α} {x y:α} {i:Nat} (h:(l++[x])[i]? =some y):l[i]? =some y∨(i=l.length∧y=x):=by
 rcases Nat.lt_trichotomy i l.length with hi|hi|hi
 ·rw [List.getElem?_append_left hi] at h;exact .inl h
 ·subst hi
  simp only [List.getElem?_concat_length,Option.some.injEq] at h
  exact .inr ⟨rfl,h.symm⟩
 ·rw [List.getElem?_append_right (by omega),List.getElem?_eq_none (by simp;omega)] at h
  cases h
theorem Wf.push (W:Wf n ns) {v lo hi:Nat} (hv:v<n) (hlo:lo<ns.length+2) (hhi:hi<ns.length+2) (h1:v<lvl n ns lo) (h2:v<lvl n ns hi) (hne:lo≠hi)
  (hnew: ∀i:Nat,ns[i]? ≠some (v,lo,hi)):Wf n (ns++[(v,lo,hi)]) where
 v h:=(kQ h).elim (fun h=>W.v h) (fun h=>by rw [h.2];exact hv)
 lo {i x} h:=by
  rcases kQ h with h|⟨rfl,rfl⟩
  ·have h3:=W.lo h
   have:=(List.getElem?_eq_some_iff.1 h).1
   rw [zEB (by omega)];exact h3
  ·rw [zEB hlo];exact ⟨hlo,h1⟩
 hi {i x} h:=by
  rcases kQ h with h|⟨rfl,rfl⟩
  ·have h3:=W.hi h
   have:=(List.getElem?_eq_some_iff.1 h).1
   rw [zEB (by omega)];exact h3
  ·rw [zEB hhi];exact ⟨hhi,h2⟩
 ne h:=(kQ h).elim (fun h=>W.ne h) (fun h=>by rw [h.2];exact hne)
 inj {i j x} h h':=by
  rcases kQ h with h|⟨rfl,rfl⟩<;>rcases kQ h' with h'|⟨rfl,h''⟩
  ·exact W.inj h h'
  ·subst h'';exact absurd h (hnew i)
  ·exact absurd h' (hnew j)
  ·rfl
structure zUJ (n:Nat) (ns:List Nd) (v lo hi r:Nat) (ns':List Nd):Prop where
 wf:Wf n ns'
 app: ∃e,ns'=ns++e∧e.length≤1
 lt:r<ns'.length+2
 den: ∀a,den ns' r a=if a v then den ns hi a else den ns lo a
 new: ∀i,ns.length≤i→i<ns'.length→i+2=r
 rlo:Rch ns' r lo
 rhi:Rch ns' r hi
theorem zOW (W:Wf n ns) {v lo hi:Nat} (hv:v<n) (hlo:lo<ns.length+2) (hhi:hi<ns.length+2) (h1:v<lvl n ns lo) (h2:v<lvl n ns hi):
  zUJ n ns v lo hi (mk ns v lo hi).1 (mk ns v lo hi).2:=by
 unfold mk
 split
 ·rename_i he
  subst he
  exact ⟨W,⟨[],by simp,by simp⟩,hlo,fun a=>by simp,fun i h h'=>absurd h' (Nat.not_lt.2 h), .refl _, .refl _⟩
 ·rename_i hne
  split
  ·rename_i j hj
   obtain ⟨i,rfl,hx⟩:=zMF hj
   have hi':=(List.getElem?_eq_some_iff.1 hx).1
   rw [Nat.add_comm 2 i]
   exact ⟨W,⟨[],by simp,by simp⟩,by dsimp only;omega,fun a=>vZ W hx a,fun i h h'=>absurd h' (Nat.not_lt.2 h), .lo hx (.refl _), .hi hx (.refl _)⟩
  ·rename_i hn
   have W':=W.push hv hlo hhi h1 h2 hne (zMG hn)
   have hx:(ns++[(v,lo,hi)])[ns.length]? =some (v,lo,hi):=by simp
   refine ⟨W',⟨_,rfl,by simp⟩,by simp,fun a=> ?_,fun i h h'=> ?_, .lo hx (.refl _), .hi hx (.refl _)⟩
   ·rw [vZ W' hx,W.app W' hlo,W.app W' hhi]
   ·simp only [List.length_append,List.length_singleton] at h'
    simp only;omega
theorem zLi (W:Wf n ns) {r u:Nat} (hr:r<ns.length+2) (hu:u≤n) (h: ∀v,v<u→ ∀a c,den ns r (upd a v c)=den ns r a):u≤lvl n ns r:=by
 rcases jH ns hr with h1|⟨i,x,rfl,hx⟩
 ·rw [uH h1];exact hu
 ·rw [wI hx]
  rcases Nat.lt_or_ge x.1 u with hl|hl
  ·have hi:=(List.getElem?_eq_some_iff.1 hx).1
   have h1:=W.lo hx
   have h2:=W.hi hx
   exact absurd (W.canon (f:=x.2.1) (g:=x.2.2) (by omega) (by omega) (fun a=>by
    have e1:=xQ W hx false a
    have e2:=xQ W hx true a
    rw [h _ hl] at e1 e2
    exact e1.symm.trans e2)) (W.ne hx)
  ·exact hl
def split (ns:List Nd) (f v:Nat):Nat×Nat:=
 if f<2 then (f,f) else match ns[f-2]? with
  |some x=>if x.1=v then (x.2.1,x.2.2) else (f,f)
  |none=>(f,f)
theorem split_ok (W:Wf n ns) {f v:Nat} (hf:f<ns.length+2) (hv:v<n) (h:v≤lvl n ns f):
  (split ns f v).1<ns.length+2∧(split ns f v).2<ns.length+2∧v<lvl n ns (split ns f v).1∧v<lvl n ns (split ns f v).2∧
   ∀a,den ns f a=den ns (if a v then (split ns f v).2 else (split ns f v).1) a:=by
 rcases jH ns hf with h1|⟨i,x,rfl,hx⟩
 ·have:split ns f v=(f,f):=by simp [split,h1]
  rw [this,uH h1]
  exact ⟨hf,hf,hv,hv,fun a=>by simp⟩
 ·have hs:split ns (i+2) v=if x.1=v then (x.2.1,x.2.2) else (i+2,i+2):=by
   rw [split,if_neg (by omega)]
   simp [show i+2-2=i by omega,hx]
  rw [wI hx] at h
  have hi:=(List.getElem?_eq_some_iff.1 hx).1
  have h1:=W.lo hx
  have h2:=W.hi hx
  rw [hs]
  split
  ·rename_i he
   subst he
   refine ⟨by dsimp only;omega,by dsimp only;omega,h1.2,h2.2,fun a=> ?_⟩
   rw [vZ W hx]
   split<;>rfl
  ·rw [wI hx]
   exact ⟨hf,hf,by omega,by omega,fun a=>by simp⟩
abbrev Key:=Nat×Nat×Nat
structure St where
 ns:List Nd
 mm:List (Key×Nat)
def look (k:Key):List (Key×Nat)→Option Nat
 |[]=>none
 |p::l=>if p.1=k then some p.2 else look k l
def put (k:Key) (r:Nat):List (Key×Nat)→List (Key×Nat)
 |[]=>[(k,r)]
 |p::l=>if p.1=k then (p.1,r)::l else p::put k r l
theorem zMz {k:Key} {r:Nat} : ∀ {l:List (Key×Nat)},look k l=some r→(k,r)∈l
 |[],h=>by simp [look] at h
 |p::l,h=>by
  simp only [look] at h
  split at h
  ·rename_i he
   simp only [Option.some.injEq] at h
   subst he h
   exact List.mem_cons_self
  ·exact List.mem_cons_of_mem _ (zMz h)
theorem put_mem {k:Key} {r:Nat} : ∀ {l:List (Key×Nat)} {q:Key×Nat},q∈put k r l→q=(k,r)∨q∈l
 |[],q,h=>by simp [put] at h;exact .inl h
 |p::l,q,h=>by
  simp only [put] at h
  split at h
  ·rename_i he
   subst he
   rcases List.mem_cons.1 h with h|h
   ·exact .inl h
   ·exact .inr (List.mem_cons_of_mem _ h)
  ·rcases List.mem_cons.1 h with h|h
   ·exact .inr (by rw [h];exact List.mem_cons_self)
   ·exact (put_mem h).imp id (List.mem_cons_of_mem _)
def nrm (f g h:Nat):Sum Nat Key:=
 let g:=if f=g then 1 else g
 let h:=if f=h then 0 else h
 if f=1 then .inl g
 else if f=0 then .inl h
 else if g=h then .inl g
 else if g=1∧h=0 then .inl f
 else if h=0∧g<f then .inr (g,f,h)
 else if g=1∧h<f then .inr (h,g,f)
 else .inr (f,g,h)
def zEA:Nat:=1048576
def keep (k:Key) (r:Nat) (mm:List (Key×Nat)):List (Key×Nat):=put k r (if zEA≤mm.length then [] else mm)
def jP (n:Nat):Nat→Nat→Nat→Nat→St→Nat×St
 |0,_,_,_,s=>(0,s)
 |k+1,f,g,h,s=>match nrm f g h with
  | .inl r=>(r,s)
  | .inr t=>match look t s.mm with
   |some r=>(r,s)
   |none=>
    let v:=min (lvl n s.ns t.1) (min (lvl n s.ns t.2.1) (lvl n s.ns t.2.2))
    let f2:=split s.ns t.1 v
    let g2:=split s.ns t.2.1 v
    let h2:=split s.ns t.2.2 v
    let lo:=jP n k f2.1 g2.1 h2.1 s
    let hi:=jP n k f2.2 g2.2 h2.2 lo.2
    let r:=mk hi.2.ns v lo.1 hi.1
    (r.1,⟨r.2,keep t r.1 hi.2.mm⟩)
def zAw (ns:List Nd) (t:Key) (a:Nat→Bool):Bool:=if den ns t.1 a then den ns t.2.1 a else den ns t.2.2 a
def In3 (ns:List Nd) (t:Key):Prop:=t.1<ns.length+2∧t.2.1<ns.length+2∧t.2.2<ns.length+2
def zUc (s:St):Prop:= ∀p,p∈s.mm→In3 s.ns p.1∧p.2<s.ns.length+2∧ ∀a,den s.ns p.2 a=zAw s.ns p.1 a
structure Ok (n:Nat) (s:St):Prop where
 wf:Wf n s.ns
 memo:zUc s
theorem In3.app {ns e:List Nd} {t:Key} (h:In3 ns t):In3 (ns++e) t:=by
 obtain ⟨h1,h2,h3⟩:=h
 refine ⟨?_,?_,?_⟩<;>simp only [List.length_append]<;>omega
theorem zD3 (W:Wf n ns) {e:List Nd} (W':Wf n (ns++e)) {t:Key} (h:In3 ns t) (a:Nat→Bool):zAw (ns++e) t a=zAw ns t a:=by
 rw [zAw,zAw,W.app W' h.1,W.app W' h.2.1,W.app W' h.2.2]
theorem zNL (ns:List Nd) (f g h:Nat):match nrm f g h with
  | .inl r=>(r=f∨r=g∨r=h∨r<2)∧ ∀a,den ns r a=zAw ns (f,g,h) a
  | .inr t=>(2≤t.1)∧(t.1=f∨t.1=g∨t.1=h∨t.1<2)∧(t.2.1=f∨t.2.1=g∨t.2.1=h∨t.2.1<2)∧(t.2.2=f∨t.2.2=g∨t.2.2=h∨t.2.2<2)∧ ∀a,zAw ns t a=zAw ns (f,g,h) a:=by
 have d0: ∀a,den ns 0 a=false:=fun a=>by rw [wT (by omega)];rfl
 have d1: ∀a,den ns 1 a=true:=fun a=>by rw [wT (by omega)];rfl
 have e1: ∀a,zAw ns (f,(if f=g then 1 else g),(if f=h then 0 else h)) a=zAw ns (f,g,h) a:=fun a=>by
  simp only [zAw]
  cases hf:den ns f a
  ·simp only [Bool.false_eq_true,if_false]
   split
   ·rename_i he;rw [d0, ←he,hf]
   ·rfl
  ·simp only [if_true]
   split
   ·rename_i he;rw [d1, ←he,hf]
   ·rfl
 have c1:(if f=g then 1 else g)=g∨(if f=g then 1 else g)<2:=by split<;>omega
 have c2:(if f=h then 0 else h)=h∨(if f=h then 0 else h)<2:=by split<;>omega
 unfold nrm
 simp only
 generalize (if f=g then 1 else g)=g' at*
 generalize (if f=h then 0 else h)=h' at*
 by_cases hf1:f=1
 ·rw [if_pos hf1]
  exact ⟨by omega,fun a=>by rw [←e1];simp only [zAw];rw [hf1,d1];simp⟩
 ·rw [if_neg hf1]
  by_cases hf0:f=0
  ·rw [if_pos hf0]
   exact ⟨by omega,fun a=>by rw [←e1];simp only [zAw];rw [hf0,d0];simp⟩
  ·rw [if_neg hf0]
   by_cases hgh:g'=h'
   ·rw [if_pos hgh]
    exact ⟨by omega,fun a=>by rw [←e1];simp only [zAw];rw [←hgh];simp⟩
   ·rw [if_neg hgh]
    by_cases h10:g'=1∧h'=0
    ·rw [if_pos h10]
     exact ⟨by omega,fun a=>by rw [←e1];simp only [zAw];rw [h10.1,h10.2,d0,d1];cases den ns f a<;>rfl⟩
    ·rw [if_neg h10]
     by_cases ha:h'=0∧g'<f
     ·rw [if_pos ha]
      have hg0:g'≠0:=fun h=>hgh (h.trans ha.1.symm)
      have hg1:g'≠1:=fun h=>h10 ⟨h,ha.1⟩
      refine ⟨by dsimp only;omega,by dsimp only;omega,by dsimp only;omega,by dsimp only;omega,fun a=> ?_⟩
      rw [←e1];simp only [zAw];rw [ha.1,d0];cases den ns f a<;>cases den ns g' a<;>rfl
     ·rw [if_neg ha]
      by_cases hb:g'=1∧h'<f
      ·rw [if_pos hb]
       have hh1:h'≠1:=fun h=>hgh (hb.1.trans h.symm)
       have hh0:h'≠0:=fun h=>h10 ⟨hb.1,h⟩
       refine ⟨by dsimp only;omega,by dsimp only;omega,by dsimp only;omega,by dsimp only;omega,fun a=> ?_⟩
       rw [←e1];simp only [zAw];rw [hb.1,d1];cases den ns f a<;>cases den ns h' a<;>rfl
      ·rw [if_neg hb]
       exact ⟨by dsimp only;omega,by dsimp only;omega,by dsimp only;omega,by dsimp only;omega,fun a=>e1 a⟩
structure zR9 (n:Nat) (s:St) (t:Key) (r:Nat) (s':St):Prop where
 ok:Ok n s'
 app: ∃e,s'.ns=s.ns++e
 lt:r<s'.ns.length+2
 den: ∀a,den s'.ns r a=zAw s.ns t a
 new: ∀i,s.ns.length≤i→i<s'.ns.length→Rch s'.ns r (i+2)
theorem zR9.here {s:St} (O:Ok n s) {t:Key} {r:Nat} (hr:r<s.ns.length+2) (h: ∀a,Bd.den s.ns r a=zAw s.ns t a):zR9 n s t r s:=
 ⟨O,⟨[],by simp⟩,hr,h,fun i h1 h2=>by omega⟩
theorem zRn {k:Key} {r:Nat} {mm:List (Key×Nat)} {q:Key×Nat} (h:q∈keep k r mm):q=(k,r)∨q∈mm:=by
 rcases put_mem h with h|h
 ·exact .inl h
 ·split at h
  ·cases h
  ·exact .inr h
theorem zFF: ∀ (k f g h u:Nat) (s:St),Ok n s→f<s.ns.length+2→g<s.ns.length+2→h<s.ns.length+2→
  u≤lvl n s.ns f→u≤lvl n s.ns g→u≤lvl n s.ns h→n<k+u→zR9 n s (f,g,h) (jP n k f g h s).1 (jP n k f g h s).2
 |0,f,g,h,u,s,O,hf,hg,hh,lf,lg,lh,hk=>by have:=zLj O.wf f;omega
 |k+1,f,g,h,u,s,O,hf,hg,hh,lf,lg,lh,hk=>by
  have hn:=zNL s.ns f g h
  simp only [jP]
  cases hnr:nrm f g h with
  |inl r=>
   rw [hnr] at hn
   simp only at hn ⊢
   exact .here O (by omega) hn.2
  |inr t=>
   rw [hnr] at hn
   simp only at hn ⊢
   obtain ⟨t1,t2,t3,t4,t5⟩:=hn
   have hin:In3 s.ns t:=⟨by omega,by omega,by omega⟩
   cases hl:look t s.mm with
   |some r=>
    simp only
    obtain ⟨_,m2,m3⟩:=O.memo _ (zMz hl)
    exact .here O m2 (fun a=>(m3 a).trans (t5 a))
   |none=>
    simp only
    have W:=O.wf
    have low: ∀x,(x=f∨x=g∨x=h∨x<2)→u≤lvl n s.ns x:=by
     rintro x (rfl|rfl|rfl|hx)
     ·exact lf
     ·exact lg
     ·exact lh
     ·rw [uH hx];have:=zLj W f;omega
    have ln1:lvl n s.ns t.1<n:=by
     rcases jH s.ns hin.1 with h1|⟨i,x,hi,hx⟩
     ·omega
     ·rw [hi,wI hx];exact W.v hx
    have u1:=low _ t2
    have u2:=low _ t3
    have u3:=low _ t4
    generalize hv:min (lvl n s.ns t.1) (min (lvl n s.ns t.2.1) (lvl n s.ns t.2.2))=v
    have v1:v≤lvl n s.ns t.1:=by omega
    have v2:v≤lvl n s.ns t.2.1:=by omega
    have v3:v≤lvl n s.ns t.2.2:=by omega
    have vn:v<n:=by omega
    have uv:u≤v:=by omega
    clear hv
    obtain ⟨a1,a2,a3,a4,a5⟩:=split_ok W hin.1 vn v1
    obtain ⟨b1,b2,b3,b4,b5⟩:=split_ok W hin.2.1 vn v2
    obtain ⟨c1,c2,c3,c4,c5⟩:=split_ok W hin.2.2 vn v3
    have I1:=zFF k (split s.ns t.1 v).1 (split s.ns t.2.1 v).1 (split s.ns t.2.2 v).1 (v+1) s O a1 b1 c1 a3 b3 c3 (by omega)
    generalize jP n k (split s.ns t.1 v).1 (split s.ns t.2.1 v).1 (split s.ns t.2.2 v).1 s=lo at I1
    obtain ⟨e1,h1⟩:=I1.app
    have W1:=I1.ok.wf
    have W1':Wf n (s.ns++e1):=h1▸W1
    have len1:s.ns.length≤lo.2.ns.length:=by rw [h1];simp
    have lv: ∀x,x<s.ns.length+2→lvl n lo.2.ns x=lvl n s.ns x:=fun x hx=>by rw [h1];exact zEB hx
    have I2:=zFF k (split s.ns t.1 v).2 (split s.ns t.2.1 v).2 (split s.ns t.2.2 v).2 (v+1) lo.2 I1.ok (by omega) (by omega) (by omega) (by rw [lv _ a2];exact a4) (by rw [lv _ b2];exact b4) (by rw [lv _ c2];exact c4) (by omega)
    generalize jP n k (split s.ns t.1 v).2 (split s.ns t.2.1 v).2 (split s.ns t.2.2 v).2 lo.2=hi at I2
    obtain ⟨e2,h2⟩:=I2.app
    have W2:=I2.ok.wf
    have W2':Wf n (lo.2.ns++e2):=h2▸W2
    have len2:lo.2.ns.length≤hi.2.ns.length:=by rw [h2];simp
    have dlo: ∀a,den hi.2.ns lo.1 a=zAw s.ns ((split s.ns t.1 v).1,(split s.ns t.2.1 v).1,(split s.ns t.2.2 v).1) a:=fun a=>by
     rw [h2,W1.app W2' I1.lt];exact I1.den a
    have dhi: ∀a,den hi.2.ns hi.1 a=zAw s.ns ((split s.ns t.1 v).2,(split s.ns t.2.1 v).2,(split s.ns t.2.2 v).2) a:=fun a=>by
     rw [I2.den,h1,zD3 W W1' ⟨a2,b2,c2⟩]
    have l1:v<lvl n hi.2.ns lo.1:=zLi W2 (u:=v+1) (by have:=I1.lt;omega) (by omega) (fun w hw a c=>by
     rw [dlo,dlo];simp only [zAw]
     rw [uM W a1 (by omega),uM W b1 (by omega),uM W c1 (by omega)])
    have l2:v<lvl n hi.2.ns hi.1:=zLi W2 (u:=v+1) I2.lt (by omega) (fun w hw a c=>by
     rw [dhi,dhi];simp only [zAw]
     rw [uM W a2 (by omega),uM W b2 (by omega),uM W c2 (by omega)])
    have M:=zOW W2 vn (by have:=I1.lt;omega) I2.lt l1 l2
    generalize mk hi.2.ns v lo.1 hi.1=r at M
    obtain ⟨e3,h3,_⟩:=M.app
    have W3:=M.wf
    have W3':Wf n (hi.2.ns++e3):=h3▸W3
    have h123:r.2=s.ns++(e1++e2++e3):=by rw [h3,h2,h1];simp
    have W4:Wf n (s.ns++(e1++e2++e3)):=h123▸W3
    have dr: ∀a,den r.2 r.1 a=zAw s.ns t a:=fun a=>by
     rw [M.den,dlo,dhi]
     simp only [zAw]
     rw [a5 a,b5 a,c5 a]
     split<;>rfl
    refine ⟨⟨W3,?_⟩,⟨_,h123⟩,M.lt,fun a=>(dr a).trans (t5 a),?_⟩
    ·intro p hp
     simp only at hp ⊢
     rcases zRn hp with rfl|hp
     ·refine ⟨by rw [h123];exact hin.app,M.lt,fun a=> ?_⟩
      rw [dr,h123,zD3 W W4 hin]
     ·obtain ⟨m1,m2,m3⟩:=I2.ok.memo p hp
      refine ⟨by rw [h3];exact m1.app,by rw [h3];simp only [List.length_append];omega,fun a=> ?_⟩
      rw [h3,W2.app W3' m2,zD3 W2 W3' m1];exact m3 a
    ·intro i hi1 hi2
     simp only at hi2 ⊢
     rcases Nat.lt_or_ge i lo.2.ns.length with h4|h4
     ·have:=I1.new i hi1 h4
      refine M.rlo.trans ?_
      rw [h3,h2]
      exact this.app.app
     ·rcases Nat.lt_or_ge i hi.2.ns.length with h5|h5
      ·have:=I2.new i h4 h5
       refine M.rhi.trans ?_
       rw [h3]
       exact this.app
      ·rw [M.new i h5 hi2]
       exact .refl _
end Go.Bd

namespace Go.Bd
structure zUu (n k v:Nat) (t:Key) (s:St) (lo hi:Nat×St):Prop where
 elo:lo=jP n k (split s.ns t.1 v).1 (split s.ns t.2.1 v).1 (split s.ns t.2.2 v).1 s
 ehi:hi=jP n k (split s.ns t.1 v).2 (split s.ns t.2.1 v).2 (split s.ns t.2.2 v).2 lo.2
 in3:In3 s.ns t
 vn:v<n
 k1:n<k+(v+1)
 a:(split s.ns t.1 v).1<s.ns.length+2∧(split s.ns t.2.1 v).1<s.ns.length+2∧(split s.ns t.2.2 v).1<s.ns.length+2
 b:v+1≤lvl n s.ns (split s.ns t.1 v).1∧v+1≤lvl n s.ns (split s.ns t.2.1 v).1∧v+1≤lvl n s.ns (split s.ns t.2.2 v).1
 c:(split s.ns t.1 v).2<lo.2.ns.length+2∧(split s.ns t.2.1 v).2<lo.2.ns.length+2∧(split s.ns t.2.2 v).2<lo.2.ns.length+2
 d:v+1≤lvl n lo.2.ns (split s.ns t.1 v).2∧v+1≤lvl n lo.2.ns (split s.ns t.2.1 v).2∧v+1≤lvl n lo.2.ns (split s.ns t.2.2 v).2
 okl:Ok n lo.2
 okh:Ok n hi.2
 l1:s.ns.length≤lo.2.ns.length
 l2:lo.2.ns.length≤hi.2.ns.length
 l3:hi.2.ns.length≤(mk hi.2.ns v lo.1 hi.1).2.length
theorem zPJ {n k f g h u:Nat} {s:St} (O:Ok n s) (hf:f<s.ns.length+2) (hg:g<s.ns.length+2) (hh:h<s.ns.length+2)
  (lf:u≤lvl n s.ns f) (lg:u≤lvl n s.ns g) (lh:u≤lvl n s.ns h) (hk:n<k+1+u) {t:Key} (hn:nrm f g h= .inr t) (hl:look t s.mm=none):
  ∃ (v:Nat) (lo hi:Nat×St),v=min (lvl n s.ns t.1) (min (lvl n s.ns t.2.1) (lvl n s.ns t.2.2))∧zUu n k v t s lo hi∧
   jP n (k+1) f g h s=((mk hi.2.ns v lo.1 hi.1).1,⟨(mk hi.2.ns v lo.1 hi.1).2,keep t (mk hi.2.ns v lo.1 hi.1).1 hi.2.mm⟩):=by
 have hn':=zNL s.ns f g h
 rw [hn] at hn'
 simp only at hn'
 obtain ⟨t1,t2,t3,t4,t5⟩:=hn'
 have hin:In3 s.ns t:=⟨by omega,by omega,by omega⟩
 have W:=O.wf
 have low: ∀x,(x=f∨x=g∨x=h∨x<2)→u≤lvl n s.ns x:=by
  rintro x (rfl|rfl|rfl|hx)
  ·exact lf
  ·exact lg
  ·exact lh
  ·rw [uH hx];have:=zLj W f;omega
 have ln1:lvl n s.ns t.1<n:=by
  rcases jH s.ns hin.1 with h1|⟨i,x,hi,hx⟩
  ·omega
  ·rw [hi,wI hx];exact W.v hx
 have u1:=low _ t2
 have u2:=low _ t3
 have u3:=low _ t4
 obtain ⟨v,hv⟩: ∃v,v=min (lvl n s.ns t.1) (min (lvl n s.ns t.2.1) (lvl n s.ns t.2.2)):=⟨_,rfl⟩
 refine ⟨v,jP n k (split s.ns t.1 v).1 (split s.ns t.2.1 v).1 (split s.ns t.2.2 v).1 s,jP n k (split s.ns t.1 v).2 (split s.ns t.2.1 v).2 (split s.ns t.2.2 v).2 (jP n k (split s.ns t.1 v).1 (split s.ns t.2.1 v).1 (split s.ns t.2.2 v).1 s).2,hv,?_,?_⟩
 rotate_left
 ·rw [jP,hn]
  simp only [hl, ←hv]
 have v1:v≤lvl n s.ns t.1:=by omega
 have v2:v≤lvl n s.ns t.2.1:=by omega
 have v3:v≤lvl n s.ns t.2.2:=by omega
 have vn:v<n:=by omega
 have uv:u≤v:=by omega
 clear hv
 obtain ⟨a1,a2,a3,a4,a5⟩:=split_ok W hin.1 vn v1
 obtain ⟨b1,b2,b3,b4,b5⟩:=split_ok W hin.2.1 vn v2
 obtain ⟨c1,c2,c3,c4,c5⟩:=split_ok W hin.2.2 vn v3
 have I1:=zFF k (split s.ns t.1 v).1 (split s.ns t.2.1 v).1 (split s.ns t.2.2 v).1 (v+1) s O a1 b1 c1 a3 b3 c3 (by omega)
 obtain ⟨e1,h1⟩:=I1.app
 have len1:s.ns.length≤(jP n k (split s.ns t.1 v).1 (split s.ns t.2.1 v).1 (split s.ns t.2.2 v).1 s).2.ns.length:=by rw [h1];simp
 have lv: ∀x,x<s.ns.length+2→lvl n (jP n k (split s.ns t.1 v).1 (split s.ns t.2.1 v).1 (split s.ns t.2.2 v).1 s).2.ns x=lvl n s.ns x:=fun x hx=>by rw [h1];exact zEB hx
 have I2:=zFF k (split s.ns t.1 v).2 (split s.ns t.2.1 v).2 (split s.ns t.2.2 v).2 (v+1) _ I1.ok (by omega) (by omega) (by omega) (by rw [lv _ a2];exact a4) (by rw [lv _ b2];exact b4) (by rw [lv _ c2];exact c4) (by omega)
 obtain ⟨e2,h2⟩:=I2.app
 refine ⟨rfl,rfl,hin,vn,by omega,⟨a1,b1,c1⟩,⟨a3,b3,c3⟩,⟨by omega,by omega,by omega⟩,⟨by rw [lv _ a2];exact a4,by rw [lv _ b2];exact b4,by rw [lv _ c2];exact c4⟩,I1.ok,I2.ok,len1,?_,?_⟩
 ·rw [h2];simp
 ·unfold mk
  split
  ·exact Nat.le_refl _
  ·split
   ·exact Nat.le_refl _
   ·simp
end Go.Bd

namespace Go.Bd
theorem zMr: ∀ (N:Nat) (l:List Nat),l.Nodup→(∀x,x∈l→x<N)→l.length≤N
 |0,[],_,_=>Nat.le_refl _
 |0,x::_,_,h=>absurd (h x List.mem_cons_self) (Nat.not_lt_zero _)
 |N+1,l,hd,h=>by
  have h1:=zMr N (l.erase N) (hd.erase N) (fun x hx=>by
   have h2:=(hd.mem_erase_iff.1 hx)
   have:=h x h2.2
   have:=h2.1
   omega)
  rw [List.length_erase] at h1
  split at h1<;>omega
def Wd {τ:Type} (K:Nat) (T:(Nat→Bool)→τ):Prop:=
 ∃σ:Nat→(Nat→Bool)→Nat,(∀v a,σ v a<K)∧(∀v a b,(∀u,u<v→a u=b u)→σ v a=σ v b)∧
  ∀v a b,σ v a=σ v b→(∀u,v≤u→a u=b u)→T a=T b
theorem Wd.mono {τ:Type} {K L:Nat} {T:(Nat→Bool)→τ} (h:Wd K T) (hl:K≤L):Wd L T:=by
 obtain ⟨σ,h1,h2,h3⟩:=h
 exact ⟨σ,fun v a=>Nat.lt_of_lt_of_le (h1 v a) hl,h2,h3⟩
theorem Wd.comp {τ υ:Type} {K:Nat} {T:(Nat→Bool)→τ} (h:Wd K T) (φ:τ→υ):Wd K (fun a=>φ (T a)):=by
 obtain ⟨σ,h1,h2,h3⟩:=h
 exact ⟨σ,h1,h2,fun v a b he hr=>by simp only [h3 v a b he hr]⟩
theorem Wd.const {τ:Type} (x:τ):Wd 1 (fun _=>x):=
 ⟨fun _ _=>0,fun _ _=>Nat.one_pos,fun _ _ _ _=>rfl,fun _ _ _ _ _=>rfl⟩
theorem Wd.prod {τ υ:Type} {K L:Nat} {T:(Nat→Bool)→τ} {U:(Nat→Bool)→υ} (h:Wd K T) (k:Wd L U):Wd (K*L) (fun a=>(T a,U a)):=by
 obtain ⟨σ,h1,h2,h3⟩:=h
 obtain ⟨ρ,k1,k2,k3⟩:=k
 refine ⟨fun v a=>σ v a*L+ρ v a,fun v a=> ?_,fun v a b he=>by simp only [h2 v a b he,k2 v a b he],fun v a b he hr=> ?_⟩
 ·have e1:=h1 v a
  have e2:=k1 v a
  have:(σ v a+1)*L≤K*L:=Nat.mul_le_mul_right L e1
  rw [Nat.succ_mul] at this
  dsimp only
  omega
 ·have e2:=k1 v a
  have e3:=k1 v b
  have hL:0<L:=by omega
  have q1:(σ v a*L+ρ v a) / L=σ v a:=by rw [Nat.mul_comm,Nat.mul_add_div hL,Nat.div_eq_of_lt e2,Nat.add_zero]
  have q2:(σ v b*L+ρ v b) / L=σ v b:=by rw [Nat.mul_comm,Nat.mul_add_div hL,Nat.div_eq_of_lt e3,Nat.add_zero]
  have he1:σ v a=σ v b:=by rw [←q1, ←q2];exact congrArg (· / L) he
  have he2:ρ v a=ρ v b:=by
   simp only [he1] at he
   omega
  simp only [Prod.mk.injEq]
  exact ⟨h3 v a b he1 hr,k3 v a b he2 hr⟩
def cat (v:Nat) (a b:Nat→Bool):Nat→Bool:=fun u=>if u<v then a u else b u
theorem zEk {v u:Nat} (a b:Nat→Bool) (h:u<v):cat v a b u=a u:=by simp [cat,h]
theorem zFU {v u:Nat} (a b:Nat→Bool) (h:v≤u):cat v a b u=b u:=by simp [cat,Nat.not_lt.2 h]
variable {n:Nat} {ns:List Nd}
theorem Rch.path (W:Wf n ns) {r x:Nat} (h:Rch ns r x) (hr:r<ns.length+2):x<ns.length+2∧lvl n ns r≤lvl n ns x∧ ∃α:Nat→Bool, ∀b,den ns x b=den ns r (cat (lvl n ns x) α b):=by
 induction h with
 |refl f=>exact ⟨hr,Nat.le_refl _,fun _=>false,fun b=>W.dep hr (fun u hu=>(zFU _ _ hu).symm)⟩
 | @lo i y g hy _ ih=>
  have hi:=(List.getElem?_eq_some_iff.1 hy).1
  have h1:=W.lo hy
  obtain ⟨p1,p2,α,p3⟩:=ih (by omega)
  refine ⟨p1,by rw [wI hy];omega,upd α y.1 false,fun b=> ?_⟩
  rw [p3,vZ W hy,zEk _ _ (by omega),upd_same]
  simp only [Bool.false_eq_true,if_false]
  refine W.dep (f:=y.2.1) (by omega) (fun u hu=> ?_)
  rcases Nat.lt_or_ge u (lvl n ns g) with hl|hl
  ·rw [zEk _ _ hl,zEk _ _ hl,upd_ne _ _ (by omega)]
  ·rw [zFU _ _ hl,zFU _ _ hl]
 | @hi i y g hy _ ih=>
  have hi:=(List.getElem?_eq_some_iff.1 hy).1
  have h1:=W.hi hy
  obtain ⟨p1,p2,α,p3⟩:=ih (by omega)
  refine ⟨p1,by rw [wI hy];omega,upd α y.1 true,fun b=> ?_⟩
  rw [p3,vZ W hy,zEk _ _ (by omega),upd_same]
  simp only [if_true]
  refine W.dep (f:=y.2.2) (by omega) (fun u hu=> ?_)
  rcases Nat.lt_or_ge u (lvl n ns g) with hl|hl
  ·rw [zEk _ _ hl,zEk _ _ hl,upd_ne _ _ (by omega)]
  ·rw [zFU _ _ hl,zFU _ _ hl]
theorem zTK (W:Wf n ns) {r m K:Nat} (hr:r<ns.length+2) (hw:Wd K (den ns r)) (hm:m≤ns.length) (hnew: ∀i,m≤i→i<ns.length→Rch ns r (i+2)):ns.length≤m+n*K:=by
 obtain ⟨σ,s1,s2,s3⟩:=hw
 have hex: ∀i:Nat, ∃c:Nat,m≤i→i<ns.length→ ∃ (α:Nat→Bool) (x:Nd),ns[i]? =some x∧(∀b,den ns (i+2) b=den ns r (cat x.1 α b))∧c=x.1*K+σ x.1 α:=by
  intro i
  by_cases h:m≤i∧i<ns.length
  ·have hx:ns[i]? =some ns[i]:=by simp
   obtain ⟨_,_,α,p⟩:=(hnew i h.1 h.2).path W hr
   rw [wI hx] at p
   exact ⟨_,fun _ _=>⟨α,_,hx,p,rfl⟩⟩
  ·exact ⟨0,fun h1 h2=>absurd ⟨h1,h2⟩ h⟩
 have hch: ∃code:Nat→Nat, ∀i,m≤i→i<ns.length→ ∃ (α:Nat→Bool) (x:Nd),ns[i]? =some x∧(∀b,den ns (i+2) b=den ns r (cat x.1 α b))∧code i=x.1*K+σ x.1 α:=
  ⟨fun i=>Classical.choose (hex i),fun i=>Classical.choose_spec (hex i)⟩
 obtain ⟨code,hcode⟩:=hch
 have hlen:=zMr (n*K) ((List.range (ns.length-m)).map (fun j=>code (m+j))) (by
   refine List.pairwise_map.2 ((List.nodup_range (n:=ns.length-m)).imp_of_mem (fun {p q} hp hq hne heq=> ?_))
   rw [List.mem_range] at hp hq
   obtain ⟨α,x,hx,dx,ex⟩:=hcode (m+p) (by omega) (by omega)
   obtain ⟨β,y,hy,dy,ey⟩:=hcode (m+q) (by omega) (by omega)
   rw [ex,ey] at heq
   have k1:=s1 x.1 α
   have k2:=s1 y.1 β
   have hK:0<K:=by omega
   have q1:(x.1*K+σ x.1 α) / K=x.1:=by rw [Nat.mul_comm,Nat.mul_add_div hK,Nat.div_eq_of_lt k1,Nat.add_zero]
   have q2:(y.1*K+σ y.1 β) / K=y.1:=by rw [Nat.mul_comm,Nat.mul_add_div hK,Nat.div_eq_of_lt k2,Nat.add_zero]
   have hv:x.1=y.1:=by rw [←q1, ←q2];exact congrArg (· / K) heq
   rw [←hv] at heq dy
   have hs:σ x.1 α=σ x.1 β:=by omega
   have:=W.canon (f:=m+p+2) (g:=m+q+2) (by omega) (by omega) (fun b=>by
    rw [dx,dy]
    refine s3 x.1 _ _ ?_ (fun u hu=>by rw [zFU _ _ hu,zFU _ _ hu])
    rw [s2 x.1 (cat x.1 α b) α (fun u hu=>zEk _ _ hu),s2 x.1 (cat x.1 β b) β (fun u hu=>zEk _ _ hu),hs])
   omega) (by
   intro c hc
   obtain ⟨j,hj,rfl⟩:=List.mem_map.1 hc
   rw [List.mem_range] at hj
   obtain ⟨α,x,hx,_,he⟩:=hcode (m+j) (by omega) (by omega)
   have h1:=W.v hx
   have h2:=s1 x.1 α
   have:(x.1+1)*K≤n*K:=Nat.mul_le_mul_right K h1
   rw [Nat.succ_mul] at this
   omega)
 rw [List.length_map,List.length_range] at hlen
 omega
end Go.Bd

namespace Go.Bd
def bits (p:Nat→Nat) (w:Nat) (a:Nat→Bool):List Bool:=(List.range w).map (fun i=>a (p i))
theorem zFV (p:Nat→Nat) {k w:Nat} (h:k≤w) (a:Nat→Bool):bits p w a=bits p k a++(List.range (w-k)).map (fun i=>a (p (k+i))):=by
 obtain ⟨m,rfl⟩: ∃m,w=k+m:=⟨w-k,by omega⟩
 rw [bits,bits,Nat.add_sub_cancel_left,List.range_add,List.map_append,List.map_map]
 rfl
theorem kN (p:Nat→Nat) (w:Nat) (a:Nat→Bool):(bits p w a).length=w:=by simp [bits]
theorem zRU (p:Nat→Nat) (v:Nat): ∀w,(∀i j,i<j→j<w→p i<p j)→ ∃k,k≤w∧ ∀i,i<w→(p i<v↔i<k)
 |0,_=>⟨0,Nat.le_refl _,fun i h=>absurd h (Nat.not_lt_zero _)⟩
 |w+1,hp=>by
  obtain ⟨k,hk,h⟩:=zRU p v w (fun i j h1 h2=>hp i j h1 (by omega))
  by_cases hw:p w<v
  ·refine ⟨w+1,Nat.le_refl _,fun i hi=>⟨fun _=>hi,fun _=> ?_⟩⟩
   rcases Nat.lt_or_ge i w with h1|h1
   ·exact Nat.lt_trans (hp i w h1 (by omega)) hw
   ·have:i=w:=by omega
    rw [this];exact hw
  ·refine ⟨k,by omega,fun i hi=> ?_⟩
   rcases Nat.lt_or_ge i w with h1|h1
   ·exact h i h1
   ·have:i=w:=by omega
    subst this
    exact ⟨fun h=>absurd h hw,fun h=>by omega⟩
def Wb (K c d:Nat) (T:(Nat→Bool)→Bool):Prop:=
 c≤d∧ ∃ (σ:Nat→(Nat→Bool)→Nat) (i0:Nat),(∀v a,σ v a<K)∧(∀v a b,(∀u,u<v→a u=b u)→σ v a=σ v b)∧
  (∀v a b,σ v a=σ v b→(∀u,v≤u→a u=b u)→T a=T b)∧(∀v a,σ v a=0→T a=false)∧(∀v a,v≤c→σ v a=i0)∧
  ∀a b,(∀u,c≤u→u<d→a u=b u)→T a=T b
theorem Wb.wd {K c d:Nat} {T:(Nat→Bool)→Bool} (h:Wb K c d T):Wd K T:=by
 obtain ⟨_,σ,i0,h1,h2,h3,_⟩:=h
 exact ⟨σ,h1,h2,h3⟩
theorem Wb.mono {K L c d:Nat} {T:(Nat→Bool)→Bool} (h:Wb K c d T) (hl:K≤L):Wb L c d T:=by
 obtain ⟨h0,σ,i0,h1,h2,h3,h4⟩:=h
 exact ⟨h0,σ,i0,fun v a=>Nat.lt_of_lt_of_le (h1 v a) hl,h2,h3,h4⟩
theorem Wb.and {K c d c' d':Nat} {T U:(Nat→Bool)→Bool} (h:Wb K c d T) (k:Wb K c' d' U) (hd:d≤c'):Wb K c d' (fun a=>T a&&U a):=by
 obtain ⟨h0,σ,i0,h1,h2,h3,h4,h5,h6⟩:=h
 obtain ⟨k0,ρ,j0,k1,k2,k3,k4,k5,k6⟩:=k
 refine ⟨by omega,fun v a=>if v≤d then σ v a else if T a then ρ v a else 0,i0,fun v a=> ?_,fun v a b he=> ?_,fun v a b he hr=> ?_,fun v a he=> ?_,fun v a hv=> ?_,fun a b he=> ?_⟩
 ·have:=h1 v a
  have:=k1 v a
  simp only
  split
  ·assumption
  ·split<;>omega
 ·simp only
  split
  ·exact h2 v a b he
  ·rename_i hv
   rw [h6 a b (fun u _ hu=>he u (by omega)),k2 v a b he]
 ·show (T a&&U a)=(T b&&U b)
  simp only at he
  split at he
  ·rename_i hv
   rw [h3 v a b he hr,k6 a b (fun u hu _=>hr u (by omega))]
  ·cases ha:T a<;>cases hb:T b
   ·rfl
   ·rw [ha,hb] at he
    simp only [Bool.false_eq_true,if_false,if_true] at he
    rw [k4 v b he.symm]
    rfl
   ·rw [ha,hb] at he
    simp only [Bool.false_eq_true,if_false,if_true] at he
    rw [k4 v a he];rfl
   ·rw [ha,hb] at he
    simp only [if_true] at he
    rw [k3 v a b he hr]
 ·show (T a&&U a)=false
  simp only at he
  split at he
  ·rw [h4 v a he];rfl
  ·split at he
   ·rw [k4 v a he,Bool.and_false]
   ·rename_i hT
    rw [Bool.eq_false_iff.2 hT];rfl
 ·simp only
  rw [if_pos (by omega)]
  exact h5 v a hv
 ·show (T a&&U a)=(T b&&U b)
  rw [h6 a b (fun u h1 h2=>he u h1 (by omega)),k6 a b (fun u h1 h2=>he u (by omega) h2)]
theorem zIC {K c d w:Nat} {p:Nat→Nat} (hp: ∀i j,i<j→j<w→p i<p j) (hc: ∀i,i<w→c≤p i) (hd: ∀i,i<w→p i<d) (hcd:c≤d) (T:List Bool→Bool) (code:List Bool→Nat)
  (hK: ∀l,code l<K) (h: ∀l l' s,l.length=l'.length→l.length+s.length=w→code l=code l'→T (l++s)=T (l'++s))
  (h0: ∀l s,l.length+s.length=w→code l=0→T (l++s)=false):Wb K c d (fun a=>T (bits p w a)):=by
 have hex: ∀v, ∃k,k≤w∧ ∀i,i<w→(p i<v↔i<k):=fun v=>zRU p v w hp
 have hkk: ∃k:Nat→Nat, ∀v,k v≤w∧ ∀i,i<w→(p i<v↔i<k v):=⟨fun v=>Classical.choose (hex v),fun v=>Classical.choose_spec (hex v)⟩
 obtain ⟨k,hk⟩:=hkk
 have hpre: ∀ (v:Nat) (a b:Nat→Bool),(∀u,u<v→a u=b u)→bits p (k v) a=bits p (k v) b:=by
  intro v a b he
  rw [bits,bits]
  refine List.map_congr_left (fun i hi=> ?_)
  rw [List.mem_range] at hi
  have h1:=(hk v).1
  exact he _ (((hk v).2 i (by omega)).2 hi)
 have hsuf: ∀ (v:Nat) (a b:Nat→Bool),(∀u,v≤u→a u=b u)→(List.range (w-k v)).map (fun i=>a (p (k v+i)))=(List.range (w-k v)).map (fun i=>b (p (k v+i))):=by
  intro v a b he
  refine List.map_congr_left (fun i hi=> ?_)
  rw [List.mem_range] at hi
  refine he _ ?_
  have h1:=(hk v).2 (k v+i) (by omega)
  rcases Nat.lt_or_ge (p (k v+i)) v with h2|h2
  ·have:=h1.1 h2;omega
  ·exact h2
 refine ⟨hcd,fun v a=>code (bits p (k v) a),code [],fun v a=>hK _,fun v a b he=>by simp only [hpre v a b he],fun v a b he hr=> ?_,fun v a he=> ?_,fun v a hv=> ?_,fun a b he=> ?_⟩
 ·show T (bits p w a)=T (bits p w b)
  rw [zFV p (hk v).1,zFV p (hk v).1 b,hsuf v a b hr]
  exact h _ _ _ (by rw [kN,kN]) (by rw [kN];simp;have:=(hk v).1;omega) he
 ·show T (bits p w a)=false
  rw [zFV p (hk v).1]
  exact h0 _ _ (by rw [kN];simp;have:=(hk v).1;omega) he
 ·have:k v=0:=by
   rcases Nat.eq_zero_or_pos (k v) with h1|h1
   ·exact h1
   ·have h2:=(hk v).1
    have h3:=((hk v).2 0 (by omega)).2 h1
    have:=hc 0 (by omega)
    omega
  simp only [this]
  rfl
 ·have:bits p w a=bits p w b:=by
   rw [bits,bits]
   refine List.map_congr_left (fun i hi=> ?_)
   rw [List.mem_range] at hi
   exact he _ (hc i hi) (hd i hi)
  show T (bits p w a)=T (bits p w b)
  rw [this]
def num (l:List Bool):Nat:=l.foldl (fun x b=>2*x+b.toNat) 0
theorem zKF (l:List Bool): ∀x,l.foldl (fun x b=>2*x+b.toNat) x=x*2^l.length+num l:=by
 induction l with
 |nil=>intro x;simp [num]
 |cons b l ih=>
  intro x
  simp only [num,List.foldl_cons,List.length_cons,Nat.pow_succ]
  rw [ih,ih (2*0+b.toNat)]
  rw [Nat.add_mul,Nat.mul_comm 2 x,Nat.mul_assoc,Nat.mul_comm 2 (2^l.length),Nat.mul_zero,Nat.zero_add]
  omega
theorem zC0 (l s:List Bool):num (l++s)=num l*2^s.length+num s:=by
 rw [num,List.foldl_append,zKF]
 rfl
theorem zHn: ∀l:List Bool,num l<2^l.length
 |[]=>by simp [num]
 |b::l=>by
  have h:=zHn l
  have:num (b::l)=b.toNat*2^l.length+num l:=by
   have:=zKF l (2*0+b.toNat)
   simpa [num] using this
  rw [this,List.length_cons,Nat.pow_succ]
  have hb:b.toNat≤1:=by cases b<;>simp
  have:b.toNat*2^l.length≤1*2^l.length:=Nat.mul_le_mul_right _ hb
  omega
def zOR (lo hi w:Nat) (l:List Bool):Nat:=
 if num l<lo / 2^(w-l.length)∨hi / 2^(w-l.length)<num l then 0
 else if num l=lo / 2^(w-l.length) then 1
 else if num l=hi / 2^(w-l.length) then 2 else 3
theorem zHd {lo x m s:Nat} (hs:s<m) (h:x<lo / m):x*m+s<lo:=by
 have hm:0<m:=by omega
 have h1:(x+1)*m≤lo:=(Nat.le_div_iff_mul_le hm).1 h
 rw [Nat.succ_mul] at h1
 omega
theorem zFq {hi x m s:Nat} (hs:s<m) (h:hi / m<x):hi<x*m+s:=by
 have hm:0<m:=by omega
 have h1:hi<x*m:=(Nat.div_lt_iff_lt_mul hm).1 h
 omega
theorem zIB {c d w lo hi:Nat} {p:Nat→Nat} (hp: ∀i j,i<j→j<w→p i<p j) (hc: ∀i,i<w→c≤p i) (hd: ∀i,i<w→p i<d) (hcd:c≤d):
  Wb 4 c d (fun a=>decide (lo≤num (bits p w a)∧num (bits p w a)≤hi)):=by
 refine zIC hp hc hd hcd (fun l=>decide (lo≤num l∧num l≤hi)) (zOR lo hi w) (fun l=> ?_) (fun l l' s hl hw he=> ?_) (fun l s hw he=> ?_)
 ·unfold zOR
  split
  ·omega
  ·split
   ·omega
   ·split<;>omega
 ·have hs:=zHn s
  have e1:w-l.length=s.length:=by omega
  have e2:w-l'.length=s.length:=by omega
  simp only [zOR,e1,e2] at he
  simp only [zC0,decide_eq_decide]
  generalize 2^s.length=m at*
  by_cases c1:num l<lo / m∨hi / m<num l
  ·rw [if_pos c1] at he
   by_cases c2:num l'<lo / m∨hi / m<num l'
   ·have q: ∀x,(x<lo / m∨hi / m<x)→ ¬(lo≤x*m+num s∧x*m+num s≤hi):=by
     rintro x (h|h) ⟨h1,h2⟩
     ·have:=zHd hs h;omega
     ·have:=zFq hs h;omega
    exact ⟨fun h=>absurd h (q _ c1),fun h=>absurd h (q _ c2)⟩
   ·rw [if_neg c2] at he
    split at he
    ·omega
    ·split at he<;>omega
  ·rw [if_neg c1] at he
   by_cases c2:num l'<lo / m∨hi / m<num l'
   ·rw [if_pos c2] at he
    split at he
    ·omega
    ·split at he<;>omega
   ·rw [if_neg c2] at he
    by_cases a1:num l=lo / m
    ·rw [if_pos a1] at he
     by_cases a2:num l'=lo / m
     ·rw [a1,a2]
     ·rw [if_neg a2] at he
      split at he<;>omega
    ·rw [if_neg a1] at he
     by_cases a2:num l'=lo / m
     ·rw [if_pos a2] at he
      split at he<;>omega
     ·rw [if_neg a2] at he
      by_cases b1:num l=hi / m
      ·rw [if_pos b1] at he
       by_cases b2:num l'=hi / m
       ·rw [b1,b2]
       ·rw [if_neg b2] at he;omega
      ·rw [if_neg b1] at he
       by_cases b2:num l'=hi / m
       ·rw [if_pos b2] at he;omega
       ·have q: ∀x,lo / m<x→x<hi / m→lo≤x*m+num s∧x*m+num s≤hi:=fun x h1 h2=>
         ⟨by have:=zFq (hi:=lo) hs h1;omega,by have:=zHd (lo:=hi) hs h2;omega⟩
        have r1:=q (num l) (by omega) (by omega)
        have r2:=q (num l') (by omega) (by omega)
        exact ⟨fun _=>r2,fun _=>r1⟩
 ·have hs:=zHn s
  have e1:w-l.length=s.length:=by omega
  simp only [zOR,e1] at he
  simp only [zC0,decide_eq_false_iff_not]
  generalize 2^s.length=m at*
  by_cases c1:num l<lo / m∨hi / m<num l
  ·rintro ⟨h1,h2⟩
   rcases c1 with h|h
   ·have:=zHd hs h;omega
   ·have:=zFq hs h;omega
  ·rw [if_neg c1] at he
   split at he
   ·omega
   ·split at he<;>omega
def fits (q:Nat→Option Bool) (l:List Bool):Bool:=(List.range l.length).all (fun i=>match q i with
 |some b=>l[i]? ==some b
 |none=>true)
theorem zBR (q:Nat→Option Bool) (l s:List Bool):fits q (l++s)=(fits q l&&fits (fun i=>q (l.length+i)) s):=by
 rw [fits,List.length_append,List.range_add,List.all_append,List.all_map]
 congr 1
 ·rw [fits,Bool.eq_iff_iff,List.all_eq_true,List.all_eq_true]
  refine forall_congr' fun i=>forall_congr' fun hi=> ?_
  rw [List.mem_range] at hi
  rw [List.getElem?_append_left hi]
 ·rw [fits,Bool.eq_iff_iff,List.all_eq_true,List.all_eq_true]
  refine forall_congr' fun i=>forall_congr' fun hi=> ?_
  simp only [Function.comp]
  rw [List.getElem?_append_right (by omega),Nat.add_sub_cancel_left]
theorem zOJ {c d w:Nat} {p:Nat→Nat} (q:Nat→Option Bool) (hp: ∀i j,i<j→j<w→p i<p j) (hc: ∀i,i<w→c≤p i) (hd: ∀i,i<w→p i<d) (hcd:c≤d):
  Wb 2 c d (fun a=>fits q (bits p w a)):=by
 refine zIC hp hc hd hcd (fits q) (fun l=>(fits q l).toNat) (fun l=>by cases fits q l<;>simp) (fun l l' s hl hw he=> ?_) (fun l s hw he=> ?_)
 ·rw [zBR,zBR,hl]
  have:fits q l=fits q l':=by
   cases h1:fits q l<;>cases h2:fits q l'<;>simp [h1,h2] at he<;>rfl
  rw [this]
 ·rw [zBR]
  cases h1:fits q l
  ·rfl
  ·simp [h1] at he
end Go.Bd

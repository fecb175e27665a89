/-
  Plain laws: interfaces that are up.
  Plain laws: masks, networks, and what prefixes contain.
  Plain laws: what the checks of a network say of its interfaces and static routes.
  Plain laws: what the checks of a network say.
  Plain laws: prefixes in order; the sorting of routes; connected routes.
  Plain laws: static routes that are active.
  Plain laws: connected routes: sorted, and valid; static routes are valid.
  Plain laws of distance-vector routing: the neighbors of an interface.
  Plain laws of distance-vector routing: a router has one interface in a domain.
  Plain laws of distance-vector routing: what a prefix list permits.
  Plain laws of distance-vector routing: who takes part, what is made of a neighbor's table.
  Plain laws of distance-vector routing: what a router receives.
  Plain laws: what a table is.
  Plain laws of distance-vector routing: tables of neighbors, finding a prefix.
  Plain laws of distance-vector routing: the owner of an address.
  Plain laws of distance-vector routing: Owner finds the neighbor with an address.
  Plain laws of distance-vector routing: where a received route comes from.
  Plain laws of distance-vector routing: the index of a prefix in a table.
  Plain laws: valid routes.
  The law as a function: law17_DistFilters.
  Plain laws: preference of routes; insertion into ordered lists; the prefixes of routes; hops added.
  Plain laws: the prefixes of routes; hops added; routes merged.
  Plain laws: routes merged.
  Plain laws: merging where prefixes differ; the reference's connected and active routes.
  Plain laws: ranges swapped and rotated, stated place by place.
  Functions out of code: sorting, for any elements and any comparison.
  Plain laws: ranges swapped and rotated: the walks.
  Plain laws: stable merging in place: what the steps keep.
-/
import Derived.Test.YtcnlcmbchljpgaaGreatPl11
import Derived.Test.YtcnlcmbchljpgaaGreatPl9
set_option linter.unusedVariables false
namespace Go.Ve
open Go
set_option maxRecDepth 1000000
set_option maxHeartbeats 4000000
def zGe (e y:Ty.El zL):Bool:=y.1==e.1&&(y.2.1==e.2.1&&true)
theorem zSE {e y:Ty.El zL} :zGe e y=true↔y=e:=⟨fun h=>zGE h,fun h=>by subst h;simp [zGe]⟩
def uC (v:Ty.El zR) (r i:Int):Int:=yH (fun d:Ty.El uH=>d.2.2.1.any (zGe (r,i,()))) v.2.1.1
def zHj (v:Ty.El zR) (r i:Int):Int:=yH (fun l:Int=>decide (uC v r i≥0)&&l==uC v r i) v.2.1.2.1
def upB (v:Ty.El zR) (r i:Int):Bool:=decide (0≤uC v r i)&&v.2.2.1.all (fun x:Int=> !(x==zHj v r i))
structure zBb (v:Ty.El zR):Prop where
 rs:v.1.1.length≤9
 sm: ∀y,y∈v.1.1→SmR y
 doms:v.2.1.1.length≤360
 ends : ∀ d, d ∈ v.2.1.1 → d.2.2.1.length ≤ 360
 links:v.2.1.2.1.length≤12
 link0: ∀l,l∈v.2.1.2.1→(0:Int)≤l
 down:v.2.2.1.length≤2
 down0: ∀l,l∈v.2.2.1→(0:Int)≤l
theorem zCg.s {n:Ty.El zV} {d:List Int} {v:Ty.El zR} (h:zCg n d v):zBb v where
 rs:=by rw [h.net];exact h.rs
 sm:=by rw [h.net];exact h.sm
 doms:=h.topo.doms
 ends := fun d hd => (h.topo.ends d hd).1
 links:=h.topo.links
 link0:=fun l hl=>(h.topo.link l hl).1
 down:=by rw [h.dn];exact h.down.len
 down0:=by rw [h.dn];exact fun l hl=>(h.down.lo l hl).1
theorem zD7 {α:Type} {p:α→Bool} {xs:List α} :yH p xs≥0↔xs.any p=true:=by
 rcases zDA p xs with ⟨h,h2⟩|⟨i,x,h,h2,h3,_⟩
 ·rw [h]
  constructor
  ·intro h';omega
  ·intro h'
   obtain ⟨x,hx,hp⟩:=List.any_eq_true.1 h'
   rw [h2 x hx] at hp
   cases hp
 ·rw [h]
  exact ⟨fun _=>List.any_eq_true.2 ⟨x,List.mem_of_getElem? h2,h3⟩,fun _=>by omega⟩
theorem zHp {α:Type} {p:α→Bool} {xs:List α} (h:0≤yH p xs): ∃x,xs[(yH p xs).toNat]? =some x∧p x=true:=by
 rcases zDA p xs with ⟨h1,h2⟩|⟨i,x,h1,h2,h3,_⟩
 ·omega
 ·rw [h1];exact ⟨x,by simpa using h2,h3⟩
theorem zF3 (l:List (Ty.El zL)) (e:Ty.El zL) (hl:l.length≤1048576):Wp (x7 (l,e,())) (fun k=>k=yH (zGe e) l):=by
 unfold x7
 dsimp only
 refine xH (p:=zGe e) (by omega) ?_ rfl
 intro i x hx
 simp only [zJ hx,Option.bind_some]
 have:(e.1==x.1&&(e.2.1==x.2.1&&true))=zGe e x:=by
  unfold zGe
  rw [Bool.eq_iff_iff]
  simp only [Bool.and_true,Bool.and_eq_true,beq_iff_eq]
  exact ⟨fun h=>⟨h.1.symm,h.2.symm⟩,fun h=>⟨h.1.symm,h.2.symm⟩⟩
 rw [this]
 cases zGe e x<;>rfl
theorem zEg (l:List (Ty.El zL)) (e:Ty.El zL) (hl:l.length≤1048576):Wp (uJ (l,e,())) (fun b=>b=l.any (zGe e)):=by
 unfold uJ
 dsimp only
 refine zC ((zF3 l e hl).mono (fun k hk=>zB ?_))
 subst hk
 rw [Bool.eq_iff_iff,decide_eq_true_eq]
 exact zD7
theorem zB7 (v:Ty.El zR) (r i:Int) (hv:zBb v):Wp (zA2 (v,r,i,())) (fun k=>k=uC v r i):=by
 unfold zA2
 dsimp only
 have:=hv.doms
 refine xH (p:=fun d:Ty.El uH=>d.2.2.1.any (zGe (r,i,()))) (by omega) ?_ rfl
 intro k x hx
 simp only [zJ hx,Option.bind_some]
 have:=hv.ends x (List.mem_of_getElem? hx)
 have h1:=wM (zEg x.2.2.1 (r,i,()) (by omega))
 refine (congrArg (fun m=>Option.bind m _) h1).trans ?_
 simp only [Option.bind_some]
 cases List.any x.2.2.1 (zGe (r,i,()))<;>rfl
theorem zBl (v:Ty.El zR) (r i:Int) (hv:zBb v):Wp (zAb (v,r,i,())) (fun k=>k=uC v r i):=by
 unfold zAb
 dsimp only
 have:=hv.doms
 refine zAJ (by omega) (fun k=> ∀j y,j<k→v.2.1.1[j]? =some y→y.2.2.1.any (zGe (r,i,()))=false) (fun j y hj=>by omega) ?_ ?_
 ·intro k x hx hj
  have hends:=hv.ends x (List.mem_of_getElem? hx)
  simp only [zJ hx,Option.bind_some]
  refine zAJ (xs:=x.2.2.1) (by omega) (fun m=> ∀y,y∈x.2.2.1.take m→zGe (r,i,()) y=false) (fun y hy=>by simp at hy) ?_ ?_
  ·intro m y hy hm
   simp only [zJ hy,Option.bind_some]
   refine zG (fun h=>zB (e2r (e2r (e2r (e2r ?_))))) (fun h=>zB (e2l ⟨rfl,?_⟩))
   ·have h1:x.2.2.1.any (zGe (r,i,()))=true:=List.any_eq_true.2 ⟨y,List.mem_of_getElem? hy,h⟩
    exact (zU4 (p:=fun d:Ty.El uH=>d.2.2.1.any (zGe (r,i,()))) hx h1 hj).symm
   ·intro z hz
    rw [List.take_add_one,hy] at hz
    simp only [Option.toList_some,List.mem_append,List.mem_singleton] at hz
    rcases hz with hz|rfl
    ·exact hm z hz
    ·exact h
  ·intro hm
   rw [List.take_length] at hm
   refine zB (e2l ⟨rfl,?_⟩)
   intro j y hj' hy
   rcases Nat.lt_or_ge j k with h'|h'
   ·exact hj j y h' hy
   ·have:j=k:=by omega
    subst this
    rw [hx] at hy
    cases hy
    rw [Bool.eq_false_iff]
    intro h
    obtain ⟨z,hz,hz2⟩:=List.any_eq_true.1 h
    rw [hm z hz] at hz2
    cases hz2
 ·intro hj
  refine zB (zHo ?_).symm
  intro x hx
  obtain ⟨j,hjl,rfl⟩:=List.getElem_of_mem hx
  exact hj j _ hjl (by simp [hjl])
theorem zBV (l:List Int) (e:Int) (hl:l.length≤1048576):Wp (uU (l,e,())) (fun k=>k=yH (fun x=>x==e) l):=by
 unfold uU
 dsimp only
 refine xH (p:=fun x:Int=>x==e) (by omega) ?_ rfl
 intro i (x:Int) hx
 simp only [zJ hx,Option.bind_some]
 have:(e==x)=(x==e):=by rw [Bool.eq_iff_iff,beq_iff_eq,beq_iff_eq];exact eq_comm
 rw [this]
 cases x==e<;>rfl
theorem zAx (l:List Int) (e:Int) (hl:l.length≤1048576):Wp (vE (l,e,())) (fun b=>b=l.any (fun x=>x==e)):=by
 unfold vE
 dsimp only
 refine zC ((zBV l e hl).mono (fun k hk=>zB ?_))
 subst hk
 rw [Bool.eq_iff_iff,decide_eq_true_eq]
 exact zD7
theorem zNn (v:Ty.El zR) (r i:Int) (hv:zBb v):Wp (zHd (v,r,i,())) (fun k=>k=zHj v r i):=by
 unfold zHd
 dsimp only
 refine zC ((zB7 v r i hv).mono (fun k hk=> ?_))
 subst hk
 refine zI (fun h=>zB ?_) (fun h=> ?_)
 ·unfold zHj
  rw [zHo]
  intro x _
  have: ¬(uC v r i≥0):=by omega
  simp [this]
 ·have:=hv.links
  refine zC ((zBV _ _ (by omega)).mono (fun k hk=>zB ?_))
  rw [hk]
  unfold zHj
  have h2:uC v r i≥0:=by omega
  congr 1
  funext l
  simp [h2]
theorem zMn (v:Ty.El zR) (r i:Int) (hv:zBb v):Wp (zFd (v,r,i,())) (fun k=>k=zHj v r i):=by
 unfold zFd
 dsimp only
 refine zC ((zBl v r i hv).mono (fun k hk=> ?_))
 subst hk
 have:=hv.links
 refine xH (p:=fun l:Int=>decide (uC v r i≥0)&&l==uC v r i) (by omega) ?_ rfl
 intro i' (x:Int) hx
 simp only [zJ hx,Option.bind_some]
 cases decide (uC v r i≥0)<;>cases x==uC v r i<;>rfl
theorem zS7 {α:Type} {p:α→Bool} (l:List α):(!l.any p)=l.all (fun x=> !p x):=by
 induction l with
 |nil=>rfl
 |cons x l ih=>simp [←ih]
theorem zE9 (v:Ty.El zR) (r i:Int) (hv:zBb v):Wp (zHc (v,r,i,())) (fun b=>b=upB v r i):=by
 unfold zHc
 dsimp only
 refine zC ((zB7 v r i hv).mono (fun k hk=> ?_))
 subst hk
 refine zI (fun h=>zB ?_) (fun h=> ?_)
 ·unfold upB
  have: ¬(0≤uC v r i):=by omega
  simp [this]
 ·refine zC ((zNn v r i hv).mono (fun k hk=> ?_))
  subst hk
  have h0:0≤uC v r i:=by omega
  have hd:=hv.down
  refine zC (zI (fun h=>zB (zB ?_)) (fun h=> ?_))
  ·unfold upB
   simp only [h0,decide_true,Bool.true_and]
   symm
   rw [List.all_eq_true]
   intro x hx
   have:=hv.down0 x hx
   simp only [Bool.not_eq_true',beq_eq_false_iff_ne]
   omega
  ·refine zC ((zAx _ _ (by omega)).mono (fun b hb=>zB (zB ?_)))
   subst hb
   unfold upB
   simp only [h0,decide_true,Bool.true_and]
   exact zS7 _
theorem zOR (v:Ty.El zR) (r i:Int) (hv:zBb v):Wp (zJG (v,r,i,())) (fun b=>b=upB v r i):=by
 unfold zJG
 dsimp only
 refine zC ((zBl v r i hv).mono (fun k hk=> ?_))
 subst hk
 refine zI (fun h=>zB ?_) (fun h=> ?_)
 ·unfold upB
  have: ¬(0≤uC v r i):=by omega
  simp [this]
 ·refine zC ((zMn v r i hv).mono (fun k hk=> ?_))
  subst hk
  have h0:0≤uC v r i:=by omega
  have hd:=hv.down
  refine zEb (P:=fun x:Int=>(x==zHj v r i)=false) (by omega) ?_ (fun hall=>zB ?_)
  ·intro i' (x:Int) hx
   simp only [zJ hx,Option.bind_some]
   refine zG (fun h=>zB (e2r (e2r ?_))) (fun h=>zB (e2l ⟨rfl,h⟩))
   unfold upB
   simp only [h0,decide_true,Bool.true_and]
   symm
   rw [Bool.eq_false_iff]
   intro hh
   have:=List.all_eq_true.1 hh x (List.mem_of_getElem? hx)
   simp [h] at this
  ·unfold upB
   simp only [h0,decide_true,Bool.true_and]
   symm
   rw [List.all_eq_true]
   intro x hx
   simp [hall x hx]
def zN2 (r:Ty.El zD) (nm:Ty.El .str):Int:=yH (fun x:Ty.El z7=>x.1==nm) r.2.2.1
theorem zGv (r:Ty.El zD) (nm:Ty.El .str) (hr:SmR r):Wp (zAP (r,nm,())) (fun k=>k=zN2 r nm):=by
 unfold zAP wJ zAW
 dsimp only
 have:=hr.i1
 refine zC (xH (p:=fun x:Ty.El z7=>x.1==nm) (by omega) ?_ (zB rfl))
 intro i x hx
 simp only [zJ hx,Option.bind_some]
 cases x.1==nm<;>rfl
theorem zHB (r:Ty.El zD) (nm:Ty.El .str) (hr:SmR r):Wp (uY (r,nm,())) (fun k=>k=zN2 r nm):=by
 unfold uY
 dsimp only
 have:=hr.i1
 refine xH (p:=fun x:Ty.El z7=>x.1==nm) (by omega) ?_ rfl
 intro i x hx
 simp only [zJ hx,Option.bind_some]
 cases x.1==nm<;>rfl
end Go.Ve

namespace Go.Ve
open Go
set_option maxRecDepth 1000000
set_option maxHeartbeats 4000000
def wR (n:Int):Nat:=min n.toNat 32
def zCO (k:Nat):BitVec 32:=BitVec.allOnes 32<<< (32-k)
theorem zP8 (n:Int):wR n≤32:=Nat.min_le_right _ _
theorem zWp {x:Int} (h0:0≤x) (h1:x<4294967296):IntKind.wrap .u32 x=x:=by
 have e1:((2:Int)^IntKind.bits .u32)=4294967296:=by decide
 simp only [IntKind.wrap,IntKind.signed,Bool.false_and,Bool.false_eq_true,if_false,e1]
 omega
theorem zQd (x:BitVec 32):IntKind.wrap .u32 (x.toNat:Int)=(x.toNat:Int):=zWp (by omega) (by have:=x.isLt;omega)
theorem zJ7 (x:BitVec 32):BitVec.ofInt 32 (x.toNat:Int)=x:=by
 rw [BitVec.ofInt_natCast,BitVec.ofNat_toNat,BitVec.setWidth_eq]
theorem zVl: ∀i,i<32→zCO i|||BitVec.ofInt 32 (IntKind.wrap .u32 (1*2^min (31-i) 32))=zCO (i+1):=by decide+kernel
theorem zVL:zCO 0=0#32:=by decide+kernel
theorem zRf: ∀k,k<33→IntKind.wrap .u32 (4294967295*2^min (32-k) 32)=((zCO k).toNat:Int):=by decide+kernel
theorem zDl (n:Int):Wp (zA5 (n,())) (fun m=>m=((zCO (wR n)).toNat:Int)):=by
 unfold zA5
 dsimp only
 refine zC ((zRj (n:=32) (by omega) (fun i (m:Int)=>m=((zCO (min i (wR n))).toNat:Int)) (by simp [zVL]) (fun i g _=>by simp) ?_ (Q:=fun m=>m=((zCO (wR n)).toNat:Int)) (fun g hg=>by
  rw [hg,Nat.min_eq_right (zP8 n)])).mono (fun m hm=>zB hm))
 intro i g hi hg
 subst hg
 refine zI (fun h=> ?_) (fun h=>zB ?_)
 ·have h:(i:Int)<n:=h
  have hk:i<wR n:=by unfold wR;omega
  refine zI (fun _=>zB ?_) (fun h'=>absurd ?_ h')
  ·have e1:min i (wR n)=i:=by omega
   have e2:min (i+1) (wR n)=i+1:=by omega
   rw [e1,e2]
   dsimp only
   rw [zF (by omega) (by omega),zJi (by omega) (by omega),show ((31:Int) - (i:Int)).toNat=31-i by omega]
   change IntKind.wrap .u32 (((BitVec.ofInt 32 ((zCO i).toNat:Int)|||BitVec.ofInt 32 (IntKind.wrap .u32 (1*2^min (31-i) 32))).toNat:Nat):Int)=_
   rw [zJ7,zVl i hi,zQd]
  ·simp only
   rw [zF (by omega) (by omega),zJi (by omega) (by omega)]
   omega
 ·have h: ¬((i:Int)<n):=h
  have hk:wR n≤i:=by unfold wR;omega
  rw [Nat.min_eq_right hk,Nat.min_eq_right (by omega)]
theorem zSP (n:Int):(if (if (32:Int)<n then (32:Int) else n)>(0:Int) then if (32:Int)<n then (32:Int) else n else (0:Int))=(wR n:Int):=by
 unfold wR
 split<;>split<;>omega
theorem zWc (n:Int):(if (0:Int)>if (32:Int)<n then (32:Int) else n then (0:Int) else if (32:Int)<n then (32:Int) else n)=(wR n:Int):=by
 unfold wR
 split<;>split<;>omega
theorem zOA (n:Int):wR ((wR n:Nat):Int)=wR n:=by
 unfold wR
 omega
theorem zGw (n:Int):zDf (n,())=some ((zCO (wR n)).toNat:Int):=by
 have hle:=zP8 n
 unfold zDf zCf
 simp only [zSP,Option.bind_some]
 rw [zF (by omega) (by omega)]
 have h0:(0:Int)≤32- ((wR n:Nat):Int):=by omega
 simp only [h0,decide_true,cond_true]
 rw [show ((32:Int) - ((wR n:Nat):Int)).toNat=32-wR n by omega]
 exact congrArg some (zRf _ (by omega))
def zC1 (a n:Int):Ty.El zH:=(((BitVec.ofInt 32 a&&&zCO (wR n)).toNat:Int),(wR n:Int),())
def zDH (p:Ty.El zH) (a:Int):Bool:=(((BitVec.ofInt 32 a&&&zCO (wR p.2.1)).toNat:Nat):Int)==p.1
theorem zRd (a:Int) (k:Nat):IntKind.wrap .u32 (((BitVec.ofInt (IntKind.bits .u32) a&&&BitVec.ofInt (IntKind.bits .u32) ((zCO k).toNat:Int)).toNat:Nat):Int)=((BitVec.ofInt 32 a&&&zCO k).toNat:Int):=by
 change IntKind.wrap .u32 (((BitVec.ofInt 32 a&&&BitVec.ofInt 32 ((zCO k).toNat:Int)).toNat:Nat):Int)=_
 rw [zJ7,zQd]
theorem zJz (a n:Int):zC6 (a,n,())=some (zC1 a n):=by
 refine wM ?_
 unfold zC6
 dsimp only
 refine zC (qJ (zGw _) ?_)
 unfold zCf
 simp only [zSP,Option.bind_some]
 refine zB ?_
 unfold zC1
 rw [zRd]
theorem xI (a n:Int):wU (a,n,())=some (zC1 a n):=by
 refine wM ?_
 unfold wU
 simp only [zWc]
 refine zC ((zDl _).mono (fun m hm=>zB ?_))
 subst hm
 unfold zC1
 rw [zOA,zRd]
theorem zIu (p:Ty.El zH) (a:Int):xD (p,a,())=some (zDH p a):=by
 refine wM ?_
 unfold xD
 dsimp only
 refine zC ((zDl _).mono (fun m hm=>zB ?_))
 subst hm
 rw [zRd]
 rfl
theorem zIw (p:Ty.El zH) (a:Int):wD (p,a,())=some (zDH p a):=by
 refine wM ?_
 unfold wD
 dsimp only
 refine zC (qJ (zGw _) (zB ?_))
 rw [zRd]
 rfl
theorem zVH (a n:Int):zDH (zC1 a n) (zC1 a n).1=true:=by
 unfold zDH zC1
 simp only [zOA,zJ7]
 rw [BitVec.and_assoc,BitVec.and_self]
 simp
theorem zEz (p q:Ty.El zH):xQ (p,q,())=some (decide (p.2.1≤q.2.1)&&zDH p q.1):=by
 refine wM ?_
 unfold xQ
 dsimp only
 refine zC (zG (fun h=>zC (qJ (zIu _ _) (zB (zB ?_)))) (fun h=>zB (zB ?_)))<;>(rw [h];rfl)
theorem zIt (p q:Ty.El zH):k6 (p,q,())=some ((decide (p.2.1≤q.2.1)&&zDH p q.1)||(decide (q.2.1≤p.2.1)&&zDH q p.1)):=by
 refine wM ?_
 unfold k6
 dsimp only
 refine zC (zC (qJ (zEz _ _) (zG (fun h=>zB (zB ?_)) (fun h=>zC (qJ (zEz _ _) (zB (zB ?_)))))))<;>(rw [h];rfl)
def zNa (p:Ty.El zH):Bool:=decide (p.2.1≥0)&&(decide (p.2.1≤32)&&(BitVec.ofInt 32 p.1&&& ~~~ zCO (wR p.2.1))==0#32)
theorem zMm (p:Ty.El zH):wP (p,())=some (zNa p):=by
 refine wM ?_
 unfold wP zNa
 dsimp only
 refine zC (zG (fun h=>zG (fun h'=>zC ((zDl _).mono (fun m hm=>zB (zB ?_)))) (fun h'=>zB (zB ?_))) (fun h=>zB (zB ?_)))
 ·subst hm
  rw [h,h']
  simp only [Bool.true_and]
  change (IntKind.wrap .u32 (((BitVec.ofInt 32 p.1&&& ~~~ BitVec.ofInt 32 ((zCO (wR p.2.1)).toNat:Int)).toNat:Nat):Int)==(0:Int))=_
  rw [zJ7,zQd,Bool.eq_iff_iff,beq_iff_eq,beq_iff_eq]
  constructor
  ·intro h
   apply BitVec.eq_of_toNat_eq
   simp only [BitVec.toNat_ofNat]
   omega
  ·intro h
   rw [h];rfl
 ·rw [h,h'];rfl
 ·rw [h];rfl
end Go.Ve

namespace Go.Ve
open Go
set_option maxRecDepth 1000000
set_option maxHeartbeats 4000000
section
variable {ρ:Type}
theorem zYo {n:Nat} {body:Int→Option (Int ⊕ (Unit ⊕ ρ))} {Q:Unit ⊕ ρ→Prop} (hl:n<4611686018427387904) (J:Nat→Prop) (h0:J 0)
  (step: ∀i,i<n→J i→Wp (body (i:Int)) (w8 (fun s'=>s'=IntKind.wrap IntKind.i64 ((i:Int)+1)∧J (i+1)) Q)) (fin:J n→Q (Sum.inl ())):
  Wp (zO (fun s:Int=>bif decide (s< (n:Int)) then body s else some (Sum.inr (Sum.inl ()))) (0:Int)) Q:=by
 refine jY (fun (s:Int)=> ∃i:Nat,s=(i:Int)∧i≤n∧J i) (fun (s:Int)=>((n:Int) -s).toNat) ⟨(0:Nat),rfl,Nat.zero_le _,h0⟩ ?_
 rintro s ⟨i,hi,hle,hj⟩
 subst hi
 refine zI ?_ ?_
 ·intro hc
  have hlt:i<n:=by omega
  refine (step i hlt hj).mono ?_
  intro o ho
  cases o with
  |inl s'=>
   obtain ⟨rfl,h2⟩:=ho
   rw [zF (by omega) (by omega)]
   exact ⟨⟨i+1,by omega,hlt,h2⟩,by omega⟩
  |inr o=>exact ho
 ·intro hc
  have:i=n:=by omega
  subst this
  exact zB (e2r (fin hj))
theorem zEX {n:Nat} {P:Nat→Prop} {body:Int→Option (Int ⊕ (Unit ⊕ ρ))} {Q:Unit ⊕ ρ→Prop} (hl:n<4611686018427387904)
  (step: ∀i,i<n→Wp (body (i:Int)) (w8 (fun s'=>s'=IntKind.wrap IntKind.i64 ((i:Int)+1)∧P i) Q)) (fin:(∀i,i<n→P i)→Q (Sum.inl ())):
  Wp (zO (fun s:Int=>bif decide (s< (n:Int)) then body s else some (Sum.inr (Sum.inl ()))) (0:Int)) Q:=by
 refine zYo hl (fun i=> ∀j,j<i→P j) (fun j hj=>by omega) ?_ fin
 intro i hi hj
 refine (step i hi).mono ?_
 intro o ho
 cases o with
 |inl s'=>
  refine ⟨ho.1,?_⟩
  intro j hj'
  rcases Nat.lt_or_ge j i with h'|h'
  ·exact hj j h'
  ·have:j=i:=by omega
   subst this
   exact ho.2
 |inr o=>exact ho
end
theorem zYn {σ ρ:Type} {m:Option (σ ⊕ ρ)} {K:σ→Option ρ} {Q:ρ→Prop} (P:σ→Prop) (h:Wp m (w8 P Q)) (hK: ∀s,P s→Wp (K s) Q):Wp (qT m K) Q:=by
 refine qD (h.mono ?_)
 intro o ho
 cases o with
 |inl s=>exact hK s ho
 |inr r=>exact ho
theorem qB (a lo hi:Int):zX (a,lo,hi,())=some (decide (lo≤a)&&decide (a≤hi)):=by
 refine wM ?_
 unfold zX
 dsimp only
 refine zC (zG (fun h=>zB (zB ?_)) (fun h=>zB (zB ?_)))<;>(rw [h];rfl)
def ovB (p q:Ty.El zH):Bool:=(decide (p.2.1≤q.2.1)&&zDH p q.1)||(decide (q.2.1≤p.2.1)&&zDH q p.1)
theorem zR3 (a n:Int):ovB (zC1 a n) (zC1 a n)=true:=by
 unfold ovB
 rw [zVH]
 simp
structure zZz (l:List (Ty.El z7)) (i:Nat) (x:Ty.El z7):Prop where
 name: ∀j y,j<i→l[j]? =some y→y.1≠x.1
 len:0≤x.2.2.1∧x.2.2.1≤32
 addr:x.2.2.1≠0→x.2.1≠0
 ls:x.2.2.2.2.2.1=true→(0≤x.2.2.2.2.2.2.1∧x.2.2.2.2.2.2.1≤255)∧1≤x.2.2.2.2.2.2.2.1∧x.2.2.2.2.2.2.2.1≤65535
 apart: ∀j y,j<i→l[j]? =some y→x.2.2.1≠0→y.2.2.1≠0→ovB (zC1 x.2.1 x.2.2.1) (zC1 y.2.1 y.2.2.1)=false
def zZy (l:List (Ty.El z7)):Prop:= ∀i x,l[i]? =some x→zZz l i x
theorem zOC (l:List (Ty.El z7)) (h0:l.length≤20):Wp (kC (l,())) (fun e=>e=0→zZy l∧l.length≤8):=by
 unfold kC
 dsimp only
 refine zI (fun _=>zB (fun h=>by cases h)) (fun h=> ?_)
 refine zAJ (by omega) (fun i=> ∀m x,m<i→l[m]? =some x→zZz l m x) (fun m x hm=>by omega) ?_ (fun hj=>zB (fun _=>⟨fun i x hx=>hj i x (List.getElem?_eq_some_iff.1 hx).1 hx,by omega⟩))
 intro i x hx hj
 have hi:=(List.getElem?_eq_some_iff.1 hx).1
 simp only [zJ hx,Option.bind_some]
 refine qD (zC ((vN _).mono (fun b _=> ?_)))
 refine zG (fun _=>zB (fun h=>by cases h)) (fun _=> ?_)
 refine qD (zEX (n:=i) (P:=fun j=> ∀y,l[j]? =some y→y.1≠x.1) (by omega) ?_ (fun hname=> ?_))
 ·intro j hjl
  have hy:l[j]? =some l[j]:=by simp
  simp only [zJ hy,Option.bind_some]
  refine zG (fun _=>zB (fun h=>by cases h)) (fun hn=>zB (e2l ⟨rfl,?_⟩))
  intro y hy'
  rw [hy] at hy'
  cases hy'
  simpa using hn
 ·refine e2l (zC ((show Wp _ (fun s:Bool=>s=false→0≤x.2.2.1∧x.2.2.1≤32) from ?_).mono (fun s hs=> ?_)))
  ·refine zC (qJ (qB _ _ _) (zG (fun _=>zB (fun h=>by cases h)) (fun h1=>zC (qJ (qB _ _ _) (zG (fun _=>zB (fun h=>by cases h)) (fun _=>zC (qJ (qB _ _ _) (zB (fun _=> ?_)))))))))
   simpa using h1
  refine zG (fun _=>zB (fun h=>by cases h)) (fun h1=> ?_)
  have hlen:=hs h1
  refine zC ((show Wp _ (fun s:Bool=>s=false→x.2.2.1≠0→x.2.1≠0) from ?_).mono (fun s hs=> ?_))
  ·refine zG (fun hz=> ?_) (fun hz=> ?_)
   ·have hz:x.2.2.1=0:=by simpa using hz
    repeat' (first
     |exact zB (fun _ hne=>absurd hz hne)
     |refine zG (fun _=> ?_) (fun _=> ?_))
   ·refine zG (fun _=>zB (fun h' _=>by simpa using h')) (fun h'=>zB (fun _ hne=> ?_))
    rw [hz] at*
    exact absurd (show x.2.2.1=0 by simpa using h') hne
  refine zG (fun _=>zB (fun h=>by cases h)) (fun h2=> ?_)
  have haddr:=hs h2
  refine zC ((show Wp _ (fun s:Bool=>s=false→x.2.2.2.2.2.1=true→(0≤x.2.2.2.2.2.2.1∧x.2.2.2.2.2.2.1≤255)∧1≤x.2.2.2.2.2.2.2.1∧x.2.2.2.2.2.2.2.1≤65535) from ?_).mono (fun s hs=> ?_))
  ·refine zG (fun hz=> ?_) (fun hz=> ?_)
   ·refine zC (qJ (qB _ _ _) (zG (fun _=>zB (fun h=>by cases h)) (fun h3=>zC (qJ (qB _ _ _) (zG (fun _=>zB (fun h=>by cases h)) (fun h4=> ?_))))))
    have h3:0≤x.2.2.2.2.2.2.1∧x.2.2.2.2.2.2.1≤255:=by simpa using h3
    have h4:1≤x.2.2.2.2.2.2.2.1∧x.2.2.2.2.2.2.2.1≤65535:=by simpa using h4
    repeat' (first
     |exact zB (fun _ _=>⟨h3,h4⟩)
     |refine zG (fun _=> ?_) (fun _=> ?_))
   ·repeat' (first
     |exact zB (fun _ ht=>by rw [hz] at ht;cases ht)
     |refine zG (fun _=> ?_) (fun _=> ?_))
  refine zG (fun _=>zB (fun h=>by cases h)) (fun h3=> ?_)
  have hls:=hs h3
  refine zEX (n:=i) (P:=fun j=> ∀y,l[j]? =some y→x.2.2.1≠0→y.2.2.1≠0→ovB (zC1 x.2.1 x.2.2.1) (zC1 y.2.1 y.2.2.1)=false) (by omega) ?_ (fun hap=> ?_)
  ·intro j hjl
   have hy:l[j]? =some l[j]:=by simp
   simp only [zJ hy,Option.bind_some]
   refine zC ((show Wp _ (fun s:Bool=>s=false→x.2.2.1≠0→l[j].2.2.1≠0→ovB (zC1 x.2.1 x.2.2.1) (zC1 l[j].2.1 l[j].2.2.1)=false) from ?_).mono (fun s hs=> ?_))
   ·refine zG (fun _=>zG (fun _=> ?_) (fun hz=>zB (fun _ _ hne=> ?_))) (fun hz=>zB (fun _ hne=> ?_))
    ·exact zC (qJ (xI _ _) (zC (qJ (xI _ _) (zC (qJ (zIt _ _) (zB (fun h _ _=>h)))))))
    ·exact absurd (show l[j].2.2.1=0 by simpa using hz) hne
    ·exact absurd (show x.2.2.1=0 by simpa using hz) hne
   ·refine zG (fun _=>zB (fun h=>by cases h)) (fun hn=>zB (e2l ⟨rfl,?_⟩))
    intro y hy'
    rw [hy] at hy'
    cases hy'
    exact hs hn
  ·refine e2l (zB (e2l ⟨rfl,?_⟩))
   intro m z hm hz
   rcases Nat.lt_or_ge m i with h'|h'
   ·exact hj m z h' hz
   ·have:m=i:=by omega
    subst this
    rw [hx] at hz
    cases hz
    exact ⟨fun j y hjl hy=>hname j hjl y hy,hlen,haddr,hls,fun j y hjl hy=>hap j hjl y hy⟩
structure zZw (r:Ty.El zD) (x:Ty.El zE5):Prop where
 pre:zNa x.1=true
 admin:1≤x.2.2.2.2.1∧x.2.2.2.2.1≤255
 tag:0≤x.2.2.2.2.2.1∧x.2.2.2.2.2.1≤65535
 one:(x.2.1≠0∧x.2.2.1= { data:= #[] } ∧x.2.2.2.1=false)∨(x.2.1=0∧x.2.2.1≠ { data:= #[] } ∧x.2.2.2.1=false)∨(x.2.1=0∧x.2.2.1= { data:= #[] } ∧x.2.2.2.1=true)
 iface:x.2.2.1≠ { data:= #[] } →0≤zN2 r x.2.2.1
def zZv (r:Ty.El zD):Prop:= ∀x,x∈r.2.2.2.2.2.2.2.1→zZw r x
theorem zSR (r:Ty.El zD) (hr:SmR r):Wp (zAa (r,())) (fun e=>e=0→zZv r):=by
 have hs6:=hr.i6
 unfold zAa
 dsimp only
 refine zI (fun _=>zB (fun h=>by cases h)) (fun h=> ?_)
 refine zEb (P:=zZw r) (by omega) ?_ (fun hj=>zB (fun _=>hj))
 intro i x hx
 have hi:=(List.getElem?_eq_some_iff.1 hx).1
 simp only [zJ hx,Option.bind_some]
 refine qD ?_
 have w1:IntKind.wrap .i64 ((0:Int)+1)=1:=by decide
 have w2:IntKind.wrap .i64 ((1:Int)+1)=2:=by decide
 have w3:IntKind.wrap .i64 ((2:Int)+1)=3:=by decide
 refine zC ((show Wp _ (fun k:Int=>k=if x.2.1≠0 then 1 else 0) from ?_).mono (fun k1 hk1=> ?_))
 ·refine zG (fun h=>zB ?_) (fun h=>zB ?_)
  ·rw [w1,if_pos (by simpa using h)]
  ·rw [if_neg (by simpa using h)]
 refine zC ((show Wp _ (fun k:Int=>k=k1+if x.2.2.1≠ { data:= #[] } then 1 else 0) from ?_).mono (fun k2 hk2=> ?_))
 ·refine zG (fun h=>zB ?_) (fun h=>zB ?_)
  ·rw [if_pos (by simpa using h)]
   split at hk1<;>(subst hk1;first|exact w1|exact w2)
  ·rw [if_neg (by simpa using h)];omega
 refine zC ((show Wp _ (fun k:Int=>k=k2+if x.2.2.2.1=true then 1 else 0) from ?_).mono (fun k3 hk3=> ?_))
 ·refine zG (fun h=>zB ?_) (fun h=>zB ?_)
  ·have h:x.2.2.2.1=true:=h
   rw [if_pos h]
   split at hk1<;>split at hk2<;>(subst hk1;subst hk2;first|exact w1|exact w2|exact w3)
  ·have h:x.2.2.2.1=false:=h
   rw [if_neg (by rw [h];simp)];omega
 refine zC ((show Wp _ (fun s:Bool=>s=false→zNa x.1=true∧k3=1∧(1≤x.2.2.2.2.1∧x.2.2.2.2.1≤255)∧0≤x.2.2.2.2.2.1∧x.2.2.2.2.2.1≤65535) from ?_).mono (fun s hs=> ?_))
 ·refine zC (qJ (zMm _) (zG (fun _=>zB (fun h=>by cases h)) (fun h1=>zG (fun _=>zB (fun h=>by cases h)) (fun h2=> ?_))))
  have h1:zNa x.1=true:=by simpa using h1
  have h2:k3=1:=by simpa using h2
  refine zG (fun _=>zC ((zB4 r x.2.1 hr).mono (fun k _=>zI (fun _=>zB (fun h=>by cases h)) (fun _=> ?_)))) (fun _=> ?_)
  all_goals
   refine zC (qJ (qB _ _ _) (zG (fun _=>zB (fun h=>by cases h)) (fun h3=>zC (qJ (qB _ _ _) (zB (fun h4=>⟨h1,h2,?_,?_⟩))))))
   ·simpa using h3
   ·simpa using h4
 refine zG (fun _=>zB (fun h=>by cases h)) (fun h1=> ?_)
 obtain ⟨g1,g2,g3,g4⟩:=hs h1
 refine zYn (fun _:Unit=>x.2.2.1≠ { data:= #[] } →0≤zN2 r x.2.2.1) ?_ (fun _ hif=> ?_)
 ·refine zG (fun hne=> ?_) (fun hne=>zB (e2l (fun h=>absurd h (by simpa using hne))))
  refine zC ((zHB r _ hr).mono (fun k hk=> ?_))
  subst hk
  refine zI (fun _=>zB (fun h=>by cases h)) (fun hk=> ?_)
  have hk0:0≤zN2 r x.2.2.1:=Int.not_lt.1 hk
  obtain ⟨y,hy,_⟩:=zHp (p:=fun x':Ty.El z7=>x'.1==x.2.2.1) (xs:=r.2.2.1) hk0
  refine zC (qJ (zYY hk0 hy) (zG (fun _=>zB (fun h=>by cases h)) (fun _=>zB (e2l (fun _=>hk0)))))
 ·refine zEX (n:=i) (P:=fun _=>True) (by omega) ?_ (fun _=>e2l (zB (e2l ⟨rfl,g1,g3,g4,?_,hif⟩)))
  ·intro j hjl
   have hy:r.2.2.2.2.2.2.2.1[j]? =some r.2.2.2.2.2.2.2.1[j]:=by simp
   simp only [zJ hy,Option.bind_some]
   refine zC ((show Wp _ (fun _:Bool=>True) from ?_).mono (fun s _=>zG (fun _=>zB (fun h=>by cases h)) (fun _=>zB (e2l ⟨rfl,trivial⟩))))
   exact zG (fun _=>zB trivial) (fun _=>zB trivial)
  ·rw [hk3,hk2,hk1] at g2
   by_cases c1:x.2.1=0<;>by_cases c2:x.2.2.1= { data:= #[] } <;>cases c3:x.2.2.2.1<;>simp [c1,c2,c3] at g2 ⊢
end Go.Ve

namespace Go.Ve
open Go
set_option maxRecDepth 1000000
set_option maxHeartbeats 4000000
def zYa (r:Ty.El zD) (a:Int):Int:=yH (fun x:Ty.El z7=>x.2.2.1 !=0&&x.2.1==a) r.2.2.1
theorem zJw (r:Ty.El zD) (a:Int) (hr:SmR r):Wp (yP (r,a,())) (fun k=>k=zYa r a):=by
 unfold yP
 dsimp only
 have:=hr.i1
 refine xH (p:=fun x:Ty.El z7=>x.2.2.1 !=0&&x.2.1==a) (by omega) ?_ rfl
 intro i x hx
 simp only [zJ hx,Option.bind_some]
 cases x.2.2.1 !=0<;>cases x.2.1==a<;>rfl
structure zYd (r:Ty.El zD):Prop where
 asn:0≤r.2.1∧r.2.1≤65535
 ifs:zZy r.2.2.1
 sts:zZv r
 lists:uV (r.2.2.2.1,())=some 0
 maps:vZ (r,())=some 0
 acls:uX (r.2.2.2.2.2.1,())=some 0
 nat:kH (r,())=some 0
 filters:zBu (r,())=some 0
 ls:xP (r,())=some 0
 dv:zAy (r,())=some 0
 pv:vA (r,())=some 0
 ifl:r.2.2.1.length≤8
theorem zMS (r:Ty.El zD) (hr:SmR r):Wp (vR (r,())) (fun e=>e=0→zYd r):=by
 have hr0:=hr
 obtain ⟨i1,i2,i3,i4,i5,i6,i7,i8,i9,i10,i11,i12,i13,i14,n1,n2,n3⟩:=hr0
 unfold vR
 dsimp only
 refine zC ((vN _).mono (fun b _=> ?_))
 refine zG (fun _=>zB (fun h=>by cases h)) (fun _=> ?_)
 refine zC (qJ (qB _ _ _) (zG (fun _=>zB (fun h=>by cases h)) (fun has=> ?_)))
 have has:0≤r.2.1∧r.2.1≤65535:=by simpa using has
 refine zC ((zOC _ i1).mono (fun y12 h12=> ?_))
 refine zAv ((zCn _ i2 n1).mono (fun _ _=>trivial)) (fun y13 h13=> ?_)
 refine zAv ((zDg _ hr).mono (fun _ _=>trivial)) (fun y14 h14=> ?_)
 refine zAv ((zCo _ i4 n3).mono (fun _ _=>trivial)) (fun y15 h15=> ?_)
 refine zAv ((zBT _ hr).mono (fun _ _=>trivial)) (fun y16 h16=> ?_)
 refine zAv ((zEu _ hr).mono (fun _ _=>trivial)) (fun y17 h17=> ?_)
 refine zC ((zSR _ hr).mono (fun y18 h18=> ?_))
 refine zAv ((zDh _ hr).mono (fun _ _=>trivial)) (fun y19 h19=> ?_)
 refine zAv ((zDU _ hr).mono (fun _ _=>trivial)) (fun y20 h20=> ?_)
 refine zAv ((zCL _ hr).mono (fun _ _=>trivial)) (fun y21 h21=> ?_)
 refine zEb (P:=fun x:Int=>x=0) (xs:=[y12,y13,y14,y15,y16,y17,y18,y19,y20,y21]) (by simp) ?_ (fun hall=>zB (fun _=> ?_))
 ·intro i x hx
  simp only [zJ hx,Option.bind_some]
  refine zG (fun hne=>zB (fun h=> ?_)) (fun h=>zB (e2l ⟨rfl,by simpa using h⟩))
  have h:x=0:=h
  rw [h] at hne
  cases hne
 ·have e12:=hall y12 (by simp)
  have e13:=hall y13 (by simp)
  have e14:=hall y14 (by simp)
  have e15:=hall y15 (by simp)
  have e16:=hall y16 (by simp)
  have e17:=hall y17 (by simp)
  have e18:=hall y18 (by simp)
  have e19:=hall y19 (by simp)
  have e20:=hall y20 (by simp)
  have e21:=hall y21 (by simp)
  exact ⟨has,(h12 e12).1,h18 e18,e13▸h13,e14▸h14,e15▸h15,e16▸h16,e17▸h17,e19▸h19,e20▸h20,e21▸h21,(h12 e12).2⟩
structure zZx (n:Ty.El zV):Prop where
 len:n.1.length≤8
 rt: ∀r,r∈n.1→zYd r
 name: ∀ (i j:Nat) r q,j<i→n.1[i]? =some r→n.1[j]? =some q→q.1≠r.1
 addr: ∀ (i j:Nat) r q,i≠j→n.1[i]? =some r→n.1[j]? =some q→ ∀x y,x∈r.2.2.1→y∈q.2.2.1→x.2.2.1≠0→y.2.2.1≠0→x.2.1≠y.2.1
theorem zWd (n:Ty.El zV) (hs: ∀y,y∈n.1→SmR y):Wp (kZ (n,())) (fun e=>e=0→zZx n):=by
 unfold kZ
 dsimp only
 refine zI (fun _=>zB (fun h=>by cases h)) (fun hl=> ?_)
 refine zAJ (by omega) (fun i=> ∀m r,m<i→n.1[m]? =some r→zYd r∧(∀j q,j<m→n.1[j]? =some q→q.1≠r.1∧ ∀x y,x∈r.2.2.1→y∈q.2.2.1→x.2.2.1≠0→y.2.2.1≠0→x.2.1≠y.2.1)) (fun m x hm=>by omega) ?_ (fun hj=>zB (fun _=> ?_))
 ·intro i r hr hj
  have hi:=(List.getElem?_eq_some_iff.1 hr).1
  have hsm:=hs r (List.mem_of_getElem? hr)
  have hs1:=hsm.i1
  simp only [zJ hr,Option.bind_some]
  refine qD (zC ((zMS r hsm).mono (fun e he=> ?_)))
  refine zG (fun hne=>zB (fun h=> ?_)) (fun h=> ?_)
  ·have h:e=0:=h
   rw [h] at hne
   cases hne
  have hrt:=he (by simpa using h)
  refine qD (zEX (n:=i) (P:=fun j=> ∀q,n.1[j]? =some q→q.1≠r.1) (by omega) ?_ (fun hname=> ?_))
  ·intro j hjl
   have hq:n.1[j]? =some n.1[j]:=by simp
   simp only [zJ hq,Option.bind_some]
   refine zG (fun _=>zB (fun h=>by cases h)) (fun hn=>zB (e2l ⟨rfl,?_⟩))
   intro q hq'
   rw [hq] at hq'
   cases hq'
   simpa using hn
  refine e2l (zQe (P:=fun x:Ty.El z7=> ∀j q,j<i→n.1[j]? =some q→ ∀y,y∈q.2.2.1→x.2.2.1≠0→y.2.2.1≠0→x.2.1≠y.2.1) (by omega) ?_ (fun hall=> ?_))
  ·intro k x hx
   simp only [zJ hx,Option.bind_some]
   refine qD (zEX (n:=i) (P:=fun j=> ∀q,n.1[j]? =some q→ ∀y,y∈q.2.2.1→x.2.2.1≠0→y.2.2.1≠0→x.2.1≠y.2.1) (by omega) ?_ (fun hall=>e2l (zB (e2l ⟨rfl,fun j q hjl hq=>hall j hjl q hq⟩))))
   intro j hjl
   have hq:n.1[j]? =some n.1[j]:=by simp
   simp only [zJ hq,Option.bind_some]
   refine zC ((show Wp _ (fun s:Bool=>s=false→ ∀y,y∈n.1[j].2.2.1→x.2.2.1≠0→y.2.2.1≠0→x.2.1≠y.2.1) from ?_).mono (fun s hs'=> ?_))
   ·refine zG (fun _=>zC ((zJw _ _ (hs _ (List.getElem_mem _))).mono (fun k hk=>zB ?_))) (fun hz=>zB (fun _ y _ hne=>absurd (show x.2.2.1=0 by simpa using hz) hne))
    subst hk
    intro hlt y hy _ hyz hxy
    have hlt: ¬(zYa n.1[j] x.2.1≥0):=of_decide_eq_false hlt
    apply hlt
    unfold zYa
    rw [zD7]
    refine List.any_eq_true.2 ⟨y,hy,?_⟩
    have h1:(y.2.2.1 !=0)=true:=by simpa using hyz
    have h2:(y.2.1==x.2.1)=true:=beq_iff_eq.2 hxy.symm
    rw [h1,h2];rfl
   ·refine zG (fun _=>zB ⟨(fun u h=>by cases h),(fun h=>by cases h)⟩) (fun hn=>zB (e2l ⟨rfl,?_⟩))
    intro q hq'
    rw [hq] at hq'
    cases hq'
    exact hs' hn
  ·refine e2l (zB (e2l ⟨rfl,?_⟩))
   intro m z hm hz
   rcases Nat.lt_or_ge m i with h'|h'
   ·exact hj m z h' hz
   ·have:m=i:=by omega
    subst this
    rw [hr] at hz
    cases hz
    exact ⟨hrt,fun j q hjl hq=>⟨hname j hjl q hq,fun x y hx hy=>hall x hx j q hjl hq y hy⟩⟩
 ·have hall: ∀m r,n.1[m]? =some r→_:=fun m r hr=>hj m r (List.getElem?_eq_some_iff.1 hr).1 hr
  refine ⟨by omega,?_,?_,?_⟩
  ·intro r hr
   obtain ⟨m,hm,rfl⟩:=List.getElem_of_mem hr
   exact (hall m _ (by simp [hm])).1
  ·intro i j r q hji hr hq
   exact ((hall i r hr).2 j q hji hq).1
  ·intro i j r q hne hr hq x y hx hy hx0 hy0
   rcases Nat.lt_or_ge j i with h'|h'
   ·exact ((hall i r hr).2 j q h' hq).2 x y hx hy hx0 hy0
   ·exact fun h=>((hall j q hq).2 i r (by omega) hr).2 y x hy hx hy0 hx0 h.symm
theorem zTI {n:Ty.El zV} {d:List Int} {v:Ty.El zR} (h:zCg n d v):zZx n:=by
 obtain ⟨e,h1,h2⟩:=zWd n h.sm
 have h3:=h.chk
 rw [h1] at h3
 exact h2 (Option.some.inj h3)
end Go.Ve

namespace Go.Ve
open Go
set_option maxRecDepth 1000000
set_option maxHeartbeats 4000000
def rlt (x y:Ty.El zA):Prop:=plt x.1 y.1
theorem zUS:Ord rlt where
 asym:=fun x y h=>zHh.asym _ _ h
 tr:=fun x y z h1 h2=>zHh.tr _ _ _ h1 h2
end Go.Ve

namespace Go.Ve
open Go
set_option maxRecDepth 1000000
set_option maxHeartbeats 4000000
noncomputable def act (v:Ty.El zR) (t:List (Ty.El zA)) (r:Int) (rt:Ty.El zD) (x:Ty.El zE5):Option (Ty.El zA):=
 bif x.2.1 !=(0:Int) then match zGz t x.1 x.2.1 with
  |none=>none
  |some y=>bif y.2.2.2.2.2.2.2.2.2.2.2.2.1 then none else some (x.1,(2:Int),(0:Int),x.2.2.2.2.1,(0:Int),(0:Int),x.2.2.2.2.2.1,(0:Int),[],(0:Int),x.2.1,[],false,())
 else bif x.2.2.1 != { data:= #[] } then
  bif upB v r (zN2 rt x.2.2.1) then some (x.1,(2:Int),(0:Int),x.2.2.2.2.1,(0:Int),(0:Int),x.2.2.2.2.2.1,(0:Int),[],(0:Int),(0:Int),[(zN2 rt x.2.2.1,(0:Int),())],false,()) else none
 else bif x.2.2.2.1 then some (x.1,(2:Int),(0:Int),x.2.2.2.2.1,(0:Int),(0:Int),x.2.2.2.2.2.1,(0:Int),[],(0:Int),(0:Int),[],true,()) else none
theorem w5 {α β:Type} {f:α→Option β} {xs:List α} {i:Nat} {x:α} (h:xs[i]? =some x):(xs.take (i+1)).filterMap f=(xs.take i).filterMap f++(f x).toList:=by
 rw [List.take_add_one,h,Option.toList_some,List.filterMap_append,List.filterMap_cons,List.filterMap_nil]
 cases f x<;>rfl
theorem zIr (v:Ty.El zR) (t:List (Ty.El zA)) (r:Nat) (rt:Ty.El zD) (hv:zBb v) (hr:v.1.1[r]? =some rt) (ht:t.length≤1048576):
  Wp (zCj (v,t,(r:Int),())) (fun out=>out=rt.2.2.2.2.2.2.2.1.filterMap (act v t r rt)):=by
 unfold zCj
 dsimp only
 have hrl:=(List.getElem?_eq_some_iff.1 hr).1
 have hsm:=hv.sm rt (List.mem_of_getElem? hr)
 have hst:=hsm.i6
 have hr0: ¬((r:Int)<0):=by omega
 have hr1: ¬((r:Int)≥(List.length v.1.1:Int)):=by omega
 refine zC (zI (fun h=>absurd h hr0) (fun h=>zB ?_))
 refine zI (fun h=>absurd h hr1) (fun h=> ?_)
 simp only [zJ hr,Option.bind_some]
 refine zC ((vI (xs:=rt.2.2.2.2.2.2.2.1) (by omega) (fun i (g:List (Ty.El zA))=>g=(rt.2.2.2.2.2.2.2.1.take i).filterMap (act v t r rt)) rfl ?_ (Q:=fun g=>g=rt.2.2.2.2.2.2.2.1.filterMap (act v t r rt)) (fun g hg=>by rw [hg,List.take_length])).mono (fun g hg=>zB hg))
 intro i x g hx hg
 have hi:=(List.getElem?_eq_some_iff.1 hx).1
 have hgl:g.length≤i:=by
  rw [hg]
  refine Nat.le_trans (List.length_filterMap_le _ _) ?_
  rw [List.length_take]
  omega
 simp only [zJ hx,Option.bind_some]
 rw [w5 hx, ←hg]
 have skip:act v t r rt x=none→(w8 (fun s:List (Ty.El zA)×Ty.El zA=>Wp (Option.bind (app (136:Nat) s.1 [s.2]) fun y68=>some y68) (fun g'=>g'=g++(act v t r rt x).toList)) (fun g'=>g'=g++(act v t r rt x).toList)) (Sum.inr g):=by
  intro h
  rw [h]
  exact e2r (List.append_nil g).symm
 have take: ∀y,act v t r rt x=some y→(w8 (fun s:List (Ty.El zA)×Ty.El zA=>Wp (Option.bind (app (136:Nat) s.1 [s.2]) fun y68=>some y68) (fun g'=>g'=g++(act v t r rt x).toList)) (fun g'=>g'=g++(act v t r rt x).toList)) (Sum.inl (g,y)):=by
  intro y h
  rw [h]
  refine e2l (zC (wN (by simp only [List.length_singleton];omega) (zB rfl)))
 refine qD (zG (fun h1=> ?_) (fun h1=>zG (fun h2=> ?_) (fun h2=>zG (fun h3=> ?_) (fun h3=> ?_))))
 ·refine zC ((zGt t x.1 x.2.1 (by omega)).mono (fun k hk=> ?_))
  rcases hk with ⟨hk,hn⟩|⟨m,y,rfl,hm,hy⟩
  ·refine zC (zI (fun _=>zB (zB (skip ?_))) (fun h=>absurd hk h))
   unfold act
   rw [h1,cond_true,hn]
  ·refine zC (zI (fun h=>absurd h (by omega)) (fun _=> ?_))
   simp only [zJ hm,Option.bind_some]
   refine zB (zG (fun h=>zB (skip ?_)) (fun h=>zB (take _ ?_)))
   ·unfold act
    rw [h1,cond_true,hy]
    simp only
    have h:y.2.2.2.2.2.2.2.2.2.2.2.2.1=true:=h
    rw [h];rfl
   ·unfold act
    rw [h1,cond_true,hy]
    simp only
    have h:y.2.2.2.2.2.2.2.2.2.2.2.2.1=false:=h
    rw [h];rfl
 ·refine zC ((zGv rt x.2.2.1 hsm).mono (fun k hk=> ?_))
  subst hk
  refine zC ((zE9 v r _ hv).mono (fun b hb=> ?_))
  subst hb
  refine zG (fun h=>zB (skip ?_)) (fun h=>zB (take _ ?_))
  ·unfold act
   rw [h1,cond_false,h2,cond_true]
   simp only [Bool.not_eq_true'] at h
   rw [h];rfl
  ·unfold act
   rw [h1,cond_false,h2,cond_true]
   simp only [Bool.not_eq_false'] at h
   rw [h];rfl
 ·refine zB (take _ ?_)
  unfold act
  rw [h1,cond_false,h2,cond_false,h3];rfl
 ·refine zB (skip ?_)
  unfold act
  rw [h1,cond_false,h2,cond_false,h3];rfl
end Go.Ve



namespace Go.Ve
open Go
theorem zL1 {α:Type} {p:α→Bool} {xs:List α} {i:Nat} {x:α} (h:xs[i]? =some x):(xs.take (i+1)).filter p=(xs.take i).filter p++(if p x then [x] else []):=by
 obtain ⟨hi,he⟩:=List.getElem?_eq_some_iff.1 h
 rw [List.take_add_one,h,List.filter_append]
 simp only [Option.toList_some,List.filter_cons,List.filter_nil]
theorem zFR {α:Type} {p:α→Bool} {xs:List α} (i:Nat):((xs.take i).filter p).length≤xs.length:=
 Nat.le_trans (List.length_filter_le _ _) (List.length_take_le' _ _)
def xY (v:Ty.El zR) (r i:Int):List (Ty.El zL):=match v.2.1.1[(uC v r i).toNat]? with
 |some d=>d.2.2.1
 |none=>[]
def zGb (v:Ty.El zR) (r i:Int) (p:Ty.El zL→Bool):List (Ty.El zL):=bif upB v r i then (xY v r i).filter p else []
theorem zKB {v:Ty.El zR} {r i:Int} (h:upB v r i=true): ∃d,v.2.1.1[(uC v r i).toNat]? =some d∧0≤uC v r i∧xY v r i=d.2.2.1:=by
 unfold upB at h
 simp only [Bool.and_eq_true,decide_eq_true_eq] at h
 obtain ⟨d,hd,_⟩:=zHp (p:=fun d:Ty.El uH=>d.2.2.1.any (zGe (r,i,()))) (xs:=v.2.1.1) h.1
 refine ⟨d,hd,h.1,?_⟩
 unfold xY
 have hd':v.2.1.1[(uC v r i).toNat]? =some d:=hd
 rw [hd']
theorem zOn {v:Ty.El zR} (hv:zBb v) (r i:Int):(xY v r i).length≤360:=by
 unfold xY
 split
 ·rename_i d hd
  exact hv.ends d (List.mem_of_getElem? hd)
 ·exact Nat.zero_le _
theorem zGu (v:Ty.El zR) (r i:Int) (hv:zBb v):Wp (zAN (v,r,i,())) (fun l=>l=zGb v r i (fun e=>e.1 !=r)):=by
 unfold zAN zGb
 dsimp only
 refine zC ((zOR v r i hv).mono (fun b hb=> ?_))
 subst hb
 refine zG (fun h=>zB ?_) (fun h=> ?_)
 ·have h:upB v r i=false:=by simpa using h
  rw [h];rfl
 ·have h:upB v r i=true:=by simpa using h
  rw [h]
  obtain ⟨d,hd,h0,he⟩:=zKB h
  have hl:d.2.2.1.length≤360:=by rw [←he];exact zOn hv r i
  refine zC ((zBl v r i hv).mono (fun k hk=> ?_))
  subst hk
  simp only [jR hd h0,Option.bind_some]
  refine zC (vI (xs:=d.2.2.1) (by omega) (fun j (g:List (Ty.El zL))=>g=(d.2.2.1.take j).filter (fun e=>e.1 !=r)) (by simp) ?_ (fun g hg=>zB ?_))
  ·intro j x g hx hg
   have hgl:g.length≤360:=by rw [hg];exact Nat.le_trans (zFR j) hl
   simp only [zJ hx,Option.bind_some]
   rw [zL1 hx, ←hg]
   refine zG (fun h=>zC (wN (by simp only [List.length_singleton];omega) (zB ?_))) (fun h=>zB ?_)
   ·rw [if_pos h]
   ·rw [if_neg (by rw [h];decide),List.append_nil]
  ·rw [hg,List.take_length,he];rfl
theorem zHz (v:Ty.El zR) (r i:Int) (hv:zBb v):Wp (zBi (v,r,i,())) (fun l=>l=zGb v r i (fun e=>e.1 !=r||e.2.1 !=i)):=by
 unfold zBi zGb
 dsimp only
 refine zC ((zE9 v r i hv).mono (fun b hb=> ?_))
 subst hb
 refine zG (fun h=>zB ?_) (fun h=> ?_)
 ·have h:upB v r i=false:=by simpa using h
  rw [h];rfl
 ·have h:upB v r i=true:=by simpa using h
  rw [h]
  obtain ⟨d,hd,h0,he⟩:=zKB h
  have hl:d.2.2.1.length≤360:=by rw [←he];exact zOn hv r i
  refine zC (zC ((zB7 v r i hv).mono (fun k hk=> ?_)))
  subst hk
  simp only [jR hd h0,Option.bind_some]
  refine vI (xs:=d.2.2.1) (by omega) (fun j (g:List (Ty.El zL))=>g=(d.2.2.1.take j).filter (fun e=>e.1 !=r||e.2.1 !=i)) (by simp) ?_ (fun g hg=>zB ?_)
  ·intro j x g hx hg
   have hgl:g.length≤360:=by rw [hg];exact Nat.le_trans (zFR j) hl
   simp only [zJ hx,Option.bind_some]
   rw [zL1 hx, ←hg]
   refine zC ((show Wp _ (fun s:Bool×List (Ty.El zL)=>s.1=(x.1 !=r||x.2.1 !=i)∧s.2=g) from ?_).mono (fun s hs=> ?_))
   ·refine zG (fun h=>zB ⟨?_,rfl⟩) (fun h=>zB ⟨?_,rfl⟩)
    ·rw [h];rfl
    ·rw [h];rfl
   ·obtain ⟨s1,s2⟩:=s
    obtain ⟨h1,h2⟩:=hs
    simp only at h1 h2
    subst h2
    refine zG (fun h=>zC (wN (by simp only [List.length_singleton];omega) (zB ?_))) (fun h=>zB ?_)
    ·have h:s1=true:=h
     rw [←h1,if_pos h]
    ·have h:s1=false:=h
     rw [←h1,if_neg (by rw [h];decide),List.append_nil]
  ·rw [hg,List.take_length,he];rfl
end Go.Ve

namespace Go.Ve
open Go
theorem zXS {n:Ty.El zV} {d:List Int} {v:Ty.El zR} (hv:zCg n d v) {r i:Int} (h:upB v r i=true): ∃dm:Ty.El uH,zKN n dm.1 dm.2.1 (r,i,())∧(∀e,e∈xY v r i→zKN n dm.1 dm.2.1 e):=by
 have h0:=h
 unfold upB at h0
 simp only [Bool.and_eq_true,decide_eq_true_eq] at h0
 obtain ⟨dm,h1,h2⟩:=zHp (p:=fun d:Ty.El uH=>d.2.2.1.any (zGe (r,i,()))) (xs:=v.2.1.1) h0.1
 obtain ⟨e,he,h3⟩:=List.any_eq_true.1 h2
 have h4:=zSE.1 h3
 subst h4
 have hall:=(hv.topo.ends dm (List.mem_of_getElem? h1)).2
 refine ⟨dm,hall _ he,?_⟩
 intro e' he'
 obtain ⟨d',hd',_,hee⟩:=zKB h
 have h1':v.2.1.1[(uC v r i).toNat]? =some dm:=h1
 rw [hd'] at h1'
 cases h1'
 rw [hee] at he'
 exact hall e' he'
theorem zV6 {n:Ty.El zV} {d:List Int} {v:Ty.El zR} (hv:zCg n d v) {r i:Int} (h:upB v r i=true) {e:Ty.El zL} (he:e∈xY v r i) (hr:e.1=r):e.2.1=i:=by
 obtain ⟨dm,⟨a0,a1,rt,x,a2,a3,a4,_,a5,_⟩,hall⟩:=zXS hv h
 obtain ⟨b0,b1,rt',y,b2,b3,b4,_,b5,_⟩:=hall e he
 have a0:(0:Int)≤r:=a0
 have a1:(0:Int)≤i:=a1
 have a2:n.1[r.toNat]? =some rt:=a2
 have a3:rt.2.2.1[i.toNat]? =some x:=a3
 rw [hr,a2] at b2
 cases b2
 have hok:=(zTI hv).rt rt (List.mem_of_getElem? a2)
 have c1:some (zC1 x.2.1 x.2.2.1)=some dm.1:=(xI x.2.1 x.2.2.1).symm.trans a5
 have c2:some (zC1 y.2.1 y.2.2.1)=some dm.1:=(xI y.2.1 y.2.2.1).symm.trans b5
 have hn:zC1 x.2.1 x.2.2.1=zC1 y.2.1 y.2.2.1:=Option.some.inj (c1.trans c2.symm)
 have b1:(0:Int)≤e.2.1:=b1
 rcases Nat.lt_trichotomy i.toNat e.2.1.toNat with hlt|heq|hgt
 ·have:=(hok.ifs _ y b3).apart _ x hlt a3 b4 a4
  rw [hn,zR3] at this
  cases this
 ·exact (show ∀ (p q:Int),0≤p→0≤q→p.toNat=q.toNat→q=p from fun p q h1 h2 h3=>by omega) i e.2.1 a1 b1 heq
 ·have:=(hok.ifs _ x a3).apart _ y hgt b3 a4 b4
  rw [hn,zR3] at this
  cases this
theorem zXd {n:Ty.El zV} {d:List Int} {v:Ty.El zR} (hv:zCg n d v) (r i:Int):zGb v r i (fun e=>e.1 !=r||e.2.1 !=i)=zGb v r i (fun e=>e.1 !=r):=by
 unfold zGb
 cases h:upB v r i with
 |false=>rfl
 |true=>
  show (xY v r i).filter _=(xY v r i).filter _
  refine List.filter_congr (fun e he=> ?_)
  cases hb:(e.1 !=r) with
  |true=>rfl
  |false=>
   have hr:e.1=r:=by simpa using hb
   have:=zV6 hv h he hr
   simp [this]
end Go.Ve

namespace Go.Ve
open Go
def prB (x:Ty.El zCF) (p:Ty.El zH):Bool:=(decide (x.2.1.2.1≤p.2.1)&&zDH x.2.1 p.1)&&(decide (x.2.2.1≤p.2.1)&&decide (p.2.1≤x.2.2.2.1))
theorem zEA (p q:Ty.El zH):zBa (p,q,())=some (decide (p.2.1≤q.2.1)&&zDH p q.1):=by
 unfold zBa
 dsimp only
 rw [show wD (p,q.1,())=some (zDH p q.1) from zIw p q.1]
 cases decide (p.2.1≤q.2.1)<;>rfl
theorem zHF (x:Ty.El zCF) (p:Ty.El zH):xS (x,p,())=some (prB x p):=by
 unfold xS prB
 dsimp only
 rw [show zBa (x.2.1,p,())=some (decide (x.2.1.2.1≤p.2.1)&&zDH x.2.1 p.1) from zEA x.2.1 p]
 simp only [Option.bind_some]
 cases (decide (x.2.1.2.1≤p.2.1)&&zDH x.2.1 p.1)<;>cases decide (x.2.2.1≤p.2.1)<;>rfl
theorem zJy (l:Ty.El wW) (p:Ty.El zH) (hl:l.2.1.length≤20):Wp (zC0 (l,p,())) (fun k=>k=yH (fun x=>prB x p) l.2.1):=by
 unfold zC0
 dsimp only
 refine xH (p:=fun x:Ty.El zCF=>prB x p) (by omega) ?_ rfl
 intro i x hx
 simp only [zJ hx,Option.bind_some]
 rw [show xS (x,p,())=some (prB x p) from zHF x p]
 cases prB x p<;>rfl
def zLV (r:Ty.El zD) (nm:Ty.El .str):Int:=yH (fun x:Ty.El wW=>x.1==nm) r.2.2.2.1
theorem zF6 (r:Ty.El zD) (nm:Ty.El .str) (hr:SmR r):Wp (zAd (r,nm,())) (fun k=>k=zLV r nm):=by
 unfold zAd wO zAt
 dsimp only
 have:=hr.i2
 refine zC (xH (p:=fun x:Ty.El wW=>x.1==nm) (by omega) ?_ (zB rfl))
 intro i x hx
 simp only [zJ hx,Option.bind_some]
 cases x.1==nm<;>rfl
def zUY (r:Ty.El zD) (nm:Ty.El .str) (p:Ty.El zH):Bool:=
 bif nm==({ data:= #[] } :ByteArray) then true else
 bif decide (zLV r nm<0) then false else
 match r.2.2.2.1[(zLV r nm).toNat]? with
 |some l=>bif decide (yH (fun x=>prB x p) l.2.1≥0) then (match l.2.1[(yH (fun x=>prB x p) l.2.1).toNat]? with
  |some z=>z.1
  |none=>false) else false
 |none=>false
theorem zHE (r:Ty.El zD) (nm:Ty.El .str) (p:Ty.El zH) (hr:SmR r):Wp (zBz (r,nm,p,())) (fun b=>b=zUY r nm p):=by
 unfold zBz zUY
 dsimp only
 refine zG (fun h=>zB (by rw [h];rfl)) (fun h=> ?_)
 rw [h]
 refine zC ((zF6 r nm hr).mono (fun k hk=> ?_))
 subst hk
 refine zI (fun h1=>zB ?_) (fun h1=> ?_)
 ·have h1:zLV r nm<0:=h1
  simp [h1]
 ·have h1: ¬zLV r nm<0:=h1
  obtain ⟨l,hl,_⟩:=zHp (p:=fun x:Ty.El wW=>x.1==nm) (xs:=r.2.2.2.1) (show 0≤zLV r nm by omega)
  have hl:r.2.2.2.1[(zLV r nm).toNat]? =some l:=hl
  simp only [jR hl (show 0≤zLV r nm by omega),Option.bind_some]
  refine zC ((zJy l p (hr.n1 l (List.mem_of_getElem? hl))).mono (fun k hk=> ?_))
  subst hk
  rw [hl]
  simp only [decide_eq_false h1,cond_false]
  refine zC (zI (fun h2=> ?_) (fun h2=>zB (zB ?_)))
  ·have h2:yH (fun x=>prB x p) l.2.1≥0:=h2
   obtain ⟨z,hz,_⟩:=zHp h2
   simp only [jR hz h2,Option.bind_some]
   refine zB (zB ?_)
   simp only [hz,decide_eq_true h2,cond_true]
  ·have h2: ¬yH (fun x=>prB x p) l.2.1≥0:=h2
   simp only [decide_eq_false h2,cond_false]
end Go.Ve



namespace Go.Ve
open Go
theorem w4 {α β:Type} {f:α→List β} {k:Nat} : ∀ {xs:List α},(∀x,x∈xs→(f x).length≤k)→(xs.flatMap f).length≤xs.length*k
 |[],_=>by simp
 |x::xs,h=>by
  have h1:=h x (by simp)
  have h2:=w4 (xs:=xs) (fun y hy=>h y (List.mem_cons_of_mem _ hy))
  simp only [List.flatMap_cons,List.length_append,List.length_cons,Nat.succ_mul]
  omega
theorem zKk {α β:Type} {f:α→List β} {xs:List α} {i:Nat} {x:α} (h:xs[i]? =some x):(xs.take (i+1)).flatMap f=(xs.take i).flatMap f++f x:=by
 rw [List.take_add_one,h,List.flatMap_append]
 simp
theorem zNR {v:Ty.El zR} (hv:zBb v) (r i:Int) (p:Ty.El zL→Bool):(zGb v r i p).length≤360:=by
 unfold zGb
 cases upB v r i
 ·exact Nat.zero_le _
 ·exact Nat.le_trans (List.length_filter_le _ _) (zOn hv r i)
end Go.Ve





namespace Go.Ve
open Go
theorem zOS (v:Ty.El zR) (e:Ty.El zL) (q:Ty.El zD) (y:Ty.El z7) (h0:(0:Int)≤e.1) (h1:(0:Int)≤e.2.1) (hq:v.1.1[Int.toNat e.1]? =some q) (hy:q.2.2.1[Int.toNat e.2.1]? =some y):Wp (zJH (v,e,())) (fun x=>x=y):=by
 unfold zJH
 dsimp only
 simp only [jR hq h0,jR hy h1,Option.bind_some]
 exact zB rfl
end Go.Ve







namespace Go.Ve
open Go
set_option maxRecDepth 1000000
set_option maxHeartbeats 4000000
theorem tt {α:Type} {c:Bool} {x y:Option α} {Q:α→Prop} (hc:c=true) (h:Wp x Q):Wp (bif c then x else y) Q:=by rw [hc];exact h
theorem ff {α:Type} {c:Bool} {x y:Option α} {Q:α→Prop} (hc:c=false) (h:Wp y Q):Wp (bif c then x else y) Q:=by rw [hc];exact h
end Go.Ve



namespace Go.Ve
open Go
set_option maxRecDepth 1000000
set_option maxHeartbeats 4000000
def zDu (x:Ty.El zA):Int×Int×Int×Int×Int×Int×Int:=
 bif x.2.1==(3:Int) then (x.2.2.1,x.2.2.2.2.1,x.2.2.2.2.2.1,x.2.2.2.2.2.2.1,(0:Int),(0:Int),(0:Int))
 else bif x.2.1==(4:Int) then (x.2.2.2.2.1,x.2.2.1,x.2.2.2.2.2.2.1,(0:Int),(0:Int),(0:Int),(0:Int))
 else bif x.2.1==(5:Int) then (if (3:Int)<x.2.2.1 then (3:Int) else x.2.2.1,IntKind.wrap IntKind.i64 ((1000000:Int) -x.2.2.2.2.2.2.2.1),(x.2.2.2.2.2.2.2.2.1.length:Int),x.2.2.2.2.1,x.2.2.1,IntKind.wrap IntKind.i64 x.2.2.2.2.2.2.2.2.2.1,(0:Int))
 else (x.2.2.2.1,(0:Int),(0:Int),(0:Int),(0:Int),(0:Int),(0:Int))
def zKD:List (Int×Int)→Int
 |[]=>0
 |(a,b)::r=>if a<b then-1 else if b<a then 1 else zKD r
def zBY (x y:Ty.El zA):Int:=
 zKD [((zDu x).1,(zDu y).1),((zDu x).2.1,(zDu y).2.1),((zDu x).2.2.1,(zDu y).2.2.1),((zDu x).2.2.2.1,(zDu y).2.2.2.1),((zDu x).2.2.2.2.1,(zDu y).2.2.2.2.1),((zDu x).2.2.2.2.2.1,(zDu y).2.2.2.2.2.1),((zDu x).2.2.2.2.2.2,(zDu y).2.2.2.2.2.2)]
section
variable {α:Type} {lt eq:α→α→Bool}
def zGd (lt eq:α→α→Bool) (h:α):List α→List α
 |[]=>[h]
 |x::r=>bif lt x h then x::zGd lt eq h r else bif eq x h then x::r else h::x::r
theorem zKe (heq: ∀x y,eq x y=true↔x=y) {h z:α} : ∀ {l:List α},z∈zGd lt eq h l↔z∈l∨z=h
 |[]=>by simp [zGd]
 |x::r=>by
  simp only [zGd]
  cases lt x h with
  |true=>simp only [cond_true,List.mem_cons,zKe heq (l:=r)];exact or_assoc.symm
  |false=>
   simp only [cond_false]
   cases he:eq x h with
   |true=>
    have:=(heq x h).1 he
    subst this
    simp only [cond_true,List.mem_cons]
    exact ⟨fun h=> .inl h,fun h=>h.elim id .inl⟩
   |false=>simp only [cond_false,List.mem_cons];exact ⟨fun h=>h.elim .inr .inl,fun h=>h.elim .inr .inl⟩
theorem zGS {R:α→α→Prop} (ho:Ord R) (hlt: ∀x y,lt x y=true↔R x y) (heq: ∀x y,eq x y=true↔x=y) (htot: ∀x y, ¬R x y→x≠y→R y x) {h:α} : ∀ {l:List α},l.Pairwise R→(zGd lt eq h l).Pairwise R
 |[],_=>by simp [zGd]
 |x::r,hp=>by
  rw [List.pairwise_cons] at hp
  simp only [zGd]
  cases hx:lt x h with
  |true=>
   simp only [cond_true]
   rw [List.pairwise_cons]
   refine ⟨fun z hz=> ?_,zGS ho hlt heq htot hp.2⟩
   rcases (zKe heq).1 hz with hz|rfl
   ·exact hp.1 z hz
   ·exact (hlt _ _).1 hx
  |false=>
   simp only [cond_false]
   have hn: ¬R x h:=fun hh=>by rw [(hlt _ _).2 hh] at hx;cases hx
   cases he:eq x h with
   |true=>simp only [cond_true];rw [List.pairwise_cons];exact hp
   |false=>
    simp only [cond_false]
    have hne:x≠h:=fun e=>by rw [(heq _ _).2 e] at he;cases he
    have hr:=htot _ _ hn hne
    have tr: ∀z,R x z→R h z:=by
     intro z hz
     exact Classical.byContradiction (fun hnz=>ho.tr x z h (ho.asym _ _ hz) hnz hr)
    rw [List.pairwise_cons,List.pairwise_cons]
    refine ⟨fun z hz=> ?_,hp⟩
    rcases List.mem_cons.1 hz with rfl|hz
    ·exact hr
    ·exact tr z (hp.1 z hz)
end
end Go.Ve

namespace Go.Ve
open Go
set_option maxRecDepth 1000000
set_option maxHeartbeats 4000000
theorem zRC {α:Type} {xs:List α} {k:Nat} (h:k≤xs.length):sub xs (k:Int) (xs.length:Int)=some (xs.drop k):=by
 unfold sub
 rw [if_pos (by omega),Int.toNat_natCast,Int.toNat_natCast,List.take_length]
def zO0 (p q:Ty.El zH):Bool:=decide (zZa p q<0)
theorem zW5 {p q:Ty.El zH} :zO0 p q=true↔plt p q:=by
 unfold zO0;rw [decide_eq_true_eq];exact zM4
theorem zSm {α:Type} {lt eq:α→α→Bool} {h:α} : ∀ {l:List α},(zGd lt eq h l).length≤l.length+1
 |[]=>by simp [zGd]
 |x::r=>by
  have:=zSm (lt:=lt) (eq:=eq) (h:=h) (l:=r)
  simp only [zGd]
  cases lt x h<;>cases eq x h<;>simp<;>omega
def zR0 (l:List (Ty.El zA)):List (Ty.El zH):=l.foldl (fun acc x=>zGd zO0 v8 x.1 acc) []
theorem zJP: ∀ (l:List (Ty.El zA)) (acc:List (Ty.El zH)),(l.foldl (fun acc x=>zGd zO0 v8 x.1 acc) acc).length≤acc.length+l.length
 |[],acc=>by simp
 |x::l,acc=>by
  have h1:=zJP l (zGd zO0 v8 x.1 acc)
  have h2:=zSm (lt:=zO0) (eq:=v8) (h:=x.1) (l:=acc)
  simp only [List.foldl_cons,List.length_cons]
  omega
theorem zW4 (l:List (Ty.El zA)):(zR0 l).length≤l.length:=by
 have:=zJP l []
 simpa [zR0] using this
theorem zNC: ∀ (l:List (Ty.El zA)) (acc:List (Ty.El zH)),acc.Pairwise plt→
  (l.foldl (fun acc x=>zGd zO0 v8 x.1 acc) acc).Pairwise plt∧ ∀p,p∈l.foldl (fun acc x=>zGd zO0 v8 x.1 acc) acc↔p∈acc∨ ∃x,x∈l∧x.1=p
 |[],acc,h=>⟨h,fun p=>by simp⟩
 |x::l,acc,h=>by
  have h2:=zNC l (zGd zO0 v8 x.1 acc) (zGS zHh (fun _ _=>zW5) (fun _ _=>zDv) (fun p q h1 h2=>zTB h1 (fun e=>h2 e.symm)) h)
  refine ⟨h2.1,fun p=> ?_⟩
  rw [List.foldl_cons,h2.2 p,zKe (fun _ _=>zDv)]
  constructor
  ·rintro ((h|rfl)|⟨y,hy,rfl⟩)
   ·exact .inl h
   ·exact .inr ⟨x,by simp,rfl⟩
   ·exact .inr ⟨y,by simp [hy],rfl⟩
  ·rintro (h|⟨y,hy,rfl⟩)
   ·exact .inl (.inl h)
   ·rcases List.mem_cons.1 hy with rfl|hy
    ·exact .inl (.inr rfl)
    ·exact .inr ⟨y,hy,rfl⟩
theorem zGF (l:List (Ty.El zA)):(zR0 l).Pairwise plt:=(zNC l [] List.Pairwise.nil).1
theorem zJO (l:List (Ty.El zA)) (p:Ty.El zH):p∈zR0 l↔ ∃x,x∈l∧x.1=p:=by
 have:=(zNC l [] List.Pairwise.nil).2 p
 rw [show zR0 l=l.foldl (fun acc x=>zGd zO0 v8 x.1 acc) [] from rfl,this]
 simp
def hlt (a b:Ty.El qQ):Prop:=zEE a.1 a.2.1 b.1 b.2.1
theorem zKh:Ord hlt where
 asym:=fun x y h=>by unfold hlt zEE at*;omega
 tr:=fun x y z h1 h2=>by unfold hlt zEE at*;omega
theorem zXp {p q:Ty.El qQ} (h: ¬hlt q p) (hne:p≠q):hlt p q:=by
 refine zUX h (fun e=>hne ?_)
 obtain ⟨a,b,⟨⟩⟩:=p
 obtain ⟨c,d,⟨⟩⟩:=q
 obtain ⟨rfl,rfl⟩:=e
 rfl
def zZ1 (a b:Ty.El qQ):Bool:=decide (zKE a.1 a.2.1 b.1 b.2.1<0)
theorem zXq {a b:Ty.El qQ} :zZ1 a b=true↔hlt a b:=by
 unfold zZ1;rw [decide_eq_true_eq];exact zQ9
def zPh (a b:Ty.El qQ):Bool:=a.1==b.1&&(a.2.1==b.2.1&&true)
def zFK (l:List (Ty.El qQ)) (h:Ty.El qQ):List (Ty.El qQ):=zGd zZ1 zPh h l
end Go.Ve

namespace Go.Ve
open Go
set_option maxRecDepth 1000000
set_option maxHeartbeats 4000000
def zUq (x:Ty.El zA) (b:Option (Ty.El zA)):Bool:=
 match b with
 |none=>true
 |some y=>decide (zBY x y<0)
def zL9 (p:Ty.El zH) (b:Option (Ty.El zA)) (x:Ty.El zA):Option (Ty.El zA):=
 bif v8 x.1 p&&zUq x b then some x else b
def zDL (l:List (Ty.El zA)) (p:Ty.El zH):Option (Ty.El zA):=l.foldl (zL9 p) none
def yX (p:Ty.El zH) (b:Ty.El zA) (hs:List (Ty.El qQ)) (x:Ty.El zA):List (Ty.El qQ):=
 bif v8 x.1 p&&(zBY x b==0) then x.2.2.2.2.2.2.2.2.2.2.2.1.foldl zFK hs else hs
def zEo (l:List (Ty.El zA)) (p:Ty.El zH) (b:Ty.El zA):List (Ty.El qQ):=l.foldl (yX p b) []
def zYw (b:Ty.El zA) (hs:List (Ty.El qQ)):Ty.El zA:=
 ((b.1.1,b.1.2.1,()),b.2.1,b.2.2.1,b.2.2.2.1,b.2.2.2.2.1,b.2.2.2.2.2.1,b.2.2.2.2.2.2.1,b.2.2.2.2.2.2.2.1,b.2.2.2.2.2.2.2.2.1,b.2.2.2.2.2.2.2.2.2.1,b.2.2.2.2.2.2.2.2.2.2.1,hs,b.2.2.2.2.2.2.2.2.2.2.2.2.1,())
def mrg (l:List (Ty.El zA)) (p:Ty.El zH):Option (Ty.El zA):=(zDL l p).map (fun b=>zYw b (zEo l p b))
def zAX (l:List (Ty.El zA)):List (Ty.El zA):=(zR0 l).filterMap (mrg l)
end Go.Ve

namespace Go.Ve
open Go
set_option maxRecDepth 1000000
set_option maxHeartbeats 4000000
theorem zSZ {p:Ty.El zH} {b:Ty.El zA} : ∀ (l:List (Ty.El zA)) (c:Option (Ty.El zA)),l.foldl (zL9 p) c=some b→c=some b∨(b∈l∧b.1=p)
 |[],c,h=> .inl h
 |x::l,c,h=>by
  rw [List.foldl_cons] at h
  rcases zSZ l _ h with h|⟨h1,h2⟩
  ·unfold zL9 at h
   cases hc:v8 x.1 p&&zUq x c with
   |true=>
    rw [hc,cond_true] at h
    cases h
    simp only [Bool.and_eq_true] at hc
    exact .inr ⟨by simp,zDv.1 hc.1⟩
   |false=>rw [hc,cond_false] at h;exact .inl h
  ·exact .inr ⟨List.mem_cons_of_mem _ h1,h2⟩
theorem zX4 {l:List (Ty.El zA)} {p:Ty.El zH} {b:Ty.El zA} (h:zDL l p=some b):b∈l∧b.1=p:=by
 rcases zSZ l none h with h|h
 ·cases h
 ·exact h
theorem zMZ {l:List (Ty.El zA)} {p:Ty.El zH} {z:Ty.El zA} (h:mrg l p=some z):z.1=p:=by
 unfold mrg at h
 cases hb:zDL l p with
 |none=>rw [hb] at h;cases h
 |some b=>rw [hb] at h;cases h;exact (zX4 hb).2
theorem zH6 (l:List (Ty.El zA)):(zAX l).Pairwise rlt:=by
 unfold zAX
 refine List.Pairwise.filterMap _ ?_ (zGF l)
 intro p q hpq y hy z hz
 unfold rlt
 rw [zMZ hy,zMZ hz]
 exact hpq
end Go.Ve

namespace Go.Ve
open Go
set_option maxHeartbeats 4000000
section
variable {α:Type}
def swF (a b n:Nat) (xs:List α) (k:Nat):Option α:=
 if a≤k∧k<a+n then xs[b+(k-a)]? else if b≤k∧k<b+n then xs[a+(k-b)]? else xs[k]?
def yG (lo m hi:Nat) (xs:List α) (k:Nat):Option α:=
 if lo≤k∧k<lo+(hi-m) then xs[k+(m-lo)]? else if lo+(hi-m)≤k∧k<hi then xs[k- (hi-m)]? else xs[k]?
theorem zWA {a b:Nat} {xs:List α} {k:Nat} :swF a b 0 xs k=xs[k]? :=by
 unfold swF
 rw [if_neg (by omega),if_neg (by omega)]
theorem zWB {a b n:Nat} {xs zs:List α} (hab:a+n<b) (hb:b+n<xs.length) (hl:zs.length=xs.length) (h: ∀k,zs[k]? =swF a b n xs k) {x y:α} (hx:zs[a+n]? =some x) (hy:zs[b+n]? =some y):
  ∀k,((zs.set (a+n) y).set (b+n) x)[k]? =swF a b (n+1) xs k:=by
 intro k
 have h1:=h (a+n)
 have h2:=h (b+n)
 unfold swF at h1 h2
 rw [if_neg (by omega),if_neg (by omega),hx] at h1
 rw [if_neg (by omega),if_neg (by omega),hy] at h2
 unfold swF
 by_cases e1:k=b+n
 ·subst e1
  rw [List.getElem?_set_self (by rw [List.length_set];omega),if_neg (by omega),if_pos (by omega),h1]
  congr 1;omega
 ·rw [List.getElem?_set_ne (by omega)]
  by_cases e2:k=a+n
  ·subst e2
   rw [List.getElem?_set_self (by omega),if_pos (by omega),h2]
   congr 1;omega
  ·rw [List.getElem?_set_ne (by omega),h k]
   unfold swF
   by_cases c1:a≤k∧k<a+n
   ·rw [if_pos c1,if_pos (by omega)]
   ·rw [if_neg c1]
    by_cases c2:b≤k∧k<b+n
    ·rw [if_pos c2,if_neg (by omega),if_pos (by omega)]
    ·rw [if_neg c2,if_neg (by omega),if_neg (by omega)]
theorem zAu {xs:List α} {i j:Nat} (h:i=j):xs[i]? =xs[j]? :=by rw [h]
theorem zWQ {lo m hi:Nat} {xs zs:List α} (h1:lo<m) (h2:m<hi) (hij:hi-m<m-lo) (h: ∀k,zs[k]? =swF lo m (hi-m) xs k) (k:Nat):yG (lo+(hi-m)) m hi zs k=yG lo m hi xs k:=by
 unfold yG
 rw [h,h,h]
 unfold swF
 repeat' split
 all_goals first
  |rfl
  |exact zAu (by omega)
  |(exfalso;omega)
theorem zVu {lo m hi:Nat} {xs zs:List α} (h1:lo<m) (h2:m<hi) (hij:m-lo<hi-m) (h: ∀k,zs[k]? =swF lo (hi- (m-lo)) (m-lo) xs k) (k:Nat):yG lo m (hi- (m-lo)) zs k=yG lo m hi xs k:=by
 unfold yG
 rw [h,h,h]
 unfold swF
 repeat' split
 all_goals first
  |rfl
  |exact zAu (by omega)
  |(exfalso;omega)
theorem zWR {lo m hi:Nat} {xs zs:List α} (h1:lo≤m) (h2:m≤hi) (hij:m-lo=hi-m) (h: ∀k,zs[k]? =swF lo m (m-lo) xs k) (k:Nat):zs[k]? =yG lo m hi xs k:=by
 rw [h]
 unfold yG swF
 repeat' split
 all_goals first
  |rfl
  |exact zAu (by omega)
  |(exfalso;omega)
end
end Go.Ve

namespace Go.Ve
open Go
set_option maxRecDepth 1000000
set_option linter.unusedVariables false
noncomputable def xT {α:Type} (cmp:α×α×Unit→Option Int):List α→(Int×Int×Unit×Unit)→Option (List α×Unit):=fun a0 x=>match x with
 |(a1,a2,(),())=>
  zO
   (fun (s157:Int×List (α))=>
    bif decide (s157.1<a2) then
     Option.bind
      (zO
       (fun (s158:Int×List (α))=>
        Option.bind
         (bif decide (s158.1>a1) then
          Option.bind (idx s158.2 s158.1) fun (y159:α)=>
           Option.bind (atN s158.2 (Int.toNat s158.1)) fun (y160:α)=>
            Option.bind (idx s158.2 (IntKind.wrap IntKind.i64 (s158.1- (1:Int)))) fun (y161:α)=>
             Option.bind (atN s158.2 (Int.toNat (IntKind.wrap IntKind.i64 (s158.1- (1:Int))))) fun (y162:α)=>
              Option.bind (cmp (y160,y162,())) fun (y163:Int)=>some (decide (y163< (0:Int)),s158.2)
         else some (false,s158.2))
         fun (s164:Bool×List (α))=>
         bif s164.1 then
          Option.bind (idx s164.2 (IntKind.wrap IntKind.i64 (s158.1- (1:Int)))) fun (y165:α)=>
           Option.bind (atN s164.2 (Int.toNat (IntKind.wrap IntKind.i64 (s158.1- (1:Int))))) fun (y166:α)=>
            Option.bind (idx s164.2 s158.1) fun (y167:α)=>
             Option.bind (atN s164.2 (Int.toNat s158.1)) fun (y168:α)=>
              Option.bind (idx s164.2 s158.1) fun (y169:α)=>
               Option.bind (atN s164.2 (Int.toNat s158.1)) fun (y170:α)=>
                Option.bind (idx (List.set s164.2 (Int.toNat s158.1) y166) (IntKind.wrap IntKind.i64 (s158.1- (1:Int)))) fun (y171:α)=>
                 Option.bind (atN (List.set s164.2 (Int.toNat s158.1) y166) (Int.toNat (IntKind.wrap IntKind.i64 (s158.1- (1:Int)))))
                  fun (y172:α)=>
                  some
                   (Sum.inl
                    (IntKind.wrap IntKind.i64 (s158.1- (1:Int)),
                     List.set (List.set s164.2 (Int.toNat s158.1) y166) (Int.toNat (IntKind.wrap IntKind.i64 (s158.1- (1:Int)))) y168))
         else some (Sum.inr s164.2))
       s157)
      fun (s173:List (α))=>some (Sum.inl (IntKind.wrap IntKind.i64 (s157.1+(1:Int)),s173))
    else Option.map (fun (r:List (α)×Unit)=>Sum.inr r) (bif Nat.beq (List.length s157.2) (List.length a0) then some (s157.2,()) else none))
   (IntKind.wrap IntKind.i64 (a1+(1:Int)),a0)
noncomputable def zDk {α:Type} (cmp:α×α×Unit→Option Int):List α→(Int×Int×Int×Unit×Unit)→Option (List α×Unit):=fun a0 x=>match x with
 |(a1,a2,a3,(),())=>
  zO
   (fun (s17:Int×List (α))=>
    bif decide (s17.1<a3) then
     Option.bind (idx s17.2 (IntKind.wrap IntKind.i64 (a2+s17.1))) fun (y18:α)=>
      Option.bind (atN s17.2 (Int.toNat (IntKind.wrap IntKind.i64 (a2+s17.1)))) fun (y19:α)=>
       Option.bind (idx s17.2 (IntKind.wrap IntKind.i64 (a1+s17.1))) fun (y20:α)=>
        Option.bind (atN s17.2 (Int.toNat (IntKind.wrap IntKind.i64 (a1+s17.1)))) fun (y21:α)=>
         Option.bind (idx s17.2 (IntKind.wrap IntKind.i64 (a1+s17.1))) fun (y22:α)=>
          Option.bind (atN s17.2 (Int.toNat (IntKind.wrap IntKind.i64 (a1+s17.1)))) fun (y23:α)=>
           Option.bind (idx (List.set s17.2 (Int.toNat (IntKind.wrap IntKind.i64 (a1+s17.1))) y19) (IntKind.wrap IntKind.i64 (a2+s17.1)))
            fun (y24:α)=>
            Option.bind (atN (List.set s17.2 (Int.toNat (IntKind.wrap IntKind.i64 (a1+s17.1))) y19) (Int.toNat (IntKind.wrap IntKind.i64 (a2+s17.1))))
             fun (y25:α)=>
             some
              (Sum.inl
               (IntKind.wrap IntKind.i64 (s17.1+(1:Int)),
                List.set (List.set s17.2 (Int.toNat (IntKind.wrap IntKind.i64 (a1+s17.1))) y19) (Int.toNat (IntKind.wrap IntKind.i64 (a2+s17.1))) y21))
    else Option.map (fun (r:List (α)×Unit)=>Sum.inr r) (bif Nat.beq (List.length s17.2) (List.length a0) then some (s17.2,()) else none))
   ((0:Int),a0)
noncomputable def zQv {α:Type} (cmp:α×α×Unit→Option Int):List α→(Int×Int×Int×Unit×Unit)→Option (List α×Unit):=fun a0 x=>match x with
 |(a1,a2,a3,(),())=>
  Option.bind
   (zO
    (fun (s6:Int×Int×List (α))=>
     bif s6.1 !=s6.2.1 then
      bif decide (s6.1>s6.2.1) then
       bif Nat.beq (List.length s6.2.2) (List.length s6.2.2) then
        Option.bind (zDk cmp s6.2.2 (IntKind.wrap IntKind.i64 (a2-s6.1),a2,s6.2.1,(),())) fun (y7:List (α)×Unit)=>
         some (Sum.inl (IntKind.wrap IntKind.i64 (s6.1-s6.2.1),s6.2.1,y7.1))
       else none
      else
       bif Nat.beq (List.length s6.2.2) (List.length s6.2.2) then
        Option.bind
         (zDk cmp s6.2.2
          (IntKind.wrap IntKind.i64 (a2-s6.1),IntKind.wrap IntKind.i64 (IntKind.wrap IntKind.i64 (a2+s6.2.1) -s6.1),s6.1,(),()))
         fun (y8:List (α)×Unit)=>some (Sum.inl (s6.1,IntKind.wrap IntKind.i64 (s6.2.1-s6.1),y8.1))
       else none
     else some (Sum.inr (s6.2.2,s6.1)))
    (IntKind.wrap IntKind.i64 (a2-a1),IntKind.wrap IntKind.i64 (a3-a2),a0))
   fun (s9:List (α)×Int)=>
   bif Nat.beq (List.length s9.1) (List.length s9.1) then
    Option.bind (zDk cmp s9.1 (IntKind.wrap IntKind.i64 (a2-s9.2),a2,s9.2,(),())) fun (y10:List (α)×Unit)=>
     bif Nat.beq (List.length y10.1) (List.length a0) then some (y10.1,()) else none
   else none
noncomputable def zGq {α:Type} (cmp:α×α×Unit→Option Int) (self:List α→(Int×Int×Int×Unit×Unit)→Option (List α×Unit)):List α→(Int×Int×Int×Unit×Unit)→Option (List α×Unit):=fun a0 x=>match x with
 |(a1,a2,a3,(),())=>
  qT
   (bif IntKind.wrap IntKind.i64 (a2-a1)==(1:Int) then
    Option.bind
     (zO
      (fun (s50:Int×Int×List (α))=>
       bif decide (s50.1<s50.2.1) then
        Option.bind
         (idx s50.2.2
          (IntKind.wrap IntKind.i64
           (Int.fdiv (IntKind.wrap IntKind.u64 (IntKind.wrap IntKind.i64 (s50.1+s50.2.1))) ((2:Int)^min (Int.toNat (1:Int)) (IntKind.bits IntKind.u64)))))
         fun (y51:α)=>
         Option.bind
          (atN s50.2.2
           (Int.toNat
            (IntKind.wrap IntKind.i64
             (Int.fdiv (IntKind.wrap IntKind.u64 (IntKind.wrap IntKind.i64 (s50.1+s50.2.1))) ((2:Int)^min (Int.toNat (1:Int)) (IntKind.bits IntKind.u64))))))
          fun (y52:α)=>
          Option.bind (idx s50.2.2 a1) fun (y53:α)=>
           Option.bind (atN s50.2.2 (Int.toNat a1)) fun (y54:α)=>
            Option.bind (cmp (y52,y54,())) fun (y55:Int)=>
             bif decide (y55< (0:Int)) then
              some
               (Sum.inl
                (IntKind.wrap IntKind.i64
                  (IntKind.wrap IntKind.i64
                    (Int.fdiv (IntKind.wrap IntKind.u64 (IntKind.wrap IntKind.i64 (s50.1+s50.2.1)))
                     ((2:Int)^min (Int.toNat (1:Int)) (IntKind.bits IntKind.u64)))+
                   (1:Int)),
                 s50.2))
             else
              some
               (Sum.inl
                (s50.1,
                 IntKind.wrap IntKind.i64
                  (Int.fdiv (IntKind.wrap IntKind.u64 (IntKind.wrap IntKind.i64 (s50.1+s50.2.1)))
                   ((2:Int)^min (Int.toNat (1:Int)) (IntKind.bits IntKind.u64))),
                 s50.2.2))
       else some (Sum.inr (s50.1,s50.2.2)))
      (a2,a3,a0))
     fun (s56:Int×List (α))=>
     zO
      (fun (s57:Int×List (α))=>
       bif decide (s57.1<IntKind.wrap IntKind.i64 (s56.1- (1:Int))) then
        Option.bind (idx s57.2 (IntKind.wrap IntKind.i64 (s57.1+(1:Int)))) fun (y58:α)=>
         Option.bind (atN s57.2 (Int.toNat (IntKind.wrap IntKind.i64 (s57.1+(1:Int))))) fun (y59:α)=>
          Option.bind (idx s57.2 s57.1) fun (y60:α)=>
           Option.bind (atN s57.2 (Int.toNat s57.1)) fun (y61:α)=>
            Option.bind (idx s57.2 s57.1) fun (y62:α)=>
             Option.bind (atN s57.2 (Int.toNat s57.1)) fun (y63:α)=>
              Option.bind (idx (List.set s57.2 (Int.toNat s57.1) y59) (IntKind.wrap IntKind.i64 (s57.1+(1:Int)))) fun (y64:α)=>
               Option.bind (atN (List.set s57.2 (Int.toNat s57.1) y59) (Int.toNat (IntKind.wrap IntKind.i64 (s57.1+(1:Int))))) fun (y65:α)=>
                some
                 (Sum.inl
                  (IntKind.wrap IntKind.i64 (s57.1+(1:Int)),
                   List.set (List.set s57.2 (Int.toNat s57.1) y59) (Int.toNat (IntKind.wrap IntKind.i64 (s57.1+(1:Int)))) y61))
       else
        Option.map (fun (r:List (α) ⊕ List (α)×Unit)=>Sum.inr r)
         (Option.map (fun (r:List (α)×Unit)=>Sum.inr r) (bif Nat.beq (List.length s57.2) (List.length a0) then some (s57.2,()) else none)))
      (a1,s56.2)
   else some (Sum.inl a0))
   fun (s66:List (α))=>
   qT
    (bif IntKind.wrap IntKind.i64 (a3-a2)==(1:Int) then
     Option.bind
      (zO
       (fun (s117:Int×Int×List (α))=>
        bif decide (s117.1<s117.2.1) then
         Option.bind (idx s117.2.2 a2) fun (y118:α)=>
          Option.bind (atN s117.2.2 (Int.toNat a2)) fun (y119:α)=>
           Option.bind
            (idx s117.2.2
             (IntKind.wrap IntKind.i64
              (Int.fdiv (IntKind.wrap IntKind.u64 (IntKind.wrap IntKind.i64 (s117.1+s117.2.1)))
               ((2:Int)^min (Int.toNat (1:Int)) (IntKind.bits IntKind.u64)))))
            fun (y120:α)=>
            Option.bind
             (atN s117.2.2
              (Int.toNat
               (IntKind.wrap IntKind.i64
                (Int.fdiv (IntKind.wrap IntKind.u64 (IntKind.wrap IntKind.i64 (s117.1+s117.2.1)))
                 ((2:Int)^min (Int.toNat (1:Int)) (IntKind.bits IntKind.u64))))))
             fun (y121:α)=>
             Option.bind (cmp (y119,y121,())) fun (y122:Int)=>
              bif !decide (y122< (0:Int)) then
               some
                (Sum.inl
                 (IntKind.wrap IntKind.i64
                   (IntKind.wrap IntKind.i64
                     (Int.fdiv (IntKind.wrap IntKind.u64 (IntKind.wrap IntKind.i64 (s117.1+s117.2.1)))
                      ((2:Int)^min (Int.toNat (1:Int)) (IntKind.bits IntKind.u64)))+
                    (1:Int)),
                  s117.2))
              else
               some
                (Sum.inl
                 (s117.1,
                  IntKind.wrap IntKind.i64
                   (Int.fdiv (IntKind.wrap IntKind.u64 (IntKind.wrap IntKind.i64 (s117.1+s117.2.1)))
                    ((2:Int)^min (Int.toNat (1:Int)) (IntKind.bits IntKind.u64))),
                  s117.2.2))
        else some (Sum.inr (s117.1,s117.2.2)))
       (a1,a2,s66))
      fun (s123:Int×List (α))=>
      zO
       (fun (s124:Int×List (α))=>
        bif decide (s124.1>s123.1) then
         Option.bind (idx s124.2 (IntKind.wrap IntKind.i64 (s124.1- (1:Int)))) fun (y125:α)=>
          Option.bind (atN s124.2 (Int.toNat (IntKind.wrap IntKind.i64 (s124.1- (1:Int))))) fun (y126:α)=>
           Option.bind (idx s124.2 s124.1) fun (y127:α)=>
            Option.bind (atN s124.2 (Int.toNat s124.1)) fun (y128:α)=>
             Option.bind (idx s124.2 s124.1) fun (y129:α)=>
              Option.bind (atN s124.2 (Int.toNat s124.1)) fun (y130:α)=>
               Option.bind (idx (List.set s124.2 (Int.toNat s124.1) y126) (IntKind.wrap IntKind.i64 (s124.1- (1:Int)))) fun (y131:α)=>
                Option.bind (atN (List.set s124.2 (Int.toNat s124.1) y126) (Int.toNat (IntKind.wrap IntKind.i64 (s124.1- (1:Int)))))
                 fun (y132:α)=>
                 some
                  (Sum.inl
                   (IntKind.wrap IntKind.i64 (s124.1- (1:Int)),
                    List.set (List.set s124.2 (Int.toNat s124.1) y126) (Int.toNat (IntKind.wrap IntKind.i64 (s124.1- (1:Int)))) y128))
        else
         Option.map (fun (r:List (α) ⊕ List (α)×Unit)=>Sum.inr r)
          (Option.map (fun (r:List (α)×Unit)=>Sum.inr r) (bif Nat.beq (List.length s124.2) (List.length a0) then some (s124.2,()) else none)))
       (a2,s123.2)
    else some (Sum.inl s66))
    fun (s133:List (α))=>
    Option.bind
     (bif
       decide
        (a2>
         IntKind.wrap IntKind.i64
          (Int.fdiv (IntKind.wrap IntKind.u64 (IntKind.wrap IntKind.i64 (a1+a3))) ((2:Int)^min (Int.toNat (1:Int)) (IntKind.bits IntKind.u64)))) then
      some
       (IntKind.wrap IntKind.i64
         (IntKind.wrap IntKind.i64
           (IntKind.wrap IntKind.i64
             (Int.fdiv (IntKind.wrap IntKind.u64 (IntKind.wrap IntKind.i64 (a1+a3))) ((2:Int)^min (Int.toNat (1:Int)) (IntKind.bits IntKind.u64)))+
            a2) -
          a3),
        IntKind.wrap IntKind.i64 (Int.fdiv (IntKind.wrap IntKind.u64 (IntKind.wrap IntKind.i64 (a1+a3))) ((2:Int)^min (Int.toNat (1:Int)) (IntKind.bits IntKind.u64))),
        s133)
     else some (a1,a2,s133))
     fun (s134:Int×Int×List (α))=>
     Option.bind
      (zO
       (fun (s152:Int×Int×List (α))=>
        bif decide (s152.1<s152.2.1) then
         Option.bind
          (idx s152.2.2
           (IntKind.wrap IntKind.i64
            (IntKind.wrap IntKind.i64
              (IntKind.wrap IntKind.i64
                (IntKind.wrap IntKind.i64
                  (Int.fdiv (IntKind.wrap IntKind.u64 (IntKind.wrap IntKind.i64 (a1+a3))) ((2:Int)^min (Int.toNat (1:Int)) (IntKind.bits IntKind.u64)))+
                 a2) -
               (1:Int)) -
             IntKind.wrap IntKind.i64
              (Int.fdiv (IntKind.wrap IntKind.u64 (IntKind.wrap IntKind.i64 (s152.1+s152.2.1)))
               ((2:Int)^min (Int.toNat (1:Int)) (IntKind.bits IntKind.u64))))))
          fun (y153:α)=>
          Option.bind
           (atN s152.2.2
            (Int.toNat
             (IntKind.wrap IntKind.i64
              (IntKind.wrap IntKind.i64
                (IntKind.wrap IntKind.i64
                  (IntKind.wrap IntKind.i64
                    (Int.fdiv (IntKind.wrap IntKind.u64 (IntKind.wrap IntKind.i64 (a1+a3))) ((2:Int)^min (Int.toNat (1:Int)) (IntKind.bits IntKind.u64)))+
                   a2) -
                 (1:Int)) -
               IntKind.wrap IntKind.i64
                (Int.fdiv (IntKind.wrap IntKind.u64 (IntKind.wrap IntKind.i64 (s152.1+s152.2.1)))
                 ((2:Int)^min (Int.toNat (1:Int)) (IntKind.bits IntKind.u64)))))))
           fun (y154:α)=>
           Option.bind
            (idx s152.2.2
             (IntKind.wrap IntKind.i64
              (Int.fdiv (IntKind.wrap IntKind.u64 (IntKind.wrap IntKind.i64 (s152.1+s152.2.1)))
               ((2:Int)^min (Int.toNat (1:Int)) (IntKind.bits IntKind.u64)))))
            fun (y155:α)=>
            Option.bind
             (atN s152.2.2
              (Int.toNat
               (IntKind.wrap IntKind.i64
                (Int.fdiv (IntKind.wrap IntKind.u64 (IntKind.wrap IntKind.i64 (s152.1+s152.2.1)))
                 ((2:Int)^min (Int.toNat (1:Int)) (IntKind.bits IntKind.u64))))))
             fun (y156:α)=>
             Option.bind (cmp (y154,y156,())) fun (y157:Int)=>
              bif !decide (y157< (0:Int)) then
               some
                (Sum.inl
                 (IntKind.wrap IntKind.i64
                   (IntKind.wrap IntKind.i64
                     (Int.fdiv (IntKind.wrap IntKind.u64 (IntKind.wrap IntKind.i64 (s152.1+s152.2.1)))
                      ((2:Int)^min (Int.toNat (1:Int)) (IntKind.bits IntKind.u64)))+
                    (1:Int)),
                  s152.2))
              else
               some
                (Sum.inl
                 (s152.1,
                  IntKind.wrap IntKind.i64
                   (Int.fdiv (IntKind.wrap IntKind.u64 (IntKind.wrap IntKind.i64 (s152.1+s152.2.1)))
                    ((2:Int)^min (Int.toNat (1:Int)) (IntKind.bits IntKind.u64))),
                  s152.2.2))
        else some (Sum.inr (s152.1,s152.2.2)))
       s134)
      fun (s158:Int×List (α))=>
      Option.bind
       (Option.bind
        (bif decide (s158.1<a2) then
         some
          (decide
            (a2<
             IntKind.wrap IntKind.i64
              (IntKind.wrap IntKind.i64
                (IntKind.wrap IntKind.i64
                  (Int.fdiv (IntKind.wrap IntKind.u64 (IntKind.wrap IntKind.i64 (a1+a3))) ((2:Int)^min (Int.toNat (1:Int)) (IntKind.bits IntKind.u64)))+
                 a2) -
               s158.1)),
           s158.2)
        else some (false,s158.2))
        fun (s161:Bool×List (α))=>
        bif s161.1 then
         bif Nat.beq (List.length s161.2) (List.length s161.2) then
          Option.bind
           (zQv cmp s161.2
            (s158.1,a2,
             IntKind.wrap IntKind.i64
              (IntKind.wrap IntKind.i64
                (IntKind.wrap IntKind.i64
                  (Int.fdiv (IntKind.wrap IntKind.u64 (IntKind.wrap IntKind.i64 (a1+a3))) ((2:Int)^min (Int.toNat (1:Int)) (IntKind.bits IntKind.u64)))+
                 a2) -
               s158.1),
             (),()))
           fun (y162:List (α)×Unit)=>some y162.1
         else none
        else some s161.2)
       fun (s163:List (α))=>
       Option.bind
        (Option.bind
         (bif decide (a1<s158.1) then
          some
           (decide
             (s158.1<
              IntKind.wrap IntKind.i64
               (Int.fdiv (IntKind.wrap IntKind.u64 (IntKind.wrap IntKind.i64 (a1+a3))) ((2:Int)^min (Int.toNat (1:Int)) (IntKind.bits IntKind.u64)))),
            s163)
         else some (false,s163))
         fun (s166:Bool×List (α))=>
         bif s166.1 then
          bif Nat.beq (List.length s166.2) (List.length s166.2) then
           Option.bind
            (self s166.2
             (a1,s158.1,
              IntKind.wrap IntKind.i64
               (Int.fdiv (IntKind.wrap IntKind.u64 (IntKind.wrap IntKind.i64 (a1+a3))) ((2:Int)^min (Int.toNat (1:Int)) (IntKind.bits IntKind.u64))),
              (),()))
            fun (y167:List (α)×Unit)=>some y167.1
          else none
         else some s166.2)
        fun (s168:List (α))=>
        Option.bind
         (bif
           decide
            (IntKind.wrap IntKind.i64
              (Int.fdiv (IntKind.wrap IntKind.u64 (IntKind.wrap IntKind.i64 (a1+a3))) ((2:Int)^min (Int.toNat (1:Int)) (IntKind.bits IntKind.u64)))<
             IntKind.wrap IntKind.i64
              (IntKind.wrap IntKind.i64
                (IntKind.wrap IntKind.i64
                  (Int.fdiv (IntKind.wrap IntKind.u64 (IntKind.wrap IntKind.i64 (a1+a3))) ((2:Int)^min (Int.toNat (1:Int)) (IntKind.bits IntKind.u64)))+
                 a2) -
               s158.1)) then
          some
           (decide
             (IntKind.wrap IntKind.i64
               (IntKind.wrap IntKind.i64
                 (IntKind.wrap IntKind.i64
                   (Int.fdiv (IntKind.wrap IntKind.u64 (IntKind.wrap IntKind.i64 (a1+a3))) ((2:Int)^min (Int.toNat (1:Int)) (IntKind.bits IntKind.u64)))+
                  a2) -
                s158.1)<
              a3),
            s168)
         else some (false,s168))
         fun (s169:Bool×List (α))=>
         bif s169.1 then
          bif Nat.beq (List.length s169.2) (List.length s169.2) then
           Option.bind
            (self s169.2
             (IntKind.wrap IntKind.i64
               (Int.fdiv (IntKind.wrap IntKind.u64 (IntKind.wrap IntKind.i64 (a1+a3))) ((2:Int)^min (Int.toNat (1:Int)) (IntKind.bits IntKind.u64))),
              IntKind.wrap IntKind.i64
               (IntKind.wrap IntKind.i64
                 (IntKind.wrap IntKind.i64
                   (Int.fdiv (IntKind.wrap IntKind.u64 (IntKind.wrap IntKind.i64 (a1+a3))) ((2:Int)^min (Int.toNat (1:Int)) (IntKind.bits IntKind.u64)))+
                  a2) -
                s158.1),
              a3,(),()))
            fun (y170:List (α)×Unit)=>bif Nat.beq (List.length y170.1) (List.length a0) then some (y170.1,()) else none
          else none
         else bif Nat.beq (List.length s169.2) (List.length a0) then some (s169.2,()) else none
noncomputable def zA3 {α:Type} (cmp:α×α×Unit→Option Int):Nat→(List α→(Int×Int×Int×Unit×Unit)→Option (List α×Unit))
 |0=>fun _ _=>none
 |n+1=>zGq cmp (zA3 cmp n)
noncomputable def zEx {α:Type} (cmp:α×α×Unit→Option Int):List α→(Int×Int×Int×Unit×Unit)→Option (List α×Unit):=zA3 cmp 1048576
noncomputable def zJt {α:Type} (cmp:α×α×Unit→Option Int):List α→(Int×Unit×Unit)→Option (List α×Unit):=fun a0 x=>match x with
 |(a1,(),())=>
  Option.bind
   (zO
    (fun (s4:Int×List (α)×Int)=>
     bif decide (s4.1≤a1) then
      bif Nat.beq (List.length s4.2.1) (List.length s4.2.1) then
       Option.bind (xT cmp s4.2.1 (s4.2.2,s4.1,(),())) fun (y5:List (α)×Unit)=>
        some (Sum.inl (IntKind.wrap IntKind.i64 (s4.1+(20:Int)),y5.1,s4.1))
      else none
     else some (Sum.inr s4.2))
    ((20:Int),a0,(0:Int)))
   fun (s6:List (α)×Int)=>
   bif Nat.beq (List.length s6.1) (List.length s6.1) then
    Option.bind (xT cmp s6.1 (s6.2,a1,(),())) fun (y7:List (α)×Unit)=>
     zO
      (fun (s30:Int×List (α))=>
       bif decide (s30.1<a1) then
        Option.bind
         (zO
          (fun (s31:Int×List (α)×Int)=>
           bif decide (s31.1≤a1) then
            bif Nat.beq (List.length s31.2.1) (List.length s31.2.1) then
             Option.bind (zEx cmp s31.2.1 (s31.2.2,IntKind.wrap IntKind.i64 (s31.2.2+s30.1),s31.1,(),()))
              fun (y32:List (α)×Unit)=>
              some (Sum.inl (IntKind.wrap IntKind.i64 (s31.1+IntKind.wrap IntKind.i64 ((2:Int)*s30.1)),y32.1,s31.1))
            else none
           else some (Sum.inr (s31.2.2,s31.2.1)))
          (IntKind.wrap IntKind.i64 ((2:Int)*s30.1),s30.2,(0:Int)))
         fun (s33:Int×List (α))=>
         Option.bind
          (bif decide (IntKind.wrap IntKind.i64 (s33.1+s30.1)<a1) then
           bif Nat.beq (List.length s33.2) (List.length s33.2) then
            Option.bind (zEx cmp s33.2 (s33.1,IntKind.wrap IntKind.i64 (s33.1+s30.1),a1,(),())) fun (y34:List (α)×Unit)=>
             some y34.1
           else none
          else some s33.2)
          fun (s35:List (α))=>some (Sum.inl (IntKind.wrap IntKind.i64 (s30.1*(2:Int)),s35))
       else Option.map (fun (r:List (α)×Unit)=>Sum.inr r) (bif Nat.beq (List.length s30.2) (List.length a0) then some (s30.2,()) else none))
      ((20:Int),y7.1)
   else none
noncomputable def zDX {α:Type} (cmp:α×α×Unit→Option Int):List α→(Unit×Unit)→Option (List α×Unit):=fun a0 x=>match x with
 |((),())=>
  bif Nat.beq (List.length a0) (List.length a0)&&Nat.beq (List.length a0) (List.length a0) then
   Option.bind (zJt cmp a0 ((↑(List.length a0):Int),(),())) fun (y0:List (α)×Unit)=>
    bif Nat.beq (List.length y0.1) (List.length a0) then some (y0.1,()) else none
  else none
end Go.Ve

namespace Go.Ve
open Go
set_option maxRecDepth 1000000
set_option maxHeartbeats 4000000
section
variable {α:Type} {cmp:α×α×Unit→Option Int}
theorem zCG (xs:List α) (a b n:Nat) (hab:a+n≤b) (hb:b+n≤xs.length) (hl:xs.length<4611686018427387904):
  Wp (zDk cmp xs ((a:Int),(b:Int),(n:Int),(),())) (fun r=>r.1.length=xs.length∧ ∀k,r.1[k]? =swF a b n xs k):=by
 unfold zDk
 dsimp only
 refine jY (fun s:Int×List α=> ∃i:Nat,s.1=(i:Int)∧i≤n∧s.2.length=xs.length∧ ∀k,s.2[k]? =swF a b i xs k) (fun s=>((n:Int) -s.1).toNat) ⟨0,rfl,Nat.zero_le _,rfl,fun k=>zWA.symm⟩ ?_
 rintro ⟨s,zs⟩ ⟨i,hi,hin,hzl,hz⟩
 simp only at hi hzl hz
 subst hi
 refine zI (fun h=> ?_) (fun h=> ?_)
 ·have h:(i:Int)< (n:Int):=h
  have hx:zs[a+i]? =some (zs[a+i]'(by omega)):=by simp
  have hy:zs[b+i]? =some (zs[b+i]'(by omega)):=by simp
  have hy2:(zs.set (a+i) (zs[b+i]'(by omega)))[b+i]? =some (zs[b+i]'(by omega)):=by rw [List.getElem?_set_ne (by omega)];exact hy
  dsimp only
  rw [zF (x:=(b:Int)+(i:Int)) (by omega) (by omega),zF (x:=(a:Int)+(i:Int)) (by omega) (by omega),show ((b:Int)+(i:Int))=((b+i:Nat):Int) by omega,show ((a:Int)+(i:Int))=((a+i:Nat):Int) by omega]
  simp only [zJ hx,zJ hy,Int.toNat_natCast,vL hx,vL hy,Option.bind_some,zJ hy2,vL hy2]
  refine zB (e2l ⟨⟨i+1,?_,by omega,by simp only [List.length_set];exact hzl,zWB (by omega) (by omega) hzl hz hx hy⟩,?_⟩)
  ·simp only;rw [zF (by omega) (by omega)];omega
  ·simp only;rw [zF (by omega) (by omega)];omega
 ·have h: ¬(i:Int)< (n:Int):=h
  have:i=n:=by omega
  subst this
  exact zAp (zG (fun _=>zB (e2r ⟨hzl,hz⟩)) (fun h=>absurd h (by simp only;rw [hzl,Nat.beq_refl];decide)))
theorem zFG {xs ys:List α} (h:xs.length=ys.length):Nat.beq xs.length ys.length=true:=by rw [h];exact Nat.beq_refl _
theorem zQl (xs:List α) (a m b:Nat) (ham:a<m) (hmb:m<b) (hb:b≤xs.length) (hl:xs.length<4611686018427387904):
  Wp (zQv cmp xs ((a:Int),(m:Int),(b:Int),(),())) (fun r=>r.1.length=xs.length∧ ∀k,r.1[k]? =yG a m b xs k):=by
 unfold zQv
 dsimp only
 rw [zF (x:=(m:Int) - (a:Int)) (by omega) (by omega),zF (x:=(b:Int) - (m:Int)) (by omega) (by omega)]
 refine zC ((show Wp _ (fun s:List α×Int=>s.1.length=xs.length∧ ∃i:Nat,s.2=(i:Int)∧0<i∧i≤m∧m+i≤b∧ ∀k,yG (m-i) m (m+i) s.1 k=yG a m b xs k) from ?_).mono ?_)
 ·refine jY (fun s:Int×Int×List α=>s.2.2.length=xs.length∧ ∃i j:Nat,s.1=(i:Int)∧s.2.1=(j:Int)∧0<i∧0<j∧i≤m-a∧m+j≤b∧ ∀k,yG (m-i) m (m+j) s.2.2 k=yG a m b xs k) (fun s=>(s.1+s.2.1).toNat)
   ⟨rfl,m-a,b-m,by simp only;omega,by simp only;omega,by omega,by omega,by omega,by omega,fun k=>by rw [show m- (m-a)=a by omega,show m+(b-m)=b by omega]⟩ ?_
  rintro ⟨si,sj,zs⟩ ⟨hzl,i,j,hi,hj,hi0,hj0,hia,hjb,hz⟩
  simp only at hi hj hzl hz
  subst hi hj
  refine zG (fun hne=> ?_) (fun he=>zB (e2r ⟨hzl,i,rfl,hi0,by omega,?_,?_⟩))
  ·have hne: ¬(i:Int)=(j:Int):=by simpa using hne
   refine zI (fun hgt=> ?_) (fun hgt=> ?_)
   ·have hgt:(i:Int)>(j:Int):=hgt
    refine zG (fun _=> ?_) (fun h=>absurd h (by rw [Nat.beq_refl];decide))
    dsimp only
    rw [zF (x:=(m:Int) - (i:Int)) (by omega) (by omega),zF (x:=(i:Int) - (j:Int)) (by omega) (by omega),show ((m:Int) - (i:Int))=((m-i:Nat):Int) by omega]
    refine zC ((zCG zs (m-i) m j (by omega) (by omega) (by omega)).mono (fun y hy=>zB (e2l ⟨⟨hy.1.trans hzl,i-j,j,?_,rfl,by omega,hj0,by omega,hjb,fun k=> ?_⟩,?_⟩)))
    ·simp only;omega
    ·rw [←hz k, ←zWQ (lo:=m-i) (m:=m) (hi:=m+j) (xs:=zs) (zs:=y.1) (by omega) (by omega) (by omega) (fun k=>by rw [hy.2,show m+j-m=j by omega]) k,show m- (i-j)=m-i+(m+j-m) by omega]
    ·simp only;omega
   ·have hgt: ¬(i:Int)>(j:Int):=hgt
    refine zG (fun _=> ?_) (fun h=>absurd h (by rw [Nat.beq_refl];decide))
    dsimp only
    rw [zF (x:=(m:Int) - (i:Int)) (by omega) (by omega),zF (x:=(m:Int)+(j:Int)) (by omega) (by omega),zF (x:=(m:Int)+(j:Int) - (i:Int)) (by omega) (by omega),zF (x:=(j:Int) - (i:Int)) (by omega) (by omega),show ((m:Int) - (i:Int))=((m-i:Nat):Int) by omega,show ((m:Int)+(j:Int) - (i:Int))=((m+j-i:Nat):Int) by omega]
    refine zC ((zCG zs (m-i) (m+j-i) i (by omega) (by omega) (by omega)).mono (fun y hy=>zB (e2l ⟨⟨hy.1.trans hzl,i,j-i,rfl,?_,hi0,by omega,hia,by omega,fun k=> ?_⟩,?_⟩)))
    ·simp only;omega
    ·rw [←hz k, ←zVu (lo:=m-i) (m:=m) (hi:=m+j) (xs:=zs) (zs:=y.1) (by omega) (by omega) (by omega) (fun k=>by rw [hy.2,show m- (m-i)=i by omega]) k,show m+(j-i)=m+j- (m- (m-i)) by omega]
    ·simp only;omega
  ·have he:(i:Int)=(j:Int):=by simpa using he
   omega
  ·have he:(i:Int)=(j:Int):=by simpa using he
   have:i=j:=by omega
   subst this
   exact hz
 ·rintro ⟨zs,s⟩ ⟨hzl,i,hi,hi0,him,hmi,hz⟩
  simp only at hi hzl hz
  subst hi
  refine zG (fun _=> ?_) (fun h=>absurd h (by rw [Nat.beq_refl];decide))
  dsimp only
  rw [zF (x:=(m:Int) - (i:Int)) (by omega) (by omega),show ((m:Int) - (i:Int))=((m-i:Nat):Int) by omega]
  refine zC ((zCG zs (m-i) m i (by omega) (by omega) (by omega)).mono (fun y hy=> ?_))
  refine zG (fun _=>zB ⟨hy.1.trans hzl,fun k=> ?_⟩) (fun h=>absurd h (by rw [zFG (hy.1.trans hzl)];decide))
  rw [←hz k]
  exact zWR (lo:=m-i) (m:=m) (hi:=m+i) (by omega) (by omega) (by omega) (fun k=>by rw [hy.2,show m- (m-i)=i by omega]) k
end
end Go.Ve

namespace Go.Ve
open Go
set_option maxHeartbeats 4000000
section
variable {α κ:Type} {lt:α→α→Prop} {key:α→κ}
structure zMd (lt:α→α→Prop) (key:α→κ):Prop where
 ord:Ord lt
 ne: ∀x y,lt x y→key x≠key y
open Classical in
noncomputable def zLh (key:α→κ) (p:κ) (xs:List α):List α:=xs.filter (fun x=>decide (key x=p))
def zF0 (key:α→κ) (xs ys:List α):Prop:= ∀p,zLh key p xs=zLh key p ys
theorem zF0.refl (xs:List α):zF0 key xs xs:=fun _=>rfl
theorem zF0.trans {xs ys zs:List α} (h1:zF0 key xs ys) (h2:zF0 key ys zs):zF0 key xs zs:=fun p=>(h1 p).trans (h2 p)
theorem zSv (p:κ) (xs ys:List α):zLh key p (xs++ys)=zLh key p xs++zLh key p ys:=List.filter_append ..
theorem zSu {p:κ} {xs:List α} (h: ∀x,x∈xs→key x≠p):zLh key p xs=[]:=by
 unfold zLh
 rw [List.filter_eq_nil_iff]
 intro x hx
 simpa using h x hx
theorem zVq (hk:zMd lt key) {P U V S:List α} (h: ∀x y,x∈U→y∈V→lt y x):zF0 key (P++U++V++S) (P++V++U++S):=by
 intro p
 simp only [zSv]
 congr 1
 rw [List.append_assoc,List.append_assoc]
 congr 1
 by_cases hu: ∃x,x∈U∧key x=p
 ·obtain ⟨x,hx,rfl⟩:=hu
  rw [zSu (xs:=V) (fun y hy=>hk.ne _ _ (h x y hx hy))]
  simp
 ·rw [zSu (xs:=U) (fun x hx e=>hu ⟨x,hx,e⟩)]
  simp
structure yS (key:α→κ) (a b:Nat) (xs ys:List α):Prop where
 len:ys.length=xs.length
 out: ∀k,k<a∨b≤k→ys[k]? =xs[k]?
 ins: ∀q y,a≤q→q<b→ys[q]? =some y→ ∃q',a≤q'∧q'<b∧xs[q']? =some y
 same:zF0 key xs ys
theorem yS.refl (a b:Nat) (xs:List α):yS key a b xs xs:=⟨rfl,fun _ _=>rfl,fun q y h1 h2 h3=>⟨q,h1,h2,h3⟩,zF0.refl xs⟩
theorem yS.trans {a b:Nat} {xs ys zs:List α} (h1:yS key a b xs ys) (h2:yS key a b ys zs):yS key a b xs zs:=by
 refine ⟨h2.len.trans h1.len,fun k hk=>(h2.out k hk).trans (h1.out k hk),?_,h1.same.trans h2.same⟩
 intro q y hq1 hq2 hy
 obtain ⟨q',g1,g2,g3⟩:=h2.ins q y hq1 hq2 hy
 exact h1.ins q' y g1 g2 g3
theorem yS.mono {a b a' b':Nat} {xs ys:List α} (h:yS key a b xs ys) (ha:a'≤a) (hb:b≤b'):yS key a' b' xs ys:=by
 refine ⟨h.len,fun k hk=>h.out k (by omega),?_,h.same⟩
 intro q y hq1 hq2 hy
 by_cases hq:a≤q∧q<b
 ·obtain ⟨q',g1,g2,g3⟩:=h.ins q y hq.1 hq.2 hy
  exact ⟨q',by omega,by omega,g3⟩
 ·exact ⟨q,hq1,hq2,by rw [←h.out q (by omega)];exact hy⟩
def wS (lt:α→α→Prop) (lo hi:Nat) (xs:List α):Prop:= ∀p q x y,lo≤p→p<q→q<hi→xs[p]? =some x→xs[q]? =some y→ ¬lt y x
theorem wS.out {lo hi a b:Nat} {xs ys:List α} (h:wS lt lo hi xs) (hs:yS key a b xs ys) (hd:hi≤a∨b≤lo):wS lt lo hi ys:=by
 intro p q x y h1 h2 h3 hx hy
 rw [hs.out p (by omega)] at hx
 rw [hs.out q (by omega)] at hy
 exact h p q x y h1 h2 h3 hx hy
theorem zIz {a c b:Nat} {xs:List α} (h1:wS lt a c xs) (h2:wS lt c b xs) (h3: ∀q r x y,a≤q→q<c→c≤r→r<b→xs[q]? =some x→xs[r]? =some y→ ¬lt y x):wS lt a b xs:=by
 intro p q x y hp hpq hq hx hy
 by_cases g1:q<c
 ·exact h1 p q x y hp hpq g1 hx hy
 ·by_cases g2:p<c
  ·exact h3 p q x y hp g2 (by omega) hq hx hy
  ·exact h2 p q x y (by omega) hpq hq hx hy
theorem zVn {a:Nat} {xs:List α} :wS lt a (a+1) xs:=fun p q x y h1 h2 h3 _ _=>by omega
theorem wS.sub {a b a' b':Nat} {xs:List α} (h:wS lt a b xs) (ha:a≤a') (hb:b'≤b):wS lt a' b' xs:=fun p q x y h1 h2 h3 hx hy=>h p q x y (by omega) h2 (by omega) hx hy
theorem zJF (hk:zMd lt key) {lo m hi:Nat} {xs zs:List α} (h1:lo≤m) (h2:m≤hi) (h3:hi≤xs.length) (hl:zs.length=xs.length) (h: ∀k,zs[k]? =yG lo m hi xs k)
  (hlt: ∀q r x y,lo≤q→q<m→m≤r→r<hi→xs[q]? =some x→xs[r]? =some y→lt y x):yS key lo hi xs zs:=by
 have hsplit:xs=xs.take lo++(xs.drop lo).take (m-lo)++(xs.drop m).take (hi-m)++xs.drop hi:=by
  refine List.ext_getElem? (fun k=> ?_)
  simp only [List.getElem?_append,List.length_append,List.length_take,List.length_drop,List.getElem?_take,List.getElem?_drop]
  repeat' split
  all_goals first
   |rfl
   |exact zAu (by omega)
   |(exfalso;omega)
 have hz:zs=xs.take lo++(xs.drop m).take (hi-m)++(xs.drop lo).take (m-lo)++xs.drop hi:=by
  refine List.ext_getElem? (fun k=> ?_)
  rw [h]
  unfold yG
  simp only [List.getElem?_append,List.length_append,List.length_take,List.length_drop,List.getElem?_take,List.getElem?_drop]
  repeat' split
  all_goals first
   |rfl
   |exact zAu (by omega)
   |(exfalso;omega)
 refine ⟨hl,?_,?_,?_⟩
 ·intro k hk'
  rw [h]
  unfold yG
  rw [if_neg (by omega),if_neg (by omega)]
 ·intro q y hq1 hq2 hy
  rw [h] at hy
  unfold yG at hy
  split at hy
  ·exact ⟨q+(m-lo),by omega,by omega,hy⟩
  ·split at hy
   ·exact ⟨q- (hi-m),by omega,by omega,hy⟩
   ·exact ⟨q,hq1,hq2,hy⟩
 ·have hs:=zVq hk (P:=xs.take lo) (U:=(xs.drop lo).take (m-lo)) (V:=(xs.drop m).take (hi-m)) (S:=xs.drop hi) ?_
  ·rw [←hsplit, ←hz] at hs
   exact hs
  ·intro x y hx hy
   obtain ⟨i,hi',hx'⟩:=List.getElem_of_mem hx
   obtain ⟨j,hj',hy'⟩:=List.getElem_of_mem hy
   have e1:xs[lo+i]? =some x:=by
    have:((xs.drop lo).take (m-lo))[i]? =some x:=by rw [List.getElem?_eq_getElem hi',hx']
    rw [List.getElem?_take,List.getElem?_drop] at this
    split at this
    ·exact this
    ·cases this
   have e2:xs[m+j]? =some y:=by
    have:((xs.drop m).take (hi-m))[j]? =some y:=by rw [List.getElem?_eq_getElem hj',hy']
    rw [List.getElem?_take,List.getElem?_drop] at this
    split at this
    ·exact this
    ·cases this
   simp only [List.length_take,List.length_drop] at hi' hj'
   exact hlt (lo+i) (m+j) x y (by omega) (by omega) (by omega) (by omega) e1 e2
theorem zYD {a k:Nat} {xs zs:List α} (hak:a≤k) (hk:k+1<xs.length) (hl:zs.length=xs.length) (h: ∀j,zs[j]? =yG a (a+1) (k+1) xs j) {x y:α} (hx:zs[k]? =some x) (hy:zs[k+1]? =some y):
  ∀j,((zs.set k y).set (k+1) x)[j]? =yG a (a+1) (k+2) xs j:=by
 intro j
 have h1:=h k
 have h2:=h (k+1)
 unfold yG at h1 h2
 rw [hx,if_neg (by omega),if_pos (by omega)] at h1
 rw [hy,if_neg (by omega),if_neg (by omega)] at h2
 unfold yG
 by_cases e1:j=k+1
 ·subst e1
  rw [List.getElem?_set_self (by rw [List.length_set];omega),if_neg (by omega),if_pos (by omega),h1]
  exact zAu (by omega)
 ·rw [List.getElem?_set_ne (by omega)]
  by_cases e2:j=k
  ·subst e2
   rw [List.getElem?_set_self (by omega),if_pos (by omega),h2]
   exact zAu (by omega)
  ·rw [List.getElem?_set_ne (by omega),h j]
   unfold yG
   repeat' split
   all_goals first
    |rfl
    |exact zAu (by omega)
    |(exfalso;omega)
theorem zPD {m k:Nat} {xs zs:List α} (hk0:0<k) (hkm:k≤m) (hm:m<xs.length) (hl:zs.length=xs.length) (h: ∀j,zs[j]? =yG k m (m+1) xs j) {x y:α} (hx:zs[k]? =some x) (hy:zs[k-1]? =some y):
  ∀j,((zs.set k y).set (k-1) x)[j]? =yG (k-1) m (m+1) xs j:=by
 intro j
 have h1:=h k
 have h2:=h (k-1)
 unfold yG at h1 h2
 rw [hx,if_pos (by omega)] at h1
 rw [hy,if_neg (by omega),if_neg (by omega)] at h2
 unfold yG
 by_cases e1:j=k-1
 ·subst e1
  rw [List.getElem?_set_self (by rw [List.length_set];omega),if_pos (by omega),h1]
  exact zAu (by omega)
 ·rw [List.getElem?_set_ne (by omega)]
  by_cases e2:j=k
  ·subst e2
   rw [List.getElem?_set_self (by omega),if_neg (by omega),if_pos (by omega),h2]
   exact zAu (by omega)
  ·rw [List.getElem?_set_ne (by omega),h j]
   unfold yG
   repeat' split
   all_goals first
    |rfl
    |exact zAu (by omega)
    |(exfalso;omega)
theorem zWS {a:Nat} {xs:List α} (j:Nat):yG a (a+1) (a+1) xs j=xs[j]? :=by
 unfold yG
 repeat' split
 all_goals first
  |rfl
  |exact zAu (by omega)
  |(exfalso;omega)
theorem zRS {m:Nat} {xs:List α} (j:Nat):yG m m (m+1) xs j=xs[j]? :=by
 unfold yG
 repeat' split
 all_goals first
  |rfl
  |exact zAu (by omega)
  |(exfalso;omega)
end
theorem zQF (i j:Nat) (h:i+j<4611686018427387904):IntKind.wrap .i64 (Int.fdiv (IntKind.wrap .u64 (IntKind.wrap .i64 ((i:Int)+(j:Int)))) ((2:Int)^min (Int.toNat (1:Int)) (IntKind.bits .u64)))=(((i+j) / 2:Nat):Int):=by
 have e:((2:Int)^min (Int.toNat (1:Int)) (IntKind.bits .u64))=2:=by decide
 rw [e,zF (x:=(i:Int)+(j:Int)) (by omega) (by omega),zJi (x:=(i:Int)+(j:Int)) (by omega) (by omega),Int.fdiv_eq_ediv_of_nonneg _ (by omega)]
 rw [zF (by omega) (by omega)]
 omega
end Go.Ve

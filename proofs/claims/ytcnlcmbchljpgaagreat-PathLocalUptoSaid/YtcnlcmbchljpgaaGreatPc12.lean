/-
  Plain laws: interfaces that are up.
  Plain laws: masks, networks, and what prefixes contain.
  Plain laws: what the checks of a network say of its interfaces and static routes.
  Plain laws: what the checks of a network say.
  Plain laws: prefixes in order; the sorting of routes; connected routes.
  Plain laws: preference of routes; insertion into ordered lists; the prefixes of routes; hops added.
  Plain laws: static routes that are active.
  Plain laws: the prefixes of routes; hops added; routes merged.
  Plain laws: routes merged.
  Plain laws: connected routes: sorted, and valid; static routes are valid.
  Plain laws: merging where prefixes differ; the reference's connected and active routes.
  Plain laws: ranges swapped and rotated, stated place by place.
  Functions out of code: sorting, for any elements and any comparison.
  Plain laws: ranges swapped and rotated: the walks.
  Plain laws: stable merging in place: what the steps keep.
  Plain laws: stable merging in place: the walk.
-/
import Derived.Test.YtcnlcmbchljpgaaGreatPc11
import Derived.Test.YtcnlcmbchljpgaaGreatPc9
set_option linter.unusedVariables false
namespace Go.Ve
open Go
set_option maxRecDepth 1000000
set_option maxHeartbeats 4000000
def zHt (e y:Ty.El zQ):Bool:=y.1==e.1&&(y.2.1==e.2.1&&true)
theorem zYU {e y:Ty.El zQ} :zHt e y=true↔y=e:=⟨fun h=>zFF h,fun h=>by subst h;simp [zHt]⟩
def yI (v:Ty.El zO) (r i:Int):Int:=uM (fun d:Ty.El zAg=>d.2.2.1.any (zHt (r,i,()))) v.2.1.1
def zHZ (v:Ty.El zO) (r i:Int):Int:=uM (fun l:Int=>decide (yI v r i≥0)&&l==yI v r i) v.2.1.2.1
def upB (v:Ty.El zO) (r i:Int):Bool:=decide (0≤yI v r i)&&v.2.2.1.all (fun x:Int=> !(x==zHZ v r i))
structure zAC (v:Ty.El zO):Prop where
 rs:v.1.1.length≤9
 sm: ∀y,y∈v.1.1→SmR y
 doms:v.2.1.1.length≤360
 ends : ∀ d, d ∈ v.2.1.1 → d.2.2.1.length ≤ 360
 links:v.2.1.2.1.length≤12
 link0: ∀l,l∈v.2.1.2.1→(0:Int)≤l
 down:v.2.2.1.length≤2
 down0: ∀l,l∈v.2.2.1→(0:Int)≤l
theorem zMx.s {n:Ty.El zZ} {d:List Int} {v:Ty.El zO} (h:zMx n d v):zAC v where
 rs:=by rw [h.net];exact h.rs
 sm:=by rw [h.net];exact h.sm
 doms:=h.topo.doms
 ends := fun d hd => (h.topo.ends d hd).1
 links:=h.topo.links
 link0:=fun l hl=>(h.topo.link l hl).1
 down:=by rw [h.dn];exact h.down.len
 down0:=by rw [h.dn];exact fun l hl=>(h.down.lo l hl).1
theorem zHp {α:Type} {p:α→Bool} {xs:List α} :uM p xs≥0↔xs.any p=true:=by
 rcases zDQ p xs with ⟨h,h2⟩|⟨i,x,h,h2,h3,_⟩
 ·rw [h]
  constructor
  ·intro h';omega
  ·intro h'
   obtain ⟨x,hx,hp⟩:=List.any_eq_true.1 h'
   rw [h2 x hx] at hp
   cases hp
 ·rw [h]
  exact ⟨fun _=>List.any_eq_true.2 ⟨x,List.mem_of_getElem? h2,h3⟩,fun _=>by omega⟩
theorem zFY {α:Type} {p:α→Bool} {xs:List α} (h:0≤uM p xs): ∃x,xs[(uM p xs).toNat]? =some x∧p x=true:=by
 rcases zDQ p xs with ⟨h1,h2⟩|⟨i,x,h1,h2,h3,_⟩
 ·omega
 ·rw [h1];exact ⟨x,by simpa using h2,h3⟩
theorem zGv (l:List (Ty.El zQ)) (e:Ty.El zQ) (hl:l.length≤1048576):Wp (zAk (l,e,())) (fun k=>k=uM (zHt e) l):=by
 unfold zAk
 dsimp only
 refine kG (p:=zHt e) (by omega) ?_ rfl
 intro i x hx
 simp only [zJ hx,Option.bind_some]
 have:(e.1==x.1&&(e.2.1==x.2.1&&true))=zHt e x:=by
  unfold zHt
  rw [Bool.eq_iff_iff]
  simp only [Bool.and_true,Bool.and_eq_true,beq_iff_eq]
  exact ⟨fun h=>⟨h.1.symm,h.2.symm⟩,fun h=>⟨h.1.symm,h.2.symm⟩⟩
 rw [this]
 cases zHt e x<;>rfl
theorem zEB (l:List (Ty.El zQ)) (e:Ty.El zQ) (hl:l.length≤1048576):Wp (uP (l,e,())) (fun b=>b=l.any (zHt e)):=by
 unfold uP
 dsimp only
 refine zC ((zGv l e hl).mono (fun k hk=>zB ?_))
 subst hk
 rw [Bool.eq_iff_iff,decide_eq_true_eq]
 exact zHp
theorem zCg (v:Ty.El zO) (r i:Int) (hv:zAC v):Wp (zBe (v,r,i,())) (fun k=>k=yI v r i):=by
 unfold zBe
 dsimp only
 have:=hv.doms
 refine kG (p:=fun d:Ty.El zAg=>d.2.2.1.any (zHt (r,i,()))) (by omega) ?_ rfl
 intro k x hx
 simp only [zJ hx,Option.bind_some]
 have:=hv.ends x (List.mem_of_getElem? hx)
 have h1:=wK (zEB x.2.2.1 (r,i,()) (by omega))
 refine (congrArg (fun m=>Option.bind m _) h1).trans ?_
 simp only [Option.bind_some]
 cases List.any x.2.2.1 (zHt (r,i,()))<;>rfl
theorem zEf (v:Ty.El zO) (r i:Int) (hv:zAC v):Wp (zBH (v,r,i,())) (fun k=>k=yI v r i):=by
 unfold zBH
 dsimp only
 have:=hv.doms
 refine uN (by omega) (fun k=> ∀j y,j<k→v.2.1.1[j]? =some y→y.2.2.1.any (zHt (r,i,()))=false) (fun j y hj=>by omega) ?_ ?_
 ·intro k x hx hj
  have hends:=hv.ends x (List.mem_of_getElem? hx)
  simp only [zJ hx,Option.bind_some]
  refine uN (xs:=x.2.2.1) (by omega) (fun m=> ∀y,y∈x.2.2.1.take m→zHt (r,i,()) y=false) (fun y hy=>by simp at hy) ?_ ?_
  ·intro m y hy hm
   simp only [zJ hy,Option.bind_some]
   refine zF (fun h=>zB (e2r (e2r (e2r (e2r ?_))))) (fun h=>zB (e2l ⟨rfl,?_⟩))
   ·have h1:x.2.2.1.any (zHt (r,i,()))=true:=List.any_eq_true.2 ⟨y,List.mem_of_getElem? hy,h⟩
    exact (zV2 (p:=fun d:Ty.El zAg=>d.2.2.1.any (zHt (r,i,()))) hx h1 hj).symm
   ·intro z hz
    rw [List.take_add_one,hy] at hz
    simp only [Option.toList_some,List.mem_append,List.mem_singleton] at hz
    rcases hz with hz|rfl
    ·exact hm z hz
    ·exact h
  ·intro hm
   rw [List.take_length] at hm
   refine zB (e2l ⟨rfl,?_⟩)
   intro j y hj' hy
   rcases Nat.lt_or_ge j k with h'|h'
   ·exact hj j y h' hy
   ·have:j=k:=by omega
    subst this
    rw [hx] at hy
    cases hy
    rw [Bool.eq_false_iff]
    intro h
    obtain ⟨z,hz,hz2⟩:=List.any_eq_true.1 h
    rw [hm z hz] at hz2
    cases hz2
 ·intro hj
  refine zB (zH4 ?_).symm
  intro x hx
  obtain ⟨j,hjl,rfl⟩:=List.getElem_of_mem hx
  exact hj j _ hjl (by simp [hjl])
theorem zB5 (l:List Int) (e:Int) (hl:l.length≤1048576):Wp (u4 (l,e,())) (fun k=>k=uM (fun x=>x==e) l):=by
 unfold u4
 dsimp only
 refine kG (p:=fun x:Int=>x==e) (by omega) ?_ rfl
 intro i (x:Int) hx
 simp only [zJ hx,Option.bind_some]
 have:(e==x)=(x==e):=by rw [Bool.eq_iff_iff,beq_iff_eq,beq_iff_eq];exact eq_comm
 rw [this]
 cases x==e<;>rfl
theorem zAK (l:List Int) (e:Int) (hl:l.length≤1048576):Wp (vH (l,e,())) (fun b=>b=l.any (fun x=>x==e)):=by
 unfold vH
 dsimp only
 refine zC ((zB5 l e hl).mono (fun k hk=>zB ?_))
 subst hk
 rw [Bool.eq_iff_iff,decide_eq_true_eq]
 exact zHp
theorem zOa (v:Ty.El zO) (r i:Int) (hv:zAC v):Wp (zHQ (v,r,i,())) (fun k=>k=zHZ v r i):=by
 unfold zHQ
 dsimp only
 refine zC ((zCg v r i hv).mono (fun k hk=> ?_))
 subst hk
 refine zI (fun h=>zB ?_) (fun h=> ?_)
 ·unfold zHZ
  rw [zH4]
  intro x _
  have: ¬(yI v r i≥0):=by omega
  simp [this]
 ·have:=hv.links
  refine zC ((zB5 _ _ (by omega)).mono (fun k hk=>zB ?_))
  rw [hk]
  unfold zHZ
  have h2:yI v r i≥0:=by omega
  congr 1
  funext l
  simp [h2]
theorem zM7 (v:Ty.El zO) (r i:Int) (hv:zAC v):Wp (zFD (v,r,i,())) (fun k=>k=zHZ v r i):=by
 unfold zFD
 dsimp only
 refine zC ((zEf v r i hv).mono (fun k hk=> ?_))
 subst hk
 have:=hv.links
 refine kG (p:=fun l:Int=>decide (yI v r i≥0)&&l==yI v r i) (by omega) ?_ rfl
 intro i' (x:Int) hx
 simp only [zJ hx,Option.bind_some]
 cases decide (yI v r i≥0)<;>cases x==yI v r i<;>rfl
theorem zUa {α:Type} {p:α→Bool} (l:List α):(!l.any p)=l.all (fun x=> !p x):=by
 induction l with
 |nil=>rfl
 |cons x l ih=>simp [←ih]
theorem zFv (v:Ty.El zO) (r i:Int) (hv:zAC v):Wp (zHP (v,r,i,())) (fun b=>b=upB v r i):=by
 unfold zHP
 dsimp only
 refine zC ((zCg v r i hv).mono (fun k hk=> ?_))
 subst hk
 refine zI (fun h=>zB ?_) (fun h=> ?_)
 ·unfold upB
  have: ¬(0≤yI v r i):=by omega
  simp [this]
 ·refine zC ((zOa v r i hv).mono (fun k hk=> ?_))
  subst hk
  have h0:0≤yI v r i:=by omega
  have hd:=hv.down
  refine zC (zI (fun h=>zB (zB ?_)) (fun h=> ?_))
  ·unfold upB
   simp only [h0,decide_true,Bool.true_and]
   symm
   rw [List.all_eq_true]
   intro x hx
   have:=hv.down0 x hx
   simp only [Bool.not_eq_true',beq_eq_false_iff_ne]
   omega
  ·refine zC ((zAK _ _ (by omega)).mono (fun b hb=>zB (zB ?_)))
   subst hb
   unfold upB
   simp only [h0,decide_true,Bool.true_and]
   exact zUa _
theorem zIM (v:Ty.El zO) (r i:Int) (hv:zAC v):Wp (zG5 (v,r,i,())) (fun b=>b=upB v r i):=by
 unfold zG5
 dsimp only
 refine zC ((zEf v r i hv).mono (fun k hk=> ?_))
 subst hk
 refine zI (fun h=>zB ?_) (fun h=> ?_)
 ·unfold upB
  have: ¬(0≤yI v r i):=by omega
  simp [this]
 ·refine zC ((zM7 v r i hv).mono (fun k hk=> ?_))
  subst hk
  have h0:0≤yI v r i:=by omega
  have hd:=hv.down
  refine zBs (P:=fun x:Int=>(x==zHZ v r i)=false) (by omega) ?_ (fun hall=>zB ?_)
  ·intro i' (x:Int) hx
   simp only [zJ hx,Option.bind_some]
   refine zF (fun h=>zB (e2r (e2r ?_))) (fun h=>zB (e2l ⟨rfl,h⟩))
   unfold upB
   simp only [h0,decide_true,Bool.true_and]
   symm
   rw [Bool.eq_false_iff]
   intro hh
   have:=List.all_eq_true.1 hh x (List.mem_of_getElem? hx)
   simp [h] at this
  ·unfold upB
   simp only [h0,decide_true,Bool.true_and]
   symm
   rw [List.all_eq_true]
   intro x hx
   simp [hall x hx]
def zHn (r:Ty.El zD) (nm:Ty.El .str):Int:=uM (fun x:Ty.El qC=>x.1==nm) r.2.2.1
theorem zGZ (r:Ty.El zD) (nm:Ty.El .str) (hr:SmR r):Wp (zA1 (r,nm,())) (fun k=>k=zHn r nm):=by
 unfold zA1 wS zA9
 dsimp only
 have:=hr.i1
 refine zC (kG (p:=fun x:Ty.El qC=>x.1==nm) (by omega) ?_ (zB rfl))
 intro i x hx
 simp only [zJ hx,Option.bind_some]
 cases x.1==nm<;>rfl
theorem zCZ (r:Ty.El zD) (nm:Ty.El .str) (hr:SmR r):Wp (v6 (r,nm,())) (fun k=>k=zHn r nm):=by
 unfold v6
 dsimp only
 have:=hr.i1
 refine kG (p:=fun x:Ty.El qC=>x.1==nm) (by omega) ?_ rfl
 intro i x hx
 simp only [zJ hx,Option.bind_some]
 cases x.1==nm<;>rfl
end Go.Ve

namespace Go.Ve
open Go
set_option maxRecDepth 1000000
set_option maxHeartbeats 4000000
def w5 (n:Int):Nat:=min n.toNat 32
def zC2 (k:Nat):BitVec 32:=BitVec.allOnes 32<<< (32-k)
theorem zRa (n:Int):w5 n≤32:=Nat.min_le_right _ _
theorem zXn {x:Int} (h0:0≤x) (h1:x<4294967296):IntKind.wrap .u32 x=x:=by
 have e1:((2:Int)^IntKind.bits .u32)=4294967296:=by decide
 simp only [IntKind.wrap,IntKind.signed,Bool.false_and,Bool.false_eq_true,if_false,e1]
 omega
theorem zRg (x:BitVec 32):IntKind.wrap .u32 (x.toNat:Int)=(x.toNat:Int):=zXn (by omega) (by have:=x.isLt;omega)
theorem zON (x:BitVec 32):BitVec.ofInt 32 (x.toNat:Int)=x:=by
 rw [BitVec.ofInt_natCast,BitVec.ofNat_toNat,BitVec.setWidth_eq]
theorem zWl: ∀i,i<32→zC2 i|||BitVec.ofInt 32 (IntKind.wrap .u32 (1*2^min (31-i) 32))=zC2 (i+1):=by decide+kernel
theorem zWI:zC2 0=0#32:=by decide+kernel
theorem zSj: ∀k,k<33→IntKind.wrap .u32 (4294967295*2^min (32-k) 32)=((zC2 k).toNat:Int):=by decide+kernel
theorem zDy (n:Int):Wp (zBh (n,())) (fun m=>m=((zC2 (w5 n)).toNat:Int)):=by
 unfold zBh
 dsimp only
 refine zC ((zSn (n:=32) (by omega) (fun i (m:Int)=>m=((zC2 (min i (w5 n))).toNat:Int)) (by simp [zWI]) (fun i g _=>by simp) ?_ (Q:=fun m=>m=((zC2 (w5 n)).toNat:Int)) (fun g hg=>by
  rw [hg,Nat.min_eq_right (zRa n)])).mono (fun m hm=>zB hm))
 intro i g hi hg
 subst hg
 refine zI (fun h=> ?_) (fun h=>zB ?_)
 ·have h:(i:Int)<n:=h
  have hk:i<w5 n:=by unfold w5;omega
  refine zI (fun _=>zB ?_) (fun h'=>absurd ?_ h')
  ·have e1:min i (w5 n)=i:=by omega
   have e2:min (i+1) (w5 n)=i+1:=by omega
   rw [e1,e2]
   dsimp only
   rw [zH (by omega) (by omega),zJ3 (by omega) (by omega),show ((31:Int) - (i:Int)).toNat=31-i by omega]
   change IntKind.wrap .u32 (((BitVec.ofInt 32 ((zC2 i).toNat:Int)|||BitVec.ofInt 32 (IntKind.wrap .u32 (1*2^min (31-i) 32))).toNat:Nat):Int)=_
   rw [zON,zWl i hi,zRg]
  ·simp only
   rw [zH (by omega) (by omega),zJ3 (by omega) (by omega)]
   omega
 ·have h: ¬((i:Int)<n):=h
  have hk:w5 n≤i:=by unfold w5;omega
  rw [Nat.min_eq_right hk,Nat.min_eq_right (by omega)]
theorem zTR (n:Int):(if (if (32:Int)<n then (32:Int) else n)>(0:Int) then if (32:Int)<n then (32:Int) else n else (0:Int))=(w5 n:Int):=by
 unfold w5
 split<;>split<;>omega
theorem zW8 (n:Int):(if (0:Int)>if (32:Int)<n then (32:Int) else n then (0:Int) else if (32:Int)<n then (32:Int) else n)=(w5 n:Int):=by
 unfold w5
 split<;>split<;>omega
theorem zVl (n:Int):w5 ((w5 n:Nat):Int)=w5 n:=by
 unfold w5
 omega
theorem zG0 (n:Int):zDr (n,())=some ((zC2 (w5 n)).toNat:Int):=by
 have hle:=zRa n
 unfold zDr zCp
 simp only [zTR,Option.bind_some]
 rw [zH (by omega) (by omega)]
 have h0:(0:Int)≤32- ((w5 n:Nat):Int):=by omega
 simp only [h0,decide_true,cond_true]
 rw [show ((32:Int) - ((w5 n:Nat):Int)).toNat=32-w5 n by omega]
 exact congrArg some (zSj _ (by omega))
def zGH (a n:Int):Ty.El zG:=(((BitVec.ofInt 32 a&&&zC2 (w5 n)).toNat:Int),(w5 n:Int),())
def zCd (p:Ty.El zG) (a:Int):Bool:=(((BitVec.ofInt 32 a&&&zC2 (w5 p.2.1)).toNat:Nat):Int)==p.1
theorem zSh (a:Int) (k:Nat):IntKind.wrap .u32 (((BitVec.ofInt (IntKind.bits .u32) a&&&BitVec.ofInt (IntKind.bits .u32) ((zC2 k).toNat:Int)).toNat:Nat):Int)=((BitVec.ofInt 32 a&&&zC2 k).toNat:Int):=by
 change IntKind.wrap .u32 (((BitVec.ofInt 32 a&&&BitVec.ofInt 32 ((zC2 k).toNat:Int)).toNat:Nat):Int)=_
 rw [zON,zRg]
theorem zKk (a n:Int):zDi (a,n,())=some (zGH a n):=by
 refine wK ?_
 unfold zDi
 dsimp only
 refine zC (qE (zG0 _) ?_)
 unfold zCp
 simp only [zTR,Option.bind_some]
 refine zB ?_
 unfold zGH
 rw [zSh]
theorem zBw (a n:Int):wO (a,n,())=some (zGH a n):=by
 refine wK ?_
 unfold wO
 simp only [zW8]
 refine zC ((zDy _).mono (fun m hm=>zB ?_))
 subst hm
 unfold zGH
 rw [zVl,zSh]
theorem zDz (p:Ty.El zG) (a:Int):uC (p,a,())=some (zCd p a):=by
 refine wK ?_
 unfold uC
 dsimp only
 refine zC ((zDy _).mono (fun m hm=>zB ?_))
 subst hm
 rw [zSh]
 rfl
theorem zDB (p:Ty.El zG) (a:Int):wJ (p,a,())=some (zCd p a):=by
 refine wK ?_
 unfold wJ
 dsimp only
 refine zC (qE (zG0 _) (zB ?_))
 rw [zSh]
 rfl
theorem zPw (p:Ty.El zG) (a:Int):zQs p a=zCd p a:=by
 have:=zV7 p a
 rw [zDB] at this
 exact (Option.some.inj this).symm
theorem zAi (p q:Ty.El zG):vQ (p,q,())=some (decide (p.2.1≤q.2.1)&&zCd p q.1):=by
 refine wK ?_
 unfold vQ
 dsimp only
 refine zC (zF (fun h=>zC (qE (zDz _ _) (zB (zB ?_)))) (fun h=>zB (zB ?_)))<;>(rw [h];rfl)
theorem zJf (p q:Ty.El zG):uB (p,q,())=some ((decide (p.2.1≤q.2.1)&&zCd p q.1)||(decide (q.2.1≤p.2.1)&&zCd q p.1)):=by
 refine wK ?_
 unfold uB
 dsimp only
 refine zC (zC (qE (zAi _ _) (zF (fun h=>zB (zB ?_)) (fun h=>zC (qE (zAi _ _) (zB (zB ?_)))))))<;>(rw [h];rfl)
def zAE (p:Ty.El zG):Bool:=decide (p.2.1≥0)&&(decide (p.2.1≤32)&&(BitVec.ofInt 32 p.1&&& ~~~ zC2 (w5 p.2.1))==0#32)
theorem xB (p:Ty.El zG):wY (p,())=some (zAE p):=by
 refine wK ?_
 unfold wY zAE
 dsimp only
 refine zC (zF (fun h=>zF (fun h'=>zC ((zDy _).mono (fun m hm=>zB (zB ?_)))) (fun h'=>zB (zB ?_))) (fun h=>zB (zB ?_)))
 ·subst hm
  rw [h,h']
  simp only [Bool.true_and]
  change (IntKind.wrap .u32 (((BitVec.ofInt 32 p.1&&& ~~~ BitVec.ofInt 32 ((zC2 (w5 p.2.1)).toNat:Int)).toNat:Nat):Int)==(0:Int))=_
  rw [zON,zRg,Bool.eq_iff_iff,beq_iff_eq,beq_iff_eq]
  constructor
  ·intro h
   apply BitVec.eq_of_toNat_eq
   simp only [BitVec.toNat_ofNat]
   omega
  ·intro h
   rw [h];rfl
 ·rw [h,h'];rfl
 ·rw [h];rfl
end Go.Ve

namespace Go.Ve
open Go
set_option maxRecDepth 1000000
set_option maxHeartbeats 4000000
section
variable {ρ:Type}
theorem zZm {n:Nat} {body:Int→Option (Int ⊕ (Unit ⊕ ρ))} {Q:Unit ⊕ ρ→Prop} (hl:n<4611686018427387904) (J:Nat→Prop) (h0:J 0)
  (step: ∀i,i<n→J i→Wp (body (i:Int)) (wU (fun s'=>s'=IntKind.wrap IntKind.i64 ((i:Int)+1)∧J (i+1)) Q)) (fin:J n→Q (Sum.inl ())):
  Wp (zK (fun s:Int=>bif decide (s< (n:Int)) then body s else some (Sum.inr (Sum.inl ()))) (0:Int)) Q:=by
 refine j4 (fun (s:Int)=> ∃i:Nat,s=(i:Int)∧i≤n∧J i) (fun (s:Int)=>((n:Int) -s).toNat) ⟨(0:Nat),rfl,Nat.zero_le _,h0⟩ ?_
 rintro s ⟨i,hi,hle,hj⟩
 subst hi
 refine zI ?_ ?_
 ·intro hc
  have hlt:i<n:=by omega
  refine (step i hlt hj).mono ?_
  intro o ho
  cases o with
  |inl s'=>
   obtain ⟨rfl,h2⟩:=ho
   rw [zH (by omega) (by omega)]
   exact ⟨⟨i+1,by omega,hlt,h2⟩,by omega⟩
  |inr o=>exact ho
 ·intro hc
  have:i=n:=by omega
  subst this
  exact zB (e2r (fin hj))
theorem zCr {n:Nat} {P:Nat→Prop} {body:Int→Option (Int ⊕ (Unit ⊕ ρ))} {Q:Unit ⊕ ρ→Prop} (hl:n<4611686018427387904)
  (step: ∀i,i<n→Wp (body (i:Int)) (wU (fun s'=>s'=IntKind.wrap IntKind.i64 ((i:Int)+1)∧P i) Q)) (fin:(∀i,i<n→P i)→Q (Sum.inl ())):
  Wp (zK (fun s:Int=>bif decide (s< (n:Int)) then body s else some (Sum.inr (Sum.inl ()))) (0:Int)) Q:=by
 refine zZm hl (fun i=> ∀j,j<i→P j) (fun j hj=>by omega) ?_ fin
 intro i hi hj
 refine (step i hi).mono ?_
 intro o ho
 cases o with
 |inl s'=>
  refine ⟨ho.1,?_⟩
  intro j hj'
  rcases Nat.lt_or_ge j i with h'|h'
  ·exact hj j h'
  ·have:j=i:=by omega
   subst this
   exact ho.2
 |inr o=>exact ho
end
theorem zVG {σ ρ:Type} {m:Option (σ ⊕ ρ)} {K:σ→Option ρ} {Q:ρ→Prop} (P:σ→Prop) (h:Wp m (wU P Q)) (hK: ∀s,P s→Wp (K s) Q):Wp (qM m K) Q:=by
 refine z6 (h.mono ?_)
 intro o ho
 cases o with
 |inl s=>exact hK s ho
 |inr r=>exact ho
theorem qI (a lo hi:Int):zV (a,lo,hi,())=some (decide (lo≤a)&&decide (a≤hi)):=by
 refine wK ?_
 unfold zV
 dsimp only
 refine zC (zF (fun h=>zB (zB ?_)) (fun h=>zB (zB ?_)))<;>(rw [h];rfl)
def ovB (p q:Ty.El zG):Bool:=(decide (p.2.1≤q.2.1)&&zCd p q.1)||(decide (q.2.1≤p.2.1)&&zCd q p.1)
structure qAx (l:List (Ty.El qC)) (i:Nat) (x:Ty.El qC):Prop where
 name: ∀j y,j<i→l[j]? =some y→y.1≠x.1
 len:0≤x.2.2.1∧x.2.2.1≤32
 addr:x.2.2.1≠0→x.2.1≠0
 ls:x.2.2.2.2.2.1=true→(0≤x.2.2.2.2.2.2.1∧x.2.2.2.2.2.2.1≤255)∧1≤x.2.2.2.2.2.2.2.1∧x.2.2.2.2.2.2.2.1≤65535
 apart: ∀j y,j<i→l[j]? =some y→x.2.2.1≠0→y.2.2.1≠0→ovB (zGH x.2.1 x.2.2.1) (zGH y.2.1 y.2.2.1)=false
def qAw (l:List (Ty.El qC)):Prop:= ∀i x,l[i]? =some x→qAx l i x
theorem zPy (l:List (Ty.El qC)) (h0:l.length≤20):Wp (kE (l,())) (fun e=>e=0→qAw l∧l.length≤8):=by
 unfold kE
 dsimp only
 refine zI (fun _=>zB (fun h=>by cases h)) (fun h=> ?_)
 refine uN (by omega) (fun i=> ∀m x,m<i→l[m]? =some x→qAx l m x) (fun m x hm=>by omega) ?_ (fun hj=>zB (fun _=>⟨fun i x hx=>hj i x (List.getElem?_eq_some_iff.1 hx).1 hx,by omega⟩))
 intro i x hx hj
 have hi:=(List.getElem?_eq_some_iff.1 hx).1
 simp only [zJ hx,Option.bind_some]
 refine z6 (zC ((k9 _).mono (fun b _=> ?_)))
 refine zF (fun _=>zB (fun h=>by cases h)) (fun _=> ?_)
 refine z6 (zCr (n:=i) (P:=fun j=> ∀y,l[j]? =some y→y.1≠x.1) (by omega) ?_ (fun hname=> ?_))
 ·intro j hjl
  have hy:l[j]? =some l[j]:=by simp
  simp only [zJ hy,Option.bind_some]
  refine zF (fun _=>zB (fun h=>by cases h)) (fun hn=>zB (e2l ⟨rfl,?_⟩))
  intro y hy'
  rw [hy] at hy'
  cases hy'
  simpa using hn
 ·refine e2l (zC ((show Wp _ (fun s:Bool=>s=false→0≤x.2.2.1∧x.2.2.1≤32) from ?_).mono (fun s hs=> ?_)))
  ·refine zC (qE (qI _ _ _) (zF (fun _=>zB (fun h=>by cases h)) (fun h1=>zC (qE (qI _ _ _) (zF (fun _=>zB (fun h=>by cases h)) (fun _=>zC (qE (qI _ _ _) (zB (fun _=> ?_)))))))))
   simpa using h1
  refine zF (fun _=>zB (fun h=>by cases h)) (fun h1=> ?_)
  have hlen:=hs h1
  refine zC ((show Wp _ (fun s:Bool=>s=false→x.2.2.1≠0→x.2.1≠0) from ?_).mono (fun s hs=> ?_))
  ·refine zF (fun hz=> ?_) (fun hz=> ?_)
   ·have hz:x.2.2.1=0:=by simpa using hz
    repeat' (first
     |exact zB (fun _ hne=>absurd hz hne)
     |refine zF (fun _=> ?_) (fun _=> ?_))
   ·refine zF (fun _=>zB (fun h' _=>by simpa using h')) (fun h'=>zB (fun _ hne=> ?_))
    rw [hz] at*
    exact absurd (show x.2.2.1=0 by simpa using h') hne
  refine zF (fun _=>zB (fun h=>by cases h)) (fun h2=> ?_)
  have haddr:=hs h2
  refine zC ((show Wp _ (fun s:Bool=>s=false→x.2.2.2.2.2.1=true→(0≤x.2.2.2.2.2.2.1∧x.2.2.2.2.2.2.1≤255)∧1≤x.2.2.2.2.2.2.2.1∧x.2.2.2.2.2.2.2.1≤65535) from ?_).mono (fun s hs=> ?_))
  ·refine zF (fun hz=> ?_) (fun hz=> ?_)
   ·refine zC (qE (qI _ _ _) (zF (fun _=>zB (fun h=>by cases h)) (fun h3=>zC (qE (qI _ _ _) (zF (fun _=>zB (fun h=>by cases h)) (fun h4=> ?_))))))
    have h3:0≤x.2.2.2.2.2.2.1∧x.2.2.2.2.2.2.1≤255:=by simpa using h3
    have h4:1≤x.2.2.2.2.2.2.2.1∧x.2.2.2.2.2.2.2.1≤65535:=by simpa using h4
    repeat' (first
     |exact zB (fun _ _=>⟨h3,h4⟩)
     |refine zF (fun _=> ?_) (fun _=> ?_))
   ·repeat' (first
     |exact zB (fun _ ht=>by rw [hz] at ht;cases ht)
     |refine zF (fun _=> ?_) (fun _=> ?_))
  refine zF (fun _=>zB (fun h=>by cases h)) (fun h3=> ?_)
  have hls:=hs h3
  refine zCr (n:=i) (P:=fun j=> ∀y,l[j]? =some y→x.2.2.1≠0→y.2.2.1≠0→ovB (zGH x.2.1 x.2.2.1) (zGH y.2.1 y.2.2.1)=false) (by omega) ?_ (fun hap=> ?_)
  ·intro j hjl
   have hy:l[j]? =some l[j]:=by simp
   simp only [zJ hy,Option.bind_some]
   refine zC ((show Wp _ (fun s:Bool=>s=false→x.2.2.1≠0→l[j].2.2.1≠0→ovB (zGH x.2.1 x.2.2.1) (zGH l[j].2.1 l[j].2.2.1)=false) from ?_).mono (fun s hs=> ?_))
   ·refine zF (fun _=>zF (fun _=> ?_) (fun hz=>zB (fun _ _ hne=> ?_))) (fun hz=>zB (fun _ hne=> ?_))
    ·exact zC (qE (zBw _ _) (zC (qE (zBw _ _) (zC (qE (zJf _ _) (zB (fun h _ _=>h)))))))
    ·exact absurd (show l[j].2.2.1=0 by simpa using hz) hne
    ·exact absurd (show x.2.2.1=0 by simpa using hz) hne
   ·refine zF (fun _=>zB (fun h=>by cases h)) (fun hn=>zB (e2l ⟨rfl,?_⟩))
    intro y hy'
    rw [hy] at hy'
    cases hy'
    exact hs hn
  ·refine e2l (zB (e2l ⟨rfl,?_⟩))
   intro m z hm hz
   rcases Nat.lt_or_ge m i with h'|h'
   ·exact hj m z h' hz
   ·have:m=i:=by omega
    subst this
    rw [hx] at hz
    cases hz
    exact ⟨fun j y hjl hy=>hname j hjl y hy,hlen,haddr,hls,fun j y hjl hy=>hap j hjl y hy⟩
structure qAu (r:Ty.El zD) (x:Ty.El zEc):Prop where
 pre:zAE x.1=true
 admin:1≤x.2.2.2.2.1∧x.2.2.2.2.1≤255
 tag:0≤x.2.2.2.2.2.1∧x.2.2.2.2.2.1≤65535
 one:(x.2.1≠0∧x.2.2.1= { data:= #[] } ∧x.2.2.2.1=false)∨(x.2.1=0∧x.2.2.1≠ { data:= #[] } ∧x.2.2.2.1=false)∨(x.2.1=0∧x.2.2.1= { data:= #[] } ∧x.2.2.2.1=true)
 iface:x.2.2.1≠ { data:= #[] } →0≤zHn r x.2.2.1
def zUc (r:Ty.El zD):Prop:= ∀x,x∈r.2.2.2.2.2.2.2.1→qAu r x
theorem zTT (r:Ty.El zD) (hr:SmR r):Wp (zAn (r,())) (fun e=>e=0→zUc r):=by
 have hs6:=hr.i6
 unfold zAn
 dsimp only
 refine zI (fun _=>zB (fun h=>by cases h)) (fun h=> ?_)
 refine zBs (P:=qAu r) (by omega) ?_ (fun hj=>zB (fun _=>hj))
 intro i x hx
 have hi:=(List.getElem?_eq_some_iff.1 hx).1
 simp only [zJ hx,Option.bind_some]
 refine z6 ?_
 have w1:IntKind.wrap .i64 ((0:Int)+1)=1:=by decide
 have w2:IntKind.wrap .i64 ((1:Int)+1)=2:=by decide
 have w3:IntKind.wrap .i64 ((2:Int)+1)=3:=by decide
 refine zC ((show Wp _ (fun k:Int=>k=if x.2.1≠0 then 1 else 0) from ?_).mono (fun k1 hk1=> ?_))
 ·refine zF (fun h=>zB ?_) (fun h=>zB ?_)
  ·rw [w1,if_pos (by simpa using h)]
  ·rw [if_neg (by simpa using h)]
 refine zC ((show Wp _ (fun k:Int=>k=k1+if x.2.2.1≠ { data:= #[] } then 1 else 0) from ?_).mono (fun k2 hk2=> ?_))
 ·refine zF (fun h=>zB ?_) (fun h=>zB ?_)
  ·rw [if_pos (by simpa using h)]
   split at hk1<;>(subst hk1;first|exact w1|exact w2)
  ·rw [if_neg (by simpa using h)];omega
 refine zC ((show Wp _ (fun k:Int=>k=k2+if x.2.2.2.1=true then 1 else 0) from ?_).mono (fun k3 hk3=> ?_))
 ·refine zF (fun h=>zB ?_) (fun h=>zB ?_)
  ·have h:x.2.2.2.1=true:=h
   rw [if_pos h]
   split at hk1<;>split at hk2<;>(subst hk1;subst hk2;first|exact w1|exact w2|exact w3)
  ·have h:x.2.2.2.1=false:=h
   rw [if_neg (by rw [h];simp)];omega
 refine zC ((show Wp _ (fun s:Bool=>s=false→zAE x.1=true∧k3=1∧(1≤x.2.2.2.2.1∧x.2.2.2.2.1≤255)∧0≤x.2.2.2.2.2.1∧x.2.2.2.2.2.1≤65535) from ?_).mono (fun s hs=> ?_))
 ·refine zC (qE (xB _) (zF (fun _=>zB (fun h=>by cases h)) (fun h1=>zF (fun _=>zB (fun h=>by cases h)) (fun h2=> ?_))))
  have h1:zAE x.1=true:=by simpa using h1
  have h2:k3=1:=by simpa using h2
  refine zF (fun _=>zC ((zCe r x.2.1 hr).mono (fun k _=>zI (fun _=>zB (fun h=>by cases h)) (fun _=> ?_)))) (fun _=> ?_)
  all_goals
   refine zC (qE (qI _ _ _) (zF (fun _=>zB (fun h=>by cases h)) (fun h3=>zC (qE (qI _ _ _) (zB (fun h4=>⟨h1,h2,?_,?_⟩))))))
   ·simpa using h3
   ·simpa using h4
 refine zF (fun _=>zB (fun h=>by cases h)) (fun h1=> ?_)
 obtain ⟨g1,g2,g3,g4⟩:=hs h1
 refine zVG (fun _:Unit=>x.2.2.1≠ { data:= #[] } →0≤zHn r x.2.2.1) ?_ (fun _ hif=> ?_)
 ·refine zF (fun hne=> ?_) (fun hne=>zB (e2l (fun h=>absurd h (by simpa using hne))))
  refine zC ((zCZ r _ hr).mono (fun k hk=> ?_))
  subst hk
  refine zI (fun _=>zB (fun h=>by cases h)) (fun hk=> ?_)
  have hk0:0≤zHn r x.2.2.1:=Int.not_lt.1 hk
  obtain ⟨y,hy,_⟩:=zFY (p:=fun x':Ty.El qC=>x'.1==x.2.2.1) (xs:=r.2.2.1) hk0
  refine zC (qE (zZW hk0 hy) (zF (fun _=>zB (fun h=>by cases h)) (fun _=>zB (e2l (fun _=>hk0)))))
 ·refine zCr (n:=i) (P:=fun _=>True) (by omega) ?_ (fun _=>e2l (zB (e2l ⟨rfl,g1,g3,g4,?_,hif⟩)))
  ·intro j hjl
   have hy:r.2.2.2.2.2.2.2.1[j]? =some r.2.2.2.2.2.2.2.1[j]:=by simp
   simp only [zJ hy,Option.bind_some]
   refine zC ((show Wp _ (fun _:Bool=>True) from ?_).mono (fun s _=>zF (fun _=>zB (fun h=>by cases h)) (fun _=>zB (e2l ⟨rfl,trivial⟩))))
   exact zF (fun _=>zB trivial) (fun _=>zB trivial)
  ·rw [hk3,hk2,hk1] at g2
   by_cases c1:x.2.1=0<;>by_cases c2:x.2.2.1= { data:= #[] } <;>cases c3:x.2.2.2.1<;>simp [c1,c2,c3] at g2 ⊢
end Go.Ve

namespace Go.Ve
open Go
set_option maxRecDepth 1000000
set_option maxHeartbeats 4000000
def zZa (r:Ty.El zD) (a:Int):Int:=uM (fun x:Ty.El qC=>x.2.2.1 !=0&&x.2.1==a) r.2.2.1
theorem zKh (r:Ty.El zD) (a:Int) (hr:SmR r):Wp (yV (r,a,())) (fun k=>k=zZa r a):=by
 unfold yV
 dsimp only
 have:=hr.i1
 refine kG (p:=fun x:Ty.El qC=>x.2.2.1 !=0&&x.2.1==a) (by omega) ?_ rfl
 intro i x hx
 simp only [zJ hx,Option.bind_some]
 cases x.2.2.1 !=0<;>cases x.2.1==a<;>rfl
structure qAh (r:Ty.El zD):Prop where
 asn:0≤r.2.1∧r.2.1≤65535
 ifs:qAw r.2.2.1
 sts:zUc r
 lists:u5 (r.2.2.2.1,())=some 0
 maps:xZ (r,())=some 0
 acls:u7 (r.2.2.2.2.2.1,())=some 0
 nat:kJ (r,())=some 0
 filters:zBD (r,())=some 0
 ls:x3 (r,())=some 0
 dv:zAL (r,())=some 0
 pv:vE (r,())=some 0
 ifl:r.2.2.1.length≤8
theorem zNI (r:Ty.El zD) (hr:SmR r):Wp (vU (r,())) (fun e=>e=0→qAh r):=by
 have hr0:=hr
 obtain ⟨i1,i2,i3,i4,i5,i6,i7,i8,i9,i10,i11,i12,i13,i14,n1,n2,n3⟩:=hr0
 unfold vU
 dsimp only
 refine zC ((k9 _).mono (fun b _=> ?_))
 refine zF (fun _=>zB (fun h=>by cases h)) (fun _=> ?_)
 refine zC (qE (qI _ _ _) (zF (fun _=>zB (fun h=>by cases h)) (fun has=> ?_)))
 have has:0≤r.2.1∧r.2.1≤65535:=by simpa using has
 refine zC ((zPy _ i1).mono (fun y12 h12=> ?_))
 refine xV ((zCy _ i2 n1).mono (fun _ _=>trivial)) (fun y13 h13=> ?_)
 refine xV ((zDs _ hr).mono (fun _ _=>trivial)) (fun y14 h14=> ?_)
 refine xV ((zCz _ i4 n3).mono (fun _ _=>trivial)) (fun y15 h15=> ?_)
 refine xV ((zB4 _ hr).mono (fun _ _=>trivial)) (fun y16 h16=> ?_)
 refine xV ((zEQ _ hr).mono (fun _ _=>trivial)) (fun y17 h17=> ?_)
 refine zC ((zTT _ hr).mono (fun y18 h18=> ?_))
 refine xV ((zDt _ hr).mono (fun _ _=>trivial)) (fun y19 h19=> ?_)
 refine xV ((zEa _ hr).mono (fun _ _=>trivial)) (fun y20 h20=> ?_)
 refine xV ((zCX _ hr).mono (fun _ _=>trivial)) (fun y21 h21=> ?_)
 refine zBs (P:=fun x:Int=>x=0) (xs:=[y12,y13,y14,y15,y16,y17,y18,y19,y20,y21]) (by simp) ?_ (fun hall=>zB (fun _=> ?_))
 ·intro i x hx
  simp only [zJ hx,Option.bind_some]
  refine zF (fun hne=>zB (fun h=> ?_)) (fun h=>zB (e2l ⟨rfl,by simpa using h⟩))
  have h:x=0:=h
  rw [h] at hne
  cases hne
 ·have e12:=hall y12 (by simp)
  have e13:=hall y13 (by simp)
  have e14:=hall y14 (by simp)
  have e15:=hall y15 (by simp)
  have e16:=hall y16 (by simp)
  have e17:=hall y17 (by simp)
  have e18:=hall y18 (by simp)
  have e19:=hall y19 (by simp)
  have e20:=hall y20 (by simp)
  have e21:=hall y21 (by simp)
  exact ⟨has,(h12 e12).1,h18 e18,e13▸h13,e14▸h14,e15▸h15,e16▸h16,e17▸h17,e19▸h19,e20▸h20,e21▸h21,(h12 e12).2⟩
structure qAv (n:Ty.El zZ):Prop where
 len:n.1.length≤8
 rt: ∀r,r∈n.1→qAh r
 name: ∀ (i j:Nat) r q,j<i→n.1[i]? =some r→n.1[j]? =some q→q.1≠r.1
 addr: ∀ (i j:Nat) r q,i≠j→n.1[i]? =some r→n.1[j]? =some q→ ∀x y,x∈r.2.2.1→y∈q.2.2.1→x.2.2.1≠0→y.2.2.1≠0→x.2.1≠y.2.1
theorem zXa (n:Ty.El zZ) (hs: ∀y,y∈n.1→SmR y):Wp (uA (n,())) (fun e=>e=0→qAv n):=by
 unfold uA
 dsimp only
 refine zI (fun _=>zB (fun h=>by cases h)) (fun hl=> ?_)
 refine uN (by omega) (fun i=> ∀m r,m<i→n.1[m]? =some r→qAh r∧(∀j q,j<m→n.1[j]? =some q→q.1≠r.1∧ ∀x y,x∈r.2.2.1→y∈q.2.2.1→x.2.2.1≠0→y.2.2.1≠0→x.2.1≠y.2.1)) (fun m x hm=>by omega) ?_ (fun hj=>zB (fun _=> ?_))
 ·intro i r hr hj
  have hi:=(List.getElem?_eq_some_iff.1 hr).1
  have hsm:=hs r (List.mem_of_getElem? hr)
  have hs1:=hsm.i1
  simp only [zJ hr,Option.bind_some]
  refine z6 (zC ((zNI r hsm).mono (fun e he=> ?_)))
  refine zF (fun hne=>zB (fun h=> ?_)) (fun h=> ?_)
  ·have h:e=0:=h
   rw [h] at hne
   cases hne
  have hrt:=he (by simpa using h)
  refine z6 (zCr (n:=i) (P:=fun j=> ∀q,n.1[j]? =some q→q.1≠r.1) (by omega) ?_ (fun hname=> ?_))
  ·intro j hjl
   have hq:n.1[j]? =some n.1[j]:=by simp
   simp only [zJ hq,Option.bind_some]
   refine zF (fun _=>zB (fun h=>by cases h)) (fun hn=>zB (e2l ⟨rfl,?_⟩))
   intro q hq'
   rw [hq] at hq'
   cases hq'
   simpa using hn
  refine e2l (zZn (P:=fun x:Ty.El qC=> ∀j q,j<i→n.1[j]? =some q→ ∀y,y∈q.2.2.1→x.2.2.1≠0→y.2.2.1≠0→x.2.1≠y.2.1) (by omega) ?_ (fun hall=> ?_))
  ·intro k x hx
   simp only [zJ hx,Option.bind_some]
   refine z6 (zCr (n:=i) (P:=fun j=> ∀q,n.1[j]? =some q→ ∀y,y∈q.2.2.1→x.2.2.1≠0→y.2.2.1≠0→x.2.1≠y.2.1) (by omega) ?_ (fun hall=>e2l (zB (e2l ⟨rfl,fun j q hjl hq=>hall j hjl q hq⟩))))
   intro j hjl
   have hq:n.1[j]? =some n.1[j]:=by simp
   simp only [zJ hq,Option.bind_some]
   refine zC ((show Wp _ (fun s:Bool=>s=false→ ∀y,y∈n.1[j].2.2.1→x.2.2.1≠0→y.2.2.1≠0→x.2.1≠y.2.1) from ?_).mono (fun s hs'=> ?_))
   ·refine zF (fun _=>zC ((zKh _ _ (hs _ (List.getElem_mem _))).mono (fun k hk=>zB ?_))) (fun hz=>zB (fun _ y _ hne=>absurd (show x.2.2.1=0 by simpa using hz) hne))
    subst hk
    intro hlt y hy _ hyz hxy
    have hlt: ¬(zZa n.1[j] x.2.1≥0):=of_decide_eq_false hlt
    apply hlt
    unfold zZa
    rw [zHp]
    refine List.any_eq_true.2 ⟨y,hy,?_⟩
    have h1:(y.2.2.1 !=0)=true:=by simpa using hyz
    have h2:(y.2.1==x.2.1)=true:=beq_iff_eq.2 hxy.symm
    rw [h1,h2];rfl
   ·refine zF (fun _=>zB ⟨(fun u h=>by cases h),(fun h=>by cases h)⟩) (fun hn=>zB (e2l ⟨rfl,?_⟩))
    intro q hq'
    rw [hq] at hq'
    cases hq'
    exact hs' hn
  ·refine e2l (zB (e2l ⟨rfl,?_⟩))
   intro m z hm hz
   rcases Nat.lt_or_ge m i with h'|h'
   ·exact hj m z h' hz
   ·have:m=i:=by omega
    subst this
    rw [hr] at hz
    cases hz
    exact ⟨hrt,fun j q hjl hq=>⟨hname j hjl q hq,fun x y hx hy=>hall x hx j q hjl hq y hy⟩⟩
 ·have hall: ∀m r,n.1[m]? =some r→_:=fun m r hr=>hj m r (List.getElem?_eq_some_iff.1 hr).1 hr
  refine ⟨by omega,?_,?_,?_⟩
  ·intro r hr
   obtain ⟨m,hm,rfl⟩:=List.getElem_of_mem hr
   exact (hall m _ (by simp [hm])).1
  ·intro i j r q hji hr hq
   exact ((hall i r hr).2 j q hji hq).1
  ·intro i j r q hne hr hq x y hx hy hx0 hy0
   rcases Nat.lt_or_ge j i with h'|h'
   ·exact ((hall i r hr).2 j q h' hq).2 x y hx hy hx0 hy0
   ·exact fun h=>((hall j q hq).2 i r (by omega) hr).2 y x hy hx hy0 hx0 h.symm
theorem qAP {n:Ty.El zZ} {d:List Int} {v:Ty.El zO} (h:zMx n d v):qAv n:=by
 obtain ⟨e,h1,h2⟩:=zXa n h.sm
 have h3:=h.chk
 rw [h1] at h3
 exact h2 (Option.some.inj h3)
end Go.Ve

namespace Go.Ve
open Go
set_option maxRecDepth 1000000
set_option maxHeartbeats 4000000
def rlt (x y:Ty.El zA):Prop:=plt x.1 y.1
theorem zVQ:Ord rlt where
 asym:=fun x y h=>zHX.asym _ _ h
 tr:=fun x y z h1 h2=>zHX.tr _ _ _ h1 h2
end Go.Ve

namespace Go.Ve
open Go
set_option maxRecDepth 1000000
set_option maxHeartbeats 4000000
def zDJ (x:Ty.El zA):Int×Int×Int×Int×Int×Int×Int:=
 bif x.2.1==(3:Int) then (x.2.2.1,x.2.2.2.2.1,x.2.2.2.2.2.1,x.2.2.2.2.2.2.1,(0:Int),(0:Int),(0:Int))
 else bif x.2.1==(4:Int) then (x.2.2.2.2.1,x.2.2.1,x.2.2.2.2.2.2.1,(0:Int),(0:Int),(0:Int),(0:Int))
 else bif x.2.1==(5:Int) then (if (3:Int)<x.2.2.1 then (3:Int) else x.2.2.1,IntKind.wrap IntKind.i64 ((1000000:Int) -x.2.2.2.2.2.2.2.1),(x.2.2.2.2.2.2.2.2.1.length:Int),x.2.2.2.2.1,x.2.2.1,IntKind.wrap IntKind.i64 x.2.2.2.2.2.2.2.2.2.1,(0:Int))
 else (x.2.2.2.1,(0:Int),(0:Int),(0:Int),(0:Int),(0:Int),(0:Int))
def zLm:List (Int×Int)→Int
 |[]=>0
 |(a,b)::r=>if a<b then-1 else if b<a then 1 else zLm r
def zB7 (x y:Ty.El zA):Int:=
 zLm [((zDJ x).1,(zDJ y).1),((zDJ x).2.1,(zDJ y).2.1),((zDJ x).2.2.1,(zDJ y).2.2.1),((zDJ x).2.2.2.1,(zDJ y).2.2.2.1),((zDJ x).2.2.2.2.1,(zDJ y).2.2.2.2.1),((zDJ x).2.2.2.2.2.1,(zDJ y).2.2.2.2.2.1),((zDJ x).2.2.2.2.2.2,(zDJ y).2.2.2.2.2.2)]
section
variable {α:Type} {lt eq:α→α→Bool}
def zGI (lt eq:α→α→Bool) (h:α):List α→List α
 |[]=>[h]
 |x::r=>bif lt x h then x::zGI lt eq h r else bif eq x h then x::r else h::x::r
theorem zKW (heq: ∀x y,eq x y=true↔x=y) {h z:α} : ∀ {l:List α},z∈zGI lt eq h l↔z∈l∨z=h
 |[]=>by simp [zGI]
 |x::r=>by
  simp only [zGI]
  cases lt x h with
  |true=>simp only [cond_true,List.mem_cons,zKW heq (l:=r)];exact or_assoc.symm
  |false=>
   simp only [cond_false]
   cases he:eq x h with
   |true=>
    have:=(heq x h).1 he
    subst this
    simp only [cond_true,List.mem_cons]
    exact ⟨fun h=> .inl h,fun h=>h.elim id .inl⟩
   |false=>simp only [cond_false,List.mem_cons];exact ⟨fun h=>h.elim .inr .inl,fun h=>h.elim .inr .inl⟩
theorem zHm {R:α→α→Prop} (ho:Ord R) (hlt: ∀x y,lt x y=true↔R x y) (heq: ∀x y,eq x y=true↔x=y) (htot: ∀x y, ¬R x y→x≠y→R y x) {h:α} : ∀ {l:List α},l.Pairwise R→(zGI lt eq h l).Pairwise R
 |[],_=>by simp [zGI]
 |x::r,hp=>by
  rw [List.pairwise_cons] at hp
  simp only [zGI]
  cases hx:lt x h with
  |true=>
   simp only [cond_true]
   rw [List.pairwise_cons]
   refine ⟨fun z hz=> ?_,zHm ho hlt heq htot hp.2⟩
   rcases (zKW heq).1 hz with hz|rfl
   ·exact hp.1 z hz
   ·exact (hlt _ _).1 hx
  |false=>
   simp only [cond_false]
   have hn: ¬R x h:=fun hh=>by rw [(hlt _ _).2 hh] at hx;cases hx
   cases he:eq x h with
   |true=>simp only [cond_true];rw [List.pairwise_cons];exact hp
   |false=>
    simp only [cond_false]
    have hne:x≠h:=fun e=>by rw [(heq _ _).2 e] at he;cases he
    have hr:=htot _ _ hn hne
    have tr: ∀z,R x z→R h z:=by
     intro z hz
     exact Classical.byContradiction (fun hnz=>ho.tr x z h (ho.asym _ _ hz) hnz hr)
    rw [List.pairwise_cons,List.pairwise_cons]
    refine ⟨fun z hz=> ?_,hp⟩
    rcases List.mem_cons.1 hz with rfl|hz
    ·exact hr
    ·exact tr z (hp.1 z hz)
end
end Go.Ve

namespace Go.Ve
open Go
set_option maxRecDepth 1000000
set_option maxHeartbeats 4000000
noncomputable def act (v:Ty.El zO) (t:List (Ty.El zA)) (r:Int) (rt:Ty.El zD) (x:Ty.El zEc):Option (Ty.El zA):=
 bif x.2.1 !=(0:Int) then match zBC t x.1 x.2.1 with
  |none=>none
  |some y=>bif y.2.2.2.2.2.2.2.2.2.2.2.2.1 then none else some (x.1,(2:Int),(0:Int),x.2.2.2.2.1,(0:Int),(0:Int),x.2.2.2.2.2.1,(0:Int),[],(0:Int),x.2.1,[],false,())
 else bif x.2.2.1 != { data:= #[] } then
  bif upB v r (zHn rt x.2.2.1) then some (x.1,(2:Int),(0:Int),x.2.2.2.2.1,(0:Int),(0:Int),x.2.2.2.2.2.1,(0:Int),[],(0:Int),(0:Int),[(zHn rt x.2.2.1,(0:Int),())],false,()) else none
 else bif x.2.2.2.1 then some (x.1,(2:Int),(0:Int),x.2.2.2.2.1,(0:Int),(0:Int),x.2.2.2.2.2.1,(0:Int),[],(0:Int),(0:Int),[],true,()) else none
theorem jF {α β:Type} {f:α→Option β} {xs:List α} {i:Nat} {x:α} (h:xs[i]? =some x):(xs.take (i+1)).filterMap f=(xs.take i).filterMap f++(f x).toList:=by
 rw [List.take_add_one,h,Option.toList_some,List.filterMap_append,List.filterMap_cons,List.filterMap_nil]
 cases f x<;>rfl
theorem zJd (v:Ty.El zO) (t:List (Ty.El zA)) (r:Nat) (rt:Ty.El zD) (hv:zAC v) (hr:v.1.1[r]? =some rt) (ht:t.length≤1048576):
  Wp (zCt (v,t,(r:Int),())) (fun out=>out=rt.2.2.2.2.2.2.2.1.filterMap (act v t r rt)):=by
 unfold zCt
 dsimp only
 have hrl:=(List.getElem?_eq_some_iff.1 hr).1
 have hsm:=hv.sm rt (List.mem_of_getElem? hr)
 have hst:=hsm.i6
 have hr0: ¬((r:Int)<0):=by omega
 have hr1: ¬((r:Int)≥(List.length v.1.1:Int)):=by omega
 refine zC (zI (fun h=>absurd h hr0) (fun h=>zB ?_))
 refine zI (fun h=>absurd h hr1) (fun h=> ?_)
 simp only [zJ hr,Option.bind_some]
 refine zC ((wM (xs:=rt.2.2.2.2.2.2.2.1) (by omega) (fun i (g:List (Ty.El zA))=>g=(rt.2.2.2.2.2.2.2.1.take i).filterMap (act v t r rt)) rfl ?_ (Q:=fun g=>g=rt.2.2.2.2.2.2.2.1.filterMap (act v t r rt)) (fun g hg=>by rw [hg,List.take_length])).mono (fun g hg=>zB hg))
 intro i x g hx hg
 have hi:=(List.getElem?_eq_some_iff.1 hx).1
 have hgl:g.length≤i:=by
  rw [hg]
  refine Nat.le_trans (List.length_filterMap_le _ _) ?_
  rw [List.length_take]
  omega
 simp only [zJ hx,Option.bind_some]
 rw [jF hx, ←hg]
 have skip:act v t r rt x=none→(wU (fun s:List (Ty.El zA)×Ty.El zA=>Wp (Option.bind (app (136:Nat) s.1 [s.2]) fun y68=>some y68) (fun g'=>g'=g++(act v t r rt x).toList)) (fun g'=>g'=g++(act v t r rt x).toList)) (Sum.inr g):=by
  intro h
  rw [h]
  exact e2r (List.append_nil g).symm
 have take: ∀y,act v t r rt x=some y→(wU (fun s:List (Ty.El zA)×Ty.El zA=>Wp (Option.bind (app (136:Nat) s.1 [s.2]) fun y68=>some y68) (fun g'=>g'=g++(act v t r rt x).toList)) (fun g'=>g'=g++(act v t r rt x).toList)) (Sum.inl (g,y)):=by
  intro y h
  rw [h]
  refine e2l (zC (j9 (by simp only [List.length_singleton];omega) (zB rfl)))
 refine z6 (zF (fun h1=> ?_) (fun h1=>zF (fun h2=> ?_) (fun h2=>zF (fun h3=> ?_) (fun h3=> ?_))))
 ·refine zC ((zGX t x.1 x.2.1 (by omega)).mono (fun k hk=> ?_))
  rcases hk with ⟨hk,hn⟩|⟨m,y,rfl,hm,hy⟩
  ·refine zC (zI (fun _=>zB (zB (skip ?_))) (fun h=>absurd hk h))
   unfold act
   rw [h1,cond_true,hn]
  ·refine zC (zI (fun h=>absurd h (by omega)) (fun _=> ?_))
   simp only [zJ hm,Option.bind_some]
   refine zB (zF (fun h=>zB (skip ?_)) (fun h=>zB (take _ ?_)))
   ·unfold act
    rw [h1,cond_true,hy]
    simp only
    have h:y.2.2.2.2.2.2.2.2.2.2.2.2.1=true:=h
    rw [h];rfl
   ·unfold act
    rw [h1,cond_true,hy]
    simp only
    have h:y.2.2.2.2.2.2.2.2.2.2.2.2.1=false:=h
    rw [h];rfl
 ·refine zC ((zGZ rt x.2.2.1 hsm).mono (fun k hk=> ?_))
  subst hk
  refine zC ((zFv v r _ hv).mono (fun b hb=> ?_))
  subst hb
  refine zF (fun h=>zB (skip ?_)) (fun h=>zB (take _ ?_))
  ·unfold act
   rw [h1,cond_false,h2,cond_true]
   simp only [Bool.not_eq_true'] at h
   rw [h];rfl
  ·unfold act
   rw [h1,cond_false,h2,cond_true]
   simp only [Bool.not_eq_false'] at h
   rw [h];rfl
 ·refine zB (take _ ?_)
  unfold act
  rw [h1,cond_false,h2,cond_false,h3];rfl
 ·refine zB (skip ?_)
  unfold act
  rw [h1,cond_false,h2,cond_false,h3];rfl
end Go.Ve

namespace Go.Ve
open Go
set_option maxRecDepth 1000000
set_option maxHeartbeats 4000000
theorem zXD {α:Type} {xs:List α} {k:Nat} (h:k≤xs.length):sub xs (k:Int) (xs.length:Int)=some (xs.drop k):=by
 unfold sub
 rw [if_pos (by omega),Int.toNat_natCast,Int.toNat_natCast,List.take_length]
def zPW (p q:Ty.El zG):Bool:=decide (zZ7 p q<0)
theorem zX7 {p q:Ty.El zG} :zPW p q=true↔plt p q:=by
 unfold zPW;rw [decide_eq_true_eq];exact zLl
theorem zTm {α:Type} {lt eq:α→α→Bool} {h:α} : ∀ {l:List α},(zGI lt eq h l).length≤l.length+1
 |[]=>by simp [zGI]
 |x::r=>by
  have:=zTm (lt:=lt) (eq:=eq) (h:=h) (l:=r)
  simp only [zGI]
  cases lt x h<;>cases eq x h<;>simp<;>omega
def zS1 (l:List (Ty.El zA)):List (Ty.El zG):=l.foldl (fun acc x=>zGI zPW j6 x.1 acc) []
theorem zKz: ∀ (l:List (Ty.El zA)) (acc:List (Ty.El zG)),(l.foldl (fun acc x=>zGI zPW j6 x.1 acc) acc).length≤acc.length+l.length
 |[],acc=>by simp
 |x::l,acc=>by
  have h1:=zKz l (zGI zPW j6 x.1 acc)
  have h2:=zTm (lt:=zPW) (eq:=j6) (h:=x.1) (l:=acc)
  simp only [List.foldl_cons,List.length_cons]
  omega
theorem zX6 (l:List (Ty.El zA)):(zS1 l).length≤l.length:=by
 have:=zKz l []
 simpa [zS1] using this
theorem zOt: ∀ (l:List (Ty.El zA)) (acc:List (Ty.El zG)),acc.Pairwise plt→
  (l.foldl (fun acc x=>zGI zPW j6 x.1 acc) acc).Pairwise plt∧ ∀p,p∈l.foldl (fun acc x=>zGI zPW j6 x.1 acc) acc↔p∈acc∨ ∃x,x∈l∧x.1=p
 |[],acc,h=>⟨h,fun p=>by simp⟩
 |x::l,acc,h=>by
  have h2:=zOt l (zGI zPW j6 x.1 acc) (zHm zHX (fun _ _=>zX7) (fun _ _=>zDK) (fun p q h1 h2=>zUF h1 (fun e=>h2 e.symm)) h)
  refine ⟨h2.1,fun p=> ?_⟩
  rw [List.foldl_cons,h2.2 p,zKW (fun _ _=>zDK)]
  constructor
  ·rintro ((h|rfl)|⟨y,hy,rfl⟩)
   ·exact .inl h
   ·exact .inr ⟨x,by simp,rfl⟩
   ·exact .inr ⟨y,by simp [hy],rfl⟩
  ·rintro (h|⟨y,hy,rfl⟩)
   ·exact .inl (.inl h)
   ·rcases List.mem_cons.1 hy with rfl|hy
    ·exact .inl (.inr rfl)
    ·exact .inr ⟨y,hy,rfl⟩
theorem zG8 (l:List (Ty.El zA)):(zS1 l).Pairwise plt:=(zOt l [] List.Pairwise.nil).1
theorem zKy (l:List (Ty.El zA)) (p:Ty.El zG):p∈zS1 l↔ ∃x,x∈l∧x.1=p:=by
 have:=(zOt l [] List.Pairwise.nil).2 p
 rw [show zS1 l=l.foldl (fun acc x=>zGI zPW j6 x.1 acc) [] from rfl,this]
 simp
def hlt (a b:Ty.El qS):Prop:=zE2 a.1 a.2.1 b.1 b.2.1
theorem zKZ:Ord hlt where
 asym:=fun x y h=>by unfold hlt zE2 at*;omega
 tr:=fun x y z h1 h2=>by unfold hlt zE2 at*;omega
theorem zYp {p q:Ty.El qS} (h: ¬hlt q p) (hne:p≠q):hlt p q:=by
 refine zVV h (fun e=>hne ?_)
 obtain ⟨a,b,⟨⟩⟩:=p
 obtain ⟨c,d,⟨⟩⟩:=q
 obtain ⟨rfl,rfl⟩:=e
 rfl
def qAY (a b:Ty.El qS):Bool:=decide (zLn a.1 a.2.1 b.1 b.2.1<0)
theorem zYq {a b:Ty.El qS} :qAY a b=true↔hlt a b:=by
 unfold qAY;rw [decide_eq_true_eq];exact zSd
def zQf (a b:Ty.El qS):Bool:=a.1==b.1&&(a.2.1==b.2.1&&true)
def zGc (l:List (Ty.El qS)) (h:Ty.El qS):List (Ty.El qS):=zGI qAY zQf h l
end Go.Ve

namespace Go.Ve
open Go
set_option maxRecDepth 1000000
set_option maxHeartbeats 4000000
def zVp (x:Ty.El zA) (b:Option (Ty.El zA)):Bool:=
 match b with
 |none=>true
 |some y=>decide (zB7 x y<0)
def zMV (p:Ty.El zG) (b:Option (Ty.El zA)) (x:Ty.El zA):Option (Ty.El zA):=
 bif j6 x.1 p&&zVp x b then some x else b
def zD0 (l:List (Ty.El zA)) (p:Ty.El zG):Option (Ty.El zA):=l.foldl (zMV p) none
def x8 (p:Ty.El zG) (b:Ty.El zA) (hs:List (Ty.El qS)) (x:Ty.El zA):List (Ty.El qS):=
 bif j6 x.1 p&&(zB7 x b==0) then x.2.2.2.2.2.2.2.2.2.2.2.1.foldl zGc hs else hs
def zEI (l:List (Ty.El zA)) (p:Ty.El zG) (b:Ty.El zA):List (Ty.El qS):=l.foldl (x8 p b) []
def zZv (b:Ty.El zA) (hs:List (Ty.El qS)):Ty.El zA:=
 ((b.1.1,b.1.2.1,()),b.2.1,b.2.2.1,b.2.2.2.1,b.2.2.2.2.1,b.2.2.2.2.2.1,b.2.2.2.2.2.2.1,b.2.2.2.2.2.2.2.1,b.2.2.2.2.2.2.2.2.1,b.2.2.2.2.2.2.2.2.2.1,b.2.2.2.2.2.2.2.2.2.2.1,hs,b.2.2.2.2.2.2.2.2.2.2.2.2.1,())
def mrg (l:List (Ty.El zA)) (p:Ty.El zG):Option (Ty.El zA):=(zD0 l p).map (fun b=>zZv b (zEI l p b))
def zBa (l:List (Ty.El zA)):List (Ty.El zA):=(zS1 l).filterMap (mrg l)
end Go.Ve



namespace Go.Ve
open Go
set_option maxRecDepth 1000000
set_option maxHeartbeats 4000000
theorem zT2 {p:Ty.El zG} {b:Ty.El zA} : ∀ (l:List (Ty.El zA)) (c:Option (Ty.El zA)),l.foldl (zMV p) c=some b→c=some b∨(b∈l∧b.1=p)
 |[],c,h=> .inl h
 |x::l,c,h=>by
  rw [List.foldl_cons] at h
  rcases zT2 l _ h with h|⟨h1,h2⟩
  ·unfold zMV at h
   cases hc:j6 x.1 p&&zVp x c with
   |true=>
    rw [hc,cond_true] at h
    cases h
    simp only [Bool.and_eq_true] at hc
    exact .inr ⟨by simp,zDK.1 hc.1⟩
   |false=>rw [hc,cond_false] at h;exact .inl h
  ·exact .inr ⟨List.mem_cons_of_mem _ h1,h2⟩
theorem zY5 {l:List (Ty.El zA)} {p:Ty.El zG} {b:Ty.El zA} (h:zD0 l p=some b):b∈l∧b.1=p:=by
 rcases zT2 l none h with h|h
 ·cases h
 ·exact h
theorem zNP {l:List (Ty.El zA)} {p:Ty.El zG} {z:Ty.El zA} (h:mrg l p=some z):z.1=p:=by
 unfold mrg at h
 cases hb:zD0 l p with
 |none=>rw [hb] at h;cases h
 |some b=>rw [hb] at h;cases h;exact (zY5 hb).2
theorem zIS (l:List (Ty.El zA)):(zBa l).Pairwise rlt:=by
 unfold zBa
 refine List.Pairwise.filterMap _ ?_ (zG8 l)
 intro p q hpq y hy z hz
 unfold rlt
 rw [zNP hy,zNP hz]
 exact hpq
theorem zEe (v:Ty.El zO) (r:Nat) (h:r<v.1.1.length):zBF (v,(r:Int),())=some true:=by
 refine wK ?_
 unfold zBF
 dsimp only
 refine zC (zI (fun _=>zB (zB ?_)) (fun h'=>absurd (Int.natCast_nonneg r) h'))
 exact decide_eq_true (Int.ofNat_lt.2 h)
theorem zJg (v:Ty.El zO) (r k:Nat) (rt:Ty.El zD) (x:Ty.El qC) (hr:v.1.1[r]? =some rt) (hx:rt.2.2.1[k]? =some x):zCu (v,(r:Int),(k:Int),())=some (zGH x.2.1 x.2.2.1):=by
 refine wK ?_
 unfold zCu
 dsimp only
 refine zC (qE (zJ hr) (zC (qE (zJ hx) (zC (qE (zBw _ _) (zB rfl))))))
theorem zIi (t:List (Ty.El zA)) (own:Ty.El zG) (a:Int) (hl:t.length<4611686018427387904):
  Wp (zBG (t,own,a,())) (fun k=>(k<0∧zBC t own a=none)∨ ∃ (i:Nat) (y:Ty.El zA),k=(i:Int)∧t[i]? =some y∧zBC t own a=some y):=by
 unfold zBG
 dsimp only
 refine zC ((wM (xs:=t) hl (fun i (k:Int)=>(k<0∧(t.take i).foldl (zDE own a) none=none)∨ ∃ (m:Nat) (y:Ty.El zA),k=(m:Int)∧t[m]? =some y∧(t.take i).foldl (zDE own a) none=some y)
  (.inl ⟨by omega,rfl⟩) ?_ (fun g hg=> ?_) (Q:=fun k=>(k<0∧zBC t own a=none)∨ ∃ (i:Nat) (y:Ty.El zA),k=(i:Int)∧t[i]? =some y∧zBC t own a=some y)).mono (fun k hk=>zB hk))
 ·intro i x k hx hj
  rw [zO2 hx]
  generalize (t.take i).foldl (zDE own a) none=b at hj
  simp only [zJ hx,Option.bind_some]
  have skip:(j6 x.1 own|| !zQs x.1 a)=true→Wp (some false) (fun s:Bool=>Wp (bif s then some (i:Int) else some k) (fun k=>(k<0∧zDE own a b x=none)∨ ∃ (m:Nat) (y:Ty.El zA),k=(m:Int)∧t[m]? =some y∧zDE own a b x=some y)):=by
   intro h
   refine zB (zB ?_)
   rw [zOg h]
   exact hj
  refine zC (zF (fun h=> ?_) (fun h=>skip ?_))
  ·have h:j6 x.1 own=false:=by
    have h':(!j6 x.1 own)=true:=h
    simpa using h'
   refine zC (qE (zDz _ _) (zF (fun h'=> ?_) (fun h'=>skip ?_)))
   ·have h':zCd x.1 a=true:=h'
    have hsk:(j6 x.1 own|| !zQs x.1 a)=false:=by rw [h,zPw,h'];rfl
    rcases hj with ⟨h1,rfl⟩|⟨m,y,rfl,h2,rfl⟩
    ·refine zI (fun _=>zB (zB ?_)) (fun h3=>absurd h1 h3)
     exact .inr ⟨i,x,rfl,hx,zOh hsk⟩
    ·refine zI (fun h3=>absurd h3 (by omega)) (fun _=> ?_)
     simp only [zJ h2,Option.bind_some]
     refine zB (zI (fun h4=>zB ?_) (fun h4=>zB ?_))
     ·exact .inr ⟨i,x,rfl,hx,by rw [zFz hsk,if_pos h4]⟩
     ·exact .inr ⟨m,y,rfl,h2,by rw [zFz hsk,if_neg h4]⟩
   ·have h':zCd x.1 a=false:=h'
    rw [zPw,h'];simp
  ·have h':(!j6 x.1 own)=false:=h
   have h':j6 x.1 own=true:=by simpa using h'
   rw [h'];rfl
 ·rw [List.take_length] at hg
  exact hg
end Go.Ve

namespace Go.Ve
open Go
set_option maxHeartbeats 4000000
section
variable {α:Type}
def swF (a b n:Nat) (xs:List α) (k:Nat):Option α:=
 if a≤k∧k<a+n then xs[b+(k-a)]? else if b≤k∧k<b+n then xs[a+(k-b)]? else xs[k]?
def yM (lo m hi:Nat) (xs:List α) (k:Nat):Option α:=
 if lo≤k∧k<lo+(hi-m) then xs[k+(m-lo)]? else if lo+(hi-m)≤k∧k<hi then xs[k- (hi-m)]? else xs[k]?
theorem zXB {a b:Nat} {xs:List α} {k:Nat} :swF a b 0 xs k=xs[k]? :=by
 unfold swF
 rw [if_neg (by omega),if_neg (by omega)]
theorem zXC {a b n:Nat} {xs zs:List α} (hab:a+n<b) (hb:b+n<xs.length) (hl:zs.length=xs.length) (h: ∀k,zs[k]? =swF a b n xs k) {x y:α} (hx:zs[a+n]? =some x) (hy:zs[b+n]? =some y):
  ∀k,((zs.set (a+n) y).set (b+n) x)[k]? =swF a b (n+1) xs k:=by
 intro k
 have h1:=h (a+n)
 have h2:=h (b+n)
 unfold swF at h1 h2
 rw [if_neg (by omega),if_neg (by omega),hx] at h1
 rw [if_neg (by omega),if_neg (by omega),hy] at h2
 unfold swF
 by_cases e1:k=b+n
 ·subst e1
  rw [List.getElem?_set_self (by rw [List.length_set];omega),if_neg (by omega),if_pos (by omega),h1]
  congr 1;omega
 ·rw [List.getElem?_set_ne (by omega)]
  by_cases e2:k=a+n
  ·subst e2
   rw [List.getElem?_set_self (by omega),if_pos (by omega),h2]
   congr 1;omega
  ·rw [List.getElem?_set_ne (by omega),h k]
   unfold swF
   by_cases c1:a≤k∧k<a+n
   ·rw [if_pos c1,if_pos (by omega)]
   ·rw [if_neg c1]
    by_cases c2:b≤k∧k<b+n
    ·rw [if_pos c2,if_neg (by omega),if_pos (by omega)]
    ·rw [if_neg c2,if_neg (by omega),if_neg (by omega)]
theorem zAI {xs:List α} {i j:Nat} (h:i=j):xs[i]? =xs[j]? :=by rw [h]
theorem zXS {lo m hi:Nat} {xs zs:List α} (h1:lo<m) (h2:m<hi) (hij:hi-m<m-lo) (h: ∀k,zs[k]? =swF lo m (hi-m) xs k) (k:Nat):yM (lo+(hi-m)) m hi zs k=yM lo m hi xs k:=by
 unfold yM
 rw [h,h,h]
 unfold swF
 repeat' split
 all_goals first
  |rfl
  |exact zAI (by omega)
  |(exfalso;omega)
theorem zWv {lo m hi:Nat} {xs zs:List α} (h1:lo<m) (h2:m<hi) (hij:m-lo<hi-m) (h: ∀k,zs[k]? =swF lo (hi- (m-lo)) (m-lo) xs k) (k:Nat):yM lo m (hi- (m-lo)) zs k=yM lo m hi xs k:=by
 unfold yM
 rw [h,h,h]
 unfold swF
 repeat' split
 all_goals first
  |rfl
  |exact zAI (by omega)
  |(exfalso;omega)
theorem zXT {lo m hi:Nat} {xs zs:List α} (h1:lo≤m) (h2:m≤hi) (hij:m-lo=hi-m) (h: ∀k,zs[k]? =swF lo m (m-lo) xs k) (k:Nat):zs[k]? =yM lo m hi xs k:=by
 rw [h]
 unfold yM swF
 repeat' split
 all_goals first
  |rfl
  |exact zAI (by omega)
  |(exfalso;omega)
end
end Go.Ve

namespace Go.Ve
open Go
set_option maxRecDepth 1000000
set_option linter.unusedVariables false
noncomputable def x7 {α:Type} (cmp:α×α×Unit→Option Int):List α→(Int×Int×Unit×Unit)→Option (List α×Unit):=fun a0 x=>match x with
 |(a1,a2,(),())=>
  zK
   (fun (s157:Int×List (α))=>
    bif decide (s157.1<a2) then
     Option.bind
      (zK
       (fun (s158:Int×List (α))=>
        Option.bind
         (bif decide (s158.1>a1) then
          Option.bind (idx s158.2 s158.1) fun (y159:α)=>
           Option.bind (atN s158.2 (Int.toNat s158.1)) fun (y160:α)=>
            Option.bind (idx s158.2 (IntKind.wrap IntKind.i64 (s158.1- (1:Int)))) fun (y161:α)=>
             Option.bind (atN s158.2 (Int.toNat (IntKind.wrap IntKind.i64 (s158.1- (1:Int))))) fun (y162:α)=>
              Option.bind (cmp (y160,y162,())) fun (y163:Int)=>some (decide (y163< (0:Int)),s158.2)
         else some (false,s158.2))
         fun (s164:Bool×List (α))=>
         bif s164.1 then
          Option.bind (idx s164.2 (IntKind.wrap IntKind.i64 (s158.1- (1:Int)))) fun (y165:α)=>
           Option.bind (atN s164.2 (Int.toNat (IntKind.wrap IntKind.i64 (s158.1- (1:Int))))) fun (y166:α)=>
            Option.bind (idx s164.2 s158.1) fun (y167:α)=>
             Option.bind (atN s164.2 (Int.toNat s158.1)) fun (y168:α)=>
              Option.bind (idx s164.2 s158.1) fun (y169:α)=>
               Option.bind (atN s164.2 (Int.toNat s158.1)) fun (y170:α)=>
                Option.bind (idx (List.set s164.2 (Int.toNat s158.1) y166) (IntKind.wrap IntKind.i64 (s158.1- (1:Int)))) fun (y171:α)=>
                 Option.bind (atN (List.set s164.2 (Int.toNat s158.1) y166) (Int.toNat (IntKind.wrap IntKind.i64 (s158.1- (1:Int)))))
                  fun (y172:α)=>
                  some
                   (Sum.inl
                    (IntKind.wrap IntKind.i64 (s158.1- (1:Int)),
                     List.set (List.set s164.2 (Int.toNat s158.1) y166) (Int.toNat (IntKind.wrap IntKind.i64 (s158.1- (1:Int)))) y168))
         else some (Sum.inr s164.2))
       s157)
      fun (s173:List (α))=>some (Sum.inl (IntKind.wrap IntKind.i64 (s157.1+(1:Int)),s173))
    else Option.map (fun (r:List (α)×Unit)=>Sum.inr r) (bif Nat.beq (List.length s157.2) (List.length a0) then some (s157.2,()) else none))
   (IntKind.wrap IntKind.i64 (a1+(1:Int)),a0)
noncomputable def zDw {α:Type} (cmp:α×α×Unit→Option Int):List α→(Int×Int×Int×Unit×Unit)→Option (List α×Unit):=fun a0 x=>match x with
 |(a1,a2,a3,(),())=>
  zK
   (fun (s17:Int×List (α))=>
    bif decide (s17.1<a3) then
     Option.bind (idx s17.2 (IntKind.wrap IntKind.i64 (a2+s17.1))) fun (y18:α)=>
      Option.bind (atN s17.2 (Int.toNat (IntKind.wrap IntKind.i64 (a2+s17.1)))) fun (y19:α)=>
       Option.bind (idx s17.2 (IntKind.wrap IntKind.i64 (a1+s17.1))) fun (y20:α)=>
        Option.bind (atN s17.2 (Int.toNat (IntKind.wrap IntKind.i64 (a1+s17.1)))) fun (y21:α)=>
         Option.bind (idx s17.2 (IntKind.wrap IntKind.i64 (a1+s17.1))) fun (y22:α)=>
          Option.bind (atN s17.2 (Int.toNat (IntKind.wrap IntKind.i64 (a1+s17.1)))) fun (y23:α)=>
           Option.bind (idx (List.set s17.2 (Int.toNat (IntKind.wrap IntKind.i64 (a1+s17.1))) y19) (IntKind.wrap IntKind.i64 (a2+s17.1)))
            fun (y24:α)=>
            Option.bind (atN (List.set s17.2 (Int.toNat (IntKind.wrap IntKind.i64 (a1+s17.1))) y19) (Int.toNat (IntKind.wrap IntKind.i64 (a2+s17.1))))
             fun (y25:α)=>
             some
              (Sum.inl
               (IntKind.wrap IntKind.i64 (s17.1+(1:Int)),
                List.set (List.set s17.2 (Int.toNat (IntKind.wrap IntKind.i64 (a1+s17.1))) y19) (Int.toNat (IntKind.wrap IntKind.i64 (a2+s17.1))) y21))
    else Option.map (fun (r:List (α)×Unit)=>Sum.inr r) (bif Nat.beq (List.length s17.2) (List.length a0) then some (s17.2,()) else none))
   ((0:Int),a0)
noncomputable def zRz {α:Type} (cmp:α×α×Unit→Option Int):List α→(Int×Int×Int×Unit×Unit)→Option (List α×Unit):=fun a0 x=>match x with
 |(a1,a2,a3,(),())=>
  Option.bind
   (zK
    (fun (s6:Int×Int×List (α))=>
     bif s6.1 !=s6.2.1 then
      bif decide (s6.1>s6.2.1) then
       bif Nat.beq (List.length s6.2.2) (List.length s6.2.2) then
        Option.bind (zDw cmp s6.2.2 (IntKind.wrap IntKind.i64 (a2-s6.1),a2,s6.2.1,(),())) fun (y7:List (α)×Unit)=>
         some (Sum.inl (IntKind.wrap IntKind.i64 (s6.1-s6.2.1),s6.2.1,y7.1))
       else none
      else
       bif Nat.beq (List.length s6.2.2) (List.length s6.2.2) then
        Option.bind
         (zDw cmp s6.2.2
          (IntKind.wrap IntKind.i64 (a2-s6.1),IntKind.wrap IntKind.i64 (IntKind.wrap IntKind.i64 (a2+s6.2.1) -s6.1),s6.1,(),()))
         fun (y8:List (α)×Unit)=>some (Sum.inl (s6.1,IntKind.wrap IntKind.i64 (s6.2.1-s6.1),y8.1))
       else none
     else some (Sum.inr (s6.2.2,s6.1)))
    (IntKind.wrap IntKind.i64 (a2-a1),IntKind.wrap IntKind.i64 (a3-a2),a0))
   fun (s9:List (α)×Int)=>
   bif Nat.beq (List.length s9.1) (List.length s9.1) then
    Option.bind (zDw cmp s9.1 (IntKind.wrap IntKind.i64 (a2-s9.2),a2,s9.2,(),())) fun (y10:List (α)×Unit)=>
     bif Nat.beq (List.length y10.1) (List.length a0) then some (y10.1,()) else none
   else none
noncomputable def zGU {α:Type} (cmp:α×α×Unit→Option Int) (self:List α→(Int×Int×Int×Unit×Unit)→Option (List α×Unit)):List α→(Int×Int×Int×Unit×Unit)→Option (List α×Unit):=fun a0 x=>match x with
 |(a1,a2,a3,(),())=>
  qM
   (bif IntKind.wrap IntKind.i64 (a2-a1)==(1:Int) then
    Option.bind
     (zK
      (fun (s50:Int×Int×List (α))=>
       bif decide (s50.1<s50.2.1) then
        Option.bind
         (idx s50.2.2
          (IntKind.wrap IntKind.i64
           (Int.fdiv (IntKind.wrap IntKind.u64 (IntKind.wrap IntKind.i64 (s50.1+s50.2.1))) ((2:Int)^min (Int.toNat (1:Int)) (IntKind.bits IntKind.u64)))))
         fun (y51:α)=>
         Option.bind
          (atN s50.2.2
           (Int.toNat
            (IntKind.wrap IntKind.i64
             (Int.fdiv (IntKind.wrap IntKind.u64 (IntKind.wrap IntKind.i64 (s50.1+s50.2.1))) ((2:Int)^min (Int.toNat (1:Int)) (IntKind.bits IntKind.u64))))))
          fun (y52:α)=>
          Option.bind (idx s50.2.2 a1) fun (y53:α)=>
           Option.bind (atN s50.2.2 (Int.toNat a1)) fun (y54:α)=>
            Option.bind (cmp (y52,y54,())) fun (y55:Int)=>
             bif decide (y55< (0:Int)) then
              some
               (Sum.inl
                (IntKind.wrap IntKind.i64
                  (IntKind.wrap IntKind.i64
                    (Int.fdiv (IntKind.wrap IntKind.u64 (IntKind.wrap IntKind.i64 (s50.1+s50.2.1)))
                     ((2:Int)^min (Int.toNat (1:Int)) (IntKind.bits IntKind.u64)))+
                   (1:Int)),
                 s50.2))
             else
              some
               (Sum.inl
                (s50.1,
                 IntKind.wrap IntKind.i64
                  (Int.fdiv (IntKind.wrap IntKind.u64 (IntKind.wrap IntKind.i64 (s50.1+s50.2.1)))
                   ((2:Int)^min (Int.toNat (1:Int)) (IntKind.bits IntKind.u64))),
                 s50.2.2))
       else some (Sum.inr (s50.1,s50.2.2)))
      (a2,a3,a0))
     fun (s56:Int×List (α))=>
     zK
      (fun (s57:Int×List (α))=>
       bif decide (s57.1<IntKind.wrap IntKind.i64 (s56.1- (1:Int))) then
        Option.bind (idx s57.2 (IntKind.wrap IntKind.i64 (s57.1+(1:Int)))) fun (y58:α)=>
         Option.bind (atN s57.2 (Int.toNat (IntKind.wrap IntKind.i64 (s57.1+(1:Int))))) fun (y59:α)=>
          Option.bind (idx s57.2 s57.1) fun (y60:α)=>
           Option.bind (atN s57.2 (Int.toNat s57.1)) fun (y61:α)=>
            Option.bind (idx s57.2 s57.1) fun (y62:α)=>
             Option.bind (atN s57.2 (Int.toNat s57.1)) fun (y63:α)=>
              Option.bind (idx (List.set s57.2 (Int.toNat s57.1) y59) (IntKind.wrap IntKind.i64 (s57.1+(1:Int)))) fun (y64:α)=>
               Option.bind (atN (List.set s57.2 (Int.toNat s57.1) y59) (Int.toNat (IntKind.wrap IntKind.i64 (s57.1+(1:Int))))) fun (y65:α)=>
                some
                 (Sum.inl
                  (IntKind.wrap IntKind.i64 (s57.1+(1:Int)),
                   List.set (List.set s57.2 (Int.toNat s57.1) y59) (Int.toNat (IntKind.wrap IntKind.i64 (s57.1+(1:Int)))) y61))
       else
        Option.map (fun (r:List (α) ⊕ List (α)×Unit)=>Sum.inr r)
         (Option.map (fun (r:List (α)×Unit)=>Sum.inr r) (bif Nat.beq (List.length s57.2) (List.length a0) then some (s57.2,()) else none)))
      (a1,s56.2)
   else some (Sum.inl a0))
   fun (s66:List (α))=>
   qM
    (bif IntKind.wrap IntKind.i64 (a3-a2)==(1:Int) then
     Option.bind
      (zK
       (fun (s117:Int×Int×List (α))=>
        bif decide (s117.1<s117.2.1) then
         Option.bind (idx s117.2.2 a2) fun (y118:α)=>
          Option.bind (atN s117.2.2 (Int.toNat a2)) fun (y119:α)=>
           Option.bind
            (idx s117.2.2
             (IntKind.wrap IntKind.i64
              (Int.fdiv (IntKind.wrap IntKind.u64 (IntKind.wrap IntKind.i64 (s117.1+s117.2.1)))
               ((2:Int)^min (Int.toNat (1:Int)) (IntKind.bits IntKind.u64)))))
            fun (y120:α)=>
            Option.bind
             (atN s117.2.2
              (Int.toNat
               (IntKind.wrap IntKind.i64
                (Int.fdiv (IntKind.wrap IntKind.u64 (IntKind.wrap IntKind.i64 (s117.1+s117.2.1)))
                 ((2:Int)^min (Int.toNat (1:Int)) (IntKind.bits IntKind.u64))))))
             fun (y121:α)=>
             Option.bind (cmp (y119,y121,())) fun (y122:Int)=>
              bif !decide (y122< (0:Int)) then
               some
                (Sum.inl
                 (IntKind.wrap IntKind.i64
                   (IntKind.wrap IntKind.i64
                     (Int.fdiv (IntKind.wrap IntKind.u64 (IntKind.wrap IntKind.i64 (s117.1+s117.2.1)))
                      ((2:Int)^min (Int.toNat (1:Int)) (IntKind.bits IntKind.u64)))+
                    (1:Int)),
                  s117.2))
              else
               some
                (Sum.inl
                 (s117.1,
                  IntKind.wrap IntKind.i64
                   (Int.fdiv (IntKind.wrap IntKind.u64 (IntKind.wrap IntKind.i64 (s117.1+s117.2.1)))
                    ((2:Int)^min (Int.toNat (1:Int)) (IntKind.bits IntKind.u64))),
                  s117.2.2))
        else some (Sum.inr (s117.1,s117.2.2)))
       (a1,a2,s66))
      fun (s123:Int×List (α))=>
      zK
       (fun (s124:Int×List (α))=>
        bif decide (s124.1>s123.1) then
         Option.bind (idx s124.2 (IntKind.wrap IntKind.i64 (s124.1- (1:Int)))) fun (y125:α)=>
          Option.bind (atN s124.2 (Int.toNat (IntKind.wrap IntKind.i64 (s124.1- (1:Int))))) fun (y126:α)=>
           Option.bind (idx s124.2 s124.1) fun (y127:α)=>
            Option.bind (atN s124.2 (Int.toNat s124.1)) fun (y128:α)=>
             Option.bind (idx s124.2 s124.1) fun (y129:α)=>
              Option.bind (atN s124.2 (Int.toNat s124.1)) fun (y130:α)=>
               Option.bind (idx (List.set s124.2 (Int.toNat s124.1) y126) (IntKind.wrap IntKind.i64 (s124.1- (1:Int)))) fun (y131:α)=>
                Option.bind (atN (List.set s124.2 (Int.toNat s124.1) y126) (Int.toNat (IntKind.wrap IntKind.i64 (s124.1- (1:Int)))))
                 fun (y132:α)=>
                 some
                  (Sum.inl
                   (IntKind.wrap IntKind.i64 (s124.1- (1:Int)),
                    List.set (List.set s124.2 (Int.toNat s124.1) y126) (Int.toNat (IntKind.wrap IntKind.i64 (s124.1- (1:Int)))) y128))
        else
         Option.map (fun (r:List (α) ⊕ List (α)×Unit)=>Sum.inr r)
          (Option.map (fun (r:List (α)×Unit)=>Sum.inr r) (bif Nat.beq (List.length s124.2) (List.length a0) then some (s124.2,()) else none)))
       (a2,s123.2)
    else some (Sum.inl s66))
    fun (s133:List (α))=>
    Option.bind
     (bif
       decide
        (a2>
         IntKind.wrap IntKind.i64
          (Int.fdiv (IntKind.wrap IntKind.u64 (IntKind.wrap IntKind.i64 (a1+a3))) ((2:Int)^min (Int.toNat (1:Int)) (IntKind.bits IntKind.u64)))) then
      some
       (IntKind.wrap IntKind.i64
         (IntKind.wrap IntKind.i64
           (IntKind.wrap IntKind.i64
             (Int.fdiv (IntKind.wrap IntKind.u64 (IntKind.wrap IntKind.i64 (a1+a3))) ((2:Int)^min (Int.toNat (1:Int)) (IntKind.bits IntKind.u64)))+
            a2) -
          a3),
        IntKind.wrap IntKind.i64 (Int.fdiv (IntKind.wrap IntKind.u64 (IntKind.wrap IntKind.i64 (a1+a3))) ((2:Int)^min (Int.toNat (1:Int)) (IntKind.bits IntKind.u64))),
        s133)
     else some (a1,a2,s133))
     fun (s134:Int×Int×List (α))=>
     Option.bind
      (zK
       (fun (s152:Int×Int×List (α))=>
        bif decide (s152.1<s152.2.1) then
         Option.bind
          (idx s152.2.2
           (IntKind.wrap IntKind.i64
            (IntKind.wrap IntKind.i64
              (IntKind.wrap IntKind.i64
                (IntKind.wrap IntKind.i64
                  (Int.fdiv (IntKind.wrap IntKind.u64 (IntKind.wrap IntKind.i64 (a1+a3))) ((2:Int)^min (Int.toNat (1:Int)) (IntKind.bits IntKind.u64)))+
                 a2) -
               (1:Int)) -
             IntKind.wrap IntKind.i64
              (Int.fdiv (IntKind.wrap IntKind.u64 (IntKind.wrap IntKind.i64 (s152.1+s152.2.1)))
               ((2:Int)^min (Int.toNat (1:Int)) (IntKind.bits IntKind.u64))))))
          fun (y153:α)=>
          Option.bind
           (atN s152.2.2
            (Int.toNat
             (IntKind.wrap IntKind.i64
              (IntKind.wrap IntKind.i64
                (IntKind.wrap IntKind.i64
                  (IntKind.wrap IntKind.i64
                    (Int.fdiv (IntKind.wrap IntKind.u64 (IntKind.wrap IntKind.i64 (a1+a3))) ((2:Int)^min (Int.toNat (1:Int)) (IntKind.bits IntKind.u64)))+
                   a2) -
                 (1:Int)) -
               IntKind.wrap IntKind.i64
                (Int.fdiv (IntKind.wrap IntKind.u64 (IntKind.wrap IntKind.i64 (s152.1+s152.2.1)))
                 ((2:Int)^min (Int.toNat (1:Int)) (IntKind.bits IntKind.u64)))))))
           fun (y154:α)=>
           Option.bind
            (idx s152.2.2
             (IntKind.wrap IntKind.i64
              (Int.fdiv (IntKind.wrap IntKind.u64 (IntKind.wrap IntKind.i64 (s152.1+s152.2.1)))
               ((2:Int)^min (Int.toNat (1:Int)) (IntKind.bits IntKind.u64)))))
            fun (y155:α)=>
            Option.bind
             (atN s152.2.2
              (Int.toNat
               (IntKind.wrap IntKind.i64
                (Int.fdiv (IntKind.wrap IntKind.u64 (IntKind.wrap IntKind.i64 (s152.1+s152.2.1)))
                 ((2:Int)^min (Int.toNat (1:Int)) (IntKind.bits IntKind.u64))))))
             fun (y156:α)=>
             Option.bind (cmp (y154,y156,())) fun (y157:Int)=>
              bif !decide (y157< (0:Int)) then
               some
                (Sum.inl
                 (IntKind.wrap IntKind.i64
                   (IntKind.wrap IntKind.i64
                     (Int.fdiv (IntKind.wrap IntKind.u64 (IntKind.wrap IntKind.i64 (s152.1+s152.2.1)))
                      ((2:Int)^min (Int.toNat (1:Int)) (IntKind.bits IntKind.u64)))+
                    (1:Int)),
                  s152.2))
              else
               some
                (Sum.inl
                 (s152.1,
                  IntKind.wrap IntKind.i64
                   (Int.fdiv (IntKind.wrap IntKind.u64 (IntKind.wrap IntKind.i64 (s152.1+s152.2.1)))
                    ((2:Int)^min (Int.toNat (1:Int)) (IntKind.bits IntKind.u64))),
                  s152.2.2))
        else some (Sum.inr (s152.1,s152.2.2)))
       s134)
      fun (s158:Int×List (α))=>
      Option.bind
       (Option.bind
        (bif decide (s158.1<a2) then
         some
          (decide
            (a2<
             IntKind.wrap IntKind.i64
              (IntKind.wrap IntKind.i64
                (IntKind.wrap IntKind.i64
                  (Int.fdiv (IntKind.wrap IntKind.u64 (IntKind.wrap IntKind.i64 (a1+a3))) ((2:Int)^min (Int.toNat (1:Int)) (IntKind.bits IntKind.u64)))+
                 a2) -
               s158.1)),
           s158.2)
        else some (false,s158.2))
        fun (s161:Bool×List (α))=>
        bif s161.1 then
         bif Nat.beq (List.length s161.2) (List.length s161.2) then
          Option.bind
           (zRz cmp s161.2
            (s158.1,a2,
             IntKind.wrap IntKind.i64
              (IntKind.wrap IntKind.i64
                (IntKind.wrap IntKind.i64
                  (Int.fdiv (IntKind.wrap IntKind.u64 (IntKind.wrap IntKind.i64 (a1+a3))) ((2:Int)^min (Int.toNat (1:Int)) (IntKind.bits IntKind.u64)))+
                 a2) -
               s158.1),
             (),()))
           fun (y162:List (α)×Unit)=>some y162.1
         else none
        else some s161.2)
       fun (s163:List (α))=>
       Option.bind
        (Option.bind
         (bif decide (a1<s158.1) then
          some
           (decide
             (s158.1<
              IntKind.wrap IntKind.i64
               (Int.fdiv (IntKind.wrap IntKind.u64 (IntKind.wrap IntKind.i64 (a1+a3))) ((2:Int)^min (Int.toNat (1:Int)) (IntKind.bits IntKind.u64)))),
            s163)
         else some (false,s163))
         fun (s166:Bool×List (α))=>
         bif s166.1 then
          bif Nat.beq (List.length s166.2) (List.length s166.2) then
           Option.bind
            (self s166.2
             (a1,s158.1,
              IntKind.wrap IntKind.i64
               (Int.fdiv (IntKind.wrap IntKind.u64 (IntKind.wrap IntKind.i64 (a1+a3))) ((2:Int)^min (Int.toNat (1:Int)) (IntKind.bits IntKind.u64))),
              (),()))
            fun (y167:List (α)×Unit)=>some y167.1
          else none
         else some s166.2)
        fun (s168:List (α))=>
        Option.bind
         (bif
           decide
            (IntKind.wrap IntKind.i64
              (Int.fdiv (IntKind.wrap IntKind.u64 (IntKind.wrap IntKind.i64 (a1+a3))) ((2:Int)^min (Int.toNat (1:Int)) (IntKind.bits IntKind.u64)))<
             IntKind.wrap IntKind.i64
              (IntKind.wrap IntKind.i64
                (IntKind.wrap IntKind.i64
                  (Int.fdiv (IntKind.wrap IntKind.u64 (IntKind.wrap IntKind.i64 (a1+a3))) ((2:Int)^min (Int.toNat (1:Int)) (IntKind.bits IntKind.u64)))+
                 a2) -
               s158.1)) then
          some
           (decide
             (IntKind.wrap IntKind.i64
               (IntKind.wrap IntKind.i64
                 (IntKind.wrap IntKind.i64
                   (Int.fdiv (IntKind.wrap IntKind.u64 (IntKind.wrap IntKind.i64 (a1+a3))) ((2:Int)^min (Int.toNat (1:Int)) (IntKind.bits IntKind.u64)))+
                  a2) -
                s158.1)<
              a3),
            s168)
         else some (false,s168))
         fun (s169:Bool×List (α))=>
         bif s169.1 then
          bif Nat.beq (List.length s169.2) (List.length s169.2) then
           Option.bind
            (self s169.2
             (IntKind.wrap IntKind.i64
               (Int.fdiv (IntKind.wrap IntKind.u64 (IntKind.wrap IntKind.i64 (a1+a3))) ((2:Int)^min (Int.toNat (1:Int)) (IntKind.bits IntKind.u64))),
              IntKind.wrap IntKind.i64
               (IntKind.wrap IntKind.i64
                 (IntKind.wrap IntKind.i64
                   (Int.fdiv (IntKind.wrap IntKind.u64 (IntKind.wrap IntKind.i64 (a1+a3))) ((2:Int)^min (Int.toNat (1:Int)) (IntKind.bits IntKind.u64)))+
                  a2) -
                s158.1),
              a3,(),()))
            fun (y170:List (α)×Unit)=>bif Nat.beq (List.length y170.1) (List.length a0) then some (y170.1,()) else none
          else none
         else bif Nat.beq (List.length s169.2) (List.length a0) then some (s169.2,()) else none
noncomputable def zBf {α:Type} (cmp:α×α×Unit→Option Int):Nat→(List α→(Int×Int×Int×Unit×Unit)→Option (List α×Unit))
 |0=>fun _ _=>none
 |n+1=>zGU cmp (zBf cmp n)
noncomputable def zET {α:Type} (cmp:α×α×Unit→Option Int):List α→(Int×Int×Int×Unit×Unit)→Option (List α×Unit):=zBf cmp 1048576
noncomputable def zKe {α:Type} (cmp:α×α×Unit→Option Int):List α→(Int×Unit×Unit)→Option (List α×Unit):=fun a0 x=>match x with
 |(a1,(),())=>
  Option.bind
   (zK
    (fun (s4:Int×List (α)×Int)=>
     bif decide (s4.1≤a1) then
      bif Nat.beq (List.length s4.2.1) (List.length s4.2.1) then
       Option.bind (x7 cmp s4.2.1 (s4.2.2,s4.1,(),())) fun (y5:List (α)×Unit)=>
        some (Sum.inl (IntKind.wrap IntKind.i64 (s4.1+(20:Int)),y5.1,s4.1))
      else none
     else some (Sum.inr s4.2))
    ((20:Int),a0,(0:Int)))
   fun (s6:List (α)×Int)=>
   bif Nat.beq (List.length s6.1) (List.length s6.1) then
    Option.bind (x7 cmp s6.1 (s6.2,a1,(),())) fun (y7:List (α)×Unit)=>
     zK
      (fun (s30:Int×List (α))=>
       bif decide (s30.1<a1) then
        Option.bind
         (zK
          (fun (s31:Int×List (α)×Int)=>
           bif decide (s31.1≤a1) then
            bif Nat.beq (List.length s31.2.1) (List.length s31.2.1) then
             Option.bind (zET cmp s31.2.1 (s31.2.2,IntKind.wrap IntKind.i64 (s31.2.2+s30.1),s31.1,(),()))
              fun (y32:List (α)×Unit)=>
              some (Sum.inl (IntKind.wrap IntKind.i64 (s31.1+IntKind.wrap IntKind.i64 ((2:Int)*s30.1)),y32.1,s31.1))
            else none
           else some (Sum.inr (s31.2.2,s31.2.1)))
          (IntKind.wrap IntKind.i64 ((2:Int)*s30.1),s30.2,(0:Int)))
         fun (s33:Int×List (α))=>
         Option.bind
          (bif decide (IntKind.wrap IntKind.i64 (s33.1+s30.1)<a1) then
           bif Nat.beq (List.length s33.2) (List.length s33.2) then
            Option.bind (zET cmp s33.2 (s33.1,IntKind.wrap IntKind.i64 (s33.1+s30.1),a1,(),())) fun (y34:List (α)×Unit)=>
             some y34.1
           else none
          else some s33.2)
          fun (s35:List (α))=>some (Sum.inl (IntKind.wrap IntKind.i64 (s30.1*(2:Int)),s35))
       else Option.map (fun (r:List (α)×Unit)=>Sum.inr r) (bif Nat.beq (List.length s30.2) (List.length a0) then some (s30.2,()) else none))
      ((20:Int),y7.1)
   else none
noncomputable def zEh {α:Type} (cmp:α×α×Unit→Option Int):List α→(Unit×Unit)→Option (List α×Unit):=fun a0 x=>match x with
 |((),())=>
  bif Nat.beq (List.length a0) (List.length a0)&&Nat.beq (List.length a0) (List.length a0) then
   Option.bind (zKe cmp a0 ((↑(List.length a0):Int),(),())) fun (y0:List (α)×Unit)=>
    bif Nat.beq (List.length y0.1) (List.length a0) then some (y0.1,()) else none
  else none
end Go.Ve

namespace Go.Ve
open Go
set_option maxRecDepth 1000000
set_option maxHeartbeats 4000000
section
variable {α:Type} {cmp:α×α×Unit→Option Int}
theorem zCQ (xs:List α) (a b n:Nat) (hab:a+n≤b) (hb:b+n≤xs.length) (hl:xs.length<4611686018427387904):
  Wp (zDw cmp xs ((a:Int),(b:Int),(n:Int),(),())) (fun r=>r.1.length=xs.length∧ ∀k,r.1[k]? =swF a b n xs k):=by
 unfold zDw
 dsimp only
 refine j4 (fun s:Int×List α=> ∃i:Nat,s.1=(i:Int)∧i≤n∧s.2.length=xs.length∧ ∀k,s.2[k]? =swF a b i xs k) (fun s=>((n:Int) -s.1).toNat) ⟨0,rfl,Nat.zero_le _,rfl,fun k=>zXB.symm⟩ ?_
 rintro ⟨s,zs⟩ ⟨i,hi,hin,hzl,hz⟩
 simp only at hi hzl hz
 subst hi
 refine zI (fun h=> ?_) (fun h=> ?_)
 ·have h:(i:Int)< (n:Int):=h
  have hx:zs[a+i]? =some (zs[a+i]'(by omega)):=by simp
  have hy:zs[b+i]? =some (zs[b+i]'(by omega)):=by simp
  have hy2:(zs.set (a+i) (zs[b+i]'(by omega)))[b+i]? =some (zs[b+i]'(by omega)):=by rw [List.getElem?_set_ne (by omega)];exact hy
  dsimp only
  rw [zH (x:=(b:Int)+(i:Int)) (by omega) (by omega),zH (x:=(a:Int)+(i:Int)) (by omega) (by omega),show ((b:Int)+(i:Int))=((b+i:Nat):Int) by omega,show ((a:Int)+(i:Int))=((a+i:Nat):Int) by omega]
  simp only [zJ hx,zJ hy,Int.toNat_natCast,vO hx,vO hy,Option.bind_some,zJ hy2,vO hy2]
  refine zB (e2l ⟨⟨i+1,?_,by omega,by simp only [List.length_set];exact hzl,zXC (by omega) (by omega) hzl hz hx hy⟩,?_⟩)
  ·simp only;rw [zH (by omega) (by omega)];omega
  ·simp only;rw [zH (by omega) (by omega)];omega
 ·have h: ¬(i:Int)< (n:Int):=h
  have:i=n:=by omega
  subst this
  exact zAD (zF (fun _=>zB (e2r ⟨hzl,hz⟩)) (fun h=>absurd h (by simp only;rw [hzl,Nat.beq_refl];decide)))
theorem zF8 {xs ys:List α} (h:xs.length=ys.length):Nat.beq xs.length ys.length=true:=by rw [h];exact Nat.beq_refl _
theorem zRo (xs:List α) (a m b:Nat) (ham:a<m) (hmb:m<b) (hb:b≤xs.length) (hl:xs.length<4611686018427387904):
  Wp (zRz cmp xs ((a:Int),(m:Int),(b:Int),(),())) (fun r=>r.1.length=xs.length∧ ∀k,r.1[k]? =yM a m b xs k):=by
 unfold zRz
 dsimp only
 rw [zH (x:=(m:Int) - (a:Int)) (by omega) (by omega),zH (x:=(b:Int) - (m:Int)) (by omega) (by omega)]
 refine zC ((show Wp _ (fun s:List α×Int=>s.1.length=xs.length∧ ∃i:Nat,s.2=(i:Int)∧0<i∧i≤m∧m+i≤b∧ ∀k,yM (m-i) m (m+i) s.1 k=yM a m b xs k) from ?_).mono ?_)
 ·refine j4 (fun s:Int×Int×List α=>s.2.2.length=xs.length∧ ∃i j:Nat,s.1=(i:Int)∧s.2.1=(j:Int)∧0<i∧0<j∧i≤m-a∧m+j≤b∧ ∀k,yM (m-i) m (m+j) s.2.2 k=yM a m b xs k) (fun s=>(s.1+s.2.1).toNat)
   ⟨rfl,m-a,b-m,by simp only;omega,by simp only;omega,by omega,by omega,by omega,by omega,fun k=>by rw [show m- (m-a)=a by omega,show m+(b-m)=b by omega]⟩ ?_
  rintro ⟨si,sj,zs⟩ ⟨hzl,i,j,hi,hj,hi0,hj0,hia,hjb,hz⟩
  simp only at hi hj hzl hz
  subst hi hj
  refine zF (fun hne=> ?_) (fun he=>zB (e2r ⟨hzl,i,rfl,hi0,by omega,?_,?_⟩))
  ·have hne: ¬(i:Int)=(j:Int):=by simpa using hne
   refine zI (fun hgt=> ?_) (fun hgt=> ?_)
   ·have hgt:(i:Int)>(j:Int):=hgt
    refine zF (fun _=> ?_) (fun h=>absurd h (by rw [Nat.beq_refl];decide))
    dsimp only
    rw [zH (x:=(m:Int) - (i:Int)) (by omega) (by omega),zH (x:=(i:Int) - (j:Int)) (by omega) (by omega),show ((m:Int) - (i:Int))=((m-i:Nat):Int) by omega]
    refine zC ((zCQ zs (m-i) m j (by omega) (by omega) (by omega)).mono (fun y hy=>zB (e2l ⟨⟨hy.1.trans hzl,i-j,j,?_,rfl,by omega,hj0,by omega,hjb,fun k=> ?_⟩,?_⟩)))
    ·simp only;omega
    ·rw [←hz k, ←zXS (lo:=m-i) (m:=m) (hi:=m+j) (xs:=zs) (zs:=y.1) (by omega) (by omega) (by omega) (fun k=>by rw [hy.2,show m+j-m=j by omega]) k,show m- (i-j)=m-i+(m+j-m) by omega]
    ·simp only;omega
   ·have hgt: ¬(i:Int)>(j:Int):=hgt
    refine zF (fun _=> ?_) (fun h=>absurd h (by rw [Nat.beq_refl];decide))
    dsimp only
    rw [zH (x:=(m:Int) - (i:Int)) (by omega) (by omega),zH (x:=(m:Int)+(j:Int)) (by omega) (by omega),zH (x:=(m:Int)+(j:Int) - (i:Int)) (by omega) (by omega),zH (x:=(j:Int) - (i:Int)) (by omega) (by omega),show ((m:Int) - (i:Int))=((m-i:Nat):Int) by omega,show ((m:Int)+(j:Int) - (i:Int))=((m+j-i:Nat):Int) by omega]
    refine zC ((zCQ zs (m-i) (m+j-i) i (by omega) (by omega) (by omega)).mono (fun y hy=>zB (e2l ⟨⟨hy.1.trans hzl,i,j-i,rfl,?_,hi0,by omega,hia,by omega,fun k=> ?_⟩,?_⟩)))
    ·simp only;omega
    ·rw [←hz k, ←zWv (lo:=m-i) (m:=m) (hi:=m+j) (xs:=zs) (zs:=y.1) (by omega) (by omega) (by omega) (fun k=>by rw [hy.2,show m- (m-i)=i by omega]) k,show m+(j-i)=m+j- (m- (m-i)) by omega]
    ·simp only;omega
  ·have he:(i:Int)=(j:Int):=by simpa using he
   omega
  ·have he:(i:Int)=(j:Int):=by simpa using he
   have:i=j:=by omega
   subst this
   exact hz
 ·rintro ⟨zs,s⟩ ⟨hzl,i,hi,hi0,him,hmi,hz⟩
  simp only at hi hzl hz
  subst hi
  refine zF (fun _=> ?_) (fun h=>absurd h (by rw [Nat.beq_refl];decide))
  dsimp only
  rw [zH (x:=(m:Int) - (i:Int)) (by omega) (by omega),show ((m:Int) - (i:Int))=((m-i:Nat):Int) by omega]
  refine zC ((zCQ zs (m-i) m i (by omega) (by omega) (by omega)).mono (fun y hy=> ?_))
  refine zF (fun _=>zB ⟨hy.1.trans hzl,fun k=> ?_⟩) (fun h=>absurd h (by rw [zF8 (hy.1.trans hzl)];decide))
  rw [←hz k]
  exact zXT (lo:=m-i) (m:=m) (hi:=m+i) (by omega) (by omega) (by omega) (fun k=>by rw [hy.2,show m- (m-i)=i by omega]) k
end
end Go.Ve

namespace Go.Ve
open Go
set_option maxHeartbeats 4000000
section
variable {α κ:Type} {lt:α→α→Prop} {key:α→κ}
structure zMY (lt:α→α→Prop) (key:α→κ):Prop where
 ord:Ord lt
 ne: ∀x y,lt x y→key x≠key y
open Classical in
noncomputable def zL3 (key:α→κ) (p:κ) (xs:List α):List α:=xs.filter (fun x=>decide (key x=p))
def zGr (key:α→κ) (xs ys:List α):Prop:= ∀p,zL3 key p xs=zL3 key p ys
theorem zGr.refl (xs:List α):zGr key xs xs:=fun _=>rfl
theorem zGr.trans {xs ys zs:List α} (h1:zGr key xs ys) (h2:zGr key ys zs):zGr key xs zs:=fun p=>(h1 p).trans (h2 p)
theorem zTx (p:κ) (xs ys:List α):zL3 key p (xs++ys)=zL3 key p xs++zL3 key p ys:=List.filter_append ..
theorem zTw {p:κ} {xs:List α} (h: ∀x,x∈xs→key x≠p):zL3 key p xs=[]:=by
 unfold zL3
 rw [List.filter_eq_nil_iff]
 intro x hx
 simpa using h x hx
theorem zWr (hk:zMY lt key) {P U V S:List α} (h: ∀x y,x∈U→y∈V→lt y x):zGr key (P++U++V++S) (P++V++U++S):=by
 intro p
 simp only [zTx]
 congr 1
 rw [List.append_assoc,List.append_assoc]
 congr 1
 by_cases hu: ∃x,x∈U∧key x=p
 ·obtain ⟨x,hx,rfl⟩:=hu
  rw [zTw (xs:=V) (fun y hy=>hk.ne _ _ (h x y hx hy))]
  simp
 ·rw [zTw (xs:=U) (fun x hx e=>hu ⟨x,hx,e⟩)]
  simp
structure yZ (key:α→κ) (a b:Nat) (xs ys:List α):Prop where
 len:ys.length=xs.length
 out: ∀k,k<a∨b≤k→ys[k]? =xs[k]?
 ins: ∀q y,a≤q→q<b→ys[q]? =some y→ ∃q',a≤q'∧q'<b∧xs[q']? =some y
 same:zGr key xs ys
theorem yZ.refl (a b:Nat) (xs:List α):yZ key a b xs xs:=⟨rfl,fun _ _=>rfl,fun q y h1 h2 h3=>⟨q,h1,h2,h3⟩,zGr.refl xs⟩
theorem yZ.trans {a b:Nat} {xs ys zs:List α} (h1:yZ key a b xs ys) (h2:yZ key a b ys zs):yZ key a b xs zs:=by
 refine ⟨h2.len.trans h1.len,fun k hk=>(h2.out k hk).trans (h1.out k hk),?_,h1.same.trans h2.same⟩
 intro q y hq1 hq2 hy
 obtain ⟨q',g1,g2,g3⟩:=h2.ins q y hq1 hq2 hy
 exact h1.ins q' y g1 g2 g3
theorem yZ.mono {a b a' b':Nat} {xs ys:List α} (h:yZ key a b xs ys) (ha:a'≤a) (hb:b≤b'):yZ key a' b' xs ys:=by
 refine ⟨h.len,fun k hk=>h.out k (by omega),?_,h.same⟩
 intro q y hq1 hq2 hy
 by_cases hq:a≤q∧q<b
 ·obtain ⟨q',g1,g2,g3⟩:=h.ins q y hq.1 hq.2 hy
  exact ⟨q',by omega,by omega,g3⟩
 ·exact ⟨q,hq1,hq2,by rw [←h.out q (by omega)];exact hy⟩
def w6 (lt:α→α→Prop) (lo hi:Nat) (xs:List α):Prop:= ∀p q x y,lo≤p→p<q→q<hi→xs[p]? =some x→xs[q]? =some y→ ¬lt y x
theorem w6.out {lo hi a b:Nat} {xs ys:List α} (h:w6 lt lo hi xs) (hs:yZ key a b xs ys) (hd:hi≤a∨b≤lo):w6 lt lo hi ys:=by
 intro p q x y h1 h2 h3 hx hy
 rw [hs.out p (by omega)] at hx
 rw [hs.out q (by omega)] at hy
 exact h p q x y h1 h2 h3 hx hy
theorem zJk {a c b:Nat} {xs:List α} (h1:w6 lt a c xs) (h2:w6 lt c b xs) (h3: ∀q r x y,a≤q→q<c→c≤r→r<b→xs[q]? =some x→xs[r]? =some y→ ¬lt y x):w6 lt a b xs:=by
 intro p q x y hp hpq hq hx hy
 by_cases g1:q<c
 ·exact h1 p q x y hp hpq g1 hx hy
 ·by_cases g2:p<c
  ·exact h3 p q x y hp g2 (by omega) hq hx hy
  ·exact h2 p q x y (by omega) hpq hq hx hy
theorem zWn {a:Nat} {xs:List α} :w6 lt a (a+1) xs:=fun p q x y h1 h2 h3 _ _=>by omega
theorem w6.sub {a b a' b':Nat} {xs:List α} (h:w6 lt a b xs) (ha:a≤a') (hb:b'≤b):w6 lt a' b' xs:=fun p q x y h1 h2 h3 hx hy=>h p q x y (by omega) h2 (by omega) hx hy
theorem zKq (hk:zMY lt key) {lo m hi:Nat} {xs zs:List α} (h1:lo≤m) (h2:m≤hi) (h3:hi≤xs.length) (hl:zs.length=xs.length) (h: ∀k,zs[k]? =yM lo m hi xs k)
  (hlt: ∀q r x y,lo≤q→q<m→m≤r→r<hi→xs[q]? =some x→xs[r]? =some y→lt y x):yZ key lo hi xs zs:=by
 have hsplit:xs=xs.take lo++(xs.drop lo).take (m-lo)++(xs.drop m).take (hi-m)++xs.drop hi:=by
  refine List.ext_getElem? (fun k=> ?_)
  simp only [List.getElem?_append,List.length_append,List.length_take,List.length_drop,List.getElem?_take,List.getElem?_drop]
  repeat' split
  all_goals first
   |rfl
   |exact zAI (by omega)
   |(exfalso;omega)
 have hz:zs=xs.take lo++(xs.drop m).take (hi-m)++(xs.drop lo).take (m-lo)++xs.drop hi:=by
  refine List.ext_getElem? (fun k=> ?_)
  rw [h]
  unfold yM
  simp only [List.getElem?_append,List.length_append,List.length_take,List.length_drop,List.getElem?_take,List.getElem?_drop]
  repeat' split
  all_goals first
   |rfl
   |exact zAI (by omega)
   |(exfalso;omega)
 refine ⟨hl,?_,?_,?_⟩
 ·intro k hk'
  rw [h]
  unfold yM
  rw [if_neg (by omega),if_neg (by omega)]
 ·intro q y hq1 hq2 hy
  rw [h] at hy
  unfold yM at hy
  split at hy
  ·exact ⟨q+(m-lo),by omega,by omega,hy⟩
  ·split at hy
   ·exact ⟨q- (hi-m),by omega,by omega,hy⟩
   ·exact ⟨q,hq1,hq2,hy⟩
 ·have hs:=zWr hk (P:=xs.take lo) (U:=(xs.drop lo).take (m-lo)) (V:=(xs.drop m).take (hi-m)) (S:=xs.drop hi) ?_
  ·rw [←hsplit, ←hz] at hs
   exact hs
  ·intro x y hx hy
   obtain ⟨i,hi',hx'⟩:=List.getElem_of_mem hx
   obtain ⟨j,hj',hy'⟩:=List.getElem_of_mem hy
   have e1:xs[lo+i]? =some x:=by
    have:((xs.drop lo).take (m-lo))[i]? =some x:=by rw [List.getElem?_eq_getElem hi',hx']
    rw [List.getElem?_take,List.getElem?_drop] at this
    split at this
    ·exact this
    ·cases this
   have e2:xs[m+j]? =some y:=by
    have:((xs.drop m).take (hi-m))[j]? =some y:=by rw [List.getElem?_eq_getElem hj',hy']
    rw [List.getElem?_take,List.getElem?_drop] at this
    split at this
    ·exact this
    ·cases this
   simp only [List.length_take,List.length_drop] at hi' hj'
   exact hlt (lo+i) (m+j) x y (by omega) (by omega) (by omega) (by omega) e1 e2
theorem zZC {a k:Nat} {xs zs:List α} (hak:a≤k) (hk:k+1<xs.length) (hl:zs.length=xs.length) (h: ∀j,zs[j]? =yM a (a+1) (k+1) xs j) {x y:α} (hx:zs[k]? =some x) (hy:zs[k+1]? =some y):
  ∀j,((zs.set k y).set (k+1) x)[j]? =yM a (a+1) (k+2) xs j:=by
 intro j
 have h1:=h k
 have h2:=h (k+1)
 unfold yM at h1 h2
 rw [hx,if_neg (by omega),if_pos (by omega)] at h1
 rw [hy,if_neg (by omega),if_neg (by omega)] at h2
 unfold yM
 by_cases e1:j=k+1
 ·subst e1
  rw [List.getElem?_set_self (by rw [List.length_set];omega),if_neg (by omega),if_pos (by omega),h1]
  exact zAI (by omega)
 ·rw [List.getElem?_set_ne (by omega)]
  by_cases e2:j=k
  ·subst e2
   rw [List.getElem?_set_self (by omega),if_pos (by omega),h2]
   exact zAI (by omega)
  ·rw [List.getElem?_set_ne (by omega),h j]
   unfold yM
   repeat' split
   all_goals first
    |rfl
    |exact zAI (by omega)
    |(exfalso;omega)
theorem zQE {m k:Nat} {xs zs:List α} (hk0:0<k) (hkm:k≤m) (hm:m<xs.length) (hl:zs.length=xs.length) (h: ∀j,zs[j]? =yM k m (m+1) xs j) {x y:α} (hx:zs[k]? =some x) (hy:zs[k-1]? =some y):
  ∀j,((zs.set k y).set (k-1) x)[j]? =yM (k-1) m (m+1) xs j:=by
 intro j
 have h1:=h k
 have h2:=h (k-1)
 unfold yM at h1 h2
 rw [hx,if_pos (by omega)] at h1
 rw [hy,if_neg (by omega),if_neg (by omega)] at h2
 unfold yM
 by_cases e1:j=k-1
 ·subst e1
  rw [List.getElem?_set_self (by rw [List.length_set];omega),if_pos (by omega),h1]
  exact zAI (by omega)
 ·rw [List.getElem?_set_ne (by omega)]
  by_cases e2:j=k
  ·subst e2
   rw [List.getElem?_set_self (by omega),if_neg (by omega),if_pos (by omega),h2]
   exact zAI (by omega)
  ·rw [List.getElem?_set_ne (by omega),h j]
   unfold yM
   repeat' split
   all_goals first
    |rfl
    |exact zAI (by omega)
    |(exfalso;omega)
theorem zXU {a:Nat} {xs:List α} (j:Nat):yM a (a+1) (a+1) xs j=xs[j]? :=by
 unfold yM
 repeat' split
 all_goals first
  |rfl
  |exact zAI (by omega)
  |(exfalso;omega)
theorem zSV {m:Nat} {xs:List α} (j:Nat):yM m m (m+1) xs j=xs[j]? :=by
 unfold yM
 repeat' split
 all_goals first
  |rfl
  |exact zAI (by omega)
  |(exfalso;omega)
end
theorem zRJ (i j:Nat) (h:i+j<4611686018427387904):IntKind.wrap .i64 (Int.fdiv (IntKind.wrap .u64 (IntKind.wrap .i64 ((i:Int)+(j:Int)))) ((2:Int)^min (Int.toNat (1:Int)) (IntKind.bits .u64)))=(((i+j) / 2:Nat):Int):=by
 have e:((2:Int)^min (Int.toNat (1:Int)) (IntKind.bits .u64))=2:=by decide
 rw [e,zH (x:=(i:Int)+(j:Int)) (by omega) (by omega),zJ3 (x:=(i:Int)+(j:Int)) (by omega) (by omega),Int.fdiv_eq_ediv_of_nonneg _ (by omega)]
 rw [zH (by omega) (by omega)]
 omega
end Go.Ve

namespace Go.Ve
open Go
set_option maxRecDepth 1000000
set_option maxHeartbeats 4000000
theorem zVF {σ ρ:Type} {m:Option (σ ⊕ ρ)} {K:σ→Option ρ} {Q:ρ→Prop} (P:σ→Prop) (h:Wp m (wU P Q)) (hK: ∀s,P s→Wp (K s) Q):Wp (qM m K) Q:=by
 refine z6 (h.mono ?_)
 intro o ho
 cases o with
 |inl s=>exact hK s ho
 |inr r=>exact ho
theorem zIZ {β:Type} {z:β} {i0 j0:Nat} {P:Nat→Prop} {T:Int×Int×β→Option ((Int×Int×β) ⊕ (Int×β))} (hij:i0≤j0)
  (step: ∀i j:Nat,i0≤i→i<j→j≤j0→Wp (T ((i:Int),(j:Int),z)) (fun o=>(o=Sum.inl ((((i+j) / 2+1:Nat):Int),(j:Int),z)∧P ((i+j) / 2))∨(o=Sum.inl ((i:Int),(((i+j) / 2:Nat):Int),z)∧ ¬P ((i+j) / 2)))):
  Wp (zK (fun s:Int×Int×β=>bif decide (s.1<s.2.1) then T s else some (Sum.inr (s.1,s.2.2))) ((i0:Int),(j0:Int),z)) (fun s=>s.2=z∧ ∃i:Nat,s.1=(i:Int)∧i0≤i∧i≤j0∧(i0<i→P (i-1))∧(i<j0→ ¬P i)):=by
 refine j4 (fun s:Int×Int×β=>s.2.2=z∧ ∃i j:Nat,s.1=(i:Int)∧s.2.1=(j:Int)∧i0≤i∧i≤j∧j≤j0∧(i0<i→P (i-1))∧(j<j0→ ¬P j)) (fun s=>(s.2.1-s.1).toNat)
  ⟨rfl,i0,j0,rfl,rfl,Nat.le_refl _,hij,Nat.le_refl _,fun h=>by omega,fun h=>by omega⟩ ?_
 rintro ⟨si,sj,y⟩ ⟨hy,i,j,hi,hj,h1,h2,h3,h4,h5⟩
 simp only at hi hj hy
 subst hi hj hy
 refine zI (fun h=> ?_) (fun h=>zB (e2r ⟨rfl,i,rfl,h1,by omega,h4,?_⟩))
 ·have h:(i:Int)< (j:Int):=h
  refine (step i j h1 (by omega) h3).mono ?_
  rintro o (⟨rfl,hp⟩|⟨rfl,hp⟩)
  ·refine ⟨⟨rfl,(i+j) / 2+1,j,rfl,rfl,by omega,by omega,h3,fun _=>by rw [Nat.add_sub_cancel];exact hp,h5⟩,?_⟩
   simp only;omega
  ·refine ⟨⟨rfl,i,(i+j) / 2,rfl,rfl,h1,by omega,by omega,h4,fun _=>hp⟩,?_⟩
   simp only;omega
 ·have h: ¬(i:Int)< (j:Int):=h
  have:i=j:=by omega
  subst this
  exact h5
section
variable {α κ:Type} {cmp:α×α×Unit→Option Int} {lt:α→α→Prop} {key:α→κ}
theorem vN {xs:List α} {i:Nat} (h:i<xs.length):xs[i]? =some xs[i]:=by simp [h]
theorem zEU (hk:zMY lt key) (hcmp: ∀x y,Wp (cmp (x,y,())) (fun c=>c<0↔lt x y)): ∀ (n:Nat) (xs:List α) (a m b:Nat),a<m→m<b→b≤xs.length→xs.length<1099511627776→b-a≤n→w6 lt a m xs→w6 lt m b xs→
  Wp (zBf cmp n xs ((a:Int),(m:Int),(b:Int),(),())) (fun r=>yZ key a b xs r.1∧w6 lt a b r.1):=by
 have ho:=hk.ord
 have tr1: ∀x y z, ¬lt y x→lt y z→lt x z:=fun x y z h1 h2=>Classical.byContradiction (fun h3=>ho.tr z x y h3 h1 h2)
 have tr2: ∀x y z,lt x y→ ¬lt z y→lt x z:=fun x y z h1 h2=>Classical.byContradiction (fun h3=>ho.tr y z x h2 h3 h1)
 intro n
 induction n with
 |zero=>intro xs a m b h1 h2 _ _ h3;omega
 |succ n ih=>
  intro xs a m b ham hmb hb hl hn hs1 hs2
  have ha? :=vN (xs:=xs) (i:=a) (by omega)
  have hm? :=vN (xs:=xs) (i:=m) (by omega)
  simp only [zBf]
  unfold zGU
  dsimp only
  rw [zH (x:=(m:Int) - (a:Int)) (by omega) (by omega),zH (x:=(b:Int) - (m:Int)) (by omega) (by omega)]
  refine zVF (fun s:List α=>s=xs∧m≠a+1) ?_ ?_
  ·refine zF (fun h=> ?_) (fun h=>zB (e2l ⟨rfl,?_⟩))
   ·have h:(m:Int) - (a:Int)=1:=by simpa using h
    have hma:m=a+1:=by omega
    subst hma
    refine zC ((zIZ (z:=xs) (i0:=a+1) (j0:=b) (P:=fun q=> ∀y,xs[q]? =some y→lt y xs[a]) (by omega) ?_).mono ?_)
    ·intro i j hi hij hj
     have hh:=vN (xs:=xs) (i:=(i+j) / 2) (by omega)
     dsimp only
     rw [zRJ i j (by omega)]
     simp only [zJ hh,Int.toNat_natCast,vO hh,zJ ha?,vO ha?,Option.bind_some]
     refine zC ((hcmp _ _).mono (fun c hc=>zI (fun h1=>zB (.inl ⟨?_,fun y hy=> ?_⟩)) (fun h1=>zB (.inr ⟨rfl,fun h2=>h1 (hc.2 (h2 _ hh))⟩))))
     ·rw [zH (by omega) (by omega)];congr 1
     ·rw [hh] at hy;cases hy;exact hc.1 h1
    ·rintro ⟨s,zs⟩ ⟨hz,i,hi,hi1,hi2,hP,hN⟩
     simp only at hz hi
     subst hz hi
     have hall1: ∀q y,a+1≤q→q<i→zs[q]? =some y→lt y zs[a]:=by
      intro q y hq1 hq2 hy
      have hp:=hP (by omega) _ (vN (by omega))
      by_cases e:q=i-1
      ·subst e;rw [vN (by omega)] at hy;cases hy;exact hp
      ·exact tr1 _ _ _ (hs2 q (i-1) y _ hq1 (by omega) (by omega) hy (vN (by omega))) hp
     have hall2: ∀q y,i≤q→q<b→zs[q]? =some y→ ¬lt y zs[a]:=by
      intro q y hq1 hq2 hy hlt
      have hnp:=hN (by omega)
      apply hnp
      intro w hw
      by_cases e:q=i
      ·subst e;rw [hw] at hy;cases hy;exact hlt
      ·exact tr1 _ _ _ (hs2 i q w y hi1 (by omega) hq2 hw hy) hlt
     dsimp only
     rw [zH (x:=(i:Int) -1) (by omega) (by omega)]
     refine j4 (fun s:Int×List α=> ∃k:Nat,s.1=(k:Int)∧a≤k∧k+1≤i∧s.2.length=zs.length∧ ∀j,s.2[j]? =yM a (a+1) (k+1) zs j) (fun s=>((i:Int) -s.1).toNat) ⟨a,rfl,Nat.le_refl _,hi1,rfl,fun j=>(zXU j).symm⟩ ?_
     rintro ⟨s,ws⟩ ⟨k,hk',hka,hki,hwl,hw⟩
     simp only at hk' hwl hw
     subst hk'
     refine zI (fun hlt=> ?_) (fun hge=> ?_)
     ·have hlt:(k:Int)< (i:Int) -1:=hlt
      have hx:=vN (xs:=ws) (i:=k) (by omega)
      have hy:=vN (xs:=ws) (i:=k+1) (by omega)
      have hy2:(ws.set k (ws[k+1]'(by omega)))[k+1]? =some (ws[k+1]'(by omega)):=by rw [List.getElem?_set_ne (by omega)];exact hy
      dsimp only
      rw [zH (x:=(k:Int)+1) (by omega) (by omega),show ((k:Int)+1)=((k+1:Nat):Int) by omega]
      simp only [zJ hx,zJ hy,Int.toNat_natCast,vO hx,vO hy,Option.bind_some,zJ hy2,vO hy2]
      refine zB (e2l ⟨⟨k+1,rfl,by omega,by omega,by simp only [List.length_set];exact hwl,zZC hka (by omega) hwl hw hx hy⟩,?_⟩)
      simp only;omega
     ·have hge: ¬(k:Int)< (i:Int) -1:=hge
      have hki':k+1=i:=by omega
      subst hki'
      refine zAD (zAD (zF (fun _=>zB (e2r (e2r ?_))) (fun h=>absurd h (by rw [zF8 hwl];decide))))
      have hst:yZ key a (k+1) zs ws:=zKq hk (m:=a+1) (by omega) (by omega) (by omega) hwl hw (fun q r x y h1 h2 h3 h4 hx hy=>by
       have:q=a:=by omega
       subst this
       rw [ha?] at hx;cases hx
       exact hall1 r y h3 h4 hy)
      refine ⟨hst.mono (Nat.le_refl _) (by omega),?_⟩
      have qZ: ∀q y,a≤q→q<b→ws[q]? =some y→(q<k∧zs[q+1]? =some y)∨(q=k∧y=zs[a])∨(k<q∧zs[q]? =some y):=by
       intro q y h1 h2 hy
       rw [hw] at hy
       unfold yM at hy
       split at hy
       ·exact .inl ⟨by omega,by rw [←hy];exact zAI (by omega)⟩
       ·split at hy
        ·refine .inr (.inl ⟨by omega,?_⟩)
         rw [show q- (k+1- (a+1))=a by omega,ha?] at hy
         cases hy;rfl
        ·exact .inr (.inr ⟨by omega,hy⟩)
      intro p q x y h1 h2 h3 hx hy
      rcases qZ p x h1 (by omega) hx with ⟨g1,hx'⟩|⟨g1,rfl⟩|⟨g1,hx'⟩
      ·rcases qZ q y (by omega) h3 hy with ⟨g2,hy'⟩|⟨g2,rfl⟩|⟨g2,hy'⟩
       ·exact hs2 (p+1) (q+1) x y (by omega) (by omega) (by omega) hx' hy'
       ·exact ho.asym _ _ (hall1 (p+1) x (by omega) (by omega) hx')
       ·exact hs2 (p+1) q x y (by omega) (by omega) h3 hx' hy'
      ·rcases qZ q y (by omega) h3 hy with ⟨g2,hy'⟩|⟨g2,rfl⟩|⟨g2,hy'⟩
       ·omega
       ·omega
       ·exact hall2 q y (by omega) h3 hy'
      ·rcases qZ q y (by omega) h3 hy with ⟨g2,hy'⟩|⟨g2,rfl⟩|⟨g2,hy'⟩
       ·omega
       ·omega
       ·exact hs2 p q x y (by omega) h2 h3 hx' hy'
   ·have h: ¬(m:Int) - (a:Int)=1:=by simpa using h
    omega
  rintro s ⟨rfl,hma⟩
  refine zVF (fun s':List α=>s'=s∧b≠m+1) ?_ ?_
  ·refine zF (fun h=> ?_) (fun h=>zB (e2l ⟨rfl,?_⟩))
   ·have h:(b:Int) - (m:Int)=1:=by simpa using h
    have hbm:b=m+1:=by omega
    subst hbm
    refine zC ((zIZ (z:=s) (i0:=a) (j0:=m) (P:=fun q=> ∀y,s[q]? =some y→ ¬lt s[m] y) (by omega) ?_).mono ?_)
    ·intro i j hi hij hj
     have hh:=vN (xs:=s) (i:=(i+j) / 2) (by omega)
     dsimp only
     rw [zRJ i j (by omega)]
     simp only [zJ hh,Int.toNat_natCast,vO hh,zJ hm?,vO hm?,Option.bind_some]
     refine zC ((hcmp _ _).mono (fun c hc=>j5 (fun h1=>zB (.inl ⟨?_,fun y hy=> ?_⟩)) (fun h1=>zB (.inr ⟨rfl,fun h2=>h2 _ hh (hc.1 h1)⟩))))
     ·rw [zH (by omega) (by omega)];congr 1
     ·rw [hh] at hy;cases hy;exact fun h2=>h1 (hc.2 h2)
    ·rintro ⟨s0,zs⟩ ⟨hz,i,hi,hi1,hi2,hP,hN⟩
     simp only at hz hi
     subst hz hi
     have hall1: ∀q y,a≤q→q<i→zs[q]? =some y→ ¬lt zs[m] y:=by
      intro q y hq1 hq2 hy
      have hp:=hP (by omega) _ (vN (by omega))
      by_cases e:q=i-1
      ·subst e;rw [vN (by omega)] at hy;cases hy;exact hp
      ·exact ho.tr _ _ _ (hs1 q (i-1) y _ hq1 (by omega) (by omega) hy (vN (by omega))) hp
     have hall2: ∀q y,i≤q→q<m→zs[q]? =some y→lt zs[m] y:=by
      intro q y hq1 hq2 hy
      refine Classical.byContradiction (fun hnlt=> ?_)
      have hnp:=hN (by omega)
      apply hnp
      intro w hw
      by_cases e:q=i
      ·subst e;rw [hw] at hy;cases hy;exact hnlt
      ·exact ho.tr _ _ _ (hs1 i q w y hi1 (by omega) hq2 hw hy) hnlt
     dsimp only
     refine j4 (fun s:Int×List α=> ∃k:Nat,s.1=(k:Int)∧i≤k∧k≤m∧s.2.length=zs.length∧ ∀j,s.2[j]? =yM k m (m+1) zs j) (fun s=>s.1.toNat) ⟨m,rfl,hi2,Nat.le_refl _,rfl,fun j=>(zSV j).symm⟩ ?_
     rintro ⟨s0,ws⟩ ⟨k,hk',hki,hkm,hwl,hw⟩
     simp only at hk' hwl hw
     subst hk'
     refine zI (fun hgt=> ?_) (fun hge=> ?_)
     ·have hgt:(k:Int)>(i:Int):=hgt
      have hx:=vN (xs:=ws) (i:=k) (by omega)
      have hy:=vN (xs:=ws) (i:=k-1) (by omega)
      have hy2:(ws.set k (ws[k-1]'(by omega)))[k-1]? =some (ws[k-1]'(by omega)):=by rw [List.getElem?_set_ne (by omega)];exact hy
      dsimp only
      rw [zH (x:=(k:Int) -1) (by omega) (by omega),show ((k:Int) -1)=((k-1:Nat):Int) by omega]
      simp only [zJ hx,zJ hy,Int.toNat_natCast,vO hx,vO hy,Option.bind_some,zJ hy2,vO hy2]
      refine zB (e2l ⟨⟨k-1,rfl,by omega,by omega,by simp only [List.length_set];exact hwl,zQE (by omega) hkm (by omega) hwl hw hx hy⟩,?_⟩)
      simp only;omega
     ·have hge: ¬(k:Int)>(i:Int):=hge
      have hki':k=i:=by omega
      subst hki'
      refine zAD (zAD (zF (fun _=>zB (e2r (e2r ?_))) (fun h=>absurd h (by rw [zF8 hwl];decide))))
      have hst:yZ key k (m+1) zs ws:=zKq hk (m:=m) (by omega) (by omega) (by omega) hwl hw (fun q r x y h1 h2 h3 h4 hx hy=>by
       have:r=m:=by omega
       subst this
       rw [hm?] at hy;cases hy
       exact hall2 q x h1 h2 hx)
      refine ⟨hst.mono hi1 (Nat.le_refl _),?_⟩
      have qZ: ∀q y,a≤q→q<m+1→ws[q]? =some y→(q<k∧zs[q]? =some y)∨(q=k∧y=zs[m])∨(k<q∧zs[q-1]? =some y):=by
       intro q y h1 h2 hy
       rw [hw] at hy
       unfold yM at hy
       split at hy
       ·refine .inr (.inl ⟨by omega,?_⟩)
        rw [show q+(m-k)=m by omega,hm?] at hy
        cases hy;rfl
       ·split at hy
        ·exact .inr (.inr ⟨by omega,by rw [←hy];exact zAI (by omega)⟩)
        ·exact .inl ⟨by omega,hy⟩
      intro p q x y h1 h2 h3 hx hy
      rcases qZ p x h1 (by omega) hx with ⟨g1,hx'⟩|⟨g1,rfl⟩|⟨g1,hx'⟩
      ·rcases qZ q y (by omega) h3 hy with ⟨g2,hy'⟩|⟨g2,rfl⟩|⟨g2,hy'⟩
       ·exact hs1 p q x y h1 h2 (by omega) hx' hy'
       ·exact hall1 p x h1 g1 hx'
       ·exact hs1 p (q-1) x y h1 (by omega) (by omega) hx' hy'
      ·rcases qZ q y (by omega) h3 hy with ⟨g2,hy'⟩|⟨g2,rfl⟩|⟨g2,hy'⟩
       ·omega
       ·omega
       ·exact ho.asym _ _ (hall2 (q-1) y (by omega) (by omega) hy')
      ·rcases qZ q y (by omega) h3 hy with ⟨g2,hy'⟩|⟨g2,rfl⟩|⟨g2,hy'⟩
       ·omega
       ·omega
       ·exact hs1 (p-1) (q-1) x y (by omega) (by omega) (by omega) hx' hy'
   ·have h: ¬(b:Int) - (m:Int)=1:=by simpa using h
    omega
  rintro s' ⟨rfl,hbm⟩
  clear ha? hm?
  rw [zRJ a b (by omega)]
  have hM1:2*((a+b) / 2)≤a+b:=by omega
  have hM2:a+b<2*((a+b) / 2)+2:=by omega
  generalize (a+b) / 2=M at hM1 hM2
  rw [zH (x:=(M:Int)+(m:Int)) (by omega) (by omega),zH (x:=(M:Int)+(m:Int) -1) (by omega) (by omega)]
  refine zC ((show Wp _ (fun s:Int×Int×List α=> ∃st r:Nat,s=((st:Int),(r:Int),s')∧((M<m∧st+b=M+m∧r=M)∨(m≤M∧st=a∧r=m))) from ?_).mono ?_)
  ·refine zI (fun h=>zB ⟨M+m-b,M,?_, .inl ⟨?_,?_,rfl⟩⟩) (fun h=>zB ⟨a,m,rfl, .inr ⟨?_,rfl,rfl⟩⟩)
   ·have h:(m:Int)>(M:Int):=h
    rw [zH (by omega) (by omega),show ((M:Int)+(m:Int) - (b:Int))=((M+m-b:Nat):Int) by omega]
   ·have h:(m:Int)>(M:Int):=h
    omega
   ·have h:(m:Int)>(M:Int):=h
    omega
   ·have h: ¬(m:Int)>(M:Int):=h
    omega
  rintro _ ⟨st,r,rfl,hst⟩
  refine zC ((zIZ (z:=s') (i0:=st) (j0:=r) (P:=fun c=> ∀x y,s'[M+m-1-c]? =some x→s'[c]? =some y→ ¬lt x y) (by omega) ?_).mono ?_)
  ·intro i j hi hij hj
   have hh:=vN (xs:=s') (i:=(i+j) / 2) (by omega)
   have hh2:=vN (xs:=s') (i:=M+m-1- (i+j) / 2) (by omega)
   dsimp only
   rw [zRJ i j (by omega),zH (x:=(M:Int)+(m:Int) -1- (((i+j) / 2:Nat):Int)) (by omega) (by omega),show ((M:Int)+(m:Int) -1- (((i+j) / 2:Nat):Int))=((M+m-1- (i+j) / 2:Nat):Int) by omega]
   simp only [zJ hh,zJ hh2,Int.toNat_natCast,vO hh,vO hh2,Option.bind_some]
   refine zC ((hcmp _ _).mono (fun c hc=>j5 (fun h1=>zB (.inl ⟨?_,fun x y hx hy=> ?_⟩)) (fun h1=>zB (.inr ⟨rfl,fun h2=>h2 _ _ hh2 hh (hc.1 h1)⟩))))
   ·rw [zH (by omega) (by omega)];congr 1
   ·rw [hh2] at hx;rw [hh] at hy;cases hx;cases hy;exact fun h2=>h1 (hc.2 h2)
  rintro ⟨s0,zs0⟩ ⟨hz0,start,hs0,hst1,hst2,hP,hN⟩
  simp only at hz0 hs0
  subst hz0 hs0
  dsimp only
  rw [zH (x:=(M:Int)+(m:Int) - (start:Int)) (by omega) (by omega),show ((M:Int)+(m:Int) - (start:Int))=((M+m-start:Nat):Int) by omega]
  have he1:m≤M+m-start:=by omega
  have he2:M+m-start≤b:=by omega
  have he3:start+(M+m-start-m)=M:=by omega
  have hst3:a≤start:=by omega
  have hst4:start≤m:=by omega
  have hl2: ∀q r' x y,start≤q→q<m→m≤r'→r'<M+m-start→zs0[q]? =some x→zs0[r']? =some y→lt y x:=by
   intro q r' x y h1 h2 h3 h4 hx hy
   have hlt:start<r:=by omega
   refine Classical.byContradiction (fun hnl=>hN hlt ?_)
   intro u w hu hw hlt2
   apply hnl
   have k1:lt y w:=by
    by_cases e:r'=M+m-1-start
    ·subst e;rw [hu] at hy;cases hy;exact hlt2
    ·exact tr1 _ _ _ (hs2 r' (M+m-1-start) y u h3 (by omega) (by omega) hy hu) hlt2
   by_cases e:q=start
   ·subst e;rw [hw] at hx;cases hx;exact k1
   ·exact tr2 _ _ _ k1 (hs1 start q w x hst3 (by omega) (by omega) hw hx)
  have hl1: ∀q r' x y,a≤q→q<start→M+m-start≤r'→r'<b→zs0[q]? =some x→zs0[r']? =some y→ ¬lt y x:=by
   intro q r' x y h1 h2 h3 h4 hx hy
   have hlt:st<start:=by omega
   have g1:=vN (xs:=zs0) (i:=start-1) (by omega)
   have g2:=vN (xs:=zs0) (i:=M+m-1- (start-1)) (by omega)
   have hp:=hP hlt _ _ g2 g1
   have k1: ¬lt (zs0[M+m-1- (start-1)]'(by omega)) x:=by
    by_cases e:q=start-1
    ·subst e;rw [g1] at hx;cases hx;exact hp
    ·exact ho.tr _ _ _ (hs1 q (start-1) x _ h1 (by omega) (by omega) hx g1) hp
   by_cases e:r'=M+m-1- (start-1)
   ·subst e;rw [g2] at hy;cases hy;exact k1
   ·exact ho.tr _ _ _ k1 (hs2 (M+m-1- (start-1)) r' _ y (by omega) (by omega) h4 g2 hy)
  generalize he:M+m-start=e at he1 he2 he3 hl1 hl2
  refine zC ((show Wp _ (fun zs:List α=>zs.length=zs0.length∧ ∀k,zs[k]? =yM start m e zs0 k) from ?_).mono ?_)
  ·refine zC ((show Wp _ (fun c:Bool×List α=>c.2=zs0∧(c.1=true→start<m∧m<e)∧(c.1=false→start=m∨m=e)) from ?_).mono ?_)
   ·refine zI (fun h=>zB ⟨rfl,(fun h2=> ?_),fun h2=> ?_⟩) (fun h=>zB ⟨rfl,(fun h2=>by cases h2),fun _=> ?_⟩)
    ·have h:(start:Int)< (m:Int):=h
     have h2:(m:Int)< (e:Int):=of_decide_eq_true h2
     omega
    ·have h2: ¬(m:Int)< (e:Int):=of_decide_eq_false h2
     omega
    ·have h: ¬(start:Int)< (m:Int):=h
     omega
   ·rintro ⟨c,zs⟩ ⟨hz,ht,hf⟩
    simp only at hz ht hf
    subst hz
    refine zF (fun h=> ?_) (fun h=>zB ⟨rfl,fun k=> ?_⟩)
    ·obtain ⟨g1,g2⟩:=ht h
     refine zF (fun _=>zC ((zRo zs start m e g1 g2 (by omega) (by omega)).mono (fun y hy=>zB hy))) (fun h=>absurd h (by rw [Nat.beq_refl];decide))
    ·have:=hf h
     unfold yM
     repeat' split
     all_goals first
      |rfl
      |exact zAI (by omega)
      |(exfalso;omega)
  intro zs hzz
  obtain ⟨hzl,hz⟩:=hzz
  have x8:=zKq hk hst4 he1 (by omega) hzl hz hl2
  have qZ: ∀q y,a≤q→q<b→zs[q]? =some y→(q<start∧zs0[q]? =some y)∨(start≤q∧q<M∧zs0[q+(m-start)]? =some y)∨(M≤q∧q<e∧zs0[q- (e-m)]? =some y)∨(e≤q∧zs0[q]? =some y):=by
   intro q y h1 h2 hy
   rw [hz] at hy
   unfold yM at hy
   split at hy
   ·exact .inr (.inl ⟨by omega,by omega,hy⟩)
   ·split at hy
    ·exact .inr (.inr (.inl ⟨by omega,by omega,hy⟩))
    ·by_cases c:q<start
     ·exact .inl ⟨c,hy⟩
     ·exact .inr (.inr (.inr ⟨by omega,hy⟩))
  have r1:w6 lt a start zs:=by
   intro p q x y h1 h2 h3 hx hy
   rw [x8.out p (by omega)] at hx
   rw [x8.out q (by omega)] at hy
   exact hs1 p q x y h1 h2 (by omega) hx hy
  have r2:w6 lt start M zs:=by
   intro p q x y h1 h2 h3 hx hy
   rw [hz] at hx hy
   unfold yM at hx hy
   rw [if_pos (by omega)] at hx hy
   exact hs2 _ _ x y (by omega) (by omega) (by omega) hx hy
  have r3:w6 lt M e zs:=by
   intro p q x y h1 h2 h3 hx hy
   rw [hz] at hx hy
   unfold yM at hx hy
   rw [if_neg (by omega),if_pos (by omega)] at hx hy
   exact hs1 _ _ x y (by omega) (by omega) (by omega) hx hy
  have r4:w6 lt e b zs:=by
   intro p q x y h1 h2 h3 hx hy
   rw [x8.out p (by omega)] at hx
   rw [x8.out q (by omega)] at hy
   exact hs2 p q x y (by omega) h2 h3 hx hy
  have rc: ∀q r' x y,a≤q→q<M→M≤r'→r'<b→zs[q]? =some x→zs[r']? =some y→ ¬lt y x:=by
   intro q r' x y h1 h2 h3 h4 hx hy
   rcases qZ q x h1 (by omega) hx with ⟨g1,hx'⟩|⟨g1,g2,hx'⟩|⟨g1,g2,hx'⟩|⟨g1,hx'⟩
   ·rcases qZ r' y (by omega) h4 hy with ⟨g3,hy'⟩|⟨g3,g4,hy'⟩|⟨g3,g4,hy'⟩|⟨g3,hy'⟩
    ·omega
    ·omega
    ·exact hs1 q _ x y h1 (by omega) (by omega) hx' hy'
    ·exact hl1 q r' x y h1 g1 g3 h4 hx' hy'
   ·rcases qZ r' y (by omega) h4 hy with ⟨g3,hy'⟩|⟨g3,g4,hy'⟩|⟨g3,g4,hy'⟩|⟨g3,hy'⟩
    ·omega
    ·omega
    ·exact ho.asym _ _ (hl2 _ _ y x (by omega) (by omega) (by omega) (by omega) hy' hx')
    ·exact hs2 _ r' x y (by omega) (by omega) h4 hx' hy'
   ·omega
   ·omega
  refine zC ((show Wp _ (fun ws:List α=>yZ key a M zs ws∧w6 lt a M ws) from ?_).mono ?_)
  ·refine zC ((show Wp _ (fun c:Bool×List α=>c.2=zs∧(c.1=true→a<start∧start<M)∧(c.1=false→a=start∨start=M)) from ?_).mono ?_)
   ·refine zI (fun h=>zB ⟨rfl,(fun h2=> ?_),fun h2=> ?_⟩) (fun h=>zB ⟨rfl,(fun h2=>by cases h2),fun _=> ?_⟩)
    ·have h:(a:Int)< (start:Int):=h
     have h2:(start:Int)< (M:Int):=of_decide_eq_true h2
     omega
    ·have h2: ¬(start:Int)< (M:Int):=of_decide_eq_false h2
     omega
    ·have h: ¬(a:Int)< (start:Int):=h
     omega
   ·rintro ⟨c,vs⟩ ⟨hv,ht,hf⟩
    simp only at hv ht hf
    subst hv
    refine zF (fun h=> ?_) (fun h=>zB ⟨yZ.refl _ _ _,?_⟩)
    ·obtain ⟨g1,g2⟩:=ht h
     exact zF (fun _=>zC ((ih vs a start M g1 g2 (by omega) (by omega) (by omega) r1 r2).mono (fun y hy=>zB hy))) (fun h=>absurd h (by rw [Nat.beq_refl];decide))
    ·exact zJk r1 r2 (fun q r' x y h1 h2 h3 h4 hx hy=>by have:=hf h;omega)
  intro ws hws
  obtain ⟨hw1,hw2⟩:=hws
  have hwl:ws.length=zs0.length:=hw1.len.trans hzl
  have fin: ∀us,yZ key M b ws us→w6 lt M b us→yZ key a b zs0 us∧w6 lt a b us:=by
   intro us hu1 hu2
   refine ⟨((x8.mono hst3 he2).trans (hw1.mono (Nat.le_refl _) (by omega))).trans (hu1.mono (by omega) (Nat.le_refl _)),zJk (hw2.out hu1 (.inl (Nat.le_refl _))) hu2 ?_⟩
   intro q r' x y h1 h2 h3 h4 hx hy
   rw [hu1.out q (by omega)] at hx
   obtain ⟨q',k1,k2,hx'⟩:=hw1.ins q x h1 h2 hx
   obtain ⟨r2,k3,k4,hy'⟩:=hu1.ins r' y h3 h4 hy
   rw [hw1.out r2 (by omega)] at hy'
   exact rc q' r2 x y k1 k2 k3 k4 hx' hy'
  have q3:w6 lt M e ws:=r3.out hw1 (.inr (Nat.le_refl _))
  have q4:w6 lt e b ws:=r4.out hw1 (.inr (by omega))
  refine zC ((show Wp _ (fun c:Bool×List α=>c.2=ws∧(c.1=true→M<e∧e<b)∧(c.1=false→M=e∨e=b)) from ?_).mono ?_)
  ·refine zI (fun h=>zB ⟨rfl,(fun h2=> ?_),fun h2=> ?_⟩) (fun h=>zB ⟨rfl,(fun h2=>by cases h2),fun _=> ?_⟩)
   ·have h:(M:Int)< (e:Int):=h
    have h2:(e:Int)< (b:Int):=of_decide_eq_true h2
    omega
   ·have h2: ¬(e:Int)< (b:Int):=of_decide_eq_false h2
    omega
   ·have h: ¬(M:Int)< (e:Int):=h
    omega
  ·rintro ⟨c,vs⟩ ⟨hv,ht,hf⟩
   simp only at hv ht hf
   subst hv
   refine zF (fun h=> ?_) (fun h=> ?_)
   ·obtain ⟨g1,g2⟩:=ht h
    refine zF (fun _=>zC ((ih vs M e b g1 g2 (by omega) (by omega) (by omega) q3 q4).mono (fun y hy=> ?_))) (fun h=>absurd h (by rw [Nat.beq_refl];decide))
    exact zF (fun _=>zB (fin _ hy.1 hy.2)) (fun h=>absurd h (by rw [zF8 (hy.1.len.trans hwl)];decide))
   ·refine zF (fun _=>zB (fin _ (yZ.refl _ _ _) ?_)) (fun h=>absurd h (by rw [zF8 hwl];decide))
    exact zJk q3 q4 (fun q r' x y h1 h2 h3 h4 hx hy=>by have:=hf h;omega)
end
end Go.Ve

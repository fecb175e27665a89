/-
  Plain laws: tables of path-vector routing: the program's Table.
  Plain laws: valid path-vector routes: local ones, received ones.
  DistTables: the law answers true.
  Plain laws: received routes are valid; the best of a prefix; what merging keeps.
  Plain laws: the path-vector table is a table, and it prefers what the router originates: PathOwn.
  Plain laws of path-vector routing: the document's table.
  Plain laws: the fixed network of distance-vector routing; DistTables.
  Plain laws: the fixed network of path-vector routing.
-/
import Derived.KernelRfl
import Derived.Test.YtcnlcmbchljpgaaGreatPt22
import Derived.Test.YtcnlcmbchljpgaaGreatPt14
set_option linter.unusedVariables false
namespace Go.Ve
open Go
set_option maxRecDepth 1000000
set_option maxHeartbeats 4000000
structure zMC (v:Ty.El zN):Prop where
 p:zJR v
 maps: ∀r,r∈v.1.1→zA4 r
 adr: ∀r,r∈v.1.1→ ∀x,x∈r.2.2.1→0≤x.2.1∧x.2.1<4294967296
def zEM (x:Ty.El zB):Prop:=0≤x.2.2.2.2.2.2.2.1∧x.2.2.2.2.2.2.2.1≤1000000
structure zY2 (t:Ty.El zS):Prop where
 s:zY1 t
 pv:t.2.2.1.length≤12
 rib:t.2.2.2.1.length≤16
 rt: ∀y,y∈t.2.2.1→RtS y∧zEM y
theorem zO4 {v:Ty.El zN} (hv:zMC v) {s:Ty.El zK} (h:s∈zGj v):
  ∃ (qn kn r i:Nat) (int:Bool) (q rt:Ty.El zF) (y z:Ty.El qA),s=((qn:Int),(kn:Int),(r:Int),(i:Int),int,())∧v.1.1[qn]? =some q∧q.2.2.1[kn]? =some y∧v.1.1[r]? =some rt∧rt.2.2.1[i]? =some z∧zA4 q∧zA4 rt∧(0≤y.2.1∧y.2.1<4294967296):=by
 obtain ⟨r,i,rt,z,e,q,y,hrt,hz,hon,he,hq,hy,hb,rfl⟩:=zUT.1 h
 obtain ⟨u1,u2,u3⟩:=zTe he
 obtain ⟨b0,b1,_⟩:=hv.p.ends _ _ _ u1 u2
 obtain ⟨e1,e2,⟨⟩⟩:=e
 obtain ⟨qn,rfl⟩:=bG (show (0:Int)≤e1 from b0)
 obtain ⟨kn,rfl⟩:=bG (show (0:Int)≤e2 from b1)
 have hq:v.1.1[qn]? =some q:=hq
 have hy:q.2.2.1[kn]? =some y:=hy
 exact ⟨qn,kn,r,i,_,q,rt,y,z,rfl,hq,hy,hrt,hz,hv.maps q (af hq),hv.maps rt (af hrt),hv.adr q (af hq) y (af hy)⟩
theorem zS4 {v:Ty.El zN} {t:List (Ty.El zB)} {qn kn r i:Nat} {int:Bool} {q rt:Ty.El zF} {y z:Ty.El qA} (hq:v.1.1[qn]? =some q) (hy:q.2.2.1[kn]? =some y) (hr:v.1.1[r]? =some rt) (hz:rt.2.2.1[i]? =some z):
  zEO v t ((qn:Int),(kn:Int),(r:Int),(i:Int),int,())=t.filterMap (fun x=>(zKB q z.2.1 int x).bind (zOJ rt y.2.1 (i:Int) int)):=by
 unfold zEO
 simp only [aR,hq,hr,hy,hz]
theorem qAP {r:Ty.El zF} {nm:Ty.El .str} {x y:Ty.El zB} (hm:zA4 r) (hx:zEM x) (h:zHD r nm x=some y):zEM y:=by
 unfold zHD at h
 cases hn:(nm==({ data:= #[] } :ByteArray)) with
 |true=>
  rw [hn] at h
  rw [←aJ h]
  exact hx
 |false=>
  rw [hn] at h
  simp only [cond_false] at h
  cases hp:zDx r nm x with
  |none=>rw [hp] at h;cases h
  |some c=>
   rw [hp] at h
   rw [←aJ h]
   have hc:zY5 c:=by
    unfold zDx at hp
    cases ha:zNF r nm x with
    |none=>rw [ha] at hp;cases hp
    |some c'=>
     rw [ha] at hp
     simp only at hp
     cases hc1:c'.1 with
     |false=>rw [hc1] at hp;cases hp
     |true=>
      rw [hc1] at hp
      rw [←aJ hp]
      exact zTM hm ha
   have h1: -1≤c.2.2.2.2.2.1∧c.2.2.2.2.2.1≤1000000:=hc.pref
   unfold zEM zX4
   simp only
   have aux: ∀a b:Int,(-1≤a∧a≤1000000)→(0≤b∧b≤1000000)→(0≤(bif a==(-1:Int) then b else a)∧(bif a==(-1:Int) then b else a)≤1000000):=by
    intro a b ha hb
    cases hab:(a==(-1:Int)) with
    |true=>exact hb
    |false=>
     have:a≠ -1:=by simpa using hab
     simp only [cond_false]
     omega
   exact aux _ _ h1 hx
theorem qAq {q:Ty.El zF} {a:Int} {int:Bool} {x m:Ty.El zB} (hm:zA4 q) (hx:RtS x) (hp:zEM x) (h:zKB q a int x=some m):RtS m∧zEM m:=by
 obtain ⟨_,h1,h2⟩:=zVd hm h
 refine ⟨⟨?_,by rw [h2];exact aI _⟩,?_⟩
 ·rcases h1 with ⟨_,h1⟩|⟨_,k,_,h1,h3⟩
  ·rw [h1];exact hx.path
  ·rw [h1,aH,bQ];omega
 ·unfold zKB at h
  cases hh:(x.2.2.1==(4:Int)&&int)||zQm q x.1 with
  |true=>rw [hh] at h;cases h
  |false=>
   rw [hh] at h
   simp only [cond_false] at h
   cases hn:zFP q.2.2.2.2.2.2.2.2.2.2.1.2.2.2.1 a with
   |none=>rw [hn] at h;cases h
   |some nb=>
    rw [hn] at h
    simp only at h
    cases int with
    |true=>
     simp only [cond_true] at h
     cases ha:zHD q nb.2.2.2.1 x with
     |none=>rw [ha] at h;cases h
     |some y=>
      rw [ha] at h
      rw [←aJ h]
      exact (qAP hm hp ha:zEM y)
    |false=>
     simp only [cond_false] at h
     cases ha:zHD q nb.2.2.2.1 (zFm x 0) with
     |none=>rw [ha] at h;cases h
     |some y=>
      rw [ha] at h
      simp only at h
      cases hd:decide (1+zLA q nb.2.2.2.1 (zFm x 0)+(x.2.2.2.2.2.2.2.2.1.length:Int)>(64:Int)) with
      |true=>rw [hd] at h;cases h
      |false=>
       rw [hd] at h
       rw [←aJ h]
       exact ⟨show (0:Int)≤100 by decide,show (100:Int)≤1000000 by decide⟩
theorem qCE {rt:Ty.El zF} {a i:Int} {int:Bool} {m y:Ty.El zB} (hm:zA4 rt) (ha:0≤a∧a<4294967296) (hx:RtS m) (hp:zEM m) (h:zOJ rt a i int m=some y):PvS y∧RtS y:=by
 unfold zOJ at h
 cases hh:m.2.2.2.2.2.2.2.2.1.any (fun x=>x==rt.2.1) with
 |true=>rw [hh] at h;cases h
 |false=>
  rw [hh] at h
  simp only [cond_false] at h
  cases hn:zFP rt.2.2.2.2.2.2.2.2.2.2.1.2.2.2.1 a with
  |none=>rw [hn] at h;cases h
  |some nb=>
   rw [hn] at h
   simp only at h
   cases hr:zHD rt nb.2.2.1 m with
   |none=>rw [hr] at h;cases h
   |some w=>
    rw [hr] at h
    rw [←aJ h]
    exact ⟨⟨rfl,(qAP hm hp hr:zEM w),ha⟩,⟨hx.path,show 1≤1048576 by decide⟩⟩
theorem qBn {v:Ty.El zN} (hv:zMC v) {t:List (Ty.El zB)} (ht: ∀y,y∈t→RtS y∧zEM y) {s:Ty.El zK} (h:s∈zGj v) {x:Ty.El zB} (hx:x∈zEO v t s):PvS x∧RtS x:=by
 obtain ⟨qn,kn,r,i,int,q,rt,y,z,rfl,hq,hy,hr,hz,hmq,hmr,ha⟩:=zO4 hv h
 rw [zS4 hq hy hr hz] at hx
 obtain ⟨w,hw,hx⟩:=bi.1 hx
 obtain ⟨m,h1,h2⟩:=bH.1 hx
 obtain ⟨e1,e2⟩:=qAq hmq (ht w hw).1 (ht w hw).2 h1
 exact qCE hmr ha e1 e2 h2
theorem zFj (v:Ty.El zN) (hv:zMC v) (s:Ty.El zK) (h:s∈zGj v) (t:List (Ty.El zB)) (hl:t.length≤1048576) (ht: ∀y,y∈t→RtS y∧zEM y):
  Wp (u7 (v,s,t,())) (fun l=>l=zEO v t s):=by
 obtain ⟨qn,kn,r,i,int,q,rt,y,z,rfl,hq,hy,hr,hz,hmq,hmr,ha⟩:=zO4 hv h
 rw [zS4 hq hy hr hz]
 unfold u7
 dsimp only
 refine zC (qZ (xs:=t) (by omega) (fun j (g:List (Ty.El zB))=>g=(t.take j).filterMap (fun x=>(zKB q z.2.1 int x).bind (zOJ rt y.2.1 (i:Int) int))) (by simp) ?_ (fun g hg=>zA (by rw [hg,aN])))
 intro j x g hx hg
 have hgl:g.length≤1048576:=by rw [hg];exact ay (aF _ _) (ay (bl _ _) hl)
 simp only [zI hx,ae]
 rw [qT hx, ←hg]
 obtain ⟨x1,x2⟩:=ht x (af hx)
 refine zC ((zGi v hv.p qn kn r i int q rt z hq hr hz hmq x x1).mono (fun m hm=> ?_))
 rcases zUH hm with ⟨h1,h2⟩|⟨h1,h2⟩
 ·refine tt (by rw [h1];rfl) (zA ?_)
  rw [h2];simp
 ·obtain ⟨e1,e2⟩:=qAq hmq x1 x2 h2
  refine ff (by rw [h1];rfl) (zC ((zGh v hv.p qn kn r (i:Int) int q rt y hq hy hr m.1 e1).mono (fun w hw=> ?_)))
  rw [h2,ae]
  rcases zUH hw with ⟨h3,h4⟩|⟨h3,h4⟩
  ·refine ff h3 (zA ?_)
   rw [h4];simp
  ·refine tt h3 (zC (qU (by simp only [aC];omega) (zA ?_)))
   rw [h4];rfl
theorem zUs {v:Ty.El zN} {r:Nat} {x:Ty.El zK} (hr:r<v.1.1.length) (h:x∈zBW v r):x∈zGj v:=by
 unfold zGj
 exact cg.2 ⟨r,bd.2 hr,h⟩
theorem zZw {v:Ty.El zN} {r i:Nat} {rt:Ty.El zF} {x:Ty.El zK} (hr:v.1.1[r]? =some rt) (hi:i<rt.2.2.1.length) (h:x∈zBJ v r rt i):x∈zBW v r:=by
 unfold zBW
 rw [hr]
 exact cg.2 ⟨i,bd.2 hi,h⟩
theorem zZu {v:Ty.El zN} (hv:zMC v) {s:Ty.El zK} (h:s∈zGj v): ∃qn:Nat,s.1=(qn:Int)∧qn<v.1.1.length:=by
 obtain ⟨qn,kn,r,i,int,q,rt,y,z,rfl,hq,_⟩:=zO4 hv h
 exact ⟨qn,rfl,(ac.1 hq).1⟩
theorem zS3 {v:Ty.El zN} (hv:zMC v) {s:List (Ty.El zS)} (hs: ∀t,t∈s→zY2 t) {r:Nat} (hr:r<v.1.1.length) {x:Ty.El zB} (hx:x∈zMS v s r):PvS x∧RtS x:=by
 obtain ⟨w,hw,hx⟩:=cg.1 hx
 refine qBn hv ?_ (zUs hr hw) hx
 intro y hy
 unfold zDb at hy
 split at hy
 ·rename_i t ht
  exact (hs t (af ht)).rt y hy
 ·cases hy
theorem zCz (v:Ty.El zN) (hv:zMC v) (s:List (Ty.El zS)) (hlen:s.length=v.1.1.length) (hs: ∀t,t∈s→zY2 t) (r:Nat) (rt:Ty.El zF) (t:Ty.El zS) (hr:v.1.1[r]? =some rt) (ht:s[r]? =some t):
  Wp (yR (v,s,(r:Int),())) (fun o=>o=bif rt.2.2.2.2.2.2.2.2.2.2.1.1 then yV (zA1 v t r rt++zMS v s r) else []):=by
 unfold yR
 dsimp only
 have hrl:=(ac.1 hr).1
 have hV:=hv.p.s
 have hsm:=hV.sm rt (af hr)
 have hT:=hs t (af ht)
 have n1:rt.2.2.1.length≤20:=hsm.i1
 refine zC (Wp.mono (Q:=fun s=>s= !rt.2.2.2.2.2.2.2.2.2.2.1.1) ?_ (fun s2 hs2=> ?_))
 ·have q0: ¬((r:Int)<0):=by omega
  have q1: ¬((r:Int)≥(List.length v.1.1:Int)):=by omega
  have q2: ¬((r:Int)≥(List.length s:Int)):=by omega
  refine zJ (fun h=>absurd h q0) (fun _=>zJ (fun h=>absurd h q1) (fun _=>zJ (fun h=>absurd h q2) (fun _=> ?_)))
  simp only [zI hr,ae]
  exact zA rfl
 subst hs2
 cases hon:rt.2.2.2.2.2.2.2.2.2.2.1.1 with
 |false=>exact tt rfl (zA rfl)
 |true=>
  refine ff rfl ?_
  simp only [zI hr,zI ht,ae,cond_true]
  refine zC ((zCA v t r rt hV hr hT.s).mono (fun y6 h6=> ?_))
  rw [hon] at h6
  simp only [cond_true] at h6
  have hl6:y6.length≤76:=by
   have:=zKw (v:=v) (t:=t) (r:=r) hsm
   have h16:=hT.rib
   rw [h6];omega
  have hpv: ∀k,(zDb s k).length≤12:=by
   intro k
   unfold zDb
   split
   ·rename_i t0 h0
    exact (hs t0 (af h0)).pv
   ·exact aI _
  have hrI: ∀k,((zBJ v r rt k).flatMap (fun x=>zEO v (zDb s x.1) x)).length≤4320:=by
   intro k
   have h1:=j6 (xs:=zBJ v r rt k) (f:=fun x=>zEO v (zDb s x.1) x) (k:=12) (fun x _=>ay zHX (hpv _))
   have h2:=zFF hV r rt k
   omega
  have hrA: ∀m,m≤20→((List.range m).flatMap (fun k=>(zBJ v r rt k).flatMap (fun x=>zEO v (zDb s x.1) x))).length≤86400:=by
   intro m hm
   have h1:=j6 (xs:=List.range m) (f:=fun k=>(zBJ v r rt k).flatMap (fun x=>zEO v (zDb s x.1) x)) (k:=4320) (fun k _=>hrI k)
   rw [ca] at h1
   omega
  refine zC (qZ (xs:=rt.2.2.1) (by omega) (fun i (g:List (Ty.El zB))=>g=y6++(List.range i).flatMap (fun k=>(zBJ v r rt k).flatMap (fun x=>zEO v (zDb s x.1) x))) (by simp) ?_ (fun s102 h102=> ?_))
  ·intro i z g hz hg
   have hi:=(ac.1 hz).1
   have hgl:g.length≤86476:=by
    have:=hrA i (by omega)
    rw [hg,aH];omega
   refine zC ((xQ v hv.p r i rt z hr hz).mono (fun y94 h94=> ?_))
   have hl94:y94.length≤360:=by rw [h94];exact zFF hV r rt i
   rw [cR,bV, ←bp, ←hg]
   refine qZ (xs:=y94) (by omega) (fun j (w:List (Ty.El zB))=>w=g++(y94.take j).flatMap (fun x=>zEO v (zDb s x.1) x)) (by simp) ?_ (fun w hw=> ?_)
   ·intro j x w hx hw
    have hwl:w.length≤90796:=by
     have h1:=j6 (xs:=y94.take j) (f:=fun x=>zEO v (zDb s x.1) x) (k:=12) (fun x _=>ay zHX (hpv _))
     have h2:=bl j y94
     rw [hw,aH];omega
    have hxm:x∈zGj v:=zUs hrl (zZw hr hi (by rw [←h94];exact af hx))
    obtain ⟨qn,hq1,hq2⟩:=zZu hv hxm
    obtain ⟨t0,ht0⟩: ∃t0,s[qn]? =some t0:=⟨_,ai (by omega)⟩
    have hT0:=hs t0 (af ht0)
    have hpe:zDb s x.1=t0.2.2.1:=by
     unfold zDb
     rw [hq1,aR,ht0]
    simp only [zI hx,ae]
    rw [zGJ hx, ←bp, ←hw,hpe]
    have hlt:(qn:Int)< (s.length:Int):=by omega
    refine tt (decide_eq_true (by rw [hq1];exact hlt)) ?_
    rw [hq1]
    simp only [zI ht0,ae]
    have hpl:=hT0.pv
    refine zC ((zFj v hv x hxm t0.2.2.1 (by omega) hT0.rt).mono (fun l hl=> ?_))
    have hll:l.length≤12:=by rw [hl];exact ay zHX hpl
    refine zC (qU (by omega) (zA ?_))
    rw [hl]
   ·rw [hw,aN,h94];simp
  ·have hrec:zMS v s r=(List.range rt.2.2.1.length).flatMap (fun k=>(zBJ v r rt k).flatMap (fun x=>zEO v (zDb s x.1) x)):=by
    unfold zMS zBW
    rw [hr]
    simp only
    rw [List.flatMap_assoc]
   rw [←hrec] at h102
   have hrl2:(zMS v s r).length≤86400:=by rw [hrec];exact hrA _ n1
   have hall: ∀x,x∈s102→PvS x∧RtS x:=by
    intro x hx
    rw [h102] at hx
    rcases aX.1 hx with hx|hx
    ·rw [h6] at hx;exact zQb hx
    ·exact zS3 hv hs hrl hx
   refine zC ((zMN s102 (by rw [h102,aH];omega) (fun x hx=>(hall x hx).2) (fun x y hx hy=>zJ8 x y (hall x hx).1 (hall y hy).1)).mono (fun o ho=>zA ?_))
   rw [ho,h102,h6]
end Go.Ve



namespace Go.Ve
open Go
set_option maxRecDepth 1000000
set_option maxHeartbeats 4000000
theorem zWx {l:List (Ty.El zB)} (hs: ∀x,x∈l→RtS x) (p:Ty.El zG) (b:Ty.El zB):(zBt l p b).length≤l.length*1048576:=by
 have aux: ∀ (l:List (Ty.El zB)) (h:List (Ty.El qB)),(∀x,x∈l→RtS x)→(l.foldl (j5 p b) h).length≤h.length+l.length*1048576:=by
  intro l
  induction l with
  |nil=>intro h _;simp
  |cons x l ih=>
   intro h hs
   have h1:=ih (j5 p b h x) (fun y hy=>hs y (aw _ hy))
   have h2:=zSo (p:=p) (b:=b) (hs:=h) (x:=x)
   have h3:=(hs x (by simp)).hops
   simp only [bS,aA]
   omega
 have:=aux l [] hs
 unfold zBt
 simpa using this
theorem zWt {l:List (Ty.El zB)} (hl:l.length≤524288) (hs: ∀x,x∈l→RtS x): ∀z,z∈yV l→RtB z:=by
 intro z hz
 obtain ⟨q,_,hm⟩:=zGC.1 hz
 unfold mrg at hm
 cases hb:zCW l q with
 |none=>rw [hb] at hm;cases hm
 |some b=>
  rw [hb] at hm
  have hm:=(aJ hm).symm
  subst hm
  have h1:=(hs b (zVG hb).1).path
  have h2:=zWx hs q b
  refine ⟨?_,?_⟩
  ·show b.2.2.2.2.2.2.2.2.1.length≤_
   have h1:b.2.2.2.2.2.2.2.2.1.length≤1048576:=h1
   omega
  ·show (zBt l q b).length≤_
   omega
end Go.Ve



namespace Go.Ve
open Go
set_option maxRecDepth 1000000
set_option maxHeartbeats 4000000
theorem qAn {n:Ty.El zX} (h:Ty.fits 1048576 zX n): ∀r,r∈n.1→ ∀x,x∈r.2.2.1→0≤x.2.1∧x.2.1<4294967296:=by
 intro r hr x hx
 have h1:=h.1.2 r hr
 have h2:=h1.2.2.1.2 x hx
 have h3:(Lit.int .u32 x.2.1).wf=true:=h2.2.1
 have h4:(decide (IntKind.min .u32≤x.2.1)&&decide (x.2.1≤IntKind.max .u32))=true:=h3
 simp only [aj,decide_eq_true_eq] at h4
 obtain ⟨a,b⟩:=h4
 have e1:IntKind.min .u32=0:=by decide
 have e2:IntKind.max .u32=4294967295:=by decide
 rw [e1] at a
 rw [e2] at b
 exact ⟨a,Int.lt_of_le_of_lt b (by decide)⟩
end Go.Ve

namespace Go.Ve
open Go
set_option maxRecDepth 1000000
set_option maxHeartbeats 4000000
theorem zX5 {v:Ty.El zN} {s:Ty.El zK} (h:s∈zGj v) {qn kn r i:Nat} {int:Bool} {q rt:Ty.El zF} {y z:Ty.El qA} (hs:s=((qn:Int),(kn:Int),(r:Int),(i:Int),int,()))
  (hq:v.1.1[qn]? =some q) (hy:q.2.2.1[kn]? =some y) (hr:v.1.1[r]? =some rt) (hz:rt.2.2.1[i]? =some z):zOm rt q z y=true:=by
 obtain ⟨r',i',rt',z',e,q',y',hrt,hz',hon,he,hq',hy',hb,hse⟩:=zUT.1 h
 rw [hs] at hse
 injection hse with h1 h2
 injection h2 with h2 h3
 injection h3 with h3 h4
 injection h4 with h4 h5
 have h1:(qn:Int)=e.1:=h1
 have h2:(kn:Int)=e.2.1:=h2
 rw [←h1,aR] at hq'
 rw [←h2,aR] at hy'
 have h3:r=r':=by omega
 have h4:i=i':=by omega
 subst h3
 subst h4
 rw [hr] at hrt
 cases hrt
 rw [hz] at hz'
 cases hz'
 rw [hq] at hq'
 cases hq'
 rw [hy] at hy'
 cases hy'
 exact hb
theorem zHn (v:Ty.El zN) (hv:zMC v) (s:List (Ty.El zS)) (hlen:s.length=v.1.1.length) (hs: ∀t,t∈s→zY2 t) (r:Nat) (rt:Ty.El zF) (t:Ty.El zS) (hr:v.1.1[r]? =some rt) (ht:s[r]? =some t)
  (hok:zSH rt) (hpv:rt.2.2.2.2.2.2.2.2.2.2.1.1=true→PvC rt):
  Wp (zAG (v,s,(r:Int),())) (fun o=>o=bif rt.2.2.2.2.2.2.2.2.2.2.1.1 then yV (zA1 v t r rt++zMS v s r) else []):=by
 unfold zAG
 dsimp only
 have hrl:=(ac.1 hr).1
 have hV:=hv.p.s
 have hsm:=hV.sm rt (af hr)
 have hT:=hs t (af ht)
 refine zC (Wp.mono (Q:=fun s=>s= !rt.2.2.2.2.2.2.2.2.2.2.1.1) ?_ (fun s2 hs2=> ?_))
 ·refine zC (zY (zBS v r hrl) (ff rfl ?_))
  simp only [zI hr,ae]
  exact zA rfl
 subst hs2
 cases hon:rt.2.2.2.2.2.2.2.2.2.2.1.1 with
 |false=>exact tt rfl (zA rfl)
 |true=>
  refine ff rfl ?_
  simp only [zI ht,ae,cond_true]
  refine zC ((zMO v t r rt hV hr hT.s hok hpv).mono (fun y6 h6=> ?_))
  rw [hon] at h6
  simp only [cond_true] at h6
  have hl6:y6.length≤76:=by
   have:=zKw (v:=v) (t:=t) (r:=r) hsm
   have h16:=hT.rib
   rw [h6];omega
  have hpv: ∀k,(zDb s k).length≤12:=by
   intro k
   unfold zDb
   split
   ·rename_i t0 h0
    exact (hs t0 (af h0)).pv
   ·exact aI _
  refine zC ((zI9 v hv.p).mono (fun l hl=> ?_))
  have hll:=zZv hV
  rw [←hl] at hll
  have hpre: ∀m,((l.take m).flatMap (fun x=>bif x.2.2.1==(r:Int) then zEO v (zDb s x.1) x else [])).length≤777600:=by
   intro m
   have h1:=j6 (xs:=l.take m) (f:=fun x=>bif x.2.2.1==(r:Int) then zEO v (zDb s x.1) x else []) (k:=12) (fun x _=>by
    cases x.2.2.1==(r:Int)
    ·exact aI _
    ·exact ay zHX (hpv _))
   have h2:(l.take m).length≤l.length:=bl _ _
   omega
  refine zC (qZ (xs:=l) (by omega) (fun i (g:List (Ty.El zB))=>g=y6++(l.take i).flatMap (fun x=>bif x.2.2.1==(r:Int) then zEO v (zDb s x.1) x else [])) (by simp) ?_ (fun g hg=> ?_))
  ·intro j x g hx hg
   have hj:=(ac.1 hx).1
   have hgl:g.length≤777676:=by
    have:=hpre j
    rw [hg,aH];omega
   have j5:y6++(l.take (j+1)).flatMap (fun x=>bif x.2.2.1==(r:Int) then zEO v (zDb s x.1) x else [])=g++bif x.2.2.1==(r:Int) then zEO v (zDb s x.1) x else []:=by
    rw [b9,hx,bV,hg]
    simp
   rw [j5]
   simp only [zI hx,ae]
   refine zD (fun h=>zA ?_) (fun h=> ?_)
   ·have h:(x.2.2.1 !=(r:Int))=true:=h
    have:(x.2.2.1==(r:Int))=false:=by
     simp only [bne,bj] at h
     exact h
    rw [this];simp
   ·have h:(x.2.2.1 !=(r:Int))=false:=h
    have heq:(x.2.2.1==(r:Int))=true:=by
     simp only [bne,dQ] at h
     exact h
    rw [heq]
    have hxm:=af hx
    rw [hl] at hxm
    obtain ⟨qn,kn,r',i,int,q,rt',y,z,hse,hq,hy,hr',hz,hmq,hmr,hya⟩:=zO4 hv hxm
    have hb:=zX5 hxm hse hq hy hr' hz
    unfold zOm at hb
    simp only [aj] at hb
    obtain ⟨_,hb1,hb2⟩:=hb
    subst hse
    have hql:=(ac.1 hq).1
    obtain ⟨tq,htq⟩: ∃tq,s[qn]? =some tq:=⟨_,ai (by omega)⟩
    have hTq:=hs tq (af htq)
    have hpq:zDb s ((qn:Int),(kn:Int),(r':Int),(i:Int),int,()).1=tq.2.2.1:=by
     unfold zDb
     show (match s[Int.toNat (qn:Int)]? with|some t=>t.2.2.1|none=>[])=_
     rw [aR,htq]
    rw [hpq]
    simp only [cond_true]
    rw [zS4 hq hy hr' hz]
    have hpl:=hTq.pv
    have hpl:tq.2.2.1.length≤12:=hpl
    simp only [zI htq,ae]
    refine qZ (xs:=tq.2.2.1) (by omega) (fun k (w:List (Ty.El zB))=>w=g++(tq.2.2.1.take k).filterMap (fun x=>(zKB q z.2.1 int x).bind (zOJ rt' y.2.1 (i:Int) int))) (by simp) ?_ (fun w hw=> ?_)
    ·intro k x w hxk hw
     have hwl:w.length≤777688:=by
      have h1:((tq.2.2.1.take k).filterMap (fun x=>(zKB q z.2.1 int x).bind (zOJ rt' y.2.1 (i:Int) int))).length≤(tq.2.2.1.take k).length:=aF _ _
      have h2:(tq.2.2.1.take k).length≤tq.2.2.1.length:=bl _ _
      rw [hw,aH];omega
     rw [qT hxk, ←bp, ←hw]
     have hrx:=(hTq.rt x (af hxk)).1
     refine zC (zY (zI hxk) ?_)
     refine zC ((zLi v hv.p qn kn r' i int q rt' z hq hr' hz hb2 hmq x hrx).mono (fun m hm=> ?_))
     subst hm
     cases he:zKB q z.2.1 int x with
     |none=>exact tt rfl (zA (by simp))
     |some m=>
      have hmx:=qBN hmq hrx he
      refine ff rfl ?_
      refine zC ((zLh v hv.p qn kn r' i int q rt' y hq hy hr' hb1 hmr m hmx).mono (fun u hu=> ?_))
      subst hu
      cases hi:zOJ rt' y.2.1 (i:Int) int m with
      |none=>exact ff rfl (zA (by simp [hi]))
      |some u=>
       refine tt rfl (zC (qU (by simp only [aC];omega) (zA ?_)))
       simp only [ae,hi]
       rfl
    ·rw [hw,aN]
  ·rw [aN,hl,zZt (fun x=>zEO v (zDb s x.1) x) r hrl,h6] at hg
   have hgl:g=zA1 v t r rt++zMS v s r:=hg
   have hrec:=zUA hV (fun t ht=>(hs t ht).pv) r
   have hlen6:(zA1 v t r rt).length≤76:=by rw [←h6];exact hl6
   refine zC ((zMP g (by rw [hgl,aH];omega) ?_).mono (fun o ho=>zA (by rw [ho,hgl])))
   intro x hx
   rw [hgl,aX] at hx
   rcases hx with hx|hx
   ·exact (zQb hx).2
   ·exact (zS3 hv hs hrl hx).2
theorem zQc (n:Ty.El zX) (d:List Int) (s:List (Ty.El zS)) (hs:StS s) (hsl:s.length≤1048576) (hadr: ∀r,r∈n.1→ ∀x,x∈r.2.2.1→0≤x.2.1∧x.2.1<4294967296):Wp (zAJ (n,d,s,())) (fun b=>b=true):=by
 unfold zAJ
 dsimp only
 refine zC ((zPo n d).mono (fun y0 hy0=> ?_))
 refine zC ((show Wp _ (fun b:Bool=>b=false→zDz n d y0.1∧qDo y0.1 s) from ?_).mono (fun b hb=> ?_))
 ·refine zD (fun h=>zA (fun h=>by cases h)) (fun h1=> ?_)
  exact zC ((zYP y0.1 s hs hsl).mono (fun b hb=>zA (fun h2=>⟨hy0 (by simpa using h1),hb (by simpa using h2)⟩)))
 refine zD (fun h=>zA rfl) (fun h=> ?_)
 obtain ⟨hv,hst⟩:=hb h
 have hS:=hv.s
 have hM:zMC y0.1:=⟨hv.p,fun r hr=>qBu ((zTd hv).rt r (by rw [←hv.net];exact hr)) (hS.sm r hr),fun r hr=>hadr r (by rw [←hv.net];exact hr)⟩
 have hTR: ∀t,t∈s→zY2 t:=by
  intro t ht
  obtain ⟨l1,l2,l3,l4⟩:=hst.short t ht
  obtain ⟨o1,o2,o3,o4⟩:=hst.ok t ht
  obtain ⟨hT,_,_,hp,_⟩:=hs t ht
  refine ⟨hT,l3,l4,fun y hy=>⟨hp y hy,?_⟩⟩
  obtain ⟨b,hb1,hb2⟩:=zW1 y (hp y hy) (o3.pr (by decide) y hy)
  rw [o3.val y hy] at hb1
  exact (hb2 (aJ hb1).symm).pref
 refine zAW (P:=fun _=>True) (by omega) ?_ (fun _=>zC (zY rfl (zA rfl)))
 intro r t ht
 have hrl:=(ac.1 ht).1
 have hlen:=hst.len
 obtain ⟨rt,hr⟩: ∃rt,y0.1.1.1[r]? =some rt:=⟨_,ai (by omega)⟩
 have hrn:rt∈n.1:=by rw [←hv.net];exact af hr
 have hok:=(zTd hv).rt rt hrn
 have hsm:=hS.sm rt (af hr)
 have hT:=hTR t (af ht)
 have hrlt:r<y0.1.1.1.length:=by omega
 refine zC ((zCz y0.1 hM s hlen hTR r rt t hr ht).mono (fun o ho=> ?_))
 refine zC ((zHn y0.1 hM s hlen hTR r rt t hr ht hok.sts (fun hon=>qCs hok hsm hon)).mono (fun o' ho'=> ?_))
 rw [←ho] at ho'
 subst ho'
 have hlen2:(zA1 y0.1 t r rt++zMS y0.1 s r).length≤86476:=by
  have h2:=zUA hS (fun t ht=>(hTR t ht).pv) r
  have h3:=zKw (v:=y0.1) (t:=t) (r:=r) hsm
  have h4:=hT.rib
  rw [aH]
  omega
 refine zC (zY (zRh o' ?_ ?_) (ff rfl (zA (e2l ⟨rfl,trivial⟩))))
 ·rw [ho]
  cases rt.2.2.2.2.2.2.2.2.2.2.1.1
  ·exact aI _
  ·show (yV (zA1 y0.1 t r rt++zMS y0.1 s r)).length≤_
   have h1:=zP8 (zA1 y0.1 t r rt++zMS y0.1 s r)
   omega
 ·intro x hx
  rw [ho] at hx
  cases hon:rt.2.2.2.2.2.2.2.2.2.2.1.1 with
  |false=>rw [hon] at hx;cases hx
  |true=>
   rw [hon] at hx
   refine zWt (by omega) (fun y hy=> ?_) x hx
   rcases aX.1 hy with hy|hy
   ·exact (zQb hy).2
   ·exact (zS3 hM hTR hrlt hy).2
theorem zIx: ∀x:ElS [zX, .sl tI, .sl zS],zXH 1048576 [zX, .sl tI, .sl zS] x→zAJ x=some true:=by
 rintro ⟨n,d,s,⟨⟩⟩ ⟨h0,_,⟨h1,h2⟩,_⟩
 exact j9 (zQc n d s (qAm h2) h1 (qAn h0))
end Go.Ve

namespace Go.Ve
open Go
set_option maxRecDepth 1000000
set_option maxHeartbeats 4000000
def ifS (nm:ByteArray) (a:Int) (dv:Bool):Ty.El qA:=(nm,a,24,0,false,false,0,0,dv,⟨#[]⟩,⟨#[]⟩,0,())
def rtS (nm:ByteArray) (sy:Int) (ifs:List (Ty.El qA)) (dv:Ty.El tDV) (pv:Ty.El tPV):Ty.El zF:=(nm,sy,ifs,[],[],[],[],[],(false,0,[],[],()),dv,pv,())
def qDj:Ty.El tDV:=(true,120,⟨#[]⟩,⟨#[]⟩,[],())
def qC8:Ty.El tPV:=(false,0,0,[],[],[],[],[],())
def qDz:Ty.El zF:=rtS ⟨#[97]⟩ 0 [ifS ⟨#[101,48]⟩ 167772161 true] qDj qC8
def qDy:Ty.El zF:=rtS ⟨#[98]⟩ 0 [ifS ⟨#[101,48]⟩ 167772162 true,ifS ⟨#[101,49]⟩ 167772418 true] qDj qC8
def qCv:Ty.El zX:=([qDz,qDy],())
def zZi:Ty.El zLc:=([((167772160,24,()),0,[(0,0,()),(1,0,())],()),((167772416,24,()),0,[(1,1,())],())],[0],())
def qCi:Ty.El zN:=(qCv,zZi,[],())
theorem zST {nm:ByteArray} {sy:Int} {ifs:List (Ty.El qA)} {dv:Ty.El tDV} {pv:Ty.El tPV} (h1:ifs.length≤20) (h2:dv.2.2.2.2.1.length≤20) (h3:pv.2.2.2.1.length≤20) (h4:pv.2.2.2.2.1.length≤20) (h5:pv.2.2.2.2.2.1.length≤20) (h6:pv.2.2.2.2.2.2.1.length≤20) (h7:pv.2.2.2.2.2.2.2.1.length≤20):SmR (rtS nm sy ifs dv pv) where
 i1:=h1
 i2:=aI _
 i3:=aI _
 i4:=aI _
 i5:=aI _
 i6:=aI _
 i7:=aI _
 i8:=aI _
 i9:=h2
 i10:=h3
 i11:=h4
 i12:=h5
 i13:=h6
 i14:=h7
 n1:=fun y hy=>by cases hy
 n2:=fun y hy=>by cases hy
 n3:=fun y hy=>by cases hy
theorem zIE:xY qCi where
 rs:=by decide
 sm:=fun y hy=>by
  rcases aB.1 hy with rfl|hy
  ·exact zST (by decide) (by decide) (by decide) (by decide) (by decide) (by decide) (by decide)
  ·rcases aB.1 hy with rfl|hy
   ·exact zST (by decide) (by decide) (by decide) (by decide) (by decide) (by decide) (by decide)
   ·cases hy
 doms:=by decide
 ends := fun d hd => by
  rcases aB.1 hd with rfl|hd
  ·decide
  ·rcases aB.1 hd with rfl|hd
   ·decide
   ·cases hd
 links:=by decide
 link0:=fun l hl=>by
  rcases aB.1 hl with rfl|hl
  ·decide
  ·cases hl
 down:=by decide
 down0:=fun l hl=>by cases hl
end Go.Ve

namespace Go.Ve
open Go
set_option maxRecDepth 1000000
set_option maxHeartbeats 4000000
def qDi:Ty.El tDV:=(false,0,⟨#[]⟩,⟨#[]⟩,[],())
def qDB:Ty.El tPV:=(true,20,200,[(167772162,2,⟨#[]⟩,⟨#[]⟩,())],[],[],[],[],())
def qDA:Ty.El tPV:=(true,20,200,[(167772161,1,⟨#[]⟩,⟨#[]⟩,())],[(167772416,24,())],[],[],[],())
def qBp:Ty.El zF:=rtS ⟨#[97]⟩ 1 [ifS ⟨#[101,48]⟩ 167772161 false] qDi qDB
def qBo:Ty.El zF:=rtS ⟨#[98]⟩ 2 [ifS ⟨#[101,48]⟩ 167772162 false,ifS ⟨#[101,49]⟩ 167772418 false] qDi qDA
def qCu:Ty.El zX:=([qBp,qBo],())
def uK:Ty.El zN:=(qCu,zZi,[],())
def zT6:Ty.El zS:=([],[],[],[],())
def l20:List (Ty.El zB):=[((167772416,24,()),5,1,200,0,0,0,100,[],0,0,[],false,())]
def s20:List (Ty.El zS):=[zT6,([],[],l20,[],())]
def t20:List (Ty.El zB):=[((167772416,24,()),5,3,20,0,0,0,100,[2],167772162,0,[(0,167772162,())],false,())]
def e20:List (Ty.El zK):=[(1,0,0,0,false,()),(0,0,1,0,false,())]
theorem qBE {P:Ty.El zF→Prop} (ha:P qBp) (hb:P qBo): ∀r,r∈uK.1.1→P r:=by
 intro r hr
 rcases aB.1 hr with rfl|hr
 ·exact ha
 ·rcases aB.1 hr with rfl|hr
  ·exact hb
  ·cases hr
theorem zXn:xY uK where
 rs:=by decide
 sm:=qBE (zST (by decide) (by decide) (by decide) (by decide) (by decide) (by decide) (by decide)) (zST (by decide) (by decide) (by decide) (by decide) (by decide) (by decide) (by decide))
 doms:=zIE.doms
 ends := zIE.ends
 links:=zIE.links
 link0:=zIE.link0
 down:=zIE.down
 down0:=zIE.down0
theorem qAD {r i:Int} {e:Ty.El zO} (he:e∈zAu uK r i):
  (zAu uK r i=[(0,0,()),(1,0,())]∨zAu uK r i=[(1,1,())]):=by
 unfold zAu at he ⊢
 split at he
 ·rename_i d hd
  have hd:=af hd
  rcases aB.1 hd with rfl|hd
  ·exact .inl rfl
  ·rcases aB.1 hd with rfl|hd
   ·exact .inr rfl
   ·cases hd
 ·cases he
theorem zXo:zJR uK where
 s:=zXn
 nb:=qBE (fun i j x y hj hx _=>by
  have:i<1:=(ac.1 hx).1
  omega) (fun i j x y hj hx _=>by
  have:i<1:=(ac.1 hx).1
  omega)
 ends := fun r i e _ he => by
  rcases qAD he with h|h
  ·rw [h] at he
   rcases aB.1 he with rfl|he
   ·exact ⟨by decide,by decide,_,_,rfl,rfl⟩
   ·rcases aB.1 he with rfl|he
    ·exact ⟨by decide,by decide,_,_,rfl,rfl⟩
    ·cases he
  ·rw [h] at he
   rcases aB.1 he with rfl|he
   ·exact ⟨by decide,by decide,_,_,rfl,rfl⟩
   ·cases he
 own:=fun r i=>by
  unfold zHx
  cases hu:upB uK r i with
  |false=>rfl
  |true=>
   simp only [cond_true]
   have ho:=qAC hu
   refine dp (fun e he=> ?_)
   cases h1:(e.1 !=r) with
   |true=>rfl
   |false=>
    have h1:e.1=r:=by simpa [bne] using h1
    have h2:e.2.1=i:=by
     rcases qAD he with h|h
     ·rw [h] at he ho
      rcases aB.1 he with rfl|he
      ·rcases aB.1 ho with ho|ho
       ·exact (congrArg (fun e:Ty.El zO=>e.2.1) ho).symm
       ·rcases aB.1 ho with ho|ho
        ·have h3:r=1:=congrArg (fun e:Ty.El zO=>e.1) ho
         have h1:(0:Int)=r:=h1
         omega
        ·cases ho
      ·rcases aB.1 he with rfl|he
       ·rcases aB.1 ho with ho|ho
        ·have h3:r=0:=congrArg (fun e:Ty.El zO=>e.1) ho
         have h1:(1:Int)=r:=h1
         omega
        ·rcases aB.1 ho with ho|ho
         ·exact (congrArg (fun e:Ty.El zO=>e.2.1) ho).symm
         ·cases ho
       ·cases he
     ·rw [h] at he ho
      rcases aB.1 he with rfl|he
      ·rcases aB.1 ho with ho|ho
       ·exact (congrArg (fun e:Ty.El zO=>e.2.1) ho).symm
       ·cases ho
      ·cases he
    rw [h2]
    simp
theorem qA7:zMC uK where
 p:=zXo
 maps:=qBE (fun m hm=>by cases hm) (fun m hm=>by cases hm)
 adr:=qBE (fun x hx=>by
  rcases aB.1 hx with rfl|hx
  ·exact ⟨by decide,by decide⟩
  ·cases hx) (fun x hx=>by
  rcases aB.1 hx with rfl|hx
  ·exact ⟨by decide,by decide⟩
  ·rcases aB.1 hx with rfl|hx
   ·exact ⟨by decide,by decide⟩
   ·cases hx)
theorem qCZ:zY2 zT6:=⟨⟨by decide,by decide,by decide,by decide⟩,by decide,by decide,fun y hy=>by cases hy⟩
theorem qC0: ∀t,t∈s20→zY2 t:=by
 intro t ht
 rcases aB.1 ht with rfl|ht
 ·exact qCZ
 ·rcases aB.1 ht with rfl|ht
  ·refine ⟨⟨by decide,by decide,by decide,by decide⟩,by decide,by decide,fun y hy=> ?_⟩
   rcases aB.1 hy with rfl|hy
   ·exact ⟨⟨by decide,by decide⟩,⟨by decide,by decide⟩⟩
   ·cases hy
  ·cases ht
theorem zZ5:zA1 uK zT6 1 qBo=l20:=by kernel_rfl
theorem zZ6:yV (zA1 uK zT6 0 qBp++zMS uK s20 0)=t20:=by kernel_rfl
theorem qCn:zGj uK=e20:=by kernel_rfl
theorem qBx:kB (uK,zT6,1,())=some l20:=by
 refine j9 ((zCA uK zT6 1 qBo zXn rfl qCZ.s).mono (fun o ho=> ?_))
 rw [ho]
 exact zZ5
theorem qBb:yR (uK,s20,0,())=some t20:=by
 refine j9 ((zCz uK qA7 s20 rfl qC0 0 qBp zT6 rfl rfl).mono (fun o ho=> ?_))
 rw [ho]
 exact zZ6
theorem zWc:yA (uK,())=some e20:=by
 refine j9 ((zFl uK zXo).mono (fun o ho=> ?_))
 rw [ho]
 exact qCn
end Go.Ve

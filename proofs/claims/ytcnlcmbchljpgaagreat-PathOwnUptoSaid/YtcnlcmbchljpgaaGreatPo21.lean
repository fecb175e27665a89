/-
  Plain laws: the routes of one prefix are merged.
  Plain laws: the program's merging is the document's.
  Plain laws: the tables of distance-vector routing.
  Plain laws: the document's distance-vector tables.
  Plain laws of path-vector routing: sessions.
  PathSessions: the law answers true.
  Plain laws of path-vector routing: what is told and what is made of it.
  PathLoops, PathSplit: the laws answer true.
  Plain laws: what a router makes of its neighbors' path-vector tables.
  Plain laws: what the checks say of redistribution and of the prefixes that path-vector routing originates.
  Plain laws: redistribution into path-vector routing; both sides answer the same list.
  Plain laws: the routes that a router originates; both sides answer the same list.
  Plain laws: states of a view; PathLocal.
  Plain laws: tables of path-vector routing: the program's Table.
  Plain laws: valid path-vector routes: local ones, received ones.
  DistTables: the law answers true.
  Plain laws: received routes are valid; the best of a prefix; what merging keeps.
-/
import Derived.Test.YtcnlcmbchljpgaaGreatPo17
import Derived.Test.YtcnlcmbchljpgaaGreatPo13
import Derived.Test.YtcnlcmbchljpgaaGreatPo18
set_option linter.unusedVariables false
namespace Go.Ve
open Go
set_option maxRecDepth 1000000
set_option maxHeartbeats 4000000
theorem zPU {l l':List (Ty.El zB)} {p:Ty.El zH} (h:zAJ p l=zAJ p l'):mrg l p=mrg l' p:=by
 have hm: ∀x,(x∈l∧x.1=p)↔(x∈l'∧x.1=p):=fun x=>by rw [←zDo, ←zDo,h]
 unfold mrg
 have hb:zCu l p=zCu l' p:=by
  rw [zDU,zDU,h]
 rw [hb]
 cases zCu l' p with
 |none=>rfl
 |some b=>
  have hh:zCq l p b=zCq l' p b:=zDl zKs (xT _ _ _) (xT _ _ _) (fun h'=>by
   rw [zCp,zCp]
   exact ⟨fun ⟨x,hx,e,k⟩=>⟨x,((hm x).1 ⟨hx,e⟩).1,e,k⟩,fun ⟨x,hx,e,k⟩=>⟨x,((hm x).2 ⟨hx,e⟩).1,e,k⟩⟩)
  rw [Option.map_some,Option.map_some,hh]
theorem zKi (p:Ty.El zH) (a b:List (Ty.El zB)):zAJ p (a++b)=zAJ p a++zAJ p b:=by
 unfold zAJ zLt
 exact List.filter_append _ _
theorem zN1 {p:Ty.El zH} {l:List (Ty.El zB)} (h: ∀x,x∈l→x.1≠p):zAJ p l=[]:=by
 unfold zAJ zLt
 rw [List.filter_eq_nil_iff]
 intro x hx
 simpa using h x hx
theorem zV3 {p:Ty.El zH} {l:List (Ty.El zB)} (h: ∀x,x∈l→x.1=p):zAJ p l=l:=by
 unfold zAJ zLt
 rw [List.filter_eq_self]
 intro x hx
 simpa using h x hx
theorem zUM {l:List (Ty.El zB)} {c:Option (Ty.El zB)} {i:Nat} {x:Ty.El zB} (h:l[i]? =some x):zKP c (l.take (i+1))=(bif zRp x (zKP c (l.take i)) then some x else zKP c (l.take i)):=by
 unfold zKP
 rw [List.take_add_one,h,Option.toList_some,List.foldl_append]
 rfl
def zKr (b:Ty.El zB) (l:List (Ty.El zB)):List (Ty.El qP):=l.flatMap (fun x=>bif xL x b==0 then x.2.2.2.2.2.2.2.2.2.2.2.1 else [])
theorem zTL (xs:List (Ty.El qP)):((if xs=[] then [] else srt zLp xs):List (Ty.El qP)).Pairwise (fun x y=> ¬hlt y x)∧(∀h,h∈(if xs=[] then [] else srt zLp xs)↔h∈xs)∧(if xs=[] then [] else srt zLp xs).length=xs.length:=by
 by_cases hx:xs=[]
 ·rw [if_pos hx,hx]
  exact ⟨List.Pairwise.nil,fun h=>Iff.rfl,rfl⟩
 ·rw [if_neg hx]
  obtain ⟨h1,h2,h3⟩:=zRT zVr xs
  refine ⟨?_,fun h=>h1.mem_iff,h2⟩
  rw [List.pairwise_iff_getElem]
  intro i j hi hj hij hlt'
  have:=h3 i j _ _ hij (List.getElem?_eq_getElem hi) (List.getElem?_eq_getElem hj)
  rw [(zEf _ _).2 hlt'] at this
  cases this
theorem zHT (g:List (Ty.El zB)) (p:Ty.El zH) (hne:g≠[]) (hp: ∀x,x∈g→x.1=p) (hs: ∀x,x∈g→RtS x) (hl:g.length≤524288) (hP: ∀x y,x∈g→y∈g→xC (x,y,())=some (xL x y)):
  Wp (zBH (g,())) (fun z=>mrg g p=some z):=by
 obtain ⟨y0,r,rfl⟩: ∃y0 r,g=y0::r:=by
  cases g with
  |nil=>exact absurd rfl hne
  |cons y r=>exact ⟨y,r,rfl⟩
 unfold zBH
 dsimp only
 have h0:idx (y0::r) (0:Int)=some y0:=rfl
 have hsub:sub (y0::r) (1:Int) ((List.length (y0::r):Nat):Int)=some r:=by
  have:=zW6 (xs:=y0::r) (k:=1) (by simp)
  simpa using this
 have hrl:r.length≤524288:=by simp only [List.length_cons] at hl;omega
 refine zC (z7 h0 ?_)
 refine zC (Wp.mono (Q:=fun b=>zKP (some y0) r=some b∧b∈y0::r) ?_ ?_)
 ·refine zC (z7 hsub ?_)
  refine uT (xs:=r) (by omega) (fun i (b:Ty.El zB)=>zKP (some y0) (r.take i)=some b∧b∈y0::r) ⟨rfl,by simp⟩ ?_ (fun b hb=>by rw [List.take_length] at hb;exact hb)
  rintro i x b hx ⟨hb,hbm⟩
  have hxm:x∈y0::r:=List.mem_cons_of_mem _ (List.mem_of_getElem? hx)
  simp only [zJ hx,Option.bind_some]
  refine zC (z7 (hP x b hxm hbm) ?_)
  rw [zUM hx,hb]
  refine zI (fun h=>zA ⟨?_,hxm⟩) (fun h=>zA ⟨?_,hbm⟩)
  ·have:zRp x (some b)=true:=decide_eq_true h
   rw [this];rfl
  ·have:zRp x (some b)=false:=decide_eq_false h
   rw [this];rfl
 ·rintro b ⟨hb,hbm⟩
  have hbest:zCu (y0::r) p=some b:=by
   rw [zDU,zV3 hp]
   exact hb
  have hbs:=hs b hbm
  have hbound: ∀i,i≤(y0::r).length→(zKr b ((y0::r).take i)).length≤i*1048576:=by
   intro i hi
   have:=uD (xs:=(y0::r).take i) (f:=fun x:Ty.El zB=>bif xL x b==0 then x.2.2.2.2.2.2.2.2.2.2.2.1 else []) (k:=1048576) (fun x hx=>by
    have:=(hs x (List.mem_of_mem_take hx)).hops
    cases xL x b==0
    ·exact Nat.zero_le _
    ·exact this)
   rw [List.length_take,Nat.min_eq_left hi] at this
   exact this
  refine zC ((show Wp _ (fun hs0:List (Ty.El qP)=>hs0=zKr b (y0::r)) from ?_).mono (fun hs0 hh=> ?_))
  ·refine uT (xs:=y0::r) (by omega) (fun i (h:List (Ty.El qP))=>h=zKr b ((y0::r).take i)) rfl ?_ (fun h hh=>by rw [hh,List.take_length])
   intro i x h hx hh
   have hi:=(List.getElem?_eq_some_iff.1 hx).1
   have hxm:x∈y0::r:=List.mem_of_getElem? hx
   have hxh:=(hs x hxm).hops
   have hlh:h.length≤i*1048576:=by rw [hh];exact hbound i (by omega)
   simp only [zJ hx,Option.bind_some]
   refine zC (z7 (hP x b hxm hbm) ?_)
   have hst:zKr b ((y0::r).take (i+1))=h++(bif xL x b==0 then x.2.2.2.2.2.2.2.2.2.2.2.1 else []):=by
    rw [hh]
    exact zKv hx
   rw [hst]
   refine zD (fun hz=> ?_) (fun hz=>zA ?_)
   ·rw [hz]
    exact zC (vK (by omega) (zA rfl))
   ·rw [hz];exact (List.append_nil h).symm
  ·have hlen:hs0.length≤549755813888:=by
    have:=hbound (y0::r).length (Nat.le_refl _)
    rw [List.take_length, ←hh] at this
    have h2:(y0::r).length*1048576≤524288*1048576:=Nat.mul_le_mul_right _ hl
    omega
   obtain ⟨s1,s2,s3⟩:=zTL hs0
   refine tt (Nat.beq_refl _) ?_
   have e1:uU hs0 ((),())=some (if hs0=[] then [] else srt zLp hs0,()):=by
    unfold uU
    rw [if_pos (by omega)]
   refine zC (z7 e1 ?_)
   generalize (if hs0=[] then [] else srt zLp hs0)=hs1 at s1 s2 s3
   have e2:xA hs1 ()=some (vU zPr hs1):=by
    unfold xA
    rw [if_pos (by omega)]
   refine zC (z7 e2 ?_)
   have hcm:vU zPr hs1=zCq (y0::r) p b:=by
    refine zQ1 s1 (fun h=> ?_)
    rw [s2,hh]
    unfold zKr
    rw [List.mem_flatMap]
    constructor
    ·rintro ⟨x,hx,hxx⟩
     cases hz:xL x b==0 with
     |false=>rw [hz] at hxx;cases hxx
     |true=>
      rw [hz] at hxx
      exact ⟨x,hx,hp x hx,by simpa using hz,hxx⟩
    ·rintro ⟨x,hx,_,hz,hxx⟩
     refine ⟨x,hx,?_⟩
     have:(xL x b==0)=true:=by simpa using hz
     rw [this]
     exact hxx
   have hpath:=hbs.path
   have e3:jT (b.2.2.2.2.2.2.2.2.1,())=some b.2.2.2.2.2.2.2.2.1:=by
    refine j2 ?_
    unfold jT
    exact zC (vK (by simp only [List.length_nil];omega) (zA rfl))
   refine zC (z7 e3 (zA ?_))
   unfold mrg
   rw [hbest,hcm]
   obtain ⟨⟨a1,a2,⟨⟩⟩,b⟩:=b
   rfl
end Go.Ve

namespace Go.Ve
open Go
set_option maxRecDepth 1000000
set_option maxHeartbeats 4000000
theorem zDK {l:List (Ty.El zB)} {z:Ty.El zB} :z∈zAj l↔ ∃q,(∃x,x∈l∧x.1=q)∧mrg l q=some z:=by
 unfold zAj
 rw [List.mem_filterMap]
 exact ⟨fun ⟨q,h1,h2⟩=>⟨q,(zEN l q).1 h1,h2⟩,fun ⟨q,h1,h2⟩=>⟨q,(zEN l q).2 h1,h2⟩⟩
theorem zQU {a g:List (Ty.El zB)} {p:Ty.El zH} {z:Ty.El zB} (ha: ∀x,x∈a→plt x.1 p) (hg: ∀x,x∈g→x.1=p) (hne:g≠[]) (hz:mrg g p=some z):zAj (a++g)=zAj a++[z]:=by
 have hirr: ∀q:Ty.El zH, ¬plt q q:=fun q h=>zHx.asym _ _ h h
 have hane: ∀x,x∈a→x.1≠p:=fun x hx e=>by have:=ha x hx;rw [e] at this;exact hirr p this
 have hzp:z.1=p:=zHy hz
 have e1: ∀q,q≠p→mrg (a++g) q=mrg a q:=fun q hq=>zPU (by
  rw [zKi,zN1 (l:=g) (fun x hx e=>hq (e.symm.trans (hg x hx))),List.append_nil])
 have e2:mrg (a++g) p=mrg g p:=zPU (by rw [zKi,zN1 hane,List.nil_append])
 refine zDl zVg (zEw _) ?_ ?_
 ·rw [List.pairwise_append]
  refine ⟨zEw a,List.pairwise_singleton _ _,?_⟩
  intro x hx y hy
  rw [List.mem_singleton] at hy
  subst hy
  obtain ⟨q,⟨x0,hx0,hq⟩,hm⟩:=zDK.1 hx
  unfold rlt
  rw [hzp,zHy hm, ←hq]
  exact ha x0 hx0
 ·intro y
  rw [List.mem_append,List.mem_singleton,zDK,zDK]
  constructor
  ·rintro ⟨q,⟨x,hx,hq⟩,hm⟩
   by_cases hqp:q=p
   ·subst hqp
    rw [e2,hz] at hm
    exact .inr (Option.some.inj hm).symm
   ·refine .inl ⟨q,⟨x,?_,hq⟩,by rw [←e1 q hqp];exact hm⟩
    rcases List.mem_append.1 hx with h|h
    ·exact h
    ·exact absurd ((hg x h).symm.trans hq).symm hqp
  ·rintro (⟨q,⟨x,hx,hq⟩,hm⟩|rfl)
   ·have hqp:q≠p:=fun e=>hane x hx (hq.trans e)
    exact ⟨q,⟨x,List.mem_append_left _ hx,hq⟩,by rw [e1 q hqp];exact hm⟩
   ·obtain ⟨x,hx⟩:=List.exists_mem_of_ne_nil g hne
    exact ⟨p,⟨x,List.mem_append_right _ hx,hg x hx⟩,by rw [e2];exact hz⟩
theorem zN2 (l:List (Ty.El zB)):(zAj l).length≤l.length:=Nat.le_trans (List.length_filterMap_le _ _) (zXz l)
theorem zK5 (l:List (Ty.El zB)) (hl:l.length≤524288) (hs: ∀x,x∈l→RtS x) (hP: ∀x y,x∈l→y∈l→xC (x,y,())=some (xL x y)):
  Wp (zD8 (l,())) (fun r=>r=zAj l):=by
 unfold zD8
 dsimp only
 have e0:xB (l,())=some l:=by
  refine j2 ?_
  unfold xB
  exact zC (vK (by simp only [List.length_nil];omega) (zA rfl))
 refine zC (z7 e0 ?_)
 refine tt (by simp) ?_
 refine zC ((show Wp (yB l ((),())) _ from zMt l (by omega)).mono ?_)
 rintro ⟨s,⟨⟩⟩ ⟨hsl,hsame,hso⟩
 simp only at hsl hsame hso
 rw [zSt hsame]
 have hm: ∀x,x∈s→x∈l:=by
  intro x hx
  have h1:= @zDo x.1 x l
  have h2:= @zDo x.1 x s
  have h3:zAJ x.1 l=zAJ x.1 s:=hsame x.1
  rw [h3] at h1
  exact (h1.1 (h2.2 ⟨hx,rfl⟩)).1
 have hn:s.length≤524288:=by omega
 have hso':=List.pairwise_iff_getElem.1 hso
 refine zC ((show Wp _ (fun r=>r=zAj s) from ?_).mono (fun r hr=>zA hr))
 refine j7 (fun q:Int×List (Ty.El zB)=> ∃i:Nat,q.1=(i:Int)∧i≤s.length∧q.2=zAj (s.take i)∧(0<i→ ∀x y,s[i-1]? =some x→s[i]? =some y→x.1≠y.1)) (fun q=>((s.length:Int) -q.1).toNat)
  ⟨(0:Nat),rfl,Nat.zero_le _,rfl,fun h=>absurd h (Nat.lt_irrefl 0)⟩ ?_
 rintro ⟨st,mg⟩ ⟨i,hi,hil,hmg,hbd⟩
 simp only at hi hmg
 subst hi
 refine zI (fun hc=> ?_) (fun hc=> ?_)
 ·have hc:(i:Int)< (s.length:Int):=hc
  have hlt:i<s.length:=by omega
  have hx:s[i]? =some s[i]:=by simp [hlt]
  generalize hxi:s[i]=xi at hx
  refine zC ((show Wp _ (fun q:List (Ty.El zB)×Int=>q.1=mg∧ ∃e:Nat,q.2=(e:Int)∧i<e∧e≤s.length∧(∀k y,i≤k→k<e→s[k]? =some y→y.1=xi.1)∧(∀y,s[e]? =some y→y.1≠xi.1)) from ?_).mono ?_)
  ·refine j7 (fun q:Int×List (Ty.El zB)=>q.2=mg∧ ∃e:Nat,q.1=(e:Int)∧i<e∧e≤s.length∧(∀k y,i≤k→k<e→s[k]? =some y→y.1=xi.1)) (fun q=>((s.length:Int) -q.1).toNat) ⟨rfl,i+1,?_,Nat.lt_succ_self i,hlt,?_⟩ ?_
   ·rw [zG (by omega) (by omega)];omega
   ·intro k y h1 h2 hy
    have:k=i:=by omega
    subst this
    rw [hx] at hy
    cases hy
    rfl
   ·rintro ⟨q1,q2⟩ ⟨rfl,e,he,hie,hel,hall⟩
    simp only at he
    subst he
    refine zC ((show Wp _ (fun b:Bool×List (Ty.El zB)=>b.2=q2∧(b.1=true→ ∃y,s[e]? =some y∧y.1=xi.1)∧(b.1=false→ ∀y,s[e]? =some y→y.1≠xi.1)) from ?_).mono ?_)
    ·refine zI (fun h=> ?_) (fun h=>zA ⟨rfl,(fun h'=>by cases h'),fun _ y hy=> ?_⟩)
     ·have h:(e:Int)< (s.length:Int):=h
      have hye:s[e]? =some (s[e]'(by omega)):=by simp
      generalize (s[e]'(by omega))=ye at hye
      simp only [zJ hye,zJ hx,Option.bind_some]
      refine zA ⟨rfl,fun hb=>⟨ye,hye,zGP hb⟩,fun hb y hy=> ?_⟩
      have hyy:y=ye:=by rw [hye] at hy;exact (Option.some.inj hy).symm
      subst hyy
      intro e0
      have hb:(y.1.fst==xi.1.fst&&(y.1.snd.fst==xi.1.snd.fst&&true))=false:=hb
      rw [e0] at hb
      simp at hb
     ·have h: ¬(e:Int)< (s.length:Int):=h
      have:=(List.getElem?_eq_some_iff.1 hy).1
      omega
    ·rintro ⟨b,q3⟩ ⟨hq,hbt,hbf⟩
     simp only at hq hbt hbf
     subst hq
     refine zD (fun hb=> ?_) (fun hb=>zA (e2r ⟨rfl,e,rfl,hie,hel,hall,hbf hb⟩))
     obtain ⟨y,hy,hyp⟩:=hbt hb
     have hel':=(List.getElem?_eq_some_iff.1 hy).1
     have hw:IntKind.wrap IntKind.i64 ((e:Int)+1)=((e+1:Nat):Int):=by rw [zG (by omega) (by omega)];omega
     refine zA (e2l ⟨⟨rfl,e+1,hw,by omega,hel',?_⟩,?_⟩)
     ·intro k y' h1 h2 hy'
      rcases Nat.lt_or_ge k e with h3|h3
      ·exact hall k y' h1 h3 hy'
      ·have:k=e:=by omega
       subst this
       rw [hy] at hy'
       cases hy'
       exact hyp
     ·simp only [hw];omega
  ·rintro ⟨q1,q2⟩ ⟨hq,e,he,hie,hel,hall,hend⟩
   simp only at hq he
   subst hq
   subst he
   have hsub:sub s (i:Int) (e:Int)=some ((s.take e).drop i):=by
    unfold sub
    rw [if_pos ⟨by omega,by omega,by omega⟩]
    simp
   have hgm: ∀x,x∈(s.take e).drop i→x∈s∧x.1=xi.1:=by
    intro x hx'
    obtain ⟨k,hk,rfl⟩:=List.getElem_of_mem hx'
    rw [List.length_drop,List.length_take] at hk
    have hke:((s.take e).drop i)[k]=s[i+k]'(by omega):=by rw [List.getElem_drop,List.getElem_take]
    rw [hke]
    exact ⟨List.getElem_mem _,hall (i+k) _ (by omega) (by omega) (by simp)⟩
   have hgl:((s.take e).drop i).length=e-i:=by rw [List.length_drop,List.length_take];omega
   have hgn:(s.take e).drop i≠[]:=fun h=>by rw [h] at hgl;simp only [List.length_nil] at hgl;omega
   refine zC (z7 hsub ?_)
   refine zC ((zHT _ xi.1 hgn (fun x hx'=>(hgm x hx').2) (fun x hx'=>hs x (hm x (hgm x hx').1)) (by omega) (fun x y hx' hy'=>hP x y (hm x (hgm x hx').1) (hm y (hgm y hy').1))).mono (fun z hz=> ?_))
   have hml:=zN2 (s.take i)
   rw [List.length_take] at hml
   have hql:q1.length≤524288:=by rw [hmg];omega
   refine zC (vK (by simp only [List.length_singleton];omega) (zA (e2l ⟨⟨e,rfl,hel,?_,?_⟩,?_⟩)))
   ·have hta:s.take e=s.take i++(s.take e).drop i:=by
     have h1:=List.take_append_drop i (s.take e)
     rw [List.take_take,Nat.min_eq_left (by omega)] at h1
     exact h1.symm
    rw [hta,hmg]
    refine (zQU (p:=xi.1) ?_ (fun x hx'=>(hgm x hx').2) hgn hz).symm
    intro x hx'
    obtain ⟨a,ha,rfl⟩:=List.getElem_of_mem hx'
    rw [List.length_take] at ha
    rw [List.getElem_take]
    have hi0:0<i:=by omega
    have hx1:s[i-1]? =some (s[i-1]'(by omega)):=by simp
    have hne:=hbd hi0 _ _ hx1 hx
    have h1:=hso' (i-1) i (by omega) hlt (by omega)
    rw [hxi] at h1
    have h2:plt (s[i-1]'(by omega)).1 xi.1:=zT2 h1 hne
    by_cases hai:a=i-1
    ·subst hai;exact h2
    ·have h3:=hso' a (i-1) (by omega) (by omega) (by omega)
     unfold rlt plt zD1 at*
     omega
   ·intro _ x y hx' hy' hxy
    have h1:x.1=xi.1:=hall (e-1) x (by omega) (by omega) hx'
    exact hend y hy' (hxy.symm.trans h1)
   ·simp only;omega
 ·have hc: ¬(i:Int)< (s.length:Int):=hc
  have:i=s.length:=by omega
  subst this
  refine zA (e2r ?_)
  simp only [hmg,List.take_length]
end Go.Ve





namespace Go.Ve
open Go
set_option maxRecDepth 1000000
set_option maxHeartbeats 4000000
theorem wJ (v:Ty.El zR) (r i:Nat) (rt:Ty.El zF) (x:Ty.El qG) (hr:v.1.1[r]? =some rt) (hx:rt.2.2.1[i]? =some x):
  Wp (jC (v,(r:Int),(i:Int),())) (fun y=>y=(x,true,())):=by
 unfold jC
 dsimp only
 have hrl:=(List.getElem?_eq_some_iff.1 hr).1
 have hil:=(List.getElem?_eq_some_iff.1 hx).1
 have q0: ¬((r:Int)<0):=by omega
 have q1: ¬((r:Int)≥(List.length v.1.1:Int)):=by omega
 have q2: ¬((i:Int)<0):=by omega
 refine zC ((show Wp _ (fun s:Bool=>s=false) from ?_).mono (fun s hs=> ?_))
 ·refine zI (fun h=>absurd h q0) (fun _=>zI (fun h=>absurd h q1) (fun _=>zI (fun h=>absurd h q2) (fun _=> ?_)))
  simp only [zJ hr,Option.bind_some]
  refine zA ?_
  have: ¬((i:Int)≥(List.length rt.2.2.1:Int)):=by omega
  exact decide_eq_false this
 ·subst hs
  simp only [cond_false,zJ hr,zJ hx,Option.bind_some]
  exact zA rfl
def zR4 (rt q:Ty.El zF) (x y:Ty.El qG):Bool:=
 q.2.2.2.2.2.2.2.2.2.2.1.1&&(knB rt.2.2.2.2.2.2.2.2.2.2.1.2.2.2.1 y.2.1 q.2.1&&knB q.2.2.2.2.2.2.2.2.2.2.1.2.2.2.1 x.2.1 rt.2.1)
def zR3 (v:Ty.El zR) (r i:Int) (rt:Ty.El zF) (x:Ty.El qG) (e:Ty.El zO):Option (Ty.El zW):=
 match v.1.1[Int.toNat e.1]? with
 |some q=>match q.2.2.1[Int.toNat e.2.1]? with
  |some y=>bif zR4 rt q x y then some (e.1,e.2.1,r,i,q.2.1==rt.2.1,()) else none
  |none=>none
 |none=>none
def zEs (v:Ty.El zR) (r:Int) (rt:Ty.El zF) (i:Nat):List (Ty.El zW):=
 match rt.2.2.1[i]? with
 |some x=>bif rt.2.2.2.2.2.2.2.2.2.2.1.1 then (zI8 v r i (fun e=>e.1 !=r)).filterMap (zR3 v r i rt x) else []
 |none=>[]
def zGj (v:Ty.El zR) (r:Nat):List (Ty.El zW):=
 match v.1.1[r]? with
 |some rt=>(List.range rt.2.2.1.length).flatMap (zEs v r rt)
 |none=>[]
def zMy (v:Ty.El zR):List (Ty.El zW):=(List.range v.1.1.length).flatMap (zGj v)
theorem zGI {v:Ty.El zR} (hv:zDa v) (r:Int) (rt:Ty.El zF) (i:Nat):(zEs v r rt i).length≤360:=by
 unfold zEs
 split
 ·cases rt.2.2.2.2.2.2.2.2.2.2.1.1
  ·exact Nat.zero_le _
  ·exact Nat.le_trans (List.length_filterMap_le _ _) (zSp hv _ _ _)
 ·exact Nat.zero_le _
theorem zR2 {v:Ty.El zR} (hv:zDa v) (r:Nat):(zGj v r).length≤7200:=by
 unfold zGj
 split
 ·rename_i rt hr
  have h1:=uD (xs:=List.range rt.2.2.1.length) (f:=zEs v r rt) (k:=360) (fun i _=>zGI hv r rt i)
  have h2:=(hv.sm rt (List.mem_of_getElem? hr)).i1
  have h2:rt.2.2.1.length≤20:=h2
  rw [List.length_range] at h1
  omega
 ·exact Nat.zero_le _
structure zOZ (v:Ty.El zR):Prop where
 s:zDa v
 nb: ∀r,r∈v.1.1→zU0 r.2.2.2.2.2.2.2.2.2.2.1.2.2.2.1
 ends : ∀ (r i : Int) (e : Ty.El zO), upB v r i = true → e ∈ vQ v r i → (0 : Int) ≤ e.1 ∧ (0 : Int) ≤ e.2.1 ∧ ∃ q y, v.1.1[Int.toNat e.1]? = some q ∧ q.2.2.1[Int.toNat e.2.1]? = some y
 own: ∀ (r i:Int),zI8 v r i (fun e=>e.1 !=r||e.2.1 !=i)=zI8 v r i (fun e=>e.1 !=r)
theorem xX.p {n:Ty.El zQ} {d:List Int} {v:Ty.El zR} (hv:xX n d v):zOZ v where
 s:=hv.s
 nb:=fun r hr=>qA9 ((zFB hv).rt r (by rw [←hv.net];exact hr)) (hv.s.sm r hr)
 ends := fun r i e hu he => by
  obtain ⟨e0,e1,q,y,e2,e3,_⟩:=zYq hv hu he
  exact ⟨e0,e1,q,y,e2,e3⟩
 own:=fun r i=>zXJ hv r i
theorem xJ (v:Ty.El zR) (hv:zOZ v) (r i:Nat) (rt:Ty.El zF) (x:Ty.El qG) (hr:v.1.1[r]? =some rt) (hx:rt.2.2.1[i]? =some x):
  Wp (wF (v,(r:Int),(i:Int),())) (fun l=>l=zEs v r rt i):=by
 unfold wF
 dsimp only
 have hs:=hv.s
 have hsm:=hs.sm rt (List.mem_of_getElem? hr)
 have hnb:=hv.nb rt (List.mem_of_getElem? hr)
 refine zC (z7 (zJ hr) (zC ((wJ v r i rt x hr hx).mono (fun y1 hy1=> ?_))))
 subst hy1
 have hI:zEs v r rt i=bif rt.2.2.2.2.2.2.2.2.2.2.1.1 then (zI8 v r i (fun e=>e.1 !=(r:Int))).filterMap (zR3 v r i rt x) else []:=by
  unfold zEs;rw [hx]
 rw [hI]
 refine zD (fun h=>zA ?_) (fun h=> ?_)
 ·have h:rt.2.2.2.2.2.2.2.2.2.2.1.1=false:=by simpa using h
  rw [h];rfl
 have h:rt.2.2.2.2.2.2.2.2.2.2.1.1=true:=by simpa using h
 rw [h]
 refine zC (zC ((zHS v r i hs).mono (fun ns hns=> ?_)))
 rw [hv.own] at hns
 have hnl:ns.length≤360:=by rw [hns];exact zSp hs _ _ _
 refine (uT (xs:=ns) (by omega) (fun j (g:List (Ty.El zW))=>g=(ns.take j).filterMap (zR3 v r i rt x)) rfl ?_ (fun g hg=>zA ?_))
 ·intro j e g he hg
  have hj:=(List.getElem?_eq_some_iff.1 he).1
  have hgl:g.length≤360:=by
   rw [hg]
   exact Nat.le_trans (List.length_filterMap_le _ _) (Nat.le_trans (List.length_take_le' _ _) hnl)
  simp only [zJ he,Option.bind_some]
  rw [kJ he, ←hg]
  have hem:=List.mem_of_getElem? he
  rw [hns] at hem
  obtain ⟨u1,u2,_⟩:=zQS hem
  obtain ⟨b0,b1,q,y,b2,b3⟩:=hv.ends _ _ _ u1 u2
  obtain ⟨e1,e2,⟨⟩⟩:=e
  obtain ⟨qn,rfl⟩:=Int.eq_ofNat_of_zero_le (show (0:Int)≤e1 from b0)
  obtain ⟨kn,rfl⟩:=Int.eq_ofNat_of_zero_le (show (0:Int)≤e2 from b1)
  have c2:v.1.1[qn]? =some q:=b2
  have c3:q.2.2.1[kn]? =some y:=b3
  have hqm:=List.mem_of_getElem? c2
  have hE:zR3 v r i rt x ((qn:Int),(kn:Int),())=bif zR4 rt q x y then some ((qn:Int),(kn:Int),(r:Int),(i:Int),q.2.1==rt.2.1,()) else none:=by
   unfold zR3
   simp only [Int.toNat_natCast,c2,c3]
  rw [hE]
  refine zC ((wJ v qn kn q y c2 c3).mono (fun z hz=> ?_))
  subst hz
  refine ff rfl ?_
  simp only [zJ c2,Option.bind_some]
  refine zC ((show Wp _ (fun s:Bool×List (Ty.El zW)=>s.1=zR4 rt q x y∧s.2=g) from ?_).mono (fun s hs'=> ?_))
  ·unfold zR4
   refine zD (fun h1=> ?_) (fun h1=>zA ⟨by rw [h1];rfl,rfl⟩)
   rw [h1]
   refine zC ((zB9 rt _ _ hsm hnb).mono (fun b hb=> ?_))
   subst hb
   refine zD (fun h2=> ?_) (fun h2=>zA ⟨by rw [h2];rfl,rfl⟩)
   rw [h2]
   refine zC ((zB9 q _ _ (hs.sm q hqm) (hv.nb q hqm)).mono (fun c hc=>zA ⟨?_,rfl⟩))
   rw [hc];rfl
  ·obtain ⟨s1,s2⟩:=s
   obtain ⟨k1,k2⟩:=hs'
   simp only at k1 k2
   subst k2
   refine zD (fun hb=> ?_) (fun hb=>zA ?_)
   ·have hb:s1=true:=hb
    rw [←k1,hb]
    exact zC (vK (by simp only [List.length_singleton];omega) (zA rfl))
   ·have hb:s1=false:=hb
    rw [←k1,hb]
    exact (List.append_nil s2).symm
 ·rw [hg,List.take_length,hns];rfl
theorem zEr (v:Ty.El zR) (hv:zOZ v):Wp (uZ (v,())) (fun l=>l=zMy v):=by
 unfold uZ
 dsimp only
 have hs:=hv.s
 have hrs:=hs.rs
 refine zC ((uT (xs:=v.1.1) (by omega) (fun i (g:List (Ty.El zW))=>g=(List.range i).flatMap (zGj v)) rfl ?_ (Q:=fun g=>g=zMy v) (fun g hg=>hg)).mono (fun g hg=>zA hg))
 intro r rt g hr hg
 have hrl:=(List.getElem?_eq_some_iff.1 hr).1
 have hgl:g.length≤r*7200:=by
  have h2:=uD (xs:=List.range r) (f:=zGj v) (k:=7200) (fun j _=>zR2 hs j)
  rw [List.length_range] at h2
  rw [hg];exact h2
 have hsm:=hs.sm rt (List.mem_of_getElem? hr)
 have hil:rt.2.2.1.length≤20:=hsm.i1
 have yX:(List.range (r+1)).flatMap (zGj v)=g++(List.range rt.2.2.1.length).flatMap (zEs v r rt):=by
  rw [List.range_succ,List.flatMap_append, ←hg]
  have:zGj v r=(List.range rt.2.2.1.length).flatMap (zEs v r rt):=by unfold zGj;rw [hr]
  simp [this]
 rw [yX]
 simp only [zJ hr,Option.bind_some]
 refine j7 (fun s:Int×List (Ty.El zW)=> ∃i:Nat,s.1=(i:Int)∧i≤rt.2.2.1.length∧s.2=g++(List.range i).flatMap (zEs v r rt)) (fun s=>((rt.2.2.1.length:Int) -s.1).toNat) ⟨0,rfl,Nat.zero_le _,by simp⟩ ?_
 rintro ⟨s,g'⟩ ⟨i,hi,hil2,hg'⟩
 simp only at hi hg'
 subst hi
 refine zI (fun h=> ?_) (fun h=>zA (e2r ?_))
 ·have h:(i:Int)< (rt.2.2.1.length:Int):=h
  obtain ⟨x,hx⟩: ∃x,rt.2.2.1[i]? =some x:=⟨_,List.getElem?_eq_getElem (by omega)⟩
  have hg'l:g'.length≤r*7200+i*360:=by
   have h2:=uD (xs:=List.range i) (f:=zEs v r rt) (k:=360) (fun j _=>zGI hs r rt j)
   rw [List.length_range] at h2
   rw [hg',List.length_append]
   omega
  have hsl:=zGI hs r rt i
  refine zC ((xJ v hv r i rt x hr hx).mono (fun l hl=> ?_))
  refine zC (vK (by simp only [hl];omega) (zA (e2l ⟨⟨i+1,?_,by omega,?_⟩,?_⟩)))
  ·simp only;rw [zG (by omega) (by omega)];omega
  ·rw [hl,hg',List.range_succ,List.flatMap_append,List.append_assoc]
   simp
  ·simp only;rw [zG (by omega) (by omega)];omega
 ·have h: ¬(i:Int)< (rt.2.2.1.length:Int):=h
  have:i=rt.2.2.1.length:=by omega
  subst this
  exact hg'
end Go.Ve

namespace Go.Ve
open Go
set_option maxRecDepth 1000000
set_option maxHeartbeats 4000000
theorem zSu {v:Ty.El zR} {x:Ty.El zW} :x∈zMy v↔ ∃ (r i:Nat) (rt:Ty.El zF) (z:Ty.El qG) (e:Ty.El zO) (q:Ty.El zF) (y:Ty.El qG),v.1.1[r]? =some rt∧rt.2.2.1[i]? =some z∧
  rt.2.2.2.2.2.2.2.2.2.2.1.1=true∧e∈zI8 v r i (fun e=>e.1 !=(r:Int))∧v.1.1[Int.toNat e.1]? =some q∧q.2.2.1[Int.toNat e.2.1]? =some y∧zR4 rt q z y=true∧x=(e.1,e.2.1,(r:Int),(i:Int),q.2.1==rt.2.1,()):=by
 unfold zMy
 rw [List.mem_flatMap]
 constructor
 ·rintro ⟨r,_,hr⟩
  unfold zGj at hr
  cases hrt:v.1.1[r]? with
  |none=>rw [hrt] at hr;cases hr
  |some rt=>
   rw [hrt] at hr
   obtain ⟨i,_,hi⟩:=List.mem_flatMap.1 hr
   unfold zEs at hi
   cases hz:rt.2.2.1[i]? with
   |none=>rw [hz] at hi;cases hi
   |some z=>
    rw [hz] at hi
    simp only at hi
    cases hon:rt.2.2.2.2.2.2.2.2.2.2.1.1 with
    |false=>rw [hon] at hi;cases hi
    |true=>
     rw [hon] at hi
     obtain ⟨e,he,hx⟩:=List.mem_filterMap.1 hi
     unfold zR3 at hx
     cases hq:v.1.1[Int.toNat e.1]? with
     |none=>rw [hq] at hx;cases hx
     |some q=>
      rw [hq] at hx
      simp only at hx
      cases hy:q.2.2.1[Int.toNat e.2.1]? with
      |none=>rw [hy] at hx;cases hx
      |some y=>
       rw [hy] at hx
       simp only at hx
       cases hb:zR4 rt q z y with
       |false=>rw [hb] at hx;cases hx
       |true=>
        rw [hb] at hx
        exact ⟨r,i,rt,z,e,q,y,hrt,hz,hon,he,hq,hy,hb,(Option.some.inj hx).symm⟩
 ·rintro ⟨r,i,rt,z,e,q,y,hrt,hz,hon,he,hq,hy,hb,rfl⟩
  refine ⟨r,List.mem_range.2 (List.getElem?_eq_some_iff.1 hrt).1,?_⟩
  unfold zGj
  rw [hrt]
  refine List.mem_flatMap.2 ⟨i,List.mem_range.2 (List.getElem?_eq_some_iff.1 hz).1,?_⟩
  unfold zEs
  rw [hz]
  simp only [hon,cond_true]
  refine List.mem_filterMap.2 ⟨e,he,?_⟩
  unfold zR3
  rw [hq]
  simp only [hy,hb,cond_true]
end Go.Ve

namespace Go.Ve
open Go
set_option maxRecDepth 1000000
set_option maxHeartbeats 4000000
def lwB (p q:Ty.El zH):Bool:=decide (q.2.1<p.2.1)&&(decide (q.2.1≤p.2.1)&&zCg q p.1)
theorem xK (p q:Ty.El zH):jN (p,q,())=some (lwB p q):=by
 refine j2 ?_
 unfold jN lwB
 dsimp only
 refine zC (zI (fun h=> ?_) (fun h=>zA (zA ?_)))
 ·have h:q.2.1<p.2.1:=h
  refine zC (z7 (zEK _ _) (zA (zA ?_)))
  rw [decide_eq_true h];rfl
 ·have h: ¬q.2.1<p.2.1:=h
  rw [decide_eq_false h];rfl
def zSG (q:Ty.El zF) (p:Ty.El zH):Bool:=q.2.2.2.2.2.2.2.2.2.2.1.2.2.2.2.2.1.any (fun g:Ty.El jQ=>g.2.1&&lwB p g.1)
theorem zWU {q:Ty.El zF} {p:Ty.El zH} (hr:SmR q):Wp (k9 (q,p,())) (fun b=>b=zSG q p):=by
 have h20:q.2.2.2.2.2.2.2.2.2.2.1.2.2.2.2.2.1.length≤20:=hr.i12
 unfold k9 zSG
 dsimp only
 refine zA5 (xs:=q.2.2.2.2.2.2.2.2.2.2.1.2.2.2.2.2.1) (by omega) (fun i=> ∀j y,j<i→q.2.2.2.2.2.2.2.2.2.2.1.2.2.2.2.2.1[j]? =some y→(y.2.1&&lwB p y.1)=false) (fun j y hj=>by omega) ?_ (fun hj=>zA ?_)
 ·intro i x hx hj
  simp only [zJ hx,Option.bind_some]
  refine zC ((show Wp _ (fun s:Bool=>s=(x.2.1&&lwB p x.1)) from ?_).mono (fun s hs=> ?_))
  ·refine zD (fun h=>zC (z7 (xK _ _) (zA ?_))) (fun h=>zA ?_)
   ·rw [h];rfl
   ·rw [h];rfl
  ·refine zD (fun h=>zA (e2r (e2r ?_))) (fun h=>zA (e2l ⟨rfl,?_⟩))
   ·symm
    refine List.any_eq_true.2 ⟨x,List.mem_of_getElem? hx,?_⟩
    rw [←hs];exact h
   ·intro k z hk hz
    rcases Nat.lt_or_ge k i with h'|h'
    ·exact hj k z h' hz
    ·have:k=i:=by omega
     subst this
     rw [hx] at hz
     cases hz
     rw [←hs];exact h
 ·symm
  rw [List.any_eq_false]
  intro x hx
  obtain ⟨k,hk,rfl⟩:=List.getElem_of_mem hx
  rw [hj k _ hk (by simp [hk])]
  decide
def zGi (x:Ty.El zB) (m:Int):Ty.El zB:=(x.1,x.2.1,x.2.2.1,x.2.2.2.1,m,x.2.2.2.2.2)
def qAU (x y:Ty.El zB):Ty.El zB:=
 (x.1,(5:Int),(0:Int),(0:Int),y.2.2.2.2.1,(0:Int),y.2.2.2.2.2.2.1,y.2.2.2.2.2.2.2.1,x.2.2.2.2.2.2.2.2.1,(0:Int),(0:Int),[],false,())
def qAV (x y:Ty.El zB) (sy:Int) (k:Nat):Ty.El zB:=
 (x.1,(5:Int),(0:Int),(0:Int),y.2.2.2.2.1,(0:Int),y.2.2.2.2.2.2.1,(100:Int),List.replicate k sy++x.2.2.2.2.2.2.2.2.1,(0:Int),(0:Int),[],false,())
def zOo (q:Ty.El zF) (a:Int) (int:Bool) (x:Ty.El zB):Option (Ty.El zB):=
 bif (x.2.2.1==(4:Int)&&int)||zSG q x.1 then none else
 match zFC q.2.2.2.2.2.2.2.2.2.2.1.2.2.2.1 a with
 |none=>none
 |some nb=>bif int then (zEz q nb.2.2.2.1 x).map (qAU x) else
  match zEz q nb.2.2.2.1 (zGi x 0) with
  |none=>none
  |some y=>bif decide (1+zNK q nb.2.2.2.1 (zGi x 0)+(x.2.2.2.2.2.2.2.2.1.length:Int)>(64:Int)) then none else some (qAV x y q.2.1 (1+(zNK q nb.2.2.2.1 (zGi x 0)).toNat))
def qAr (m:Option (Ty.El zB)):Ty.El zB×Bool×Unit:=
 match m with
 |some z=>(z,true,())
 |none=>(zWS,false,())
theorem zLW {r:Ty.El zF} {nm:Ty.El .str} {x:Ty.El zB} {y:Ty.El zB×Bool×Unit} (h:y=match zEz r nm x with
  |some z=>(z,true,())
  |none=>(zWS,false,())):(y.2.1=false∧zEz r nm x=none)∨(y.2.1=true∧zEz r nm x=some y.1):=by
 cases hc:zEz r nm x with
 |none=>rw [hc] at h;exact .inl ⟨by rw [h],rfl⟩
 |some z=>rw [hc] at h;exact .inr ⟨by rw [h],by rw [h]⟩
theorem zVO (x:Ty.El zB) (m:Int):RtS x→RtS (zGi x m):=fun h=>⟨h.path,h.hops⟩
theorem zFk (v:Ty.El zR) (hv:zOZ v) (qn kn r i:Nat) (int:Bool) (q rt:Ty.El zF) (z:Ty.El qG) (hq:v.1.1[qn]? =some q) (hr:v.1.1[r]? =some rt) (hz:rt.2.2.1[i]? =some z) (hm:xZ q) (x:Ty.El zB) (hx:RtS x):
  Wp (x8 (v,((qn:Int),(kn:Int),(r:Int),(i:Int),int,()),x,())) (fun y=>y=qAr (zOo q z.2.1 int x)):=by
 unfold x8
 dsimp only
 have hs:=hv.s
 have hqs:=hs.sm q (List.mem_of_getElem? hq)
 have hql:=(List.getElem?_eq_some_iff.1 hq).1
 have q0: ¬((qn:Int)<0):=by omega
 have q1: ¬((qn:Int)≥(List.length v.1.1:Int)):=by omega
 refine zC ((wJ v r i rt z hr hz).mono (fun y0 hy0=> ?_))
 subst hy0
 refine zC ((show Wp _ (fun s:Bool=>s=false) from ?_).mono (fun s hs'=> ?_))
 ·exact ff rfl (zI (fun h=>absurd h q0) (fun _=>zA (decide_eq_false q1)))
 subst hs'
 refine ff rfl ?_
 simp only [zJ hq,Option.bind_some]
 refine zC ((show Wp _ (fun s:Bool=>s=((x.2.2.1==(4:Int)&&int)||zSG q x.1)) from ?_).mono (fun s hs'=> ?_))
 ·refine zD (fun h=>zD (fun h2=>zA ?_) (fun h2=>zC ((zWU hqs).mono (fun b hb=>zA ?_)))) (fun h=>zC ((zWU hqs).mono (fun b hb=>zA ?_)))
  ·have h2:int=true:=h2
   rw [h,h2];rfl
  ·have h2:int=false:=h2
   rw [h,h2,hb];rfl
  ·rw [h,hb];rfl
 subst hs'
 unfold zOo
 refine zD (fun h=>zA ?_) (fun h=> ?_)
 ·rw [h];rfl
 rw [h]
 refine zC ((kF q z.2.1 hqs).mono (fun y8 hy8=> ?_))
 cases hn:zFC q.2.2.2.2.2.2.2.2.2.2.1.2.2.2.1 z.2.1 with
 |none=>
  rw [hn] at hy8
  simp only at hy8
  subst hy8
  exact tt rfl (zA rfl)
 |some nb=>
  rw [hn] at hy8
  simp only at hy8
  subst hy8
  refine ff rfl ?_
  dsimp only
  cases int with
  |true=>
   refine zC (ff rfl (zA ?_))
   refine zC ((zBE q nb.2.2.2.1 x hqs hx).mono (fun y10 hy10=> ?_))
   rcases zLW hy10 with ⟨h1,h2⟩|⟨h1,h2⟩
   ·refine tt (by rw [h1];rfl) (zA ?_)
    simp only [cond_false,cond_true,h2];rfl
   ·refine ff (by rw [h1];rfl) (tt rfl (zC (z7 (zLR _ hx.path) (zA ?_))))
    simp only [cond_false,cond_true,h2];rfl
  |false=>
   refine zC (tt rfl (zA ?_))
   have hx':RtS (zGi x 0):=zVO x 0 hx
   refine zC ((zBE q nb.2.2.2.1 (zGi x 0) hqs hx').mono (fun y10 hy10=> ?_))
   rcases zLW hy10 with ⟨h1,h2⟩|⟨h1,h2⟩
   ·refine tt (by rw [h1];rfl) (zA ?_)
    simp only [cond_false,h2];rfl
   ·refine ff (by rw [h1];rfl) (ff rfl (zC ((zHV q nb.2.2.2.1 (zGi x 0) hqs).mono (fun y12 hy12=> ?_))))
    subst hy12
    have hpn:=zVl hm nb.2.2.2.1 (zGi x 0)
    have hpl:=hx.path
    have hpl:x.2.2.2.2.2.2.2.2.1.length≤1048576:=hpl
    simp only [cond_false,h2]
    generalize zNK q nb.2.2.2.1 (zGi x 0)=pn at hpn
    obtain ⟨k,rfl⟩:=Int.eq_ofNat_of_zero_le hpn.1
    rw [zG (x:=(1:Int)+(k:Int)) (by omega) (by omega)]
    have hw:IntKind.wrap IntKind.i64 ((1:Int)+(k:Int)+((List.length (zGi x 0).2.2.2.2.2.2.2.2.1:Nat):Int))=(1:Int)+(k:Int)+(x.2.2.2.2.2.2.2.2.1.length:Int):=by
     show IntKind.wrap IntKind.i64 ((1:Int)+(k:Int)+(x.2.2.2.2.2.2.2.2.1.length:Int))=_
     rw [zG (by omega) (by omega)]
    refine zI (fun h=>zA ?_) (fun h=> ?_)
    ·have h:(1:Int)+(k:Int)+(x.2.2.2.2.2.2.2.2.1.length:Int)>64:=by rw [←hw];exact h
     rw [decide_eq_true h];rfl
    ·have h: ¬(1:Int)+(k:Int)+(x.2.2.2.2.2.2.2.2.1.length:Int)>64:=by rw [←hw];exact h
     rw [decide_eq_false h]
     refine zC ((show Wp _ (fun s:Int×Int×Int×Int×Int×Int×Int×Int×Int×List Int×Int×Int×List (Ty.El qP)×Bool=>s=(x.1.1,x.1.2.1,(5:Int),(0:Int),(0:Int),y10.1.2.2.2.2.1,(0:Int),y10.1.2.2.2.2.2.2.1,(0:Int),List.replicate (1+k) q.2.1,(0:Int),(0:Int),[],false)) from ?_).mono (fun s hs'=> ?_))
     ·refine j7 (fun s:Int×Int×Int×Int×Int×Int×Int×Int×Int×Int×List Int×Int×Int×List (Ty.El qP)×Bool=> ∃j:Nat,j≤1+k∧s=((j:Int),x.1.1,x.1.2.1,(5:Int),(0:Int),(0:Int),y10.1.2.2.2.2.1,(0:Int),y10.1.2.2.2.2.2.2.1,(0:Int),List.replicate j q.2.1,(0:Int),(0:Int),[],false)) (fun s=>((1:Int)+(k:Int) -s.1).toNat) ⟨0,Nat.zero_le _,rfl⟩ ?_
      rintro s ⟨j,hj,rfl⟩
      refine zI (fun hlt=> ?_) (fun hge=>zA (e2r ?_))
      ·have hlt:(j:Int)< (1:Int)+(k:Int):=hlt
       refine zC (vK (by simp only [List.length_replicate,List.length_singleton];omega) (zA (e2l ⟨⟨j+1,by omega,?_⟩,?_⟩)))
       ·rw [zG (by omega) (by omega)]
        rw [List.replicate_succ']
        rfl
       ·simp only;rw [zG (by omega) (by omega)];omega
      ·have hge: ¬(j:Int)< (1:Int)+(k:Int):=hge
       have:j=1+k:=by omega
       subst this
       rfl
     ·subst hs'
      refine zC (vK (by simp only [List.length_replicate];show (2*(1+k+x.2.2.2.2.2.2.2.2.1.length)+1024)*8≤_;omega) (zA ?_))
      obtain ⟨⟨pa,pl,⟨⟩⟩,x2⟩:=x
      rfl
def qA4 (rt:Ty.El zF) (a:Int) (i:Int) (int:Bool) (m y:Ty.El zB):Ty.El zB:=
 (m.1,(5:Int),(bif int then (4:Int) else (3:Int)),(bif int then rt.2.2.2.2.2.2.2.2.2.2.1.2.2.1 else rt.2.2.2.2.2.2.2.2.2.2.1.2.1),y.2.2.2.2.1,(0:Int),y.2.2.2.2.2.2.1,y.2.2.2.2.2.2.2.1,m.2.2.2.2.2.2.2.2.1,a,(0:Int),[(i,a,())],false,())
def zQ0 (rt:Ty.El zF) (a:Int) (i:Int) (int:Bool) (m:Ty.El zB):Option (Ty.El zB):=
 bif m.2.2.2.2.2.2.2.2.1.any (fun x=>x==rt.2.1) then none else
 match zFC rt.2.2.2.2.2.2.2.2.2.2.1.2.2.2.1 a with
 |none=>none
 |some nb=>(zEz rt nb.2.2.1 m).map (qA4 rt a i int m)
theorem zFj (v:Ty.El zR) (hv:zOZ v) (qn kn r:Nat) (i:Int) (int:Bool) (q rt:Ty.El zF) (y:Ty.El qG) (hq:v.1.1[qn]? =some q) (hy:q.2.2.1[kn]? =some y) (hr:v.1.1[r]? =some rt) (m:Ty.El zB) (hx:RtS m):
  Wp (x7 (v,((qn:Int),(kn:Int),(r:Int),i,int,()),m,())) (fun z=>z=qAr (zQ0 rt y.2.1 i int m)):=by
 unfold x7
 dsimp only
 have hs:=hv.s
 have hrs:=hs.sm rt (List.mem_of_getElem? hr)
 have hrl:=(List.getElem?_eq_some_iff.1 hr).1
 have q0: ¬((r:Int)<0):=by omega
 have q1: ¬((r:Int)≥(List.length v.1.1:Int)):=by omega
 refine zC ((wJ v qn kn q y hq hy).mono (fun y0 hy0=> ?_))
 subst hy0
 refine zC ((show Wp _ (fun s:Bool=>s=false) from ?_).mono (fun s hs'=> ?_))
 ·exact ff rfl (zI (fun h=>absurd h q0) (fun _=>zA (decide_eq_false q1)))
 subst hs'
 refine ff rfl ?_
 simp only [zJ hr,Option.bind_some]
 refine zC ((zAU m.2.2.2.2.2.2.2.2.1 rt.2.1 hx.path).mono (fun b hb=> ?_))
 subst hb
 unfold zQ0
 refine zD (fun h=>zA ?_) (fun h=> ?_)
 ·rw [h];rfl
 rw [h]
 refine zC ((kF rt y.2.1 hrs).mono (fun y4 hy4=> ?_))
 cases hn:zFC rt.2.2.2.2.2.2.2.2.2.2.1.2.2.2.1 y.2.1 with
 |none=>
  rw [hn] at hy4
  simp only at hy4
  subst hy4
  exact tt rfl (zA rfl)
 |some nb=>
  rw [hn] at hy4
  simp only at hy4
  subst hy4
  refine ff rfl ?_
  dsimp only
  refine zC ((zBE rt nb.2.2.1 m hrs hx).mono (fun y5 hy5=> ?_))
  rcases zLW hy5 with ⟨h1,h2⟩|⟨h1,h2⟩
  ·refine tt (by rw [h1];rfl) (zA ?_)
   simp only [cond_false,h2];rfl
  ·refine ff (by rw [h1];rfl) (zC (z7 (zLR _ hx.path) ?_))
   simp only [cond_false,h2]
   cases int with
   |true=>exact zC (zA (zA rfl))
   |false=>exact zC (zA (zA rfl))
end Go.Ve

namespace Go.Ve
open Go
set_option maxRecDepth 1000000
set_option maxHeartbeats 4000000
theorem zSj {m:Option (Ty.El zB)} {y:Ty.El zB×Bool×Unit} (h:y=qAr m):(y.2.1=false∧m=none)∨(y.2.1=true∧m=some y.1):=by
 cases m with
 |none=>exact .inl ⟨by rw [h];rfl,rfl⟩
 |some z=>exact .inr ⟨by rw [h];rfl,by rw [h];rfl⟩
theorem zSR {q:Ty.El zF} {a:Int} {int:Bool} {x m:Ty.El zB} (hm:xZ q) (h:zOo q a int x=some m):
  ((x.2.2.1==(4:Int)&&int)=false∧zSG q x.1=false)∧((int=true∧m.2.2.2.2.2.2.2.2.1=x.2.2.2.2.2.2.2.2.1)∨(int=false∧ ∃k:Nat,k≤8∧m.2.2.2.2.2.2.2.2.1=List.replicate (1+k) q.2.1++x.2.2.2.2.2.2.2.2.1∧1+k+x.2.2.2.2.2.2.2.2.1.length≤64))∧m.2.2.2.2.2.2.2.2.2.2.2.1=[]:=by
 unfold zOo at h
 cases hh:(x.2.2.1==(4:Int)&&int)||zSG q x.1 with
 |true=>rw [hh] at h;cases h
 |false=>
  rw [hh] at h
  refine ⟨by simpa using hh,?_⟩
  simp only [cond_false] at h
  cases hn:zFC q.2.2.2.2.2.2.2.2.2.2.1.2.2.2.1 a with
  |none=>rw [hn] at h;cases h
  |some nb=>
   rw [hn] at h
   simp only at h
   cases int with
   |true=>
    simp only [cond_true] at h
    cases ha:zEz q nb.2.2.2.1 x with
    |none=>rw [ha] at h;cases h
    |some y=>
     rw [ha] at h
     have h:=(Option.some.inj h).symm
     subst h
     exact ⟨.inl ⟨rfl,rfl⟩,rfl⟩
   |false=>
    simp only [cond_false] at h
    cases ha:zEz q nb.2.2.2.1 (zGi x 0) with
    |none=>rw [ha] at h;cases h
    |some y=>
     rw [ha] at h
     simp only at h
     have hpn:=zVl hm nb.2.2.2.1 (zGi x 0)
     generalize zNK q nb.2.2.2.1 (zGi x 0)=pn at hpn h
     obtain ⟨k,rfl⟩:=Int.eq_ofNat_of_zero_le hpn.1
     cases hd:decide ((1:Int)+(k:Int)+(x.2.2.2.2.2.2.2.2.1.length:Int)>(64:Int)) with
     |true=>rw [hd] at h;cases h
     |false=>
      rw [hd] at h
      have h:=(Option.some.inj h).symm
      subst h
      have hd:=of_decide_eq_false hd
      refine ⟨.inr ⟨rfl,k,by omega,?_,by omega⟩,rfl⟩
      simp only [Int.toNat_natCast]
      rfl
end Go.Ve

namespace Go.Ve
open Go
set_option maxRecDepth 1000000
set_option maxHeartbeats 4000000
def zGM (v:Ty.El zR) (t:List (Ty.El zB)) (s:Ty.El zW):List (Ty.El zB):=
 match v.1.1[Int.toNat s.1]?,v.1.1[Int.toNat s.2.2.1]? with
 |some q,some rt=>match q.2.2.1[Int.toNat s.2.1]?,rt.2.2.1[Int.toNat s.2.2.2.1]? with
  |some y,some z=>t.filterMap (fun x=>(zOo q z.2.1 s.2.2.2.2.1 x).bind (zQ0 rt y.2.1 s.2.2.2.1 s.2.2.2.2.1))
  |_,_=>[]
 |_,_=>[]
def zGk (s:List (Ty.El zT)) (k:Int):List (Ty.El zB):=
 match s[Int.toNat k]? with
 |some t=>t.2.2.1
 |none=>[]
def zDF (v:Ty.El zR) (s:List (Ty.El zT)) (r:Nat):List (Ty.El zB):=(zGj v r).flatMap (fun x=>zGM v (zGk s x.1) x)
theorem zY3 {v:Ty.El zR} {r:Nat} {x:Ty.El zW} (h:x∈zGj v r):x.2.2.1=(r:Int):=by
 unfold zGj at h
 split at h
 ·rename_i rt hr
  obtain ⟨i,_,h⟩:=List.mem_flatMap.1 h
  unfold zEs at h
  split at h
  ·rename_i z hz
   cases hb:rt.2.2.2.2.2.2.2.2.2.2.1.1 with
   |false=>rw [hb] at h;cases h
   |true=>
    rw [hb] at h
    simp only [cond_true] at h
    obtain ⟨e,_,h⟩:=List.mem_filterMap.1 h
    unfold zR3 at h
    split at h
    ·rename_i q hq
     split at h
     ·rename_i y hy
      cases hs:zR4 rt q z y with
      |false=>rw [hs] at h;cases h
      |true=>
       rw [hs] at h
       simp only [cond_true,Option.some.injEq] at h
       rw [←h]
     ·cases h
    ·cases h
  ·cases h
 ·cases h
theorem zJ0 {v:Ty.El zR} {t:List (Ty.El zB)} {s:Ty.El zW} :(zGM v t s).length≤t.length:=by
 unfold zGM
 split
 ·split
  ·exact List.length_filterMap_le _ _
  ·exact Nat.zero_le _
 ·exact Nat.zero_le _
theorem zXr {v:Ty.El zR} (hv:zDa v) {s:List (Ty.El zT)} (h: ∀t,t∈s→t.2.2.1.length≤12) (r:Nat):(zDF v s r).length≤86400:=by
 have h1:=uD (xs:=zGj v r) (f:=fun x=>zGM v (zGk s x.1) x) (k:=12) (fun x _=>Nat.le_trans zJ0 (by
  unfold zGk
  split
  ·rename_i t ht
   exact h t (List.mem_of_getElem? ht)
  ·exact Nat.zero_le _))
 have h2:=zR2 hv r
 unfold zDF
 omega
end Go.Ve

namespace Go.Ve
open Go
set_option maxRecDepth 1000000
set_option maxHeartbeats 4000000
structure qAT (l:List (Ty.El qT)) (into least most:Int):Prop where
 len:l.length≤4
 at_: ∀d,d∈l→(1≤d.1∧d.1≤5)∧d.1≠into∧(least≤d.2.1∧d.2.1≤most)∧(0≤d.2.2.1∧d.2.2.1≤65535)
 one: ∀ (i j:Nat) x y,j<i→l[i]? =some x→l[j]? =some y→y.1≠x.1
theorem zIi (r:Ty.El zF) (l:List (Ty.El qT)) (into least most:Int) (hr:SmR r):Wp (jA (r,l,into,least,most,())) (fun e=>e=0→qAT l into least most):=by
 unfold jA
 dsimp only
 refine zI (fun _=>zA (fun h=>by cases h)) (fun h4=> ?_)
 have h4:l.length≤4:=by omega
 refine zA5 (by omega) (fun i=> ∀m x,m<i→l[m]? =some x→((1≤x.1∧x.1≤5)∧x.1≠into∧(least≤x.2.1∧x.2.1≤most)∧(0≤x.2.2.1∧x.2.2.1≤65535))∧ ∀j y,j<m→l[j]? =some y→y.1≠x.1) (fun m x hm=>by omega) ?_ (fun hj=>zA (fun _=>⟨h4,?_,fun i j x y hji hx hy=>(hj i x (List.getElem?_eq_some_iff.1 hx).1 hx).2 j y hji hy⟩))
 ·intro i x hx hj
  have hi:=(List.getElem?_eq_some_iff.1 hx).1
  simp only [zJ hx,Option.bind_some]
  refine qE (zC ((show Wp _ (fun s:Bool=>s=false→(1≤x.1∧x.1≤5)∧x.1≠into∧(least≤x.2.1∧x.2.1≤most)∧(0≤x.2.2.1∧x.2.2.1≤65535)) from ?_).mono (fun s hs=> ?_)))
  ·refine zC (z7 (zY _ _ _) (zD (fun _=>zA (fun h=>by cases h)) (fun q1=>zD (fun _=>zA (fun h=>by cases h)) (fun q2=> ?_))))
   refine zC (z7 (zY _ _ _) (zD (fun _=>zA (fun h=>by cases h)) (fun q3=> ?_)))
   refine zC (z7 (zY _ _ _) (zA (fun q4=>⟨by simpa using q1,by simpa using q2,by simpa using q3,by simpa using q4⟩)))
  refine zD (fun _=>zA (fun h=>by cases h)) (fun hs0=> ?_)
  have hx0:=hs hs0
  refine zC ((show Wp _ (fun _:Bool=>True) from ?_).mono (fun s _=> ?_))
  ·repeat' (first
    |exact zA trivial
    |refine zD (fun _=> ?_) (fun _=> ?_))
  refine zD (fun _=>zA (fun h=>by cases h)) (fun _=> ?_)
  refine zC ((show Wp _ (fun _:Bool=>True) from ?_).mono (fun s _=> ?_))
  ·exact zD (fun _=>zC ((x3 r _ hr).mono (fun k _=>zA trivial))) (fun _=>zA trivial)
  refine zD (fun _=>zA (fun h=>by cases h)) (fun _=> ?_)
  refine zBy (n:=i) (P:=fun j=> ∀y,l[j]? =some y→y.1≠x.1) (by omega) ?_ (fun hall=>e2l (zA (e2l ⟨rfl,?_⟩)))
  ·intro j hjl
   obtain ⟨y,hy⟩: ∃y,l[j]? =some y:=⟨_,List.getElem?_eq_getElem (by omega)⟩
   simp only [zJ hy,Option.bind_some]
   refine zD (fun _=>zA (fun h=>by cases h)) (fun hn=>zA (e2l ⟨rfl,?_⟩))
   intro z hz
   rw [hy] at hz
   cases hz
   simpa using hn
  ·intro m z hm hz
   rcases Nat.lt_or_ge m i with h'|h'
   ·exact hj m z h' hz
   ·have:m=i:=by omega
    subst this
    rw [hx] at hz
    cases hz
    exact ⟨hx0,fun j y hjm hy=>hall j hjm y hy⟩
 ·intro d hd
  obtain ⟨m,hm,rfl⟩:=List.getElem_of_mem hd
  exact (hj m _ hm (by simp [hm])).1
structure qBl (x:Ty.El tPV):Prop where
 nets: ∀p,p∈x.2.2.2.2.1→vB p=true
 aggs: ∀g,g∈x.2.2.2.2.2.1→vB g.1=true
 cond: ∀c,c∈x.2.2.2.2.2.2.1→vB c.1=true∧vB c.2.1=true
theorem zLS (x:Ty.El tPV) (h2:x.2.2.2.2.1.length≤20) (h3:x.2.2.2.2.2.1.length≤20) (h4:x.2.2.2.2.2.2.1.length≤20):Wp (vH (x,())) (fun e=>e=0→qBl x):=by
 unfold vH
 dsimp only
 refine zI (fun _=>zA (fun h=>by cases h)) (fun _=> ?_)
 refine zAb (P:=fun p:Ty.El zH=>vB p=true) (by omega) ?_ (fun hnets=> ?_)
 ·intro i p hp
  have hi:=(List.getElem?_eq_some_iff.1 hp).1
  simp only [zJ hp,Option.bind_some]
  refine qE (zC (z7 (wS _) (zD (fun _=>zA (fun h=>by cases h)) (fun q=> ?_))))
  refine zBy (n:=i) (P:=fun _=>True) (by omega) ?_ (fun _=>e2l (zA (e2l ⟨rfl,by simpa using q⟩)))
  intro j hj
  obtain ⟨y,hy⟩: ∃y,x.2.2.2.2.1[j]? =some y:=⟨_,List.getElem?_eq_getElem (by omega)⟩
  simp only [zJ hy,Option.bind_some]
  exact zD (fun _=>zA (fun h=>by cases h)) (fun _=>zA (e2l ⟨rfl,trivial⟩))
 refine zI (fun _=>zA (fun h=>by cases h)) (fun _=> ?_)
 refine zAb (P:=fun g:Ty.El jQ=>vB g.1=true) (by omega) ?_ (fun haggs=> ?_)
 ·intro i p hp
  have hi:=(List.getElem?_eq_some_iff.1 hp).1
  simp only [zJ hp,Option.bind_some]
  refine qE (zC (z7 (wS _) (zD (fun _=>zA (fun h=>by cases h)) (fun q=> ?_))))
  refine zBy (n:=i) (P:=fun _=>True) (by omega) ?_ (fun _=>e2l (zA (e2l ⟨rfl,by simpa using q⟩)))
  intro j hj
  obtain ⟨y,hy⟩: ∃y,x.2.2.2.2.2.1[j]? =some y:=⟨_,List.getElem?_eq_getElem (by omega)⟩
  simp only [zJ hy,Option.bind_some]
  exact zD (fun _=>zA (fun h=>by cases h)) (fun _=>zA (e2l ⟨rfl,trivial⟩))
 refine zI (fun _=>zA (fun h=>by cases h)) (fun _=> ?_)
 refine zAb (P:=fun c:Ty.El zBb=>vB c.1=true∧vB c.2.1=true) (by omega) ?_ (fun hcond=>zA (fun _=>⟨hnets,haggs,hcond⟩))
 intro i p hp
 have hi:=(List.getElem?_eq_some_iff.1 hp).1
 simp only [zJ hp,Option.bind_some]
 refine qE (zC ((show Wp _ (fun s:Bool=>s=false→vB p.1=true∧vB p.2.1=true) from ?_).mono (fun s hs=> ?_)))
 ·exact zC (z7 (wS _) (zD (fun _=>zA (fun h=>by cases h)) (fun q=>zC (z7 (wS _) (zA (fun q2=>⟨by simpa using q,by simpa using q2⟩))))))
 refine zD (fun _=>zA (fun h=>by cases h)) (fun hs0=>zD (fun _=>zA (fun h=>by cases h)) (fun _=> ?_))
 refine zBy (n:=i) (P:=fun _=>True) (by omega) ?_ (fun _=>e2l (zA (e2l ⟨rfl,hs hs0⟩)))
 intro j hj
 obtain ⟨y,hy⟩: ∃y,x.2.2.2.2.2.2.1[j]? =some y:=⟨_,List.getElem?_eq_getElem (by omega)⟩
 simp only [zJ hy,Option.bind_some]
 exact zD (fun _=>zA (fun h=>by cases h)) (fun _=>zA (e2l ⟨rfl,trivial⟩))
structure PvC (r:Ty.El zF):Prop where
 sys:1≤r.2.1∧r.2.1≤65535
 ext:1≤r.2.2.2.2.2.2.2.2.2.2.1.2.1∧r.2.2.2.2.2.2.2.2.2.2.1.2.1≤255
 int:1≤r.2.2.2.2.2.2.2.2.2.2.1.2.2.1∧r.2.2.2.2.2.2.2.2.2.2.1.2.2.1≤255
 org:qBl r.2.2.2.2.2.2.2.2.2.2.1
 red:qAT r.2.2.2.2.2.2.2.2.2.2.1.2.2.2.2.2.2.2.1 5 0 16777215
theorem zMZ (r:Ty.El zF) (hr:SmR r) (hon:r.2.2.2.2.2.2.2.2.2.2.1.1=true) (hasn:0≤r.2.1∧r.2.1≤65535):Wp (j9 (r,())) (fun e=>e=0→PvC r):=by
 unfold j9
 dsimp only
 have h2:r.2.2.2.2.2.2.2.2.2.2.1.2.2.2.2.1.length≤20:=hr.i11
 have h3:r.2.2.2.2.2.2.2.2.2.2.1.2.2.2.2.2.1.length≤20:=hr.i12
 have h4:r.2.2.2.2.2.2.2.2.2.2.1.2.2.2.2.2.2.1.length≤20:=hr.i13
 rw [hon]
 refine zD (fun h=>by cases h) (fun _=> ?_)
 refine zC ((show Wp _ (fun s:Bool=>s=false→r.2.1≠0∧(1≤r.2.2.2.2.2.2.2.2.2.2.1.2.1∧r.2.2.2.2.2.2.2.2.2.2.1.2.1≤255)∧(1≤r.2.2.2.2.2.2.2.2.2.2.1.2.2.1∧r.2.2.2.2.2.2.2.2.2.2.1.2.2.1≤255)) from ?_).mono (fun s hs=> ?_))
 ·refine zD (fun _=>zA (fun h=>by cases h)) (fun q1=> ?_)
  refine zC (z7 (zY _ _ _) (zD (fun _=>zA (fun h=>by cases h)) (fun q2=> ?_)))
  refine zC (z7 (zY _ _ _) (zA (fun q3=>⟨by simpa using q1,by simpa using q2,by simpa using q3⟩)))
 refine zD (fun _=>zA (fun h=>by cases h)) (fun hs0=> ?_)
 obtain ⟨g1,g2,g3⟩:=hs hs0
 refine zC ((zIu r hr).mono (fun y6 _=> ?_))
 have ne: ∀y:Int,(y !=(0:Int))=true→y=0→PvC r:=fun y h1 h2=>by rw [h2] at h1;cases h1
 refine zD (fun hne=>zA (fun h=>ne _ hne h)) (fun _=> ?_)
 refine zC ((zLS _ h2 h3 h4).mono (fun y7 hy7=> ?_))
 refine zD (fun hne=>zA (fun h=>ne _ hne h)) (fun h7=> ?_)
 have horg:=hy7 (by simpa using h7)
 refine zC ((zIi r _ _ _ _ hr).mono (fun y8 hy8=>zA (fun h=> ?_)))
 have u: ∀a:Int,0≤a→a≠0→1≤a:=fun a h0 h1=>by omega
 exact ⟨⟨u _ hasn.1 g1,hasn.2⟩,g2,g3,horg,hy8 h⟩
theorem zTY {r:Ty.El zF} (h:zWQ r) (hs:SmR r) (hon:r.2.2.2.2.2.2.2.2.2.2.1.1=true):PvC r:=by
 obtain ⟨e,h1,h2⟩:=zMZ r hs hon h.asn
 have:=h.pv
 rw [this] at h1
 exact h2 (Option.some.inj h1).symm
end Go.Ve

namespace Go.Ve
open Go
set_option maxRecDepth 1000000
set_option maxHeartbeats 4000000
def zNF (r:Ty.El zF) (d:Ty.El qT) (x:Ty.El zB):Option (Int×Int):=
 bif d.2.2.2.1==({ data:= #[] } :ByteArray) then some (d.2.1,d.2.2.1) else
 (zFp r d.2.2.2.1 x).map (fun c=>((bif c.2.2.2.1==(-1:Int) then d.2.1 else c.2.2.2.1),(bif c.2.2.2.2.1==(-1:Int) then d.2.2.1 else c.2.2.2.2.1)))
def zLn (r:Ty.El zF) (p:Ty.El zH) (m t:Int):Ty.El zB:=
 (p,(5:Int),(1:Int),r.2.2.2.2.2.2.2.2.2.2.1.2.2.1,m,(0:Int),t,(100:Int),[],(0:Int),(0:Int),[],false,())
def zZc (r:Ty.El zF) (d:Ty.El qT) (x:Ty.El zB):Option (Ty.El zB):=(zNF r d x).map (fun mt=>zLn r x.1 mt.1 mt.2)
def zSn (x:Ty.El zB):Bool:=x.2.2.2.2.2.2.2.2.2.2.2.2.1&&(x.2.1 !=(2:Int))
def zXq (r:Ty.El zF) (l:List (Ty.El qT)) (x:Ty.El zB):Option (Ty.El zB):=
 bif zSn x then none else (l.find? (fun d=>d.1==x.2.1)).bind (fun d=>zZc r d x)
def qAl (r:Ty.El zF) (l:List (Ty.El qT)) (rib:List (Ty.El zB)):List (Ty.El zB):=rib.filterMap (zXq r l)
theorem zMu (r:Ty.El zF) (d:Ty.El qT) (x:Ty.El zB) (hr:SmR r):Wp (zFl (r,d,x,())) (fun y=>(y.2.2.1=false∧zNF r d x=none)∨(y.2.2.1=true∧zNF r d x=some (y.1,y.2.1))):=by
 unfold zFl
 dsimp only
 refine zD (fun h=>zA (.inr ⟨rfl,by unfold zNF;rw [h];rfl⟩)) (fun h=> ?_)
 have hT:zNF r d x=(zFp r d.2.2.2.1 x).map (fun c=>((bif c.2.2.2.1==(-1:Int) then d.2.1 else c.2.2.2.1),(bif c.2.2.2.2.1==(-1:Int) then d.2.2.1 else c.2.2.2.2.1))):=by unfold zNF;rw [h];rfl
 rw [hT]
 refine zC ((zAO r _ hr).mono (fun k hk=> ?_))
 subst hk
 refine zC ((zDA r _ x hr).mono (fun k hk=> ?_))
 rcases hk with ⟨h1,h2⟩|⟨i,j,m,c,rfl,h2,h3,h4,h5⟩
 ·have hp:zFp r d.2.2.2.1 x=none:=by unfold zFp;rw [h2]
  rw [hp]
  refine zC (Wp.mono (Q:=fun b=>b=true) ?_ (fun b hb=> ?_))
  ·exact zI (fun _=>zA rfl) (fun _=>zI (fun _=>zA rfl) (fun _=>zI (fun _=>zA rfl) (fun h=>absurd h1 h)))
  ·subst hb
   exact tt rfl (zA (.inl ⟨rfl,rfl⟩))
 ·rw [h2]
  have hj:=(List.getElem?_eq_some_iff.1 h3).1
  have hi:=(List.getElem?_eq_some_iff.1 h4).1
  refine zC (Wp.mono (Q:=fun b=>b=false) ?_ (fun b hb=> ?_))
  ·refine zI (fun h=>absurd h (by omega)) (fun _=>zI (fun h=>absurd h (by omega)) (fun _=>zI (fun h=>absurd h (by omega)) (fun _=> ?_)))
   simp only [zJ h3,Option.bind_some]
   exact zA (decide_eq_false (by omega))
  ·subst hb
   refine ff rfl ?_
   simp only [zJ h3,zJ h4,Option.bind_some]
   refine zC (Wp.mono (Q:=fun s=>s=(bif c.2.2.2.1==(-1:Int) then d.2.1 else c.2.2.2.1)) ?_ (fun s9 h9=> ?_))
   ·refine zD (fun h=>zA ?_) (fun h=>zA ?_)
    ·have h:(c.2.2.2.1==(-1:Int))=false:=by simpa [bne] using h
     rw [h];rfl
    ·have h:(c.2.2.2.1==(-1:Int))=true:=by simpa [bne] using h
     rw [h];rfl
   refine zC (Wp.mono (Q:=fun s=>s=(bif c.2.2.2.2.1==(-1:Int) then d.2.2.1 else c.2.2.2.2.1)) ?_ (fun s10 h10=> ?_))
   ·refine zD (fun h=>zA ?_) (fun h=>zA ?_)
    ·have h:(c.2.2.2.2.1==(-1:Int))=false:=by simpa [bne] using h
     rw [h];rfl
    ·have h:(c.2.2.2.2.1==(-1:Int))=true:=by simpa [bne] using h
     rw [h];rfl
   refine zA ?_
   subst h9
   subst h10
   unfold zFp
   rw [h5]
   cases hc:c.1 with
   |false=>exact .inl ⟨rfl,by simp [hc]⟩
   |true=>exact .inr ⟨rfl,by simp [hc]⟩
theorem zMv (r:Ty.El zF) (d:Ty.El qT) (p:Ty.El zH) (m t:Int):
  zIW (p,(5:Int),(0:Int),(0:Int),m,(0:Int),t,(0:Int),[],(0:Int),(0:Int),[],false,()) (r,d,())=some (zLn r p m t,true):=rfl
theorem zWV {γ:Type} {l:List (Ty.El qT)} {p:Ty.El qT→Bool} {acc:γ} {Q:Int×γ→Prop} (hl:l.length<4611686018427387904) (h:Q (xE p l,acc)):
  Wp (zN (fun (s : Int × γ × Int) => bif decide (s.1 < (l.length : Int)) then
      Option.bind (idx l s.1) fun (y:Ty.El qT)=>bif p y then some (Sum.inr (s.1,s.2.1)) else some (Sum.inl (IntKind.wrap IntKind.i64 (s.1+(1:Int)),s.2))
   else some (Sum.inr (s.2.2,s.2.1))) ((0:Int),acc,(-1:Int))) Q:=by
 refine j7 (fun (s:Int×γ×Int)=> ∃i:Nat,s=((i:Int),acc,(-1:Int))∧i≤l.length∧ ∀j y,j<i→l[j]? =some y→p y=false) (fun s=>((l.length:Int) -s.1).toNat) ⟨0,rfl,Nat.zero_le _,fun j y hj=>by omega⟩ ?_
 rintro s ⟨i,rfl,hi,hj⟩
 refine zI (fun hlt=> ?_) (fun hge=> ?_)
 ·have hlt:(i:Int)< (l.length:Int):=hlt
  obtain ⟨y,hy⟩: ∃y,l[i]? =some y:=⟨_,List.getElem?_eq_getElem (by omega)⟩
  simp only [zJ hy,Option.bind_some]
  refine zD (fun hp=>zA (e2r ?_)) (fun hp=>zA (e2l ⟨⟨i+1,?_,by omega,?_⟩,?_⟩))
  ·have:xE p l=(i:Int):=by
    rcases zCr p l with ⟨h1,h2⟩|⟨k,x,h1,h2,h3,h4⟩
    ·rw [h2 y (List.mem_of_getElem? hy)] at hp;cases hp
    ·have:k=i:=by
      rcases Nat.lt_trichotomy k i with h'|h'|h'
      ·rw [hj k x h' h2] at h3;cases h3
      ·exact h'
      ·rw [h4 i y h' hy] at hp;cases hp
     rw [h1,this]
   rw [←this];exact h
  ·rw [zG (by omega) (by omega)];rfl
  ·intro j z hjl hz
   rcases Nat.lt_or_ge j i with h'|h'
   ·exact hj j z h' hz
   ·have:j=i:=by omega
    subst this
    rw [hy] at hz
    cases hz
    exact hp
  ·simp only
   rw [zG (by omega) (by omega)]
   omega
 ·have hge: ¬(i:Int)< (l.length:Int):=hge
  have:xE p l= -1:=zLv (fun x hx=>by
   obtain ⟨k,hk,rfl⟩:=List.getElem_of_mem hx
   exact hj k _ (by omega) (by simp [hk]))
  exact zA (e2r (by rw [←this];exact h))
theorem zGg (r:Ty.El zF) (l:List (Ty.El qT)) (rib:List (Ty.El zB)) (hr:SmR r) (hl:l.length≤20) (hb:rib.length≤1048576):
  Wp (zAy (r,l,rib,(5:Int),())) (fun o=>o=qAl r l rib):=by
 unfold zAy
 dsimp only
 refine zC (uT (xs:=rib) (by omega) (fun j (g:List (Ty.El zB))=>g=(rib.take j).filterMap (zXq r l)) (by simp) ?_ (fun g hg=>zA (by rw [hg,List.take_length];rfl)))
 intro j x g hx hg
 have hgl:g.length≤1048576:=by rw [hg];exact Nat.le_trans (List.length_filterMap_le _ _) (Nat.le_trans (List.length_take_le' _ _) hb)
 simp only [zJ hx,Option.bind_some]
 rw [kJ hx, ←hg]
 refine zC (zWV (l:=l) (p:=fun d=>d.1==x.2.1) (acc:=g) (by omega) ?_)
 unfold zXq
 rcases zHF (fun d:Ty.El qT=>d.1==x.2.1) l with ⟨h1,h2⟩|⟨i,d,h1,h2,h3⟩
 ·rw [h1,h2]
  refine zC (Wp.mono (Q:=fun s=>s=(true,g)) (zI (fun _=>zA rfl) (fun h=>absurd (show (-1:Int)<0 by decide) h)) (fun s hs=> ?_))
  subst hs
  refine tt rfl (zA ?_)
  cases zSn x<;>simp
 ·rw [h1,h3]
  refine zC (Wp.mono (Q:=fun s=>s=(zSn x,g)) (zI (fun h=>absurd h (by simp only;omega)) (fun _=>zD (fun h=>zA ?_) (fun h=>zA ?_))) (fun s hs=> ?_))
  ·unfold zSn;rw [h];rfl
  ·unfold zSn;rw [h];rfl
  subst hs
  refine zD (fun h=>zA ?_) (fun h=> ?_)
  ·have h:zSn x=true:=h
   rw [h];simp
  ·have h:zSn x=false:=h
   rw [h]
   simp only [zJ h2,Option.bind_some,cond_false]
   refine zC ((zMu r d x hr).mono (fun y hy=> ?_))
   rcases hy with ⟨h4,h5⟩|⟨h4,h5⟩
   ·refine tt (by rw [h4];rfl) (zA ?_)
    unfold zZc
    rw [h5];simp
   ·refine ff (by rw [h4];rfl) ?_
    refine zC (z7 (zMv r d x.1 y.1 y.2.1) (tt rfl (zC (vK (by simp only [List.length_singleton];omega) (zA ?_)))))
    unfold zZc
    rw [h5];simp
end Go.Ve

namespace Go.Ve
open Go
set_option maxRecDepth 1000000
set_option maxHeartbeats 4000000
theorem zYQ {α ρ:Type} {xs:List α} {p:Nat→α→Bool} {hv:ρ} {body:Int→Option (Int ⊕ (Unit ⊕ ρ))} {K:Unit→Option ρ} {Q:ρ→Prop} (hl:xs.length<4611686018427387904)
  (step: ∀ (i:Nat) x,xs[i]? =some x→Wp (body (i:Int)) (fun o=>o=(bif p i x then Sum.inr (Sum.inr hv) else Sum.inl (IntKind.wrap IntKind.i64 ((i:Int)+1)))))
  (hit:(∃ (i:Nat) (x:α),xs[i]? =some x∧p i x=true)→Q hv) (miss:(∀ (i:Nat) x,xs[i]? =some x→p i x=false)→Wp (K ()) Q):
  Wp (q8 (zN (fun s:Int=>bif decide (s< (xs.length:Int)) then body s else some (Sum.inr (Sum.inl ()))) (0:Int)) K) Q:=by
 refine zA5 hl (fun i=> ∀j y,j<i→xs[j]? =some y→p j y=false) (fun j y hj=>by omega) ?_ (fun h=>miss (fun i x hx=>h i x (List.getElem?_eq_some_iff.1 hx).1 hx))
 intro i x hx hj
 refine (step i x hx).mono (fun o ho=> ?_)
 cases hp:p i x with
 |true=>
  rw [hp] at ho
  rw [ho]
  exact e2r (e2r (hit ⟨i,x,hx,hp⟩))
 |false=>
  rw [hp] at ho
  rw [ho]
  refine e2l ⟨rfl,?_⟩
  intro j y hjl hy
  rcases Nat.lt_or_ge j i with h'|h'
  ·exact hj j y h' hy
  ·have:j=i:=by omega
   subst this
   rw [hx] at hy
   cases hy
   exact hp
theorem zOl {α:Type} (p:α→Bool) (l:List α):decide (xE p l≥(0:Int))=l.any p:=by
 rcases zCr p l with ⟨h1,h2⟩|⟨i,x,h1,h2,h3,_⟩
 ·rw [h1]
  symm
  rw [show decide ((-1:Int)≥0)=false from rfl,List.any_eq_false]
  intro x hx
  rw [h2 x hx];decide
 ·rw [h1]
  have:l.any p=true:=List.any_eq_true.2 ⟨x,List.mem_of_getElem? h2,h3⟩
  rw [this]
  exact decide_eq_true (by omega)
def zV2 (v:Ty.El zR) (r:Int) (rt:Ty.El zF) (p:Ty.El zH):Bool:=
 (List.range rt.2.2.1.length).any (fun i=>match rt.2.2.1[i]? with
  |some x=>upB v r i&&vF (zAi x.2.1 x.2.2.1) p
  |none=>false)
theorem zSh {v:Ty.El zR} {r:Int} {rt:Ty.El zF} {p:Ty.El zH} :zV2 v r rt p=true↔ ∃ (i:Nat) (x:Ty.El qG),rt.2.2.1[i]? =some x∧(upB v r i&&vF (zAi x.2.1 x.2.2.1) p)=true:=by
 unfold zV2
 rw [List.any_eq_true]
 constructor
 ·rintro ⟨i,_,h⟩
  split at h
  ·rename_i x hx
   exact ⟨i,x,hx,h⟩
  ·cases h
 ·rintro ⟨i,x,hx,h⟩
  exact ⟨i,List.mem_range.2 (List.getElem?_eq_some_iff.1 hx).1,by rw [hx];exact h⟩
theorem zV1 {v:Ty.El zR} {r:Int} {rt:Ty.El zF} {p:Ty.El zH} (h: ∀ (i:Nat) x,rt.2.2.1[i]? =some x→(upB v r i&&vF (zAi x.2.1 x.2.2.1) p)=false):zV2 v r rt p=false:=by
 cases hb:zV2 v r rt p with
 |false=>rfl
 |true=>
  obtain ⟨i,x,hx,h1⟩:=zSh.1 hb
  rw [h i x hx] at h1;cases h1
theorem zEq (v:Ty.El zR) (r:Nat) (rt:Ty.El zF) (p:Ty.El zH) (hv:zDa v) (hr:v.1.1[r]? =some rt):Wp (uY (v,(r:Int),p,())) (fun b=>b=zV2 v r rt p):=by
 unfold uY
 dsimp only
 have hl:rt.2.2.1.length≤20:=(hv.sm rt (List.mem_of_getElem? hr)).i1
 simp only [zJ hr,Option.bind_some]
 refine zYQ (p:=fun i (x:Ty.El qG)=>upB v r i&&vF (zAi x.2.1 x.2.2.1) p) (by omega) ?_ (fun h=>(zSh.2 h).symm) (fun h=>zA (zV1 h).symm)
 intro i x hx
 simp only [zJ hx,Option.bind_some]
 refine zC (Wp.mono (Q:=fun s=>s=(upB v r i&&vF (zAi x.2.1 x.2.2.1) p)) ?_ (fun s hs=> ?_))
 ·refine zC ((zFh v r i hv).mono (fun b hb=> ?_))
  subst hb
  refine zD (fun h=>zC (z7 (zJQ _ _) (zA ?_))) (fun h=>zA ?_)
  ·rw [h];rfl
  ·rw [h];rfl
 ·subst hs
  exact zD (fun h=>zA (by rw [h];rfl)) (fun h=>zA (by rw [h];rfl))
theorem zCY (t:List (Ty.El zB)) (p:Ty.El zH) (hl:t.length<4611686018427387904):Wp (zCl (t,p,())) (fun k=>k=xE (fun x=>vF x.1 p) t):=by
 unfold zCl
 dsimp only
 refine zAs (p:=fun x:Ty.El zB=>vF x.1 p) hl ?_ rfl
 intro i x hx
 simp only [zJ hx,Option.bind_some]
 show (bif vF x.1 p then _ else _)=_
 cases vF x.1 p<;>rfl
theorem zIT (t:List (Ty.El zB)) (p:Ty.El zH) (hl:t.length<4611686018427387904):Wp (jY (t,(p,()),())) (fun b=>b=t.any (fun x=>vF x.1 p)):=by
 unfold jY
 dsimp only
 refine zC (Wp.mono (Q:=fun k=>k=xE (fun x=>vF x.1 p) t) ?_ (fun k hk=> ?_))
 ·unfold kH
  dsimp only
  refine zAs (p:=fun x:Ty.El zB=>vF x.1 p) hl ?_ rfl
  intro i x hx
  simp only [zJ hx,Option.bind_some]
  show (bif vF x.1 p then _ else _)=_
  cases vF x.1 p<;>rfl
 ·subst hk
  exact zA (zOl _ _)
theorem zIS (t:List (Ty.El zB)) (g:Ty.El jQ) (hl:t.length<4611686018427387904):Wp (jX (t,(g,()),())) (fun b=>b=t.any (fun x=>lwB x.1 g.1)):=by
 unfold jX
 dsimp only
 refine zC (Wp.mono (Q:=fun k=>k=xE (fun x=>lwB x.1 g.1) t) ?_ (fun k hk=> ?_))
 ·unfold kG
  dsimp only
  refine zAs (p:=fun x:Ty.El zB=>lwB x.1 g.1) hl ?_ rfl
  intro i x hx
  have hc:vT (x,g,())=some (lwB x.1 g.1):=by
   unfold vT
   dsimp only
   rw [show jN (x.1,g.1,())=some (lwB x.1 g.1) from xK _ _]
   rfl
  simp only [zJ hx,Option.bind_some]
  rw [show vT (x,g,())=some (lwB x.1 g.1) from hc]
  cases lwB x.1 g.1<;>rfl
 ·subst hk
  exact zA (zOl _ _)
def zZm (t:List (Ty.El zB)) (p:Ty.El zH):Bool:=
 match t.find? (fun x=>vF x.1 p) with
 |some x=>x.2.2.1==(3:Int)
 |none=>false
theorem qAa {t:List (Ty.El zB)} {p:Ty.El zH} :
  Wp (bif decide (xE (fun x=>vF x.1 p) t≥(0:Int)) then Option.bind (idx t (xE (fun x=>vF x.1 p) t)) fun (y3:Ty.El zB)=>some (y3.2.2.1==(3:Int)) else some false) (fun b=>b=zZm t p):=by
 unfold zZm
 rcases zHF (fun x:Ty.El zB=>vF x.1 p) t with ⟨h1,h2⟩|⟨i,x,h1,h2,h3⟩
 ·rw [h1,h2]
  exact ff rfl (zA rfl)
 ·rw [h1,h3]
  refine tt (decide_eq_true (by omega)) ?_
  simp only [zJ h2,Option.bind_some]
  exact zA rfl
noncomputable def zUe (v:Ty.El zR) (t:Ty.El zT) (r:Int) (rt:Ty.El zF) (p:Ty.El zH):Bool:=
 zV2 v r rt p||((rt.2.2.2.2.2.2.2.1.filterMap (act v t.2.2.2.1 r rt)).any (fun y=>vF y.1 p)||(t.1.any (fun x=>vF x.1 p)||zZm t.2.1 p))
structure zZT (t:Ty.El zT):Prop where
 ls:t.1.length≤1048576
 dv:t.2.1.length≤1048576
 pv:t.2.2.1.length≤1048576
 rib:t.2.2.2.1.length≤1048576
theorem zD0 (t:Ty.El zT) (p:Ty.El zH) (ht:zZT t):Wp (uA (t,p,())) (fun b=>b=(t.1.any (fun x=>vF x.1 p)||zZm t.2.1 p)):=by
 unfold uA
 dsimp only
 have h1:=ht.ls
 have h2:=ht.dv
 refine zC ((zCY t.1 p (by omega)).mono (fun k hk=> ?_))
 subst hk
 rw [zOl]
 refine zD (fun h=>zA (by rw [h];rfl)) (fun h=> ?_)
 rw [h]
 refine zC ((zCY t.2.1 p (by omega)).mono (fun k hk=> ?_))
 subst hk
 exact zC (qAa.mono (fun b hb=>zA (by rw [hb];rfl)))
def zWO (r:Ty.El zF) (p:Ty.El zH):Ty.El zB:=
 (p,(5:Int),(2:Int),r.2.2.2.2.2.2.2.2.2.2.1.2.2.1,(0:Int),(0:Int),(0:Int),(100:Int),[],(0:Int),(0:Int),[],true,())
noncomputable def zV6 (v:Ty.El zR) (t:Ty.El zT) (r:Int) (rt:Ty.El zF) (p:Ty.El zH):Option (Ty.El zB):=bif zUe v t r rt p then some (zLn rt p 0 0) else none
def zS6 (t:Ty.El zT) (rt:Ty.El zF) (c:Ty.El zBb):Option (Ty.El zB):=bif decide (xE (fun x=>vF x.1 c.2.1) t.2.2.2.1< (0:Int))==c.2.2.1 then some (zLn rt c.1 0 0) else none
def zUW (t:Ty.El zT) (rt:Ty.El zF) (g:Ty.El jQ):Option (Ty.El zB):=bif t.2.2.1.any (fun x=>lwB x.1 g.1) then some (zWO rt g.1) else none
noncomputable def kR (v:Ty.El zR) (t:Ty.El zT) (r:Int) (rt:Ty.El zF):List (Ty.El zB):=
 ((rt.2.2.2.2.2.2.2.2.2.2.1.2.2.2.2.1.filterMap (zV6 v t r rt)++rt.2.2.2.2.2.2.2.2.2.2.1.2.2.2.2.2.2.1.filterMap (zS6 t rt))++qAl rt rt.2.2.2.2.2.2.2.2.2.2.1.2.2.2.2.2.2.2.1 t.2.2.2.1)++rt.2.2.2.2.2.2.2.2.2.2.1.2.2.2.2.2.1.filterMap (zUW t rt)
theorem zSc (r:Ty.El zF) (l:List (Ty.El qT)) (rib:List (Ty.El zB)):(qAl r l rib).length≤rib.length:=List.length_filterMap_le _ _
theorem zI9 {v:Ty.El zR} {t:Ty.El zT} {r:Int} {rt:Ty.El zF} (hs:SmR rt):(kR v t r rt).length≤t.2.2.2.1.length+60:=by
 have h1:rt.2.2.2.2.2.2.2.2.2.2.1.2.2.2.2.1.length≤20:=hs.i11
 have h2:rt.2.2.2.2.2.2.2.2.2.2.1.2.2.2.2.2.1.length≤20:=hs.i12
 have h3:rt.2.2.2.2.2.2.2.2.2.2.1.2.2.2.2.2.2.1.length≤20:=hs.i13
 have a1:=List.length_filterMap_le (zV6 v t r rt) rt.2.2.2.2.2.2.2.2.2.2.1.2.2.2.2.1
 have a2:=List.length_filterMap_le (zS6 t rt) rt.2.2.2.2.2.2.2.2.2.2.1.2.2.2.2.2.2.1
 have a3:=List.length_filterMap_le (zUW t rt) rt.2.2.2.2.2.2.2.2.2.2.1.2.2.2.2.2.1
 have a4:=zSc rt rt.2.2.2.2.2.2.2.2.2.2.1.2.2.2.2.2.2.2.1 t.2.2.2.1
 unfold kR
 simp only [List.length_append]
 omega
theorem xU (v:Ty.El zR) (t:Ty.El zT) (r:Nat) (rt:Ty.El zF) (hv:zDa v) (hr:v.1.1[r]? =some rt) (ht:zZT t):
  Wp (w5 (v,t,(r:Int),())) (fun o=>o=bif rt.2.2.2.2.2.2.2.2.2.2.1.1 then kR v t r rt else []):=by
 unfold w5
 dsimp only
 have hrl:=(List.getElem?_eq_some_iff.1 hr).1
 have hs:=hv.sm rt (List.mem_of_getElem? hr)
 have b1:=ht.ls
 have b2:=ht.dv
 have b3:=ht.pv
 have b4:=ht.rib
 have n1:rt.2.2.2.2.2.2.2.2.2.2.1.2.2.2.2.1.length≤20:=hs.i11
 have n2:rt.2.2.2.2.2.2.2.2.2.2.1.2.2.2.2.2.1.length≤20:=hs.i12
 have n3:rt.2.2.2.2.2.2.2.2.2.2.1.2.2.2.2.2.2.1.length≤20:=hs.i13
 have n4:rt.2.2.2.2.2.2.2.2.2.2.1.2.2.2.2.2.2.2.1.length≤20:=hs.i14
 have n5:rt.2.2.2.2.2.2.2.1.length≤20:=hs.i6
 refine zC (Wp.mono (Q:=fun s=>s= !rt.2.2.2.2.2.2.2.2.2.2.1.1) ?_ (fun s hs2=> ?_))
 ·have q0: ¬((r:Int)<0):=by omega
  have q1: ¬((r:Int)≥(List.length v.1.1:Int)):=by omega
  refine zI (fun h=>absurd h q0) (fun _=>zI (fun h=>absurd h q1) (fun _=> ?_))
  simp only [zJ hr,Option.bind_some]
  exact zA rfl
 subst hs2
 cases hon:rt.2.2.2.2.2.2.2.2.2.2.1.1 with
 |false=>exact tt rfl (zA rfl)
 |true=>
  refine ff rfl ?_
  simp only [zJ hr,Option.bind_some,cond_true]
  refine zC ((zIM v t.2.2.2.1 r rt hv hr b4).mono (fun y4 h4=> ?_))
  have hy4:y4.length≤20:=by rw [h4];exact Nat.le_trans (List.length_filterMap_le _ _) n5
  refine zC (uT (xs:=rt.2.2.2.2.2.2.2.2.2.2.1.2.2.2.2.1) (by omega) (fun i (g:List (Ty.El zB))=>g=(rt.2.2.2.2.2.2.2.2.2.2.1.2.2.2.2.1.take i).filterMap (zV6 v t r rt)) (by simp) ?_ (fun s38 h38=> ?_))
  ·intro i p g hp hg
   have hgl:g.length≤20:=by rw [hg];exact Nat.le_trans (List.length_filterMap_le _ _) (Nat.le_trans (List.length_take_le' _ _) n1)
   simp only [zJ hp,Option.bind_some]
   rw [kJ hp, ←hg]
   refine zC (Wp.mono (Q:=fun s=>s=(zUe v t r rt p,g)) ?_ (fun s hs2=> ?_))
   ·unfold zUe
    rw [←h4]
    refine zC ((zEq v r rt p hv hr).mono (fun b hb=> ?_))
    subst hb
    refine zD (fun h=>zA (by rw [h];rfl)) (fun h=> ?_)
    rw [h]
    refine zC ((zIT y4 p (by omega)).mono (fun b hb=> ?_))
    subst hb
    refine zD (fun h=>zA (by rw [h];rfl)) (fun h=> ?_)
    rw [h]
    exact zC ((zD0 t p ht).mono (fun b hb=>zA (by rw [hb];rfl)))
   ·subst hs2
    unfold zV6
    refine zD (fun h=> ?_) (fun h=>zA ?_)
    ·have h:zUe v t r rt p=true:=h
     rw [h]
     exact zC (vK (by simp only [List.length_singleton];omega) (zA rfl))
    ·have h:zUe v t r rt p=false:=h
     rw [h];simp
  rw [List.take_length] at h38
  have hl38:s38.length≤20:=by rw [h38];exact Nat.le_trans (List.length_filterMap_le _ _) n1
  refine zC (uT (xs:=rt.2.2.2.2.2.2.2.2.2.2.1.2.2.2.2.2.2.1) (by omega) (fun i (g:List (Ty.El zB))=>g=s38++(rt.2.2.2.2.2.2.2.2.2.2.1.2.2.2.2.2.2.1.take i).filterMap (zS6 t rt)) (by simp) ?_ (fun s58 h58=> ?_))
  ·intro i c g hc hg
   have hgl:g.length≤40:=by
    have:=Nat.le_trans (List.length_filterMap_le (zS6 t rt) (rt.2.2.2.2.2.2.2.2.2.2.1.2.2.2.2.2.2.1.take i)) (Nat.le_trans (List.length_take_le' _ _) n3)
    rw [hg,List.length_append];omega
   simp only [zJ hc,Option.bind_some]
   rw [kJ hc, ←List.append_assoc, ←hg]
   refine zC ((zCY t.2.2.2.1 c.2.1 (by omega)).mono (fun k hk=> ?_))
   subst hk
   unfold zS6
   refine zD (fun h=> ?_) (fun h=>zA ?_)
   ·rw [h]
    exact zC (vK (by simp only [List.length_singleton];omega) (zA rfl))
   ·rw [h];simp
  rw [List.take_length] at h58
  have hl58:s58.length≤40:=by
   have:=Nat.le_trans (List.length_filterMap_le (zS6 t rt) rt.2.2.2.2.2.2.2.2.2.2.1.2.2.2.2.2.2.1) n3
   rw [h58,List.length_append];omega
  refine zC ((zGg rt _ t.2.2.2.1 hs n4 b4).mono (fun y59 h59=> ?_))
  have hl59:=zSc rt rt.2.2.2.2.2.2.2.2.2.2.1.2.2.2.2.2.2.2.1 t.2.2.2.1
  rw [←h59] at hl59
  refine zC (vK (by omega) ?_)
  refine zC (uT (xs:=rt.2.2.2.2.2.2.2.2.2.2.1.2.2.2.2.2.1) (by omega) (fun i (g:List (Ty.El zB))=>g=(s58++y59)++(rt.2.2.2.2.2.2.2.2.2.2.1.2.2.2.2.2.1.take i).filterMap (zUW t rt)) (by simp) ?_ (fun s79 h79=>zA ?_))
  ·intro i c g hc hg
   have hgl:g.length≤1048636:=by
    have:=Nat.le_trans (List.length_filterMap_le (zUW t rt) (rt.2.2.2.2.2.2.2.2.2.2.1.2.2.2.2.2.1.take i)) (Nat.le_trans (List.length_take_le' _ _) n2)
    rw [hg,List.length_append,List.length_append];omega
   simp only [zJ hc,Option.bind_some]
   rw [kJ hc, ←List.append_assoc, ←hg]
   refine zC ((zIS t.2.2.1 c (by omega)).mono (fun b hb=> ?_))
   subst hb
   unfold zUW
   refine zD (fun h=> ?_) (fun h=>zA ?_)
   ·rw [h]
    exact zC (vK (by simp only [List.length_singleton];omega) (zA rfl))
   ·rw [h];simp
  ·rw [h79,List.take_length,h58,h38,h59];rfl
end Go.Ve

namespace Go.Ve
open Go
set_option maxRecDepth 1000000
set_option maxHeartbeats 4000000
def StS (s:List (Ty.El zT)):Prop:= ∀t,t∈s→zZT t∧((∀y,y∈t.1→RtS y)∧(∀y,y∈t.2.1→RtS y)∧(∀y,y∈t.2.2.1→RtS y)∧(∀y,y∈t.2.2.2.1→RtS y))
structure qBk (v:Ty.El zR) (s:List (Ty.El zT)):Prop where
 len:s.length=v.1.1.length
 short: ∀t,t∈s→t.1.length≤12∧t.2.1.length≤12∧t.2.2.1.length≤12∧t.2.2.2.1.length≤16
 ok: ∀t,t∈s→uH t.1 3∧uH t.2.1 4∧uH t.2.2.1 5∧uH t.2.2.2.1 0
theorem zTc (v:Ty.El zR) (s:List (Ty.El zT)) (hs:StS s) (hl:s.length≤1048576):Wp (zD9 (v,s,())) (fun b=>b=true→ ∀t,t∈s→uH t.1 3∧uH t.2.1 4∧uH t.2.2.1 5∧uH t.2.2.2.1 0):=by
 unfold zD9
 dsimp only
 refine zD (fun _=>zA (fun h=>by cases h)) (fun _=> ?_)
 refine zAb (P:=fun t:Ty.El zT=>uH t.1 3∧uH t.2.1 4∧uH t.2.2.1 5∧uH t.2.2.2.1 0) (by omega) ?_ (fun h=>zA (fun _=>h))
 intro i t ht
 obtain ⟨⟨l1,l2,l3,l4⟩,r1,r2,r3,r4⟩:=hs t (List.mem_of_getElem? ht)
 simp only [zJ ht,Option.bind_some]
 refine zC (Wp.mono (Q:=fun b=>b=false→uH t.1 3∧uH t.2.1 4∧uH t.2.2.1 5∧uH t.2.2.2.1 0) ?_ (fun b hb=>zD (fun _=>zA (e2r (e2r (fun h=>by cases h)))) (fun h=>zA (e2l ⟨rfl,hb h⟩))))
 refine zC ((zHN t.1 3 l1 r1).mono (fun b1 h1=>zD (fun _=>zA (fun h=>by cases h)) (fun k1=> ?_)))
 refine zC ((zHN t.2.1 4 l2 r2).mono (fun b2 h2=>zD (fun _=>zA (fun h=>by cases h)) (fun k2=> ?_)))
 refine zC ((zHN t.2.2.1 5 l3 r3).mono (fun b3 h3=>zD (fun _=>zA (fun h=>by cases h)) (fun k3=> ?_)))
 refine zC ((zHN t.2.2.2.1 0 l4 r4).mono (fun b4 h4=>zA (fun k4=> ?_)))
 exact ⟨h1 (by simpa using k1),h2 (by simpa using k2),h3 (by simpa using k3),h4 (by simpa using k4)⟩
theorem zWE (v:Ty.El zR) (s:List (Ty.El zT)) (hs:StS s) (hl:s.length≤1048576):Wp (zEd (v,s,())) (fun b=>b=true→qBk v s):=by
 unfold zEd
 dsimp only
 refine zD (fun _=>zA (fun h=>by cases h)) (fun hlen=> ?_)
 have hlen:s.length=v.1.1.length:=by
  have:(s.length:Int)=(v.1.1.length:Int):=by simpa [bne] using hlen
  omega
 refine zAb (P:=fun t:Ty.El zT=>t.1.length≤12∧t.2.1.length≤12∧t.2.2.1.length≤12∧t.2.2.2.1.length≤16) (by omega) ?_ (fun h=> ?_)
 ·intro i t ht
  simp only [zJ ht,Option.bind_some]
  refine zC (Wp.mono (Q:=fun b=>b=false→t.1.length≤12∧t.2.1.length≤12∧t.2.2.1.length≤12∧t.2.2.2.1.length≤16) ?_ (fun b hb=>zD (fun _=>zA (e2r (e2r (fun h=>by cases h)))) (fun h=>zA (e2l ⟨rfl,hb h⟩))))
  refine zI (fun _=>zA (fun h=>by cases h)) (fun k1=>zI (fun _=>zA (fun h=>by cases h)) (fun k2=>zI (fun _=>zA (fun h=>by cases h)) (fun k3=>zA (fun k4=> ?_))))
  have k4:=of_decide_eq_false k4
  exact ⟨by omega,by omega,by omega,by omega⟩
 ·exact zC ((zTc v s hs hl).mono (fun b hb=>zA (fun h2=>⟨hlen,h,hb h2⟩)))
theorem zV5 {v:Ty.El zR} {t:Ty.El zT} {r:Int} {rt:Ty.El zF} {p:Ty.El zH} {x:Ty.El zB} (h:zV6 v t r rt p=some x):zUe v t r rt p=true∧x=zLn rt p 0 0:=by
 unfold zV6 at h
 cases hb:zUe v t r rt p with
 |false=>rw [hb] at h;cases h
 |true=>rw [hb] at h;exact ⟨rfl,(Option.some.inj h).symm⟩
theorem zWz {t:Ty.El zT} {rt:Ty.El zF} {c:Ty.El zBb} {x:Ty.El zB} (h:zS6 t rt c=some x):x=zLn rt c.1 0 0:=by
 unfold zS6 at h
 cases hb:(decide (xE (fun x:Ty.El zB=>vF x.1 c.2.1) t.2.2.2.1< (0:Int))==c.2.2.1) with
 |false=>rw [hb] at h;cases h
 |true=>rw [hb] at h;exact (Option.some.inj h).symm
theorem zWP {t:Ty.El zT} {rt:Ty.El zF} {g:Ty.El jQ} {x:Ty.El zB} (h:zUW t rt g=some x):x=zWO rt g.1:=by
 unfold zUW at h
 cases hb:t.2.2.1.any (fun x=>lwB x.1 g.1) with
 |false=>rw [hb] at h;cases h
 |true=>rw [hb] at h;exact (Option.some.inj h).symm
theorem zVU {rt:Ty.El zF} {l:List (Ty.El qT)} {y x:Ty.El zB} (h:zXq rt l y=some x): ∃d mt,d∈l∧zNF rt d y=some mt∧x=zLn rt y.1 mt.1 mt.2:=by
 unfold zXq at h
 cases ho:zSn y with
 |true=>rw [ho] at h;cases h
 |false=>
  rw [ho] at h
  simp only [cond_false] at h
  cases hf:l.find? (fun d=>d.1==y.2.1) with
  |none=>rw [hf] at h;cases h
  |some d=>
   rw [hf] at h
   simp only [Option.bind_some] at h
   unfold zZc at h
   cases hT:zNF rt d y with
   |none=>rw [hT] at h;cases h
   |some mt=>
    rw [hT] at h
    exact ⟨d,mt,List.mem_of_find?_eq_some hf,hT,(Option.some.inj h).symm⟩
theorem zPV {v:Ty.El zR} {t:Ty.El zT} {r:Int} {rt:Ty.El zF} {x:Ty.El zB} (h:x∈kR v t r rt):
  (∃p,p∈rt.2.2.2.2.2.2.2.2.2.2.1.2.2.2.2.1∧x=zLn rt p 0 0)∨(∃c,c∈rt.2.2.2.2.2.2.2.2.2.2.1.2.2.2.2.2.2.1∧x=zLn rt c.1 0 0)∨
  (∃y d mt,y∈t.2.2.2.1∧d∈rt.2.2.2.2.2.2.2.2.2.2.1.2.2.2.2.2.2.2.1∧zNF rt d y=some mt∧x=zLn rt y.1 mt.1 mt.2)∨(∃g,g∈rt.2.2.2.2.2.2.2.2.2.2.1.2.2.2.2.2.1∧x=zWO rt g.1):=by
 unfold kR at h
 rcases List.mem_append.1 h with h|h
 ·rcases List.mem_append.1 h with h|h
  ·rcases List.mem_append.1 h with h|h
   ·obtain ⟨p,hp,h⟩:=List.mem_filterMap.1 h
    exact .inl ⟨p,hp,(zV5 h).2⟩
   ·obtain ⟨c,hc,h⟩:=List.mem_filterMap.1 h
    exact .inr (.inl ⟨c,hc,zWz h⟩)
  ·obtain ⟨y,hy,h⟩:=List.mem_filterMap.1 h
   obtain ⟨d,mt,hd,hT,hx⟩:=zVU h
   exact .inr (.inr (.inl ⟨y,d,mt,hy,hd,hT,hx⟩))
 ·obtain ⟨g,hg,h⟩:=List.mem_filterMap.1 h
  exact .inr (.inr (.inr ⟨g,hg,zWP h⟩))
theorem zSw {v:Ty.El zR} {t:Ty.El zT} {r:Int} {rt:Ty.El zF} {x:Ty.El zB} (h:x∈kR v t r rt):PvS x∧RtS x:=by
 have h1: ∀p m k,PvS (zLn rt p m k)∧RtS (zLn rt p m k):=fun p m k=>⟨⟨rfl,⟨show (0:Int)≤100 by decide,show (100:Int)≤1000000 by decide⟩,⟨show (0:Int)≤0 by decide,show (0:Int)<4294967296 by decide⟩⟩,⟨Nat.zero_le _,Nat.zero_le _⟩⟩
 have h2: ∀p,PvS (zWO rt p)∧RtS (zWO rt p):=fun p=>⟨⟨rfl,⟨show (0:Int)≤100 by decide,show (100:Int)≤1000000 by decide⟩,⟨show (0:Int)≤0 by decide,show (0:Int)<4294967296 by decide⟩⟩,⟨Nat.zero_le _,Nat.zero_le _⟩⟩
 rcases zPV h with ⟨_,_,rfl⟩|⟨_,_,rfl⟩|⟨_,_,_,_,_,_,rfl⟩|⟨_,_,rfl⟩
 ·exact h1 _ _ _
 ·exact h1 _ _ _
 ·exact h1 _ _ _
 ·exact h2 _
theorem zX8 {s:List (Ty.El zT)} (h: ∀t∈s,Ty.fits 1048576 zT t):StS s:=fun t ht=>by
 obtain ⟨⟨a1,a2⟩,⟨b1,b2⟩,⟨c1,c2⟩,⟨d1,d2⟩,_⟩:=h t ht
 exact ⟨⟨a1,b1,c1,d1⟩,fun y hy=>zHt (a2 y hy),fun y hy=>zHt (b2 y hy),fun y hy=>zHt (c2 y hy),fun y hy=>zHt (d2 y hy)⟩
end Go.Ve

namespace Go.Ve
open Go
set_option maxRecDepth 1000000
set_option maxHeartbeats 4000000
structure zHj (v:Ty.El zR):Prop where
 p:zOZ v
 maps: ∀r,r∈v.1.1→xZ r
 adr: ∀r,r∈v.1.1→ ∀x,x∈r.2.2.1→0≤x.2.1∧x.2.1<4294967296
def zAS (x:Ty.El zB):Prop:=0≤x.2.2.2.2.2.2.2.1∧x.2.2.2.2.2.2.2.1≤1000000
structure zYI (t:Ty.El zT):Prop where
 s:zZT t
 pv:t.2.2.1.length≤12
 rib:t.2.2.2.1.length≤16
 rt: ∀y,y∈t.2.2.1→RtS y∧zAS y
theorem zQD {v:Ty.El zR} (hv:zHj v) {s:Ty.El zW} (h:s∈zMy v):
  ∃ (qn kn r i:Nat) (int:Bool) (q rt:Ty.El zF) (y z:Ty.El qG),s=((qn:Int),(kn:Int),(r:Int),(i:Int),int,())∧v.1.1[qn]? =some q∧q.2.2.1[kn]? =some y∧v.1.1[r]? =some rt∧rt.2.2.1[i]? =some z∧xZ q∧xZ rt∧(0≤y.2.1∧y.2.1<4294967296):=by
 obtain ⟨r,i,rt,z,e,q,y,hrt,hz,hon,he,hq,hy,hb,rfl⟩:=zSu.1 h
 obtain ⟨u1,u2,u3⟩:=zQS he
 obtain ⟨b0,b1,_⟩:=hv.p.ends _ _ _ u1 u2
 obtain ⟨e1,e2,⟨⟩⟩:=e
 obtain ⟨qn,rfl⟩:=Int.eq_ofNat_of_zero_le (show (0:Int)≤e1 from b0)
 obtain ⟨kn,rfl⟩:=Int.eq_ofNat_of_zero_le (show (0:Int)≤e2 from b1)
 have hq:v.1.1[qn]? =some q:=hq
 have hy:q.2.2.1[kn]? =some y:=hy
 exact ⟨qn,kn,r,i,_,q,rt,y,z,rfl,hq,hy,hrt,hz,hv.maps q (List.mem_of_getElem? hq),hv.maps rt (List.mem_of_getElem? hrt),hv.adr q (List.mem_of_getElem? hq) y (List.mem_of_getElem? hy)⟩
theorem zQM {v:Ty.El zR} {t:List (Ty.El zB)} {qn kn r i:Nat} {int:Bool} {q rt:Ty.El zF} {y z:Ty.El qG} (hq:v.1.1[qn]? =some q) (hy:q.2.2.1[kn]? =some y) (hr:v.1.1[r]? =some rt) (hz:rt.2.2.1[i]? =some z):
  zGM v t ((qn:Int),(kn:Int),(r:Int),(i:Int),int,())=t.filterMap (fun x=>(zOo q z.2.1 int x).bind (zQ0 rt y.2.1 (i:Int) int)):=by
 unfold zGM
 simp only [Int.toNat_natCast,hq,hr,hy,hz]
theorem zOV {r:Ty.El zF} {nm:Ty.El .str} {x y:Ty.El zB} (hm:xZ r) (hx:zAS x) (h:zEz r nm x=some y):zAS y:=by
 unfold zEz at h
 cases hn:(nm==({ data:= #[] } :ByteArray)) with
 |true=>
  rw [hn] at h
  rw [←Option.some.inj h]
  exact hx
 |false=>
  rw [hn] at h
  simp only [cond_false] at h
  cases hp:zFp r nm x with
  |none=>rw [hp] at h;cases h
  |some c=>
   rw [hp] at h
   rw [←Option.some.inj h]
   have hc:zU3 c:=by
    unfold zFp at hp
    cases ha:zOM r nm x with
    |none=>rw [ha] at hp;cases hp
    |some c'=>
     rw [ha] at hp
     simp only at hp
     cases hc1:c'.1 with
     |false=>rw [hc1] at hp;cases hp
     |true=>
      rw [hc1] at hp
      rw [←Option.some.inj hp]
      exact zRm hm ha
   have h1: -1≤c.2.2.2.2.2.1∧c.2.2.2.2.2.1≤1000000:=hc.pref
   unfold zAS zY1
   simp only
   have aux: ∀a b:Int,(-1≤a∧a≤1000000)→(0≤b∧b≤1000000)→(0≤(bif a==(-1:Int) then b else a)∧(bif a==(-1:Int) then b else a)≤1000000):=by
    intro a b ha hb
    cases hab:(a==(-1:Int)) with
    |true=>exact hb
    |false=>
     have:a≠ -1:=by simpa using hab
     simp only [cond_false]
     omega
   exact aux _ _ h1 hx
theorem zYc {q:Ty.El zF} {a:Int} {int:Bool} {x m:Ty.El zB} (hm:xZ q) (hx:RtS x) (hp:zAS x) (h:zOo q a int x=some m):RtS m∧zAS m:=by
 obtain ⟨_,h1,h2⟩:=zSR hm h
 refine ⟨⟨?_,by rw [h2];exact Nat.zero_le _⟩,?_⟩
 ·rcases h1 with ⟨_,h1⟩|⟨_,k,_,h1,h3⟩
  ·rw [h1];exact hx.path
  ·rw [h1,List.length_append,List.length_replicate];omega
 ·unfold zOo at h
  cases hh:(x.2.2.1==(4:Int)&&int)||zSG q x.1 with
  |true=>rw [hh] at h;cases h
  |false=>
   rw [hh] at h
   simp only [cond_false] at h
   cases hn:zFC q.2.2.2.2.2.2.2.2.2.2.1.2.2.2.1 a with
   |none=>rw [hn] at h;cases h
   |some nb=>
    rw [hn] at h
    simp only at h
    cases int with
    |true=>
     simp only [cond_true] at h
     cases ha:zEz q nb.2.2.2.1 x with
     |none=>rw [ha] at h;cases h
     |some y=>
      rw [ha] at h
      rw [←Option.some.inj h]
      exact (zOV hm hp ha:zAS y)
    |false=>
     simp only [cond_false] at h
     cases ha:zEz q nb.2.2.2.1 (zGi x 0) with
     |none=>rw [ha] at h;cases h
     |some y=>
      rw [ha] at h
      simp only at h
      cases hd:decide (1+zNK q nb.2.2.2.1 (zGi x 0)+(x.2.2.2.2.2.2.2.2.1.length:Int)>(64:Int)) with
      |true=>rw [hd] at h;cases h
      |false=>
       rw [hd] at h
       rw [←Option.some.inj h]
       exact ⟨show (0:Int)≤100 by decide,show (100:Int)≤1000000 by decide⟩
theorem qAA {rt:Ty.El zF} {a i:Int} {int:Bool} {m y:Ty.El zB} (hm:xZ rt) (ha:0≤a∧a<4294967296) (hx:RtS m) (hp:zAS m) (h:zQ0 rt a i int m=some y):PvS y∧RtS y:=by
 unfold zQ0 at h
 cases hh:m.2.2.2.2.2.2.2.2.1.any (fun x=>x==rt.2.1) with
 |true=>rw [hh] at h;cases h
 |false=>
  rw [hh] at h
  simp only [cond_false] at h
  cases hn:zFC rt.2.2.2.2.2.2.2.2.2.2.1.2.2.2.1 a with
  |none=>rw [hn] at h;cases h
  |some nb=>
   rw [hn] at h
   simp only at h
   cases hr:zEz rt nb.2.2.1 m with
   |none=>rw [hr] at h;cases h
   |some w=>
    rw [hr] at h
    rw [←Option.some.inj h]
    exact ⟨⟨rfl,(zOV hm hp hr:zAS w),ha⟩,⟨hx.path,show 1≤1048576 by decide⟩⟩
theorem zZe {v:Ty.El zR} (hv:zHj v) {t:List (Ty.El zB)} (ht: ∀y,y∈t→RtS y∧zAS y) {s:Ty.El zW} (h:s∈zMy v) {x:Ty.El zB} (hx:x∈zGM v t s):PvS x∧RtS x:=by
 obtain ⟨qn,kn,r,i,int,q,rt,y,z,rfl,hq,hy,hr,hz,hmq,hmr,ha⟩:=zQD hv h
 rw [zQM hq hy hr hz] at hx
 obtain ⟨w,hw,hx⟩:=List.mem_filterMap.1 hx
 obtain ⟨m,h1,h2⟩:=Option.bind_eq_some_iff.1 hx
 obtain ⟨e1,e2⟩:=zYc hmq (ht w hw).1 (ht w hw).2 h1
 exact qAA hmr ha e1 e2 h2
theorem zEp (v:Ty.El zR) (hv:zHj v) (s:Ty.El zW) (h:s∈zMy v) (t:List (Ty.El zB)) (hl:t.length≤1048576) (ht: ∀y,y∈t→RtS y∧zAS y):
  Wp (uX (v,s,t,())) (fun l=>l=zGM v t s):=by
 obtain ⟨qn,kn,r,i,int,q,rt,y,z,rfl,hq,hy,hr,hz,hmq,hmr,ha⟩:=zQD hv h
 rw [zQM hq hy hr hz]
 unfold uX
 dsimp only
 refine zC (uT (xs:=t) (by omega) (fun j (g:List (Ty.El zB))=>g=(t.take j).filterMap (fun x=>(zOo q z.2.1 int x).bind (zQ0 rt y.2.1 (i:Int) int))) (by simp) ?_ (fun g hg=>zA (by rw [hg,List.take_length])))
 intro j x g hx hg
 have hgl:g.length≤1048576:=by rw [hg];exact Nat.le_trans (List.length_filterMap_le _ _) (Nat.le_trans (List.length_take_le' _ _) hl)
 simp only [zJ hx,Option.bind_some]
 rw [kJ hx, ←hg]
 obtain ⟨x1,x2⟩:=ht x (List.mem_of_getElem? hx)
 refine zC ((zFk v hv.p qn kn r i int q rt z hq hr hz hmq x x1).mono (fun m hm=> ?_))
 rcases zSj hm with ⟨h1,h2⟩|⟨h1,h2⟩
 ·refine tt (by rw [h1];rfl) (zA ?_)
  rw [h2];simp
 ·obtain ⟨e1,e2⟩:=zYc hmq x1 x2 h2
  refine ff (by rw [h1];rfl) (zC ((zFj v hv.p qn kn r (i:Int) int q rt y hq hy hr m.1 e1).mono (fun w hw=> ?_)))
  rw [h2,Option.bind_some]
  rcases zSj hw with ⟨h3,h4⟩|⟨h3,h4⟩
  ·refine ff h3 (zA ?_)
   rw [h4];simp
  ·refine tt h3 (zC (vK (by simp only [List.length_singleton];omega) (zA ?_)))
   rw [h4];rfl
theorem zNx {v:Ty.El zR} {r:Nat} {x:Ty.El zW} (hr:r<v.1.1.length) (h:x∈zGj v r):x∈zMy v:=by
 unfold zMy
 exact List.mem_flatMap.2 ⟨r,List.mem_range.2 hr,h⟩
theorem zXf {v:Ty.El zR} {r i:Nat} {rt:Ty.El zF} {x:Ty.El zW} (hr:v.1.1[r]? =some rt) (hi:i<rt.2.2.1.length) (h:x∈zEs v r rt i):x∈zGj v r:=by
 unfold zGj
 rw [hr]
 exact List.mem_flatMap.2 ⟨i,List.mem_range.2 hi,h⟩
theorem zXe {v:Ty.El zR} (hv:zHj v) {s:Ty.El zW} (h:s∈zMy v): ∃qn:Nat,s.1=(qn:Int)∧qn<v.1.1.length:=by
 obtain ⟨qn,kn,r,i,int,q,rt,y,z,rfl,hq,_⟩:=zQD hv h
 exact ⟨qn,rfl,(List.getElem?_eq_some_iff.1 hq).1⟩
theorem zVi {v:Ty.El zR} (hv:zHj v) {s:List (Ty.El zT)} (hs: ∀t,t∈s→zYI t) {r:Nat} (hr:r<v.1.1.length) {x:Ty.El zB} (hx:x∈zDF v s r):PvS x∧RtS x:=by
 obtain ⟨w,hw,hx⟩:=List.mem_flatMap.1 hx
 refine zZe hv ?_ (zNx hr hw) hx
 intro y hy
 unfold zGk at hy
 split at hy
 ·rename_i t ht
  exact (hs t (List.mem_of_getElem? ht)).rt y hy
 ·cases hy
theorem zCa (v:Ty.El zR) (hv:zHj v) (s:List (Ty.El zT)) (hlen:s.length=v.1.1.length) (hs: ∀t,t∈s→zYI t) (r:Nat) (rt:Ty.El zF) (t:Ty.El zT) (hr:v.1.1[r]? =some rt) (ht:s[r]? =some t):
  Wp (yK (v,s,(r:Int),())) (fun o=>o=bif rt.2.2.2.2.2.2.2.2.2.2.1.1 then zAj (kR v t r rt++zDF v s r) else []):=by
 unfold yK
 dsimp only
 have hrl:=(List.getElem?_eq_some_iff.1 hr).1
 have hV:=hv.p.s
 have hsm:=hV.sm rt (List.mem_of_getElem? hr)
 have hT:=hs t (List.mem_of_getElem? ht)
 have n1:rt.2.2.1.length≤20:=hsm.i1
 refine zC (Wp.mono (Q:=fun s=>s= !rt.2.2.2.2.2.2.2.2.2.2.1.1) ?_ (fun s2 hs2=> ?_))
 ·have q0: ¬((r:Int)<0):=by omega
  have q1: ¬((r:Int)≥(List.length v.1.1:Int)):=by omega
  have q2: ¬((r:Int)≥(List.length s:Int)):=by omega
  refine zI (fun h=>absurd h q0) (fun _=>zI (fun h=>absurd h q1) (fun _=>zI (fun h=>absurd h q2) (fun _=> ?_)))
  simp only [zJ hr,Option.bind_some]
  exact zA rfl
 subst hs2
 cases hon:rt.2.2.2.2.2.2.2.2.2.2.1.1 with
 |false=>exact tt rfl (zA rfl)
 |true=>
  refine ff rfl ?_
  simp only [zJ hr,zJ ht,Option.bind_some,cond_true]
  refine zC ((xU v t r rt hV hr hT.s).mono (fun y6 h6=> ?_))
  rw [hon] at h6
  simp only [cond_true] at h6
  have hl6:y6.length≤76:=by
   have:=zI9 (v:=v) (t:=t) (r:=r) hsm
   have h16:=hT.rib
   rw [h6];omega
  have hpv: ∀k,(zGk s k).length≤12:=by
   intro k
   unfold zGk
   split
   ·rename_i t0 h0
    exact (hs t0 (List.mem_of_getElem? h0)).pv
   ·exact Nat.zero_le _
  have hrI: ∀k,((zEs v r rt k).flatMap (fun x=>zGM v (zGk s x.1) x)).length≤4320:=by
   intro k
   have h1:=uD (xs:=zEs v r rt k) (f:=fun x=>zGM v (zGk s x.1) x) (k:=12) (fun x _=>Nat.le_trans zJ0 (hpv _))
   have h2:=zGI hV r rt k
   omega
  have hrA: ∀m,m≤20→((List.range m).flatMap (fun k=>(zEs v r rt k).flatMap (fun x=>zGM v (zGk s x.1) x))).length≤86400:=by
   intro m hm
   have h1:=uD (xs:=List.range m) (f:=fun k=>(zEs v r rt k).flatMap (fun x=>zGM v (zGk s x.1) x)) (k:=4320) (fun k _=>hrI k)
   rw [List.length_range] at h1
   omega
  refine zC (uT (xs:=rt.2.2.1) (by omega) (fun i (g:List (Ty.El zB))=>g=y6++(List.range i).flatMap (fun k=>(zEs v r rt k).flatMap (fun x=>zGM v (zGk s x.1) x))) (by simp) ?_ (fun s102 h102=> ?_))
  ·intro i z g hz hg
   have hi:=(List.getElem?_eq_some_iff.1 hz).1
   have hgl:g.length≤86476:=by
    have:=hrA i (by omega)
    rw [hg,List.length_append];omega
   refine zC ((xJ v hv.p r i rt z hr hz).mono (fun y94 h94=> ?_))
   have hl94:y94.length≤360:=by rw [h94];exact zGI hV r rt i
   rw [List.range_succ,List.flatMap_append, ←List.append_assoc, ←hg]
   refine uT (xs:=y94) (by omega) (fun j (w:List (Ty.El zB))=>w=g++(y94.take j).flatMap (fun x=>zGM v (zGk s x.1) x)) (by simp) ?_ (fun w hw=> ?_)
   ·intro j x w hx hw
    have hwl:w.length≤90796:=by
     have h1:=uD (xs:=y94.take j) (f:=fun x=>zGM v (zGk s x.1) x) (k:=12) (fun x _=>Nat.le_trans zJ0 (hpv _))
     have h2:=List.length_take_le' j y94
     rw [hw,List.length_append];omega
    have hxm:x∈zMy v:=zNx hrl (zXf hr hi (by rw [←h94];exact List.mem_of_getElem? hx))
    obtain ⟨qn,hq1,hq2⟩:=zXe hv hxm
    obtain ⟨t0,ht0⟩: ∃t0,s[qn]? =some t0:=⟨_,List.getElem?_eq_getElem (by omega)⟩
    have hT0:=hs t0 (List.mem_of_getElem? ht0)
    have hpe:zGk s x.1=t0.2.2.1:=by
     unfold zGk
     rw [hq1,Int.toNat_natCast,ht0]
    simp only [zJ hx,Option.bind_some]
    rw [zKv hx, ←List.append_assoc, ←hw,hpe]
    have hlt:(qn:Int)< (s.length:Int):=by omega
    refine tt (decide_eq_true (by rw [hq1];exact hlt)) ?_
    rw [hq1]
    simp only [zJ ht0,Option.bind_some]
    have hpl:=hT0.pv
    refine zC ((zEp v hv x hxm t0.2.2.1 (by omega) hT0.rt).mono (fun l hl=> ?_))
    have hll:l.length≤12:=by rw [hl];exact Nat.le_trans zJ0 hpl
    refine zC (vK (by omega) (zA ?_))
    rw [hl]
   ·rw [hw,List.take_length,h94];simp
  ·have hrec:zDF v s r=(List.range rt.2.2.1.length).flatMap (fun k=>(zEs v r rt k).flatMap (fun x=>zGM v (zGk s x.1) x)):=by
    unfold zDF zGj
    rw [hr]
    simp only
    rw [List.flatMap_assoc]
   rw [←hrec] at h102
   have hrl2:(zDF v s r).length≤86400:=by rw [hrec];exact hrA _ n1
   have hall: ∀x,x∈s102→PvS x∧RtS x:=by
    intro x hx
    rw [h102] at hx
    rcases List.mem_append.1 hx with hx|hx
    ·rw [h6] at hx;exact zSw hx
    ·exact zVi hv hs hrl hx
   refine zC ((zK5 s102 (by rw [h102,List.length_append];omega) (fun x hx=>(hall x hx).2) (fun x y hx hy=>zIN x y (hall x hx).1 (hall y hy).1)).mono (fun o ho=>zA ?_))
   rw [ho,h102,h6]
end Go.Ve

namespace Go.Ve
open Go
set_option maxRecDepth 1000000
set_option maxHeartbeats 4000000
def qBn (x:Ty.El zB):Prop:=
 ((x.2.2.1=1∨x.2.2.1=2)∧x.2.2.2.2.2.2.2.2.1=[]∧x.2.2.2.2.2.2.2.2.2.1=0∧x.2.2.2.2.2.2.2.2.2.2.2.1=[]∧x.2.2.2.2.2.2.2.2.2.2.2.2.1=(x.2.2.1==(2:Int)))∨
 (((x.2.2.1=3∧x.2.2.2.2.2.2.2.2.1≠[])∨x.2.2.1=4)∧x.2.2.2.2.2.2.2.2.2.1≠0∧(∃i:Int,0≤i∧x.2.2.2.2.2.2.2.2.2.2.2.1=[(i,x.2.2.2.2.2.2.2.2.2.1,())])∧x.2.2.2.2.2.2.2.2.2.2.2.2.1=false)
structure PvV (x:Ty.El zB):Prop where
 proto:x.2.1=5
 pre:vB x.1=true
 tag:0≤x.2.2.2.2.2.2.1∧x.2.2.2.2.2.2.1≤65535
 adm:1≤x.2.2.2.1∧x.2.2.2.1≤255
 met:0≤x.2.2.2.2.1∧x.2.2.2.2.1≤16777215
 pref:zAS x
 path:x.2.2.2.2.2.2.2.2.1.length≤64
 sys: ∀a,a∈x.2.2.2.2.2.2.2.2.1→1≤a∧a≤65535
 inner:x.2.2.2.2.2.1=0
 next:x.2.2.2.2.2.2.2.2.2.2.1=0
 kind:qBn x
theorem zXU {k a:Int} (hk:0≤k) (ha:a≠0):jV ([(k,a,())],false,())=some true:=by
 refine j2 ?_
 unfold jV
 dsimp only
 refine zAb (xs:=[((k,a,()):Ty.El qP)]) (P:=fun _=>True) (by simp) ?_ (fun _=>zA rfl)
 intro i x hx
 have hi:=(List.getElem?_eq_some_iff.1 hx).1
 have hi:i=0:=by simpa using hi
 subst hi
 have hx':x=(k,a,()):=by simpa using hx.symm
 subst hx'
 simp only [zJ hx,Option.bind_some]
 have hz:(a==(0:Int))=false:=by simpa using ha
 refine zC (Wp.mono (Q:=fun b=>b=false) (zI (fun h=>absurd hk (Int.not_le.2 h)) (fun _=>zI (fun h=>absurd h (by decide)) (fun _=>zA ?_))) (fun b hb=> ?_))
 ·rw [hz];rfl
 ·rw [hb]
  exact zA (e2l ⟨rfl,trivial⟩)
theorem zEB {a lo hi:Int} (h:lo≤a∧a≤hi):(decide (lo≤a)&&decide (a≤hi))=true:=by rw [decide_eq_true h.1,decide_eq_true h.2];rfl
theorem qAo {x:Ty.El zB} (h1:x.2.2.2.2.2.1=0) (h2:x.2.2.2.2.2.2.2.2.2.2.1=0):wT (x,false,true,false,())=some true:=by
 refine j2 ?_
 unfold wT
 dsimp only
 exact zC (ff rfl (tt (by rw [h1];rfl) (tt rfl (ff rfl (zA (zA (by rw [h2];rfl)))))))
theorem zTA {x:Ty.El zB} (h:PvV x):vN (x,())=some true:=by
 refine j2 ?_
 unfold vN
 dsimp only
 refine zC (Wp.mono (Q:=fun b=>b=false) ?_ (fun b hb=> ?_))
 ·refine zC (z7 (q9 _ _ _) (ff (by rw [zEB h.adm];rfl) (zC (z7 (q9 _ _ _) (ff (by rw [zEB h.met];rfl) (zC (z7 (q9 _ _ _) (ff (by rw [zEB h.pref];rfl) ?_))))))))
  exact zC (z7 (qAo h.inner h.next) (zA rfl))
 subst hb
 refine ff rfl ?_
 rcases h.kind with ⟨k1,k2,k3,k4,k5⟩|⟨k1,k2,⟨i,k3,k4⟩,k5⟩
 ·refine zC (Wp.mono (Q:=fun b=>b=true) ?_ (fun b hb=> ?_))
  ·rcases k1 with k1|k1
   ·exact tt (by rw [k1];rfl) (zA (by rw [k1];rfl))
   ·exact ff (by rw [k1];rfl) (zA (by rw [k1];rfl))
  subst hb
  refine tt rfl (zC (tt (by rw [k2];rfl) (tt (by rw [k3];rfl) (tt (by rw [k4];rfl) (zA (zA ?_))))))
  rw [k5]
  exact beq_self_eq_true _
 ·have hc:x.2.2.1=3∨x.2.2.1=4:=by
   rcases k1 with ⟨k1,_⟩|k1
   ·exact .inl k1
   ·exact .inr k1
  have hf:(x.2.2.2.2.2.2.2.2.2.1 !=(0:Int))=true:=by simpa [bne] using k2
  refine zC (Wp.mono (Q:=fun b=>b=false) ?_ (fun b hb=> ?_))
  ·rcases hc with hc|hc
   ·exact ff (by rw [hc];rfl) (zA (by rw [hc];rfl))
   ·exact ff (by rw [hc];rfl) (zA (by rw [hc];rfl))
  subst hb
  refine ff rfl (zC (Wp.mono (Q:=fun b=>b=true) ?_ (fun b hb=> ?_)))
  ·rcases hc with hc|hc
   ·exact tt (by rw [hc];rfl) (zA (by rw [hc];rfl))
   ·exact ff (by rw [hc];rfl) (zA (by rw [hc];rfl))
  subst hb
  have hh:jV (x.2.2.2.2.2.2.2.2.2.2.2.1,false,())=some true:=by rw [k4];exact zXU k3 k2
  have hlen:((x.2.2.2.2.2.2.2.2.2.2.2.1.length:Int)==(1:Int))=true:=by rw [k4];rfl
  have hx0:x.2.2.2.2.2.2.2.2.2.2.2.1[0]? =some ((i,x.2.2.2.2.2.2.2.2.2.1,()):Ty.El qP):=by rw [k4];rfl
  have hidx:idx x.2.2.2.2.2.2.2.2.2.2.2.1 (0:Int)=some ((i,x.2.2.2.2.2.2.2.2.2.1,()):Ty.El qP):=zJ (i:=0) hx0
  refine tt rfl (zC (Wp.mono (Q:=fun b=>b=true) ?_ (fun b hb=>zA hb)))
  have fin : Wp (bif x.2.2.2.2.2.2.2.2.2.1 != (0 : Int) then
           bif (↑(List.length x.2.2.2.2.2.2.2.2.2.2.2.1):Int)==(1:Int) then
            Option.bind (jV (x.2.2.2.2.2.2.2.2.2.2.2.1,false,())) fun (y20:Bool)=>
             bif y20 then
              Option.bind (idx x.2.2.2.2.2.2.2.2.2.2.2.1 (0:Int)) fun (y21:Ty.El qP)=>
               bif y21.2.1==x.2.2.2.2.2.2.2.2.2.1 then some !x.2.2.2.2.2.2.2.2.2.2.2.2.1 else some false
             else some false
           else some false
          else some false) (fun b=>b=true):=
   tt hf (tt hlen (zC (z7 hh (tt rfl (zC (z7 hidx (tt (beq_self_eq_true _) (zA (by rw [k5];rfl)))))))))
  rcases k1 with ⟨k1,kp⟩|k1
  ·refine ff (by rw [k1];rfl) (tt (decide_eq_true ?_) fin)
   have:0<x.2.2.2.2.2.2.2.2.1.length:=List.length_pos_iff.2 kp
   show (0:Int)<_
   omega
  ·exact tt (by rw [k1];rfl) fin
theorem qAc {x:Ty.El zB} (h:PvV x):jJ (x,())=some true:=by
 refine j2 ?_
 unfold jJ
 dsimp only
 have hp:=h.path
 refine zC (zC (z7 (wS _) (ff (by rw [h.pre];rfl) (zC (z7 (q9 _ _ _) (ff (by rw [zEB h.tag];rfl) (zA ?_)))))))
 refine ff (decide_eq_false (by omega)) ?_
 refine zAb (P:=fun _=>True) (by omega) ?_ (fun _=> ?_)
 ·intro i y hy
  simp only [zJ hy,Option.bind_some]
  exact zC (z7 (q9 _ _ _) (ff (by rw [zEB (h.sys y (List.mem_of_getElem? hy))];rfl) (zA (e2l ⟨rfl,trivial⟩))))
 ·have h5:=h.proto
  refine ff (by rw [h5];rfl) (ff (by rw [h5];rfl) (ff (by rw [h5];rfl) (ff (by rw [h5];rfl) (tt (by rw [h5];rfl) (zC (z7 (zTA h) (zA rfl)))))))
theorem zVG {x:Ty.El zB} (h:jJ (x,())=some true):vB x.1=true:=by
 cases hb:vB x.1 with
 |true=>rfl
 |false=>
  have:jJ (x,())=some false:=by
   refine j2 ?_
   unfold jJ
   dsimp only
   exact zC (zC (z7 (wS _) (tt (by rw [hb];rfl) (zA (tt rfl (zA rfl))))))
  rw [this] at h
  cases h
theorem zM5 {a b hi:Int} (ha: -1≤a∧a≤hi) (hb:0≤b∧b≤hi):0≤(bif a==(-1:Int) then b else a)∧(bif a==(-1:Int) then b else a)≤hi:=by
 cases hab:(a==(-1:Int)) with
 |true=>exact hb
 |false=>
  have:a≠ -1:=by simpa using hab
  simp only [cond_false]
  omega
theorem zXB {r:Ty.El zF} {nm:Ty.El .str} {x:Ty.El zB} {c:Ty.El kN} (hm:xZ r) (h:zFp r nm x=some c):zU3 c:=by
 unfold zFp at h
 cases ha:zOM r nm x with
 |none=>rw [ha] at h;cases h
 |some c'=>
  rw [ha] at h
  simp only at h
  cases hc1:c'.1 with
  |false=>rw [hc1] at h;cases h
  |true=>
   rw [hc1] at h
   rw [←Option.some.inj h]
   exact zRm hm ha
theorem zZb {r:Ty.El zF} {l:List (Ty.El qT)} {x:Ty.El zB} {d:Ty.El qT} {mt:Int×Int} (hm:xZ r) (hl:qAT l 5 0 16777215) (hd:d∈l) (h:zNF r d x=some mt):
  (0≤mt.1∧mt.1≤16777215)∧(0≤mt.2∧mt.2≤65535):=by
 obtain ⟨_,_,d1,d2⟩:=hl.at_ d hd
 unfold zNF at h
 cases hn:(d.2.2.2.1==({ data:= #[] } :ByteArray)) with
 |true=>
  rw [hn] at h
  rw [←Option.some.inj h]
  exact ⟨d1,d2⟩
 |false=>
  rw [hn] at h
  simp only [cond_false] at h
  cases hp:zFp r d.2.2.2.1 x with
  |none=>rw [hp] at h;cases h
  |some c=>
   rw [hp] at h
   rw [←Option.some.inj h]
   have hc:=zXB hm hp
   exact ⟨zM5 hc.met d1,zM5 hc.tag d2⟩
theorem zL8 {v:Ty.El zR} {t:Ty.El zT} {r:Int} {rt:Ty.El zF} (hm:xZ rt) (hC:PvC rt) (hrib: ∀y,y∈t.2.2.2.1→vB y.1=true) {x:Ty.El zB} (h:x∈kR v t r rt):PvV x∧(x.2.2.1=1∨x.2.2.1=2):=by
 have h1: ∀p m k,vB p=true→(0≤m∧m≤16777215)→(0≤k∧k≤65535)→PvV (zLn rt p m k):=fun p m k hp hm hk=>
  ⟨rfl,hp,hk,hC.int,hm,⟨show (0:Int)≤100 by decide,show (100:Int)≤1000000 by decide⟩,Nat.zero_le _,(fun a ha=>by cases ha),rfl,rfl, .inl ⟨.inl rfl,rfl,rfl,rfl,rfl⟩⟩
 have h2: ∀p,vB p=true→PvV (zWO rt p):=fun p hp=>
  ⟨rfl,hp,⟨show (0:Int)≤0 by decide,show (0:Int)≤65535 by decide⟩,hC.int,⟨show (0:Int)≤0 by decide,show (0:Int)≤16777215 by decide⟩,⟨show (0:Int)≤100 by decide,show (100:Int)≤1000000 by decide⟩,Nat.zero_le _,(fun a ha=>by cases ha),rfl,rfl, .inl ⟨.inr rfl,rfl,rfl,rfl,rfl⟩⟩
 have z1:(0:Int)≤0∧(0:Int)≤16777215:=by decide
 have z2:(0:Int)≤0∧(0:Int)≤65535:=by decide
 rcases zPV h with ⟨p,hp,rfl⟩|⟨c,hc,rfl⟩|⟨y,d,mt,hy,hd,hT,rfl⟩|⟨g,hg,rfl⟩
 ·exact ⟨h1 _ _ _ (hC.org.nets p hp) z1 z2, .inl rfl⟩
 ·exact ⟨h1 _ _ _ (hC.org.cond c hc).1 z1 z2, .inl rfl⟩
 ·obtain ⟨m1,m2⟩:=zZb hm hC.red hd hT
  exact ⟨h1 _ _ _ (hrib y hy) m1 m2, .inl rfl⟩
 ·exact ⟨h2 _ (hC.org.aggs g hg), .inr rfl⟩
end Go.Ve



namespace Go.Ve
open Go
set_option maxRecDepth 1000000
set_option maxHeartbeats 4000000
theorem zVk {x:Ty.El zB} (h:x.2.1=5):wC x=((if (3:Int)<x.2.2.1 then (3:Int) else x.2.2.1),IntKind.wrap IntKind.i64 ((1000000:Int) -x.2.2.2.2.2.2.2.1),(x.2.2.2.2.2.2.2.2.1.length:Int),x.2.2.2.2.1,x.2.2.1,IntKind.wrap IntKind.i64 x.2.2.2.2.2.2.2.2.2.1,(0:Int)):=by
 have k3:(x.2.1==(3:Int))=false:=by rw [h];rfl
 have k4:(x.2.1==(4:Int))=false:=by rw [h];rfl
 have k5:(x.2.1==(5:Int))=true:=by rw [h];rfl
 unfold wC
 rw [k3,k4,k5]
 rfl
theorem zQl: ∀ {l:List (Int×Int)},zFR l=0→ ∀p,p∈l→p.1=p.2
 |[],_,p,hp=>by cases hp
 |(a,b)::r,h,p,hp=>by
  simp only [zFR] at h
  by_cases h1:a<b
  ·rw [if_pos h1] at h;cases h
  ·rw [if_neg h1] at h
   by_cases h2:b<a
   ·rw [if_pos h2] at h;cases h
   ·rw [if_neg h2] at h
    rcases List.mem_cons.1 hp with rfl|hp
    ·show a=b;omega
    ·exact zQl h p hp
theorem zPR {x y:Ty.El zB} (hx:PvS x) (hy:PvS y) (h:xL x y=0):x.2.2.1=y.2.2.1∧x.2.2.2.2.2.2.2.2.2.1=y.2.2.2.2.2.2.2.2.2.1:=by
 unfold xL at h
 rw [zVk hx.proto,zVk hy.proto] at h
 have hz:=zQl h
 have u2: ∀a:Int,0≤a→a<4294967296→IntKind.wrap IntKind.i64 a=a:=fun a h0 h1=>zG (by omega) (by omega)
 have h1:=hz (x.2.2.1,y.2.2.1) (by simp)
 have h2:=hz (IntKind.wrap IntKind.i64 x.2.2.2.2.2.2.2.2.2.1,IntKind.wrap IntKind.i64 y.2.2.2.2.2.2.2.2.2.1) (by simp)
 refine ⟨h1,?_⟩
 have e1:=u2 _ hx.frm.1 hx.frm.2
 have e2:=u2 _ hy.frm.1 hy.frm.2
 exact e1.symm.trans (h2.trans e2)
theorem zNJ {x y:Ty.El zB} :(xL x y<0→(wC x).1≤(wC y).1)∧(¬xL x y<0→(wC y).1≤(wC x).1):=by
 unfold xL
 simp only [zFR]
 constructor
 ·intro h
  by_cases h1:(wC x).1< (wC y).1
  ·omega
  ·rw [if_neg h1] at h
   by_cases h2:(wC y).1< (wC x).1
   ·rw [if_pos h2] at h;omega
   ·omega
 ·intro h
  by_cases h1:(wC x).1< (wC y).1
  ·rw [if_pos h1] at h;omega
  ·omega
theorem zOT: ∀ {l:List (Ty.El zB)} {p:Ty.El zH} {c:Option (Ty.El zB)} {b:Ty.El zB},l.foldl (zE2 p) c=some b→
  (∀x,x∈l→x.1=p→(wC b).1≤(wC x).1)∧(∀c',c=some c'→(wC b).1≤(wC c').1)
 |[],p,c,b,h=>by
  refine ⟨fun x hx=>(by cases hx),fun c' hc=> ?_⟩
  have h:c=some b:=h
  rw [hc] at h
  rw [Option.some.inj h]
  exact Int.le_refl _
 |y::l,p,c,b,h=>by
  rw [List.foldl_cons] at h
  obtain ⟨h1,h2⟩:=zOT h
  have yX:(y.1=p→(wC b).1≤(wC y).1)∧(∀c',c=some c'→(wC b).1≤(wC c').1):=by
   unfold zE2 at h2
   cases hp:vF y.1 p with
   |false=>
    rw [hp] at h2
    simp only [Bool.false_and,cond_false] at h2
    exact ⟨fun e=>(by rw [zAg.2 e] at hp;cases hp),h2⟩
   |true=>
    rw [hp] at h2
    simp only [Bool.true_and] at h2
    cases c with
    |none=>
     have hy:=h2 y rfl
     exact ⟨fun _=>hy,fun c' hc=>by cases hc⟩
    |some w=>
     simp only [zRp] at h2
     by_cases hw:xL y w<0
     ·rw [decide_eq_true hw] at h2
      have hy:=h2 y rfl
      exact ⟨fun _=>hy,fun c' hc=>by cases hc;exact Int.le_trans hy (zNJ.1 hw)⟩
     ·rw [decide_eq_false hw] at h2
      have hy:=h2 w rfl
      exact ⟨fun _=>Int.le_trans hy (zNJ.2 hw),fun c' hc=>by cases hc;exact hy⟩
  refine ⟨fun x hx hxp=> ?_,yX.2⟩
  rcases List.mem_cons.1 hx with rfl|hx
  ·exact yX.1 hxp
  ·exact h1 x hx hxp
theorem zXM: ∀m,m<33→ ∀n,n<33→n≤m→zBU m&&&zBU n=zBU n:=by decide+kernel
theorem zVo (a n m:Int):ovB (zAi a n) (zAi a m)=true:=by
 have key: ∀n m:Int,jW n≤jW m→(decide ((zAi a n).2.1≤(zAi a m).2.1)&&zCg (zAi a n) (zAi a m).1)=true:=by
  intro n m h
  have h1:decide ((zAi a n).2.1≤(zAi a m).2.1)=true:=decide_eq_true (by show (jW n:Int)≤(jW m:Int);omega)
  have h2:zCg (zAi a n) (zAi a m).1=true:=by
   unfold zCg zAi
   simp only
   rw [zJt,zGZ,BitVec.and_assoc,zXM _ (by have:=zHM m;omega) _ (by have:=zHM n;omega) h]
   exact beq_self_eq_true _
  rw [h1,h2];rfl
 unfold ovB
 rcases Nat.le_total (jW n) (jW m) with h|h
 ·rw [key n m h];rfl
 ·rw [key m n h];simp
theorem zZQ {n:Ty.El zQ} {d:List Int} {v:Ty.El zR} (hv:xX n d v) {q q' k k':Nat} {r r':Ty.El zF} {y y':Ty.El qG} (h1:v.1.1[q]? =some r) (h2:r.2.2.1[k]? =some y) (h3:y.2.2.1≠0)
  (g1:v.1.1[q']? =some r') (g2:r'.2.2.1[k']? =some y') (g3:y'.2.2.1≠0) (ha:y.2.1=y'.2.1):q=q'∧k=k':=by
 rw [hv.net] at h1 g1
 by_cases hq:q=q'
 ·subst hq
  rw [h1] at g1
  cases g1
  have hok:=(zFB hv).rt r (List.mem_of_getElem? h1)
  refine ⟨rfl,?_⟩
  rcases Nat.lt_trichotomy k k' with hlt|heq|hgt
  ·have:=(hok.ifs _ y' g2).apart _ y hlt h2 g3 h3
   rw [ha,zVo] at this
   cases this
  ·exact heq
  ·have:=(hok.ifs _ y h2).apart _ y' hgt g2 h3 g3
   rw [ha,zVo] at this
   cases this
 ·exact absurd ha ((zFB hv).addr _ _ r r' hq h1 g1 y y' (List.mem_of_getElem? h2) (List.mem_of_getElem? g2) h3 g3)
theorem zRr {r:Ty.El zF} {nm:Ty.El .str} {x y:Ty.El zB} (hm:xZ r) (h1:0≤x.2.2.2.2.1∧x.2.2.2.2.1≤16777215) (h2:0≤x.2.2.2.2.2.2.1∧x.2.2.2.2.2.2.1≤65535) (h:zEz r nm x=some y):
  (0≤y.2.2.2.2.1∧y.2.2.2.2.1≤16777215)∧(0≤y.2.2.2.2.2.2.1∧y.2.2.2.2.2.2.1≤65535):=by
 unfold zEz at h
 cases hn:(nm==({ data:= #[] } :ByteArray)) with
 |true=>
  rw [hn] at h
  rw [←Option.some.inj h]
  exact ⟨h1,h2⟩
 |false=>
  rw [hn] at h
  simp only [cond_false] at h
  cases hp:zFp r nm x with
  |none=>rw [hp] at h;cases h
  |some c=>
   rw [hp] at h
   rw [←Option.some.inj h]
   have hc:=zXB hm hp
   exact ⟨zM5 hc.met h1,zM5 hc.tag h2⟩
structure qBm (x:Ty.El zB) (int:Bool):Prop where
 pre:vB x.1=true
 tag:0≤x.2.2.2.2.2.2.1∧x.2.2.2.2.2.2.1≤65535
 met:0≤x.2.2.2.2.1∧x.2.2.2.2.1≤16777215
 pref:zAS x
 path:x.2.2.2.2.2.2.2.2.1.length≤64
 sys: ∀a,a∈x.2.2.2.2.2.2.2.2.1→1≤a∧a≤65535
 ne:int=false→x.2.2.2.2.2.2.2.2.1≠[]
theorem zWm {q:Ty.El zF} {a:Int} {int:Bool} {x m:Ty.El zB} (hm:xZ q) (hC:PvC q) (hx:PvR x) (h:zOo q a int x=some m):qBm m int:=by
 obtain ⟨_,hpath,_⟩:=zSR hm h
 unfold zOo at h
 cases hh:(x.2.2.1==(4:Int)&&int)||zSG q x.1 with
 |true=>rw [hh] at h;cases h
 |false=>
  rw [hh] at h
  simp only [cond_false] at h
  cases hn:zFC q.2.2.2.2.2.2.2.2.2.2.1.2.2.2.1 a with
  |none=>rw [hn] at h;cases h
  |some nb=>
   rw [hn] at h
   simp only at h
   cases int with
   |true=>
    simp only [cond_true] at h
    cases ha:zEz q nb.2.2.2.1 x with
    |none=>rw [ha] at h;cases h
    |some y=>
     rw [ha] at h
     rw [←Option.some.inj h]
     obtain ⟨n1,n2⟩:=zRr hm hx.met hx.tag ha
     exact ⟨hx.pre,n2,n1,(zOV hm hx.pref ha:zAS y),hx.path,hx.sys,fun h=>by cases h⟩
   |false=>
    simp only [cond_false] at h
    cases ha:zEz q nb.2.2.2.1 (zGi x 0) with
    |none=>rw [ha] at h;cases h
    |some y=>
     rw [ha] at h
     simp only at h
     cases hd:decide (1+zNK q nb.2.2.2.1 (zGi x 0)+(x.2.2.2.2.2.2.2.2.1.length:Int)>(64:Int)) with
     |true=>rw [hd] at h;cases h
     |false=>
      rw [hd] at h
      have h:=(Option.some.inj h).symm
      obtain ⟨n1,n2⟩:=zRr (x:=zGi x 0) hm (show (0:Int)≤0∧(0:Int)≤16777215 by decide) hx.tag ha
      rcases hpath with ⟨h0,_⟩|⟨_,k,_,h1,h3⟩
      ·cases h0
      ·have e1:m.2.2.2.2.1=y.2.2.2.2.1:=by rw [h];rfl
       have e2:m.2.2.2.2.2.2.1=y.2.2.2.2.2.2.1:=by rw [h];rfl
       refine ⟨by rw [h];exact hx.pre,by rw [e2];exact n2,by rw [e1];exact n1,by rw [h];exact ⟨show (0:Int)≤100 by decide,show (100:Int)≤1000000 by decide⟩,?_,?_,?_⟩
       ·rw [h1,List.length_append,List.length_replicate];omega
       ·intro s hs
        rw [h1] at hs
        rcases List.mem_append.1 hs with hs|hs
        ·rw [(List.mem_replicate.1 hs).2];exact hC.sys
        ·exact hx.sys s hs
       ·intro _ hnil
        rw [h1] at hnil
        have:=congrArg List.length hnil
        rw [List.length_append,List.length_replicate] at this
        simp at this
theorem zWe {rt:Ty.El zF} {a i:Int} {int:Bool} {m y:Ty.El zB} (hm:xZ rt) (hC:PvC rt) (ha:a≠0) (hi:0≤i) (hx:qBm m int) (h:zQ0 rt a i int m=some y):PvV y∧y.2.2.2.2.2.2.2.2.2.1=a∧y.2.2.2.2.2.2.2.2.2.2.2.1=[(i,a,())]∧(y.2.2.1=3∨y.2.2.1=4):=by
 unfold zQ0 at h
 cases hh:m.2.2.2.2.2.2.2.2.1.any (fun x=>x==rt.2.1) with
 |true=>rw [hh] at h;cases h
 |false=>
  rw [hh] at h
  simp only [cond_false] at h
  cases hn:zFC rt.2.2.2.2.2.2.2.2.2.2.1.2.2.2.1 a with
  |none=>rw [hn] at h;cases h
  |some nb=>
   rw [hn] at h
   simp only at h
   cases hr:zEz rt nb.2.2.1 m with
   |none=>rw [hr] at h;cases h
   |some w=>
    rw [hr] at h
    rw [←Option.some.inj h]
    obtain ⟨n1,n2⟩:=zRr hm hx.met hx.tag hr
    cases int with
    |true=>exact ⟨⟨rfl,hx.pre,n2,hC.int,n1,(zOV hm hx.pref hr:zAS w),hx.path,hx.sys,rfl,rfl, .inr ⟨.inr rfl,ha,⟨i,hi,rfl⟩,rfl⟩⟩,rfl,rfl, .inr rfl⟩
    |false=>exact ⟨⟨rfl,hx.pre,n2,hC.ext,n1,(zOV hm hx.pref hr:zAS w),hx.path,hx.sys,rfl,rfl, .inr ⟨.inl ⟨rfl,hx.ne rfl⟩,ha,⟨i,hi,rfl⟩,rfl⟩⟩,rfl,rfl, .inl rfl⟩
end Go.Ve

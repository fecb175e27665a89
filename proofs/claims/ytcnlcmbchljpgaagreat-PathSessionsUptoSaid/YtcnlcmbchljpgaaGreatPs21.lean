/-
  Plain laws: the routes of one prefix are merged.
  Plain laws: the program's merging is the document's.
  Plain laws: the tables of distance-vector routing.
  Plain laws: the document's distance-vector tables.
  Plain laws of path-vector routing: sessions.
  PathSessions: the law answers true.
  Plain laws: the fixed network of distance-vector routing; DistTables.
  Plain laws of path-vector routing: what is told and what is made of it.
  PathLoops, PathSplit: the laws answer true.
  Plain laws: what a router makes of its neighbors' path-vector tables.
  Plain laws: what the checks say of redistribution and of the prefixes that path-vector routing originates.
  Plain laws: redistribution into path-vector routing; both sides answer the same list.
  Plain laws: the routes that a router originates; both sides answer the same list.
  Plain laws: states of a view; PathLocal.
  Plain laws: tables of path-vector routing: the program's Table.
  Plain laws: the fixed network of path-vector routing.
-/
import Derived.KernelRfl
import Derived.Test.YtcnlcmbchljpgaaGreatPs18
import Derived.Test.YtcnlcmbchljpgaaGreatPs12
import Derived.Test.YtcnlcmbchljpgaaGreatPs17
import Derived.Test.YtcnlcmbchljpgaaGreatPs13
set_option linter.unusedVariables false
namespace Go.Ve
open Go
set_option maxRecDepth 1000000
set_option maxHeartbeats 4000000
theorem zO8 {l l':List (Ty.El zA)} {p:Ty.El zF} (h:zAb p l=zAb p l'):mrg l p=mrg l' p:=by
 have hm: ∀x,(x∈l∧x.1=p)↔(x∈l'∧x.1=p):=fun x=>by rw [←zCT, ←zCT,h]
 unfold mrg
 have hb:zDt l p=zDt l' p:=by
  rw [zDs,zDs,h]
 rw [hb]
 cases zDt l' p with
 |none=>rfl
 |some b=>
  have hh:zD4 l p b=zD4 l' p b:=zCQ zJR (zAv _ _ _) (zAv _ _ _) (fun h'=>by
   rw [zDi,zDi]
   exact ⟨fun ⟨x,hx,e,k⟩=>⟨x,((hm x).1 ⟨hx,e⟩).1,e,k⟩,fun ⟨x,hx,e,k⟩=>⟨x,((hm x).2 ⟨hx,e⟩).1,e,k⟩⟩)
  rw [Option.map_some,Option.map_some,hh]
theorem zJF (p:Ty.El zF) (a b:List (Ty.El zA)):zAb p (a++b)=zAb p a++zAb p b:=by
 unfold zAb zKP
 exact List.filter_append _ _
theorem zNj {p:Ty.El zF} {l:List (Ty.El zA)} (h: ∀x,x∈l→x.1≠p):zAb p l=[]:=by
 unfold zAb zKP
 rw [List.filter_eq_nil_iff]
 intro x hx
 simpa using h x hx
theorem zU0 {p:Ty.El zF} {l:List (Ty.El zA)} (h: ∀x,x∈l→x.1=p):zAb p l=l:=by
 unfold zAb zKP
 rw [List.filter_eq_self]
 intro x hx
 simpa using h x hx
theorem zTJ {l:List (Ty.El zA)} {c:Option (Ty.El zA)} {i:Nat} {x:Ty.El zA} (h:l[i]? =some x):zKe c (l.take (i+1))=(bif zTK x (zKe c (l.take i)) then some x else zKe c (l.take i)):=by
 unfold zKe
 rw [List.take_add_one,h,Option.toList_some,List.foldl_append]
 rfl
def zJQ (b:Ty.El zA) (l:List (Ty.El zA)):List (Ty.El jH):=l.flatMap (fun x=>bif zBH x b==0 then x.2.2.2.2.2.2.2.2.2.2.2.1 else [])
theorem zSH (xs:List (Ty.El jH)):((if xs=[] then [] else srt zKL xs):List (Ty.El jH)).Pairwise (fun x y=> ¬hlt y x)∧(∀h,h∈(if xs=[] then [] else srt zKL xs)↔h∈xs)∧(if xs=[] then [] else srt zKL xs).length=xs.length:=by
 by_cases hx:xs=[]
 ·rw [if_pos hx,hx]
  exact ⟨List.Pairwise.nil,fun h=>Iff.rfl,rfl⟩
 ·rw [if_neg hx]
  obtain ⟨h1,h2,h3⟩:=zQZ zUl xs
  refine ⟨?_,fun h=>h1.mem_iff,h2⟩
  rw [List.pairwise_iff_getElem]
  intro i j hi hj hij hlt'
  have:=h3 i j _ _ hij (List.getElem?_eq_getElem hi) (List.getElem?_eq_getElem hj)
  rw [(zDM _ _).2 hlt'] at this
  cases this
theorem zHb (g:List (Ty.El zA)) (p:Ty.El zF) (hne:g≠[]) (hp: ∀x,x∈g→x.1=p) (hs: ∀x,x∈g→RtS x) (hl:g.length≤524288) (hP: ∀x y,x∈g→y∈g→yF (x,y,())=some (zBH x y)):
  Wp (zBd (g,())) (fun z=>mrg g p=some z):=by
 obtain ⟨y0,r,rfl⟩: ∃y0 r,g=y0::r:=by
  cases g with
  |nil=>exact absurd rfl hne
  |cons y r=>exact ⟨y,r,rfl⟩
 unfold zBd
 dsimp only
 have h0:idx (y0::r) (0:Int)=some y0:=rfl
 have hsub:sub (y0::r) (1:Int) ((List.length (y0::r):Nat):Int)=some r:=by
  have:=zVZ (xs:=y0::r) (k:=1) (by simp)
  simpa using this
 have hrl:r.length≤524288:=by simp only [List.length_cons] at hl;omega
 refine zC (qN h0 ?_)
 refine zC (Wp.mono (Q:=fun b=>zKe (some y0) r=some b∧b∈y0::r) ?_ ?_)
 ·refine zC (qN hsub ?_)
  refine wW (xs:=r) (by omega) (fun i (b:Ty.El zA)=>zKe (some y0) (r.take i)=some b∧b∈y0::r) ⟨rfl,by simp⟩ ?_ (fun b hb=>by rw [List.take_length] at hb;exact hb)
  rintro i x b hx ⟨hb,hbm⟩
  have hxm:x∈y0::r:=List.mem_cons_of_mem _ (List.mem_of_getElem? hx)
  simp only [zJ hx,Option.bind_some]
  refine zC (qN (hP x b hxm hbm) ?_)
  rw [zTJ hx,hb]
  refine zI (fun h=>zB ⟨?_,hxm⟩) (fun h=>zB ⟨?_,hbm⟩)
  ·have:zTK x (some b)=true:=decide_eq_true h
   rw [this];rfl
  ·have:zTK x (some b)=false:=decide_eq_false h
   rw [this];rfl
 ·rintro b ⟨hb,hbm⟩
  have hbest:zDt (y0::r) p=some b:=by
   rw [zDs,zU0 hp]
   exact hb
  have hbs:=hs b hbm
  have hbound: ∀i,i≤(y0::r).length→(zJQ b ((y0::r).take i)).length≤i*1048576:=by
   intro i hi
   have:=wU (xs:=(y0::r).take i) (f:=fun x:Ty.El zA=>bif zBH x b==0 then x.2.2.2.2.2.2.2.2.2.2.2.1 else []) (k:=1048576) (fun x hx=>by
    have:=(hs x (List.mem_of_mem_take hx)).hops
    cases zBH x b==0
    ·exact Nat.zero_le _
    ·exact this)
   rw [List.length_take,Nat.min_eq_left hi] at this
   exact this
  refine zC ((show Wp _ (fun hs0:List (Ty.El jH)=>hs0=zJQ b (y0::r)) from ?_).mono (fun hs0 hh=> ?_))
  ·refine wW (xs:=y0::r) (by omega) (fun i (h:List (Ty.El jH))=>h=zJQ b ((y0::r).take i)) rfl ?_ (fun h hh=>by rw [hh,List.take_length])
   intro i x h hx hh
   have hi:=(List.getElem?_eq_some_iff.1 hx).1
   have hxm:x∈y0::r:=List.mem_of_getElem? hx
   have hxh:=(hs x hxm).hops
   have hlh:h.length≤i*1048576:=by rw [hh];exact hbound i (by omega)
   simp only [zJ hx,Option.bind_some]
   refine zC (qN (hP x b hxm hbm) ?_)
   have hst:zJQ b ((y0::r).take (i+1))=h++(bif zBH x b==0 then x.2.2.2.2.2.2.2.2.2.2.2.1 else []):=by
    rw [hh]
    exact zJU hx
   rw [hst]
   refine zG (fun hz=> ?_) (fun hz=>zB ?_)
   ·rw [hz]
    exact zC (wH (by omega) (zB rfl))
   ·rw [hz];exact (List.append_nil h).symm
  ·have hlen:hs0.length≤549755813888:=by
    have:=hbound (y0::r).length (Nat.le_refl _)
    rw [List.take_length, ←hh] at this
    have h2:(y0::r).length*1048576≤524288*1048576:=Nat.mul_le_mul_right _ hl
    omega
   obtain ⟨s1,s2,s3⟩:=zSH hs0
   refine tt (Nat.beq_refl _) ?_
   have e1:uC hs0 ((),())=some (if hs0=[] then [] else srt zKL hs0,()):=by
    unfold uC
    rw [if_pos (by omega)]
   refine zC (qN e1 ?_)
   generalize (if hs0=[] then [] else srt zKL hs0)=hs1 at s1 s2 s3
   have e2:yD hs1 ()=some (vE zOI hs1):=by
    unfold yD
    rw [if_pos (by omega)]
   refine zC (qN e2 ?_)
   have hcm:vE zOI hs1=zD4 (y0::r) p b:=by
    refine zP8 s1 (fun h=> ?_)
    rw [s2,hh]
    unfold zJQ
    rw [List.mem_flatMap]
    constructor
    ·rintro ⟨x,hx,hxx⟩
     cases hz:zBH x b==0 with
     |false=>rw [hz] at hxx;cases hxx
     |true=>
      rw [hz] at hxx
      exact ⟨x,hx,hp x hx,by simpa using hz,hxx⟩
    ·rintro ⟨x,hx,_,hz,hxx⟩
     refine ⟨x,hx,?_⟩
     have:(zBH x b==0)=true:=by simpa using hz
     rw [this]
     exact hxx
   have hpath:=hbs.path
   have e3:jN (b.2.2.2.2.2.2.2.2.1,())=some b.2.2.2.2.2.2.2.2.1:=by
    refine wQ ?_
    unfold jN
    exact zC (wH (by simp only [List.length_nil];omega) (zB rfl))
   refine zC (qN e3 (zB ?_))
   unfold mrg
   rw [hbest,hcm]
   obtain ⟨⟨a1,a2,⟨⟩⟩,b⟩:=b
   rfl
end Go.Ve

namespace Go.Ve
open Go
set_option maxRecDepth 1000000
set_option maxHeartbeats 4000000
theorem zIt {l:List (Ty.El zA)} {z:Ty.El zA} :z∈zAJ l↔ ∃q,(∃x,x∈l∧x.1=q)∧mrg l q=some z:=by
 unfold zAJ
 rw [List.mem_filterMap]
 exact ⟨fun ⟨q,h1,h2⟩=>⟨q,(zJo l q).1 h1,h2⟩,fun ⟨q,h1,h2⟩=>⟨q,(zJo l q).2 h1,h2⟩⟩
theorem zP2 {a g:List (Ty.El zA)} {p:Ty.El zF} {z:Ty.El zA} (ha: ∀x,x∈a→plt x.1 p) (hg: ∀x,x∈g→x.1=p) (hne:g≠[]) (hz:mrg g p=some z):zAJ (a++g)=zAJ a++[z]:=by
 have hirr: ∀q:Ty.El zF, ¬plt q q:=fun q h=>zGU.asym _ _ h h
 have hane: ∀x,x∈a→x.1≠p:=fun x hx e=>by have:=ha x hx;rw [e] at this;exact hirr p this
 have hzp:z.1=p:=zMt hz
 have e1: ∀q,q≠p→mrg (a++g) q=mrg a q:=fun q hq=>zO8 (by
  rw [zJF,zNj (l:=g) (fun x hx e=>hq (e.symm.trans (hg x hx))),List.append_nil])
 have e2:mrg (a++g) p=mrg g p:=zO8 (by rw [zJF,zNj hane,List.nil_append])
 refine zCQ zUc (zHI _) ?_ ?_
 ·rw [List.pairwise_append]
  refine ⟨zHI a,List.pairwise_singleton _ _,?_⟩
  intro x hx y hy
  rw [List.mem_singleton] at hy
  subst hy
  obtain ⟨q,⟨x0,hx0,hq⟩,hm⟩:=zIt.1 hx
  unfold rlt
  rw [hzp,zMt hm, ←hq]
  exact ha x0 hx0
 ·intro y
  rw [List.mem_append,List.mem_singleton,zIt,zIt]
  constructor
  ·rintro ⟨q,⟨x,hx,hq⟩,hm⟩
   by_cases hqp:q=p
   ·subst hqp
    rw [e2,hz] at hm
    exact .inr (Option.some.inj hm).symm
   ·refine .inl ⟨q,⟨x,?_,hq⟩,by rw [←e1 q hqp];exact hm⟩
    rcases List.mem_append.1 hx with h|h
    ·exact h
    ·exact absurd ((hg x h).symm.trans hq).symm hqp
  ·rintro (⟨q,⟨x,hx,hq⟩,hm⟩|rfl)
   ·have hqp:q≠p:=fun e=>hane x hx (hq.trans e)
    exact ⟨q,⟨x,List.mem_append_left _ hx,hq⟩,by rw [e1 q hqp];exact hm⟩
   ·obtain ⟨x,hx⟩:=List.exists_mem_of_ne_nil g hne
    exact ⟨p,⟨x,List.mem_append_right _ hx,hg x hx⟩,by rw [e2];exact hz⟩
theorem zS2 (l:List (Ty.El zA)):(zAJ l).length≤l.length:=Nat.le_trans (List.length_filterMap_le _ _) (zWt l)
theorem zKt (l:List (Ty.El zA)) (hl:l.length≤524288) (hs: ∀x,x∈l→RtS x) (hP: ∀x y,x∈l→y∈l→yF (x,y,())=some (zBH x y)):
  Wp (zDH (l,())) (fun r=>r=zAJ l):=by
 unfold zDH
 dsimp only
 have e0:yE (l,())=some l:=by
  refine wQ ?_
  unfold yE
  exact zC (wH (by simp only [List.length_nil];omega) (zB rfl))
 refine zC (qN e0 ?_)
 refine tt (by simp) ?_
 refine zC ((show Wp (uL l ((),())) _ from zLQ l (by omega)).mono ?_)
 rintro ⟨s,⟨⟩⟩ ⟨hsl,hsame,hso⟩
 simp only at hsl hsame hso
 rw [zRz hsame]
 have hm: ∀x,x∈s→x∈l:=by
  intro x hx
  have h1:= @zCT x.1 x l
  have h2:= @zCT x.1 x s
  have h3:zAb x.1 l=zAb x.1 s:=hsame x.1
  rw [h3] at h1
  exact (h1.1 (h2.2 ⟨hx,rfl⟩)).1
 have hn:s.length≤524288:=by omega
 have hso':=List.pairwise_iff_getElem.1 hso
 refine zC ((show Wp _ (fun r=>r=zAJ s) from ?_).mono (fun r hr=>zB hr))
 refine jW (fun q:Int×List (Ty.El zA)=> ∃i:Nat,q.1=(i:Int)∧i≤s.length∧q.2=zAJ (s.take i)∧(0<i→ ∀x y,s[i-1]? =some x→s[i]? =some y→x.1≠y.1)) (fun q=>((s.length:Int) -q.1).toNat)
  ⟨(0:Nat),rfl,Nat.zero_le _,rfl,fun h=>absurd h (Nat.lt_irrefl 0)⟩ ?_
 rintro ⟨st,mg⟩ ⟨i,hi,hil,hmg,hbd⟩
 simp only at hi hmg
 subst hi
 refine zI (fun hc=> ?_) (fun hc=> ?_)
 ·have hc:(i:Int)< (s.length:Int):=hc
  have hlt:i<s.length:=by omega
  have hx:s[i]? =some s[i]:=by simp [hlt]
  generalize hxi:s[i]=xi at hx
  refine zC ((show Wp _ (fun q:List (Ty.El zA)×Int=>q.1=mg∧ ∃e:Nat,q.2=(e:Int)∧i<e∧e≤s.length∧(∀k y,i≤k→k<e→s[k]? =some y→y.1=xi.1)∧(∀y,s[e]? =some y→y.1≠xi.1)) from ?_).mono ?_)
  ·refine jW (fun q:Int×List (Ty.El zA)=>q.2=mg∧ ∃e:Nat,q.1=(e:Int)∧i<e∧e≤s.length∧(∀k y,i≤k→k<e→s[k]? =some y→y.1=xi.1)) (fun q=>((s.length:Int) -q.1).toNat) ⟨rfl,i+1,?_,Nat.lt_succ_self i,hlt,?_⟩ ?_
   ·rw [zH (by omega) (by omega)];omega
   ·intro k y h1 h2 hy
    have:k=i:=by omega
    subst this
    rw [hx] at hy
    cases hy
    rfl
   ·rintro ⟨q1,q2⟩ ⟨rfl,e,he,hie,hel,hall⟩
    simp only at he
    subst he
    refine zC ((show Wp _ (fun b:Bool×List (Ty.El zA)=>b.2=q2∧(b.1=true→ ∃y,s[e]? =some y∧y.1=xi.1)∧(b.1=false→ ∀y,s[e]? =some y→y.1≠xi.1)) from ?_).mono ?_)
    ·refine zI (fun h=> ?_) (fun h=>zB ⟨rfl,(fun h'=>by cases h'),fun _ y hy=> ?_⟩)
     ·have h:(e:Int)< (s.length:Int):=h
      have hye:s[e]? =some (s[e]'(by omega)):=by simp
      generalize (s[e]'(by omega))=ye at hye
      simp only [zJ hye,zJ hx,Option.bind_some]
      refine zB ⟨rfl,fun hb=>⟨ye,hye,zGf hb⟩,fun hb y hy=> ?_⟩
      have hyy:y=ye:=by rw [hye] at hy;exact (Option.some.inj hy).symm
      subst hyy
      intro e0
      have hb:(y.1.fst==xi.1.fst&&(y.1.snd.fst==xi.1.snd.fst&&true))=false:=hb
      rw [e0] at hb
      simp at hb
     ·have h: ¬(e:Int)< (s.length:Int):=h
      have:=(List.getElem?_eq_some_iff.1 hy).1
      omega
    ·rintro ⟨b,q3⟩ ⟨hq,hbt,hbf⟩
     simp only at hq hbt hbf
     subst hq
     refine zG (fun hb=> ?_) (fun hb=>zB (e2r ⟨rfl,e,rfl,hie,hel,hall,hbf hb⟩))
     obtain ⟨y,hy,hyp⟩:=hbt hb
     have hel':=(List.getElem?_eq_some_iff.1 hy).1
     have hw:IntKind.wrap IntKind.i64 ((e:Int)+1)=((e+1:Nat):Int):=by rw [zH (by omega) (by omega)];omega
     refine zB (e2l ⟨⟨rfl,e+1,hw,by omega,hel',?_⟩,?_⟩)
     ·intro k y' h1 h2 hy'
      rcases Nat.lt_or_ge k e with h3|h3
      ·exact hall k y' h1 h3 hy'
      ·have:k=e:=by omega
       subst this
       rw [hy] at hy'
       cases hy'
       exact hyp
     ·simp only [hw];omega
  ·rintro ⟨q1,q2⟩ ⟨hq,e,he,hie,hel,hall,hend⟩
   simp only at hq he
   subst hq
   subst he
   have hsub:sub s (i:Int) (e:Int)=some ((s.take e).drop i):=by
    unfold sub
    rw [if_pos ⟨by omega,by omega,by omega⟩]
    simp
   have hgm: ∀x,x∈(s.take e).drop i→x∈s∧x.1=xi.1:=by
    intro x hx'
    obtain ⟨k,hk,rfl⟩:=List.getElem_of_mem hx'
    rw [List.length_drop,List.length_take] at hk
    have hke:((s.take e).drop i)[k]=s[i+k]'(by omega):=by rw [List.getElem_drop,List.getElem_take]
    rw [hke]
    exact ⟨List.getElem_mem _,hall (i+k) _ (by omega) (by omega) (by simp)⟩
   have hgl:((s.take e).drop i).length=e-i:=by rw [List.length_drop,List.length_take];omega
   have hgn:(s.take e).drop i≠[]:=fun h=>by rw [h] at hgl;simp only [List.length_nil] at hgl;omega
   refine zC (qN hsub ?_)
   refine zC ((zHb _ xi.1 hgn (fun x hx'=>(hgm x hx').2) (fun x hx'=>hs x (hm x (hgm x hx').1)) (by omega) (fun x y hx' hy'=>hP x y (hm x (hgm x hx').1) (hm y (hgm y hy').1))).mono (fun z hz=> ?_))
   have hml:=zS2 (s.take i)
   rw [List.length_take] at hml
   have hql:q1.length≤524288:=by rw [hmg];omega
   refine zC (wH (by simp only [List.length_singleton];omega) (zB (e2l ⟨⟨e,rfl,hel,?_,?_⟩,?_⟩)))
   ·have hta:s.take e=s.take i++(s.take e).drop i:=by
     have h1:=List.take_append_drop i (s.take e)
     rw [List.take_take,Nat.min_eq_left (by omega)] at h1
     exact h1.symm
    rw [hta,hmg]
    refine (zP2 (p:=xi.1) ?_ (fun x hx'=>(hgm x hx').2) hgn hz).symm
    intro x hx'
    obtain ⟨a,ha,rfl⟩:=List.getElem_of_mem hx'
    rw [List.length_take] at ha
    rw [List.getElem_take]
    have hi0:0<i:=by omega
    have hx1:s[i-1]? =some (s[i-1]'(by omega)):=by simp
    have hne:=hbd hi0 _ _ hx1 hx
    have h1:=hso' (i-1) i (by omega) hlt (by omega)
    rw [hxi] at h1
    have h2:plt (s[i-1]'(by omega)).1 xi.1:=zSV h1 hne
    by_cases hai:a=i-1
    ·subst hai;exact h2
    ·have h3:=hso' a (i-1) (by omega) (by omega) (by omega)
     unfold rlt plt zD0 at*
     omega
   ·intro _ x y hx' hy' hxy
    have h1:x.1=xi.1:=hall (e-1) x (by omega) (by omega) hx'
    exact hend y hy' (hxy.symm.trans h1)
   ·simp only;omega
 ·have hc: ¬(i:Int)< (s.length:Int):=hc
  have:i=s.length:=by omega
  subst this
  refine zB (e2r ?_)
  simp only [hmg,List.take_length]
end Go.Ve





namespace Go.Ve
open Go
set_option maxRecDepth 1000000
set_option maxHeartbeats 4000000
theorem j7 (v:Ty.El zR) (r i:Nat) (rt:Ty.El zD) (x:Ty.El z8) (hr:v.1.1[r]? =some rt) (hx:rt.2.2.1[i]? =some x):
  Wp (qZ (v,(r:Int),(i:Int),())) (fun y=>y=(x,true,())):=by
 unfold qZ
 dsimp only
 have hrl:=(List.getElem?_eq_some_iff.1 hr).1
 have hil:=(List.getElem?_eq_some_iff.1 hx).1
 have q0: ¬((r:Int)<0):=by omega
 have q1: ¬((r:Int)≥(List.length v.1.1:Int)):=by omega
 have q2: ¬((i:Int)<0):=by omega
 refine zC ((show Wp _ (fun s:Bool=>s=false) from ?_).mono (fun s hs=> ?_))
 ·refine zI (fun h=>absurd h q0) (fun _=>zI (fun h=>absurd h q1) (fun _=>zI (fun h=>absurd h q2) (fun _=> ?_)))
  simp only [zJ hr,Option.bind_some]
  refine zB ?_
  have: ¬((i:Int)≥(List.length rt.2.2.1:Int)):=by omega
  exact decide_eq_false this
 ·subst hs
  simp only [cond_false,zJ hr,zJ hx,Option.bind_some]
  exact zB rfl
def zMV (rt q:Ty.El zD) (x y:Ty.El z8):Bool:=
 q.2.2.2.2.2.2.2.2.2.2.1.1&&(knB rt.2.2.2.2.2.2.2.2.2.2.1.2.2.2.1 y.2.1 q.2.1&&knB q.2.2.2.2.2.2.2.2.2.2.1.2.2.2.1 x.2.1 rt.2.1)
def zLW (v:Ty.El zR) (r i:Int) (rt:Ty.El zD) (x:Ty.El z8) (e:Ty.El zL):Option (Ty.El zK):=
 match v.1.1[Int.toNat e.1]? with
 |some q=>match q.2.2.1[Int.toNat e.2.1]? with
  |some y=>bif zMV rt q x y then some (e.1,e.2.1,r,i,q.2.1==rt.2.1,()) else none
  |none=>none
 |none=>none
def zBb (v:Ty.El zR) (r:Int) (rt:Ty.El zD) (i:Nat):List (Ty.El zK):=
 match rt.2.2.1[i]? with
 |some x=>bif rt.2.2.2.2.2.2.2.2.2.2.1.1 then (zD3 v r i (fun e=>e.1 !=r)).filterMap (zLW v r i rt x) else []
 |none=>[]
def zDY (v:Ty.El zR) (r:Nat):List (Ty.El zK):=
 match v.1.1[r]? with
 |some rt=>(List.range rt.2.2.1.length).flatMap (zBb v r rt)
 |none=>[]
def zFJ (v:Ty.El zR):List (Ty.El zK):=(List.range v.1.1.length).flatMap (zDY v)
theorem zEi {v:Ty.El zR} (hv:zAW v) (r:Int) (rt:Ty.El zD) (i:Nat):(zBb v r rt i).length≤360:=by
 unfold zBb
 split
 ·cases rt.2.2.2.2.2.2.2.2.2.2.1.1
  ·exact Nat.zero_le _
  ·exact Nat.le_trans (List.length_filterMap_le _ _) (zNk hv _ _ _)
 ·exact Nat.zero_le _
theorem zMU {v:Ty.El zR} (hv:zAW v) (r:Nat):(zDY v r).length≤7200:=by
 unfold zDY
 split
 ·rename_i rt hr
  have h1:=wU (xs:=List.range rt.2.2.1.length) (f:=zBb v r rt) (k:=360) (fun i _=>zEi hv r rt i)
  have h2:=(hv.sm rt (List.mem_of_getElem? hr)).i1
  have h2:rt.2.2.1.length≤20:=h2
  rw [List.length_range] at h1
  omega
 ·exact Nat.zero_le _
theorem zV9 {v:Ty.El zR} (hv:zAW v):(zFJ v).length≤64800:=by
 have h1:=wU (xs:=List.range v.1.1.length) (f:=zDY v) (k:=7200) (fun i _=>zMU hv i)
 have h2:=hv.rs
 rw [List.length_range] at h1
 unfold zFJ
 omega
structure zLK (v:Ty.El zR):Prop where
 s:zAW v
 nb: ∀r,r∈v.1.1→zTY r.2.2.2.2.2.2.2.2.2.2.1.2.2.2.1
 ends : ∀ (r i : Int) (e : Ty.El zL), upB v r i = true → e ∈ vW v r i → (0 : Int) ≤ e.1 ∧ (0 : Int) ≤ e.2.1 ∧ ∃ q y, v.1.1[Int.toNat e.1]? = some q ∧ q.2.2.1[Int.toNat e.2.1]? = some y
 own: ∀ (r i:Int),zD3 v r i (fun e=>e.1 !=r||e.2.1 !=i)=zD3 v r i (fun e=>e.1 !=r)
theorem zAi.p {n:Ty.El zT} {d:List Int} {v:Ty.El zR} (hv:zAi n d v):zLK v where
 s:=hv.s
 nb:=fun r hr=>zZ2 ((zWB hv).rt r (by rw [←hv.net];exact hr)) (hv.s.sm r hr)
 ends := fun r i e hu he => by
  obtain ⟨e0,e1,q,y,e2,e3,_⟩:=zXj hv hu he
  exact ⟨e0,e1,q,y,e2,e3⟩
 own:=fun r i=>zWD hv r i
theorem yM (v:Ty.El zR) (hv:zLK v) (r i:Nat) (rt:Ty.El zD) (x:Ty.El z8) (hr:v.1.1[r]? =some rt) (hx:rt.2.2.1[i]? =some x):
  Wp (j3 (v,(r:Int),(i:Int),())) (fun l=>l=zBb v r rt i):=by
 unfold j3
 dsimp only
 have hs:=hv.s
 have hsm:=hs.sm rt (List.mem_of_getElem? hr)
 have hnb:=hv.nb rt (List.mem_of_getElem? hr)
 refine zC (qN (zJ hr) (zC ((j7 v r i rt x hr hx).mono (fun y1 hy1=> ?_))))
 subst hy1
 have hI:zBb v r rt i=bif rt.2.2.2.2.2.2.2.2.2.2.1.1 then (zD3 v r i (fun e=>e.1 !=(r:Int))).filterMap (zLW v r i rt x) else []:=by
  unfold zBb;rw [hx]
 rw [hI]
 refine zG (fun h=>zB ?_) (fun h=> ?_)
 ·have h:rt.2.2.2.2.2.2.2.2.2.2.1.1=false:=by simpa using h
  rw [h];rfl
 have h:rt.2.2.2.2.2.2.2.2.2.2.1.1=true:=by simpa using h
 rw [h]
 refine zC (zC ((zHa v r i hs).mono (fun ns hns=> ?_)))
 rw [hv.own] at hns
 have hnl:ns.length≤360:=by rw [hns];exact zNk hs _ _ _
 refine (wW (xs:=ns) (by omega) (fun j (g:List (Ty.El zK))=>g=(ns.take j).filterMap (zLW v r i rt x)) rfl ?_ (fun g hg=>zB ?_))
 ·intro j e g he hg
  have hj:=(List.getElem?_eq_some_iff.1 he).1
  have hgl:g.length≤360:=by
   rw [hg]
   exact Nat.le_trans (List.length_filterMap_le _ _) (Nat.le_trans (List.length_take_le' _ _) hnl)
  simp only [zJ he,Option.bind_some]
  rw [wV he, ←hg]
  have hem:=List.mem_of_getElem? he
  rw [hns] at hem
  obtain ⟨u1,u2,_⟩:=zJI hem
  obtain ⟨b0,b1,q,y,b2,b3⟩:=hv.ends _ _ _ u1 u2
  obtain ⟨e1,e2,⟨⟩⟩:=e
  obtain ⟨qn,rfl⟩:=Int.eq_ofNat_of_zero_le (show (0:Int)≤e1 from b0)
  obtain ⟨kn,rfl⟩:=Int.eq_ofNat_of_zero_le (show (0:Int)≤e2 from b1)
  have c2:v.1.1[qn]? =some q:=b2
  have c3:q.2.2.1[kn]? =some y:=b3
  have hqm:=List.mem_of_getElem? c2
  have hE:zLW v r i rt x ((qn:Int),(kn:Int),())=bif zMV rt q x y then some ((qn:Int),(kn:Int),(r:Int),(i:Int),q.2.1==rt.2.1,()) else none:=by
   unfold zLW
   simp only [Int.toNat_natCast,c2,c3]
  rw [hE]
  refine zC ((j7 v qn kn q y c2 c3).mono (fun z hz=> ?_))
  subst hz
  refine ff rfl ?_
  simp only [zJ c2,Option.bind_some]
  refine zC ((show Wp _ (fun s:Bool×List (Ty.El zK)=>s.1=zMV rt q x y∧s.2=g) from ?_).mono (fun s hs'=> ?_))
  ·unfold zMV
   refine zG (fun h1=> ?_) (fun h1=>zB ⟨by rw [h1];rfl,rfl⟩)
   rw [h1]
   refine zC ((zBF rt _ _ hsm hnb).mono (fun b hb=> ?_))
   subst hb
   refine zG (fun h2=> ?_) (fun h2=>zB ⟨by rw [h2];rfl,rfl⟩)
   rw [h2]
   refine zC ((zBF q _ _ (hs.sm q hqm) (hv.nb q hqm)).mono (fun c hc=>zB ⟨?_,rfl⟩))
   rw [hc];rfl
  ·obtain ⟨s1,s2⟩:=s
   obtain ⟨k1,k2⟩:=hs'
   simp only at k1 k2
   subst k2
   refine zG (fun hb=> ?_) (fun hb=>zB ?_)
   ·have hb:s1=true:=hb
    rw [←k1,hb]
    exact zC (wH (by simp only [List.length_singleton];omega) (zB rfl))
   ·have hb:s1=false:=hb
    rw [←k1,hb]
    exact (List.append_nil s2).symm
 ·rw [hg,List.take_length,hns];rfl
theorem zAm (v:Ty.El zR) (hv:zLK v):Wp (vC (v,())) (fun l=>l=zFJ v):=by
 unfold vC
 dsimp only
 have hs:=hv.s
 have hrs:=hs.rs
 refine zC ((wW (xs:=v.1.1) (by omega) (fun i (g:List (Ty.El zK))=>g=(List.range i).flatMap (zDY v)) rfl ?_ (Q:=fun g=>g=zFJ v) (fun g hg=>hg)).mono (fun g hg=>zB hg))
 intro r rt g hr hg
 have hrl:=(List.getElem?_eq_some_iff.1 hr).1
 have hgl:g.length≤r*7200:=by
  have h2:=wU (xs:=List.range r) (f:=zDY v) (k:=7200) (fun j _=>zMU hs j)
  rw [List.length_range] at h2
  rw [hg];exact h2
 have hsm:=hs.sm rt (List.mem_of_getElem? hr)
 have hil:rt.2.2.1.length≤20:=hsm.i1
 have yP:(List.range (r+1)).flatMap (zDY v)=g++(List.range rt.2.2.1.length).flatMap (zBb v r rt):=by
  rw [List.range_succ,List.flatMap_append, ←hg]
  have:zDY v r=(List.range rt.2.2.1.length).flatMap (zBb v r rt):=by unfold zDY;rw [hr]
  simp [this]
 rw [yP]
 simp only [zJ hr,Option.bind_some]
 refine jW (fun s:Int×List (Ty.El zK)=> ∃i:Nat,s.1=(i:Int)∧i≤rt.2.2.1.length∧s.2=g++(List.range i).flatMap (zBb v r rt)) (fun s=>((rt.2.2.1.length:Int) -s.1).toNat) ⟨0,rfl,Nat.zero_le _,by simp⟩ ?_
 rintro ⟨s,g'⟩ ⟨i,hi,hil2,hg'⟩
 simp only at hi hg'
 subst hi
 refine zI (fun h=> ?_) (fun h=>zB (e2r ?_))
 ·have h:(i:Int)< (rt.2.2.1.length:Int):=h
  obtain ⟨x,hx⟩: ∃x,rt.2.2.1[i]? =some x:=⟨_,List.getElem?_eq_getElem (by omega)⟩
  have hg'l:g'.length≤r*7200+i*360:=by
   have h2:=wU (xs:=List.range i) (f:=zBb v r rt) (k:=360) (fun j _=>zEi hs r rt j)
   rw [List.length_range] at h2
   rw [hg',List.length_append]
   omega
  have hsl:=zEi hs r rt i
  refine zC ((yM v hv r i rt x hr hx).mono (fun l hl=> ?_))
  refine zC (wH (by simp only [hl];omega) (zB (e2l ⟨⟨i+1,?_,by omega,?_⟩,?_⟩)))
  ·simp only;rw [zH (by omega) (by omega)];omega
  ·rw [hl,hg',List.range_succ,List.flatMap_append,List.append_assoc]
   simp
  ·simp only;rw [zH (by omega) (by omega)];omega
 ·have h: ¬(i:Int)< (rt.2.2.1.length:Int):=h
  have:i=rt.2.2.1.length:=by omega
  subst this
  exact hg'
theorem zHd (v:Ty.El zR) (hv:zLK v):Wp (zBh (v,())) (fun l=>l=zFJ v):=by
 unfold zBh
 dsimp only
 have hs:=hv.s
 have hrs:=hs.rs
 refine zC ((wW (xs:=v.1.1) (by omega) (fun i (g:List (Ty.El zK))=>g=(List.range i).flatMap (zDY v)) rfl ?_ (Q:=fun g=>g=zFJ v) (fun g hg=>hg)).mono (fun g hg=>zB hg))
 intro r rt g hr hg
 have hrl:=(List.getElem?_eq_some_iff.1 hr).1
 have hgl:g.length≤r*7200:=by
  have h2:=wU (xs:=List.range r) (f:=zDY v) (k:=7200) (fun j _=>zMU hs j)
  rw [List.length_range] at h2
  rw [hg];exact h2
 have hsm:=hs.sm rt (List.mem_of_getElem? hr)
 have hil:rt.2.2.1.length≤20:=hsm.i1
 have yP:(List.range (r+1)).flatMap (zDY v)=g++(List.range rt.2.2.1.length).flatMap (zBb v r rt):=by
  rw [List.range_succ,List.flatMap_append, ←hg]
  have:zDY v r=(List.range rt.2.2.1.length).flatMap (zBb v r rt):=by unfold zDY;rw [hr]
  simp [this]
 rw [yP]
 simp only [zJ hr,Option.bind_some]
 have hoff:rt.2.2.2.2.2.2.2.2.2.2.1.1=false→(List.range rt.2.2.1.length).flatMap (zBb v r rt)=[]:=by
  intro h
  rw [List.flatMap_eq_nil_iff]
  intro i _
  unfold zBb
  rw [h]
  split<;>rfl
 refine jW (fun s:Int×List (Ty.El zK)=> ∃i:Nat,s.1=(i:Int)∧i≤rt.2.2.1.length∧s.2=g++(List.range i).flatMap (zBb v r rt)∧(rt.2.2.2.2.2.2.2.2.2.2.1.1=false→s.2=g)) (fun s=>((rt.2.2.1.length:Int) -s.1).toNat) ⟨0,rfl,Nat.zero_le _,by simp,fun _=>rfl⟩ ?_
 rintro ⟨s,g'⟩ ⟨i,hi,hil2,hg',hgo⟩
 simp only at hi hg' hgo
 subst hi
 refine zC ((show Wp _ (fun b:Bool×List (Ty.El zK)=>b.1=(rt.2.2.2.2.2.2.2.2.2.2.1.1&&decide ((i:Int)< (rt.2.2.1.length:Int)))∧b.2=g') from ?_).mono (fun b hb=> ?_))
 ·refine zG (fun h=>zB ⟨?_,rfl⟩) (fun h=>zB ⟨?_,rfl⟩)
  ·rw [h];rfl
  ·rw [h];rfl
 obtain ⟨b1,b2⟩:=b
 obtain ⟨hb1,hb2⟩:=hb
 simp only at hb1 hb2
 subst hb1 hb2
 refine zG (fun hb=> ?_) (fun hb=>zB (e2r ?_))
 ·simp only [Bool.and_eq_true,decide_eq_true_eq] at hb
  obtain ⟨hon,h⟩:=hb
  obtain ⟨x,hx⟩: ∃x,rt.2.2.1[i]? =some x:=⟨_,List.getElem?_eq_getElem (by omega)⟩
  have hg'l:b2.length≤r*7200+i*360:=by
   have h2:=wU (xs:=List.range i) (f:=zBb v r rt) (k:=360) (fun j _=>zEi hs r rt j)
   rw [List.length_range] at h2
   rw [hg',List.length_append]
   omega
  have hI:zBb v r rt i=(zD3 v r i (fun e=>e.1 !=(r:Int))).filterMap (zLW v r i rt x):=by
   unfold zBb;rw [hx,hon];rfl
  refine zC (Wp.mono (Q:=fun g2=>g2=b2++zBb v r rt i) ?_ (fun g2 hg2=>zB (e2l ⟨⟨i+1,?_,by omega,?_,fun hf=>by rw [hf] at hon;cases hon⟩,?_⟩)))
  ·rw [hI]
   refine zC ((zF6 v r i hs).mono (fun ns hns=> ?_))
   have hnl:ns.length≤360:=by rw [hns];exact zNk hs _ _ _
   refine (wW (xs:=ns) (by omega) (fun j (g3:List (Ty.El zK))=>g3=b2++(ns.take j).filterMap (zLW v r i rt x)) (by simp) ?_ (fun g3 hg3=>by rw [hg3,List.take_length,hns]))
   intro j e g3 he hg3
   have hj:=(List.getElem?_eq_some_iff.1 he).1
   have hgl3:g3.length≤r*7200+i*360+360:=by
    have h2:=List.length_filterMap_le (zLW v r i rt x) (ns.take j)
    have h3:=List.length_take_le' j ns
    rw [hg3,List.length_append]
    omega
   simp only [zJ he,Option.bind_some]
   rw [wV he, ←List.append_assoc, ←hg3]
   have hem:=List.mem_of_getElem? he
   rw [hns] at hem
   obtain ⟨u1,u2,_⟩:=zJI hem
   obtain ⟨b0,b1,q,y,b2',b3⟩:=hv.ends _ _ _ u1 u2
   have hat:=zOm v e q y b0 b1 b2' b3
   obtain ⟨e1,e2,⟨⟩⟩:=e
   obtain ⟨qn,rfl⟩:=Int.eq_ofNat_of_zero_le (show (0:Int)≤e1 from b0)
   obtain ⟨kn,rfl⟩:=Int.eq_ofNat_of_zero_le (show (0:Int)≤e2 from b1)
   have c2:v.1.1[qn]? =some q:=b2'
   have c3:q.2.2.1[kn]? =some y:=b3
   have hqm:=List.mem_of_getElem? c2
   have hE:zLW v r i rt x ((qn:Int),(kn:Int),())=bif zMV rt q x y then some ((qn:Int),(kn:Int),(r:Int),(i:Int),q.2.1==rt.2.1,()) else none:=by
    unfold zLW
    simp only [Int.toNat_natCast,c2,c3]
   rw [hE]
   simp only [zJ c2,Option.bind_some]
   refine zC ((show Wp _ (fun s:Bool×List (Ty.El zK)=>s.1=zMV rt q x y∧s.2=g3) from ?_).mono (fun s hs'=> ?_))
   ·unfold zMV
    refine zG (fun h1=> ?_) (fun h1=>zB ⟨by rw [h1];rfl,rfl⟩)
    rw [h1]
    refine zC (hat.mono (fun z hz=> ?_))
    subst hz
    refine zC ((zFp rt _ _ hsm).mono (fun k hk=> ?_))
    subst hk
    have hk1:=zM8 rt.2.2.2.2.2.2.2.2.2.2.1.2.2.2.1 z.2.1 q.2.1
    refine zG (fun h2=> ?_) (fun h2=>zB ⟨?_,rfl⟩)
    ·rw [←hk1,h2]
     simp only [zJ hx,Option.bind_some]
     refine zC ((zFp q _ _ (hs.sm q hqm)).mono (fun k' hk'=>zB ⟨?_,rfl⟩))
     subst hk'
     rw [zM8];rfl
    ·rw [←hk1,h2];rfl
   ·obtain ⟨s1,s2⟩:=s
    obtain ⟨k1,k2⟩:=hs'
    simp only at k1 k2
    subst k2
    refine zG (fun hb=> ?_) (fun hb=>zB ?_)
    ·have hb:s1=true:=hb
     rw [←k1,hb]
     refine zC (wH (by simp only [List.length_singleton];omega) (zB ?_))
     have hc:(rt.2.1==q.2.1)=(q.2.1==rt.2.1):=by
      rw [Bool.eq_iff_iff,beq_iff_eq,beq_iff_eq]
      exact ⟨Eq.symm,Eq.symm⟩
     rw [hc];rfl
    ·have hb:s1=false:=hb
     rw [←k1,hb]
     exact (List.append_nil s2).symm
  ·simp only;rw [zH (by omega) (by omega)];omega
  ·rw [hg2,hg',List.range_succ,List.flatMap_append,List.append_assoc]
   simp
  ·simp only;rw [zH (by omega) (by omega)];omega
 ·simp only at hb ⊢
  cases hon:rt.2.2.2.2.2.2.2.2.2.2.1.1 with
  |false=>rw [hoff hon,hgo hon,List.append_nil]
  |true=>
   rw [hon] at hb
   have h: ¬(i:Int)< (rt.2.2.1.length:Int):=by simpa using hb
   have:i=rt.2.2.1.length:=by omega
   subst this
   exact hg'
end Go.Ve

namespace Go.Ve
open Go
set_option maxRecDepth 1000000
set_option maxHeartbeats 4000000
theorem zNl {v:Ty.El zR} {x:Ty.El zK} :x∈zFJ v↔ ∃ (r i:Nat) (rt:Ty.El zD) (z:Ty.El z8) (e:Ty.El zL) (q:Ty.El zD) (y:Ty.El z8),v.1.1[r]? =some rt∧rt.2.2.1[i]? =some z∧
  rt.2.2.2.2.2.2.2.2.2.2.1.1=true∧e∈zD3 v r i (fun e=>e.1 !=(r:Int))∧v.1.1[Int.toNat e.1]? =some q∧q.2.2.1[Int.toNat e.2.1]? =some y∧zMV rt q z y=true∧x=(e.1,e.2.1,(r:Int),(i:Int),q.2.1==rt.2.1,()):=by
 unfold zFJ
 rw [List.mem_flatMap]
 constructor
 ·rintro ⟨r,_,hr⟩
  unfold zDY at hr
  cases hrt:v.1.1[r]? with
  |none=>rw [hrt] at hr;cases hr
  |some rt=>
   rw [hrt] at hr
   obtain ⟨i,_,hi⟩:=List.mem_flatMap.1 hr
   unfold zBb at hi
   cases hz:rt.2.2.1[i]? with
   |none=>rw [hz] at hi;cases hi
   |some z=>
    rw [hz] at hi
    simp only at hi
    cases hon:rt.2.2.2.2.2.2.2.2.2.2.1.1 with
    |false=>rw [hon] at hi;cases hi
    |true=>
     rw [hon] at hi
     obtain ⟨e,he,hx⟩:=List.mem_filterMap.1 hi
     unfold zLW at hx
     cases hq:v.1.1[Int.toNat e.1]? with
     |none=>rw [hq] at hx;cases hx
     |some q=>
      rw [hq] at hx
      simp only at hx
      cases hy:q.2.2.1[Int.toNat e.2.1]? with
      |none=>rw [hy] at hx;cases hx
      |some y=>
       rw [hy] at hx
       simp only at hx
       cases hb:zMV rt q z y with
       |false=>rw [hb] at hx;cases hx
       |true=>
        rw [hb] at hx
        exact ⟨r,i,rt,z,e,q,y,hrt,hz,hon,he,hq,hy,hb,(Option.some.inj hx).symm⟩
 ·rintro ⟨r,i,rt,z,e,q,y,hrt,hz,hon,he,hq,hy,hb,rfl⟩
  refine ⟨r,List.mem_range.2 (List.getElem?_eq_some_iff.1 hrt).1,?_⟩
  unfold zDY
  rw [hrt]
  refine List.mem_flatMap.2 ⟨i,List.mem_range.2 (List.getElem?_eq_some_iff.1 hz).1,?_⟩
  unfold zBb
  rw [hz]
  simp only [hon,cond_true]
  refine List.mem_filterMap.2 ⟨e,he,?_⟩
  unfold zLW
  rw [hq]
  simp only [hy,hb,cond_true]
theorem zV8 {n:Ty.El zT} {d:List Int} {v:Ty.El zR} (hv:zAi n d v) {x:Ty.El zK} (h:x∈zFJ v):((x.2.2.1,x.2.2.2.1,x.1,x.2.1,x.2.2.2.2.1,()):Ty.El zK)∈zFJ v:=by
 obtain ⟨r,i,rt,z,e,q,y,hrt,hz,hon,he,hq,hy,hb,rfl⟩:=zNl.1 h
 obtain ⟨u1,u2,_⟩:=zJI he
 obtain ⟨b0,b1,_⟩:=zXj hv u1 u2
 have hbk:=zWE hv he
 unfold zMV at hb
 simp only [Bool.and_eq_true] at hb
 obtain ⟨c1,c2,c3⟩:=hb
 have b0:(0:Int)≤e.1:=b0
 have b1:(0:Int)≤e.2.1:=b1
 have e0:((Int.toNat e.1:Nat):Int)=e.1:=Int.toNat_of_nonneg b0
 have e1:((Int.toNat e.2.1:Nat):Int)=e.2.1:=Int.toNat_of_nonneg b1
 refine zNl.2 ⟨Int.toNat e.1,Int.toNat e.2.1,q,y,((r:Int),(i:Int),()),rt,z,hq,hy,c1,?_,hrt,hz,?_,?_⟩
 ·rw [e0,e1];exact hbk
 ·unfold zMV
  rw [hon,c3,c2];rfl
 ·rw [e0,e1]
  have hc:(rt.2.1==q.2.1)=(q.2.1==rt.2.1):=by
   rw [Bool.eq_iff_iff,beq_iff_eq,beq_iff_eq]
   exact ⟨Eq.symm,Eq.symm⟩
  rw [hc]
theorem zY9 {x y:Ty.El zK} (h:(x.1==y.1&&(x.2.1==y.2.1&&(x.2.2.1==y.2.2.1&&(x.2.2.2.1==y.2.2.2.1&&(x.2.2.2.2.1==y.2.2.2.2.1&&true)))))=true):x=y:=by
 obtain ⟨a1,a2,a3,a4,a5,⟨⟩⟩:=x
 obtain ⟨b1,b2,b3,b4,b5,⟨⟩⟩:=y
 simp only [Bool.and_true,Bool.and_eq_true,beq_iff_eq] at h
 obtain ⟨rfl,rfl,rfl,rfl,rfl⟩:=h
 rfl
theorem zQ8 (x:Ty.El zK):(x.1==x.1&&(x.2.1==x.2.1&&(x.2.2.1==x.2.2.1&&(x.2.2.2.1==x.2.2.2.1&&(x.2.2.2.2.1==x.2.2.2.2.1&&true)))))=true:=by simp
theorem zKJ (n:Ty.El zT) (d:List Int):Wp (yH (n,d,())) (fun b=>b=true):=by
 unfold yH
 dsimp only
 refine zC ((zMM n d).mono (fun y0 hy0=> ?_))
 refine zG (fun h=>zB rfl) (fun h1=> ?_)
 have hv:=hy0 (by simpa using h1)
 refine zC ((zAm y0.1 hv.p).mono (fun a ha=> ?_))
 refine zC ((zHd y0.1 hv.p).mono (fun b hb=> ?_))
 rw [←ha] at hb
 subst hb
 have hl:=zV9 hv.s
 rw [←ha] at hl
 refine ff (by simp) ?_
 refine zFU (P:=fun _=>True) (by omega) ?_ (fun _=>zC (qN rfl (zB rfl)))
 intro i x hx
 have hxm:=List.mem_of_getElem? hx
 refine qV (zC (zY3 (xs:=b) (p:=fun y:Ty.El zK=>y=(x.2.2.1,x.2.2.2.1,x.1,x.2.1,x.2.2.2.2.1,())) (by omega) ?_ ?_))
 ·intro j y hy
  refine ⟨rfl,?_⟩
  simp only [cond_false,zJ hy,zJ hx,Option.bind_some]
  refine zB ⟨fun h=>zY9 (y:=(x.2.2.1,x.2.2.2.1,x.1,x.2.1,x.2.2.2.2.1,())) h,fun h=> ?_⟩
  rw [h]
  exact zQ8 ((x.2.2.1,x.2.2.2.1,x.1,x.2.1,x.2.2.2.2.1,()):Ty.El zK)
 ·intro c hc
  have hct:c=true:=hc.2 ⟨_,by rw [ha];exact zV8 hv (by rw [←ha];exact hxm),rfl⟩
  subst hct
  simp only [zJ hx,Option.bind_some]
  refine zC (ff ?_ (zB (ff rfl (zB (e2l (zB (e2l ⟨rfl,trivial⟩)))))))
  have:=zQ8 x
  rw [this];rfl
theorem zFl: ∀x:ElS [zT, .sl tI],zUn 1048576 [zT, .sl tI] x→yH x=some true:=by
 rintro ⟨n,d,⟨⟩⟩ _
 exact wQ (zKJ n d)
end Go.Ve

namespace Go.Ve
open Go
set_option maxRecDepth 1000000
set_option maxHeartbeats 4000000
def ifS (nm:ByteArray) (a:Int) (dv:Bool):Ty.El z8:=(nm,a,24,0,false,false,0,0,dv,⟨#[]⟩,⟨#[]⟩,0,())
def rtS (nm:ByteArray) (sy:Int) (ifs:List (Ty.El z8)) (dv:Ty.El tDV) (pv:Ty.El tPV):Ty.El zD:=(nm,sy,ifs,[],[],[],[],[],(false,0,[],[],()),dv,pv,())
def zZ8:Ty.El tDV:=(true,120,⟨#[]⟩,⟨#[]⟩,[],())
def zZY:Ty.El tPV:=(false,0,0,[],[],[],[],[],())
def qAm:Ty.El zD:=rtS ⟨#[97]⟩ 0 [ifS ⟨#[101,48]⟩ 167772161 true] zZ8 zZY
def qAl:Ty.El zD:=rtS ⟨#[98]⟩ 0 [ifS ⟨#[101,48]⟩ 167772162 true,ifS ⟨#[101,49]⟩ 167772418 true] zZ8 zZY
def zZi:Ty.El zT:=([qAm,qAl],())
def zVV:Ty.El zI2:=([((167772160,24,()),0,[(0,0,()),(1,0,())],()),((167772416,24,()),0,[(1,1,())],())],[0],())
def zY4:Ty.El zR:=(zZi,zVV,[],())
theorem zPK {nm:ByteArray} {sy:Int} {ifs:List (Ty.El z8)} {dv:Ty.El tDV} {pv:Ty.El tPV} (h1:ifs.length≤20) (h2:dv.2.2.2.2.1.length≤20) (h3:pv.2.2.2.1.length≤20) (h4:pv.2.2.2.2.1.length≤20) (h5:pv.2.2.2.2.2.1.length≤20) (h6:pv.2.2.2.2.2.2.1.length≤20) (h7:pv.2.2.2.2.2.2.2.1.length≤20):SmR (rtS nm sy ifs dv pv) where
 i1:=h1
 i2:=Nat.zero_le _
 i3:=Nat.zero_le _
 i4:=Nat.zero_le _
 i5:=Nat.zero_le _
 i6:=Nat.zero_le _
 i7:=Nat.zero_le _
 i8:=Nat.zero_le _
 i9:=h2
 i10:=h3
 i11:=h4
 i12:=h5
 i13:=h6
 i14:=h7
 n1:=fun y hy=>by cases hy
 n2:=fun y hy=>by cases hy
 n3:=fun y hy=>by cases hy
theorem zGO:zAW zY4 where
 rs:=by decide
 sm:=fun y hy=>by
  rcases List.mem_cons.1 hy with rfl|hy
  ·exact zPK (by decide) (by decide) (by decide) (by decide) (by decide) (by decide) (by decide)
  ·rcases List.mem_cons.1 hy with rfl|hy
   ·exact zPK (by decide) (by decide) (by decide) (by decide) (by decide) (by decide) (by decide)
   ·cases hy
 doms:=by decide
 ends := fun d hd => by
  rcases List.mem_cons.1 hd with rfl|hd
  ·decide
  ·rcases List.mem_cons.1 hd with rfl|hd
   ·decide
   ·cases hd
 links:=by decide
 link0:=fun l hl=>by
  rcases List.mem_cons.1 hl with rfl|hl
  ·decide
  ·cases hl
 down:=by decide
 down0:=fun l hl=>by cases hl
end Go.Ve

namespace Go.Ve
open Go
set_option maxRecDepth 1000000
set_option maxHeartbeats 4000000
def lwB (p q:Ty.El zF):Bool:=decide (q.2.1<p.2.1)&&(decide (q.2.1≤p.2.1)&&zDp q p.1)
theorem yN (p q:Ty.El zF):jI (p,q,())=some (lwB p q):=by
 refine wQ ?_
 unfold jI lwB
 dsimp only
 refine zC (zI (fun h=> ?_) (fun h=>zB (zB ?_)))
 ·have h:q.2.1<p.2.1:=h
  refine zC (qN (zEh _ _) (zB (zB ?_)))
  rw [decide_eq_true h];rfl
 ·have h: ¬q.2.1<p.2.1:=h
  rw [decide_eq_false h];rfl
def zS9 (q:Ty.El zD) (p:Ty.El zF):Bool:=q.2.2.2.2.2.2.2.2.2.2.1.2.2.2.2.2.1.any (fun g:Ty.El jP=>g.2.1&&lwB p g.1)
theorem zVN {q:Ty.El zD} {p:Ty.El zF} (hr:SmR q):Wp (kI (q,p,())) (fun b=>b=zS9 q p):=by
 have h20:q.2.2.2.2.2.2.2.2.2.2.1.2.2.2.2.2.1.length≤20:=hr.i12
 unfold kI zS9
 dsimp only
 refine zAx (xs:=q.2.2.2.2.2.2.2.2.2.2.1.2.2.2.2.2.1) (by omega) (fun i=> ∀j y,j<i→q.2.2.2.2.2.2.2.2.2.2.1.2.2.2.2.2.1[j]? =some y→(y.2.1&&lwB p y.1)=false) (fun j y hj=>by omega) ?_ (fun hj=>zB ?_)
 ·intro i x hx hj
  simp only [zJ hx,Option.bind_some]
  refine zC ((show Wp _ (fun s:Bool=>s=(x.2.1&&lwB p x.1)) from ?_).mono (fun s hs=> ?_))
  ·refine zG (fun h=>zC (qN (yN _ _) (zB ?_))) (fun h=>zB ?_)
   ·rw [h];rfl
   ·rw [h];rfl
  ·refine zG (fun h=>zB (e2r (e2r ?_))) (fun h=>zB (e2l ⟨rfl,?_⟩))
   ·symm
    refine List.any_eq_true.2 ⟨x,List.mem_of_getElem? hx,?_⟩
    rw [←hs];exact h
   ·intro k z hk hz
    rcases Nat.lt_or_ge k i with h'|h'
    ·exact hj k z h' hz
    ·have:k=i:=by omega
     subst this
     rw [hx] at hz
     cases hz
     rw [←hs];exact h
 ·symm
  rw [List.any_eq_false]
  intro x hx
  obtain ⟨k,hk,rfl⟩:=List.getElem_of_mem hx
  rw [hj k _ hk (by simp [hk])]
  decide
def zId (x:Ty.El zA) (m:Int):Ty.El zA:=(x.1,x.2.1,x.2.2.1,x.2.2.2.1,m,x.2.2.2.2.2)
def zZN (x y:Ty.El zA):Ty.El zA:=
 (x.1,(5:Int),(0:Int),(0:Int),y.2.2.2.2.1,(0:Int),y.2.2.2.2.2.2.1,y.2.2.2.2.2.2.2.1,x.2.2.2.2.2.2.2.2.1,(0:Int),(0:Int),[],false,())
def zZO (x y:Ty.El zA) (sy:Int) (k:Nat):Ty.El zA:=
 (x.1,(5:Int),(0:Int),(0:Int),y.2.2.2.2.1,(0:Int),y.2.2.2.2.2.2.1,(100:Int),List.replicate k sy++x.2.2.2.2.2.2.2.2.1,(0:Int),(0:Int),[],false,())
def zQe (q:Ty.El zD) (a:Int) (int:Bool) (x:Ty.El zA):Option (Ty.El zA):=
 bif (x.2.2.1==(4:Int)&&int)||zS9 q x.1 then none else
 match zGo q.2.2.2.2.2.2.2.2.2.2.1.2.2.2.1 a with
 |none=>none
 |some nb=>bif int then (zHB q nb.2.2.2.1 x).map (zZN x) else
  match zHB q nb.2.2.2.1 (zId x 0) with
  |none=>none
  |some y=>bif decide (1+zOs q nb.2.2.2.1 (zId x 0)+(x.2.2.2.2.2.2.2.2.1.length:Int)>(64:Int)) then none else some (zZO x y q.2.1 (1+(zOs q nb.2.2.2.1 (zId x 0)).toNat))
def zZj (m:Option (Ty.El zA)):Ty.El zA×Bool×Unit:=
 match m with
 |some z=>(z,true,())
 |none=>(zVL,false,())
theorem zLi {r:Ty.El zD} {nm:Ty.El .str} {x:Ty.El zA} {y:Ty.El zA×Bool×Unit} (h:y=match zHB r nm x with
  |some z=>(z,true,())
  |none=>(zVL,false,())):(y.2.1=false∧zHB r nm x=none)∨(y.2.1=true∧zHB r nm x=some y.1):=by
 cases hc:zHB r nm x with
 |none=>rw [hc] at h;exact .inl ⟨by rw [h],rfl⟩
 |some z=>rw [hc] at h;exact .inr ⟨by rw [h],by rw [h]⟩
theorem zUK (x:Ty.El zA) (m:Int):RtS x→RtS (zId x m):=fun h=>⟨h.path,h.hops⟩
theorem zEP (v:Ty.El zR) (hv:zLK v) (qn kn r i:Nat) (int:Bool) (q rt:Ty.El zD) (z:Ty.El z8) (hq:v.1.1[qn]? =some q) (hr:v.1.1[r]? =some rt) (hz:rt.2.2.1[i]? =some z) (hm:zD8 q) (x:Ty.El zA) (hx:RtS x):
  Wp (xD (v,((qn:Int),(kn:Int),(r:Int),(i:Int),int,()),x,())) (fun y=>y=zZj (zQe q z.2.1 int x)):=by
 unfold xD
 dsimp only
 have hs:=hv.s
 have hqs:=hs.sm q (List.mem_of_getElem? hq)
 have hql:=(List.getElem?_eq_some_iff.1 hq).1
 have q0: ¬((qn:Int)<0):=by omega
 have q1: ¬((qn:Int)≥(List.length v.1.1:Int)):=by omega
 refine zC ((j7 v r i rt z hr hz).mono (fun y0 hy0=> ?_))
 subst hy0
 refine zC ((show Wp _ (fun s:Bool=>s=false) from ?_).mono (fun s hs'=> ?_))
 ·exact ff rfl (zI (fun h=>absurd h q0) (fun _=>zB (decide_eq_false q1)))
 subst hs'
 refine ff rfl ?_
 simp only [zJ hq,Option.bind_some]
 refine zC ((show Wp _ (fun s:Bool=>s=((x.2.2.1==(4:Int)&&int)||zS9 q x.1)) from ?_).mono (fun s hs'=> ?_))
 ·refine zG (fun h=>zG (fun h2=>zB ?_) (fun h2=>zC ((zVN hqs).mono (fun b hb=>zB ?_)))) (fun h=>zC ((zVN hqs).mono (fun b hb=>zB ?_)))
  ·have h2:int=true:=h2
   rw [h,h2];rfl
  ·have h2:int=false:=h2
   rw [h,h2,hb];rfl
  ·rw [h,hb];rfl
 subst hs'
 unfold zQe
 refine zG (fun h=>zB ?_) (fun h=> ?_)
 ·rw [h];rfl
 rw [h]
 refine zC ((vT q z.2.1 hqs).mono (fun y8 hy8=> ?_))
 cases hn:zGo q.2.2.2.2.2.2.2.2.2.2.1.2.2.2.1 z.2.1 with
 |none=>
  rw [hn] at hy8
  simp only at hy8
  subst hy8
  exact tt rfl (zB rfl)
 |some nb=>
  rw [hn] at hy8
  simp only at hy8
  subst hy8
  refine ff rfl ?_
  dsimp only
  cases int with
  |true=>
   refine zC (ff rfl (zB ?_))
   refine zC ((zA9 q nb.2.2.2.1 x hqs hx).mono (fun y10 hy10=> ?_))
   rcases zLi hy10 with ⟨h1,h2⟩|⟨h1,h2⟩
   ·refine tt (by rw [h1];rfl) (zB ?_)
    simp only [cond_false,cond_true,h2];rfl
   ·refine ff (by rw [h1];rfl) (tt rfl (zC (qN (zLe _ hx.path) (zB ?_))))
    simp only [cond_false,cond_true,h2];rfl
  |false=>
   refine zC (tt rfl (zB ?_))
   have hx':RtS (zId x 0):=zUK x 0 hx
   refine zC ((zA9 q nb.2.2.2.1 (zId x 0) hqs hx').mono (fun y10 hy10=> ?_))
   rcases zLi hy10 with ⟨h1,h2⟩|⟨h1,h2⟩
   ·refine tt (by rw [h1];rfl) (zB ?_)
    simp only [cond_false,h2];rfl
   ·refine ff (by rw [h1];rfl) (ff rfl (zC ((zHe q nb.2.2.2.1 (zId x 0) hqs).mono (fun y12 hy12=> ?_))))
    subst hy12
    have hpn:=zUg hm nb.2.2.2.1 (zId x 0)
    have hpl:=hx.path
    have hpl:x.2.2.2.2.2.2.2.2.1.length≤1048576:=hpl
    simp only [cond_false,h2]
    generalize zOs q nb.2.2.2.1 (zId x 0)=pn at hpn
    obtain ⟨k,rfl⟩:=Int.eq_ofNat_of_zero_le hpn.1
    rw [zH (x:=(1:Int)+(k:Int)) (by omega) (by omega)]
    have hw:IntKind.wrap IntKind.i64 ((1:Int)+(k:Int)+((List.length (zId x 0).2.2.2.2.2.2.2.2.1:Nat):Int))=(1:Int)+(k:Int)+(x.2.2.2.2.2.2.2.2.1.length:Int):=by
     show IntKind.wrap IntKind.i64 ((1:Int)+(k:Int)+(x.2.2.2.2.2.2.2.2.1.length:Int))=_
     rw [zH (by omega) (by omega)]
    refine zI (fun h=>zB ?_) (fun h=> ?_)
    ·have h:(1:Int)+(k:Int)+(x.2.2.2.2.2.2.2.2.1.length:Int)>64:=by rw [←hw];exact h
     rw [decide_eq_true h];rfl
    ·have h: ¬(1:Int)+(k:Int)+(x.2.2.2.2.2.2.2.2.1.length:Int)>64:=by rw [←hw];exact h
     rw [decide_eq_false h]
     refine zC ((show Wp _ (fun s:Int×Int×Int×Int×Int×Int×Int×Int×Int×List Int×Int×Int×List (Ty.El jH)×Bool=>s=(x.1.1,x.1.2.1,(5:Int),(0:Int),(0:Int),y10.1.2.2.2.2.1,(0:Int),y10.1.2.2.2.2.2.2.1,(0:Int),List.replicate (1+k) q.2.1,(0:Int),(0:Int),[],false)) from ?_).mono (fun s hs'=> ?_))
     ·refine jW (fun s:Int×Int×Int×Int×Int×Int×Int×Int×Int×Int×List Int×Int×Int×List (Ty.El jH)×Bool=> ∃j:Nat,j≤1+k∧s=((j:Int),x.1.1,x.1.2.1,(5:Int),(0:Int),(0:Int),y10.1.2.2.2.2.1,(0:Int),y10.1.2.2.2.2.2.2.1,(0:Int),List.replicate j q.2.1,(0:Int),(0:Int),[],false)) (fun s=>((1:Int)+(k:Int) -s.1).toNat) ⟨0,Nat.zero_le _,rfl⟩ ?_
      rintro s ⟨j,hj,rfl⟩
      refine zI (fun hlt=> ?_) (fun hge=>zB (e2r ?_))
      ·have hlt:(j:Int)< (1:Int)+(k:Int):=hlt
       refine zC (wH (by simp only [List.length_replicate,List.length_singleton];omega) (zB (e2l ⟨⟨j+1,by omega,?_⟩,?_⟩)))
       ·rw [zH (by omega) (by omega)]
        rw [List.replicate_succ']
        rfl
       ·simp only;rw [zH (by omega) (by omega)];omega
      ·have hge: ¬(j:Int)< (1:Int)+(k:Int):=hge
       have:j=1+k:=by omega
       subst this
       rfl
     ·subst hs'
      refine zC (wH (by simp only [List.length_replicate];show (2*(1+k+x.2.2.2.2.2.2.2.2.1.length)+1024)*8≤_;omega) (zB ?_))
      obtain ⟨⟨pa,pl,⟨⟩⟩,x2⟩:=x
      rfl
def zZX (rt:Ty.El zD) (a:Int) (i:Int) (int:Bool) (m y:Ty.El zA):Ty.El zA:=
 (m.1,(5:Int),(bif int then (4:Int) else (3:Int)),(bif int then rt.2.2.2.2.2.2.2.2.2.2.1.2.2.1 else rt.2.2.2.2.2.2.2.2.2.2.1.2.1),y.2.2.2.2.1,(0:Int),y.2.2.2.2.2.2.1,y.2.2.2.2.2.2.2.1,m.2.2.2.2.2.2.2.2.1,a,(0:Int),[(i,a,())],false,())
def zS8 (rt:Ty.El zD) (a:Int) (i:Int) (int:Bool) (m:Ty.El zA):Option (Ty.El zA):=
 bif m.2.2.2.2.2.2.2.2.1.any (fun x=>x==rt.2.1) then none else
 match zGo rt.2.2.2.2.2.2.2.2.2.2.1.2.2.2.1 a with
 |none=>none
 |some nb=>(zHB rt nb.2.2.1 m).map (zZX rt a i int m)
theorem zEO (v:Ty.El zR) (hv:zLK v) (qn kn r:Nat) (i:Int) (int:Bool) (q rt:Ty.El zD) (y:Ty.El z8) (hq:v.1.1[qn]? =some q) (hy:q.2.2.1[kn]? =some y) (hr:v.1.1[r]? =some rt) (m:Ty.El zA) (hx:RtS m):
  Wp (xC (v,((qn:Int),(kn:Int),(r:Int),i,int,()),m,())) (fun z=>z=zZj (zS8 rt y.2.1 i int m)):=by
 unfold xC
 dsimp only
 have hs:=hv.s
 have hrs:=hs.sm rt (List.mem_of_getElem? hr)
 have hrl:=(List.getElem?_eq_some_iff.1 hr).1
 have q0: ¬((r:Int)<0):=by omega
 have q1: ¬((r:Int)≥(List.length v.1.1:Int)):=by omega
 refine zC ((j7 v qn kn q y hq hy).mono (fun y0 hy0=> ?_))
 subst hy0
 refine zC ((show Wp _ (fun s:Bool=>s=false) from ?_).mono (fun s hs'=> ?_))
 ·exact ff rfl (zI (fun h=>absurd h q0) (fun _=>zB (decide_eq_false q1)))
 subst hs'
 refine ff rfl ?_
 simp only [zJ hr,Option.bind_some]
 refine zC ((zAl m.2.2.2.2.2.2.2.2.1 rt.2.1 hx.path).mono (fun b hb=> ?_))
 subst hb
 unfold zS8
 refine zG (fun h=>zB ?_) (fun h=> ?_)
 ·rw [h];rfl
 rw [h]
 refine zC ((vT rt y.2.1 hrs).mono (fun y4 hy4=> ?_))
 cases hn:zGo rt.2.2.2.2.2.2.2.2.2.2.1.2.2.2.1 y.2.1 with
 |none=>
  rw [hn] at hy4
  simp only at hy4
  subst hy4
  exact tt rfl (zB rfl)
 |some nb=>
  rw [hn] at hy4
  simp only at hy4
  subst hy4
  refine ff rfl ?_
  dsimp only
  refine zC ((zA9 rt nb.2.2.1 m hrs hx).mono (fun y5 hy5=> ?_))
  rcases zLi hy5 with ⟨h1,h2⟩|⟨h1,h2⟩
  ·refine tt (by rw [h1];rfl) (zB ?_)
   simp only [cond_false,h2];rfl
  ·refine ff (by rw [h1];rfl) (zC (qN (zLe _ hx.path) ?_))
   simp only [cond_false,h2]
   cases int with
   |true=>exact zC (zB (zB rfl))
   |false=>exact zC (zB (zB rfl))
end Go.Ve

namespace Go.Ve
open Go
set_option maxRecDepth 1000000
set_option maxHeartbeats 4000000
theorem zRp {m:Option (Ty.El zA)} {y:Ty.El zA×Bool×Unit} (h:y=zZj m):(y.2.1=false∧m=none)∨(y.2.1=true∧m=some y.1):=by
 cases m with
 |none=>exact .inl ⟨by rw [h];rfl,rfl⟩
 |some z=>exact .inr ⟨by rw [h];rfl,by rw [h];rfl⟩
theorem zW4 {q:Ty.El zD} {a:Int} {int:Bool} {x m:Ty.El zA} (hm:zD8 q) (h:zQe q a int x=some m):
  ((x.2.2.1==(4:Int)&&int)=false∧zS9 q x.1=false)∧((int=true∧m.2.2.2.2.2.2.2.2.1=x.2.2.2.2.2.2.2.2.1)∨(int=false∧ ∃k:Nat,k≤8∧m.2.2.2.2.2.2.2.2.1=List.replicate (1+k) q.2.1++x.2.2.2.2.2.2.2.2.1∧1+k+x.2.2.2.2.2.2.2.2.1.length≤64))∧m.2.2.2.2.2.2.2.2.2.2.2.1=[]:=by
 unfold zQe at h
 cases hh:(x.2.2.1==(4:Int)&&int)||zS9 q x.1 with
 |true=>rw [hh] at h;cases h
 |false=>
  rw [hh] at h
  refine ⟨by simpa using hh,?_⟩
  simp only [cond_false] at h
  cases hn:zGo q.2.2.2.2.2.2.2.2.2.2.1.2.2.2.1 a with
  |none=>rw [hn] at h;cases h
  |some nb=>
   rw [hn] at h
   simp only at h
   cases int with
   |true=>
    simp only [cond_true] at h
    cases ha:zHB q nb.2.2.2.1 x with
    |none=>rw [ha] at h;cases h
    |some y=>
     rw [ha] at h
     have h:=(Option.some.inj h).symm
     subst h
     exact ⟨.inl ⟨rfl,rfl⟩,rfl⟩
   |false=>
    simp only [cond_false] at h
    cases ha:zHB q nb.2.2.2.1 (zId x 0) with
    |none=>rw [ha] at h;cases h
    |some y=>
     rw [ha] at h
     simp only at h
     have hpn:=zUg hm nb.2.2.2.1 (zId x 0)
     generalize zOs q nb.2.2.2.1 (zId x 0)=pn at hpn h
     obtain ⟨k,rfl⟩:=Int.eq_ofNat_of_zero_le hpn.1
     cases hd:decide ((1:Int)+(k:Int)+(x.2.2.2.2.2.2.2.2.1.length:Int)>(64:Int)) with
     |true=>rw [hd] at h;cases h
     |false=>
      rw [hd] at h
      have h:=(Option.some.inj h).symm
      subst h
      have hd:=of_decide_eq_false hd
      refine ⟨.inr ⟨rfl,k,by omega,?_,by omega⟩,rfl⟩
      simp only [Int.toNat_natCast]
      rfl
end Go.Ve

namespace Go.Ve
open Go
set_option maxRecDepth 1000000
set_option maxHeartbeats 4000000
def zIh (v:Ty.El zR) (t:List (Ty.El zA)) (s:Ty.El zK):List (Ty.El zA):=
 match v.1.1[Int.toNat s.1]?,v.1.1[Int.toNat s.2.2.1]? with
 |some q,some rt=>match q.2.2.1[Int.toNat s.2.1]?,rt.2.2.1[Int.toNat s.2.2.2.1]? with
  |some y,some z=>t.filterMap (fun x=>(zQe q z.2.1 s.2.2.2.2.1 x).bind (zS8 rt y.2.1 s.2.2.2.1 s.2.2.2.2.1))
  |_,_=>[]
 |_,_=>[]
def zJl (s:List (Ty.El qI)) (k:Int):List (Ty.El zA):=
 match s[Int.toNat k]? with
 |some t=>t.2.2.1
 |none=>[]
def zUR (v:Ty.El zR) (s:List (Ty.El qI)) (r:Nat):List (Ty.El zA):=(zDY v r).flatMap (fun x=>zIh v (zJl s x.1) x)
theorem zM4 {v:Ty.El zR} {t:List (Ty.El zA)} {s:Ty.El zK} :(zIh v t s).length≤t.length:=by
 unfold zIh
 split
 ·split
  ·exact List.length_filterMap_le _ _
  ·exact Nat.zero_le _
 ·exact Nat.zero_le _
end Go.Ve



namespace Go.Ve
open Go
set_option maxRecDepth 1000000
set_option maxHeartbeats 4000000
def zPV (r:Ty.El zD) (d:Ty.El jC) (x:Ty.El zA):Option (Int×Int):=
 bif d.2.2.2.1==({ data:= #[] } :ByteArray) then some (d.2.1,d.2.2.1) else
 (zIj r d.2.2.2.1 x).map (fun c=>((bif c.2.2.2.1==(-1:Int) then d.2.1 else c.2.2.2.1),(bif c.2.2.2.2.1==(-1:Int) then d.2.2.1 else c.2.2.2.2.1)))
def zMb (r:Ty.El zD) (p:Ty.El zF) (m t:Int):Ty.El zA:=
 (p,(5:Int),(1:Int),r.2.2.2.2.2.2.2.2.2.2.1.2.2.1,m,(0:Int),t,(100:Int),[],(0:Int),(0:Int),[],false,())
def zX7 (r:Ty.El zD) (d:Ty.El jC) (x:Ty.El zA):Option (Ty.El zA):=(zPV r d x).map (fun mt=>zMb r x.1 mt.1 mt.2)
def zRv (x:Ty.El zA):Bool:=x.2.2.2.2.2.2.2.2.2.2.2.2.1&&(x.2.1 !=(2:Int))
def zWl (r:Ty.El zD) (l:List (Ty.El jC)) (x:Ty.El zA):Option (Ty.El zA):=
 bif zRv x then none else (l.find? (fun d=>d.1==x.2.1)).bind (fun d=>zX7 r d x)
def zZe (r:Ty.El zD) (l:List (Ty.El jC)) (rib:List (Ty.El zA)):List (Ty.El zA):=rib.filterMap (zWl r l)
theorem zLR (r:Ty.El zD) (d:Ty.El jC) (x:Ty.El zA) (hr:SmR r):Wp (zEQ (r,d,x,())) (fun y=>(y.2.2.1=false∧zPV r d x=none)∨(y.2.2.1=true∧zPV r d x=some (y.1,y.2.1))):=by
 unfold zEQ
 dsimp only
 refine zG (fun h=>zB (.inr ⟨rfl,by unfold zPV;rw [h];rfl⟩)) (fun h=> ?_)
 have hT:zPV r d x=(zIj r d.2.2.2.1 x).map (fun c=>((bif c.2.2.2.1==(-1:Int) then d.2.1 else c.2.2.2.1),(bif c.2.2.2.2.1==(-1:Int) then d.2.2.1 else c.2.2.2.2.1))):=by unfold zPV;rw [h];rfl
 rw [hT]
 refine zC ((zAe r _ hr).mono (fun k hk=> ?_))
 subst hk
 refine zC ((zC5 r _ x hr).mono (fun k hk=> ?_))
 rcases hk with ⟨h1,h2⟩|⟨i,j,m,c,rfl,h2,h3,h4,h5⟩
 ·have hp:zIj r d.2.2.2.1 x=none:=by unfold zIj;rw [h2]
  rw [hp]
  refine zC (Wp.mono (Q:=fun b=>b=true) ?_ (fun b hb=> ?_))
  ·exact zI (fun _=>zB rfl) (fun _=>zI (fun _=>zB rfl) (fun _=>zI (fun _=>zB rfl) (fun h=>absurd h1 h)))
  ·subst hb
   exact tt rfl (zB (.inl ⟨rfl,rfl⟩))
 ·rw [h2]
  have hj:=(List.getElem?_eq_some_iff.1 h3).1
  have hi:=(List.getElem?_eq_some_iff.1 h4).1
  refine zC (Wp.mono (Q:=fun b=>b=false) ?_ (fun b hb=> ?_))
  ·refine zI (fun h=>absurd h (by omega)) (fun _=>zI (fun h=>absurd h (by omega)) (fun _=>zI (fun h=>absurd h (by omega)) (fun _=> ?_)))
   simp only [zJ h3,Option.bind_some]
   exact zB (decide_eq_false (by omega))
  ·subst hb
   refine ff rfl ?_
   simp only [zJ h3,zJ h4,Option.bind_some]
   refine zC (Wp.mono (Q:=fun s=>s=(bif c.2.2.2.1==(-1:Int) then d.2.1 else c.2.2.2.1)) ?_ (fun s9 h9=> ?_))
   ·refine zG (fun h=>zB ?_) (fun h=>zB ?_)
    ·have h:(c.2.2.2.1==(-1:Int))=false:=by simpa [bne] using h
     rw [h];rfl
    ·have h:(c.2.2.2.1==(-1:Int))=true:=by simpa [bne] using h
     rw [h];rfl
   refine zC (Wp.mono (Q:=fun s=>s=(bif c.2.2.2.2.1==(-1:Int) then d.2.2.1 else c.2.2.2.2.1)) ?_ (fun s10 h10=> ?_))
   ·refine zG (fun h=>zB ?_) (fun h=>zB ?_)
    ·have h:(c.2.2.2.2.1==(-1:Int))=false:=by simpa [bne] using h
     rw [h];rfl
    ·have h:(c.2.2.2.2.1==(-1:Int))=true:=by simpa [bne] using h
     rw [h];rfl
   refine zB ?_
   subst h9
   subst h10
   unfold zIj
   rw [h5]
   cases hc:c.1 with
   |false=>exact .inl ⟨rfl,by simp [hc]⟩
   |true=>exact .inr ⟨rfl,by simp [hc]⟩
theorem zLS (r:Ty.El zD) (d:Ty.El jC) (p:Ty.El zF) (m t:Int):
  zIf (p,(5:Int),(0:Int),(0:Int),m,(0:Int),t,(0:Int),[],(0:Int),(0:Int),[],false,()) (r,d,())=some (zMb r p m t,true):=rfl
theorem zVO {γ:Type} {l:List (Ty.El jC)} {p:Ty.El jC→Bool} {acc:γ} {Q:Int×γ→Prop} (hl:l.length<4611686018427387904) (h:Q (u9 p l,acc)):
  Wp (zP (fun (s : Int × γ × Int) => bif decide (s.1 < (l.length : Int)) then
      Option.bind (idx l s.1) fun (y:Ty.El jC)=>bif p y then some (Sum.inr (s.1,s.2.1)) else some (Sum.inl (IntKind.wrap IntKind.i64 (s.1+(1:Int)),s.2))
   else some (Sum.inr (s.2.2,s.2.1))) ((0:Int),acc,(-1:Int))) Q:=by
 refine jW (fun (s:Int×γ×Int)=> ∃i:Nat,s=((i:Int),acc,(-1:Int))∧i≤l.length∧ ∀j y,j<i→l[j]? =some y→p y=false) (fun s=>((l.length:Int) -s.1).toNat) ⟨0,rfl,Nat.zero_le _,fun j y hj=>by omega⟩ ?_
 rintro s ⟨i,rfl,hi,hj⟩
 refine zI (fun hlt=> ?_) (fun hge=> ?_)
 ·have hlt:(i:Int)< (l.length:Int):=hlt
  obtain ⟨y,hy⟩: ∃y,l[i]? =some y:=⟨_,List.getElem?_eq_getElem (by omega)⟩
  simp only [zJ hy,Option.bind_some]
  refine zG (fun hp=>zB (e2r ?_)) (fun hp=>zB (e2l ⟨⟨i+1,?_,by omega,?_⟩,?_⟩))
  ·have:u9 p l=(i:Int):=by
    rcases zBW p l with ⟨h1,h2⟩|⟨k,x,h1,h2,h3,h4⟩
    ·rw [h2 y (List.mem_of_getElem? hy)] at hp;cases hp
    ·have:k=i:=by
      rcases Nat.lt_trichotomy k i with h'|h'|h'
      ·rw [hj k x h' h2] at h3;cases h3
      ·exact h'
      ·rw [h4 i y h' hy] at hp;cases hp
     rw [h1,this]
   rw [←this];exact h
  ·rw [zH (by omega) (by omega)];rfl
  ·intro j z hjl hz
   rcases Nat.lt_or_ge j i with h'|h'
   ·exact hj j z h' hz
   ·have:j=i:=by omega
    subst this
    rw [hy] at hz
    cases hz
    exact hp
  ·simp only
   rw [zH (by omega) (by omega)]
   omega
 ·have hge: ¬(i:Int)< (l.length:Int):=hge
  have:u9 p l= -1:=zG0 (fun x hx=>by
   obtain ⟨k,hk,rfl⟩:=List.getElem_of_mem hx
   exact hj k _ (by omega) (by simp [hk]))
  exact zB (e2r (by rw [←this];exact h))
theorem zFG (r:Ty.El zD) (l:List (Ty.El jC)) (rib:List (Ty.El zA)) (hr:SmR r) (hl:l.length≤20) (hb:rib.length≤1048576):
  Wp (xV (r,l,rib,(5:Int),())) (fun o=>o=zZe r l rib):=by
 unfold xV
 dsimp only
 refine zC (wW (xs:=rib) (by omega) (fun j (g:List (Ty.El zA))=>g=(rib.take j).filterMap (zWl r l)) (by simp) ?_ (fun g hg=>zB (by rw [hg,List.take_length];rfl)))
 intro j x g hx hg
 have hgl:g.length≤1048576:=by rw [hg];exact Nat.le_trans (List.length_filterMap_le _ _) (Nat.le_trans (List.length_take_le' _ _) hb)
 simp only [zJ hx,Option.bind_some]
 rw [wV hx, ←hg]
 refine zC (zVO (l:=l) (p:=fun d=>d.1==x.2.1) (acc:=g) (by omega) ?_)
 unfold zWl
 rcases zKR (fun d:Ty.El jC=>d.1==x.2.1) l with ⟨h1,h2⟩|⟨i,d,h1,h2,h3⟩
 ·rw [h1,h2]
  refine zC (Wp.mono (Q:=fun s=>s=(true,g)) (zI (fun _=>zB rfl) (fun h=>absurd (show (-1:Int)<0 by decide) h)) (fun s hs=> ?_))
  subst hs
  refine tt rfl (zB ?_)
  cases zRv x<;>simp
 ·rw [h1,h3]
  refine zC (Wp.mono (Q:=fun s=>s=(zRv x,g)) (zI (fun h=>absurd h (by simp only;omega)) (fun _=>zG (fun h=>zB ?_) (fun h=>zB ?_))) (fun s hs=> ?_))
  ·unfold zRv;rw [h];rfl
  ·unfold zRv;rw [h];rfl
  subst hs
  refine zG (fun h=>zB ?_) (fun h=> ?_)
  ·have h:zRv x=true:=h
   rw [h];simp
  ·have h:zRv x=false:=h
   rw [h]
   simp only [zJ h2,Option.bind_some,cond_false]
   refine zC ((zLR r d x hr).mono (fun y hy=> ?_))
   rcases hy with ⟨h4,h5⟩|⟨h4,h5⟩
   ·refine tt (by rw [h4];rfl) (zB ?_)
    unfold zX7
    rw [h5];simp
   ·refine ff (by rw [h4];rfl) ?_
    refine zC (qN (zLS r d x.1 y.1 y.2.1) (tt rfl (zC (wH (by simp only [List.length_singleton];omega) (zB ?_)))))
    unfold zX7
    rw [h5];simp
end Go.Ve

namespace Go.Ve
open Go
set_option maxRecDepth 1000000
set_option maxHeartbeats 4000000
theorem zXK {α ρ:Type} {xs:List α} {p:Nat→α→Bool} {hv:ρ} {body:Int→Option (Int ⊕ (Unit ⊕ ρ))} {K:Unit→Option ρ} {Q:ρ→Prop} (hl:xs.length<4611686018427387904)
  (step: ∀ (i:Nat) x,xs[i]? =some x→Wp (body (i:Int)) (fun o=>o=(bif p i x then Sum.inr (Sum.inr hv) else Sum.inl (IntKind.wrap IntKind.i64 ((i:Int)+1)))))
  (hit:(∃ (i:Nat) (x:α),xs[i]? =some x∧p i x=true)→Q hv) (miss:(∀ (i:Nat) x,xs[i]? =some x→p i x=false)→Wp (K ()) Q):
  Wp (qW (zP (fun s:Int=>bif decide (s< (xs.length:Int)) then body s else some (Sum.inr (Sum.inl ()))) (0:Int)) K) Q:=by
 refine zAx hl (fun i=> ∀j y,j<i→xs[j]? =some y→p j y=false) (fun j y hj=>by omega) ?_ (fun h=>miss (fun i x hx=>h i x (List.getElem?_eq_some_iff.1 hx).1 hx))
 intro i x hx hj
 refine (step i x hx).mono (fun o ho=> ?_)
 cases hp:p i x with
 |true=>
  rw [hp] at ho
  rw [ho]
  exact e2r (e2r (hit ⟨i,x,hx,hp⟩))
 |false=>
  rw [hp] at ho
  rw [ho]
  refine e2l ⟨rfl,?_⟩
  intro j y hjl hy
  rcases Nat.lt_or_ge j i with h'|h'
  ·exact hj j y h' hy
  ·have:j=i:=by omega
   subst this
   rw [hx] at hy
   cases hy
   exact hp
theorem zNE {α:Type} (p:α→Bool) (l:List α):decide (u9 p l≥(0:Int))=l.any p:=by
 rcases zBW p l with ⟨h1,h2⟩|⟨i,x,h1,h2,h3,_⟩
 ·rw [h1]
  symm
  rw [show decide ((-1:Int)≥0)=false from rfl,List.any_eq_false]
  intro x hx
  rw [h2 x hx];decide
 ·rw [h1]
  have:l.any p=true:=List.any_eq_true.2 ⟨x,List.mem_of_getElem? h2,h3⟩
  rw [this]
  exact decide_eq_true (by omega)
def zUZ (v:Ty.El zR) (r:Int) (rt:Ty.El zD) (p:Ty.El zF):Bool:=
 (List.range rt.2.2.1.length).any (fun i=>match rt.2.2.1[i]? with
  |some x=>upB v r i&&v2 (zCI x.2.1 x.2.2.1) p
  |none=>false)
theorem zRn {v:Ty.El zR} {r:Int} {rt:Ty.El zD} {p:Ty.El zF} :zUZ v r rt p=true↔ ∃ (i:Nat) (x:Ty.El z8),rt.2.2.1[i]? =some x∧(upB v r i&&v2 (zCI x.2.1 x.2.2.1) p)=true:=by
 unfold zUZ
 rw [List.any_eq_true]
 constructor
 ·rintro ⟨i,_,h⟩
  split at h
  ·rename_i x hx
   exact ⟨i,x,hx,h⟩
  ·cases h
 ·rintro ⟨i,x,hx,h⟩
  exact ⟨i,List.mem_range.2 (List.getElem?_eq_some_iff.1 hx).1,by rw [hx];exact h⟩
theorem zUY {v:Ty.El zR} {r:Int} {rt:Ty.El zD} {p:Ty.El zF} (h: ∀ (i:Nat) x,rt.2.2.1[i]? =some x→(upB v r i&&v2 (zCI x.2.1 x.2.2.1) p)=false):zUZ v r rt p=false:=by
 cases hb:zUZ v r rt p with
 |false=>rfl
 |true=>
  obtain ⟨i,x,hx,h1⟩:=zRn.1 hb
  rw [h i x hx] at h1;cases h1
theorem zDX (v:Ty.El zR) (r:Nat) (rt:Ty.El zD) (p:Ty.El zF) (hv:zAW v) (hr:v.1.1[r]? =some rt):Wp (uF (v,(r:Int),p,())) (fun b=>b=zUZ v r rt p):=by
 unfold uF
 dsimp only
 have hl:rt.2.2.1.length≤20:=(hv.sm rt (List.mem_of_getElem? hr)).i1
 simp only [zJ hr,Option.bind_some]
 refine zXK (p:=fun i (x:Ty.El z8)=>upB v r i&&v2 (zCI x.2.1 x.2.2.1) p) (by omega) ?_ (fun h=>(zRn.2 h).symm) (fun h=>zB (zUY h).symm)
 intro i x hx
 simp only [zJ hx,Option.bind_some]
 refine zC (Wp.mono (Q:=fun s=>s=(upB v r i&&v2 (zCI x.2.1 x.2.2.1) p)) ?_ (fun s hs=> ?_))
 ·refine zC ((zEM v r i hv).mono (fun b hb=> ?_))
  subst hb
  refine zG (fun h=>zC (qN (zI9 _ _) (zB ?_))) (fun h=>zB ?_)
  ·rw [h];rfl
  ·rw [h];rfl
 ·subst hs
  exact zG (fun h=>zB (by rw [h];rfl)) (fun h=>zB (by rw [h];rfl))
theorem zCq (t:List (Ty.El zA)) (p:Ty.El zF) (hl:t.length<4611686018427387904):Wp (zBS (t,p,())) (fun k=>k=u9 (fun x=>v2 x.1 p) t):=by
 unfold zBS
 dsimp only
 refine yY (p:=fun x:Ty.El zA=>v2 x.1 p) hl ?_ rfl
 intro i x hx
 simp only [zJ hx,Option.bind_some]
 show (bif v2 x.1 p then _ else _)=_
 cases v2 x.1 p<;>rfl
theorem zIb (t:List (Ty.El zA)) (p:Ty.El zF) (hl:t.length<4611686018427387904):Wp (jR (t,(p,()),())) (fun b=>b=t.any (fun x=>v2 x.1 p)):=by
 unfold jR
 dsimp only
 refine zC (Wp.mono (Q:=fun k=>k=u9 (fun x=>v2 x.1 p) t) ?_ (fun k hk=> ?_))
 ·unfold vV
  dsimp only
  refine yY (p:=fun x:Ty.El zA=>v2 x.1 p) hl ?_ rfl
  intro i x hx
  simp only [zJ hx,Option.bind_some]
  show (bif v2 x.1 p then _ else _)=_
  cases v2 x.1 p<;>rfl
 ·subst hk
  exact zB (zNE _ _)
theorem zIa (t:List (Ty.El zA)) (g:Ty.El jP) (hl:t.length<4611686018427387904):Wp (jQ (t,(g,()),())) (fun b=>b=t.any (fun x=>lwB x.1 g.1)):=by
 unfold jQ
 dsimp only
 refine zC (Wp.mono (Q:=fun k=>k=u9 (fun x=>lwB x.1 g.1) t) ?_ (fun k hk=> ?_))
 ·unfold vU
  dsimp only
  refine yY (p:=fun x:Ty.El zA=>lwB x.1 g.1) hl ?_ rfl
  intro i x hx
  have hc:vD (x,g,())=some (lwB x.1 g.1):=by
   unfold vD
   dsimp only
   rw [show jI (x.1,g.1,())=some (lwB x.1 g.1) from yN _ _]
   rfl
  simp only [zJ hx,Option.bind_some]
  rw [show vD (x,g,())=some (lwB x.1 g.1) from hc]
  cases lwB x.1 g.1<;>rfl
 ·subst hk
  exact zB (zNE _ _)
def zYg (t:List (Ty.El zA)) (p:Ty.El zF):Bool:=
 match t.find? (fun x=>v2 x.1 p) with
 |some x=>x.2.2.1==(3:Int)
 |none=>false
theorem zY2 {t:List (Ty.El zA)} {p:Ty.El zF} :
  Wp (bif decide (u9 (fun x=>v2 x.1 p) t≥(0:Int)) then Option.bind (idx t (u9 (fun x=>v2 x.1 p) t)) fun (y3:Ty.El zA)=>some (y3.2.2.1==(3:Int)) else some false) (fun b=>b=zYg t p):=by
 unfold zYg
 rcases zKR (fun x:Ty.El zA=>v2 x.1 p) t with ⟨h1,h2⟩|⟨i,x,h1,h2,h3⟩
 ·rw [h1,h2]
  exact ff rfl (zB rfl)
 ·rw [h1,h3]
  refine tt (decide_eq_true (by omega)) ?_
  simp only [zJ h2,Option.bind_some]
  exact zB rfl
noncomputable def zTa (v:Ty.El zR) (t:Ty.El qI) (r:Int) (rt:Ty.El zD) (p:Ty.El zF):Bool:=
 zUZ v r rt p||((rt.2.2.2.2.2.2.2.1.filterMap (act v t.2.2.2.1 r rt)).any (fun y=>v2 y.1 p)||(t.1.any (fun x=>v2 x.1 p)||zYg t.2.1 p))
structure zZL (t:Ty.El qI):Prop where
 ls:t.1.length≤1048576
 dv:t.2.1.length≤1048576
 pv:t.2.2.1.length≤1048576
 rib:t.2.2.2.1.length≤1048576
theorem zDA (t:Ty.El qI) (p:Ty.El zF) (ht:zZL t):Wp (kJ (t,p,())) (fun b=>b=(t.1.any (fun x=>v2 x.1 p)||zYg t.2.1 p)):=by
 unfold kJ
 dsimp only
 have h1:=ht.ls
 have h2:=ht.dv
 refine zC ((zCq t.1 p (by omega)).mono (fun k hk=> ?_))
 subst hk
 rw [zNE]
 refine zG (fun h=>zB (by rw [h];rfl)) (fun h=> ?_)
 rw [h]
 refine zC ((zCq t.2.1 p (by omega)).mono (fun k hk=> ?_))
 subst hk
 exact zC (zY2.mono (fun b hb=>zB (by rw [hb];rfl)))
def zXz (r:Ty.El zD) (p:Ty.El zF):Ty.El zA:=
 (p,(5:Int),(2:Int),r.2.2.2.2.2.2.2.2.2.2.1.2.2.1,(0:Int),(0:Int),(0:Int),(100:Int),[],(0:Int),(0:Int),[],true,())
noncomputable def zU3 (v:Ty.El zR) (t:Ty.El qI) (r:Int) (rt:Ty.El zD) (p:Ty.El zF):Option (Ty.El zA):=bif zTa v t r rt p then some (zMb rt p 0 0) else none
def zR6 (t:Ty.El qI) (rt:Ty.El zD) (c:Ty.El zBP):Option (Ty.El zA):=bif decide (u9 (fun x=>v2 x.1 c.2.1) t.2.2.2.1< (0:Int))==c.2.2.1 then some (zMb rt c.1 0 0) else none
def zTU (t:Ty.El qI) (rt:Ty.El zD) (g:Ty.El jP):Option (Ty.El zA):=bif t.2.2.1.any (fun x=>lwB x.1 g.1) then some (zXz rt g.1) else none
noncomputable def zE3 (v:Ty.El zR) (t:Ty.El qI) (r:Int) (rt:Ty.El zD):List (Ty.El zA):=
 ((rt.2.2.2.2.2.2.2.2.2.2.1.2.2.2.2.1.filterMap (zU3 v t r rt)++rt.2.2.2.2.2.2.2.2.2.2.1.2.2.2.2.2.2.1.filterMap (zR6 t rt))++zZe rt rt.2.2.2.2.2.2.2.2.2.2.1.2.2.2.2.2.2.2.1 t.2.2.2.1)++rt.2.2.2.2.2.2.2.2.2.2.1.2.2.2.2.2.1.filterMap (zTU t rt)
theorem zRh (r:Ty.El zD) (l:List (Ty.El jC)) (rib:List (Ty.El zA)):(zZe r l rib).length≤rib.length:=List.length_filterMap_le _ _
theorem zS3 {v:Ty.El zR} {t:Ty.El qI} {r:Int} {rt:Ty.El zD} (hs:SmR rt):(zE3 v t r rt).length≤t.2.2.2.1.length+60:=by
 have h1:rt.2.2.2.2.2.2.2.2.2.2.1.2.2.2.2.1.length≤20:=hs.i11
 have h2:rt.2.2.2.2.2.2.2.2.2.2.1.2.2.2.2.2.1.length≤20:=hs.i12
 have h3:rt.2.2.2.2.2.2.2.2.2.2.1.2.2.2.2.2.2.1.length≤20:=hs.i13
 have a1:=List.length_filterMap_le (zU3 v t r rt) rt.2.2.2.2.2.2.2.2.2.2.1.2.2.2.2.1
 have a2:=List.length_filterMap_le (zR6 t rt) rt.2.2.2.2.2.2.2.2.2.2.1.2.2.2.2.2.2.1
 have a3:=List.length_filterMap_le (zTU t rt) rt.2.2.2.2.2.2.2.2.2.2.1.2.2.2.2.2.1
 have a4:=zRh rt rt.2.2.2.2.2.2.2.2.2.2.1.2.2.2.2.2.2.2.1 t.2.2.2.1
 unfold zE3
 simp only [List.length_append]
 omega
theorem zBG (v:Ty.El zR) (t:Ty.El qI) (r:Nat) (rt:Ty.El zD) (hv:zAW v) (hr:v.1.1[r]? =some rt) (ht:zZL t):
  Wp (vQ (v,t,(r:Int),())) (fun o=>o=bif rt.2.2.2.2.2.2.2.2.2.2.1.1 then zE3 v t r rt else []):=by
 unfold vQ
 dsimp only
 have hrl:=(List.getElem?_eq_some_iff.1 hr).1
 have hs:=hv.sm rt (List.mem_of_getElem? hr)
 have b1:=ht.ls
 have b2:=ht.dv
 have b3:=ht.pv
 have b4:=ht.rib
 have n1:rt.2.2.2.2.2.2.2.2.2.2.1.2.2.2.2.1.length≤20:=hs.i11
 have n2:rt.2.2.2.2.2.2.2.2.2.2.1.2.2.2.2.2.1.length≤20:=hs.i12
 have n3:rt.2.2.2.2.2.2.2.2.2.2.1.2.2.2.2.2.2.1.length≤20:=hs.i13
 have n4:rt.2.2.2.2.2.2.2.2.2.2.1.2.2.2.2.2.2.2.1.length≤20:=hs.i14
 have n5:rt.2.2.2.2.2.2.2.1.length≤20:=hs.i6
 refine zC (Wp.mono (Q:=fun s=>s= !rt.2.2.2.2.2.2.2.2.2.2.1.1) ?_ (fun s hs2=> ?_))
 ·have q0: ¬((r:Int)<0):=by omega
  have q1: ¬((r:Int)≥(List.length v.1.1:Int)):=by omega
  refine zI (fun h=>absurd h q0) (fun _=>zI (fun h=>absurd h q1) (fun _=> ?_))
  simp only [zJ hr,Option.bind_some]
  exact zB rfl
 subst hs2
 cases hon:rt.2.2.2.2.2.2.2.2.2.2.1.1 with
 |false=>exact tt rfl (zB rfl)
 |true=>
  refine ff rfl ?_
  simp only [zJ hr,Option.bind_some,cond_true]
  refine zC ((zH4 v t.2.2.2.1 r rt hv hr b4).mono (fun y4 h4=> ?_))
  have hy4:y4.length≤20:=by rw [h4];exact Nat.le_trans (List.length_filterMap_le _ _) n5
  refine zC (wW (xs:=rt.2.2.2.2.2.2.2.2.2.2.1.2.2.2.2.1) (by omega) (fun i (g:List (Ty.El zA))=>g=(rt.2.2.2.2.2.2.2.2.2.2.1.2.2.2.2.1.take i).filterMap (zU3 v t r rt)) (by simp) ?_ (fun s38 h38=> ?_))
  ·intro i p g hp hg
   have hgl:g.length≤20:=by rw [hg];exact Nat.le_trans (List.length_filterMap_le _ _) (Nat.le_trans (List.length_take_le' _ _) n1)
   simp only [zJ hp,Option.bind_some]
   rw [wV hp, ←hg]
   refine zC (Wp.mono (Q:=fun s=>s=(zTa v t r rt p,g)) ?_ (fun s hs2=> ?_))
   ·unfold zTa
    rw [←h4]
    refine zC ((zDX v r rt p hv hr).mono (fun b hb=> ?_))
    subst hb
    refine zG (fun h=>zB (by rw [h];rfl)) (fun h=> ?_)
    rw [h]
    refine zC ((zIb y4 p (by omega)).mono (fun b hb=> ?_))
    subst hb
    refine zG (fun h=>zB (by rw [h];rfl)) (fun h=> ?_)
    rw [h]
    exact zC ((zDA t p ht).mono (fun b hb=>zB (by rw [hb];rfl)))
   ·subst hs2
    unfold zU3
    refine zG (fun h=> ?_) (fun h=>zB ?_)
    ·have h:zTa v t r rt p=true:=h
     rw [h]
     exact zC (wH (by simp only [List.length_singleton];omega) (zB rfl))
    ·have h:zTa v t r rt p=false:=h
     rw [h];simp
  rw [List.take_length] at h38
  have hl38:s38.length≤20:=by rw [h38];exact Nat.le_trans (List.length_filterMap_le _ _) n1
  refine zC (wW (xs:=rt.2.2.2.2.2.2.2.2.2.2.1.2.2.2.2.2.2.1) (by omega) (fun i (g:List (Ty.El zA))=>g=s38++(rt.2.2.2.2.2.2.2.2.2.2.1.2.2.2.2.2.2.1.take i).filterMap (zR6 t rt)) (by simp) ?_ (fun s58 h58=> ?_))
  ·intro i c g hc hg
   have hgl:g.length≤40:=by
    have:=Nat.le_trans (List.length_filterMap_le (zR6 t rt) (rt.2.2.2.2.2.2.2.2.2.2.1.2.2.2.2.2.2.1.take i)) (Nat.le_trans (List.length_take_le' _ _) n3)
    rw [hg,List.length_append];omega
   simp only [zJ hc,Option.bind_some]
   rw [wV hc, ←List.append_assoc, ←hg]
   refine zC ((zCq t.2.2.2.1 c.2.1 (by omega)).mono (fun k hk=> ?_))
   subst hk
   unfold zR6
   refine zG (fun h=> ?_) (fun h=>zB ?_)
   ·rw [h]
    exact zC (wH (by simp only [List.length_singleton];omega) (zB rfl))
   ·rw [h];simp
  rw [List.take_length] at h58
  have hl58:s58.length≤40:=by
   have:=Nat.le_trans (List.length_filterMap_le (zR6 t rt) rt.2.2.2.2.2.2.2.2.2.2.1.2.2.2.2.2.2.1) n3
   rw [h58,List.length_append];omega
  refine zC ((zFG rt _ t.2.2.2.1 hs n4 b4).mono (fun y59 h59=> ?_))
  have hl59:=zRh rt rt.2.2.2.2.2.2.2.2.2.2.1.2.2.2.2.2.2.2.1 t.2.2.2.1
  rw [←h59] at hl59
  refine zC (wH (by omega) ?_)
  refine zC (wW (xs:=rt.2.2.2.2.2.2.2.2.2.2.1.2.2.2.2.2.1) (by omega) (fun i (g:List (Ty.El zA))=>g=(s58++y59)++(rt.2.2.2.2.2.2.2.2.2.2.1.2.2.2.2.2.1.take i).filterMap (zTU t rt)) (by simp) ?_ (fun s79 h79=>zB ?_))
  ·intro i c g hc hg
   have hgl:g.length≤1048636:=by
    have:=Nat.le_trans (List.length_filterMap_le (zTU t rt) (rt.2.2.2.2.2.2.2.2.2.2.1.2.2.2.2.2.1.take i)) (Nat.le_trans (List.length_take_le' _ _) n2)
    rw [hg,List.length_append,List.length_append];omega
   simp only [zJ hc,Option.bind_some]
   rw [wV hc, ←List.append_assoc, ←hg]
   refine zC ((zIa t.2.2.1 c (by omega)).mono (fun b hb=> ?_))
   subst hb
   unfold zTU
   refine zG (fun h=> ?_) (fun h=>zB ?_)
   ·rw [h]
    exact zC (wH (by simp only [List.length_singleton];omega) (zB rfl))
   ·rw [h];simp
  ·rw [h79,List.take_length,h58,h38,h59];rfl
end Go.Ve

namespace Go.Ve
open Go
set_option maxRecDepth 1000000
set_option maxHeartbeats 4000000
theorem zU2 {v:Ty.El zR} {t:Ty.El qI} {r:Int} {rt:Ty.El zD} {p:Ty.El zF} {x:Ty.El zA} (h:zU3 v t r rt p=some x):zTa v t r rt p=true∧x=zMb rt p 0 0:=by
 unfold zU3 at h
 cases hb:zTa v t r rt p with
 |false=>rw [hb] at h;cases h
 |true=>rw [hb] at h;exact ⟨rfl,(Option.some.inj h).symm⟩
theorem zVx {t:Ty.El qI} {rt:Ty.El zD} {c:Ty.El zBP} {x:Ty.El zA} (h:zR6 t rt c=some x):x=zMb rt c.1 0 0:=by
 unfold zR6 at h
 cases hb:(decide (u9 (fun x:Ty.El zA=>v2 x.1 c.2.1) t.2.2.2.1< (0:Int))==c.2.2.1) with
 |false=>rw [hb] at h;cases h
 |true=>rw [hb] at h;exact (Option.some.inj h).symm
theorem zVJ {t:Ty.El qI} {rt:Ty.El zD} {g:Ty.El jP} {x:Ty.El zA} (h:zTU t rt g=some x):x=zXz rt g.1:=by
 unfold zTU at h
 cases hb:t.2.2.1.any (fun x=>lwB x.1 g.1) with
 |false=>rw [hb] at h;cases h
 |true=>rw [hb] at h;exact (Option.some.inj h).symm
theorem zUQ {rt:Ty.El zD} {l:List (Ty.El jC)} {y x:Ty.El zA} (h:zWl rt l y=some x): ∃d mt,d∈l∧zPV rt d y=some mt∧x=zMb rt y.1 mt.1 mt.2:=by
 unfold zWl at h
 cases ho:zRv y with
 |true=>rw [ho] at h;cases h
 |false=>
  rw [ho] at h
  simp only [cond_false] at h
  cases hf:l.find? (fun d=>d.1==y.2.1) with
  |none=>rw [hf] at h;cases h
  |some d=>
   rw [hf] at h
   simp only [Option.bind_some] at h
   unfold zX7 at h
   cases hT:zPV rt d y with
   |none=>rw [hT] at h;cases h
   |some mt=>
    rw [hT] at h
    exact ⟨d,mt,List.mem_of_find?_eq_some hf,hT,(Option.some.inj h).symm⟩
theorem zU4 {v:Ty.El zR} {t:Ty.El qI} {r:Int} {rt:Ty.El zD} {x:Ty.El zA} (h:x∈zE3 v t r rt):
  (∃p,p∈rt.2.2.2.2.2.2.2.2.2.2.1.2.2.2.2.1∧x=zMb rt p 0 0)∨(∃c,c∈rt.2.2.2.2.2.2.2.2.2.2.1.2.2.2.2.2.2.1∧x=zMb rt c.1 0 0)∨
  (∃y d mt,y∈t.2.2.2.1∧d∈rt.2.2.2.2.2.2.2.2.2.2.1.2.2.2.2.2.2.2.1∧zPV rt d y=some mt∧x=zMb rt y.1 mt.1 mt.2)∨(∃g,g∈rt.2.2.2.2.2.2.2.2.2.2.1.2.2.2.2.2.1∧x=zXz rt g.1):=by
 unfold zE3 at h
 rcases List.mem_append.1 h with h|h
 ·rcases List.mem_append.1 h with h|h
  ·rcases List.mem_append.1 h with h|h
   ·obtain ⟨p,hp,h⟩:=List.mem_filterMap.1 h
    exact .inl ⟨p,hp,(zU2 h).2⟩
   ·obtain ⟨c,hc,h⟩:=List.mem_filterMap.1 h
    exact .inr (.inl ⟨c,hc,zVx h⟩)
  ·obtain ⟨y,hy,h⟩:=List.mem_filterMap.1 h
   obtain ⟨d,mt,hd,hT,hx⟩:=zUQ h
   exact .inr (.inr (.inl ⟨y,d,mt,hy,hd,hT,hx⟩))
 ·obtain ⟨g,hg,h⟩:=List.mem_filterMap.1 h
  exact .inr (.inr (.inr ⟨g,hg,zVJ h⟩))
theorem zWI {v:Ty.El zR} {t:Ty.El qI} {r:Int} {rt:Ty.El zD} {x:Ty.El zA} (h:x∈zE3 v t r rt):PvS x∧RtS x:=by
 have h1: ∀p m k,PvS (zMb rt p m k)∧RtS (zMb rt p m k):=fun p m k=>⟨⟨rfl,⟨show (0:Int)≤100 by decide,show (100:Int)≤1000000 by decide⟩,⟨show (0:Int)≤0 by decide,show (0:Int)<4294967296 by decide⟩⟩,⟨Nat.zero_le _,Nat.zero_le _⟩⟩
 have h2: ∀p,PvS (zXz rt p)∧RtS (zXz rt p):=fun p=>⟨⟨rfl,⟨show (0:Int)≤100 by decide,show (100:Int)≤1000000 by decide⟩,⟨show (0:Int)≤0 by decide,show (0:Int)<4294967296 by decide⟩⟩,⟨Nat.zero_le _,Nat.zero_le _⟩⟩
 rcases zU4 h with ⟨_,_,rfl⟩|⟨_,_,rfl⟩|⟨_,_,_,_,_,_,rfl⟩|⟨_,_,rfl⟩
 ·exact h1 _ _ _
 ·exact h1 _ _ _
 ·exact h1 _ _ _
 ·exact h2 _
end Go.Ve

namespace Go.Ve
open Go
set_option maxRecDepth 1000000
set_option maxHeartbeats 4000000
structure zOe (v:Ty.El zR):Prop where
 p:zLK v
 maps: ∀r,r∈v.1.1→zD8 r
 adr: ∀r,r∈v.1.1→ ∀x,x∈r.2.2.1→0≤x.2.1∧x.2.1<4294967296
def zDy (x:Ty.El zA):Prop:=0≤x.2.2.2.2.2.2.2.1∧x.2.2.2.2.2.2.2.1≤1000000
structure zYK (t:Ty.El qI):Prop where
 s:zZL t
 pv:t.2.2.1.length≤12
 rib:t.2.2.2.1.length≤16
 rt: ∀y,y∈t.2.2.1→RtS y∧zDy y
theorem zPN {v:Ty.El zR} (hv:zOe v) {s:Ty.El zK} (h:s∈zFJ v):
  ∃ (qn kn r i:Nat) (int:Bool) (q rt:Ty.El zD) (y z:Ty.El z8),s=((qn:Int),(kn:Int),(r:Int),(i:Int),int,())∧v.1.1[qn]? =some q∧q.2.2.1[kn]? =some y∧v.1.1[r]? =some rt∧rt.2.2.1[i]? =some z∧zD8 q∧zD8 rt∧(0≤y.2.1∧y.2.1<4294967296):=by
 obtain ⟨r,i,rt,z,e,q,y,hrt,hz,hon,he,hq,hy,hb,rfl⟩:=zNl.1 h
 obtain ⟨u1,u2,u3⟩:=zJI he
 obtain ⟨b0,b1,_⟩:=hv.p.ends _ _ _ u1 u2
 obtain ⟨e1,e2,⟨⟩⟩:=e
 obtain ⟨qn,rfl⟩:=Int.eq_ofNat_of_zero_le (show (0:Int)≤e1 from b0)
 obtain ⟨kn,rfl⟩:=Int.eq_ofNat_of_zero_le (show (0:Int)≤e2 from b1)
 have hq:v.1.1[qn]? =some q:=hq
 have hy:q.2.2.1[kn]? =some y:=hy
 exact ⟨qn,kn,r,i,_,q,rt,y,z,rfl,hq,hy,hrt,hz,hv.maps q (List.mem_of_getElem? hq),hv.maps rt (List.mem_of_getElem? hrt),hv.adr q (List.mem_of_getElem? hq) y (List.mem_of_getElem? hy)⟩
theorem zUf {v:Ty.El zR} {t:List (Ty.El zA)} {qn kn r i:Nat} {int:Bool} {q rt:Ty.El zD} {y z:Ty.El z8} (hq:v.1.1[qn]? =some q) (hy:q.2.2.1[kn]? =some y) (hr:v.1.1[r]? =some rt) (hz:rt.2.2.1[i]? =some z):
  zIh v t ((qn:Int),(kn:Int),(r:Int),(i:Int),int,())=t.filterMap (fun x=>(zQe q z.2.1 int x).bind (zS8 rt y.2.1 (i:Int) int)):=by
 unfold zIh
 simp only [Int.toNat_natCast,hq,hr,hy,hz]
theorem zXv {r:Ty.El zD} {nm:Ty.El .str} {x y:Ty.El zA} (hm:zD8 r) (hx:zDy x) (h:zHB r nm x=some y):zDy y:=by
 unfold zHB at h
 cases hn:(nm==({ data:= #[] } :ByteArray)) with
 |true=>
  rw [hn] at h
  rw [←Option.some.inj h]
  exact hx
 |false=>
  rw [hn] at h
  simp only [cond_false] at h
  cases hp:zIj r nm x with
  |none=>rw [hp] at h;cases h
  |some c=>
   rw [hp] at h
   rw [←Option.some.inj h]
   have hc:zZM c:=by
    unfold zIj at hp
    cases ha:zOQ r nm x with
    |none=>rw [ha] at hp;cases hp
    |some c'=>
     rw [ha] at hp
     simp only at hp
     cases hc1:c'.1 with
     |false=>rw [hc1] at hp;cases hp
     |true=>
      rw [hc1] at hp
      rw [←Option.some.inj hp]
      exact zUu hm ha
   have h1: -1≤c.2.2.2.2.2.1∧c.2.2.2.2.2.1≤1000000:=hc.pref
   unfold zDy zXY
   simp only
   have aux: ∀a b:Int,(-1≤a∧a≤1000000)→(0≤b∧b≤1000000)→(0≤(bif a==(-1:Int) then b else a)∧(bif a==(-1:Int) then b else a)≤1000000):=by
    intro a b ha hb
    cases hab:(a==(-1:Int)) with
    |true=>exact hb
    |false=>
     have:a≠ -1:=by simpa using hab
     simp only [cond_false]
     omega
   exact aux _ _ h1 hx
theorem zW5 {q:Ty.El zD} {a:Int} {int:Bool} {x m:Ty.El zA} (hm:zD8 q) (hx:RtS x) (hp:zDy x) (h:zQe q a int x=some m):RtS m∧zDy m:=by
 obtain ⟨_,h1,h2⟩:=zW4 hm h
 refine ⟨⟨?_,by rw [h2];exact Nat.zero_le _⟩,?_⟩
 ·rcases h1 with ⟨_,h1⟩|⟨_,k,_,h1,h3⟩
  ·rw [h1];exact hx.path
  ·rw [h1,List.length_append,List.length_replicate];omega
 ·unfold zQe at h
  cases hh:(x.2.2.1==(4:Int)&&int)||zS9 q x.1 with
  |true=>rw [hh] at h;cases h
  |false=>
   rw [hh] at h
   simp only [cond_false] at h
   cases hn:zGo q.2.2.2.2.2.2.2.2.2.2.1.2.2.2.1 a with
   |none=>rw [hn] at h;cases h
   |some nb=>
    rw [hn] at h
    simp only at h
    cases int with
    |true=>
     simp only [cond_true] at h
     cases ha:zHB q nb.2.2.2.1 x with
     |none=>rw [ha] at h;cases h
     |some y=>
      rw [ha] at h
      rw [←Option.some.inj h]
      exact (zXv hm hp ha:zDy y)
    |false=>
     simp only [cond_false] at h
     cases ha:zHB q nb.2.2.2.1 (zId x 0) with
     |none=>rw [ha] at h;cases h
     |some y=>
      rw [ha] at h
      simp only at h
      cases hd:decide (1+zOs q nb.2.2.2.1 (zId x 0)+(x.2.2.2.2.2.2.2.2.1.length:Int)>(64:Int)) with
      |true=>rw [hd] at h;cases h
      |false=>
       rw [hd] at h
       rw [←Option.some.inj h]
       exact ⟨show (0:Int)≤100 by decide,show (100:Int)≤1000000 by decide⟩
theorem zZs {rt:Ty.El zD} {a i:Int} {int:Bool} {m y:Ty.El zA} (hm:zD8 rt) (ha:0≤a∧a<4294967296) (hx:RtS m) (hp:zDy m) (h:zS8 rt a i int m=some y):PvS y∧RtS y:=by
 unfold zS8 at h
 cases hh:m.2.2.2.2.2.2.2.2.1.any (fun x=>x==rt.2.1) with
 |true=>rw [hh] at h;cases h
 |false=>
  rw [hh] at h
  simp only [cond_false] at h
  cases hn:zGo rt.2.2.2.2.2.2.2.2.2.2.1.2.2.2.1 a with
  |none=>rw [hn] at h;cases h
  |some nb=>
   rw [hn] at h
   simp only at h
   cases hr:zHB rt nb.2.2.1 m with
   |none=>rw [hr] at h;cases h
   |some w=>
    rw [hr] at h
    rw [←Option.some.inj h]
    exact ⟨⟨rfl,(zXv hm hp hr:zDy w),ha⟩,⟨hx.path,show 1≤1048576 by decide⟩⟩
theorem zX9 {v:Ty.El zR} (hv:zOe v) {t:List (Ty.El zA)} (ht: ∀y,y∈t→RtS y∧zDy y) {s:Ty.El zK} (h:s∈zFJ v) {x:Ty.El zA} (hx:x∈zIh v t s):PvS x∧RtS x:=by
 obtain ⟨qn,kn,r,i,int,q,rt,y,z,rfl,hq,hy,hr,hz,hmq,hmr,ha⟩:=zPN hv h
 rw [zUf hq hy hr hz] at hx
 obtain ⟨w,hw,hx⟩:=List.mem_filterMap.1 hx
 obtain ⟨m,h1,h2⟩:=Option.bind_eq_some_iff.1 hx
 obtain ⟨e1,e2⟩:=zW5 hmq (ht w hw).1 (ht w hw).2 h1
 exact zZs hmr ha e1 e2 h2
theorem zDW (v:Ty.El zR) (hv:zOe v) (s:Ty.El zK) (h:s∈zFJ v) (t:List (Ty.El zA)) (hl:t.length≤1048576) (ht: ∀y,y∈t→RtS y∧zDy y):
  Wp (uE (v,s,t,())) (fun l=>l=zIh v t s):=by
 obtain ⟨qn,kn,r,i,int,q,rt,y,z,rfl,hq,hy,hr,hz,hmq,hmr,ha⟩:=zPN hv h
 rw [zUf hq hy hr hz]
 unfold uE
 dsimp only
 refine zC (wW (xs:=t) (by omega) (fun j (g:List (Ty.El zA))=>g=(t.take j).filterMap (fun x=>(zQe q z.2.1 int x).bind (zS8 rt y.2.1 (i:Int) int))) (by simp) ?_ (fun g hg=>zB (by rw [hg,List.take_length])))
 intro j x g hx hg
 have hgl:g.length≤1048576:=by rw [hg];exact Nat.le_trans (List.length_filterMap_le _ _) (Nat.le_trans (List.length_take_le' _ _) hl)
 simp only [zJ hx,Option.bind_some]
 rw [wV hx, ←hg]
 obtain ⟨x1,x2⟩:=ht x (List.mem_of_getElem? hx)
 refine zC ((zEP v hv.p qn kn r i int q rt z hq hr hz hmq x x1).mono (fun m hm=> ?_))
 rcases zRp hm with ⟨h1,h2⟩|⟨h1,h2⟩
 ·refine tt (by rw [h1];rfl) (zB ?_)
  rw [h2];simp
 ·obtain ⟨e1,e2⟩:=zW5 hmq x1 x2 h2
  refine ff (by rw [h1];rfl) (zC ((zEO v hv.p qn kn r (i:Int) int q rt y hq hy hr m.1 e1).mono (fun w hw=> ?_)))
  rw [h2,Option.bind_some]
  rcases zRp hw with ⟨h3,h4⟩|⟨h3,h4⟩
  ·refine ff h3 (zB ?_)
   rw [h4];simp
  ·refine tt h3 (zC (wH (by simp only [List.length_singleton];omega) (zB ?_)))
   rw [h4];rfl
theorem zQ9 {v:Ty.El zR} {r:Nat} {x:Ty.El zK} (hr:r<v.1.1.length) (h:x∈zDY v r):x∈zFJ v:=by
 unfold zFJ
 exact List.mem_flatMap.2 ⟨r,List.mem_range.2 hr,h⟩
theorem zWa {v:Ty.El zR} {r i:Nat} {rt:Ty.El zD} {x:Ty.El zK} (hr:v.1.1[r]? =some rt) (hi:i<rt.2.2.1.length) (h:x∈zBb v r rt i):x∈zDY v r:=by
 unfold zDY
 rw [hr]
 exact List.mem_flatMap.2 ⟨i,List.mem_range.2 hi,h⟩
theorem zV7 {v:Ty.El zR} (hv:zOe v) {s:Ty.El zK} (h:s∈zFJ v): ∃qn:Nat,s.1=(qn:Int)∧qn<v.1.1.length:=by
 obtain ⟨qn,kn,r,i,int,q,rt,y,z,rfl,hq,_⟩:=zPN hv h
 exact ⟨qn,rfl,(List.getElem?_eq_some_iff.1 hq).1⟩
theorem zX8 {v:Ty.El zR} (hv:zOe v) {s:List (Ty.El qI)} (hs: ∀t,t∈s→zYK t) {r:Nat} (hr:r<v.1.1.length) {x:Ty.El zA} (hx:x∈zUR v s r):PvS x∧RtS x:=by
 obtain ⟨w,hw,hx⟩:=List.mem_flatMap.1 hx
 refine zX9 hv ?_ (zQ9 hr hw) hx
 intro y hy
 unfold zJl at hy
 split at hy
 ·rename_i t ht
  exact (hs t (List.mem_of_getElem? ht)).rt y hy
 ·cases hy
theorem zFH (v:Ty.El zR) (hv:zOe v) (s:List (Ty.El qI)) (hlen:s.length=v.1.1.length) (hs: ∀t,t∈s→zYK t) (r:Nat) (rt:Ty.El zD) (t:Ty.El qI) (hr:v.1.1[r]? =some rt) (ht:s[r]? =some t):
  Wp (xY (v,s,(r:Int),())) (fun o=>o=bif rt.2.2.2.2.2.2.2.2.2.2.1.1 then zAJ (zE3 v t r rt++zUR v s r) else []):=by
 unfold xY
 dsimp only
 have hrl:=(List.getElem?_eq_some_iff.1 hr).1
 have hV:=hv.p.s
 have hsm:=hV.sm rt (List.mem_of_getElem? hr)
 have hT:=hs t (List.mem_of_getElem? ht)
 have n1:rt.2.2.1.length≤20:=hsm.i1
 refine zC (Wp.mono (Q:=fun s=>s= !rt.2.2.2.2.2.2.2.2.2.2.1.1) ?_ (fun s2 hs2=> ?_))
 ·have q0: ¬((r:Int)<0):=by omega
  have q1: ¬((r:Int)≥(List.length v.1.1:Int)):=by omega
  have q2: ¬((r:Int)≥(List.length s:Int)):=by omega
  refine zI (fun h=>absurd h q0) (fun _=>zI (fun h=>absurd h q1) (fun _=>zI (fun h=>absurd h q2) (fun _=> ?_)))
  simp only [zJ hr,Option.bind_some]
  exact zB rfl
 subst hs2
 cases hon:rt.2.2.2.2.2.2.2.2.2.2.1.1 with
 |false=>exact tt rfl (zB rfl)
 |true=>
  refine ff rfl ?_
  simp only [zJ hr,zJ ht,Option.bind_some,cond_true]
  refine zC ((zBG v t r rt hV hr hT.s).mono (fun y6 h6=> ?_))
  rw [hon] at h6
  simp only [cond_true] at h6
  have hl6:y6.length≤76:=by
   have:=zS3 (v:=v) (t:=t) (r:=r) hsm
   have h16:=hT.rib
   rw [h6];omega
  have hpv: ∀k,(zJl s k).length≤12:=by
   intro k
   unfold zJl
   split
   ·rename_i t0 h0
    exact (hs t0 (List.mem_of_getElem? h0)).pv
   ·exact Nat.zero_le _
  have hrI: ∀k,((zBb v r rt k).flatMap (fun x=>zIh v (zJl s x.1) x)).length≤4320:=by
   intro k
   have h1:=wU (xs:=zBb v r rt k) (f:=fun x=>zIh v (zJl s x.1) x) (k:=12) (fun x _=>Nat.le_trans zM4 (hpv _))
   have h2:=zEi hV r rt k
   omega
  have hrA: ∀m,m≤20→((List.range m).flatMap (fun k=>(zBb v r rt k).flatMap (fun x=>zIh v (zJl s x.1) x))).length≤86400:=by
   intro m hm
   have h1:=wU (xs:=List.range m) (f:=fun k=>(zBb v r rt k).flatMap (fun x=>zIh v (zJl s x.1) x)) (k:=4320) (fun k _=>hrI k)
   rw [List.length_range] at h1
   omega
  refine zC (wW (xs:=rt.2.2.1) (by omega) (fun i (g:List (Ty.El zA))=>g=y6++(List.range i).flatMap (fun k=>(zBb v r rt k).flatMap (fun x=>zIh v (zJl s x.1) x))) (by simp) ?_ (fun s102 h102=> ?_))
  ·intro i z g hz hg
   have hi:=(List.getElem?_eq_some_iff.1 hz).1
   have hgl:g.length≤86476:=by
    have:=hrA i (by omega)
    rw [hg,List.length_append];omega
   refine zC ((yM v hv.p r i rt z hr hz).mono (fun y94 h94=> ?_))
   have hl94:y94.length≤360:=by rw [h94];exact zEi hV r rt i
   rw [List.range_succ,List.flatMap_append, ←List.append_assoc, ←hg]
   refine wW (xs:=y94) (by omega) (fun j (w:List (Ty.El zA))=>w=g++(y94.take j).flatMap (fun x=>zIh v (zJl s x.1) x)) (by simp) ?_ (fun w hw=> ?_)
   ·intro j x w hx hw
    have hwl:w.length≤90796:=by
     have h1:=wU (xs:=y94.take j) (f:=fun x=>zIh v (zJl s x.1) x) (k:=12) (fun x _=>Nat.le_trans zM4 (hpv _))
     have h2:=List.length_take_le' j y94
     rw [hw,List.length_append];omega
    have hxm:x∈zFJ v:=zQ9 hrl (zWa hr hi (by rw [←h94];exact List.mem_of_getElem? hx))
    obtain ⟨qn,hq1,hq2⟩:=zV7 hv hxm
    obtain ⟨t0,ht0⟩: ∃t0,s[qn]? =some t0:=⟨_,List.getElem?_eq_getElem (by omega)⟩
    have hT0:=hs t0 (List.mem_of_getElem? ht0)
    have hpe:zJl s x.1=t0.2.2.1:=by
     unfold zJl
     rw [hq1,Int.toNat_natCast,ht0]
    simp only [zJ hx,Option.bind_some]
    rw [zJU hx, ←List.append_assoc, ←hw,hpe]
    have hlt:(qn:Int)< (s.length:Int):=by omega
    refine tt (decide_eq_true (by rw [hq1];exact hlt)) ?_
    rw [hq1]
    simp only [zJ ht0,Option.bind_some]
    have hpl:=hT0.pv
    refine zC ((zDW v hv x hxm t0.2.2.1 (by omega) hT0.rt).mono (fun l hl=> ?_))
    have hll:l.length≤12:=by rw [hl];exact Nat.le_trans zM4 hpl
    refine zC (wH (by omega) (zB ?_))
    rw [hl]
   ·rw [hw,List.take_length,h94];simp
  ·have hrec:zUR v s r=(List.range rt.2.2.1.length).flatMap (fun k=>(zBb v r rt k).flatMap (fun x=>zIh v (zJl s x.1) x)):=by
    unfold zUR zDY
    rw [hr]
    simp only
    rw [List.flatMap_assoc]
   rw [←hrec] at h102
   have hrl2:(zUR v s r).length≤86400:=by rw [hrec];exact hrA _ n1
   have hall: ∀x,x∈s102→PvS x∧RtS x:=by
    intro x hx
    rw [h102] at hx
    rcases List.mem_append.1 hx with hx|hx
    ·rw [h6] at hx;exact zWI hx
    ·exact zX8 hv hs hrl hx
   refine zC ((zKt s102 (by rw [h102,List.length_append];omega) (fun x hx=>(hall x hx).2) (fun x y hx hy=>zH5 x y (hall x hx).1 (hall y hy).1)).mono (fun o ho=>zB ?_))
   rw [ho,h102,h6]
end Go.Ve

namespace Go.Ve
open Go
set_option maxRecDepth 1000000
set_option maxHeartbeats 4000000
def zZ7:Ty.El tDV:=(false,0,⟨#[]⟩,⟨#[]⟩,[],())
def qAo:Ty.El tPV:=(true,20,200,[(167772162,2,⟨#[]⟩,⟨#[]⟩,())],[],[],[],[],())
def qAn:Ty.El tPV:=(true,20,200,[(167772161,1,⟨#[]⟩,⟨#[]⟩,())],[(167772416,24,())],[],[],[],())
def zYb:Ty.El zD:=rtS ⟨#[97]⟩ 1 [ifS ⟨#[101,48]⟩ 167772161 false] zZ7 qAo
def zYa:Ty.El zD:=rtS ⟨#[98]⟩ 2 [ifS ⟨#[101,48]⟩ 167772162 false,ifS ⟨#[101,49]⟩ 167772418 false] zZ7 qAn
def zZh:Ty.El zT:=([zYb,zYa],())
def kR:Ty.El zR:=(zZh,zVV,[],())
def zQO:Ty.El qI:=([],[],[],[],())
def l20:List (Ty.El zA):=[((167772416,24,()),5,1,200,0,0,0,100,[],0,0,[],false,())]
def s20:List (Ty.El qI):=[zQO,([],[],l20,[],())]
def t20:List (Ty.El zA):=[((167772416,24,()),5,3,20,0,0,0,100,[2],167772162,0,[(0,167772162,())],false,())]
def e20:List (Ty.El zK):=[(1,0,0,0,false,()),(0,0,1,0,false,())]
theorem zYn {P:Ty.El zD→Prop} (ha:P zYb) (hb:P zYa): ∀r,r∈kR.1.1→P r:=by
 intro r hr
 rcases List.mem_cons.1 hr with rfl|hr
 ·exact ha
 ·rcases List.mem_cons.1 hr with rfl|hr
  ·exact hb
  ·cases hr
theorem zT3:zAW kR where
 rs:=by decide
 sm:=zYn (zPK (by decide) (by decide) (by decide) (by decide) (by decide) (by decide) (by decide)) (zPK (by decide) (by decide) (by decide) (by decide) (by decide) (by decide) (by decide))
 doms:=zGO.doms
 ends := zGO.ends
 links:=zGO.links
 link0:=zGO.link0
 down:=zGO.down
 down0:=zGO.down0
theorem zXh {r i:Int} {e:Ty.El zL} (he:e∈vW kR r i):
  (vW kR r i=[(0,0,()),(1,0,())]∨vW kR r i=[(1,1,())]):=by
 unfold vW at he ⊢
 split at he
 ·rename_i d hd
  have hd:=List.mem_of_getElem? hd
  rcases List.mem_cons.1 hd with rfl|hd
  ·exact .inl rfl
  ·rcases List.mem_cons.1 hd with rfl|hd
   ·exact .inr rfl
   ·cases hd
 ·cases he
theorem zT4:zLK kR where
 s:=zT3
 nb:=zYn (fun i j x y hj hx _=>by
  have:i<1:=(List.getElem?_eq_some_iff.1 hx).1
  omega) (fun i j x y hj hx _=>by
  have:i<1:=(List.getElem?_eq_some_iff.1 hx).1
  omega)
 ends := fun r i e _ he => by
  rcases zXh he with h|h
  ·rw [h] at he
   rcases List.mem_cons.1 he with rfl|he
   ·exact ⟨by decide,by decide,_,_,rfl,rfl⟩
   ·rcases List.mem_cons.1 he with rfl|he
    ·exact ⟨by decide,by decide,_,_,rfl,rfl⟩
    ·cases he
  ·rw [h] at he
   rcases List.mem_cons.1 he with rfl|he
   ·exact ⟨by decide,by decide,_,_,rfl,rfl⟩
   ·cases he
 own:=fun r i=>by
  unfold zD3
  cases hu:upB kR r i with
  |false=>rfl
  |true=>
   simp only [cond_true]
   have ho:=zRY hu
   refine List.filter_congr (fun e he=> ?_)
   cases h1:(e.1 !=r) with
   |true=>rfl
   |false=>
    have h1:e.1=r:=by simpa [bne] using h1
    have h2:e.2.1=i:=by
     rcases zXh he with h|h
     ·rw [h] at he ho
      rcases List.mem_cons.1 he with rfl|he
      ·rcases List.mem_cons.1 ho with ho|ho
       ·exact (congrArg (fun e:Ty.El zL=>e.2.1) ho).symm
       ·rcases List.mem_cons.1 ho with ho|ho
        ·have h3:r=1:=congrArg (fun e:Ty.El zL=>e.1) ho
         have h1:(0:Int)=r:=h1
         omega
        ·cases ho
      ·rcases List.mem_cons.1 he with rfl|he
       ·rcases List.mem_cons.1 ho with ho|ho
        ·have h3:r=0:=congrArg (fun e:Ty.El zL=>e.1) ho
         have h1:(1:Int)=r:=h1
         omega
        ·rcases List.mem_cons.1 ho with ho|ho
         ·exact (congrArg (fun e:Ty.El zL=>e.2.1) ho).symm
         ·cases ho
       ·cases he
     ·rw [h] at he ho
      rcases List.mem_cons.1 he with rfl|he
      ·rcases List.mem_cons.1 ho with ho|ho
       ·exact (congrArg (fun e:Ty.El zL=>e.2.1) ho).symm
       ·cases ho
      ·cases he
    rw [h2]
    simp
theorem zXQ:zOe kR where
 p:=zT4
 maps:=zYn (fun m hm=>by cases hm) (fun m hm=>by cases hm)
 adr:=zYn (fun x hx=>by
  rcases List.mem_cons.1 hx with rfl|hx
  ·exact ⟨by decide,by decide⟩
  ·cases hx) (fun x hx=>by
  rcases List.mem_cons.1 hx with rfl|hx
  ·exact ⟨by decide,by decide⟩
  ·rcases List.mem_cons.1 hx with rfl|hx
   ·exact ⟨by decide,by decide⟩
   ·cases hx)
theorem zZP:zYK zQO:=⟨⟨by decide,by decide,by decide,by decide⟩,by decide,by decide,fun y hy=>by cases hy⟩
theorem zZQ: ∀t,t∈s20→zYK t:=by
 intro t ht
 rcases List.mem_cons.1 ht with rfl|ht
 ·exact zZP
 ·rcases List.mem_cons.1 ht with rfl|ht
  ·refine ⟨⟨by decide,by decide,by decide,by decide⟩,by decide,by decide,fun y hy=> ?_⟩
   rcases List.mem_cons.1 hy with rfl|hy
   ·exact ⟨⟨by decide,by decide⟩,⟨by decide,by decide⟩⟩
   ·cases hy
  ·cases ht
theorem zWK:zE3 kR zQO 1 zYa=l20:=by kernel_rfl
theorem zWL:zAJ (zE3 kR zQO 0 zYb++zUR kR s20 0)=t20:=by kernel_rfl
theorem zZa:zFJ kR=e20:=by kernel_rfl
theorem zYi:vQ (kR,zQO,1,())=some l20:=by
 refine wQ ((zBG kR zQO 1 zYa zT3 rfl zZP.s).mono (fun o ho=> ?_))
 rw [ho]
 exact zWK
theorem zXV:xY (kR,s20,0,())=some t20:=by
 refine wQ ((zFH kR zXQ s20 rfl zZQ 0 zYb zQO rfl rfl).mono (fun o ho=> ?_))
 rw [ho]
 exact zWL
theorem zSM:vC (kR,())=some e20:=by
 refine wQ ((zAm kR zT4).mono (fun o ho=> ?_))
 rw [ho]
 exact zZa
end Go.Ve

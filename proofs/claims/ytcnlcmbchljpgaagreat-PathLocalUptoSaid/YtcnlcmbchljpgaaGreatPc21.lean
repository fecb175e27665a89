/-
  Plain laws: the routes of one prefix are merged.
  Plain laws: the program's merging is the document's.
  Plain laws: the tables of distance-vector routing.
  Plain laws: the document's distance-vector tables.
  Plain laws of path-vector routing: sessions.
  PathSessions: the law answers true.
  Plain laws of path-vector routing: what is told and what is made of it.
  PathLoops, PathSplit: the laws answer true.
  Plain laws: what a router makes of its neighbors' path-vector tables.
  Plain laws: what the checks say of redistribution and of the prefixes that path-vector routing originates.
  Plain laws: redistribution into path-vector routing; both sides answer the same list.
  Plain laws: the routes that a router originates; both sides answer the same list.
  Plain laws: states of a view; PathLocal.
  Plain laws: the fixed network of distance-vector routing; DistTables.
  Plain laws: tables of path-vector routing: the program's Table.
  Plain laws: the fixed network of path-vector routing.
-/
import Derived.KernelRfl
import Derived.Test.YtcnlcmbchljpgaaGreatPc17
import Derived.Test.YtcnlcmbchljpgaaGreatPc13
import Derived.Test.YtcnlcmbchljpgaaGreatPc18
set_option linter.unusedVariables false
namespace Go.Ve
open Go
set_option maxRecDepth 1000000
set_option maxHeartbeats 4000000
theorem zQM {l l':List (Ty.El zA)} {p:Ty.El zG} (h:zAz p l=zAz p l'):mrg l p=mrg l' p:=by
 have hm: ∀x,(x∈l∧x.1=p)↔(x∈l'∧x.1=p):=fun x=>by rw [←zDm, ←zDm,h]
 unfold mrg
 have hb:zD0 l p=zD0 l' p:=by
  rw [zDZ,zDZ,h]
 rw [hb]
 cases zD0 l' p with
 |none=>rfl
 |some b=>
  have hh:zEI l p b=zEI l' p b:=zDj zKZ (zAU _ _ _) (zAU _ _ _) (fun h'=>by
   rw [zDP,zDP]
   exact ⟨fun ⟨x,hx,e,k⟩=>⟨x,((hm x).1 ⟨hx,e⟩).1,e,k⟩,fun ⟨x,hx,e,k⟩=>⟨x,((hm x).2 ⟨hx,e⟩).1,e,k⟩⟩)
  rw [Option.map_some,Option.map_some,hh]
theorem zKP (p:Ty.El zG) (a b:List (Ty.El zA)):zAz p (a++b)=zAz p a++zAz p b:=by
 unfold zAz zL3
 exact List.filter_append _ _
theorem zOM {p:Ty.El zG} {l:List (Ty.El zA)} (h: ∀x,x∈l→x.1≠p):zAz p l=[]:=by
 unfold zAz zL3
 rw [List.filter_eq_nil_iff]
 intro x hx
 simpa using h x hx
theorem zWF {p:Ty.El zG} {l:List (Ty.El zA)} (h: ∀x,x∈l→x.1=p):zAz p l=l:=by
 unfold zAz zL3
 rw [List.filter_eq_self]
 intro x hx
 simpa using h x hx
theorem zVo {l:List (Ty.El zA)} {c:Option (Ty.El zA)} {i:Nat} {x:Ty.El zA} (h:l[i]? =some x):zLo c (l.take (i+1))=(bif zVp x (zLo c (l.take i)) then some x else zLo c (l.take i)):=by
 unfold zLo
 rw [List.take_add_one,h,Option.toList_some,List.foldl_append]
 rfl
def zKY (b:Ty.El zA) (l:List (Ty.El zA)):List (Ty.El qS):=l.flatMap (fun x=>bif zB7 x b==0 then x.2.2.2.2.2.2.2.2.2.2.2.1 else [])
theorem zUr (xs:List (Ty.El qS)):((if xs=[] then [] else srt zLZ xs):List (Ty.El qS)).Pairwise (fun x y=> ¬hlt y x)∧(∀h,h∈(if xs=[] then [] else srt zLZ xs)↔h∈xs)∧(if xs=[] then [] else srt zLZ xs).length=xs.length:=by
 by_cases hx:xs=[]
 ·rw [if_pos hx,hx]
  exact ⟨List.Pairwise.nil,fun h=>Iff.rfl,rfl⟩
 ·rw [if_neg hx]
  obtain ⟨h1,h2,h3⟩:=zSI zVZ xs
  refine ⟨?_,fun h=>h1.mem_iff,h2⟩
  rw [List.pairwise_iff_getElem]
  intro i j hi hj hij hlt'
  have:=h3 i j _ _ hij (List.getElem?_eq_getElem hi) (List.getElem?_eq_getElem hj)
  rw [(zEt _ _).2 hlt'] at this
  cases this
theorem zIh (g:List (Ty.El zA)) (p:Ty.El zG) (hne:g≠[]) (hp: ∀x,x∈g→x.1=p) (hs: ∀x,x∈g→RtS x) (hl:g.length≤524288) (hP: ∀x y,x∈g→y∈g→yT (x,y,())=some (zB7 x y)):
  Wp (zBB (g,())) (fun z=>mrg g p=some z):=by
 obtain ⟨y0,r,rfl⟩: ∃y0 r,g=y0::r:=by
  cases g with
  |nil=>exact absurd rfl hne
  |cons y r=>exact ⟨y,r,rfl⟩
 unfold zBB
 dsimp only
 have h0:idx (y0::r) (0:Int)=some y0:=rfl
 have hsub:sub (y0::r) (1:Int) ((List.length (y0::r):Nat):Int)=some r:=by
  have:=zXD (xs:=y0::r) (k:=1) (by simp)
  simpa using this
 have hrl:r.length≤524288:=by simp only [List.length_cons] at hl;omega
 refine zC (qE h0 ?_)
 refine zC (Wp.mono (Q:=fun b=>zLo (some y0) r=some b∧b∈y0::r) ?_ ?_)
 ·refine zC (qE hsub ?_)
  refine wM (xs:=r) (by omega) (fun i (b:Ty.El zA)=>zLo (some y0) (r.take i)=some b∧b∈y0::r) ⟨rfl,by simp⟩ ?_ (fun b hb=>by rw [List.take_length] at hb;exact hb)
  rintro i x b hx ⟨hb,hbm⟩
  have hxm:x∈y0::r:=List.mem_cons_of_mem _ (List.mem_of_getElem? hx)
  simp only [zJ hx,Option.bind_some]
  refine zC (qE (hP x b hxm hbm) ?_)
  rw [zVo hx,hb]
  refine zI (fun h=>zB ⟨?_,hxm⟩) (fun h=>zB ⟨?_,hbm⟩)
  ·have:zVp x (some b)=true:=decide_eq_true h
   rw [this];rfl
  ·have:zVp x (some b)=false:=decide_eq_false h
   rw [this];rfl
 ·rintro b ⟨hb,hbm⟩
  have hbest:zD0 (y0::r) p=some b:=by
   rw [zDZ,zWF hp]
   exact hb
  have hbs:=hs b hbm
  have hbound: ∀i,i≤(y0::r).length→(zKY b ((y0::r).take i)).length≤i*1048576:=by
   intro i hi
   have:=kW (xs:=(y0::r).take i) (f:=fun x:Ty.El zA=>bif zB7 x b==0 then x.2.2.2.2.2.2.2.2.2.2.2.1 else []) (k:=1048576) (fun x hx=>by
    have:=(hs x (List.mem_of_mem_take hx)).hops
    cases zB7 x b==0
    ·exact Nat.zero_le _
    ·exact this)
   rw [List.length_take,Nat.min_eq_left hi] at this
   exact this
  refine zC ((show Wp _ (fun hs0:List (Ty.El qS)=>hs0=zKY b (y0::r)) from ?_).mono (fun hs0 hh=> ?_))
  ·refine wM (xs:=y0::r) (by omega) (fun i (h:List (Ty.El qS))=>h=zKY b ((y0::r).take i)) rfl ?_ (fun h hh=>by rw [hh,List.take_length])
   intro i x h hx hh
   have hi:=(List.getElem?_eq_some_iff.1 hx).1
   have hxm:x∈y0::r:=List.mem_of_getElem? hx
   have hxh:=(hs x hxm).hops
   have hlh:h.length≤i*1048576:=by rw [hh];exact hbound i (by omega)
   simp only [zJ hx,Option.bind_some]
   refine zC (qE (hP x b hxm hbm) ?_)
   have hst:zKY b ((y0::r).take (i+1))=h++(bif zB7 x b==0 then x.2.2.2.2.2.2.2.2.2.2.2.1 else []):=by
    rw [hh]
    exact zFX hx
   rw [hst]
   refine zF (fun hz=> ?_) (fun hz=>zB ?_)
   ·rw [hz]
    exact zC (j9 (by omega) (zB rfl))
   ·rw [hz];exact (List.append_nil h).symm
  ·have hlen:hs0.length≤549755813888:=by
    have:=hbound (y0::r).length (Nat.le_refl _)
    rw [List.take_length, ←hh] at this
    have h2:(y0::r).length*1048576≤524288*1048576:=Nat.mul_le_mul_right _ hl
    omega
   obtain ⟨s1,s2,s3⟩:=zUr hs0
   refine tt (Nat.beq_refl _) ?_
   have e1:uO hs0 ((),())=some (if hs0=[] then [] else srt zLZ hs0,()):=by
    unfold uO
    rw [if_pos (by omega)]
   refine zC (qE e1 ?_)
   generalize (if hs0=[] then [] else srt zLZ hs0)=hs1 at s1 s2 s3
   have e2:yR hs1 ()=some (vJ zQf hs1):=by
    unfold yR
    rw [if_pos (by omega)]
   refine zC (qE e2 ?_)
   have hcm:vJ zQf hs1=zEI (y0::r) p b:=by
    refine zRQ s1 (fun h=> ?_)
    rw [s2,hh]
    unfold zKY
    rw [List.mem_flatMap]
    constructor
    ·rintro ⟨x,hx,hxx⟩
     cases hz:zB7 x b==0 with
     |false=>rw [hz] at hxx;cases hxx
     |true=>
      rw [hz] at hxx
      exact ⟨x,hx,hp x hx,by simpa using hz,hxx⟩
    ·rintro ⟨x,hx,_,hz,hxx⟩
     refine ⟨x,hx,?_⟩
     have:(zB7 x b==0)=true:=by simpa using hz
     rw [this]
     exact hxx
   have hpath:=hbs.path
   have e3:jT (b.2.2.2.2.2.2.2.2.1,())=some b.2.2.2.2.2.2.2.2.1:=by
    refine wK ?_
    unfold jT
    exact zC (j9 (by simp only [List.length_nil];omega) (zB rfl))
   refine zC (qE e3 (zB ?_))
   unfold mrg
   rw [hbest,hcm]
   obtain ⟨⟨a1,a2,⟨⟩⟩,b⟩:=b
   rfl
end Go.Ve

namespace Go.Ve
open Go
set_option maxRecDepth 1000000
set_option maxHeartbeats 4000000
theorem zJD {l:List (Ty.El zA)} {z:Ty.El zA} :z∈zBa l↔ ∃q,(∃x,x∈l∧x.1=q)∧mrg l q=some z:=by
 unfold zBa
 rw [List.mem_filterMap]
 exact ⟨fun ⟨q,h1,h2⟩=>⟨q,(zKy l q).1 h1,h2⟩,fun ⟨q,h1,h2⟩=>⟨q,(zKy l q).2 h1,h2⟩⟩
theorem zRK {a g:List (Ty.El zA)} {p:Ty.El zG} {z:Ty.El zA} (ha: ∀x,x∈a→plt x.1 p) (hg: ∀x,x∈g→x.1=p) (hne:g≠[]) (hz:mrg g p=some z):zBa (a++g)=zBa a++[z]:=by
 have hirr: ∀q:Ty.El zG, ¬plt q q:=fun q h=>zHX.asym _ _ h h
 have hane: ∀x,x∈a→x.1≠p:=fun x hx e=>by have:=ha x hx;rw [e] at this;exact hirr p this
 have hzp:z.1=p:=zNP hz
 have e1: ∀q,q≠p→mrg (a++g) q=mrg a q:=fun q hq=>zQM (by
  rw [zKP,zOM (l:=g) (fun x hx e=>hq (e.symm.trans (hg x hx))),List.append_nil])
 have e2:mrg (a++g) p=mrg g p:=zQM (by rw [zKP,zOM hane,List.nil_append])
 refine zDj zVQ (zIS _) ?_ ?_
 ·rw [List.pairwise_append]
  refine ⟨zIS a,List.pairwise_singleton _ _,?_⟩
  intro x hx y hy
  rw [List.mem_singleton] at hy
  subst hy
  obtain ⟨q,⟨x0,hx0,hq⟩,hm⟩:=zJD.1 hx
  unfold rlt
  rw [hzp,zNP hm, ←hq]
  exact ha x0 hx0
 ·intro y
  rw [List.mem_append,List.mem_singleton,zJD,zJD]
  constructor
  ·rintro ⟨q,⟨x,hx,hq⟩,hm⟩
   by_cases hqp:q=p
   ·subst hqp
    rw [e2,hz] at hm
    exact .inr (Option.some.inj hm).symm
   ·refine .inl ⟨q,⟨x,?_,hq⟩,by rw [←e1 q hqp];exact hm⟩
    rcases List.mem_append.1 hx with h|h
    ·exact h
    ·exact absurd ((hg x h).symm.trans hq).symm hqp
  ·rintro (⟨q,⟨x,hx,hq⟩,hm⟩|rfl)
   ·have hqp:q≠p:=fun e=>hane x hx (hq.trans e)
    exact ⟨q,⟨x,List.mem_append_left _ hx,hq⟩,by rw [e1 q hqp];exact hm⟩
   ·obtain ⟨x,hx⟩:=List.exists_mem_of_ne_nil g hne
    exact ⟨p,⟨x,List.mem_append_right _ hx,hg x hx⟩,by rw [e2];exact hz⟩
theorem zUM (l:List (Ty.El zA)):(zBa l).length≤l.length:=Nat.le_trans (List.length_filterMap_le _ _) (zX6 l)
theorem zLD (l:List (Ty.El zA)) (hl:l.length≤524288) (hs: ∀x,x∈l→RtS x) (hP: ∀x y,x∈l→y∈l→yT (x,y,())=some (zB7 x y)):
  Wp (zEj (l,())) (fun r=>r=zBa l):=by
 unfold zEj
 dsimp only
 have e0:yS (l,())=some l:=by
  refine wK ?_
  unfold yS
  exact zC (j9 (by simp only [List.length_nil];omega) (zB rfl))
 refine zC (qE e0 ?_)
 refine tt (by simp) ?_
 refine zC ((show Wp (uZ l ((),())) _ from zM4 l (by omega)).mono ?_)
 rintro ⟨s,⟨⟩⟩ ⟨hsl,hsame,hso⟩
 simp only at hsl hsame hso
 rw [zTd hsame]
 have hm: ∀x,x∈s→x∈l:=by
  intro x hx
  have h1:= @zDm x.1 x l
  have h2:= @zDm x.1 x s
  have h3:zAz x.1 l=zAz x.1 s:=hsame x.1
  rw [h3] at h1
  exact (h1.1 (h2.2 ⟨hx,rfl⟩)).1
 have hn:s.length≤524288:=by omega
 have hso':=List.pairwise_iff_getElem.1 hso
 refine zC ((show Wp _ (fun r=>r=zBa s) from ?_).mono (fun r hr=>zB hr))
 refine j4 (fun q:Int×List (Ty.El zA)=> ∃i:Nat,q.1=(i:Int)∧i≤s.length∧q.2=zBa (s.take i)∧(0<i→ ∀x y,s[i-1]? =some x→s[i]? =some y→x.1≠y.1)) (fun q=>((s.length:Int) -q.1).toNat)
  ⟨(0:Nat),rfl,Nat.zero_le _,rfl,fun h=>absurd h (Nat.lt_irrefl 0)⟩ ?_
 rintro ⟨st,mg⟩ ⟨i,hi,hil,hmg,hbd⟩
 simp only at hi hmg
 subst hi
 refine zI (fun hc=> ?_) (fun hc=> ?_)
 ·have hc:(i:Int)< (s.length:Int):=hc
  have hlt:i<s.length:=by omega
  have hx:s[i]? =some s[i]:=by simp [hlt]
  generalize hxi:s[i]=xi at hx
  refine zC ((show Wp _ (fun q:List (Ty.El zA)×Int=>q.1=mg∧ ∃e:Nat,q.2=(e:Int)∧i<e∧e≤s.length∧(∀k y,i≤k→k<e→s[k]? =some y→y.1=xi.1)∧(∀y,s[e]? =some y→y.1≠xi.1)) from ?_).mono ?_)
  ·refine j4 (fun q:Int×List (Ty.El zA)=>q.2=mg∧ ∃e:Nat,q.1=(e:Int)∧i<e∧e≤s.length∧(∀k y,i≤k→k<e→s[k]? =some y→y.1=xi.1)) (fun q=>((s.length:Int) -q.1).toNat) ⟨rfl,i+1,?_,Nat.lt_succ_self i,hlt,?_⟩ ?_
   ·rw [zH (by omega) (by omega)];omega
   ·intro k y h1 h2 hy
    have:k=i:=by omega
    subst this
    rw [hx] at hy
    cases hy
    rfl
   ·rintro ⟨q1,q2⟩ ⟨rfl,e,he,hie,hel,hall⟩
    simp only at he
    subst he
    refine zC ((show Wp _ (fun b:Bool×List (Ty.El zA)=>b.2=q2∧(b.1=true→ ∃y,s[e]? =some y∧y.1=xi.1)∧(b.1=false→ ∀y,s[e]? =some y→y.1≠xi.1)) from ?_).mono ?_)
    ·refine zI (fun h=> ?_) (fun h=>zB ⟨rfl,(fun h'=>by cases h'),fun _ y hy=> ?_⟩)
     ·have h:(e:Int)< (s.length:Int):=h
      have hye:s[e]? =some (s[e]'(by omega)):=by simp
      generalize (s[e]'(by omega))=ye at hye
      simp only [zJ hye,zJ hx,Option.bind_some]
      refine zB ⟨rfl,fun hb=>⟨ye,hye,zFF hb⟩,fun hb y hy=> ?_⟩
      have hyy:y=ye:=by rw [hye] at hy;exact (Option.some.inj hy).symm
      subst hyy
      intro e0
      have hb:(y.1.fst==xi.1.fst&&(y.1.snd.fst==xi.1.snd.fst&&true))=false:=hb
      rw [e0] at hb
      simp at hb
     ·have h: ¬(e:Int)< (s.length:Int):=h
      have:=(List.getElem?_eq_some_iff.1 hy).1
      omega
    ·rintro ⟨b,q3⟩ ⟨hq,hbt,hbf⟩
     simp only at hq hbt hbf
     subst hq
     refine zF (fun hb=> ?_) (fun hb=>zB (e2r ⟨rfl,e,rfl,hie,hel,hall,hbf hb⟩))
     obtain ⟨y,hy,hyp⟩:=hbt hb
     have hel':=(List.getElem?_eq_some_iff.1 hy).1
     have hw:IntKind.wrap IntKind.i64 ((e:Int)+1)=((e+1:Nat):Int):=by rw [zH (by omega) (by omega)];omega
     refine zB (e2l ⟨⟨rfl,e+1,hw,by omega,hel',?_⟩,?_⟩)
     ·intro k y' h1 h2 hy'
      rcases Nat.lt_or_ge k e with h3|h3
      ·exact hall k y' h1 h3 hy'
      ·have:k=e:=by omega
       subst this
       rw [hy] at hy'
       cases hy'
       exact hyp
     ·simp only [hw];omega
  ·rintro ⟨q1,q2⟩ ⟨hq,e,he,hie,hel,hall,hend⟩
   simp only at hq he
   subst hq
   subst he
   have hsub:sub s (i:Int) (e:Int)=some ((s.take e).drop i):=by
    unfold sub
    rw [if_pos ⟨by omega,by omega,by omega⟩]
    simp
   have hgm: ∀x,x∈(s.take e).drop i→x∈s∧x.1=xi.1:=by
    intro x hx'
    obtain ⟨k,hk,rfl⟩:=List.getElem_of_mem hx'
    rw [List.length_drop,List.length_take] at hk
    have hke:((s.take e).drop i)[k]=s[i+k]'(by omega):=by rw [List.getElem_drop,List.getElem_take]
    rw [hke]
    exact ⟨List.getElem_mem _,hall (i+k) _ (by omega) (by omega) (by simp)⟩
   have hgl:((s.take e).drop i).length=e-i:=by rw [List.length_drop,List.length_take];omega
   have hgn:(s.take e).drop i≠[]:=fun h=>by rw [h] at hgl;simp only [List.length_nil] at hgl;omega
   refine zC (qE hsub ?_)
   refine zC ((zIh _ xi.1 hgn (fun x hx'=>(hgm x hx').2) (fun x hx'=>hs x (hm x (hgm x hx').1)) (by omega) (fun x y hx' hy'=>hP x y (hm x (hgm x hx').1) (hm y (hgm y hy').1))).mono (fun z hz=> ?_))
   have hml:=zUM (s.take i)
   rw [List.length_take] at hml
   have hql:q1.length≤524288:=by rw [hmg];omega
   refine zC (j9 (by simp only [List.length_singleton];omega) (zB (e2l ⟨⟨e,rfl,hel,?_,?_⟩,?_⟩)))
   ·have hta:s.take e=s.take i++(s.take e).drop i:=by
     have h1:=List.take_append_drop i (s.take e)
     rw [List.take_take,Nat.min_eq_left (by omega)] at h1
     exact h1.symm
    rw [hta,hmg]
    refine (zRK (p:=xi.1) ?_ (fun x hx'=>(hgm x hx').2) hgn hz).symm
    intro x hx'
    obtain ⟨a,ha,rfl⟩:=List.getElem_of_mem hx'
    rw [List.length_take] at ha
    rw [List.getElem_take]
    have hi0:0<i:=by omega
    have hx1:s[i-1]? =some (s[i-1]'(by omega)):=by simp
    have hne:=hbd hi0 _ _ hx1 hx
    have h1:=hso' (i-1) i (by omega) hlt (by omega)
    rw [hxi] at h1
    have h2:plt (s[i-1]'(by omega)).1 xi.1:=zUF h1 hne
    by_cases hai:a=i-1
    ·subst hai;exact h2
    ·have h3:=hso' a (i-1) (by omega) (by omega) (by omega)
     unfold rlt plt zE2 at*
     omega
   ·intro _ x y hx' hy' hxy
    have h1:x.1=xi.1:=hall (e-1) x (by omega) (by omega) hx'
    exact hend y hy' (hxy.symm.trans h1)
   ·simp only;omega
 ·have hc: ¬(i:Int)< (s.length:Int):=hc
  have:i=s.length:=by omega
  subst this
  refine zB (e2r ?_)
  simp only [hmg,List.take_length]
end Go.Ve





namespace Go.Ve
open Go
set_option maxRecDepth 1000000
set_option maxHeartbeats 4000000
theorem wG (v:Ty.El zO) (r i:Nat) (rt:Ty.El zD) (x:Ty.El qC) (hr:v.1.1[r]? =some rt) (hx:rt.2.2.1[i]? =some x):
  Wp (jA (v,(r:Int),(i:Int),())) (fun y=>y=(x,true,())):=by
 unfold jA
 dsimp only
 have hrl:=(List.getElem?_eq_some_iff.1 hr).1
 have hil:=(List.getElem?_eq_some_iff.1 hx).1
 have q0: ¬((r:Int)<0):=by omega
 have q1: ¬((r:Int)≥(List.length v.1.1:Int)):=by omega
 have q2: ¬((i:Int)<0):=by omega
 refine zC ((show Wp _ (fun s:Bool=>s=false) from ?_).mono (fun s hs=> ?_))
 ·refine zI (fun h=>absurd h q0) (fun _=>zI (fun h=>absurd h q1) (fun _=>zI (fun h=>absurd h q2) (fun _=> ?_)))
  simp only [zJ hr,Option.bind_some]
  refine zB ?_
  have: ¬((i:Int)≥(List.length rt.2.2.1:Int)):=by omega
  exact decide_eq_false this
 ·subst hs
  simp only [cond_false,zJ hr,zJ hx,Option.bind_some]
  exact zB rfl
def zWq (rt q:Ty.El zD) (x y:Ty.El qC):Bool:=
 q.2.2.2.2.2.2.2.2.2.2.1.1&&(knB rt.2.2.2.2.2.2.2.2.2.2.1.2.2.2.1 y.2.1 q.2.1&&knB q.2.2.2.2.2.2.2.2.2.2.1.2.2.2.1 x.2.1 rt.2.1)
def zUx (v:Ty.El zO) (r i:Int) (rt:Ty.El zD) (x:Ty.El qC) (e:Ty.El zQ):Option (Ty.El zW):=
 match v.1.1[Int.toNat e.1]? with
 |some q=>match q.2.2.1[Int.toNat e.2.1]? with
  |some y=>bif zWq rt q x y then some (e.1,e.2.1,r,i,q.2.1==rt.2.1,()) else none
  |none=>none
 |none=>none
def zEZ (v:Ty.El zO) (r:Int) (rt:Ty.El zD) (i:Nat):List (Ty.El zW):=
 match rt.2.2.1[i]? with
 |some x=>bif rt.2.2.2.2.2.2.2.2.2.2.1.1 then (zNq v r i (fun e=>e.1 !=r)).filterMap (zUx v r i rt x) else []
 |none=>[]
def zJm (v:Ty.El zO) (r:Nat):List (Ty.El zW):=
 match v.1.1[r]? with
 |some rt=>(List.range rt.2.2.1.length).flatMap (zEZ v r rt)
 |none=>[]
def zM9 (v:Ty.El zO):List (Ty.El zW):=(List.range v.1.1.length).flatMap (zJm v)
theorem zG2 {v:Ty.El zO} (hv:zAC v) (r:Int) (rt:Ty.El zD) (i:Nat):(zEZ v r rt i).length≤360:=by
 unfold zEZ
 split
 ·cases rt.2.2.2.2.2.2.2.2.2.2.1.1
  ·exact Nat.zero_le _
  ·exact Nat.le_trans (List.length_filterMap_le _ _) (zTa hv _ _ _)
 ·exact Nat.zero_le _
theorem zXM {v:Ty.El zO} (hv:zAC v) (r:Nat):(zJm v r).length≤7200:=by
 unfold zJm
 split
 ·rename_i rt hr
  have h1:=kW (xs:=List.range rt.2.2.1.length) (f:=zEZ v r rt) (k:=360) (fun i _=>zG2 hv r rt i)
  have h2:=(hv.sm rt (List.mem_of_getElem? hr)).i1
  have h2:rt.2.2.1.length≤20:=h2
  rw [List.length_range] at h1
  omega
 ·exact Nat.zero_le _
structure zRe (v:Ty.El zO):Prop where
 s:zAC v
 nb: ∀r,r∈v.1.1→zZf r.2.2.2.2.2.2.2.2.2.2.1.2.2.2.1
 ends : ∀ (r i : Int) (e : Ty.El zQ), upB v r i = true → e ∈ zCU v r i → (0 : Int) ≤ e.1 ∧ (0 : Int) ≤ e.2.1 ∧ ∃ q y, v.1.1[Int.toNat e.1]? = some q ∧ q.2.2.1[Int.toNat e.2.1]? = some y
 own: ∀ (r i:Int),zNq v r i (fun e=>e.1 !=r||e.2.1 !=i)=zNq v r i (fun e=>e.1 !=r)
theorem xC (v:Ty.El zO) (hv:zRe v) (r i:Nat) (rt:Ty.El zD) (x:Ty.El qC) (hr:v.1.1[r]? =some rt) (hx:rt.2.2.1[i]? =some x):
  Wp (wC (v,(r:Int),(i:Int),())) (fun l=>l=zEZ v r rt i):=by
 unfold wC
 dsimp only
 have hs:=hv.s
 have hsm:=hs.sm rt (List.mem_of_getElem? hr)
 have hnb:=hv.nb rt (List.mem_of_getElem? hr)
 refine zC (qE (zJ hr) (zC ((wG v r i rt x hr hx).mono (fun y1 hy1=> ?_))))
 subst hy1
 have hI:zEZ v r rt i=bif rt.2.2.2.2.2.2.2.2.2.2.1.1 then (zNq v r i (fun e=>e.1 !=(r:Int))).filterMap (zUx v r i rt x) else []:=by
  unfold zEZ;rw [hx]
 rw [hI]
 refine zF (fun h=>zB ?_) (fun h=> ?_)
 ·have h:rt.2.2.2.2.2.2.2.2.2.2.1.1=false:=by simpa using h
  rw [h];rfl
 have h:rt.2.2.2.2.2.2.2.2.2.2.1.1=true:=by simpa using h
 rw [h]
 refine zC (zC ((zIg v r i hs).mono (fun ns hns=> ?_)))
 rw [hv.own] at hns
 have hnl:ns.length≤360:=by rw [hns];exact zTa hs _ _ _
 refine (wM (xs:=ns) (by omega) (fun j (g:List (Ty.El zW))=>g=(ns.take j).filterMap (zUx v r i rt x)) rfl ?_ (fun g hg=>zB ?_))
 ·intro j e g he hg
  have hj:=(List.getElem?_eq_some_iff.1 he).1
  have hgl:g.length≤360:=by
   rw [hg]
   exact Nat.le_trans (List.length_filterMap_le _ _) (Nat.le_trans (List.length_take_le' _ _) hnl)
  simp only [zJ he,Option.bind_some]
  rw [jF he, ←hg]
  have hem:=List.mem_of_getElem? he
  rw [hns] at hem
  obtain ⟨u1,u2,_⟩:=zVX hem
  obtain ⟨b0,b1,q,y,b2,b3⟩:=hv.ends _ _ _ u1 u2
  obtain ⟨e1,e2,⟨⟩⟩:=e
  obtain ⟨qn,rfl⟩:=Int.eq_ofNat_of_zero_le (show (0:Int)≤e1 from b0)
  obtain ⟨kn,rfl⟩:=Int.eq_ofNat_of_zero_le (show (0:Int)≤e2 from b1)
  have c2:v.1.1[qn]? =some q:=b2
  have c3:q.2.2.1[kn]? =some y:=b3
  have hqm:=List.mem_of_getElem? c2
  have hE:zUx v r i rt x ((qn:Int),(kn:Int),())=bif zWq rt q x y then some ((qn:Int),(kn:Int),(r:Int),(i:Int),q.2.1==rt.2.1,()) else none:=by
   unfold zUx
   simp only [Int.toNat_natCast,c2,c3]
  rw [hE]
  refine zC ((wG v qn kn q y c2 c3).mono (fun z hz=> ?_))
  subst hz
  refine ff rfl ?_
  simp only [zJ c2,Option.bind_some]
  refine zC ((show Wp _ (fun s:Bool×List (Ty.El zW)=>s.1=zWq rt q x y∧s.2=g) from ?_).mono (fun s hs'=> ?_))
  ·unfold zWq
   refine zF (fun h1=> ?_) (fun h1=>zB ⟨by rw [h1];rfl,rfl⟩)
   rw [h1]
   refine zC ((zB6 rt _ _ hsm hnb).mono (fun b hb=> ?_))
   subst hb
   refine zF (fun h2=> ?_) (fun h2=>zB ⟨by rw [h2];rfl,rfl⟩)
   rw [h2]
   refine zC ((zB6 q _ _ (hs.sm q hqm) (hv.nb q hqm)).mono (fun c hc=>zB ⟨?_,rfl⟩))
   rw [hc];rfl
  ·obtain ⟨s1,s2⟩:=s
   obtain ⟨k1,k2⟩:=hs'
   simp only at k1 k2
   subst k2
   refine zF (fun hb=> ?_) (fun hb=>zB ?_)
   ·have hb:s1=true:=hb
    rw [←k1,hb]
    exact zC (j9 (by simp only [List.length_singleton];omega) (zB rfl))
   ·have hb:s1=false:=hb
    rw [←k1,hb]
    exact (List.append_nil s2).symm
 ·rw [hg,List.take_length,hns];rfl
theorem zEE (v:Ty.El zO) (hv:zRe v):Wp (uT (v,())) (fun l=>l=zM9 v):=by
 unfold uT
 dsimp only
 have hs:=hv.s
 have hrs:=hs.rs
 refine zC ((wM (xs:=v.1.1) (by omega) (fun i (g:List (Ty.El zW))=>g=(List.range i).flatMap (zJm v)) rfl ?_ (Q:=fun g=>g=zM9 v) (fun g hg=>hg)).mono (fun g hg=>zB hg))
 intro r rt g hr hg
 have hrl:=(List.getElem?_eq_some_iff.1 hr).1
 have hgl:g.length≤r*7200:=by
  have h2:=kW (xs:=List.range r) (f:=zJm v) (k:=7200) (fun j _=>zXM hs j)
  rw [List.length_range] at h2
  rw [hg];exact h2
 have hsm:=hs.sm rt (List.mem_of_getElem? hr)
 have hil:rt.2.2.1.length≤20:=hsm.i1
 have x8:(List.range (r+1)).flatMap (zJm v)=g++(List.range rt.2.2.1.length).flatMap (zEZ v r rt):=by
  rw [List.range_succ,List.flatMap_append, ←hg]
  have:zJm v r=(List.range rt.2.2.1.length).flatMap (zEZ v r rt):=by unfold zJm;rw [hr]
  simp [this]
 rw [x8]
 simp only [zJ hr,Option.bind_some]
 refine j4 (fun s:Int×List (Ty.El zW)=> ∃i:Nat,s.1=(i:Int)∧i≤rt.2.2.1.length∧s.2=g++(List.range i).flatMap (zEZ v r rt)) (fun s=>((rt.2.2.1.length:Int) -s.1).toNat) ⟨0,rfl,Nat.zero_le _,by simp⟩ ?_
 rintro ⟨s,g'⟩ ⟨i,hi,hil2,hg'⟩
 simp only at hi hg'
 subst hi
 refine zI (fun h=> ?_) (fun h=>zB (e2r ?_))
 ·have h:(i:Int)< (rt.2.2.1.length:Int):=h
  obtain ⟨x,hx⟩: ∃x,rt.2.2.1[i]? =some x:=⟨_,List.getElem?_eq_getElem (by omega)⟩
  have hg'l:g'.length≤r*7200+i*360:=by
   have h2:=kW (xs:=List.range i) (f:=zEZ v r rt) (k:=360) (fun j _=>zG2 hs r rt j)
   rw [List.length_range] at h2
   rw [hg',List.length_append]
   omega
  have hsl:=zG2 hs r rt i
  refine zC ((xC v hv r i rt x hr hx).mono (fun l hl=> ?_))
  refine zC (j9 (by simp only [hl];omega) (zB (e2l ⟨⟨i+1,?_,by omega,?_⟩,?_⟩)))
  ·simp only;rw [zH (by omega) (by omega)];omega
  ·rw [hl,hg',List.range_succ,List.flatMap_append,List.append_assoc]
   simp
  ·simp only;rw [zH (by omega) (by omega)];omega
 ·have h: ¬(i:Int)< (rt.2.2.1.length:Int):=h
  have:i=rt.2.2.1.length:=by omega
  subst this
  exact hg'
end Go.Ve

namespace Go.Ve
open Go
set_option maxRecDepth 1000000
set_option maxHeartbeats 4000000
theorem zYh {v:Ty.El zO} {x:Ty.El zW} :x∈zM9 v↔ ∃ (r i:Nat) (rt:Ty.El zD) (z:Ty.El qC) (e:Ty.El zQ) (q:Ty.El zD) (y:Ty.El qC),v.1.1[r]? =some rt∧rt.2.2.1[i]? =some z∧
  rt.2.2.2.2.2.2.2.2.2.2.1.1=true∧e∈zNq v r i (fun e=>e.1 !=(r:Int))∧v.1.1[Int.toNat e.1]? =some q∧q.2.2.1[Int.toNat e.2.1]? =some y∧zWq rt q z y=true∧x=(e.1,e.2.1,(r:Int),(i:Int),q.2.1==rt.2.1,()):=by
 unfold zM9
 rw [List.mem_flatMap]
 constructor
 ·rintro ⟨r,_,hr⟩
  unfold zJm at hr
  cases hrt:v.1.1[r]? with
  |none=>rw [hrt] at hr;cases hr
  |some rt=>
   rw [hrt] at hr
   obtain ⟨i,_,hi⟩:=List.mem_flatMap.1 hr
   unfold zEZ at hi
   cases hz:rt.2.2.1[i]? with
   |none=>rw [hz] at hi;cases hi
   |some z=>
    rw [hz] at hi
    simp only at hi
    cases hon:rt.2.2.2.2.2.2.2.2.2.2.1.1 with
    |false=>rw [hon] at hi;cases hi
    |true=>
     rw [hon] at hi
     obtain ⟨e,he,hx⟩:=List.mem_filterMap.1 hi
     unfold zUx at hx
     cases hq:v.1.1[Int.toNat e.1]? with
     |none=>rw [hq] at hx;cases hx
     |some q=>
      rw [hq] at hx
      simp only at hx
      cases hy:q.2.2.1[Int.toNat e.2.1]? with
      |none=>rw [hy] at hx;cases hx
      |some y=>
       rw [hy] at hx
       simp only at hx
       cases hb:zWq rt q z y with
       |false=>rw [hb] at hx;cases hx
       |true=>
        rw [hb] at hx
        exact ⟨r,i,rt,z,e,q,y,hrt,hz,hon,he,hq,hy,hb,(Option.some.inj hx).symm⟩
 ·rintro ⟨r,i,rt,z,e,q,y,hrt,hz,hon,he,hq,hy,hb,rfl⟩
  refine ⟨r,List.mem_range.2 (List.getElem?_eq_some_iff.1 hrt).1,?_⟩
  unfold zJm
  rw [hrt]
  refine List.mem_flatMap.2 ⟨i,List.mem_range.2 (List.getElem?_eq_some_iff.1 hz).1,?_⟩
  unfold zEZ
  rw [hz]
  simp only [hon,cond_true]
  refine List.mem_filterMap.2 ⟨e,he,?_⟩
  unfold zUx
  rw [hq]
  simp only [hy,hb,cond_true]
end Go.Ve

namespace Go.Ve
open Go
set_option maxRecDepth 1000000
set_option maxHeartbeats 4000000
def lwB (p q:Ty.El zG):Bool:=decide (q.2.1<p.2.1)&&(decide (q.2.1≤p.2.1)&&zCd q p.1)
theorem xD (p q:Ty.El zG):jM (p,q,())=some (lwB p q):=by
 refine wK ?_
 unfold jM lwB
 dsimp only
 refine zC (zI (fun h=> ?_) (fun h=>zB (zB ?_)))
 ·have h:q.2.1<p.2.1:=h
  refine zC (qE (zEY _ _) (zB (zB ?_)))
  rw [decide_eq_true h];rfl
 ·have h: ¬q.2.1<p.2.1:=h
  rw [decide_eq_false h];rfl
def zUS (q:Ty.El zD) (p:Ty.El zG):Bool:=q.2.2.2.2.2.2.2.2.2.2.1.2.2.2.2.2.1.any (fun g:Ty.El jI=>g.2.1&&lwB p g.1)
theorem zXq {q:Ty.El zD} {p:Ty.El zG} (hr:SmR q):Wp (kQ (q,p,())) (fun b=>b=zUS q p):=by
 have h20:q.2.2.2.2.2.2.2.2.2.2.1.2.2.2.2.2.1.length≤20:=hr.i12
 unfold kQ zUS
 dsimp only
 refine uN (xs:=q.2.2.2.2.2.2.2.2.2.2.1.2.2.2.2.2.1) (by omega) (fun i=> ∀j y,j<i→q.2.2.2.2.2.2.2.2.2.2.1.2.2.2.2.2.1[j]? =some y→(y.2.1&&lwB p y.1)=false) (fun j y hj=>by omega) ?_ (fun hj=>zB ?_)
 ·intro i x hx hj
  simp only [zJ hx,Option.bind_some]
  refine zC ((show Wp _ (fun s:Bool=>s=(x.2.1&&lwB p x.1)) from ?_).mono (fun s hs=> ?_))
  ·refine zF (fun h=>zC (qE (xD _ _) (zB ?_))) (fun h=>zB ?_)
   ·rw [h];rfl
   ·rw [h];rfl
  ·refine zF (fun h=>zB (e2r (e2r ?_))) (fun h=>zB (e2l ⟨rfl,?_⟩))
   ·symm
    refine List.any_eq_true.2 ⟨x,List.mem_of_getElem? hx,?_⟩
    rw [←hs];exact h
   ·intro k z hk hz
    rcases Nat.lt_or_ge k i with h'|h'
    ·exact hj k z h' hz
    ·have:k=i:=by omega
     subst this
     rw [hx] at hz
     cases hz
     rw [←hs];exact h
 ·symm
  rw [List.any_eq_false]
  intro x hx
  obtain ⟨k,hk,rfl⟩:=List.getElem_of_mem hx
  rw [hj k _ hk (by simp [hk])]
  decide
def zJl (x:Ty.El zA) (m:Int):Ty.El zA:=(x.1,x.2.1,x.2.2.1,x.2.2.2.1,m,x.2.2.2.2.2)
def qBh (x y:Ty.El zA):Ty.El zA:=
 (x.1,(5:Int),(0:Int),(0:Int),y.2.2.2.2.1,(0:Int),y.2.2.2.2.2.2.1,y.2.2.2.2.2.2.2.1,x.2.2.2.2.2.2.2.2.1,(0:Int),(0:Int),[],false,())
def qBi (x y:Ty.El zA) (sy:Int) (k:Nat):Ty.El zA:=
 (x.1,(5:Int),(0:Int),(0:Int),y.2.2.2.2.1,(0:Int),y.2.2.2.2.2.2.1,(100:Int),List.replicate k sy++x.2.2.2.2.2.2.2.2.1,(0:Int),(0:Int),[],false,())
def zRX (q:Ty.El zD) (a:Int) (int:Bool) (x:Ty.El zA):Option (Ty.El zA):=
 bif (x.2.2.1==(4:Int)&&int)||zUS q x.1 then none else
 match zHh q.2.2.2.2.2.2.2.2.2.2.1.2.2.2.1 a with
 |none=>none
 |some nb=>bif int then (zIJ q nb.2.2.2.1 x).map (qBh x) else
  match zIJ q nb.2.2.2.1 (zJl x 0) with
  |none=>none
  |some y=>bif decide (1+zPV q nb.2.2.2.1 (zJl x 0)+(x.2.2.2.2.2.2.2.2.1.length:Int)>(64:Int)) then none else some (qBi x y q.2.1 (1+(zPV q nb.2.2.2.1 (zJl x 0)).toNat))
def qAN (m:Option (Ty.El zA)):Ty.El zA×Bool×Unit:=
 match m with
 |some z=>(z,true,())
 |none=>(zXm,false,())
theorem zMw {r:Ty.El zD} {nm:Ty.El .str} {x:Ty.El zA} {y:Ty.El zA×Bool×Unit} (h:y=match zIJ r nm x with
  |some z=>(z,true,())
  |none=>(zXm,false,())):(y.2.1=false∧zIJ r nm x=none)∨(y.2.1=true∧zIJ r nm x=some y.1):=by
 cases hc:zIJ r nm x with
 |none=>rw [hc] at h;exact .inl ⟨by rw [h],rfl⟩
 |some z=>rw [hc] at h;exact .inr ⟨by rw [h],by rw [h]⟩
theorem zWp (x:Ty.El zA) (m:Int):RtS x→RtS (zJl x m):=fun h=>⟨h.path,h.hops⟩
theorem zFy (v:Ty.El zO) (hv:zRe v) (qn kn r i:Nat) (int:Bool) (q rt:Ty.El zD) (z:Ty.El qC) (hq:v.1.1[qn]? =some q) (hr:v.1.1[r]? =some rt) (hz:rt.2.2.1[i]? =some z) (hm:zEM q) (x:Ty.El zA) (hx:RtS x):
  Wp (xT (v,((qn:Int),(kn:Int),(r:Int),(i:Int),int,()),x,())) (fun y=>y=qAN (zRX q z.2.1 int x)):=by
 unfold xT
 dsimp only
 have hs:=hv.s
 have hqs:=hs.sm q (List.mem_of_getElem? hq)
 have hql:=(List.getElem?_eq_some_iff.1 hq).1
 have q0: ¬((qn:Int)<0):=by omega
 have q1: ¬((qn:Int)≥(List.length v.1.1:Int)):=by omega
 refine zC ((wG v r i rt z hr hz).mono (fun y0 hy0=> ?_))
 subst hy0
 refine zC ((show Wp _ (fun s:Bool=>s=false) from ?_).mono (fun s hs'=> ?_))
 ·exact ff rfl (zI (fun h=>absurd h q0) (fun _=>zB (decide_eq_false q1)))
 subst hs'
 refine ff rfl ?_
 simp only [zJ hq,Option.bind_some]
 refine zC ((show Wp _ (fun s:Bool=>s=((x.2.2.1==(4:Int)&&int)||zUS q x.1)) from ?_).mono (fun s hs'=> ?_))
 ·refine zF (fun h=>zF (fun h2=>zB ?_) (fun h2=>zC ((zXq hqs).mono (fun b hb=>zB ?_)))) (fun h=>zC ((zXq hqs).mono (fun b hb=>zB ?_)))
  ·have h2:int=true:=h2
   rw [h,h2];rfl
  ·have h2:int=false:=h2
   rw [h,h2,hb];rfl
  ·rw [h,hb];rfl
 subst hs'
 unfold zRX
 refine zF (fun h=>zB ?_) (fun h=> ?_)
 ·rw [h];rfl
 rw [h]
 refine zC ((vX q z.2.1 hqs).mono (fun y8 hy8=> ?_))
 cases hn:zHh q.2.2.2.2.2.2.2.2.2.2.1.2.2.2.1 z.2.1 with
 |none=>
  rw [hn] at hy8
  simp only at hy8
  subst hy8
  exact tt rfl (zB rfl)
 |some nb=>
  rw [hn] at hy8
  simp only at hy8
  subst hy8
  refine ff rfl ?_
  dsimp only
  cases int with
  |true=>
   refine zC (ff rfl (zB ?_))
   refine zC ((zBy q nb.2.2.2.1 x hqs hx).mono (fun y10 hy10=> ?_))
   rcases zMw hy10 with ⟨h1,h2⟩|⟨h1,h2⟩
   ·refine tt (by rw [h1];rfl) (zB ?_)
    simp only [cond_false,cond_true,h2];rfl
   ·refine ff (by rw [h1];rfl) (tt rfl (zC (qE (zMq _ hx.path) (zB ?_))))
    simp only [cond_false,cond_true,h2];rfl
  |false=>
   refine zC (tt rfl (zB ?_))
   have hx':RtS (zJl x 0):=zWp x 0 hx
   refine zC ((zBy q nb.2.2.2.1 (zJl x 0) hqs hx').mono (fun y10 hy10=> ?_))
   rcases zMw hy10 with ⟨h1,h2⟩|⟨h1,h2⟩
   ·refine tt (by rw [h1];rfl) (zB ?_)
    simp only [cond_false,h2];rfl
   ·refine ff (by rw [h1];rfl) (ff rfl (zC ((zIj q nb.2.2.2.1 (zJl x 0) hqs).mono (fun y12 hy12=> ?_))))
    subst hy12
    have hpn:=zVU hm nb.2.2.2.1 (zJl x 0)
    have hpl:=hx.path
    have hpl:x.2.2.2.2.2.2.2.2.1.length≤1048576:=hpl
    simp only [cond_false,h2]
    generalize zPV q nb.2.2.2.1 (zJl x 0)=pn at hpn
    obtain ⟨k,rfl⟩:=Int.eq_ofNat_of_zero_le hpn.1
    rw [zH (x:=(1:Int)+(k:Int)) (by omega) (by omega)]
    have hw:IntKind.wrap IntKind.i64 ((1:Int)+(k:Int)+((List.length (zJl x 0).2.2.2.2.2.2.2.2.1:Nat):Int))=(1:Int)+(k:Int)+(x.2.2.2.2.2.2.2.2.1.length:Int):=by
     show IntKind.wrap IntKind.i64 ((1:Int)+(k:Int)+(x.2.2.2.2.2.2.2.2.1.length:Int))=_
     rw [zH (by omega) (by omega)]
    refine zI (fun h=>zB ?_) (fun h=> ?_)
    ·have h:(1:Int)+(k:Int)+(x.2.2.2.2.2.2.2.2.1.length:Int)>64:=by rw [←hw];exact h
     rw [decide_eq_true h];rfl
    ·have h: ¬(1:Int)+(k:Int)+(x.2.2.2.2.2.2.2.2.1.length:Int)>64:=by rw [←hw];exact h
     rw [decide_eq_false h]
     refine zC ((show Wp _ (fun s:Int×Int×Int×Int×Int×Int×Int×Int×Int×List Int×Int×Int×List (Ty.El qS)×Bool=>s=(x.1.1,x.1.2.1,(5:Int),(0:Int),(0:Int),y10.1.2.2.2.2.1,(0:Int),y10.1.2.2.2.2.2.2.1,(0:Int),List.replicate (1+k) q.2.1,(0:Int),(0:Int),[],false)) from ?_).mono (fun s hs'=> ?_))
     ·refine j4 (fun s:Int×Int×Int×Int×Int×Int×Int×Int×Int×Int×List Int×Int×Int×List (Ty.El qS)×Bool=> ∃j:Nat,j≤1+k∧s=((j:Int),x.1.1,x.1.2.1,(5:Int),(0:Int),(0:Int),y10.1.2.2.2.2.1,(0:Int),y10.1.2.2.2.2.2.2.1,(0:Int),List.replicate j q.2.1,(0:Int),(0:Int),[],false)) (fun s=>((1:Int)+(k:Int) -s.1).toNat) ⟨0,Nat.zero_le _,rfl⟩ ?_
      rintro s ⟨j,hj,rfl⟩
      refine zI (fun hlt=> ?_) (fun hge=>zB (e2r ?_))
      ·have hlt:(j:Int)< (1:Int)+(k:Int):=hlt
       refine zC (j9 (by simp only [List.length_replicate,List.length_singleton];omega) (zB (e2l ⟨⟨j+1,by omega,?_⟩,?_⟩)))
       ·rw [zH (by omega) (by omega)]
        rw [List.replicate_succ']
        rfl
       ·simp only;rw [zH (by omega) (by omega)];omega
      ·have hge: ¬(j:Int)< (1:Int)+(k:Int):=hge
       have:j=1+k:=by omega
       subst this
       rfl
     ·subst hs'
      refine zC (j9 (by simp only [List.length_replicate];show (2*(1+k+x.2.2.2.2.2.2.2.2.1.length)+1024)*8≤_;omega) (zB ?_))
      obtain ⟨⟨pa,pl,⟨⟩⟩,x2⟩:=x
      rfl
def qBr (rt:Ty.El zD) (a:Int) (i:Int) (int:Bool) (m y:Ty.El zA):Ty.El zA:=
 (m.1,(5:Int),(bif int then (4:Int) else (3:Int)),(bif int then rt.2.2.2.2.2.2.2.2.2.2.1.2.2.1 else rt.2.2.2.2.2.2.2.2.2.2.1.2.1),y.2.2.2.2.1,(0:Int),y.2.2.2.2.2.2.1,y.2.2.2.2.2.2.2.1,m.2.2.2.2.2.2.2.2.1,a,(0:Int),[(i,a,())],false,())
def zUR (rt:Ty.El zD) (a:Int) (i:Int) (int:Bool) (m:Ty.El zA):Option (Ty.El zA):=
 bif m.2.2.2.2.2.2.2.2.1.any (fun x=>x==rt.2.1) then none else
 match zHh rt.2.2.2.2.2.2.2.2.2.2.1.2.2.2.1 a with
 |none=>none
 |some nb=>(zIJ rt nb.2.2.1 m).map (qBr rt a i int m)
theorem zFx (v:Ty.El zO) (hv:zRe v) (qn kn r:Nat) (i:Int) (int:Bool) (q rt:Ty.El zD) (y:Ty.El qC) (hq:v.1.1[qn]? =some q) (hy:q.2.2.1[kn]? =some y) (hr:v.1.1[r]? =some rt) (m:Ty.El zA) (hx:RtS m):
  Wp (xS (v,((qn:Int),(kn:Int),(r:Int),i,int,()),m,())) (fun z=>z=qAN (zUR rt y.2.1 i int m)):=by
 unfold xS
 dsimp only
 have hs:=hv.s
 have hrs:=hs.sm rt (List.mem_of_getElem? hr)
 have hrl:=(List.getElem?_eq_some_iff.1 hr).1
 have q0: ¬((r:Int)<0):=by omega
 have q1: ¬((r:Int)≥(List.length v.1.1:Int)):=by omega
 refine zC ((wG v qn kn q y hq hy).mono (fun y0 hy0=> ?_))
 subst hy0
 refine zC ((show Wp _ (fun s:Bool=>s=false) from ?_).mono (fun s hs'=> ?_))
 ·exact ff rfl (zI (fun h=>absurd h q0) (fun _=>zB (decide_eq_false q1)))
 subst hs'
 refine ff rfl ?_
 simp only [zJ hr,Option.bind_some]
 refine zC ((zAK m.2.2.2.2.2.2.2.2.1 rt.2.1 hx.path).mono (fun b hb=> ?_))
 subst hb
 unfold zUR
 refine zF (fun h=>zB ?_) (fun h=> ?_)
 ·rw [h];rfl
 rw [h]
 refine zC ((vX rt y.2.1 hrs).mono (fun y4 hy4=> ?_))
 cases hn:zHh rt.2.2.2.2.2.2.2.2.2.2.1.2.2.2.1 y.2.1 with
 |none=>
  rw [hn] at hy4
  simp only at hy4
  subst hy4
  exact tt rfl (zB rfl)
 |some nb=>
  rw [hn] at hy4
  simp only at hy4
  subst hy4
  refine ff rfl ?_
  dsimp only
  refine zC ((zBy rt nb.2.2.1 m hrs hx).mono (fun y5 hy5=> ?_))
  rcases zMw hy5 with ⟨h1,h2⟩|⟨h1,h2⟩
  ·refine tt (by rw [h1];rfl) (zB ?_)
   simp only [cond_false,h2];rfl
  ·refine ff (by rw [h1];rfl) (zC (qE (zMq _ hx.path) ?_))
   simp only [cond_false,h2]
   cases int with
   |true=>exact zC (zB (zB rfl))
   |false=>exact zC (zB (zB rfl))
end Go.Ve

namespace Go.Ve
open Go
set_option maxRecDepth 1000000
set_option maxHeartbeats 4000000
theorem zS3 {m:Option (Ty.El zA)} {y:Ty.El zA×Bool×Unit} (h:y=qAN m):(y.2.1=false∧m=none)∨(y.2.1=true∧m=some y.1):=by
 cases m with
 |none=>exact .inl ⟨by rw [h];rfl,rfl⟩
 |some z=>exact .inr ⟨by rw [h];rfl,by rw [h];rfl⟩
theorem zYF {q:Ty.El zD} {a:Int} {int:Bool} {x m:Ty.El zA} (hm:zEM q) (h:zRX q a int x=some m):
  ((x.2.2.1==(4:Int)&&int)=false∧zUS q x.1=false)∧((int=true∧m.2.2.2.2.2.2.2.2.1=x.2.2.2.2.2.2.2.2.1)∨(int=false∧ ∃k:Nat,k≤8∧m.2.2.2.2.2.2.2.2.1=List.replicate (1+k) q.2.1++x.2.2.2.2.2.2.2.2.1∧1+k+x.2.2.2.2.2.2.2.2.1.length≤64))∧m.2.2.2.2.2.2.2.2.2.2.2.1=[]:=by
 unfold zRX at h
 cases hh:(x.2.2.1==(4:Int)&&int)||zUS q x.1 with
 |true=>rw [hh] at h;cases h
 |false=>
  rw [hh] at h
  refine ⟨by simpa using hh,?_⟩
  simp only [cond_false] at h
  cases hn:zHh q.2.2.2.2.2.2.2.2.2.2.1.2.2.2.1 a with
  |none=>rw [hn] at h;cases h
  |some nb=>
   rw [hn] at h
   simp only at h
   cases int with
   |true=>
    simp only [cond_true] at h
    cases ha:zIJ q nb.2.2.2.1 x with
    |none=>rw [ha] at h;cases h
    |some y=>
     rw [ha] at h
     have h:=(Option.some.inj h).symm
     subst h
     exact ⟨.inl ⟨rfl,rfl⟩,rfl⟩
   |false=>
    simp only [cond_false] at h
    cases ha:zIJ q nb.2.2.2.1 (zJl x 0) with
    |none=>rw [ha] at h;cases h
    |some y=>
     rw [ha] at h
     simp only at h
     have hpn:=zVU hm nb.2.2.2.1 (zJl x 0)
     generalize zPV q nb.2.2.2.1 (zJl x 0)=pn at hpn h
     obtain ⟨k,rfl⟩:=Int.eq_ofNat_of_zero_le hpn.1
     cases hd:decide ((1:Int)+(k:Int)+(x.2.2.2.2.2.2.2.2.1.length:Int)>(64:Int)) with
     |true=>rw [hd] at h;cases h
     |false=>
      rw [hd] at h
      have h:=(Option.some.inj h).symm
      subst h
      have hd:=of_decide_eq_false hd
      refine ⟨.inr ⟨rfl,k,by omega,?_,by omega⟩,rfl⟩
      simp only [Int.toNat_natCast]
      rfl
end Go.Ve

namespace Go.Ve
open Go
set_option maxRecDepth 1000000
set_option maxHeartbeats 4000000
def zJq (v:Ty.El zO) (t:List (Ty.El zA)) (s:Ty.El zW):List (Ty.El zA):=
 match v.1.1[Int.toNat s.1]?,v.1.1[Int.toNat s.2.2.1]? with
 |some q,some rt=>match q.2.2.1[Int.toNat s.2.1]?,rt.2.2.1[Int.toNat s.2.2.2.1]? with
  |some y,some z=>t.filterMap (fun x=>(zRX q z.2.1 s.2.2.2.2.1 x).bind (zUR rt y.2.1 s.2.2.2.1 s.2.2.2.2.1))
  |_,_=>[]
 |_,_=>[]
def zKv (s:List (Ty.El zS)) (k:Int):List (Ty.El zA):=
 match s[Int.toNat k]? with
 |some t=>t.2.2.1
 |none=>[]
def zWy (v:Ty.El zO) (s:List (Ty.El zS)) (r:Nat):List (Ty.El zA):=(zJm v r).flatMap (fun x=>zJq v (zKv s x.1) x)
theorem zHo {α β:Type} {f g:α→List β} : ∀ {xs:List α},(∀x,x∈xs→f x=g x)→xs.flatMap f=xs.flatMap g
 |[],_=>rfl
 |x::xs,h=>by rw [List.flatMap_cons,List.flatMap_cons,h x (by simp),zHo (fun y hy=>h y (List.mem_cons_of_mem _ hy))]
theorem zOq {v:Ty.El zO} {t:List (Ty.El zA)} {s:Ty.El zW} :(zJq v t s).length≤t.length:=by
 unfold zJq
 split
 ·split
  ·exact List.length_filterMap_le _ _
  ·exact Nat.zero_le _
 ·exact Nat.zero_le _
end Go.Ve

namespace Go.Ve
open Go
set_option maxRecDepth 1000000
set_option maxHeartbeats 4000000
structure qAj (l:List (Ty.El qN)) (into least most:Int):Prop where
 len:l.length≤4
 at_: ∀d,d∈l→(1≤d.1∧d.1≤5)∧d.1≠into∧(least≤d.2.1∧d.2.1≤most)∧(0≤d.2.2.1∧d.2.2.1≤65535)
 one: ∀ (i j:Nat) x y,j<i→l[i]? =some x→l[j]? =some y→y.1≠x.1
theorem zII (r:Ty.El zD) (l:List (Ty.El qN)) (into least most:Int) (hr:SmR r):Wp (q7 (r,l,into,least,most,())) (fun e=>e=0→qAj l into least most):=by
 unfold q7
 dsimp only
 refine zI (fun _=>zB (fun h=>by cases h)) (fun h4=> ?_)
 have h4:l.length≤4:=by omega
 refine uN (by omega) (fun i=> ∀m x,m<i→l[m]? =some x→((1≤x.1∧x.1≤5)∧x.1≠into∧(least≤x.2.1∧x.2.1≤most)∧(0≤x.2.2.1∧x.2.2.1≤65535))∧ ∀j y,j<m→l[j]? =some y→y.1≠x.1) (fun m x hm=>by omega) ?_ (fun hj=>zB (fun _=>⟨h4,?_,fun i j x y hji hx hy=>(hj i x (List.getElem?_eq_some_iff.1 hx).1 hx).2 j y hji hy⟩))
 ·intro i x hx hj
  have hi:=(List.getElem?_eq_some_iff.1 hx).1
  simp only [zJ hx,Option.bind_some]
  refine z6 (zC ((show Wp _ (fun s:Bool=>s=false→(1≤x.1∧x.1≤5)∧x.1≠into∧(least≤x.2.1∧x.2.1≤most)∧(0≤x.2.2.1∧x.2.2.1≤65535)) from ?_).mono (fun s hs=> ?_)))
  ·refine zC (qE (qI _ _ _) (zF (fun _=>zB (fun h=>by cases h)) (fun q1=>zF (fun _=>zB (fun h=>by cases h)) (fun q2=> ?_))))
   refine zC (qE (qI _ _ _) (zF (fun _=>zB (fun h=>by cases h)) (fun q3=> ?_)))
   refine zC (qE (qI _ _ _) (zB (fun q4=>⟨by simpa using q1,by simpa using q2,by simpa using q3,by simpa using q4⟩)))
  refine zF (fun _=>zB (fun h=>by cases h)) (fun hs0=> ?_)
  have hx0:=hs hs0
  refine zC ((show Wp _ (fun _:Bool=>True) from ?_).mono (fun s _=> ?_))
  ·repeat' (first
    |exact zB trivial
    |refine zF (fun _=> ?_) (fun _=> ?_))
  refine zF (fun _=>zB (fun h=>by cases h)) (fun _=> ?_)
  refine zC ((show Wp _ (fun _:Bool=>True) from ?_).mono (fun s _=> ?_))
  ·exact zF (fun _=>zC ((xP r _ hr).mono (fun k _=>zB trivial))) (fun _=>zB trivial)
  refine zF (fun _=>zB (fun h=>by cases h)) (fun _=> ?_)
  refine zCr (n:=i) (P:=fun j=> ∀y,l[j]? =some y→y.1≠x.1) (by omega) ?_ (fun hall=>e2l (zB (e2l ⟨rfl,?_⟩)))
  ·intro j hjl
   obtain ⟨y,hy⟩: ∃y,l[j]? =some y:=⟨_,List.getElem?_eq_getElem (by omega)⟩
   simp only [zJ hy,Option.bind_some]
   refine zF (fun _=>zB (fun h=>by cases h)) (fun hn=>zB (e2l ⟨rfl,?_⟩))
   intro z hz
   rw [hy] at hz
   cases hz
   simpa using hn
  ·intro m z hm hz
   rcases Nat.lt_or_ge m i with h'|h'
   ·exact hj m z h' hz
   ·have:m=i:=by omega
    subst this
    rw [hx] at hz
    cases hz
    exact ⟨hx0,fun j y hjm hy=>hall j hjm y hy⟩
 ·intro d hd
  obtain ⟨m,hm,rfl⟩:=List.getElem_of_mem hd
  exact (hj m _ hm (by simp [hm])).1
structure qBH (x:Ty.El tPV):Prop where
 nets: ∀p,p∈x.2.2.2.2.1→zAE p=true
 aggs: ∀g,g∈x.2.2.2.2.2.1→zAE g.1=true
 cond: ∀c,c∈x.2.2.2.2.2.2.1→zAE c.1=true∧zAE c.2.1=true
theorem zMs (x:Ty.El tPV) (h2:x.2.2.2.2.1.length≤20) (h3:x.2.2.2.2.2.1.length≤20) (h4:x.2.2.2.2.2.2.1.length≤20):Wp (vB (x,())) (fun e=>e=0→qBH x):=by
 unfold vB
 dsimp only
 refine zI (fun _=>zB (fun h=>by cases h)) (fun _=> ?_)
 refine zBs (P:=fun p:Ty.El zG=>zAE p=true) (by omega) ?_ (fun hnets=> ?_)
 ·intro i p hp
  have hi:=(List.getElem?_eq_some_iff.1 hp).1
  simp only [zJ hp,Option.bind_some]
  refine z6 (zC (qE (xB _) (zF (fun _=>zB (fun h=>by cases h)) (fun q=> ?_))))
  refine zCr (n:=i) (P:=fun _=>True) (by omega) ?_ (fun _=>e2l (zB (e2l ⟨rfl,by simpa using q⟩)))
  intro j hj
  obtain ⟨y,hy⟩: ∃y,x.2.2.2.2.1[j]? =some y:=⟨_,List.getElem?_eq_getElem (by omega)⟩
  simp only [zJ hy,Option.bind_some]
  exact zF (fun _=>zB (fun h=>by cases h)) (fun _=>zB (e2l ⟨rfl,trivial⟩))
 refine zI (fun _=>zB (fun h=>by cases h)) (fun _=> ?_)
 refine zBs (P:=fun g:Ty.El jI=>zAE g.1=true) (by omega) ?_ (fun haggs=> ?_)
 ·intro i p hp
  have hi:=(List.getElem?_eq_some_iff.1 hp).1
  simp only [zJ hp,Option.bind_some]
  refine z6 (zC (qE (xB _) (zF (fun _=>zB (fun h=>by cases h)) (fun q=> ?_))))
  refine zCr (n:=i) (P:=fun _=>True) (by omega) ?_ (fun _=>e2l (zB (e2l ⟨rfl,by simpa using q⟩)))
  intro j hj
  obtain ⟨y,hy⟩: ∃y,x.2.2.2.2.2.1[j]? =some y:=⟨_,List.getElem?_eq_getElem (by omega)⟩
  simp only [zJ hy,Option.bind_some]
  exact zF (fun _=>zB (fun h=>by cases h)) (fun _=>zB (e2l ⟨rfl,trivial⟩))
 refine zI (fun _=>zB (fun h=>by cases h)) (fun _=> ?_)
 refine zBs (P:=fun c:Ty.El xY=>zAE c.1=true∧zAE c.2.1=true) (by omega) ?_ (fun hcond=>zB (fun _=>⟨hnets,haggs,hcond⟩))
 intro i p hp
 have hi:=(List.getElem?_eq_some_iff.1 hp).1
 simp only [zJ hp,Option.bind_some]
 refine z6 (zC ((show Wp _ (fun s:Bool=>s=false→zAE p.1=true∧zAE p.2.1=true) from ?_).mono (fun s hs=> ?_)))
 ·exact zC (qE (xB _) (zF (fun _=>zB (fun h=>by cases h)) (fun q=>zC (qE (xB _) (zB (fun q2=>⟨by simpa using q,by simpa using q2⟩))))))
 refine zF (fun _=>zB (fun h=>by cases h)) (fun hs0=>zF (fun _=>zB (fun h=>by cases h)) (fun _=> ?_))
 refine zCr (n:=i) (P:=fun _=>True) (by omega) ?_ (fun _=>e2l (zB (e2l ⟨rfl,hs hs0⟩)))
 intro j hj
 obtain ⟨y,hy⟩: ∃y,x.2.2.2.2.2.2.1[j]? =some y:=⟨_,List.getElem?_eq_getElem (by omega)⟩
 simp only [zJ hy,Option.bind_some]
 exact zF (fun _=>zB (fun h=>by cases h)) (fun _=>zB (e2l ⟨rfl,trivial⟩))
structure PvC (r:Ty.El zD):Prop where
 sys:1≤r.2.1∧r.2.1≤65535
 ext:1≤r.2.2.2.2.2.2.2.2.2.2.1.2.1∧r.2.2.2.2.2.2.2.2.2.2.1.2.1≤255
 int:1≤r.2.2.2.2.2.2.2.2.2.2.1.2.2.1∧r.2.2.2.2.2.2.2.2.2.2.1.2.2.1≤255
 org:qBH r.2.2.2.2.2.2.2.2.2.2.1
 red:qAj r.2.2.2.2.2.2.2.2.2.2.1.2.2.2.2.2.2.2.1 5 0 16777215
theorem zNH (r:Ty.El zD) (hr:SmR r) (hon:r.2.2.2.2.2.2.2.2.2.2.1.1=true) (hasn:0≤r.2.1∧r.2.1≤65535):Wp (vE (r,())) (fun e=>e=0→PvC r):=by
 unfold vE
 dsimp only
 have h2:r.2.2.2.2.2.2.2.2.2.2.1.2.2.2.2.1.length≤20:=hr.i11
 have h3:r.2.2.2.2.2.2.2.2.2.2.1.2.2.2.2.2.1.length≤20:=hr.i12
 have h4:r.2.2.2.2.2.2.2.2.2.2.1.2.2.2.2.2.2.1.length≤20:=hr.i13
 rw [hon]
 refine zF (fun h=>by cases h) (fun _=> ?_)
 refine zC ((show Wp _ (fun s:Bool=>s=false→r.2.1≠0∧(1≤r.2.2.2.2.2.2.2.2.2.2.1.2.1∧r.2.2.2.2.2.2.2.2.2.2.1.2.1≤255)∧(1≤r.2.2.2.2.2.2.2.2.2.2.1.2.2.1∧r.2.2.2.2.2.2.2.2.2.2.1.2.2.1≤255)) from ?_).mono (fun s hs=> ?_))
 ·refine zF (fun _=>zB (fun h=>by cases h)) (fun q1=> ?_)
  refine zC (qE (qI _ _ _) (zF (fun _=>zB (fun h=>by cases h)) (fun q2=> ?_)))
  refine zC (qE (qI _ _ _) (zB (fun q3=>⟨by simpa using q1,by simpa using q2,by simpa using q3⟩)))
 refine zF (fun _=>zB (fun h=>by cases h)) (fun hs0=> ?_)
 obtain ⟨g1,g2,g3⟩:=hs hs0
 refine zC ((zQt r hr).mono (fun y6 _=> ?_))
 have ne: ∀y:Int,(y !=(0:Int))=true→y=0→PvC r:=fun y h1 h2=>by rw [h2] at h1;cases h1
 refine zF (fun hne=>zB (fun h=>ne _ hne h)) (fun _=> ?_)
 refine zC ((zMs _ h2 h3 h4).mono (fun y7 hy7=> ?_))
 refine zF (fun hne=>zB (fun h=>ne _ hne h)) (fun h7=> ?_)
 have horg:=hy7 (by simpa using h7)
 refine zC ((zII r _ _ _ _ hr).mono (fun y8 hy8=>zB (fun h=> ?_)))
 have u: ∀a:Int,0≤a→a≠0→1≤a:=fun a h0 h1=>by omega
 exact ⟨⟨u _ hasn.1 g1,hasn.2⟩,g2,g3,horg,hy8 h⟩
theorem qAJ {r:Ty.El zD} (h:qAh r) (hs:SmR r) (hon:r.2.2.2.2.2.2.2.2.2.2.1.1=true):PvC r:=by
 obtain ⟨e,h1,h2⟩:=zNH r hs hon h.asn
 have:=h.pv
 rw [this] at h1
 exact h2 (Option.some.inj h1).symm
end Go.Ve

namespace Go.Ve
open Go
set_option maxRecDepth 1000000
set_option maxHeartbeats 4000000
def zKr (r:Ty.El zD) (d:Ty.El qN) (x:Ty.El zA):Option (Int×Int):=
 bif d.2.2.2.1==({ data:= #[] } :ByteArray) then some (d.2.1,d.2.2.1) else
 (zD8 r d.2.2.2.1 x).map (fun c=>((bif c.2.2.2.1==(-1:Int) then d.2.1 else c.2.2.2.1),(bif c.2.2.2.2.1==(-1:Int) then d.2.2.1 else c.2.2.2.2.1)))
def zNr (r:Ty.El zD) (p:Ty.El zG) (m t:Int):Ty.El zA:=
 (p,(5:Int),(1:Int),r.2.2.2.2.2.2.2.2.2.2.1.2.2.1,m,(0:Int),t,(100:Int),[],(0:Int),(0:Int),[],false,())
def zPU (r:Ty.El zD) (d:Ty.El qN) (x:Ty.El zA):Option (Ty.El zA):=(zKr r d x).map (fun mt=>zNr r x.1 mt.1 mt.2)
def zJB (x:Ty.El zA):Bool:=x.2.2.2.2.2.2.2.2.2.2.2.2.1&&(x.2.1 !=(2:Int))
def zUC (r:Ty.El zD) (l:List (Ty.El qN)) (x:Ty.El zA):Option (Ty.El zA):=
 bif zJB x then none else (l.find? (fun d=>d.1==x.2.1)).bind (fun d=>zPU r d x)
def zXY (r:Ty.El zD) (l:List (Ty.El qN)) (rib:List (Ty.El zA)):List (Ty.El zA):=rib.filterMap (zUC r l)
theorem zM5 (r:Ty.El zD) (d:Ty.El qN) (x:Ty.El zA) (hr:SmR r):Wp (zFA (r,d,x,())) (fun y=>(y.2.2.1=false∧zKr r d x=none)∨(y.2.2.1=true∧zKr r d x=some (y.1,y.2.1))):=by
 unfold zFA
 dsimp only
 refine zF (fun h=>zB (.inr ⟨rfl,by unfold zKr;rw [h];rfl⟩)) (fun h=> ?_)
 have hT:zKr r d x=(zD8 r d.2.2.2.1 x).map (fun c=>((bif c.2.2.2.1==(-1:Int) then d.2.1 else c.2.2.2.1),(bif c.2.2.2.2.1==(-1:Int) then d.2.2.1 else c.2.2.2.2.1))):=by unfold zKr;rw [h];rfl
 rw [hT]
 refine zC ((zAF r _ hr).mono (fun k hk=> ?_))
 subst hk
 refine zC ((zDA r _ x hr).mono (fun k hk=> ?_))
 rcases hk with ⟨h1,h2⟩|⟨i,j,m,c,rfl,h2,h3,h4,h5⟩
 ·have hp:zD8 r d.2.2.2.1 x=none:=by unfold zD8;rw [h2]
  rw [hp]
  refine zC (Wp.mono (Q:=fun b=>b=true) ?_ (fun b hb=> ?_))
  ·exact zI (fun _=>zB rfl) (fun _=>zI (fun _=>zB rfl) (fun _=>zI (fun _=>zB rfl) (fun h=>absurd h1 h)))
  ·subst hb
   exact tt rfl (zB (.inl ⟨rfl,rfl⟩))
 ·rw [h2]
  have hj:=(List.getElem?_eq_some_iff.1 h3).1
  have hi:=(List.getElem?_eq_some_iff.1 h4).1
  refine zC (Wp.mono (Q:=fun b=>b=false) ?_ (fun b hb=> ?_))
  ·refine zI (fun h=>absurd h (by omega)) (fun _=>zI (fun h=>absurd h (by omega)) (fun _=>zI (fun h=>absurd h (by omega)) (fun _=> ?_)))
   simp only [zJ h3,Option.bind_some]
   exact zB (decide_eq_false (by omega))
  ·subst hb
   refine ff rfl ?_
   simp only [zJ h3,zJ h4,Option.bind_some]
   refine zC (Wp.mono (Q:=fun s=>s=(bif c.2.2.2.1==(-1:Int) then d.2.1 else c.2.2.2.1)) ?_ (fun s9 h9=> ?_))
   ·refine zF (fun h=>zB ?_) (fun h=>zB ?_)
    ·have h:(c.2.2.2.1==(-1:Int))=false:=by simpa [bne] using h
     rw [h];rfl
    ·have h:(c.2.2.2.1==(-1:Int))=true:=by simpa [bne] using h
     rw [h];rfl
   refine zC (Wp.mono (Q:=fun s=>s=(bif c.2.2.2.2.1==(-1:Int) then d.2.2.1 else c.2.2.2.2.1)) ?_ (fun s10 h10=> ?_))
   ·refine zF (fun h=>zB ?_) (fun h=>zB ?_)
    ·have h:(c.2.2.2.2.1==(-1:Int))=false:=by simpa [bne] using h
     rw [h];rfl
    ·have h:(c.2.2.2.2.1==(-1:Int))=true:=by simpa [bne] using h
     rw [h];rfl
   refine zB ?_
   subst h9
   subst h10
   unfold zD8
   rw [h5]
   cases hc:c.1 with
   |false=>exact .inl ⟨rfl,by simp [hc]⟩
   |true=>exact .inr ⟨rfl,by simp [hc]⟩
theorem zM6 (r:Ty.El zD) (d:Ty.El qN) (p:Ty.El zG) (m t:Int):
  zJo (p,(5:Int),(0:Int),(0:Int),m,(0:Int),t,(0:Int),[],(0:Int),(0:Int),[],false,()) (r,d,())=some (zNr r p m t,true):=rfl
theorem zXs {γ:Type} {l:List (Ty.El qN)} {p:Ty.El qN→Bool} {acc:γ} {Q:Int×γ→Prop} (hl:l.length<4611686018427387904) (h:Q (uM p l,acc)):
  Wp (zK (fun (s : Int × γ × Int) => bif decide (s.1 < (l.length : Int)) then
      Option.bind (idx l s.1) fun (y:Ty.El qN)=>bif p y then some (Sum.inr (s.1,s.2.1)) else some (Sum.inl (IntKind.wrap IntKind.i64 (s.1+(1:Int)),s.2))
   else some (Sum.inr (s.2.2,s.2.1))) ((0:Int),acc,(-1:Int))) Q:=by
 refine j4 (fun (s:Int×γ×Int)=> ∃i:Nat,s=((i:Int),acc,(-1:Int))∧i≤l.length∧ ∀j y,j<i→l[j]? =some y→p y=false) (fun s=>((l.length:Int) -s.1).toNat) ⟨0,rfl,Nat.zero_le _,fun j y hj=>by omega⟩ ?_
 rintro s ⟨i,rfl,hi,hj⟩
 refine zI (fun hlt=> ?_) (fun hge=> ?_)
 ·have hlt:(i:Int)< (l.length:Int):=hlt
  obtain ⟨y,hy⟩: ∃y,l[i]? =some y:=⟨_,List.getElem?_eq_getElem (by omega)⟩
  simp only [zJ hy,Option.bind_some]
  refine zF (fun hp=>zB (e2r ?_)) (fun hp=>zB (e2l ⟨⟨i+1,?_,by omega,?_⟩,?_⟩))
  ·have:uM p l=(i:Int):=by
    rcases zDQ p l with ⟨h1,h2⟩|⟨k,x,h1,h2,h3,h4⟩
    ·rw [h2 y (List.mem_of_getElem? hy)] at hp;cases hp
    ·have:k=i:=by
      rcases Nat.lt_trichotomy k i with h'|h'|h'
      ·rw [hj k x h' h2] at h3;cases h3
      ·exact h'
      ·rw [h4 i y h' hy] at hp;cases hp
     rw [h1,this]
   rw [←this];exact h
  ·rw [zH (by omega) (by omega)];rfl
  ·intro j z hjl hz
   rcases Nat.lt_or_ge j i with h'|h'
   ·exact hj j z h' hz
   ·have:j=i:=by omega
    subst this
    rw [hy] at hz
    cases hz
    exact hp
  ·simp only
   rw [zH (by omega) (by omega)]
   omega
 ·have hge: ¬(i:Int)< (l.length:Int):=hge
  have:uM p l= -1:=zH4 (fun x hx=>by
   obtain ⟨k,hk,rfl⟩:=List.getElem_of_mem hx
   exact hj k _ (by omega) (by simp [hk]))
  exact zB (e2r (by rw [←this];exact h))
theorem zGw (r:Ty.El zD) (l:List (Ty.El qN)) (rib:List (Ty.El zA)) (hr:SmR r) (hl:l.length≤20) (hb:rib.length≤1048576):
  Wp (zAm (r,l,rib,(5:Int),())) (fun o=>o=zXY r l rib):=by
 unfold zAm
 dsimp only
 refine zC (wM (xs:=rib) (by omega) (fun j (g:List (Ty.El zA))=>g=(rib.take j).filterMap (zUC r l)) (by simp) ?_ (fun g hg=>zB (by rw [hg,List.take_length];rfl)))
 intro j x g hx hg
 have hgl:g.length≤1048576:=by rw [hg];exact Nat.le_trans (List.length_filterMap_le _ _) (Nat.le_trans (List.length_take_le' _ _) hb)
 simp only [zJ hx,Option.bind_some]
 rw [jF hx, ←hg]
 refine zC (zXs (l:=l) (p:=fun d=>d.1==x.2.1) (acc:=g) (by omega) ?_)
 unfold zUC
 rcases zH5 (fun d:Ty.El qN=>d.1==x.2.1) l with ⟨h1,h2⟩|⟨i,d,h1,h2,h3⟩
 ·rw [h1,h2]
  refine zC (Wp.mono (Q:=fun s=>s=(true,g)) (zI (fun _=>zB rfl) (fun h=>absurd (show (-1:Int)<0 by decide) h)) (fun s hs=> ?_))
  subst hs
  refine tt rfl (zB ?_)
  cases zJB x<;>simp
 ·rw [h1,h3]
  refine zC (Wp.mono (Q:=fun s=>s=(zJB x,g)) (zI (fun h=>absurd h (by simp only;omega)) (fun _=>zF (fun h=>zB ?_) (fun h=>zB ?_))) (fun s hs=> ?_))
  ·unfold zJB;rw [h];rfl
  ·unfold zJB;rw [h];rfl
  subst hs
  refine zF (fun h=>zB ?_) (fun h=> ?_)
  ·have h:zJB x=true:=h
   rw [h];simp
  ·have h:zJB x=false:=h
   rw [h]
   simp only [zJ h2,Option.bind_some,cond_false]
   refine zC ((zM5 r d x hr).mono (fun y hy=> ?_))
   rcases hy with ⟨h4,h5⟩|⟨h4,h5⟩
   ·refine tt (by rw [h4];rfl) (zB ?_)
    unfold zPU
    rw [h5];simp
   ·refine ff (by rw [h4];rfl) ?_
    refine zC (qE (zM6 r d x.1 y.1 y.2.1) (tt rfl (zC (j9 (by simp only [List.length_singleton];omega) (zB ?_)))))
    unfold zPU
    rw [h5];simp
theorem zIR {α β:Type} {p:α→Bool} {f:α→Option β} : ∀ {l:List α},l.Pairwise (fun x y=> ¬(p x=true∧p y=true))→l.filterMap (fun d=>bif p d then f d else none)=((l.find? p).bind f).toList
 |[],_=>rfl
 |a::l,h=>by
  obtain ⟨h1,h2⟩:=List.pairwise_cons.1 h
  have ih:=zIR (f:=f) h2
  cases hp:p a with
  |false=>simp only [List.filterMap_cons,hp,cond_false,List.find?_cons,ih]
  |true=>
   have hn:l.filterMap (fun d=>bif p d then f d else none)=[]:=by
    rw [List.filterMap_eq_nil_iff]
    intro b hb
    have:p b=false:=by
     cases hb':p b with
     |false=>rfl
     |true=>exact absurd ⟨hp,hb'⟩ (h1 b hb)
    rw [this];rfl
   simp only [List.filterMap_cons,hp,cond_true,List.find?_cons,hn,Option.bind_some]
   cases f a<;>rfl
theorem zTr {α β:Type} {f:α→Option β} : ∀ (l:List α),l.flatMap (fun x=>(f x).toList)=l.filterMap f
 |[]=>rfl
 |a::l=>by
  rw [List.flatMap_cons,zTr l,List.filterMap_cons]
  cases f a<;>rfl
def zOo (r:Ty.El zD) (x:Ty.El zA) (d:Ty.El qN):Option (Ty.El zA):=bif d.1==x.2.1 then (bif zJB x then none else zPU r d x) else none
theorem zZF {r:Ty.El zD} {l:List (Ty.El qN)} {into least most:Int} (hl:qAj l into least most) (x:Ty.El zA):l.filterMap (zOo r x)=(zUC r l x).toList:=by
 have hp:l.Pairwise (fun a b=> ¬((a.1==x.2.1)=true∧(b.1==x.2.1)=true)):=by
  rw [List.pairwise_iff_getElem]
  rintro i j hi hj hij ⟨h1,h2⟩
  have h1:l[i].1=x.2.1:=by simpa using h1
  have h2:l[j].1=x.2.1:=by simpa using h2
  exact hl.one j i l[j] l[i] hij (by simp) (by simp) (by rw [h1,h2])
 unfold zUC
 cases h:zJB x with
 |true=>
  simp only [cond_true,Option.toList_none]
  rw [List.filterMap_eq_nil_iff]
  intro d _
  unfold zOo
  rw [h]
  cases d.1==x.2.1<;>rfl
 |false=>
  simp only [cond_false]
  rw [←zIR hp]
  congr 1
  funext d
  unfold zOo
  rw [h];rfl
theorem zEX (r:Ty.El zD) (l:List (Ty.El qN)) (rib:List (Ty.El zA)) (hr:SmR r) {least most:Int} (hl:qAj l 5 least most) (hb:rib.length≤1048576):
  Wp (yW (r,l,rib,(5:Int),())) (fun o=>o=zXY r l rib):=by
 unfold yW
 dsimp only
 have hl4:=hl.len
 refine zC (wM (xs:=rib) (by omega) (fun j (g:List (Ty.El zA))=>g=(rib.take j).flatMap (fun x=>l.filterMap (zOo r x))) (by simp) ?_ (fun g hg=>zB ?_))
 ·intro j x g hx hg
  have hgl:g.length≤4194304:=by
   have h1:=kW (xs:=rib.take j) (f:=fun x=>l.filterMap (zOo r x)) (k:=4) (fun x _=>Nat.le_trans (List.length_filterMap_le _ _) hl4)
   have h2:=List.length_take_le' j rib
   rw [hg]
   omega
  simp only [zJ hx,Option.bind_some]
  rw [zFX hx, ←hg]
  refine wM (xs:=l) (by omega) (fun k (w:List (Ty.El zA))=>w=g++(l.take k).filterMap (zOo r x)) (by simp) ?_ (fun w hw=>by rw [hw,List.take_length])
  intro k d w hd hw
  have hwl:w.length≤4194308:=by
   have h3:((l.take k).filterMap (zOo r x)).length≤4:=Nat.le_trans (List.length_filterMap_le _ _) (Nat.le_trans (List.length_take_le' _ _) hl4)
   rw [hw,List.length_append]
   omega
  simp only [zJ hd,Option.bind_some]
  rw [jF hd, ←List.append_assoc, ←hw]
  refine zC (Wp.mono (Q:=fun s:Bool×List (Ty.El zA)=>s.1=(!(d.1==x.2.1)||zJB x)∧s.2=w) ?_ (fun s hs=> ?_))
  ·refine zF (fun h=>zB ⟨?_,rfl⟩) (fun h=>zF (fun h2=>zB ⟨?_,rfl⟩) (fun h2=>zB ⟨?_,rfl⟩))
   ·have h:(d.1==x.2.1)=false:=by simpa [bne] using h
    rw [h];rfl
   ·have h:(d.1==x.2.1)=true:=by simpa [bne] using h
    unfold zJB
    rw [h,h2];rfl
   ·have h:(d.1==x.2.1)=true:=by simpa [bne] using h
    unfold zJB
    rw [h,h2];rfl
  obtain ⟨s1,s2⟩:=s
  obtain ⟨e1,e2⟩:=hs
  simp only at e1 e2
  subst e2
  refine zF (fun h=>zB ?_) (fun h=> ?_)
  ·have h:s1=true:=h
   rw [h] at e1
   have:zOo r x d=none:=by
    unfold zOo
    cases hd1:d.1==x.2.1 with
    |false=>rfl
    |true=>rw [hd1] at e1;have e1:zJB x=true:=e1.symm;rw [e1];rfl
   rw [this];simp
  ·have h:s1=false:=h
   rw [h] at e1
   have h1:(d.1==x.2.1)=true:=by
    cases hd1:d.1==x.2.1 with
    |false=>rw [hd1] at e1;cases e1
    |true=>rfl
   have h2:zJB x=false:=by
    rw [h1] at e1;exact e1.symm
   have hD:zOo r x d=zPU r d x:=by unfold zOo;rw [h1,h2];rfl
   rw [hD]
   have fin: ∀mt:Int×Int,zKr r d x=some mt→Wp (Option.bind (app (136:Nat) s2 [((x.1,(5:Int),(1:Int),r.2.2.2.2.2.2.2.2.2.2.1.2.2.1,mt.1,(0:Int),mt.2,(100:Int),[],(0:Int),(0:Int),[],false,()):Ty.El zA)]) fun (y92:List (Ty.El zA))=>some y92) (fun o=>o=s2++(zPU r d x).toList):=by
    intro mt hmt
    refine zC (j9 (by simp only [List.length_singleton];omega) (zB ?_))
    unfold zPU
    rw [hmt];rfl
   refine z6 (zF (fun hm=> ?_) (fun hm=> ?_))
   ·have hm:(d.2.2.2.1==({ data:= #[] } :ByteArray))=false:=by simpa [bne] using hm
    have hT:zKr r d x=(zD8 r d.2.2.2.1 x).map (fun c=>((bif c.2.2.2.1==(-1:Int) then d.2.1 else c.2.2.2.1),(bif c.2.2.2.2.1==(-1:Int) then d.2.2.1 else c.2.2.2.2.1))):=by unfold zKr;rw [hm];rfl
    refine zC ((zLE r _ x hr).mono (fun k hk=> ?_))
    rcases hk with ⟨h3,h4⟩|⟨i,j',m,c,rfl,h3,h4,h5,h6⟩
    ·refine zI (fun _=>zB (e2r ?_)) (fun h=>absurd h3 h)
     have hp:zD8 r d.2.2.2.1 x=none:=by unfold zD8;rw [h4]
     unfold zPU
     rw [hT,hp];simp
    ·refine zI (fun h=>absurd h (by omega)) (fun _=> ?_)
     refine zC ((zDx r _ hr).mono (fun k hk=> ?_))
     subst hk
     rw [h3]
     simp only [zJ h4,zJ h5,Option.bind_some]
     refine zF (fun hc=>zB (e2r ?_)) (fun hc=> ?_)
     ·have hc:c.1=false:=by simpa using hc
      have hp:zD8 r d.2.2.2.1 x=none:=by unfold zD8;rw [h6];simp [hc]
      unfold zPU
      rw [hT,hp];simp
     ·have hc:c.1=true:=by simpa using hc
      have hp:zD8 r d.2.2.2.1 x=some c:=by unfold zD8;rw [h6];simp [hc]
      rw [hp,Option.map_some] at hT
      refine zC (Wp.mono (Q:=fun s=>s=((bif c.2.2.2.1==(-1:Int) then d.2.1 else c.2.2.2.1),s2)) ?_ (fun s9 h9=> ?_))
      ·refine zF (fun h=>zB ?_) (fun h=>zB ?_)
       ·have h:(c.2.2.2.1==(-1:Int))=false:=by simpa [bne] using h
        rw [h];rfl
       ·have h:(c.2.2.2.1==(-1:Int))=true:=by simpa [bne] using h
        rw [h];rfl
      subst h9
      refine zF (fun h=>zB (e2l ?_)) (fun h=>zB (e2l ?_))
      ·have h:(c.2.2.2.2.1==(-1:Int))=false:=by simpa [bne] using h
       rw [h] at hT
       exact z6 (ff rfl (ff rfl (tt rfl (zB (e2l (fin _ hT))))))
      ·have h:(c.2.2.2.2.1==(-1:Int))=true:=by simpa [bne] using h
       rw [h] at hT
       exact z6 (ff rfl (ff rfl (tt rfl (zB (e2l (fin _ hT))))))
   ·have hm:(d.2.2.2.1==({ data:= #[] } :ByteArray))=true:=by simpa [bne] using hm
    have hT:zKr r d x=some (d.2.1,d.2.2.1):=by unfold zKr;rw [hm];rfl
    exact zB (e2l (z6 (ff rfl (ff rfl (tt rfl (zB (e2l (fin _ hT))))))))
 ·rw [hg,List.take_length]
  unfold zXY
  rw [←zTr]
  exact zHo (fun x _=>zZF hl x)
end Go.Ve

namespace Go.Ve
open Go
set_option maxRecDepth 1000000
set_option maxHeartbeats 4000000
theorem zRh {α ρ:Type} {xs:List α} {p:Nat→α→Bool} {hv:ρ} {body:Int→Option (Int ⊕ (Unit ⊕ ρ))} {K:Unit→Option ρ} {Q:ρ→Prop} (hl:xs.length<4611686018427387904)
  (step: ∀ (i:Nat) x,xs[i]? =some x→Wp (body (i:Int)) (fun o=>o=(bif p i x then Sum.inr (Sum.inr hv) else Sum.inl (IntKind.wrap IntKind.i64 ((i:Int)+1)))))
  (hit:(∃ (i:Nat) (x:α),xs[i]? =some x∧p i x=true)→Q hv) (miss:(∀ (i:Nat) x,xs[i]? =some x→p i x=false)→Wp (K ()) Q):
  Wp (qM (zK (fun s:Int=>bif decide (s< (xs.length:Int)) then body s else some (Sum.inr (Sum.inl ()))) (0:Int)) K) Q:=by
 refine uN hl (fun i=> ∀j y,j<i→xs[j]? =some y→p j y=false) (fun j y hj=>by omega) ?_ (fun h=>miss (fun i x hx=>h i x (List.getElem?_eq_some_iff.1 hx).1 hx))
 intro i x hx hj
 refine (step i x hx).mono (fun o ho=> ?_)
 cases hp:p i x with
 |true=>
  rw [hp] at ho
  rw [ho]
  exact e2r (e2r (hit ⟨i,x,hx,hp⟩))
 |false=>
  rw [hp] at ho
  rw [ho]
  refine e2l ⟨rfl,?_⟩
  intro j y hjl hy
  rcases Nat.lt_or_ge j i with h'|h'
  ·exact hj j y h' hy
  ·have:j=i:=by omega
   subst this
   rw [hx] at hy
   cases hy
   exact hp
theorem zK5 {α:Type} (p:α→Bool) (l:List α):decide (uM p l≥(0:Int))=l.any p:=by
 rcases zDQ p l with ⟨h1,h2⟩|⟨i,x,h1,h2,h3,_⟩
 ·rw [h1]
  symm
  rw [show decide ((-1:Int)≥0)=false from rfl,List.any_eq_false]
  intro x hx
  rw [h2 x hx];decide
 ·rw [h1]
  have:l.any p=true:=List.any_eq_true.2 ⟨x,List.mem_of_getElem? h2,h3⟩
  rw [this]
  exact decide_eq_true (by omega)
def zPX (v:Ty.El zO) (r:Int) (rt:Ty.El zD) (p:Ty.El zG):Bool:=
 (List.range rt.2.2.1.length).any (fun i=>match rt.2.2.1[i]? with
  |some x=>upB v r i&&j6 (zGH x.2.1 x.2.2.1) p
  |none=>false)
theorem zOu {v:Ty.El zO} {r:Int} {rt:Ty.El zD} {p:Ty.El zG} :zPX v r rt p=true↔ ∃ (i:Nat) (x:Ty.El qC),rt.2.2.1[i]? =some x∧(upB v r i&&j6 (zGH x.2.1 x.2.2.1) p)=true:=by
 unfold zPX
 rw [List.any_eq_true]
 constructor
 ·rintro ⟨i,_,h⟩
  split at h
  ·rename_i x hx
   exact ⟨i,x,hx,h⟩
  ·cases h
 ·rintro ⟨i,x,hx,h⟩
  exact ⟨i,List.mem_range.2 (List.getElem?_eq_some_iff.1 hx).1,by rw [hx];exact h⟩
theorem zQK {v:Ty.El zO} {r:Int} {rt:Ty.El zD} {p:Ty.El zG} (h: ∀ (i:Nat) x,rt.2.2.1[i]? =some x→(upB v r i&&j6 (zGH x.2.1 x.2.2.1) p)=false):zPX v r rt p=false:=by
 cases hb:zPX v r rt p with
 |false=>rfl
 |true=>
  obtain ⟨i,x,hx,h1⟩:=zOu.1 hb
  rw [h i x hx] at h1;cases h1
theorem zED (v:Ty.El zO) (r:Nat) (rt:Ty.El zD) (p:Ty.El zG) (hv:zAC v) (hr:v.1.1[r]? =some rt):Wp (uS (v,(r:Int),p,())) (fun b=>b=zPX v r rt p):=by
 unfold uS
 dsimp only
 have hl:rt.2.2.1.length≤20:=(hv.sm rt (List.mem_of_getElem? hr)).i1
 simp only [zJ hr,Option.bind_some]
 refine zRh (p:=fun i (x:Ty.El qC)=>upB v r i&&j6 (zGH x.2.1 x.2.2.1) p) (by omega) ?_ (fun h=>(zOu.2 h).symm) (fun h=>zB (zQK h).symm)
 intro i x hx
 simp only [zJ hx,Option.bind_some]
 refine zC (Wp.mono (Q:=fun s=>s=(upB v r i&&j6 (zGH x.2.1 x.2.2.1) p)) ?_ (fun s hs=> ?_))
 ·refine zC ((zFv v r i hv).mono (fun b hb=> ?_))
  subst hb
  refine zF (fun h=>zC (qE (zKk _ _) (zB ?_))) (fun h=>zB ?_)
  ·rw [h];rfl
  ·rw [h];rfl
 ·subst hs
  exact zF (fun h=>zB (by rw [h];rfl)) (fun h=>zB (by rw [h];rfl))
theorem zOb (v:Ty.El zO) (r:Nat) (rt:Ty.El zD) (p:Ty.El zG) (hv:zAC v) (hr:v.1.1[r]? =some rt):Wp (zHT (v,(r:Int),p,())) (fun b=>b=zPX v r rt p):=by
 unfold zHT
 dsimp only
 have hl:rt.2.2.1.length≤20:=(hv.sm rt (List.mem_of_getElem? hr)).i1
 simp only [zJ hr,Option.bind_some]
 refine zRh (p:=fun i (x:Ty.El qC)=>upB v r i&&j6 (zGH x.2.1 x.2.2.1) p) (by omega) ?_ (fun h=>(zOu.2 h).symm) (fun h=>zB (zQK h).symm)
 intro i x hx
 refine zC (Wp.mono (Q:=fun s=>s=(upB v r i&&j6 (zGH x.2.1 x.2.2.1) p)) ?_ (fun s hs=> ?_))
 ·refine zC ((zIM v r i hv).mono (fun b hb=> ?_))
  subst hb
  refine zF (fun h=>zC (qE (zJg v r i rt x hr hx) (zB ?_))) (fun h=>zB ?_)
  ·rw [h];rfl
  ·rw [h];rfl
 ·subst hs
  exact zF (fun h=>zB (by rw [h];rfl)) (fun h=>zB (by rw [h];rfl))
theorem zCR (t:List (Ty.El zA)) (p:Ty.El zG) (hl:t.length<4611686018427387904):Wp (zCi (t,p,())) (fun k=>k=uM (fun x=>j6 x.1 p) t):=by
 unfold zCi
 dsimp only
 refine kG (p:=fun x:Ty.El zA=>j6 x.1 p) hl ?_ rfl
 intro i x hx
 simp only [zJ hx,Option.bind_some]
 show (bif j6 x.1 p then _ else _)=_
 cases j6 x.1 p<;>rfl
theorem zJj (t:List (Ty.El zA)) (p:Ty.El zG) (hl:t.length<4611686018427387904):Wp (jX (t,(p,()),())) (fun b=>b=t.any (fun x=>j6 x.1 p)):=by
 unfold jX
 dsimp only
 refine zC (Wp.mono (Q:=fun k=>k=uM (fun x=>j6 x.1 p) t) ?_ (fun k hk=> ?_))
 ·unfold vZ
  dsimp only
  refine kG (p:=fun x:Ty.El zA=>j6 x.1 p) hl ?_ rfl
  intro i x hx
  simp only [zJ hx,Option.bind_some]
  show (bif j6 x.1 p then _ else _)=_
  cases j6 x.1 p<;>rfl
 ·subst hk
  exact zB (zK5 _ _)
theorem zJi (t:List (Ty.El zA)) (g:Ty.El jI) (hl:t.length<4611686018427387904):Wp (jW (t,(g,()),())) (fun b=>b=t.any (fun x=>lwB x.1 g.1)):=by
 unfold jW
 dsimp only
 refine zC (Wp.mono (Q:=fun k=>k=uM (fun x=>lwB x.1 g.1) t) ?_ (fun k hk=> ?_))
 ·unfold vY
  dsimp only
  refine kG (p:=fun x:Ty.El zA=>lwB x.1 g.1) hl ?_ rfl
  intro i x hx
  have hc:vI (x,g,())=some (lwB x.1 g.1):=by
   unfold vI
   dsimp only
   rw [show jM (x.1,g.1,())=some (lwB x.1 g.1) from xD _ _]
   rfl
  simp only [zJ hx,Option.bind_some]
  rw [show vI (x,g,())=some (lwB x.1 g.1) from hc]
  cases lwB x.1 g.1<;>rfl
 ·subst hk
  exact zB (zK5 _ _)
def zZO (t:List (Ty.El zA)) (p:Ty.El zG):Bool:=
 match t.find? (fun x=>j6 x.1 p) with
 |some x=>x.2.2.1==(3:Int)
 |none=>false
theorem zXp {t:List (Ty.El zA)} {p:Ty.El zG} :
  Wp (bif decide (uM (fun x=>j6 x.1 p) t≥(0:Int)) then Option.bind (idx t (uM (fun x=>j6 x.1 p) t)) fun (y3:Ty.El zA)=>some (y3.2.2.1==(3:Int)) else some false) (fun b=>b=zZO t p):=by
 unfold zZO
 rcases zH5 (fun x:Ty.El zA=>j6 x.1 p) t with ⟨h1,h2⟩|⟨i,x,h1,h2,h3⟩
 ·rw [h1,h2]
  exact ff rfl (zB rfl)
 ·rw [h1,h3]
  refine tt (decide_eq_true (by omega)) ?_
  simp only [zJ h2,Option.bind_some]
  exact zB rfl
noncomputable def zRR (v:Ty.El zO) (t:Ty.El zS) (r:Int) (rt:Ty.El zD) (p:Ty.El zG):Bool:=
 zPX v r rt p||((rt.2.2.2.2.2.2.2.1.filterMap (act v t.2.2.2.1 r rt)).any (fun y=>j6 y.1 p)||(t.1.any (fun x=>j6 x.1 p)||zZO t.2.1 p))
structure zXk (t:Ty.El zS):Prop where
 ls:t.1.length≤1048576
 dv:t.2.1.length≤1048576
 pv:t.2.2.1.length≤1048576
 rib:t.2.2.2.1.length≤1048576
theorem zD7 (t:Ty.El zS) (p:Ty.El zG) (ht:zXk t):Wp (kR (t,p,())) (fun b=>b=(t.1.any (fun x=>j6 x.1 p)||zZO t.2.1 p)):=by
 unfold kR
 dsimp only
 have h1:=ht.ls
 have h2:=ht.dv
 refine zC ((zCR t.1 p (by omega)).mono (fun k hk=> ?_))
 subst hk
 rw [zK5]
 refine zF (fun h=>zB (by rw [h];rfl)) (fun h=> ?_)
 rw [h]
 refine zC ((zCR t.2.1 p (by omega)).mono (fun k hk=> ?_))
 subst hk
 exact zC (zXp.mono (fun b hb=>zB (by rw [hb];rfl)))
theorem zOc (v:Ty.El zO) (t:Ty.El zS) (r:Nat) (rt:Ty.El zD) (p:Ty.El zG) (hv:zAC v) (hr:v.1.1[r]? =some rt) (ht:zXk t) (hok:zUc rt):Wp (zHU (v,t,(r:Int),p,())) (fun b=>b=zRR v t r rt p):=by
 unfold zHU
 dsimp only
 have h1:=ht.ls
 have h2:=ht.dv
 have h3:=ht.rib
 have hst:rt.2.2.2.2.2.2.2.1.length≤20:=(hv.sm rt (List.mem_of_getElem? hr)).i6
 unfold zRR
 refine zC (Wp.mono (Q:=fun b=>b=(zPX v r rt p||t.1.any (fun x=>j6 x.1 p))) ?_ (fun b hb=> ?_))
 ·refine zC ((zOb v r rt p hv hr).mono (fun b hb=> ?_))
  subst hb
  refine zF (fun h=>zB (by rw [h];rfl)) (fun h=> ?_)
  refine zC ((zCS t.1 p (by omega)).mono (fun k hk=>zB ?_))
  subst hk
  rw [h,zK5];rfl
 subst hb
 refine zF (fun h=>zB ?_) (fun h=> ?_)
 ·simp only [Bool.or_eq_true] at h
  rcases h with h|h
  ·rw [h];rfl
  ·rw [h];simp
 have ho:zPX v r rt p=false:=by
  cases hh:zPX v r rt p with
  |false=>rfl
  |true=>rw [hh] at h;cases h
 have hL:t.1.any (fun x=>j6 x.1 p)=false:=by
  rw [ho] at h;exact h
 rw [ho,hL]
 refine zC ((zKi v t.2.2.2.1 r rt hv hr h3 hok).mono (fun y hy=> ?_))
 have hyl:y.length≤20:=by rw [hy];exact Nat.le_trans (List.length_filterMap_le _ _) hst
 rw [←hy]
 refine zRh (hv:=(true:Bool)) (xs:=y) (p:=fun _ (x:Ty.El zA)=>j6 x.1 p) (by omega) ?_ ?_ ?_
 ·intro i x hx
  simp only [zJ hx,Option.bind_some]
  show Wp (bif j6 x.1 p then _ else _) _
  exact zF (fun h=>zB (by rw [h];rfl)) (fun h=>zB (by rw [h];rfl))
 ·rintro ⟨i,x,hx,h⟩
  have:y.any (fun x=>j6 x.1 p)=true:=List.any_eq_true.2 ⟨x,List.mem_of_getElem? hx,h⟩
  rw [this];rfl
 ·intro hno
  have:y.any (fun x=>j6 x.1 p)=false:=by
   rw [List.any_eq_false]
   intro x hx
   obtain ⟨k,hk,rfl⟩:=List.getElem_of_mem hx
   rw [hno k _ (by simp [hk])];decide
  rw [this]
  refine zC ((zCS t.2.1 p (by omega)).mono (fun k hk=> ?_))
  subst hk
  exact zC (zXp.mono (fun b hb=>zB (by rw [hb];rfl)))
def zXi (r:Ty.El zD) (p:Ty.El zG):Ty.El zA:=
 (p,(5:Int),(2:Int),r.2.2.2.2.2.2.2.2.2.2.1.2.2.1,(0:Int),(0:Int),(0:Int),(100:Int),[],(0:Int),(0:Int),[],true,())
noncomputable def zS9 (v:Ty.El zO) (t:Ty.El zS) (r:Int) (rt:Ty.El zD) (p:Ty.El zG):Option (Ty.El zA):=bif zRR v t r rt p then some (zNr rt p 0 0) else none
def zNG (t:Ty.El zS) (rt:Ty.El zD) (c:Ty.El xY):Option (Ty.El zA):=bif decide (uM (fun x=>j6 x.1 c.2.1) t.2.2.2.1< (0:Int))==c.2.2.1 then some (zNr rt c.1 0 0) else none
def zNJ (t:Ty.El zS) (rt:Ty.El zD) (g:Ty.El jI):Option (Ty.El zA):=bif t.2.2.1.any (fun x=>lwB x.1 g.1) then some (zXi rt g.1) else none
noncomputable def zDN (v:Ty.El zO) (t:Ty.El zS) (r:Int) (rt:Ty.El zD):List (Ty.El zA):=
 ((rt.2.2.2.2.2.2.2.2.2.2.1.2.2.2.2.1.filterMap (zS9 v t r rt)++rt.2.2.2.2.2.2.2.2.2.2.1.2.2.2.2.2.2.1.filterMap (zNG t rt))++zXY rt rt.2.2.2.2.2.2.2.2.2.2.1.2.2.2.2.2.2.2.1 t.2.2.2.1)++rt.2.2.2.2.2.2.2.2.2.2.1.2.2.2.2.2.1.filterMap (zNJ t rt)
theorem zOn (r:Ty.El zD) (l:List (Ty.El qN)) (rib:List (Ty.El zA)):(zXY r l rib).length≤rib.length:=List.length_filterMap_le _ _
theorem zOQ {v:Ty.El zO} {t:Ty.El zS} {r:Int} {rt:Ty.El zD} (hs:SmR rt):(zDN v t r rt).length≤t.2.2.2.1.length+60:=by
 have h1:rt.2.2.2.2.2.2.2.2.2.2.1.2.2.2.2.1.length≤20:=hs.i11
 have h2:rt.2.2.2.2.2.2.2.2.2.2.1.2.2.2.2.2.1.length≤20:=hs.i12
 have h3:rt.2.2.2.2.2.2.2.2.2.2.1.2.2.2.2.2.2.1.length≤20:=hs.i13
 have a1:=List.length_filterMap_le (zS9 v t r rt) rt.2.2.2.2.2.2.2.2.2.2.1.2.2.2.2.1
 have a2:=List.length_filterMap_le (zNG t rt) rt.2.2.2.2.2.2.2.2.2.2.1.2.2.2.2.2.2.1
 have a3:=List.length_filterMap_le (zNJ t rt) rt.2.2.2.2.2.2.2.2.2.2.1.2.2.2.2.2.1
 have a4:=zOn rt rt.2.2.2.2.2.2.2.2.2.2.1.2.2.2.2.2.2.2.1 t.2.2.2.1
 unfold zDN
 simp only [List.length_append]
 omega
theorem xL (v:Ty.El zO) (t:Ty.El zS) (r:Nat) (rt:Ty.El zD) (hv:zAC v) (hr:v.1.1[r]? =some rt) (ht:zXk t):
  Wp (wZ (v,t,(r:Int),())) (fun o=>o=bif rt.2.2.2.2.2.2.2.2.2.2.1.1 then zDN v t r rt else []):=by
 unfold wZ
 dsimp only
 have hrl:=(List.getElem?_eq_some_iff.1 hr).1
 have hs:=hv.sm rt (List.mem_of_getElem? hr)
 have b1:=ht.ls
 have b2:=ht.dv
 have b3:=ht.pv
 have b4:=ht.rib
 have n1:rt.2.2.2.2.2.2.2.2.2.2.1.2.2.2.2.1.length≤20:=hs.i11
 have n2:rt.2.2.2.2.2.2.2.2.2.2.1.2.2.2.2.2.1.length≤20:=hs.i12
 have n3:rt.2.2.2.2.2.2.2.2.2.2.1.2.2.2.2.2.2.1.length≤20:=hs.i13
 have n4:rt.2.2.2.2.2.2.2.2.2.2.1.2.2.2.2.2.2.2.1.length≤20:=hs.i14
 have n5:rt.2.2.2.2.2.2.2.1.length≤20:=hs.i6
 refine zC (Wp.mono (Q:=fun s=>s= !rt.2.2.2.2.2.2.2.2.2.2.1.1) ?_ (fun s hs2=> ?_))
 ·have q0: ¬((r:Int)<0):=by omega
  have q1: ¬((r:Int)≥(List.length v.1.1:Int)):=by omega
  refine zI (fun h=>absurd h q0) (fun _=>zI (fun h=>absurd h q1) (fun _=> ?_))
  simp only [zJ hr,Option.bind_some]
  exact zB rfl
 subst hs2
 cases hon:rt.2.2.2.2.2.2.2.2.2.2.1.1 with
 |false=>exact tt rfl (zB rfl)
 |true=>
  refine ff rfl ?_
  simp only [zJ hr,Option.bind_some,cond_true]
  refine zC ((zJd v t.2.2.2.1 r rt hv hr b4).mono (fun y4 h4=> ?_))
  have hy4:y4.length≤20:=by rw [h4];exact Nat.le_trans (List.length_filterMap_le _ _) n5
  refine zC (wM (xs:=rt.2.2.2.2.2.2.2.2.2.2.1.2.2.2.2.1) (by omega) (fun i (g:List (Ty.El zA))=>g=(rt.2.2.2.2.2.2.2.2.2.2.1.2.2.2.2.1.take i).filterMap (zS9 v t r rt)) (by simp) ?_ (fun s38 h38=> ?_))
  ·intro i p g hp hg
   have hgl:g.length≤20:=by rw [hg];exact Nat.le_trans (List.length_filterMap_le _ _) (Nat.le_trans (List.length_take_le' _ _) n1)
   simp only [zJ hp,Option.bind_some]
   rw [jF hp, ←hg]
   refine zC (Wp.mono (Q:=fun s=>s=(zRR v t r rt p,g)) ?_ (fun s hs2=> ?_))
   ·unfold zRR
    rw [←h4]
    refine zC ((zED v r rt p hv hr).mono (fun b hb=> ?_))
    subst hb
    refine zF (fun h=>zB (by rw [h];rfl)) (fun h=> ?_)
    rw [h]
    refine zC ((zJj y4 p (by omega)).mono (fun b hb=> ?_))
    subst hb
    refine zF (fun h=>zB (by rw [h];rfl)) (fun h=> ?_)
    rw [h]
    exact zC ((zD7 t p ht).mono (fun b hb=>zB (by rw [hb];rfl)))
   ·subst hs2
    unfold zS9
    refine zF (fun h=> ?_) (fun h=>zB ?_)
    ·have h:zRR v t r rt p=true:=h
     rw [h]
     exact zC (j9 (by simp only [List.length_singleton];omega) (zB rfl))
    ·have h:zRR v t r rt p=false:=h
     rw [h];simp
  rw [List.take_length] at h38
  have hl38:s38.length≤20:=by rw [h38];exact Nat.le_trans (List.length_filterMap_le _ _) n1
  refine zC (wM (xs:=rt.2.2.2.2.2.2.2.2.2.2.1.2.2.2.2.2.2.1) (by omega) (fun i (g:List (Ty.El zA))=>g=s38++(rt.2.2.2.2.2.2.2.2.2.2.1.2.2.2.2.2.2.1.take i).filterMap (zNG t rt)) (by simp) ?_ (fun s58 h58=> ?_))
  ·intro i c g hc hg
   have hgl:g.length≤40:=by
    have:=Nat.le_trans (List.length_filterMap_le (zNG t rt) (rt.2.2.2.2.2.2.2.2.2.2.1.2.2.2.2.2.2.1.take i)) (Nat.le_trans (List.length_take_le' _ _) n3)
    rw [hg,List.length_append];omega
   simp only [zJ hc,Option.bind_some]
   rw [jF hc, ←List.append_assoc, ←hg]
   refine zC ((zCR t.2.2.2.1 c.2.1 (by omega)).mono (fun k hk=> ?_))
   subst hk
   unfold zNG
   refine zF (fun h=> ?_) (fun h=>zB ?_)
   ·rw [h]
    exact zC (j9 (by simp only [List.length_singleton];omega) (zB rfl))
   ·rw [h];simp
  rw [List.take_length] at h58
  have hl58:s58.length≤40:=by
   have:=Nat.le_trans (List.length_filterMap_le (zNG t rt) rt.2.2.2.2.2.2.2.2.2.2.1.2.2.2.2.2.2.1) n3
   rw [h58,List.length_append];omega
  refine zC ((zGw rt _ t.2.2.2.1 hs n4 b4).mono (fun y59 h59=> ?_))
  have hl59:=zOn rt rt.2.2.2.2.2.2.2.2.2.2.1.2.2.2.2.2.2.2.1 t.2.2.2.1
  rw [←h59] at hl59
  refine zC (j9 (by omega) ?_)
  refine zC (wM (xs:=rt.2.2.2.2.2.2.2.2.2.2.1.2.2.2.2.2.1) (by omega) (fun i (g:List (Ty.El zA))=>g=(s58++y59)++(rt.2.2.2.2.2.2.2.2.2.2.1.2.2.2.2.2.1.take i).filterMap (zNJ t rt)) (by simp) ?_ (fun s79 h79=>zB ?_))
  ·intro i c g hc hg
   have hgl:g.length≤1048636:=by
    have:=Nat.le_trans (List.length_filterMap_le (zNJ t rt) (rt.2.2.2.2.2.2.2.2.2.2.1.2.2.2.2.2.1.take i)) (Nat.le_trans (List.length_take_le' _ _) n2)
    rw [hg,List.length_append,List.length_append];omega
   simp only [zJ hc,Option.bind_some]
   rw [jF hc, ←List.append_assoc, ←hg]
   refine zC ((zJi t.2.2.1 c (by omega)).mono (fun b hb=> ?_))
   subst hb
   unfold zNJ
   refine zF (fun h=> ?_) (fun h=>zB ?_)
   ·rw [h]
    exact zC (j9 (by simp only [List.length_singleton];omega) (zB rfl))
   ·rw [h];simp
  ·rw [h79,List.take_length,h58,h38,h59];rfl
theorem zXr {α β γ:Type} {xs:List α} {g0:β×γ} {body:Int×β×γ→Option (β×γ)} {Q:β→Prop} (hl:xs.length<4611686018427387904) (J:Nat→β×γ→Prop) (h0:J 0 g0)
  (step: ∀i x g,xs[i]? =some x→J i g→Wp (body ((i:Int),g)) (J (i+1))) (fin: ∀g,J xs.length g→Q g.1):
  Wp (zK (fun s:Int×β×γ=>bif decide (s.1< (xs.length:Int)) then Option.bind (body s) (fun g=>some (Sum.inl (IntKind.wrap IntKind.i64 (s.1+(1:Int)),g))) else some (Sum.inr s.2.1)) ((0:Int),g0)) Q:=by
 refine j4 (fun (s:Int×β×γ)=> ∃i:Nat,s.1=(i:Int)∧i≤xs.length∧J i s.2) (fun (s:Int×β×γ)=>((xs.length:Int) -s.1).toNat) ⟨(0:Nat),rfl,Nat.zero_le _,h0⟩ ?_
 rintro ⟨s,g⟩ ⟨i,hi,hle,hj⟩
 simp only at hi
 subst hi
 refine zI (fun hlt=> ?_) (fun hge=> ?_)
 ·have hlt:(i:Int)< (xs.length:Int):=hlt
  obtain ⟨x,hx⟩: ∃x,xs[i]? =some x:=⟨_,List.getElem?_eq_getElem (by omega)⟩
  refine zC ((step i x g hx hj).mono (fun g' hg'=>zB (e2l ⟨⟨i+1,?_,by omega,hg'⟩,?_⟩)))
  ·simp only
   rw [zH (by omega) (by omega)];rfl
  ·simp only
   rw [zH (by omega) (by omega)];omega
 ·have hge: ¬(i:Int)< (xs.length:Int):=hge
  have:i=xs.length:=by omega
  subst this
  exact zB (e2r (fin g hj))
def qAq (r:Ty.El zD):Int×Int×Int×Int×Int×Int×Int×List Int×Int×Int×List (Ty.El qS)×Bool×Unit:=
 ((5:Int),(1:Int),r.2.2.2.2.2.2.2.2.2.2.1.2.2.1,(0:Int),(0:Int),(0:Int),(100:Int),[],(0:Int),(0:Int),[],false,())
theorem zLF (v:Ty.El zO) (t:Ty.El zS) (r:Nat) (rt:Ty.El zD) (hv:zAC v) (hr:v.1.1[r]? =some rt) (ht:zXk t) (hok:zUc rt) (hpv:rt.2.2.2.2.2.2.2.2.2.2.1.1=true→PvC rt):
  Wp (zEm (v,t,(r:Int),())) (fun o=>o=bif rt.2.2.2.2.2.2.2.2.2.2.1.1 then zDN v t r rt else []):=by
 unfold zEm
 dsimp only
 have hrl:=(List.getElem?_eq_some_iff.1 hr).1
 have hs:=hv.sm rt (List.mem_of_getElem? hr)
 have b1:=ht.ls
 have b2:=ht.dv
 have b3:=ht.pv
 have b4:=ht.rib
 have n1:rt.2.2.2.2.2.2.2.2.2.2.1.2.2.2.2.1.length≤20:=hs.i11
 have n2:rt.2.2.2.2.2.2.2.2.2.2.1.2.2.2.2.2.1.length≤20:=hs.i12
 have n3:rt.2.2.2.2.2.2.2.2.2.2.1.2.2.2.2.2.2.1.length≤20:=hs.i13
 refine zC (Wp.mono (Q:=fun s=>s= !rt.2.2.2.2.2.2.2.2.2.2.1.1) ?_ (fun s hs2=> ?_))
 ·refine zC (qE (zEe v r hrl) (ff rfl ?_))
  simp only [zJ hr,Option.bind_some]
  exact zB rfl
 subst hs2
 cases hon:rt.2.2.2.2.2.2.2.2.2.2.1.1 with
 |false=>exact tt rfl (zB rfl)
 |true=>
  have hC:=hpv hon
  refine ff rfl ?_
  simp only [zJ hr,Option.bind_some,cond_true]
  refine zC (wM (xs:=rt.2.2.2.2.2.2.2.2.2.2.1.2.2.2.2.1) (by omega) (fun i (g:List (Ty.El zA)×Ty.El zA)=>g.1=(rt.2.2.2.2.2.2.2.2.2.2.1.2.2.2.2.1.take i).filterMap (zS9 v t r rt)∧g.2.2=qAq rt) ⟨rfl,rfl⟩ ?_ (fun s30 h30=> ?_))
  ·rintro i p ⟨g,q,x⟩ hp ⟨hg,hx⟩
   simp only at hg hx
   subst hx
   have hgl:g.length≤20:=by rw [hg];exact Nat.le_trans (List.length_filterMap_le _ _) (Nat.le_trans (List.length_take_le' _ _) n1)
   simp only [zJ hp,Option.bind_some]
   rw [jF hp, ←hg]
   refine zC ((zOc v t r rt p hv hr ht hok).mono (fun b hb=> ?_))
   subst hb
   unfold zS9
   refine zF (fun h=> ?_) (fun h=>zB ⟨?_,rfl⟩)
   ·rw [h]
    exact zC (j9 (by simp only [List.length_singleton];omega) (zB ⟨rfl,rfl⟩))
   ·rw [h];simp
  obtain ⟨s38,p38,x38⟩:=s30
  obtain ⟨h38,h38x⟩:=h30
  simp only at h38 h38x
  subst h38x
  rw [List.take_length] at h38
  have hl38:s38.length≤20:=by rw [h38];exact Nat.le_trans (List.length_filterMap_le _ _) n1
  refine zC (wM (xs:=rt.2.2.2.2.2.2.2.2.2.2.1.2.2.2.2.2.2.1) (by omega) (fun i (g:List (Ty.El zA)×Ty.El zA)=>g.1=s38++(rt.2.2.2.2.2.2.2.2.2.2.1.2.2.2.2.2.2.1.take i).filterMap (zNG t rt)∧g.2.2=qAq rt) ⟨by simp,rfl⟩ ?_ (fun s50 h50=> ?_))
  ·rintro i c ⟨g,q,x⟩ hc ⟨hg,hx⟩
   simp only at hg hx
   subst hx
   have hgl:g.length≤40:=by
    have:=Nat.le_trans (List.length_filterMap_le (zNG t rt) (rt.2.2.2.2.2.2.2.2.2.2.1.2.2.2.2.2.2.1.take i)) (Nat.le_trans (List.length_take_le' _ _) n3)
    rw [hg,List.length_append];omega
   simp only [zJ hc,Option.bind_some]
   rw [jF hc, ←List.append_assoc, ←hg]
   refine zC ((zCS t.2.2.2.1 c.2.1 (by omega)).mono (fun k hk=> ?_))
   subst hk
   unfold zNG
   refine zF (fun h=> ?_) (fun h=>zB ⟨?_,rfl⟩)
   ·rw [h]
    exact zC (j9 (by simp only [List.length_singleton];omega) (zB ⟨rfl,rfl⟩))
   ·rw [h];simp
  obtain ⟨s58,p58,x58⟩:=s50
  obtain ⟨h58,h58x⟩:=h50
  simp only at h58 h58x
  subst h58x
  rw [List.take_length] at h58
  have hl58:s58.length≤40:=by
   have:=Nat.le_trans (List.length_filterMap_le (zNG t rt) rt.2.2.2.2.2.2.2.2.2.2.1.2.2.2.2.2.2.1) n3
   rw [h58,List.length_append];omega
  refine zC ((zEX rt _ t.2.2.2.1 hs hC.red b4).mono (fun y59 h59=> ?_))
  have hl59:=zOn rt rt.2.2.2.2.2.2.2.2.2.2.1.2.2.2.2.2.2.2.1 t.2.2.2.1
  rw [←h59] at hl59
  dsimp only
  refine zC (j9 (by omega) ?_)
  have key: ∀ (i:Nat) (g:List (Ty.El zA)),g=(s58++y59)++(rt.2.2.2.2.2.2.2.2.2.2.1.2.2.2.2.2.1.take i).filterMap (zNJ t rt)→g.length≤1048636:=by
   intro i g hg
   have:=Nat.le_trans (List.length_filterMap_le (zNJ t rt) (rt.2.2.2.2.2.2.2.2.2.2.1.2.2.2.2.2.1.take i)) (Nat.le_trans (List.length_take_le' _ _) n2)
   rw [hg,List.length_append,List.length_append];omega
  refine zC (Wp.mono (Q:=fun o=>o=(s58++y59)++rt.2.2.2.2.2.2.2.2.2.2.1.2.2.2.2.2.1.filterMap (zNJ t rt)) ?_ (fun s79 h79=>zB (by rw [h79,h58,h38,h59];rfl)))
  refine zXr (xs:=rt.2.2.2.2.2.2.2.2.2.2.1.2.2.2.2.2.1) (by omega) (fun i (g:List (Ty.El zA)×Ty.El zA)=>g.1=(s58++y59)++(rt.2.2.2.2.2.2.2.2.2.2.1.2.2.2.2.2.1.take i).filterMap (zNJ t rt)∧g.2.2=(zXi rt g.2.1).2) ⟨by simp,rfl⟩ ?_ (fun s79 h79=>by rw [h79.1,List.take_length])
  rintro i c ⟨g,q,x⟩ hc ⟨hg,hx⟩
  simp only at hg hx
  subst hx
  have hgl:=key i g hg
  simp only [zJ hc,Option.bind_some]
  rw [jF hc, ←List.append_assoc, ←hg]
  refine zC (Wp.mono (Q:=fun s:Bool×List (Ty.El zA)=>s=(t.2.2.1.any (fun x=>lwB x.1 c.1),g)) ?_ (fun s hs2=> ?_))
  ·refine wM (xs:=t.2.2.1) (by omega) (fun j (s:Bool×List (Ty.El zA))=>s=((t.2.2.1.take j).any (fun x=>lwB x.1 c.1),g)) rfl ?_ (fun s hs2=>by rw [hs2,List.take_length])
   rintro j z s hz rfl
   have hany:(t.2.2.1.take (j+1)).any (fun x=>lwB x.1 c.1)=((t.2.2.1.take j).any (fun x=>lwB x.1 c.1)||lwB z.1 c.1):=by
    rw [List.take_add_one,hz,Option.toList_some,List.any_append];simp
   rw [hany]
   refine zF (fun h=>zB ?_) (fun h=> ?_)
   ·have h:(t.2.2.1.take j).any (fun x=>lwB x.1 c.1)=true:=h
    rw [h];rfl
   ·have h:(t.2.2.1.take j).any (fun x=>lwB x.1 c.1)=false:=h
    rw [h]
    simp only [zJ hz,Option.bind_some]
    unfold lwB
    refine zI (fun h2=> ?_) (fun h2=>zB ?_)
    ·have h2:c.1.2.1<z.1.2.1:=h2
     refine zC (qE (zAi _ _) (zB ?_))
     rw [decide_eq_true h2];rfl
    ·have h2: ¬c.1.2.1<z.1.2.1:=h2
     rw [decide_eq_false h2];rfl
  ·subst hs2
   unfold zNJ
   refine zF (fun h=> ?_) (fun h=>zB ⟨?_,rfl⟩)
   ·have h:t.2.2.1.any (fun x=>lwB x.1 c.1)=true:=h
    rw [h]
    exact zC (j9 (by simp only [List.length_singleton];omega) (zB ⟨rfl,rfl⟩))
   ·have h:t.2.2.1.any (fun x=>lwB x.1 c.1)=false:=h
    rw [h];simp
end Go.Ve

namespace Go.Ve
open Go
set_option maxRecDepth 1000000
set_option maxHeartbeats 4000000
def StS (s:List (Ty.El zS)):Prop:= ∀t,t∈s→zXk t∧((∀y,y∈t.1→RtS y)∧(∀y,y∈t.2.1→RtS y)∧(∀y,y∈t.2.2.1→RtS y)∧(∀y,y∈t.2.2.2.1→RtS y))
structure qBG (v:Ty.El zO) (s:List (Ty.El zS)):Prop where
 len:s.length=v.1.1.length
 short: ∀t,t∈s→t.1.length≤12∧t.2.1.length≤12∧t.2.2.1.length≤12∧t.2.2.2.1.length≤16
 ok: ∀t,t∈s→k6 t.1 3∧k6 t.2.1 4∧k6 t.2.2.1 5∧k6 t.2.2.2.1 0
theorem zTU (v:Ty.El zO) (s:List (Ty.El zS)) (hs:StS s) (hl:s.length≤1048576):Wp (zEl (v,s,())) (fun b=>b=true→ ∀t,t∈s→k6 t.1 3∧k6 t.2.1 4∧k6 t.2.2.1 5∧k6 t.2.2.2.1 0):=by
 unfold zEl
 dsimp only
 refine zF (fun _=>zB (fun h=>by cases h)) (fun _=> ?_)
 refine zBs (P:=fun t:Ty.El zS=>k6 t.1 3∧k6 t.2.1 4∧k6 t.2.2.1 5∧k6 t.2.2.2.1 0) (by omega) ?_ (fun h=>zB (fun _=>h))
 intro i t ht
 obtain ⟨⟨l1,l2,l3,l4⟩,r1,r2,r3,r4⟩:=hs t (List.mem_of_getElem? ht)
 simp only [zJ ht,Option.bind_some]
 refine zC (Wp.mono (Q:=fun b=>b=false→k6 t.1 3∧k6 t.2.1 4∧k6 t.2.2.1 5∧k6 t.2.2.2.1 0) ?_ (fun b hb=>zF (fun _=>zB (e2r (e2r (fun h=>by cases h)))) (fun h=>zB (e2l ⟨rfl,hb h⟩))))
 refine zC ((zIb t.1 3 l1 r1).mono (fun b1 h1=>zF (fun _=>zB (fun h=>by cases h)) (fun k1=> ?_)))
 refine zC ((zIb t.2.1 4 l2 r2).mono (fun b2 h2=>zF (fun _=>zB (fun h=>by cases h)) (fun k2=> ?_)))
 refine zC ((zIb t.2.2.1 5 l3 r3).mono (fun b3 h3=>zF (fun _=>zB (fun h=>by cases h)) (fun k3=> ?_)))
 refine zC ((zIb t.2.2.2.1 0 l4 r4).mono (fun b4 h4=>zB (fun k4=> ?_)))
 exact ⟨h1 (by simpa using k1),h2 (by simpa using k2),h3 (by simpa using k3),h4 (by simpa using k4)⟩
theorem zW9 (v:Ty.El zO) (s:List (Ty.El zS)) (hs:StS s) (hl:s.length≤1048576):Wp (zEr (v,s,())) (fun b=>b=true→qBG v s):=by
 unfold zEr
 dsimp only
 refine zF (fun _=>zB (fun h=>by cases h)) (fun hlen=> ?_)
 have hlen:s.length=v.1.1.length:=by
  have:(s.length:Int)=(v.1.1.length:Int):=by simpa [bne] using hlen
  omega
 refine zBs (P:=fun t:Ty.El zS=>t.1.length≤12∧t.2.1.length≤12∧t.2.2.1.length≤12∧t.2.2.2.1.length≤16) (by omega) ?_ (fun h=> ?_)
 ·intro i t ht
  simp only [zJ ht,Option.bind_some]
  refine zC (Wp.mono (Q:=fun b=>b=false→t.1.length≤12∧t.2.1.length≤12∧t.2.2.1.length≤12∧t.2.2.2.1.length≤16) ?_ (fun b hb=>zF (fun _=>zB (e2r (e2r (fun h=>by cases h)))) (fun h=>zB (e2l ⟨rfl,hb h⟩))))
  refine zI (fun _=>zB (fun h=>by cases h)) (fun k1=>zI (fun _=>zB (fun h=>by cases h)) (fun k2=>zI (fun _=>zB (fun h=>by cases h)) (fun k3=>zB (fun k4=> ?_))))
  have k4:=of_decide_eq_false k4
  exact ⟨by omega,by omega,by omega,by omega⟩
 ·exact zC ((zTU v s hs hl).mono (fun b hb=>zB (fun h2=>⟨hlen,h,hb h2⟩)))
theorem zWG {v:Ty.El zO} {t:Ty.El zS} {r:Int} {rt:Ty.El zD} {p:Ty.El zG} {x:Ty.El zA} (h:zS9 v t r rt p=some x):zRR v t r rt p=true∧x=zNr rt p 0 0:=by
 unfold zS9 at h
 cases hb:zRR v t r rt p with
 |false=>rw [hb] at h;cases h
 |true=>rw [hb] at h;exact ⟨rfl,(Option.some.inj h).symm⟩
theorem zW5 {t:Ty.El zS} {rt:Ty.El zD} {c:Ty.El xY} {x:Ty.El zA} (h:zNG t rt c=some x):x=zNr rt c.1 0 0:=by
 unfold zNG at h
 cases hb:(decide (uM (fun x:Ty.El zA=>j6 x.1 c.2.1) t.2.2.2.1< (0:Int))==c.2.2.1) with
 |false=>rw [hb] at h;cases h
 |true=>rw [hb] at h;exact (Option.some.inj h).symm
theorem zXj {t:Ty.El zS} {rt:Ty.El zD} {g:Ty.El jI} {x:Ty.El zA} (h:zNJ t rt g=some x):x=zXi rt g.1:=by
 unfold zNJ at h
 cases hb:t.2.2.1.any (fun x=>lwB x.1 g.1) with
 |false=>rw [hb] at h;cases h
 |true=>rw [hb] at h;exact (Option.some.inj h).symm
theorem zWx {rt:Ty.El zD} {l:List (Ty.El qN)} {y x:Ty.El zA} (h:zUC rt l y=some x): ∃d mt,d∈l∧zKr rt d y=some mt∧x=zNr rt y.1 mt.1 mt.2:=by
 unfold zUC at h
 cases ho:zJB y with
 |true=>rw [ho] at h;cases h
 |false=>
  rw [ho] at h
  simp only [cond_false] at h
  cases hf:l.find? (fun d=>d.1==y.2.1) with
  |none=>rw [hf] at h;cases h
  |some d=>
   rw [hf] at h
   simp only [Option.bind_some] at h
   unfold zPU at h
   cases hT:zKr rt d y with
   |none=>rw [hT] at h;cases h
   |some mt=>
    rw [hT] at h
    exact ⟨d,mt,List.mem_of_find?_eq_some hf,hT,(Option.some.inj h).symm⟩
theorem zWH {v:Ty.El zO} {t:Ty.El zS} {r:Int} {rt:Ty.El zD} {x:Ty.El zA} (h:x∈zDN v t r rt):
  (∃p,p∈rt.2.2.2.2.2.2.2.2.2.2.1.2.2.2.2.1∧x=zNr rt p 0 0)∨(∃c,c∈rt.2.2.2.2.2.2.2.2.2.2.1.2.2.2.2.2.2.1∧x=zNr rt c.1 0 0)∨
  (∃y d mt,y∈t.2.2.2.1∧d∈rt.2.2.2.2.2.2.2.2.2.2.1.2.2.2.2.2.2.2.1∧zKr rt d y=some mt∧x=zNr rt y.1 mt.1 mt.2)∨(∃g,g∈rt.2.2.2.2.2.2.2.2.2.2.1.2.2.2.2.2.1∧x=zXi rt g.1):=by
 unfold zDN at h
 rcases List.mem_append.1 h with h|h
 ·rcases List.mem_append.1 h with h|h
  ·rcases List.mem_append.1 h with h|h
   ·obtain ⟨p,hp,h⟩:=List.mem_filterMap.1 h
    exact .inl ⟨p,hp,(zWG h).2⟩
   ·obtain ⟨c,hc,h⟩:=List.mem_filterMap.1 h
    exact .inr (.inl ⟨c,hc,zW5 h⟩)
  ·obtain ⟨y,hy,h⟩:=List.mem_filterMap.1 h
   obtain ⟨d,mt,hd,hT,hx⟩:=zWx h
   exact .inr (.inr (.inl ⟨y,d,mt,hy,hd,hT,hx⟩))
 ·obtain ⟨g,hg,h⟩:=List.mem_filterMap.1 h
  exact .inr (.inr (.inr ⟨g,hg,zXj h⟩))
theorem zTf {v:Ty.El zO} {t:Ty.El zS} {r:Int} {rt:Ty.El zD} {x:Ty.El zA} (h:x∈zDN v t r rt):PvS x∧RtS x:=by
 have h1: ∀p m k,PvS (zNr rt p m k)∧RtS (zNr rt p m k):=fun p m k=>⟨⟨rfl,⟨show (0:Int)≤100 by decide,show (100:Int)≤1000000 by decide⟩,⟨show (0:Int)≤0 by decide,show (0:Int)<4294967296 by decide⟩⟩,⟨Nat.zero_le _,Nat.zero_le _⟩⟩
 have h2: ∀p,PvS (zXi rt p)∧RtS (zXi rt p):=fun p=>⟨⟨rfl,⟨show (0:Int)≤100 by decide,show (100:Int)≤1000000 by decide⟩,⟨show (0:Int)≤0 by decide,show (0:Int)<4294967296 by decide⟩⟩,⟨Nat.zero_le _,Nat.zero_le _⟩⟩
 rcases zWH h with ⟨_,_,rfl⟩|⟨_,_,rfl⟩|⟨_,_,_,_,_,_,rfl⟩|⟨_,_,rfl⟩
 ·exact h1 _ _ _
 ·exact h1 _ _ _
 ·exact h1 _ _ _
 ·exact h2 _
theorem zQe (n:Ty.El zZ) (d:List Int) (s:List (Ty.El zS)) (hs:StS s) (hsl:s.length≤1048576):Wp (zA2 (n,d,s,())) (fun b=>b=true):=by
 unfold zA2
 dsimp only
 refine zC ((zN5 n d).mono (fun y0 hy0=> ?_))
 refine zC ((show Wp _ (fun b:Bool=>b=false→zMx n d y0.1∧qBG y0.1 s) from ?_).mono (fun b hb=> ?_))
 ·refine zF (fun h=>zB (fun h=>by cases h)) (fun h1=> ?_)
  exact zC ((zW9 y0.1 s hs hsl).mono (fun b hb=>zB (fun h2=>⟨hy0 (by simpa using h1),hb (by simpa using h2)⟩)))
 refine zF (fun h=>zB rfl) (fun h=> ?_)
 obtain ⟨hv,hst⟩:=hb h
 have hS:=hv.s
 refine zBs (P:=fun _=>True) (by omega) ?_ (fun _=>zC (qE rfl (zB rfl)))
 intro r t ht
 have hrl:=(List.getElem?_eq_some_iff.1 ht).1
 have hlen:=hst.len
 obtain ⟨rt,hr⟩: ∃rt,y0.1.1.1[r]? =some rt:=⟨_,List.getElem?_eq_getElem (by omega)⟩
 have hrn:rt∈n.1:=by rw [←hv.net];exact List.mem_of_getElem? hr
 have hok:=(qAP hv).rt rt hrn
 have hsm:=hS.sm rt (List.mem_of_getElem? hr)
 have htm:=List.mem_of_getElem? ht
 have hT:=(hs t htm).1
 have hsh:=hst.short t htm
 simp only [zJ ht,Option.bind_some]
 refine zC ((xL y0.1 t r rt hS hr hT).mono (fun o ho=> ?_))
 refine zC ((zLF y0.1 t r rt hS hr hT hok.sts (fun hon=>qAJ hok hsm hon)).mono (fun o' ho'=> ?_))
 rw [←ho] at ho'
 subst ho'
 refine zC (qE (zRu o' ?_ ?_) (ff rfl (zB (e2l ⟨rfl,trivial⟩))))
 ·rw [ho]
  have:=zOQ (v:=y0.1) (t:=t) (r:=r) hsm
  cases rt.2.2.2.2.2.2.2.2.2.2.1.1
  ·exact Nat.zero_le _
  ·show (zDN y0.1 t r rt).length≤_
   omega
 ·intro x hx
  rw [ho] at hx
  cases hon:rt.2.2.2.2.2.2.2.2.2.2.1.1 with
  |false=>rw [hon] at hx;cases hx
  |true=>
   rw [hon] at hx
   exact (zTf hx).2
theorem zYC {s:List (Ty.El zS)} (h: ∀t∈s,Ty.fits 1048576 zS t):StS s:=fun t ht=>by
 obtain ⟨⟨a1,a2⟩,⟨b1,b2⟩,⟨c1,c2⟩,⟨d1,d2⟩,_⟩:=h t ht
 exact ⟨⟨a1,b1,c1,d1⟩,fun y hy=>zHR (a2 y hy),fun y hy=>zHR (b2 y hy),fun y hy=>zHR (c2 y hy),fun y hy=>zHR (d2 y hy)⟩
theorem zIK: ∀x:ElS [zZ, .sl tI, .sl zS],zV1 1048576 [zZ, .sl tI, .sl zS] x→zA2 x=some true:=by
 rintro ⟨n,d,s,⟨⟩⟩ ⟨_,_,⟨h1,h2⟩,_⟩
 exact wK (zQe n d s (zYC h2) h1)
end Go.Ve

namespace Go.Ve
open Go
set_option maxRecDepth 1000000
set_option maxHeartbeats 4000000
def ifS (nm:ByteArray) (a:Int) (dv:Bool):Ty.El qC:=(nm,a,24,0,false,false,0,0,dv,⟨#[]⟩,⟨#[]⟩,0,())
def rtS (nm:ByteArray) (sy:Int) (ifs:List (Ty.El qC)) (dv:Ty.El tDV) (pv:Ty.El tPV):Ty.El zD:=(nm,sy,ifs,[],[],[],[],[],(false,0,[],[],()),dv,pv,())
def qBB:Ty.El tDV:=(true,120,⟨#[]⟩,⟨#[]⟩,[],())
def qBs:Ty.El tPV:=(false,0,0,[],[],[],[],[],())
def qBR:Ty.El zD:=rtS ⟨#[97]⟩ 0 [ifS ⟨#[101,48]⟩ 167772161 true] qBB qBs
def qBQ:Ty.El zD:=rtS ⟨#[98]⟩ 0 [ifS ⟨#[101,48]⟩ 167772162 true,ifS ⟨#[101,49]⟩ 167772418 true] qBB qBs
def qAM:Ty.El zZ:=([qBR,qBQ],())
def zXz:Ty.El zKd:=([((167772160,24,()),0,[(0,0,()),(1,0,())],()),((167772416,24,()),0,[(1,1,())],())],[0],())
def qAz:Ty.El zO:=(qAM,zXz,[],())
theorem zRq {nm:ByteArray} {sy:Int} {ifs:List (Ty.El qC)} {dv:Ty.El tDV} {pv:Ty.El tPV} (h1:ifs.length≤20) (h2:dv.2.2.2.2.1.length≤20) (h3:pv.2.2.2.1.length≤20) (h4:pv.2.2.2.2.1.length≤20) (h5:pv.2.2.2.2.2.1.length≤20) (h6:pv.2.2.2.2.2.2.1.length≤20) (h7:pv.2.2.2.2.2.2.2.1.length≤20):SmR (rtS nm sy ifs dv pv) where
 i1:=h1
 i2:=Nat.zero_le _
 i3:=Nat.zero_le _
 i4:=Nat.zero_le _
 i5:=Nat.zero_le _
 i6:=Nat.zero_le _
 i7:=Nat.zero_le _
 i8:=Nat.zero_le _
 i9:=h2
 i10:=h3
 i11:=h4
 i12:=h5
 i13:=h6
 i14:=h7
 n1:=fun y hy=>by cases hy
 n2:=fun y hy=>by cases hy
 n3:=fun y hy=>by cases hy
theorem zHO:zAC qAz where
 rs:=by decide
 sm:=fun y hy=>by
  rcases List.mem_cons.1 hy with rfl|hy
  ·exact zRq (by decide) (by decide) (by decide) (by decide) (by decide) (by decide) (by decide)
  ·rcases List.mem_cons.1 hy with rfl|hy
   ·exact zRq (by decide) (by decide) (by decide) (by decide) (by decide) (by decide) (by decide)
   ·cases hy
 doms:=by decide
 ends := fun d hd => by
  rcases List.mem_cons.1 hd with rfl|hd
  ·decide
  ·rcases List.mem_cons.1 hd with rfl|hd
   ·decide
   ·cases hd
 links:=by decide
 link0:=fun l hl=>by
  rcases List.mem_cons.1 hl with rfl|hl
  ·decide
  ·cases hl
 down:=by decide
 down0:=fun l hl=>by cases hl
end Go.Ve

namespace Go.Ve
open Go
set_option maxRecDepth 1000000
set_option maxHeartbeats 4000000
structure zPG (v:Ty.El zO):Prop where
 p:zRe v
 maps: ∀r,r∈v.1.1→zEM r
 adr: ∀r,r∈v.1.1→ ∀x,x∈r.2.2.1→0≤x.2.1∧x.2.1<4294967296
def zD5 (x:Ty.El zA):Prop:=0≤x.2.2.2.2.2.2.2.1∧x.2.2.2.2.2.2.2.1≤1000000
structure qAg (t:Ty.El zS):Prop where
 s:zXk t
 pv:t.2.2.1.length≤12
 rib:t.2.2.2.1.length≤16
 rt: ∀y,y∈t.2.2.1→RtS y∧zD5 y
theorem zRt {v:Ty.El zO} (hv:zPG v) {s:Ty.El zW} (h:s∈zM9 v):
  ∃ (qn kn r i:Nat) (int:Bool) (q rt:Ty.El zD) (y z:Ty.El qC),s=((qn:Int),(kn:Int),(r:Int),(i:Int),int,())∧v.1.1[qn]? =some q∧q.2.2.1[kn]? =some y∧v.1.1[r]? =some rt∧rt.2.2.1[i]? =some z∧zEM q∧zEM rt∧(0≤y.2.1∧y.2.1<4294967296):=by
 obtain ⟨r,i,rt,z,e,q,y,hrt,hz,hon,he,hq,hy,hb,rfl⟩:=zYh.1 h
 obtain ⟨u1,u2,u3⟩:=zVX he
 obtain ⟨b0,b1,_⟩:=hv.p.ends _ _ _ u1 u2
 obtain ⟨e1,e2,⟨⟩⟩:=e
 obtain ⟨qn,rfl⟩:=Int.eq_ofNat_of_zero_le (show (0:Int)≤e1 from b0)
 obtain ⟨kn,rfl⟩:=Int.eq_ofNat_of_zero_le (show (0:Int)≤e2 from b1)
 have hq:v.1.1[qn]? =some q:=hq
 have hy:q.2.2.1[kn]? =some y:=hy
 exact ⟨qn,kn,r,i,_,q,rt,y,z,rfl,hq,hy,hrt,hz,hv.maps q (List.mem_of_getElem? hq),hv.maps rt (List.mem_of_getElem? hrt),hv.adr q (List.mem_of_getElem? hq) y (List.mem_of_getElem? hy)⟩
theorem zVT {v:Ty.El zO} {t:List (Ty.El zA)} {qn kn r i:Nat} {int:Bool} {q rt:Ty.El zD} {y z:Ty.El qC} (hq:v.1.1[qn]? =some q) (hy:q.2.2.1[kn]? =some y) (hr:v.1.1[r]? =some rt) (hz:rt.2.2.1[i]? =some z):
  zJq v t ((qn:Int),(kn:Int),(r:Int),(i:Int),int,())=t.filterMap (fun x=>(zRX q z.2.1 int x).bind (zUR rt y.2.1 (i:Int) int)):=by
 unfold zJq
 simp only [Int.toNat_natCast,hq,hr,hy,hz]
theorem zY6 {r:Ty.El zD} {nm:Ty.El .str} {x y:Ty.El zA} (hm:zEM r) (hx:zD5 x) (h:zIJ r nm x=some y):zD5 y:=by
 unfold zIJ at h
 cases hn:(nm==({ data:= #[] } :ByteArray)) with
 |true=>
  rw [hn] at h
  rw [←Option.some.inj h]
  exact hx
 |false=>
  rw [hn] at h
  simp only [cond_false] at h
  cases hp:zD8 r nm x with
  |none=>rw [hp] at h;cases h
  |some c=>
   rw [hp] at h
   rw [←Option.some.inj h]
   have hc:qBg c:=by
    unfold zD8 at hp
    cases ha:zMr r nm x with
    |none=>rw [ha] at hp;cases hp
    |some c'=>
     rw [ha] at hp
     simp only at hp
     cases hc1:c'.1 with
     |false=>rw [hc1] at hp;cases hp
     |true=>
      rw [hc1] at hp
      rw [←Option.some.inj hp]
      exact zWa hm ha
   have h1: -1≤c.2.2.2.2.2.1∧c.2.2.2.2.2.1≤1000000:=hc.pref
   unfold zD5 zZw
   simp only
   have aux: ∀a b:Int,(-1≤a∧a≤1000000)→(0≤b∧b≤1000000)→(0≤(bif a==(-1:Int) then b else a)∧(bif a==(-1:Int) then b else a)≤1000000):=by
    intro a b ha hb
    cases hab:(a==(-1:Int)) with
    |true=>exact hb
    |false=>
     have:a≠ -1:=by simpa using hab
     simp only [cond_false]
     omega
   exact aux _ _ h1 hx
theorem zYG {q:Ty.El zD} {a:Int} {int:Bool} {x m:Ty.El zA} (hm:zEM q) (hx:RtS x) (hp:zD5 x) (h:zRX q a int x=some m):RtS m∧zD5 m:=by
 obtain ⟨_,h1,h2⟩:=zYF hm h
 refine ⟨⟨?_,by rw [h2];exact Nat.zero_le _⟩,?_⟩
 ·rcases h1 with ⟨_,h1⟩|⟨_,k,_,h1,h3⟩
  ·rw [h1];exact hx.path
  ·rw [h1,List.length_append,List.length_replicate];omega
 ·unfold zRX at h
  cases hh:(x.2.2.1==(4:Int)&&int)||zUS q x.1 with
  |true=>rw [hh] at h;cases h
  |false=>
   rw [hh] at h
   simp only [cond_false] at h
   cases hn:zHh q.2.2.2.2.2.2.2.2.2.2.1.2.2.2.1 a with
   |none=>rw [hn] at h;cases h
   |some nb=>
    rw [hn] at h
    simp only at h
    cases int with
    |true=>
     simp only [cond_true] at h
     cases ha:zIJ q nb.2.2.2.1 x with
     |none=>rw [ha] at h;cases h
     |some y=>
      rw [ha] at h
      rw [←Option.some.inj h]
      exact (zY6 hm hp ha:zD5 y)
    |false=>
     simp only [cond_false] at h
     cases ha:zIJ q nb.2.2.2.1 (zJl x 0) with
     |none=>rw [ha] at h;cases h
     |some y=>
      rw [ha] at h
      simp only at h
      cases hd:decide (1+zPV q nb.2.2.2.1 (zJl x 0)+(x.2.2.2.2.2.2.2.2.1.length:Int)>(64:Int)) with
      |true=>rw [hd] at h;cases h
      |false=>
       rw [hd] at h
       rw [←Option.some.inj h]
       exact ⟨show (0:Int)≤100 by decide,show (100:Int)≤1000000 by decide⟩
theorem qAX {rt:Ty.El zD} {a i:Int} {int:Bool} {m y:Ty.El zA} (hm:zEM rt) (ha:0≤a∧a<4294967296) (hx:RtS m) (hp:zD5 m) (h:zUR rt a i int m=some y):PvS y∧RtS y:=by
 unfold zUR at h
 cases hh:m.2.2.2.2.2.2.2.2.1.any (fun x=>x==rt.2.1) with
 |true=>rw [hh] at h;cases h
 |false=>
  rw [hh] at h
  simp only [cond_false] at h
  cases hn:zHh rt.2.2.2.2.2.2.2.2.2.2.1.2.2.2.1 a with
  |none=>rw [hn] at h;cases h
  |some nb=>
   rw [hn] at h
   simp only at h
   cases hr:zIJ rt nb.2.2.1 m with
   |none=>rw [hr] at h;cases h
   |some w=>
    rw [hr] at h
    rw [←Option.some.inj h]
    exact ⟨⟨rfl,(zY6 hm hp hr:zD5 w),ha⟩,⟨hx.path,show 1≤1048576 by decide⟩⟩
theorem zZH {v:Ty.El zO} (hv:zPG v) {t:List (Ty.El zA)} (ht: ∀y,y∈t→RtS y∧zD5 y) {s:Ty.El zW} (h:s∈zM9 v) {x:Ty.El zA} (hx:x∈zJq v t s):PvS x∧RtS x:=by
 obtain ⟨qn,kn,r,i,int,q,rt,y,z,rfl,hq,hy,hr,hz,hmq,hmr,ha⟩:=zRt hv h
 rw [zVT hq hy hr hz] at hx
 obtain ⟨w,hw,hx⟩:=List.mem_filterMap.1 hx
 obtain ⟨m,h1,h2⟩:=Option.bind_eq_some_iff.1 hx
 obtain ⟨e1,e2⟩:=zYG hmq (ht w hw).1 (ht w hw).2 h1
 exact qAX hmr ha e1 e2 h2
theorem zEC (v:Ty.El zO) (hv:zPG v) (s:Ty.El zW) (h:s∈zM9 v) (t:List (Ty.El zA)) (hl:t.length≤1048576) (ht: ∀y,y∈t→RtS y∧zD5 y):
  Wp (uR (v,s,t,())) (fun l=>l=zJq v t s):=by
 obtain ⟨qn,kn,r,i,int,q,rt,y,z,rfl,hq,hy,hr,hz,hmq,hmr,ha⟩:=zRt hv h
 rw [zVT hq hy hr hz]
 unfold uR
 dsimp only
 refine zC (wM (xs:=t) (by omega) (fun j (g:List (Ty.El zA))=>g=(t.take j).filterMap (fun x=>(zRX q z.2.1 int x).bind (zUR rt y.2.1 (i:Int) int))) (by simp) ?_ (fun g hg=>zB (by rw [hg,List.take_length])))
 intro j x g hx hg
 have hgl:g.length≤1048576:=by rw [hg];exact Nat.le_trans (List.length_filterMap_le _ _) (Nat.le_trans (List.length_take_le' _ _) hl)
 simp only [zJ hx,Option.bind_some]
 rw [jF hx, ←hg]
 obtain ⟨x1,x2⟩:=ht x (List.mem_of_getElem? hx)
 refine zC ((zFy v hv.p qn kn r i int q rt z hq hr hz hmq x x1).mono (fun m hm=> ?_))
 rcases zS3 hm with ⟨h1,h2⟩|⟨h1,h2⟩
 ·refine tt (by rw [h1];rfl) (zB ?_)
  rw [h2];simp
 ·obtain ⟨e1,e2⟩:=zYG hmq x1 x2 h2
  refine ff (by rw [h1];rfl) (zC ((zFx v hv.p qn kn r (i:Int) int q rt y hq hy hr m.1 e1).mono (fun w hw=> ?_)))
  rw [h2,Option.bind_some]
  rcases zS3 hw with ⟨h3,h4⟩|⟨h3,h4⟩
  ·refine ff h3 (zB ?_)
   rw [h4];simp
  ·refine tt h3 (zC (j9 (by simp only [List.length_singleton];omega) (zB ?_)))
   rw [h4];rfl
theorem zSR {v:Ty.El zO} {r:Nat} {x:Ty.El zW} (hr:r<v.1.1.length) (h:x∈zJm v r):x∈zM9 v:=by
 unfold zM9
 exact List.mem_flatMap.2 ⟨r,List.mem_range.2 hr,h⟩
theorem zXN {v:Ty.El zO} {r i:Nat} {rt:Ty.El zD} {x:Ty.El zW} (hr:v.1.1[r]? =some rt) (hi:i<rt.2.2.1.length) (h:x∈zEZ v r rt i):x∈zJm v r:=by
 unfold zJm
 rw [hr]
 exact List.mem_flatMap.2 ⟨i,List.mem_range.2 hi,h⟩
theorem zXL {v:Ty.El zO} (hv:zPG v) {s:Ty.El zW} (h:s∈zM9 v): ∃qn:Nat,s.1=(qn:Int)∧qn<v.1.1.length:=by
 obtain ⟨qn,kn,r,i,int,q,rt,y,z,rfl,hq,_⟩:=zRt hv h
 exact ⟨qn,rfl,(List.getElem?_eq_some_iff.1 hq).1⟩
theorem zZG {v:Ty.El zO} (hv:zPG v) {s:List (Ty.El zS)} (hs: ∀t,t∈s→qAg t) {r:Nat} (hr:r<v.1.1.length) {x:Ty.El zA} (hx:x∈zWy v s r):PvS x∧RtS x:=by
 obtain ⟨w,hw,hx⟩:=List.mem_flatMap.1 hx
 refine zZH hv ?_ (zSR hr hw) hx
 intro y hy
 unfold zKv at hy
 split at hy
 ·rename_i t ht
  exact (hs t (List.mem_of_getElem? ht)).rt y hy
 ·cases hy
theorem zGy (v:Ty.El zO) (hv:zPG v) (s:List (Ty.El zS)) (hlen:s.length=v.1.1.length) (hs: ∀t,t∈s→qAg t) (r:Nat) (rt:Ty.El zD) (t:Ty.El zS) (hr:v.1.1[r]? =some rt) (ht:s[r]? =some t):
  Wp (zAp (v,s,(r:Int),())) (fun o=>o=bif rt.2.2.2.2.2.2.2.2.2.2.1.1 then zBa (zDN v t r rt++zWy v s r) else []):=by
 unfold zAp
 dsimp only
 have hrl:=(List.getElem?_eq_some_iff.1 hr).1
 have hV:=hv.p.s
 have hsm:=hV.sm rt (List.mem_of_getElem? hr)
 have hT:=hs t (List.mem_of_getElem? ht)
 have n1:rt.2.2.1.length≤20:=hsm.i1
 refine zC (Wp.mono (Q:=fun s=>s= !rt.2.2.2.2.2.2.2.2.2.2.1.1) ?_ (fun s2 hs2=> ?_))
 ·have q0: ¬((r:Int)<0):=by omega
  have q1: ¬((r:Int)≥(List.length v.1.1:Int)):=by omega
  have q2: ¬((r:Int)≥(List.length s:Int)):=by omega
  refine zI (fun h=>absurd h q0) (fun _=>zI (fun h=>absurd h q1) (fun _=>zI (fun h=>absurd h q2) (fun _=> ?_)))
  simp only [zJ hr,Option.bind_some]
  exact zB rfl
 subst hs2
 cases hon:rt.2.2.2.2.2.2.2.2.2.2.1.1 with
 |false=>exact tt rfl (zB rfl)
 |true=>
  refine ff rfl ?_
  simp only [zJ hr,zJ ht,Option.bind_some,cond_true]
  refine zC ((xL v t r rt hV hr hT.s).mono (fun y6 h6=> ?_))
  rw [hon] at h6
  simp only [cond_true] at h6
  have hl6:y6.length≤76:=by
   have:=zOQ (v:=v) (t:=t) (r:=r) hsm
   have h16:=hT.rib
   rw [h6];omega
  have hpv: ∀k,(zKv s k).length≤12:=by
   intro k
   unfold zKv
   split
   ·rename_i t0 h0
    exact (hs t0 (List.mem_of_getElem? h0)).pv
   ·exact Nat.zero_le _
  have hrI: ∀k,((zEZ v r rt k).flatMap (fun x=>zJq v (zKv s x.1) x)).length≤4320:=by
   intro k
   have h1:=kW (xs:=zEZ v r rt k) (f:=fun x=>zJq v (zKv s x.1) x) (k:=12) (fun x _=>Nat.le_trans zOq (hpv _))
   have h2:=zG2 hV r rt k
   omega
  have hrA: ∀m,m≤20→((List.range m).flatMap (fun k=>(zEZ v r rt k).flatMap (fun x=>zJq v (zKv s x.1) x))).length≤86400:=by
   intro m hm
   have h1:=kW (xs:=List.range m) (f:=fun k=>(zEZ v r rt k).flatMap (fun x=>zJq v (zKv s x.1) x)) (k:=4320) (fun k _=>hrI k)
   rw [List.length_range] at h1
   omega
  refine zC (wM (xs:=rt.2.2.1) (by omega) (fun i (g:List (Ty.El zA))=>g=y6++(List.range i).flatMap (fun k=>(zEZ v r rt k).flatMap (fun x=>zJq v (zKv s x.1) x))) (by simp) ?_ (fun s102 h102=> ?_))
  ·intro i z g hz hg
   have hi:=(List.getElem?_eq_some_iff.1 hz).1
   have hgl:g.length≤86476:=by
    have:=hrA i (by omega)
    rw [hg,List.length_append];omega
   refine zC ((xC v hv.p r i rt z hr hz).mono (fun y94 h94=> ?_))
   have hl94:y94.length≤360:=by rw [h94];exact zG2 hV r rt i
   rw [List.range_succ,List.flatMap_append, ←List.append_assoc, ←hg]
   refine wM (xs:=y94) (by omega) (fun j (w:List (Ty.El zA))=>w=g++(y94.take j).flatMap (fun x=>zJq v (zKv s x.1) x)) (by simp) ?_ (fun w hw=> ?_)
   ·intro j x w hx hw
    have hwl:w.length≤90796:=by
     have h1:=kW (xs:=y94.take j) (f:=fun x=>zJq v (zKv s x.1) x) (k:=12) (fun x _=>Nat.le_trans zOq (hpv _))
     have h2:=List.length_take_le' j y94
     rw [hw,List.length_append];omega
    have hxm:x∈zM9 v:=zSR hrl (zXN hr hi (by rw [←h94];exact List.mem_of_getElem? hx))
    obtain ⟨qn,hq1,hq2⟩:=zXL hv hxm
    obtain ⟨t0,ht0⟩: ∃t0,s[qn]? =some t0:=⟨_,List.getElem?_eq_getElem (by omega)⟩
    have hT0:=hs t0 (List.mem_of_getElem? ht0)
    have hpe:zKv s x.1=t0.2.2.1:=by
     unfold zKv
     rw [hq1,Int.toNat_natCast,ht0]
    simp only [zJ hx,Option.bind_some]
    rw [zFX hx, ←List.append_assoc, ←hw,hpe]
    have hlt:(qn:Int)< (s.length:Int):=by omega
    refine tt (decide_eq_true (by rw [hq1];exact hlt)) ?_
    rw [hq1]
    simp only [zJ ht0,Option.bind_some]
    have hpl:=hT0.pv
    refine zC ((zEC v hv x hxm t0.2.2.1 (by omega) hT0.rt).mono (fun l hl=> ?_))
    have hll:l.length≤12:=by rw [hl];exact Nat.le_trans zOq hpl
    refine zC (j9 (by omega) (zB ?_))
    rw [hl]
   ·rw [hw,List.take_length,h94];simp
  ·have hrec:zWy v s r=(List.range rt.2.2.1.length).flatMap (fun k=>(zEZ v r rt k).flatMap (fun x=>zJq v (zKv s x.1) x)):=by
    unfold zWy zJm
    rw [hr]
    simp only
    rw [List.flatMap_assoc]
   rw [←hrec] at h102
   have hrl2:(zWy v s r).length≤86400:=by rw [hrec];exact hrA _ n1
   have hall: ∀x,x∈s102→PvS x∧RtS x:=by
    intro x hx
    rw [h102] at hx
    rcases List.mem_append.1 hx with hx|hx
    ·rw [h6] at hx;exact zTf hx
    ·exact zZG hv hs hrl hx
   refine zC ((zLD s102 (by rw [h102,List.length_append];omega) (fun x hx=>(hall x hx).2) (fun x y hx hy=>zJe x y (hall x hx).1 (hall y hy).1)).mono (fun o ho=>zB ?_))
   rw [ho,h102,h6]
end Go.Ve

namespace Go.Ve
open Go
set_option maxRecDepth 1000000
set_option maxHeartbeats 4000000
def qBA:Ty.El tDV:=(false,0,⟨#[]⟩,⟨#[]⟩,[],())
def qBT:Ty.El tPV:=(true,20,200,[(167772162,2,⟨#[]⟩,⟨#[]⟩,())],[],[],[],[],())
def qBS:Ty.El tPV:=(true,20,200,[(167772161,1,⟨#[]⟩,⟨#[]⟩,())],[(167772416,24,())],[],[],[],())
def zZJ:Ty.El zD:=rtS ⟨#[97]⟩ 1 [ifS ⟨#[101,48]⟩ 167772161 false] qBA qBT
def zZI:Ty.El zD:=rtS ⟨#[98]⟩ 2 [ifS ⟨#[101,48]⟩ 167772162 false,ifS ⟨#[101,49]⟩ 167772418 false] qBA qBS
def qAL:Ty.El zZ:=([zZJ,zZI],())
def k7:Ty.El zO:=(qAL,zXz,[],())
def zSx:Ty.El zS:=([],[],[],[],())
def l20:List (Ty.El zA):=[((167772416,24,()),5,1,200,0,0,0,100,[],0,0,[],false,())]
def s20:List (Ty.El zS):=[zSx,([],[],l20,[],())]
def t20:List (Ty.El zA):=[((167772416,24,()),5,3,20,0,0,0,100,[2],167772162,0,[(0,167772162,())],false,())]
def e20:List (Ty.El zW):=[(1,0,0,0,false,()),(0,0,1,0,false,())]
theorem zZV {P:Ty.El zD→Prop} (ha:P zZJ) (hb:P zZI): ∀r,r∈k7.1.1→P r:=by
 intro r hr
 rcases List.mem_cons.1 hr with rfl|hr
 ·exact ha
 ·rcases List.mem_cons.1 hr with rfl|hr
  ·exact hb
  ·cases hr
theorem zVH:zAC k7 where
 rs:=by decide
 sm:=zZV (zRq (by decide) (by decide) (by decide) (by decide) (by decide) (by decide) (by decide)) (zRq (by decide) (by decide) (by decide) (by decide) (by decide) (by decide) (by decide))
 doms:=zHO.doms
 ends := zHO.ends
 links:=zHO.links
 link0:=zHO.link0
 down:=zHO.down
 down0:=zHO.down0
theorem zYT {r i:Int} {e:Ty.El zQ} (he:e∈zCU k7 r i):
  (zCU k7 r i=[(0,0,()),(1,0,())]∨zCU k7 r i=[(1,1,())]):=by
 unfold zCU at he ⊢
 split at he
 ·rename_i d hd
  have hd:=List.mem_of_getElem? hd
  rcases List.mem_cons.1 hd with rfl|hd
  ·exact .inl rfl
  ·rcases List.mem_cons.1 hd with rfl|hd
   ·exact .inr rfl
   ·cases hd
 ·cases he
theorem zVI:zRe k7 where
 s:=zVH
 nb:=zZV (fun i j x y hj hx _=>by
  have:i<1:=(List.getElem?_eq_some_iff.1 hx).1
  omega) (fun i j x y hj hx _=>by
  have:i<1:=(List.getElem?_eq_some_iff.1 hx).1
  omega)
 ends := fun r i e _ he => by
  rcases zYT he with h|h
  ·rw [h] at he
   rcases List.mem_cons.1 he with rfl|he
   ·exact ⟨by decide,by decide,_,_,rfl,rfl⟩
   ·rcases List.mem_cons.1 he with rfl|he
    ·exact ⟨by decide,by decide,_,_,rfl,rfl⟩
    ·cases he
  ·rw [h] at he
   rcases List.mem_cons.1 he with rfl|he
   ·exact ⟨by decide,by decide,_,_,rfl,rfl⟩
   ·cases he
 own:=fun r i=>by
  unfold zNq
  cases hu:upB k7 r i with
  |false=>rfl
  |true=>
   simp only [cond_true]
   have ho:=zYS hu
   refine List.filter_congr (fun e he=> ?_)
   cases h1:(e.1 !=r) with
   |true=>rfl
   |false=>
    have h1:e.1=r:=by simpa [bne] using h1
    have h2:e.2.1=i:=by
     rcases zYT he with h|h
     ·rw [h] at he ho
      rcases List.mem_cons.1 he with rfl|he
      ·rcases List.mem_cons.1 ho with ho|ho
       ·exact (congrArg (fun e:Ty.El zQ=>e.2.1) ho).symm
       ·rcases List.mem_cons.1 ho with ho|ho
        ·have h3:r=1:=congrArg (fun e:Ty.El zQ=>e.1) ho
         have h1:(0:Int)=r:=h1
         omega
        ·cases ho
      ·rcases List.mem_cons.1 he with rfl|he
       ·rcases List.mem_cons.1 ho with ho|ho
        ·have h3:r=0:=congrArg (fun e:Ty.El zQ=>e.1) ho
         have h1:(1:Int)=r:=h1
         omega
        ·rcases List.mem_cons.1 ho with ho|ho
         ·exact (congrArg (fun e:Ty.El zQ=>e.2.1) ho).symm
         ·cases ho
       ·cases he
     ·rw [h] at he ho
      rcases List.mem_cons.1 he with rfl|he
      ·rcases List.mem_cons.1 ho with ho|ho
       ·exact (congrArg (fun e:Ty.El zQ=>e.2.1) ho).symm
       ·cases ho
      ·cases he
    rw [h2]
    simp
theorem zZp:zPG k7 where
 p:=zVI
 maps:=zZV (fun m hm=>by cases hm) (fun m hm=>by cases hm)
 adr:=zZV (fun x hx=>by
  rcases List.mem_cons.1 hx with rfl|hx
  ·exact ⟨by decide,by decide⟩
  ·cases hx) (fun x hx=>by
  rcases List.mem_cons.1 hx with rfl|hx
  ·exact ⟨by decide,by decide⟩
  ·rcases List.mem_cons.1 hx with rfl|hx
   ·exact ⟨by decide,by decide⟩
   ·cases hx)
theorem qBj:qAg zSx:=⟨⟨by decide,by decide,by decide,by decide⟩,by decide,by decide,fun y hy=>by cases hy⟩
theorem qBk: ∀t,t∈s20→qAg t:=by
 intro t ht
 rcases List.mem_cons.1 ht with rfl|ht
 ·exact qBj
 ·rcases List.mem_cons.1 ht with rfl|ht
  ·refine ⟨⟨by decide,by decide,by decide,by decide⟩,by decide,by decide,fun y hy=> ?_⟩
   rcases List.mem_cons.1 hy with rfl|hy
   ·exact ⟨⟨by decide,by decide⟩,⟨by decide,by decide⟩⟩
   ·cases hy
  ·cases ht
theorem zYk:zDN k7 zSx 1 zZI=l20:=by kernel_rfl
theorem zYl:zBa (zDN k7 zSx 0 zZJ++zWy k7 s20 0)=t20:=by kernel_rfl
theorem qAE:zM9 k7=e20:=by kernel_rfl
theorem zZQ:wZ (k7,zSx,1,())=some l20:=by
 refine wK ((xL k7 zSx 1 zZI zVH rfl qBj.s).mono (fun o ho=> ?_))
 rw [ho]
 exact zYk
theorem zZt:zAp (k7,s20,0,())=some t20:=by
 refine wK ((zGy k7 zZp s20 rfl qBk 0 zZJ zSx rfl rfl).mono (fun o ho=> ?_))
 rw [ho]
 exact zYl
theorem zUw:uT (k7,())=some e20:=by
 refine wK ((zEE k7 zVI).mono (fun o ho=> ?_))
 rw [ho]
 exact qAE
end Go.Ve

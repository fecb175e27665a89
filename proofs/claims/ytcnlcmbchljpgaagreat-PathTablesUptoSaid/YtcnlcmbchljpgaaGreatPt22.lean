/-
  Plain laws: the routes of one prefix are merged.
  Plain laws: the program's merging is the document's.
  Plain laws: the tables of distance-vector routing.
  Plain laws: the document's distance-vector tables.
  Plain laws of path-vector routing: sessions.
  PathSessions: the law answers true.
  Plain laws of path-vector routing: what is told and what is made of it.
  PathLoops, PathSplit: the laws answer true.
  Plain laws of path-vector routing: what the document's Export and Import answer.
  Plain laws: what a router makes of its neighbors' path-vector tables.
  Plain laws: what the checks say of redistribution and of the prefixes that path-vector routing originates.
  Plain laws: redistribution into path-vector routing; both sides answer the same list.
  Plain laws: the routes that a router originates; both sides answer the same list.
  Plain laws: states of a view; PathLocal.
-/
import Derived.Test.YtcnlcmbchljpgaaGreatPt18
import Derived.Test.YtcnlcmbchljpgaaGreatPt14
import Derived.Test.YtcnlcmbchljpgaaGreatPt19
set_option linter.unusedVariables false
namespace Go.Ve
open Go
set_option maxRecDepth 1000000
set_option maxHeartbeats 4000000
theorem zSe {l l':List (Ty.El zB)} {p:Ty.El zG} (h:zAS p l=zAS p l'):mrg l p=mrg l' p:=by
 have hm: ∀x,(x∈l∧x.1=p)↔(x∈l'∧x.1=p):=fun x=>by rw [←zD2, ←zD2,h]
 unfold mrg
 have hb:zCW l p=zCW l' p:=by
  rw [zEH,zEH,h]
 rw [hb]
 cases zCW l' p with
 |none=>rfl
 |some b=>
  have hh:zBt l p b=zBt l' p b:=zDZ zL6 (zBe _ _ _) (zBe _ _ _) (fun h'=>by
   rw [zEu,zEu]
   exact ⟨fun ⟨x,hx,e,k⟩=>⟨x,((hm x).1 ⟨hx,e⟩).1,e,k⟩,fun ⟨x,hx,e,k⟩=>⟨x,((hm x).2 ⟨hx,e⟩).1,e,k⟩⟩)
  rw [aU,aU,hh]
theorem zLU (p:Ty.El zG) (a b:List (Ty.El zB)):zAS p (a++b)=zAS p a++zAS p b:=by
 unfold zAS zNf
 exact dR _ _
theorem zP6 {p:Ty.El zG} {l:List (Ty.El zB)} (h: ∀x,x∈l→x.1≠p):zAS p l=[]:=by
 unfold zAS zNf
 rw [List.filter_eq_nil_iff]
 intro x hx
 simpa using h x hx
theorem zYj {p:Ty.El zG} {l:List (Ty.El zB)} (h: ∀x,x∈l→x.1=p):zAS p l=l:=by
 unfold zAS zNf
 rw [List.filter_eq_self]
 intro x hx
 simpa using h x hx
theorem zW4 {l:List (Ty.El zB)} {c:Option (Ty.El zB)} {i:Nat} {x:Ty.El zB} (h:l[i]? =some x):zMx c (l.take (i+1))=(bif zTP x (zMx c (l.take i)) then some x else zMx c (l.take i)):=by
 unfold zMx
 rw [b9,h,cQ,List.foldl_append]
 rfl
def zL5 (b:Ty.El zB) (l:List (Ty.El zB)):List (Ty.El qB):=l.flatMap (fun x=>bif xU x b==0 then x.2.2.2.2.2.2.2.2.2.2.2.1 else [])
theorem zV7 (xs:List (Ty.El qB)):((if xs=[] then [] else srt zNb xs):List (Ty.El qB)).Pairwise (fun x y=> ¬hlt y x)∧(∀h,h∈(if xs=[] then [] else srt zNb xs)↔h∈xs)∧(if xs=[] then [] else srt zNb xs).length=xs.length:=by
 by_cases hx:xs=[]
 ·rw [if_pos hx,hx]
  exact ⟨List.Pairwise.nil,fun h=>cC,rfl⟩
 ·rw [if_neg hx]
  obtain ⟨h1,h2,h3⟩:=zUj zXF xs
  refine ⟨?_,fun h=>h1.mem_iff,h2⟩
  rw [br]
  intro i j hi hj hij hlt'
  have:=h3 i j _ _ hij (ai hi) (ai hj)
  rw [(zE7 _ _).2 hlt'] at this
  cases this
theorem zI8 (g:List (Ty.El zB)) (p:Ty.El zG) (hne:g≠[]) (hp: ∀x,x∈g→x.1=p) (hs: ∀x,x∈g→RtS x) (hl:g.length≤524288) (hP: ∀x y,x∈g→y∈g→xI (x,y,())=some (xU x y)):
  Wp (zBY (g,())) (fun z=>mrg g p=some z):=by
 obtain ⟨y0,r,rfl⟩: ∃y0 r,g=y0::r:=by
  cases g with
  |nil=>exact absurd rfl hne
  |cons y r=>exact ⟨y,r,rfl⟩
 unfold zBY
 dsimp only
 have h0:idx (y0::r) (0:Int)=some y0:=rfl
 have hsub:sub (y0::r) (1:Int) ((List.length (y0::r):Nat):Int)=some r:=by
  have:=zPp (xs:=y0::r) (k:=1) (by simp)
  simpa using this
 have hrl:r.length≤524288:=by simp only [aA] at hl;omega
 refine zC (zY h0 ?_)
 refine zC (Wp.mono (Q:=fun b=>zMx (some y0) r=some b∧b∈y0::r) ?_ ?_)
 ·refine zC (zY hsub ?_)
  refine qZ (xs:=r) (by omega) (fun i (b:Ty.El zB)=>zMx (some y0) (r.take i)=some b∧b∈y0::r) ⟨rfl,by simp⟩ ?_ (fun b hb=>by rw [aN] at hb;exact hb)
  rintro i x b hx ⟨hb,hbm⟩
  have hxm:x∈y0::r:=aw _ (af hx)
  simp only [zI hx,ae]
  refine zC (zY (hP x b hxm hbm) ?_)
  rw [zW4 hx,hb]
  refine zJ (fun h=>zA ⟨?_,hxm⟩) (fun h=>zA ⟨?_,hbm⟩)
  ·have:zTP x (some b)=true:=decide_eq_true h
   rw [this];rfl
  ·have:zTP x (some b)=false:=decide_eq_false h
   rw [this];rfl
 ·rintro b ⟨hb,hbm⟩
  have hbest:zCW (y0::r) p=some b:=by
   rw [zEH,zYj hp]
   exact hb
  have hbs:=hs b hbm
  have hbound: ∀i,i≤(y0::r).length→(zL5 b ((y0::r).take i)).length≤i*1048576:=by
   intro i hi
   have:=j6 (xs:=(y0::r).take i) (f:=fun x:Ty.El zB=>bif xU x b==0 then x.2.2.2.2.2.2.2.2.2.2.2.1 else []) (k:=1048576) (fun x hx=>by
    have:=(hs x (cZ hx)).hops
    cases xU x b==0
    ·exact aI _
    ·exact this)
   rw [aZ,co hi] at this
   exact this
  refine zC ((show Wp _ (fun hs0:List (Ty.El qB)=>hs0=zL5 b (y0::r)) from ?_).mono (fun hs0 hh=> ?_))
  ·refine qZ (xs:=y0::r) (by omega) (fun i (h:List (Ty.El qB))=>h=zL5 b ((y0::r).take i)) rfl ?_ (fun h hh=>by rw [hh,aN])
   intro i x h hx hh
   have hi:=(ac.1 hx).1
   have hxm:x∈y0::r:=af hx
   have hxh:=(hs x hxm).hops
   have hlh:h.length≤i*1048576:=by rw [hh];exact hbound i (by omega)
   simp only [zI hx,ae]
   refine zC (zY (hP x b hxm hbm) ?_)
   have hst:zL5 b ((y0::r).take (i+1))=h++(bif xU x b==0 then x.2.2.2.2.2.2.2.2.2.2.2.1 else []):=by
    rw [hh]
    exact zGJ hx
   rw [hst]
   refine zD (fun hz=> ?_) (fun hz=>zA ?_)
   ·rw [hz]
    exact zC (qU (by omega) (zA rfl))
   ·rw [hz];exact (ba h).symm
  ·have hlen:hs0.length≤549755813888:=by
    have:=hbound (y0::r).length (aK _)
    rw [aN, ←hh] at this
    have h2:(y0::r).length*1048576≤524288*1048576:=ax _ hl
    omega
   obtain ⟨s1,s2,s3⟩:=zV7 hs0
   refine tt (bh _) ?_
   have e1:u4 hs0 ((),())=some (if hs0=[] then [] else srt zNb hs0,()):=by
    unfold u4
    rw [if_pos (by omega)]
   refine zC (zY e1 ?_)
   generalize (if hs0=[] then [] else srt zNb hs0)=hs1 at s1 s2 s3
   have e2:xG hs1 ()=some (vR zOL hs1):=by
    unfold xG
    rw [if_pos (by omega)]
   refine zC (zY e2 ?_)
   have hcm:vR zOL hs1=zBt (y0::r) p b:=by
    refine zTo s1 (fun h=> ?_)
    rw [s2,hh]
    unfold zL5
    rw [cg]
    constructor
    ·rintro ⟨x,hx,hxx⟩
     cases hz:xU x b==0 with
     |false=>rw [hz] at hxx;cases hxx
     |true=>
      rw [hz] at hxx
      exact ⟨x,hx,hp x hx,by simpa using hz,hxx⟩
    ·rintro ⟨x,hx,_,hz,hxx⟩
     refine ⟨x,hx,?_⟩
     have:(xU x b==0)=true:=by simpa using hz
     rw [this]
     exact hxx
   have hpath:=hbs.path
   have e3:jY (b.2.2.2.2.2.2.2.2.1,())=some b.2.2.2.2.2.2.2.2.1:=by
    refine j9 ?_
    unfold jY
    exact zC (qU (by simp only [av];omega) (zA rfl))
   refine zC (zY e3 (zA ?_))
   unfold mrg
   rw [hbest,hcm]
   obtain ⟨⟨a1,a2,⟨⟩⟩,b⟩:=b
   rfl
end Go.Ve

namespace Go.Ve
open Go
set_option maxRecDepth 1000000
set_option maxHeartbeats 4000000
theorem zGC {l:List (Ty.El zB)} {z:Ty.El zB} :z∈yV l↔ ∃q,(∃x,x∈l∧x.1=q)∧mrg l q=some z:=by
 unfold yV
 rw [bi]
 exact ⟨fun ⟨q,h1,h2⟩=>⟨q,(zH1 l q).1 h1,h2⟩,fun ⟨q,h1,h2⟩=>⟨q,(zH1 l q).2 h1,h2⟩⟩
theorem zTg {a g:List (Ty.El zB)} {p:Ty.El zG} {z:Ty.El zB} (ha: ∀x,x∈a→plt x.1 p) (hg: ∀x,x∈g→x.1=p) (hne:g≠[]) (hz:mrg g p=some z):yV (a++g)=yV a++[z]:=by
 have hirr: ∀q:Ty.El zG, ¬plt q q:=fun q h=>zIP.asym _ _ h h
 have hane: ∀x,x∈a→x.1≠p:=fun x hx e=>by have:=ha x hx;rw [e] at this;exact hirr p this
 have hzp:z.1=p:=zO8 hz
 have e1: ∀q,q≠p→mrg (a++g) q=mrg a q:=fun q hq=>zSe (by
  rw [zLU,zP6 (l:=g) (fun x hx e=>hq (e.symm.trans (hg x hx))),ba])
 have e2:mrg (a++g) p=mrg g p:=zSe (by rw [zLU,zP6 hane,bM])
 refine zDZ zXy (zJJ _) ?_ ?_
 ·rw [b8]
  refine ⟨zJJ a,cP _ _,?_⟩
  intro x hx y hy
  rw [aO] at hy
  subst hy
  obtain ⟨q,⟨x0,hx0,hq⟩,hm⟩:=zGC.1 hx
  unfold rlt
  rw [hzp,zO8 hm, ←hq]
  exact ha x0 hx0
 ·intro y
  rw [aX,aO,zGC,zGC]
  constructor
  ·rintro ⟨q,⟨x,hx,hq⟩,hm⟩
   by_cases hqp:q=p
   ·subst hqp
    rw [e2,hz] at hm
    exact .inr (aJ hm).symm
   ·refine .inl ⟨q,⟨x,?_,hq⟩,by rw [←e1 q hqp];exact hm⟩
    rcases aX.1 hx with h|h
    ·exact h
    ·exact absurd ((hg x h).symm.trans hq).symm hqp
  ·rintro (⟨q,⟨x,hx,hq⟩,hm⟩|rfl)
   ·have hqp:q≠p:=fun e=>hane x hx (hq.trans e)
    exact ⟨q,⟨x,cI _ hx,hq⟩,by rw [e1 q hqp];exact hm⟩
   ·obtain ⟨x,hx⟩:=List.exists_mem_of_ne_nil g hne
    exact ⟨p,⟨x,List.mem_append_right _ hx,hg x hx⟩,by rw [e2];exact hz⟩
theorem zP8 (l:List (Ty.El zB)):(yV l).length≤l.length:=ay (aF _ _) (zUE l)
theorem zMN (l:List (Ty.El zB)) (hl:l.length≤524288) (hs: ∀x,x∈l→RtS x) (hP: ∀x y,x∈l→y∈l→xI (x,y,())=some (xU x y)):
  Wp (zEX (l,())) (fun r=>r=yV l):=by
 unfold zEX
 dsimp only
 have e0:xH (l,())=some l:=by
  refine j9 ?_
  unfold xH
  exact zC (qU (by simp only [av];omega) (zA rfl))
 refine zC (zY e0 ?_)
 refine tt (by simp) ?_
 refine zC ((show Wp (yJ l ((),())) _ from zOh l (by omega)).mono ?_)
 rintro ⟨s,⟨⟩⟩ ⟨hsl,hsame,hso⟩
 simp only at hsl hsame hso
 rw [zUS hsame]
 have hm: ∀x,x∈s→x∈l:=by
  intro x hx
  have h1:= @zD2 x.1 x l
  have h2:= @zD2 x.1 x s
  have h3:zAS x.1 l=zAS x.1 s:=hsame x.1
  rw [h3] at h1
  exact (h1.1 (h2.2 ⟨hx,rfl⟩)).1
 have hn:s.length≤524288:=by omega
 have hso':=br.1 hso
 refine zC ((show Wp _ (fun r=>r=yV s) from ?_).mono (fun r hr=>zA hr))
 refine jF (fun q:Int×List (Ty.El zB)=> ∃i:Nat,q.1=(i:Int)∧i≤s.length∧q.2=yV (s.take i)∧(0<i→ ∀x y,s[i-1]? =some x→s[i]? =some y→x.1≠y.1)) (fun q=>((s.length:Int) -q.1).toNat)
  ⟨(0:Nat),rfl,aI _,rfl,fun h=>absurd h (Nat.lt_irrefl 0)⟩ ?_
 rintro ⟨st,mg⟩ ⟨i,hi,hil,hmg,hbd⟩
 simp only at hi hmg
 subst hi
 refine zJ (fun hc=> ?_) (fun hc=> ?_)
 ·have hc:(i:Int)< (s.length:Int):=hc
  have hlt:i<s.length:=by omega
  have hx:s[i]? =some s[i]:=by simp [hlt]
  generalize hxi:s[i]=xi at hx
  refine zC ((show Wp _ (fun q:List (Ty.El zB)×Int=>q.1=mg∧ ∃e:Nat,q.2=(e:Int)∧i<e∧e≤s.length∧(∀k y,i≤k→k<e→s[k]? =some y→y.1=xi.1)∧(∀y,s[e]? =some y→y.1≠xi.1)) from ?_).mono ?_)
  ·refine jF (fun q:Int×List (Ty.El zB)=>q.2=mg∧ ∃e:Nat,q.1=(e:Int)∧i<e∧e≤s.length∧(∀k y,i≤k→k<e→s[k]? =some y→y.1=xi.1)) (fun q=>((s.length:Int) -q.1).toNat) ⟨rfl,i+1,?_,Nat.lt_succ_self i,hlt,?_⟩ ?_
   ·rw [zH (by omega) (by omega)];omega
   ·intro k y h1 h2 hy
    have:k=i:=by omega
    subst this
    rw [hx] at hy
    cases hy
    rfl
   ·rintro ⟨q1,q2⟩ ⟨rfl,e,he,hie,hel,hall⟩
    simp only at he
    subst he
    refine zC ((show Wp _ (fun b:Bool×List (Ty.El zB)=>b.2=q2∧(b.1=true→ ∃y,s[e]? =some y∧y.1=xi.1)∧(b.1=false→ ∀y,s[e]? =some y→y.1≠xi.1)) from ?_).mono ?_)
    ·refine zJ (fun h=> ?_) (fun h=>zA ⟨rfl,(fun h'=>by cases h'),fun _ y hy=> ?_⟩)
     ·have h:(e:Int)< (s.length:Int):=h
      have hye:s[e]? =some (s[e]'(by omega)):=by simp
      generalize (s[e]'(by omega))=ye at hye
      simp only [zI hye,zI hx,ae]
      refine zA ⟨rfl,fun hb=>⟨ye,hye,zGq hb⟩,fun hb y hy=> ?_⟩
      have hyy:y=ye:=by rw [hye] at hy;exact (aJ hy).symm
      subst hyy
      intro e0
      have hb:(y.1.fst==xi.1.fst&&(y.1.snd.fst==xi.1.snd.fst&&true))=false:=hb
      rw [e0] at hb
      simp at hb
     ·have h: ¬(e:Int)< (s.length:Int):=h
      have:=(ac.1 hy).1
      omega
    ·rintro ⟨b,q3⟩ ⟨hq,hbt,hbf⟩
     simp only at hq hbt hbf
     subst hq
     refine zD (fun hb=> ?_) (fun hb=>zA (e2r ⟨rfl,e,rfl,hie,hel,hall,hbf hb⟩))
     obtain ⟨y,hy,hyp⟩:=hbt hb
     have hel':=(ac.1 hy).1
     have hw:IntKind.wrap .i64 ((e:Int)+1)=((e+1:Nat):Int):=by rw [zH (by omega) (by omega)];omega
     refine zA (e2l ⟨⟨rfl,e+1,hw,by omega,hel',?_⟩,?_⟩)
     ·intro k y' h1 h2 hy'
      rcases aL k e with h3|h3
      ·exact hall k y' h1 h3 hy'
      ·have:k=e:=by omega
       subst this
       rw [hy] at hy'
       cases hy'
       exact hyp
     ·simp only [hw];omega
  ·rintro ⟨q1,q2⟩ ⟨hq,e,he,hie,hel,hall,hend⟩
   simp only at hq he
   subst hq
   subst he
   have hsub:sub s (i:Int) (e:Int)=some ((s.take e).drop i):=by
    unfold sub
    rw [if_pos ⟨by omega,by omega,by omega⟩]
    simp
   have hgm: ∀x,x∈(s.take e).drop i→x∈s∧x.1=xi.1:=by
    intro x hx'
    obtain ⟨k,hk,rfl⟩:=aD hx'
    rw [bo,aZ] at hk
    have hke:((s.take e).drop i)[k]=s[i+k]'(by omega):=by rw [List.getElem_drop,List.getElem_take]
    rw [hke]
    exact ⟨bD _,hall (i+k) _ (by omega) (by omega) (by simp)⟩
   have hgl:((s.take e).drop i).length=e-i:=by rw [bo,aZ];omega
   have hgn:(s.take e).drop i≠[]:=fun h=>by rw [h] at hgl;simp only [av] at hgl;omega
   refine zC (zY hsub ?_)
   refine zC ((zI8 _ xi.1 hgn (fun x hx'=>(hgm x hx').2) (fun x hx'=>hs x (hm x (hgm x hx').1)) (by omega) (fun x y hx' hy'=>hP x y (hm x (hgm x hx').1) (hm y (hgm y hy').1))).mono (fun z hz=> ?_))
   have hml:=zP8 (s.take i)
   rw [aZ] at hml
   have hql:q1.length≤524288:=by rw [hmg];omega
   refine zC (qU (by simp only [aC];omega) (zA (e2l ⟨⟨e,rfl,hel,?_,?_⟩,?_⟩)))
   ·have hta:s.take e=s.take i++(s.take e).drop i:=by
     have h1:=cU i (s.take e)
     rw [List.take_take,co (by omega)] at h1
     exact h1.symm
    rw [hta,hmg]
    refine (zTg (p:=xi.1) ?_ (fun x hx'=>(hgm x hx').2) hgn hz).symm
    intro x hx'
    obtain ⟨a,ha,rfl⟩:=aD hx'
    rw [aZ] at ha
    rw [List.getElem_take]
    have hi0:0<i:=by omega
    have hx1:s[i-1]? =some (s[i-1]'(by omega)):=by simp
    have hne:=hbd hi0 _ _ hx1 hx
    have h1:=hso' (i-1) i (by omega) hlt (by omega)
    rw [hxi] at h1
    have h2:plt (s[i-1]'(by omega)).1 xi.1:=zWk h1 hne
    by_cases hai:a=i-1
    ·subst hai;exact h2
    ·have h3:=hso' a (i-1) (by omega) (by omega) (by omega)
     unfold rlt plt zFJ at*
     omega
   ·intro _ x y hx' hy' hxy
    have h1:x.1=xi.1:=hall (e-1) x (by omega) (by omega) hx'
    exact hend y hy' (hxy.symm.trans h1)
   ·simp only;omega
 ·have hc: ¬(i:Int)< (s.length:Int):=hc
  have:i=s.length:=by omega
  subst this
  refine zA (e2r ?_)
  simp only [hmg,aN]
end Go.Ve





namespace Go.Ve
open Go
set_option maxRecDepth 1000000
set_option maxHeartbeats 4000000
theorem wO (v:Ty.El zN) (r i:Nat) (rt:Ty.El zF) (x:Ty.El qA) (hr:v.1.1[r]? =some rt) (hx:rt.2.2.1[i]? =some x):
  Wp (jG (v,(r:Int),(i:Int),())) (fun y=>y=(x,true,())):=by
 unfold jG
 dsimp only
 have hrl:=(ac.1 hr).1
 have hil:=(ac.1 hx).1
 have q0: ¬((r:Int)<0):=by omega
 have q1: ¬((r:Int)≥(List.length v.1.1:Int)):=by omega
 have q2: ¬((i:Int)<0):=by omega
 refine zC ((show Wp _ (fun s:Bool=>s=false) from ?_).mono (fun s hs=> ?_))
 ·refine zJ (fun h=>absurd h q0) (fun _=>zJ (fun h=>absurd h q1) (fun _=>zJ (fun h=>absurd h q2) (fun _=> ?_)))
  simp only [zI hr,ae]
  refine zA ?_
  have: ¬((i:Int)≥(List.length rt.2.2.1:Int)):=by omega
  exact decide_eq_false this
 ·subst hs
  simp only [cond_false,zI hr,zI hx,ae]
  exact zA rfl
def zOm (rt q:Ty.El zF) (x y:Ty.El qA):Bool:=
 q.2.2.2.2.2.2.2.2.2.2.1.1&&(knB rt.2.2.2.2.2.2.2.2.2.2.1.2.2.2.1 y.2.1 q.2.1&&knB q.2.2.2.2.2.2.2.2.2.2.1.2.2.2.1 x.2.1 rt.2.1)
def zMR (v:Ty.El zN) (r i:Int) (rt:Ty.El zF) (x:Ty.El qA) (e:Ty.El zO):Option (Ty.El zK):=
 match v.1.1[Int.toNat e.1]? with
 |some q=>match q.2.2.1[Int.toNat e.2.1]? with
  |some y=>bif zOm rt q x y then some (e.1,e.2.1,r,i,q.2.1==rt.2.1,()) else none
  |none=>none
 |none=>none
def zBJ (v:Ty.El zN) (r:Int) (rt:Ty.El zF) (i:Nat):List (Ty.El zK):=
 match rt.2.2.1[i]? with
 |some x=>bif rt.2.2.2.2.2.2.2.2.2.2.1.1 then (zHx v r i (fun e=>e.1 !=r)).filterMap (zMR v r i rt x) else []
 |none=>[]
def zBW (v:Ty.El zN) (r:Nat):List (Ty.El zK):=
 match v.1.1[r]? with
 |some rt=>(List.range rt.2.2.1.length).flatMap (zBJ v r rt)
 |none=>[]
def zGj (v:Ty.El zN):List (Ty.El zK):=(List.range v.1.1.length).flatMap (zBW v)
theorem zFF {v:Ty.El zN} (hv:xY v) (r:Int) (rt:Ty.El zF) (i:Nat):(zBJ v r rt i).length≤360:=by
 unfold zBJ
 split
 ·cases rt.2.2.2.2.2.2.2.2.2.2.1.1
  ·exact aI _
  ·exact ay (aF _ _) (zP7 hv _ _ _)
 ·exact aI _
theorem zLp {v:Ty.El zN} (hv:xY v) (r:Nat):(zBW v r).length≤7200:=by
 unfold zBW
 split
 ·rename_i rt hr
  have h1:=j6 (xs:=List.range rt.2.2.1.length) (f:=zBJ v r rt) (k:=360) (fun i _=>zFF hv r rt i)
  have h2:=(hv.sm rt (af hr)).i1
  have h2:rt.2.2.1.length≤20:=h2
  rw [ca] at h1
  omega
 ·exact aI _
theorem zZv {v:Ty.El zN} (hv:xY v):(zGj v).length≤64800:=by
 have h1:=j6 (xs:=List.range v.1.1.length) (f:=zBW v) (k:=7200) (fun i _=>zLp hv i)
 have h2:=hv.rs
 rw [ca] at h1
 unfold zGj
 omega
structure zJR (v:Ty.El zN):Prop where
 s:xY v
 nb: ∀r,r∈v.1.1→zVT r.2.2.2.2.2.2.2.2.2.2.1.2.2.2.1
 ends : ∀ (r i : Int) (e : Ty.El zO), upB v r i = true → e ∈ zAu v r i → (0 : Int) ≤ e.1 ∧ (0 : Int) ≤ e.2.1 ∧ ∃ q y, v.1.1[Int.toNat e.1]? = some q ∧ q.2.2.1[Int.toNat e.2.1]? = some y
 own: ∀ (r i:Int),zHx v r i (fun e=>e.1 !=r||e.2.1 !=i)=zHx v r i (fun e=>e.1 !=r)
theorem zDz.p {n:Ty.El zX} {d:List Int} {v:Ty.El zN} (hv:zDz n d v):zJR v where
 s:=hv.s
 nb:=fun r hr=>qDc ((zTd hv).rt r (by rw [←hv.net];exact hr)) (hv.s.sm r hr)
 ends := fun r i e hu he => by
  obtain ⟨e0,e1,q,y,e2,e3,_⟩:=qCN hv hu he
  exact ⟨e0,e1,q,y,e2,e3⟩
 own:=fun r i=>zZ0 hv r i
theorem xQ (v:Ty.El zN) (hv:zJR v) (r i:Nat) (rt:Ty.El zF) (x:Ty.El qA) (hr:v.1.1[r]? =some rt) (hx:rt.2.2.1[i]? =some x):
  Wp (wK (v,(r:Int),(i:Int),())) (fun l=>l=zBJ v r rt i):=by
 unfold wK
 dsimp only
 have hs:=hv.s
 have hsm:=hs.sm rt (af hr)
 have hnb:=hv.nb rt (af hr)
 refine zC (zY (zI hr) (zC ((wO v r i rt x hr hx).mono (fun y1 hy1=> ?_))))
 subst hy1
 have hI:zBJ v r rt i=bif rt.2.2.2.2.2.2.2.2.2.2.1.1 then (zHx v r i (fun e=>e.1 !=(r:Int))).filterMap (zMR v r i rt x) else []:=by
  unfold zBJ;rw [hx]
 rw [hI]
 refine zD (fun h=>zA ?_) (fun h=> ?_)
 ·have h:rt.2.2.2.2.2.2.2.2.2.2.1.1=false:=by simpa using h
  rw [h];rfl
 have h:rt.2.2.2.2.2.2.2.2.2.2.1.1=true:=by simpa using h
 rw [h]
 refine zC (zC ((zI7 v r i hs).mono (fun ns hns=> ?_)))
 rw [hv.own] at hns
 have hnl:ns.length≤360:=by rw [hns];exact zP7 hs _ _ _
 refine (qZ (xs:=ns) (by omega) (fun j (g:List (Ty.El zK))=>g=(ns.take j).filterMap (zMR v r i rt x)) rfl ?_ (fun g hg=>zA ?_))
 ·intro j e g he hg
  have hj:=(ac.1 he).1
  have hgl:g.length≤360:=by
   rw [hg]
   exact ay (aF _ _) (ay (bl _ _) hnl)
  simp only [zI he,ae]
  rw [qT he, ←hg]
  have hem:=af he
  rw [hns] at hem
  obtain ⟨u1,u2,_⟩:=zTe hem
  obtain ⟨b0,b1,q,y,b2,b3⟩:=hv.ends _ _ _ u1 u2
  obtain ⟨e1,e2,⟨⟩⟩:=e
  obtain ⟨qn,rfl⟩:=bG (show (0:Int)≤e1 from b0)
  obtain ⟨kn,rfl⟩:=bG (show (0:Int)≤e2 from b1)
  have c2:v.1.1[qn]? =some q:=b2
  have c3:q.2.2.1[kn]? =some y:=b3
  have hqm:=af c2
  have hE:zMR v r i rt x ((qn:Int),(kn:Int),())=bif zOm rt q x y then some ((qn:Int),(kn:Int),(r:Int),(i:Int),q.2.1==rt.2.1,()) else none:=by
   unfold zMR
   simp only [aR,c2,c3]
  rw [hE]
  refine zC ((wO v qn kn q y c2 c3).mono (fun z hz=> ?_))
  subst hz
  refine ff rfl ?_
  simp only [zI c2,ae]
  refine zC ((show Wp _ (fun s:Bool×List (Ty.El zK)=>s.1=zOm rt q x y∧s.2=g) from ?_).mono (fun s hs'=> ?_))
  ·unfold zOm
   refine zD (fun h1=> ?_) (fun h1=>zA ⟨by rw [h1];rfl,rfl⟩)
   rw [h1]
   refine zC ((zCy rt _ _ hsm hnb).mono (fun b hb=> ?_))
   subst hb
   refine zD (fun h2=> ?_) (fun h2=>zA ⟨by rw [h2];rfl,rfl⟩)
   rw [h2]
   refine zC ((zCy q _ _ (hs.sm q hqm) (hv.nb q hqm)).mono (fun c hc=>zA ⟨?_,rfl⟩))
   rw [hc];rfl
  ·obtain ⟨s1,s2⟩:=s
   obtain ⟨k1,k2⟩:=hs'
   simp only at k1 k2
   subst k2
   refine zD (fun hb=> ?_) (fun hb=>zA ?_)
   ·have hb:s1=true:=hb
    rw [←k1,hb]
    exact zC (qU (by simp only [aC];omega) (zA rfl))
   ·have hb:s1=false:=hb
    rw [←k1,hb]
    exact (ba s2).symm
 ·rw [hg,aN,hns];rfl
theorem zFl (v:Ty.El zN) (hv:zJR v):Wp (yA (v,())) (fun l=>l=zGj v):=by
 unfold yA
 dsimp only
 have hs:=hv.s
 have hrs:=hs.rs
 refine zC ((qZ (xs:=v.1.1) (by omega) (fun i (g:List (Ty.El zK))=>g=(List.range i).flatMap (zBW v)) rfl ?_ (Q:=fun g=>g=zGj v) (fun g hg=>hg)).mono (fun g hg=>zA hg))
 intro r rt g hr hg
 have hrl:=(ac.1 hr).1
 have hgl:g.length≤r*7200:=by
  have h2:=j6 (xs:=List.range r) (f:=zBW v) (k:=7200) (fun j _=>zLp hs j)
  rw [ca] at h2
  rw [hg];exact h2
 have hsm:=hs.sm rt (af hr)
 have hil:rt.2.2.1.length≤20:=hsm.i1
 have j5:(List.range (r+1)).flatMap (zBW v)=g++(List.range rt.2.2.1.length).flatMap (zBJ v r rt):=by
  rw [cR,bV, ←hg]
  have:zBW v r=(List.range rt.2.2.1.length).flatMap (zBJ v r rt):=by unfold zBW;rw [hr]
  simp [this]
 rw [j5]
 simp only [zI hr,ae]
 refine jF (fun s:Int×List (Ty.El zK)=> ∃i:Nat,s.1=(i:Int)∧i≤rt.2.2.1.length∧s.2=g++(List.range i).flatMap (zBJ v r rt)) (fun s=>((rt.2.2.1.length:Int) -s.1).toNat) ⟨0,rfl,aI _,by simp⟩ ?_
 rintro ⟨s,g'⟩ ⟨i,hi,hil2,hg'⟩
 simp only at hi hg'
 subst hi
 refine zJ (fun h=> ?_) (fun h=>zA (e2r ?_))
 ·have h:(i:Int)< (rt.2.2.1.length:Int):=h
  obtain ⟨x,hx⟩: ∃x,rt.2.2.1[i]? =some x:=⟨_,ai (by omega)⟩
  have hg'l:g'.length≤r*7200+i*360:=by
   have h2:=j6 (xs:=List.range i) (f:=zBJ v r rt) (k:=360) (fun j _=>zFF hs r rt j)
   rw [ca] at h2
   rw [hg',aH]
   omega
  have hsl:=zFF hs r rt i
  refine zC ((xQ v hv r i rt x hr hx).mono (fun l hl=> ?_))
  refine zC (qU (by simp only [hl];omega) (zA (e2l ⟨⟨i+1,?_,by omega,?_⟩,?_⟩)))
  ·simp only;rw [zH (by omega) (by omega)];omega
  ·rw [hl,hg',cR,bV,bp]
   simp
  ·simp only;rw [zH (by omega) (by omega)];omega
 ·have h: ¬(i:Int)< (rt.2.2.1.length:Int):=h
  have:i=rt.2.2.1.length:=by omega
  subst this
  exact hg'
theorem zI9 (v:Ty.El zN) (hv:zJR v):Wp (zB3 (v,())) (fun l=>l=zGj v):=by
 unfold zB3
 dsimp only
 have hs:=hv.s
 have hrs:=hs.rs
 refine zC ((qZ (xs:=v.1.1) (by omega) (fun i (g:List (Ty.El zK))=>g=(List.range i).flatMap (zBW v)) rfl ?_ (Q:=fun g=>g=zGj v) (fun g hg=>hg)).mono (fun g hg=>zA hg))
 intro r rt g hr hg
 have hrl:=(ac.1 hr).1
 have hgl:g.length≤r*7200:=by
  have h2:=j6 (xs:=List.range r) (f:=zBW v) (k:=7200) (fun j _=>zLp hs j)
  rw [ca] at h2
  rw [hg];exact h2
 have hsm:=hs.sm rt (af hr)
 have hil:rt.2.2.1.length≤20:=hsm.i1
 have j5:(List.range (r+1)).flatMap (zBW v)=g++(List.range rt.2.2.1.length).flatMap (zBJ v r rt):=by
  rw [cR,bV, ←hg]
  have:zBW v r=(List.range rt.2.2.1.length).flatMap (zBJ v r rt):=by unfold zBW;rw [hr]
  simp [this]
 rw [j5]
 simp only [zI hr,ae]
 have hoff:rt.2.2.2.2.2.2.2.2.2.2.1.1=false→(List.range rt.2.2.1.length).flatMap (zBJ v r rt)=[]:=by
  intro h
  rw [List.flatMap_eq_nil_iff]
  intro i _
  unfold zBJ
  rw [h]
  split<;>rfl
 refine jF (fun s:Int×List (Ty.El zK)=> ∃i:Nat,s.1=(i:Int)∧i≤rt.2.2.1.length∧s.2=g++(List.range i).flatMap (zBJ v r rt)∧(rt.2.2.2.2.2.2.2.2.2.2.1.1=false→s.2=g)) (fun s=>((rt.2.2.1.length:Int) -s.1).toNat) ⟨0,rfl,aI _,by simp,fun _=>rfl⟩ ?_
 rintro ⟨s,g'⟩ ⟨i,hi,hil2,hg',hgo⟩
 simp only at hi hg' hgo
 subst hi
 refine zC ((show Wp _ (fun b:Bool×List (Ty.El zK)=>b.1=(rt.2.2.2.2.2.2.2.2.2.2.1.1&&decide ((i:Int)< (rt.2.2.1.length:Int)))∧b.2=g') from ?_).mono (fun b hb=> ?_))
 ·refine zD (fun h=>zA ⟨?_,rfl⟩) (fun h=>zA ⟨?_,rfl⟩)
  ·rw [h];rfl
  ·rw [h];rfl
 obtain ⟨b1,b2⟩:=b
 obtain ⟨hb1,hb2⟩:=hb
 simp only at hb1 hb2
 subst hb1 hb2
 refine zD (fun hb=> ?_) (fun hb=>zA (e2r ?_))
 ·simp only [aj,decide_eq_true_eq] at hb
  obtain ⟨hon,h⟩:=hb
  obtain ⟨x,hx⟩: ∃x,rt.2.2.1[i]? =some x:=⟨_,ai (by omega)⟩
  have hg'l:b2.length≤r*7200+i*360:=by
   have h2:=j6 (xs:=List.range i) (f:=zBJ v r rt) (k:=360) (fun j _=>zFF hs r rt j)
   rw [ca] at h2
   rw [hg',aH]
   omega
  have hI:zBJ v r rt i=(zHx v r i (fun e=>e.1 !=(r:Int))).filterMap (zMR v r i rt x):=by
   unfold zBJ;rw [hx,hon];rfl
  refine zC (Wp.mono (Q:=fun g2=>g2=b2++zBJ v r rt i) ?_ (fun g2 hg2=>zA (e2l ⟨⟨i+1,?_,by omega,?_,fun hf=>by rw [hf] at hon;cases hon⟩,?_⟩)))
  ·rw [hI]
   refine zC ((zHQ v r i hs).mono (fun ns hns=> ?_))
   have hnl:ns.length≤360:=by rw [hns];exact zP7 hs _ _ _
   refine (qZ (xs:=ns) (by omega) (fun j (g3:List (Ty.El zK))=>g3=b2++(ns.take j).filterMap (zMR v r i rt x)) (by simp) ?_ (fun g3 hg3=>by rw [hg3,aN,hns]))
   intro j e g3 he hg3
   have hj:=(ac.1 he).1
   have hgl3:g3.length≤r*7200+i*360+360:=by
    have h2:=aF (zMR v r i rt x) (ns.take j)
    have h3:=bl j ns
    rw [hg3,aH]
    omega
   simp only [zI he,ae]
   rw [qT he, ←bp, ←hg3]
   have hem:=af he
   rw [hns] at hem
   obtain ⟨u1,u2,_⟩:=zTe hem
   obtain ⟨b0,b1,q,y,b2',b3⟩:=hv.ends _ _ _ u1 u2
   have hat:=zRe v e q y b0 b1 b2' b3
   obtain ⟨e1,e2,⟨⟩⟩:=e
   obtain ⟨qn,rfl⟩:=bG (show (0:Int)≤e1 from b0)
   obtain ⟨kn,rfl⟩:=bG (show (0:Int)≤e2 from b1)
   have c2:v.1.1[qn]? =some q:=b2'
   have c3:q.2.2.1[kn]? =some y:=b3
   have hqm:=af c2
   have hE:zMR v r i rt x ((qn:Int),(kn:Int),())=bif zOm rt q x y then some ((qn:Int),(kn:Int),(r:Int),(i:Int),q.2.1==rt.2.1,()) else none:=by
    unfold zMR
    simp only [aR,c2,c3]
   rw [hE]
   simp only [zI c2,ae]
   refine zC ((show Wp _ (fun s:Bool×List (Ty.El zK)=>s.1=zOm rt q x y∧s.2=g3) from ?_).mono (fun s hs'=> ?_))
   ·unfold zOm
    refine zD (fun h1=> ?_) (fun h1=>zA ⟨by rw [h1];rfl,rfl⟩)
    rw [h1]
    refine zC (hat.mono (fun z hz=> ?_))
    subst hz
    refine zC ((zBi rt _ _ hsm).mono (fun k hk=> ?_))
    subst hk
    have hk1:=zPM rt.2.2.2.2.2.2.2.2.2.2.1.2.2.2.1 z.2.1 q.2.1
    refine zD (fun h2=> ?_) (fun h2=>zA ⟨?_,rfl⟩)
    ·rw [←hk1,h2]
     simp only [zI hx,ae]
     refine zC ((zBi q _ _ (hs.sm q hqm)).mono (fun k' hk'=>zA ⟨?_,rfl⟩))
     subst hk'
     rw [zPM];rfl
    ·rw [←hk1,h2];rfl
   ·obtain ⟨s1,s2⟩:=s
    obtain ⟨k1,k2⟩:=hs'
    simp only at k1 k2
    subst k2
    refine zD (fun hb=> ?_) (fun hb=>zA ?_)
    ·have hb:s1=true:=hb
     rw [←k1,hb]
     refine zC (qU (by simp only [aC];omega) (zA ?_))
     have hc:(rt.2.1==q.2.1)=(q.2.1==rt.2.1):=by
      rw [bJ,beq_iff_eq,beq_iff_eq]
      exact ⟨Eq.symm,Eq.symm⟩
     rw [hc];rfl
    ·have hb:s1=false:=hb
     rw [←k1,hb]
     exact (ba s2).symm
  ·simp only;rw [zH (by omega) (by omega)];omega
  ·rw [hg2,hg',cR,bV,bp]
   simp
  ·simp only;rw [zH (by omega) (by omega)];omega
 ·simp only at hb ⊢
  cases hon:rt.2.2.2.2.2.2.2.2.2.2.1.1 with
  |false=>rw [hoff hon,hgo hon,ba]
  |true=>
   rw [hon] at hb
   have h: ¬(i:Int)< (rt.2.2.1.length:Int):=by simpa using hb
   have:i=rt.2.2.1.length:=by omega
   subst this
   exact hg'
end Go.Ve

namespace Go.Ve
open Go
set_option maxRecDepth 1000000
set_option maxHeartbeats 4000000
theorem zUT {v:Ty.El zN} {x:Ty.El zK} :x∈zGj v↔ ∃ (r i:Nat) (rt:Ty.El zF) (z:Ty.El qA) (e:Ty.El zO) (q:Ty.El zF) (y:Ty.El qA),v.1.1[r]? =some rt∧rt.2.2.1[i]? =some z∧
  rt.2.2.2.2.2.2.2.2.2.2.1.1=true∧e∈zHx v r i (fun e=>e.1 !=(r:Int))∧v.1.1[Int.toNat e.1]? =some q∧q.2.2.1[Int.toNat e.2.1]? =some y∧zOm rt q z y=true∧x=(e.1,e.2.1,(r:Int),(i:Int),q.2.1==rt.2.1,()):=by
 unfold zGj
 rw [cg]
 constructor
 ·rintro ⟨r,_,hr⟩
  unfold zBW at hr
  cases hrt:v.1.1[r]? with
  |none=>rw [hrt] at hr;cases hr
  |some rt=>
   rw [hrt] at hr
   obtain ⟨i,_,hi⟩:=cg.1 hr
   unfold zBJ at hi
   cases hz:rt.2.2.1[i]? with
   |none=>rw [hz] at hi;cases hi
   |some z=>
    rw [hz] at hi
    simp only at hi
    cases hon:rt.2.2.2.2.2.2.2.2.2.2.1.1 with
    |false=>rw [hon] at hi;cases hi
    |true=>
     rw [hon] at hi
     obtain ⟨e,he,hx⟩:=bi.1 hi
     unfold zMR at hx
     cases hq:v.1.1[Int.toNat e.1]? with
     |none=>rw [hq] at hx;cases hx
     |some q=>
      rw [hq] at hx
      simp only at hx
      cases hy:q.2.2.1[Int.toNat e.2.1]? with
      |none=>rw [hy] at hx;cases hx
      |some y=>
       rw [hy] at hx
       simp only at hx
       cases hb:zOm rt q z y with
       |false=>rw [hb] at hx;cases hx
       |true=>
        rw [hb] at hx
        exact ⟨r,i,rt,z,e,q,y,hrt,hz,hon,he,hq,hy,hb,(aJ hx).symm⟩
 ·rintro ⟨r,i,rt,z,e,q,y,hrt,hz,hon,he,hq,hy,hb,rfl⟩
  refine ⟨r,bd.2 (ac.1 hrt).1,?_⟩
  unfold zBW
  rw [hrt]
  refine cg.2 ⟨i,bd.2 (ac.1 hz).1,?_⟩
  unfold zBJ
  rw [hz]
  simp only [hon,cond_true]
  refine bi.2 ⟨e,he,?_⟩
  unfold zMR
  rw [hq]
  simp only [hy,hb,cond_true]
end Go.Ve

namespace Go.Ve
open Go
set_option maxRecDepth 1000000
set_option maxHeartbeats 4000000
def lwB (p q:Ty.El zG):Bool:=decide (q.2.1<p.2.1)&&(decide (q.2.1≤p.2.1)&&zBE q p.1)
theorem xR (p q:Ty.El zG):jS (p,q,())=some (lwB p q):=by
 refine j9 ?_
 unfold jS lwB
 dsimp only
 refine zC (zJ (fun h=> ?_) (fun h=>zA (zA ?_)))
 ·have h:q.2.1<p.2.1:=h
  refine zC (zY (zFE _ _) (zA (zA ?_)))
  rw [decide_eq_true h];rfl
 ·have h: ¬q.2.1<p.2.1:=h
  rw [decide_eq_false h];rfl
def zQm (q:Ty.El zF) (p:Ty.El zG):Bool:=q.2.2.2.2.2.2.2.2.2.2.1.2.2.2.2.2.1.any (fun g:Ty.El q8=>g.2.1&&lwB p g.1)
theorem zY9 {q:Ty.El zF} {p:Ty.El zG} (hr:SmR q):Wp (uC (q,p,())) (fun b=>b=zQm q p):=by
 have h20:q.2.2.2.2.2.2.2.2.2.2.1.2.2.2.2.2.1.length≤20:=hr.i12
 unfold uC zQm
 dsimp only
 refine uY (xs:=q.2.2.2.2.2.2.2.2.2.2.1.2.2.2.2.2.1) (by omega) (fun i=> ∀j y,j<i→q.2.2.2.2.2.2.2.2.2.2.1.2.2.2.2.2.1[j]? =some y→(y.2.1&&lwB p y.1)=false) (fun j y hj=>by omega) ?_ (fun hj=>zA ?_)
 ·intro i x hx hj
  simp only [zI hx,ae]
  refine zC ((show Wp _ (fun s:Bool=>s=(x.2.1&&lwB p x.1)) from ?_).mono (fun s hs=> ?_))
  ·refine zD (fun h=>zC (zY (xR _ _) (zA ?_))) (fun h=>zA ?_)
   ·rw [h];rfl
   ·rw [h];rfl
  ·refine zD (fun h=>zA (e2r (e2r ?_))) (fun h=>zA (e2l ⟨rfl,?_⟩))
   ·symm
    refine bt.2 ⟨x,af hx,?_⟩
    rw [←hs];exact h
   ·intro k z hk hz
    rcases aL k i with h'|h'
    ·exact hj k z h' hz
    ·have:k=i:=by omega
     subst this
     rw [hx] at hz
     cases hz
     rw [←hs];exact h
 ·symm
  rw [cH]
  intro x hx
  obtain ⟨k,hk,rfl⟩:=aD hx
  rw [hj k _ hk (by simp [hk])]
  decide
def zFm (x:Ty.El zB) (m:Int):Ty.El zB:=(x.1,x.2.1,x.2.2.1,x.2.2.2.1,m,x.2.2.2.2.2)
def qCX (x y:Ty.El zB):Ty.El zB:=
 (x.1,(5:Int),(0:Int),(0:Int),y.2.2.2.2.1,(0:Int),y.2.2.2.2.2.2.1,y.2.2.2.2.2.2.2.1,x.2.2.2.2.2.2.2.2.1,(0:Int),(0:Int),[],false,())
def qCY (x y:Ty.El zB) (sy:Int) (k:Nat):Ty.El zB:=
 (x.1,(5:Int),(0:Int),(0:Int),y.2.2.2.2.1,(0:Int),y.2.2.2.2.2.2.1,(100:Int),List.replicate k sy++x.2.2.2.2.2.2.2.2.1,(0:Int),(0:Int),[],false,())
def zKB (q:Ty.El zF) (a:Int) (int:Bool) (x:Ty.El zB):Option (Ty.El zB):=
 bif (x.2.2.1==(4:Int)&&int)||zQm q x.1 then none else
 match zFP q.2.2.2.2.2.2.2.2.2.2.1.2.2.2.1 a with
 |none=>none
 |some nb=>bif int then (zHD q nb.2.2.2.1 x).map (qCX x) else
  match zHD q nb.2.2.2.1 (zFm x 0) with
  |none=>none
  |some y=>bif decide (1+zLA q nb.2.2.2.1 (zFm x 0)+(x.2.2.2.2.2.2.2.2.1.length:Int)>(64:Int)) then none else some (qCY x y q.2.1 (1+(zLA q nb.2.2.2.1 (zFm x 0)).toNat))
def zZS (m:Option (Ty.El zB)):Ty.El zB×Bool×Unit:=
 match m with
 |some z=>(z,true,())
 |none=>(zRW,false,())
theorem zD6 {r:Ty.El zF} {nm:Ty.El .str} {x:Ty.El zB} {y:Ty.El zB×Bool×Unit} (h:y=match zHD r nm x with
  |some z=>(z,true,())
  |none=>(zRW,false,())):(y.2.1=false∧zHD r nm x=none)∨(y.2.1=true∧zHD r nm x=some y.1):=by
 cases hc:zHD r nm x with
 |none=>rw [hc] at h;exact .inl ⟨by rw [h],rfl⟩
 |some z=>rw [hc] at h;exact .inr ⟨by rw [h],by rw [h]⟩
theorem zX3 (x:Ty.El zB) (m:Int):RtS x→RtS (zFm x m):=fun h=>⟨h.path,h.hops⟩
theorem zGi (v:Ty.El zN) (hv:zJR v) (qn kn r i:Nat) (int:Bool) (q rt:Ty.El zF) (z:Ty.El qA) (hq:v.1.1[qn]? =some q) (hr:v.1.1[r]? =some rt) (hz:rt.2.2.1[i]? =some z) (hm:zA4 q) (x:Ty.El zB) (hx:RtS x):
  Wp (zAe (v,((qn:Int),(kn:Int),(r:Int),(i:Int),int,()),x,())) (fun y=>y=zZS (zKB q z.2.1 int x)):=by
 unfold zAe
 dsimp only
 have hs:=hv.s
 have hqs:=hs.sm q (af hq)
 have hql:=(ac.1 hq).1
 have q0: ¬((qn:Int)<0):=by omega
 have q1: ¬((qn:Int)≥(List.length v.1.1:Int)):=by omega
 refine zC ((wO v r i rt z hr hz).mono (fun y0 hy0=> ?_))
 subst hy0
 refine zC ((show Wp _ (fun s:Bool=>s=false) from ?_).mono (fun s hs'=> ?_))
 ·exact ff rfl (zJ (fun h=>absurd h q0) (fun _=>zA (decide_eq_false q1)))
 subst hs'
 refine ff rfl ?_
 simp only [zI hq,ae]
 refine zC ((show Wp _ (fun s:Bool=>s=((x.2.2.1==(4:Int)&&int)||zQm q x.1)) from ?_).mono (fun s hs'=> ?_))
 ·refine zD (fun h=>zD (fun h2=>zA ?_) (fun h2=>zC ((zY9 hqs).mono (fun b hb=>zA ?_)))) (fun h=>zC ((zY9 hqs).mono (fun b hb=>zA ?_)))
  ·have h2:int=true:=h2
   rw [h,h2];rfl
  ·have h2:int=false:=h2
   rw [h,h2,hb];rfl
  ·rw [h,hb];rfl
 subst hs'
 unfold zKB
 refine zD (fun h=>zA ?_) (fun h=> ?_)
 ·rw [h];rfl
 rw [h]
 refine zC ((kD q z.2.1 hqs).mono (fun y8 hy8=> ?_))
 cases hn:zFP q.2.2.2.2.2.2.2.2.2.2.1.2.2.2.1 z.2.1 with
 |none=>
  rw [hn] at hy8
  simp only at hy8
  subst hy8
  exact tt rfl (zA rfl)
 |some nb=>
  rw [hn] at hy8
  simp only at hy8
  subst hy8
  refine ff rfl ?_
  dsimp only
  cases int with
  |true=>
   refine zC (ff rfl (zA ?_))
   refine zC ((zBV q nb.2.2.2.1 x hqs hx).mono (fun y10 hy10=> ?_))
   rcases zD6 hy10 with ⟨h1,h2⟩|⟨h1,h2⟩
   ·refine tt (by rw [h1];rfl) (zA ?_)
    simp only [cond_false,cond_true,h2];rfl
   ·refine ff (by rw [h1];rfl) (tt rfl (zC (zY (zNE _ hx.path) (zA ?_))))
    simp only [cond_false,cond_true,h2];rfl
  |false=>
   refine zC (tt rfl (zA ?_))
   have hx':RtS (zFm x 0):=zX3 x 0 hx
   refine zC ((zBV q nb.2.2.2.1 (zFm x 0) hqs hx').mono (fun y10 hy10=> ?_))
   rcases zD6 hy10 with ⟨h1,h2⟩|⟨h1,h2⟩
   ·refine tt (by rw [h1];rfl) (zA ?_)
    simp only [cond_false,h2];rfl
   ·refine ff (by rw [h1];rfl) (ff rfl (zC ((zJc q nb.2.2.2.1 (zFm x 0) hqs).mono (fun y12 hy12=> ?_))))
    subst hy12
    have hpn:=zS5 hm nb.2.2.2.1 (zFm x 0)
    have hpl:=hx.path
    have hpl:x.2.2.2.2.2.2.2.2.1.length≤1048576:=hpl
    simp only [cond_false,h2]
    generalize zLA q nb.2.2.2.1 (zFm x 0)=pn at hpn
    obtain ⟨k,rfl⟩:=bG hpn.1
    rw [zH (x:=(1:Int)+(k:Int)) (by omega) (by omega)]
    have hw:IntKind.wrap .i64 ((1:Int)+(k:Int)+((List.length (zFm x 0).2.2.2.2.2.2.2.2.1:Nat):Int))=(1:Int)+(k:Int)+(x.2.2.2.2.2.2.2.2.1.length:Int):=by
     show IntKind.wrap .i64 ((1:Int)+(k:Int)+(x.2.2.2.2.2.2.2.2.1.length:Int))=_
     rw [zH (by omega) (by omega)]
    refine zJ (fun h=>zA ?_) (fun h=> ?_)
    ·have h:(1:Int)+(k:Int)+(x.2.2.2.2.2.2.2.2.1.length:Int)>64:=by rw [←hw];exact h
     rw [decide_eq_true h];rfl
    ·have h: ¬(1:Int)+(k:Int)+(x.2.2.2.2.2.2.2.2.1.length:Int)>64:=by rw [←hw];exact h
     rw [decide_eq_false h]
     refine zC ((show Wp _ (fun s:Int×Int×Int×Int×Int×Int×Int×Int×Int×List Int×Int×Int×List (Ty.El qB)×Bool=>s=(x.1.1,x.1.2.1,(5:Int),(0:Int),(0:Int),y10.1.2.2.2.2.1,(0:Int),y10.1.2.2.2.2.2.2.1,(0:Int),List.replicate (1+k) q.2.1,(0:Int),(0:Int),[],false)) from ?_).mono (fun s hs'=> ?_))
     ·refine jF (fun s:Int×Int×Int×Int×Int×Int×Int×Int×Int×Int×List Int×Int×Int×List (Ty.El qB)×Bool=> ∃j:Nat,j≤1+k∧s=((j:Int),x.1.1,x.1.2.1,(5:Int),(0:Int),(0:Int),y10.1.2.2.2.2.1,(0:Int),y10.1.2.2.2.2.2.2.1,(0:Int),List.replicate j q.2.1,(0:Int),(0:Int),[],false)) (fun s=>((1:Int)+(k:Int) -s.1).toNat) ⟨0,aI _,rfl⟩ ?_
      rintro s ⟨j,hj,rfl⟩
      refine zJ (fun hlt=> ?_) (fun hge=>zA (e2r ?_))
      ·have hlt:(j:Int)< (1:Int)+(k:Int):=hlt
       refine zC (qU (by simp only [bQ,aC];omega) (zA (e2l ⟨⟨j+1,by omega,?_⟩,?_⟩)))
       ·rw [zH (by omega) (by omega)]
        rw [List.replicate_succ']
        rfl
       ·simp only;rw [zH (by omega) (by omega)];omega
      ·have hge: ¬(j:Int)< (1:Int)+(k:Int):=hge
       have:j=1+k:=by omega
       subst this
       rfl
     ·subst hs'
      refine zC (qU (by simp only [bQ];show (2*(1+k+x.2.2.2.2.2.2.2.2.1.length)+1024)*8≤_;omega) (zA ?_))
      obtain ⟨⟨pa,pl,⟨⟩⟩,x2⟩:=x
      rfl
def qC7 (rt:Ty.El zF) (a:Int) (i:Int) (int:Bool) (m y:Ty.El zB):Ty.El zB:=
 (m.1,(5:Int),(bif int then (4:Int) else (3:Int)),(bif int then rt.2.2.2.2.2.2.2.2.2.2.1.2.2.1 else rt.2.2.2.2.2.2.2.2.2.2.1.2.1),y.2.2.2.2.1,(0:Int),y.2.2.2.2.2.2.1,y.2.2.2.2.2.2.2.1,m.2.2.2.2.2.2.2.2.1,a,(0:Int),[(i,a,())],false,())
def zOJ (rt:Ty.El zF) (a:Int) (i:Int) (int:Bool) (m:Ty.El zB):Option (Ty.El zB):=
 bif m.2.2.2.2.2.2.2.2.1.any (fun x=>x==rt.2.1) then none else
 match zFP rt.2.2.2.2.2.2.2.2.2.2.1.2.2.2.1 a with
 |none=>none
 |some nb=>(zHD rt nb.2.2.1 m).map (qC7 rt a i int m)
theorem zGh (v:Ty.El zN) (hv:zJR v) (qn kn r:Nat) (i:Int) (int:Bool) (q rt:Ty.El zF) (y:Ty.El qA) (hq:v.1.1[qn]? =some q) (hy:q.2.2.1[kn]? =some y) (hr:v.1.1[r]? =some rt) (m:Ty.El zB) (hx:RtS m):
  Wp (zAd (v,((qn:Int),(kn:Int),(r:Int),i,int,()),m,())) (fun z=>z=zZS (zOJ rt y.2.1 i int m)):=by
 unfold zAd
 dsimp only
 have hs:=hv.s
 have hrs:=hs.sm rt (af hr)
 have hrl:=(ac.1 hr).1
 have q0: ¬((r:Int)<0):=by omega
 have q1: ¬((r:Int)≥(List.length v.1.1:Int)):=by omega
 refine zC ((wO v qn kn q y hq hy).mono (fun y0 hy0=> ?_))
 subst hy0
 refine zC ((show Wp _ (fun s:Bool=>s=false) from ?_).mono (fun s hs'=> ?_))
 ·exact ff rfl (zJ (fun h=>absurd h q0) (fun _=>zA (decide_eq_false q1)))
 subst hs'
 refine ff rfl ?_
 simp only [zI hr,ae]
 refine zC ((zA6 m.2.2.2.2.2.2.2.2.1 rt.2.1 hx.path).mono (fun b hb=> ?_))
 subst hb
 unfold zOJ
 refine zD (fun h=>zA ?_) (fun h=> ?_)
 ·rw [h];rfl
 rw [h]
 refine zC ((kD rt y.2.1 hrs).mono (fun y4 hy4=> ?_))
 cases hn:zFP rt.2.2.2.2.2.2.2.2.2.2.1.2.2.2.1 y.2.1 with
 |none=>
  rw [hn] at hy4
  simp only at hy4
  subst hy4
  exact tt rfl (zA rfl)
 |some nb=>
  rw [hn] at hy4
  simp only at hy4
  subst hy4
  refine ff rfl ?_
  dsimp only
  refine zC ((zBV rt nb.2.2.1 m hrs hx).mono (fun y5 hy5=> ?_))
  rcases zD6 hy5 with ⟨h1,h2⟩|⟨h1,h2⟩
  ·refine tt (by rw [h1];rfl) (zA ?_)
   simp only [cond_false,h2];rfl
  ·refine ff (by rw [h1];rfl) (zC (zY (zNE _ hx.path) ?_))
   simp only [cond_false,h2]
   cases int with
   |true=>exact zC (zA (zA rfl))
   |false=>exact zC (zA (zA rfl))
end Go.Ve

namespace Go.Ve
open Go
set_option maxRecDepth 1000000
set_option maxHeartbeats 4000000
theorem zUH {m:Option (Ty.El zB)} {y:Ty.El zB×Bool×Unit} (h:y=zZS m):(y.2.1=false∧m=none)∨(y.2.1=true∧m=some y.1):=by
 cases m with
 |none=>exact .inl ⟨by rw [h];rfl,rfl⟩
 |some z=>exact .inr ⟨by rw [h];rfl,by rw [h];rfl⟩
theorem zVd {q:Ty.El zF} {a:Int} {int:Bool} {x m:Ty.El zB} (hm:zA4 q) (h:zKB q a int x=some m):
  ((x.2.2.1==(4:Int)&&int)=false∧zQm q x.1=false)∧((int=true∧m.2.2.2.2.2.2.2.2.1=x.2.2.2.2.2.2.2.2.1)∨(int=false∧ ∃k:Nat,k≤8∧m.2.2.2.2.2.2.2.2.1=List.replicate (1+k) q.2.1++x.2.2.2.2.2.2.2.2.1∧1+k+x.2.2.2.2.2.2.2.2.1.length≤64))∧m.2.2.2.2.2.2.2.2.2.2.2.1=[]:=by
 unfold zKB at h
 cases hh:(x.2.2.1==(4:Int)&&int)||zQm q x.1 with
 |true=>rw [hh] at h;cases h
 |false=>
  rw [hh] at h
  refine ⟨by simpa using hh,?_⟩
  simp only [cond_false] at h
  cases hn:zFP q.2.2.2.2.2.2.2.2.2.2.1.2.2.2.1 a with
  |none=>rw [hn] at h;cases h
  |some nb=>
   rw [hn] at h
   simp only at h
   cases int with
   |true=>
    simp only [cond_true] at h
    cases ha:zHD q nb.2.2.2.1 x with
    |none=>rw [ha] at h;cases h
    |some y=>
     rw [ha] at h
     have h:=(aJ h).symm
     subst h
     exact ⟨.inl ⟨rfl,rfl⟩,rfl⟩
   |false=>
    simp only [cond_false] at h
    cases ha:zHD q nb.2.2.2.1 (zFm x 0) with
    |none=>rw [ha] at h;cases h
    |some y=>
     rw [ha] at h
     simp only at h
     have hpn:=zS5 hm nb.2.2.2.1 (zFm x 0)
     generalize zLA q nb.2.2.2.1 (zFm x 0)=pn at hpn h
     obtain ⟨k,rfl⟩:=bG hpn.1
     cases hd:decide ((1:Int)+(k:Int)+(x.2.2.2.2.2.2.2.2.1.length:Int)>(64:Int)) with
     |true=>rw [hd] at h;cases h
     |false=>
      rw [hd] at h
      have h:=(aJ h).symm
      subst h
      have hd:=of_decide_eq_false hd
      refine ⟨.inr ⟨rfl,k,by omega,?_,by omega⟩,rfl⟩
      simp only [aR]
      rfl
end Go.Ve

namespace Go.Ve
open Go
set_option maxRecDepth 1000000
set_option maxHeartbeats 4000000
theorem zXC {l:List (Ty.El zT)} (hl:zVT l) {a sy:Int} (h:knB l a sy=true):
  ∃ (k:Nat) (nb:Ty.El zT),kQ (fun x:Ty.El zT=>x.1==a&&x.2.1==sy) l=(k:Int)∧l[k]? =some nb∧zFP l a=some nb:=by
 rcases zFS (fun x:Ty.El zT=>x.1==a&&x.2.1==sy) l with ⟨_,h2⟩|⟨k,nb,h1,h2,h3⟩
 ·unfold knB at h
  obtain ⟨x,hx,hp⟩:=bt.1 h
  have:=cj.1 h2 x hx
  exact absurd hp this
 ·refine ⟨k,nb,h1,h2,?_⟩
  have hp:=List.find?_some h3
  simp only [aj,beq_iff_eq] at hp
  cases hn:zFP l a with
  |none=>
   unfold zFP at hn
   have:=cj.1 hn nb (af h2)
   exact absurd (by simpa using hp.1) this
  |some nb'=>
   obtain ⟨h5,h6⟩:=zUP hn
   rw [zZ1 hl (af h2) h5 (hp.1.trans h6.symm)]
theorem zLi (v:Ty.El zN) (hv:zJR v) (qn kn r i:Nat) (int:Bool) (q rt:Ty.El zF) (z:Ty.El qA) (hq:v.1.1[qn]? =some q) (hr:v.1.1[r]? =some rt) (hz:rt.2.2.1[i]? =some z)
  (hk:knB q.2.2.2.2.2.2.2.2.2.2.1.2.2.2.1 z.2.1 rt.2.1=true) (hm:zA4 q) (x:Ty.El zB) (hx:RtS x):
  Wp (zDO (v,((qn:Int),(kn:Int),(r:Int),(i:Int),int,()),x,())) (fun y=>y=zZS (zKB q z.2.1 int x)):=by
 unfold zDO
 dsimp only
 have hs:=hv.s
 have hqs:=hs.sm q (af hq)
 have h20:q.2.2.2.2.2.2.2.2.2.2.1.2.2.2.2.2.1.length≤20:=hqs.i12
 simp only [zI hq,zI hr,ae]
 refine zC ((show Wp _ (fun s:Bool=>s=(x.2.2.1==(4:Int)&&int)) from ?_).mono (fun s hs'=> ?_))
 ·refine zD (fun h=>zA ?_) (fun h=>zA ?_)
  ·rw [h];rfl
  ·rw [h];rfl
 subst hs'
 unfold zKB
 refine zD (fun h=>zA ?_) (fun h=> ?_)
 ·rw [h];rfl
 rw [h]
 refine z8 ?_
 have hid: ∀g:Ty.El q8,Wp (bif g.2.1 then bif decide (g.1.2.1<x.1.2.1) then Option.bind (wY (g.1,x.1,())) fun (y18:Bool)=>some y18 else some false else some false) (fun b=>b=(g.2.1&&lwB x.1 g.1)):=by
  intro g
  unfold lwB
  refine zD (fun h1=> ?_) (fun h1=>zA (by rw [h1];rfl))
  rw [h1]
  refine zJ (fun h2=> ?_) (fun h2=>zA (by rw [decide_eq_false h2];rfl))
  rw [decide_eq_true h2]
  exact zC (zY (yH _ _) (zA rfl))
 refine jF (fun s:Int×Ty.El zB=> ∃k:Nat,s=((k:Int),zRW)∧k≤q.2.2.2.2.2.2.2.2.2.2.1.2.2.2.2.2.1.length∧ ∀j g,j<k→q.2.2.2.2.2.2.2.2.2.2.1.2.2.2.2.2.1[j]? =some g→(g.2.1&&lwB x.1 g.1)=false)
  (fun s=>((q.2.2.2.2.2.2.2.2.2.2.1.2.2.2.2.2.1.length:Int) -s.1).toNat) ⟨0,rfl,aI _,fun j g hj=>by omega⟩ ?_
 rintro s ⟨k,rfl,hkl,hno⟩
 refine zJ (fun hlt=> ?_) (fun hge=>zA (e2r ?_))
 ·have hlt:(k:Int)< (q.2.2.2.2.2.2.2.2.2.2.1.2.2.2.2.2.1.length:Int):=hlt
  obtain ⟨g,hg⟩: ∃g,q.2.2.2.2.2.2.2.2.2.2.1.2.2.2.2.2.1[k]? =some g:=⟨_,ai (by omega)⟩
  simp only [zI hg,ae]
  refine zC ((hid g).mono (fun b hb=> ?_))
  refine zD (fun h1=>zA (e2r (e2r ?_))) (fun h1=>zA (e2l ⟨⟨k+1,?_,by omega,?_⟩,?_⟩))
  ·have:zQm q x.1=true:=by
    unfold zQm
    exact bt.2 ⟨g,af hg,by rw [←hb];exact h1⟩
   rw [this];rfl
  ·rw [zH (by omega) (by omega)];rfl
  ·intro j y hj hy
   rcases aL j k with h'|h'
   ·exact hno j y h' hy
   ·have:j=k:=by omega
    subst this
    rw [hg] at hy
    cases hy
    rw [←hb];exact h1
  ·simp only;rw [zH (by omega) (by omega)];omega
 ·have hge: ¬(k:Int)< (q.2.2.2.2.2.2.2.2.2.2.1.2.2.2.2.2.1.length:Int):=hge
  have hhid:zQm q x.1=false:=by
   unfold zQm
   rw [cH]
   intro g hg
   obtain ⟨j,hj,rfl⟩:=aD hg
   rw [hno j _ (by omega) (by simp [hj])]
   decide
  refine e2l ?_
  rw [hhid]
  simp only [zI hz,ae]
  refine zC ((zBi q z.2.1 rt.2.1 hqs).mono (fun p hp=> ?_))
  obtain ⟨pk,nb,h1,h2,h3⟩:=zXC (hv.nb q (af hq)) hk
  rw [h1] at hp
  subst hp
  refine zC (zY (zI h2) ?_)
  rw [h3]
  cases int with
  |true=>
   refine zC (zA ?_)
   refine zC ((zDu q nb.2.2.2.1 x hqs hm).mono (fun y10 hy10=> ?_))
   rcases zD6 hy10 with ⟨g1,g2⟩|⟨g1,g2⟩
   ·refine tt (by rw [g1];rfl) (zA ?_)
    simp only [cond_false,cond_true,g2,c7,c8]
    rfl
   ·have hpl:=hx.path
    have hpl:x.2.2.2.2.2.2.2.2.1.length≤1048576:=hpl
    refine ff (by rw [g1];rfl) (zC (qU (by simp only [av];omega) (tt rfl (zA ?_))))
    simp only [cond_false,cond_true,g2,c7,c8,bM]
    rfl
  |false=>
   refine zC (zA ?_)
   refine zC ((zDu q nb.2.2.2.1 (zFm x 0) hqs hm).mono (fun y10 hy10=> ?_))
   rcases zD6 hy10 with ⟨g1,g2⟩|⟨g1,g2⟩
   ·refine tt (by rw [g1];rfl) (zA ?_)
    simp only [cond_false,g2,c7,Bool.and_false]
    rfl
   ·have hpl:=hx.path
    have hpl:x.2.2.2.2.2.2.2.2.1.length≤1048576:=hpl
    refine ff (by rw [g1];rfl) (zC (qU (by simp only [av];show (2*(0+x.2.2.2.2.2.2.2.2.1.length)+1024)*8≤_;omega) (ff rfl ?_)))
    have hpn:=zS5 hm nb.2.2.2.1 (zFm x 0)
    simp only [cond_false,g2,c7,Bool.and_false,bM]
    have hpre: ∀ (K:Int→Option (Int×Ty.El zB ⊕ Ty.El zB)) (Q:(Int×Ty.El zB ⊕ Ty.El zB)→Prop),Wp (K (zLA q nb.2.2.2.1 (zFm x 0))) Q→Wp (Option.bind (zB2 (q,nb.2.2.2.1,zFm x 0,())) K) Q:=by
     intro K Q hK
     exact zC ((zLf q nb.2.2.2.1 (zFm x 0) hqs).mono (fun y hy=>by subst hy;exact hK))
    generalize zLA q nb.2.2.2.1 (zFm x 0)=pn at hpn hpre
    obtain ⟨k0,rfl⟩:=bG hpn.1
    refine zC ((show Wp _ (fun s:Ty.El zB=>s=(x.1,(5:Int),(0:Int),(0:Int),y10.1.2.2.2.2.1,(0:Int),y10.1.2.2.2.2.2.2.1,(100:Int),List.replicate (1+k0) q.2.1++x.2.2.2.2.2.2.2.2.1,(0:Int),(0:Int),[],false,())) from ?_).mono (fun s hs'=> ?_))
    ·refine jF (fun s:Int×Ty.El zB=> ∃j:Nat,j≤1+k0∧s=((j:Int),(x.1,(5:Int),(0:Int),(0:Int),y10.1.2.2.2.2.1,(0:Int),y10.1.2.2.2.2.2.2.1,(100:Int),List.replicate j q.2.1++x.2.2.2.2.2.2.2.2.1,(0:Int),(0:Int),[],false,()))) (fun s=>((1:Int)+(k0:Int) -s.1).toNat) ⟨0,aI _,rfl⟩ ?_
     rintro s ⟨j,hj,rfl⟩
     refine hpre _ _ ?_
     refine zJ (fun hlt=> ?_) (fun hge=>zA (e2r ?_))
     ·have hlt:(j:Int)≤(k0:Int):=hlt
      refine zC (qU (by simp only [aH,bQ,aC];omega) (zA (e2l ⟨⟨j+1,by omega,?_⟩,?_⟩)))
      ·rw [zH (by omega) (by omega)]
       rw [List.replicate_succ]
       rfl
      ·simp only;rw [zH (by omega) (by omega)];omega
     ·have hge: ¬(j:Int)≤(k0:Int):=hge
      have:j=1+k0:=by omega
      subst this
      rfl
    ·subst hs'
     have hlen:((List.length (List.replicate (1+k0) q.2.1++x.2.2.2.2.2.2.2.2.1):Nat):Int)=(1:Int)+(k0:Int)+(x.2.2.2.2.2.2.2.2.1.length:Int):=by
      simp only [aH,bQ];omega
     refine zJ (fun h=>zA ?_) (fun h=>zA ?_)
     ·have h:((List.length (List.replicate (1+k0) q.2.1++x.2.2.2.2.2.2.2.2.1):Nat):Int)>64:=h
      rw [hlen] at h
      rw [decide_eq_true h];rfl
     ·have h: ¬((List.length (List.replicate (1+k0) q.2.1++x.2.2.2.2.2.2.2.2.1):Nat):Int)>64:=h
      rw [hlen] at h
      rw [decide_eq_false h];rfl
theorem zLh (v:Ty.El zN) (hv:zJR v) (qn kn r:Nat) (i:Int) (int:Bool) (q rt:Ty.El zF) (y:Ty.El qA) (hq:v.1.1[qn]? =some q) (hy:q.2.2.1[kn]? =some y) (hr:v.1.1[r]? =some rt)
  (hk:knB rt.2.2.2.2.2.2.2.2.2.2.1.2.2.2.1 y.2.1 q.2.1=true) (hmr:zA4 rt) (m:Ty.El zB) (hx:RtS m):
  Wp (zDN (v,((qn:Int),(kn:Int),(r:Int),i,int,()),m,())) (fun z=>z=zZS (zOJ rt y.2.1 i int m)):=by
 unfold zDN
 dsimp only
 have hs:=hv.s
 have hrs:=hs.sm rt (af hr)
 have hpl:=hx.path
 have hpl:m.2.2.2.2.2.2.2.2.1.length≤1048576:=hpl
 simp only [zI hq,zI hr,ae]
 unfold zOJ
 refine z8 ?_
 refine jF (fun s:Int×Ty.El zB=> ∃k:Nat,s=((k:Int),zRW)∧k≤m.2.2.2.2.2.2.2.2.1.length∧ ∀ (j:Nat) (g:Int),j<k→m.2.2.2.2.2.2.2.2.1[j]? =some g→(g==rt.2.1)=false)
  (fun s=>((m.2.2.2.2.2.2.2.2.1.length:Int) -s.1).toNat) ⟨0,rfl,aI _,fun j g hj=>by omega⟩ ?_
 rintro s ⟨k,rfl,hkl,hno⟩
 refine zJ (fun hlt=> ?_) (fun hge=>zA (e2r ?_))
 ·have hlt:(k:Int)< (m.2.2.2.2.2.2.2.2.1.length:Int):=hlt
  obtain ⟨g,hg⟩: ∃g:Int,m.2.2.2.2.2.2.2.2.1[k]? =some g:=⟨_,ai (by omega)⟩
  refine zC (zY (zI hg) ?_)
  refine zD (fun h1=>zA (e2r (e2r ?_))) (fun h1=>zA (e2l ⟨⟨k+1,?_,by omega,?_⟩,?_⟩))
  ·have:m.2.2.2.2.2.2.2.2.1.any (fun x:Int=>x==rt.2.1)=true:=bt.2 ⟨g,af hg,h1⟩
   rw [this];rfl
  ·rw [zH (by omega) (by omega)];rfl
  ·intro j y hj hy
   rcases aL j k with h'|h'
   ·exact hno j y h' hy
   ·have:j=k:=by omega
    subst this
    rw [hg] at hy
    cases hy
    exact h1
  ·simp only;rw [zH (by omega) (by omega)];omega
 ·have hge: ¬(k:Int)< (m.2.2.2.2.2.2.2.2.1.length:Int):=hge
  have hany:m.2.2.2.2.2.2.2.2.1.any (fun x:Int=>x==rt.2.1)=false:=by
   rw [cH]
   intro g hg
   obtain ⟨j,hj,rfl⟩:=aD hg
   rw [hno j _ (by omega) (by simp [hj])]
   decide
  refine e2l ?_
  rw [hany]
  refine zC (zY (zI hy) ?_)
  refine zC ((zBi rt y.2.1 q.2.1 hrs).mono (fun p hp=> ?_))
  obtain ⟨pk,nb,h1,h2,h3⟩:=zXC (hv.nb rt (af hr)) hk
  rw [h1] at hp
  subst hp
  refine zC (zY (zI h2) ?_)
  rw [h3]
  refine zC ((zDu rt nb.2.2.1 m hrs hmr).mono (fun y10 hy10=> ?_))
  rcases zD6 hy10 with ⟨g1,g2⟩|⟨g1,g2⟩
  ·refine tt (by rw [g1];rfl) (zA ?_)
   simp only [cond_false,g2]
   rfl
  ·refine ff (by rw [g1];rfl) (zC (qU (by simp only [av];omega) ?_))
   simp only [cond_false,g2,bM]
   cases int with
   |true=>exact zC (zA (zA rfl))
   |false=>exact zC (zA (zA rfl))
theorem qBN {q:Ty.El zF} {a:Int} {int:Bool} {x m:Ty.El zB} (hm:zA4 q) (hx:RtS x) (h:zKB q a int x=some m):RtS m:=by
 obtain ⟨_,h1,h2⟩:=zVd hm h
 refine ⟨?_,by rw [h2];exact aI _⟩
 rcases h1 with ⟨_,h1⟩|⟨_,k,_,h1,h3⟩
 ·rw [h1];exact hx.path
 ·rw [h1,aH,bQ];omega
end Go.Ve

namespace Go.Ve
open Go
set_option maxRecDepth 1000000
set_option maxHeartbeats 4000000
def zEO (v:Ty.El zN) (t:List (Ty.El zB)) (s:Ty.El zK):List (Ty.El zB):=
 match v.1.1[Int.toNat s.1]?,v.1.1[Int.toNat s.2.2.1]? with
 |some q,some rt=>match q.2.2.1[Int.toNat s.2.1]?,rt.2.2.1[Int.toNat s.2.2.2.1]? with
  |some y,some z=>t.filterMap (fun x=>(zKB q z.2.1 s.2.2.2.2.1 x).bind (zOJ rt y.2.1 s.2.2.2.1 s.2.2.2.2.1))
  |_,_=>[]
 |_,_=>[]
def zDb (s:List (Ty.El zS)) (k:Int):List (Ty.El zB):=
 match s[Int.toNat k]? with
 |some t=>t.2.2.1
 |none=>[]
def zMS (v:Ty.El zN) (s:List (Ty.El zS)) (r:Nat):List (Ty.El zB):=(zBW v r).flatMap (fun x=>zEO v (zDb s x.1) x)
theorem zXv {v:Ty.El zN} {r:Nat} {x:Ty.El zK} (h:x∈zBW v r):x.2.2.1=(r:Int):=by
 unfold zBW at h
 split at h
 ·rename_i rt hr
  obtain ⟨i,_,h⟩:=cg.1 h
  unfold zBJ at h
  split at h
  ·rename_i z hz
   cases hb:rt.2.2.2.2.2.2.2.2.2.2.1.1 with
   |false=>rw [hb] at h;cases h
   |true=>
    rw [hb] at h
    simp only [cond_true] at h
    obtain ⟨e,_,h⟩:=bi.1 h
    unfold zMR at h
    split at h
    ·rename_i q hq
     split at h
     ·rename_i y hy
      cases hs:zOm rt q z y with
      |false=>rw [hs] at h;cases h
      |true=>
       rw [hs] at h
       simp only [cond_true,aa] at h
       rw [←h]
     ·cases h
    ·cases h
  ·cases h
 ·cases h
theorem zIg {α β:Type} {f:α→List β} : ∀ {xs:List α},(∀x,x∈xs→f x=[])→xs.flatMap f=[]
 |[],_=>rfl
 |x::xs,h=>by rw [cT,h x (by simp),zIg (fun y hy=>h y (aw _ hy))];rfl
theorem zEv {α β:Type} {f g:α→List β} : ∀ {xs:List α},(∀x,x∈xs→f x=g x)→xs.flatMap f=xs.flatMap g
 |[],_=>rfl
 |x::xs,h=>by rw [cT,cT,h x (by simp),zEv (fun y hy=>h y (aw _ hy))]
theorem zZt {v:Ty.El zN} {β:Type} (f:Ty.El zK→List β) (r:Nat) (hr:r<v.1.1.length):
  (zGj v).flatMap (fun x=>bif x.2.2.1==(r:Int) then f x else [])=(zBW v r).flatMap f:=by
 unfold zGj
 rw [List.flatMap_assoc]
 have hone: ∀m,(zBW v m).flatMap (fun x=>bif x.2.2.1==(r:Int) then f x else [])=if m=r then (zBW v r).flatMap f else []:=by
  intro m
  by_cases hm:m=r
  ·subst hm
   rw [if_pos rfl]
   exact zEv (fun x hx=>by rw [zXv hx];simp)
  ·rw [if_neg hm]
   refine zIg (fun x hx=> ?_)
   rw [zXv hx]
   have:((m:Int)==(r:Int))=false:=by
    have: ¬(m:Int)=(r:Int):=by omega
    simpa using this
   rw [this];rfl
 simp only [hone]
 have: ∀n,r<n→(List.range n).flatMap (fun m=>if m=r then (zBW v r).flatMap f else [])=(zBW v r).flatMap f:=by
  intro n
  induction n with
  |zero=>intro h;omega
  |succ n ih=>
   intro h
   rw [cR,bV]
   by_cases hn:r<n
   ·rw [ih hn]
    simp [show ¬n=r by omega]
   ·have hrn:n=r:=by omega
    subst hrn
    rw [zIg (fun x hx=>if_neg (by have:=bd.1 hx;omega))]
    simp
 exact this _ hr
theorem zHX {v:Ty.El zN} {t:List (Ty.El zB)} {s:Ty.El zK} :(zEO v t s).length≤t.length:=by
 unfold zEO
 split
 ·split
  ·exact aF _ _
  ·exact aI _
 ·exact aI _
theorem zUA {v:Ty.El zN} (hv:xY v) {s:List (Ty.El zS)} (h: ∀t,t∈s→t.2.2.1.length≤12) (r:Nat):(zMS v s r).length≤86400:=by
 have h1:=j6 (xs:=zBW v r) (f:=fun x=>zEO v (zDb s x.1) x) (k:=12) (fun x _=>ay zHX (by
  unfold zDb
  split
  ·rename_i t ht
   exact h t (af ht)
  ·exact aI _))
 have h2:=zLp hv r
 unfold zMS
 omega
end Go.Ve

namespace Go.Ve
open Go
set_option maxRecDepth 1000000
set_option maxHeartbeats 4000000
structure qB2 (l:List (Ty.El qO)) (into least most:Int):Prop where
 len:l.length≤4
 at_: ∀d,d∈l→(1≤d.1∧d.1≤5)∧d.1≠into∧(least≤d.2.1∧d.2.1≤most)∧(0≤d.2.2.1∧d.2.2.1≤65535)
 one: ∀ (i j:Nat) x y,j<i→l[i]? =some x→l[j]? =some y→y.1≠x.1
theorem zJC (r:Ty.El zF) (l:List (Ty.El qO)) (into least most:Int) (hr:SmR r):Wp (jD (r,l,into,least,most,())) (fun e=>e=0→qB2 l into least most):=by
 unfold jD
 dsimp only
 refine zJ (fun _=>zA (fun h=>by cases h)) (fun h4=> ?_)
 have h4:l.length≤4:=by omega
 refine uY (by omega) (fun i=> ∀m x,m<i→l[m]? =some x→((1≤x.1∧x.1≤5)∧x.1≠into∧(least≤x.2.1∧x.2.1≤most)∧(0≤x.2.2.1∧x.2.2.1≤65535))∧ ∀j y,j<m→l[j]? =some y→y.1≠x.1) (fun m x hm=>by omega) ?_ (fun hj=>zA (fun _=>⟨h4,?_,fun i j x y hji hx hy=>(hj i x (ac.1 hx).1 hx).2 j y hji hy⟩))
 ·intro i x hx hj
  have hi:=(ac.1 hx).1
  simp only [zI hx,ae]
  refine z8 (zC ((show Wp _ (fun s:Bool=>s=false→(1≤x.1∧x.1≤5)∧x.1≠into∧(least≤x.2.1∧x.2.1≤most)∧(0≤x.2.2.1∧x.2.2.1≤65535)) from ?_).mono (fun s hs=> ?_)))
  ·refine zC (zY (z7 _ _ _) (zD (fun _=>zA (fun h=>by cases h)) (fun q1=>zD (fun _=>zA (fun h=>by cases h)) (fun q2=> ?_))))
   refine zC (zY (z7 _ _ _) (zD (fun _=>zA (fun h=>by cases h)) (fun q3=> ?_)))
   refine zC (zY (z7 _ _ _) (zA (fun q4=>⟨by simpa using q1,by simpa using q2,by simpa using q3,by simpa using q4⟩)))
  refine zD (fun _=>zA (fun h=>by cases h)) (fun hs0=> ?_)
  have hx0:=hs hs0
  refine zC ((show Wp _ (fun _:Bool=>True) from ?_).mono (fun s _=> ?_))
  ·repeat' (first
    |exact zA trivial
    |refine zD (fun _=> ?_) (fun _=> ?_))
  refine zD (fun _=>zA (fun h=>by cases h)) (fun _=> ?_)
  refine zC ((show Wp _ (fun _:Bool=>True) from ?_).mono (fun s _=> ?_))
  ·exact zD (fun _=>zC ((zAa r _ hr).mono (fun k _=>zA trivial))) (fun _=>zA trivial)
  refine zD (fun _=>zA (fun h=>by cases h)) (fun _=> ?_)
  refine zBN (n:=i) (P:=fun j=> ∀y,l[j]? =some y→y.1≠x.1) (by omega) ?_ (fun hall=>e2l (zA (e2l ⟨rfl,?_⟩)))
  ·intro j hjl
   obtain ⟨y,hy⟩: ∃y,l[j]? =some y:=⟨_,ai (by omega)⟩
   simp only [zI hy,ae]
   refine zD (fun _=>zA (fun h=>by cases h)) (fun hn=>zA (e2l ⟨rfl,?_⟩))
   intro z hz
   rw [hy] at hz
   cases hz
   simpa using hn
  ·intro m z hm hz
   rcases aL m i with h'|h'
   ·exact hj m z h' hz
   ·have:m=i:=by omega
    subst this
    rw [hx] at hz
    cases hz
    exact ⟨hx0,fun j y hjm hy=>hall j hjm y hy⟩
 ·intro d hd
  obtain ⟨m,hm,rfl⟩:=aD hd
  exact (hj m _ hm (by simp [hm])).1
structure qDp (x:Ty.El tPV):Prop where
 nets: ∀p,p∈x.2.2.2.2.1→x5 p=true
 aggs: ∀g,g∈x.2.2.2.2.2.1→x5 g.1=true
 cond: ∀c,c∈x.2.2.2.2.2.2.1→x5 c.1=true∧x5 c.2.1=true
theorem zNG (x:Ty.El tPV) (h2:x.2.2.2.2.1.length≤20) (h3:x.2.2.2.2.2.1.length≤20) (h4:x.2.2.2.2.2.2.1.length≤20):Wp (vJ (x,())) (fun e=>e=0→qDp x):=by
 unfold vJ
 dsimp only
 refine zJ (fun _=>zA (fun h=>by cases h)) (fun _=> ?_)
 refine zAW (P:=fun p:Ty.El zG=>x5 p=true) (by omega) ?_ (fun hnets=> ?_)
 ·intro i p hp
  have hi:=(ac.1 hp).1
  simp only [zI hp,ae]
  refine z8 (zC (zY (kS _) (zD (fun _=>zA (fun h=>by cases h)) (fun q=> ?_))))
  refine zBN (n:=i) (P:=fun _=>True) (by omega) ?_ (fun _=>e2l (zA (e2l ⟨rfl,by simpa using q⟩)))
  intro j hj
  obtain ⟨y,hy⟩: ∃y,x.2.2.2.2.1[j]? =some y:=⟨_,ai (by omega)⟩
  simp only [zI hy,ae]
  exact zD (fun _=>zA (fun h=>by cases h)) (fun _=>zA (e2l ⟨rfl,trivial⟩))
 refine zJ (fun _=>zA (fun h=>by cases h)) (fun _=> ?_)
 refine zAW (P:=fun g:Ty.El q8=>x5 g.1=true) (by omega) ?_ (fun haggs=> ?_)
 ·intro i p hp
  have hi:=(ac.1 hp).1
  simp only [zI hp,ae]
  refine z8 (zC (zY (kS _) (zD (fun _=>zA (fun h=>by cases h)) (fun q=> ?_))))
  refine zBN (n:=i) (P:=fun _=>True) (by omega) ?_ (fun _=>e2l (zA (e2l ⟨rfl,by simpa using q⟩)))
  intro j hj
  obtain ⟨y,hy⟩: ∃y,x.2.2.2.2.2.1[j]? =some y:=⟨_,ai (by omega)⟩
  simp only [zI hy,ae]
  exact zD (fun _=>zA (fun h=>by cases h)) (fun _=>zA (e2l ⟨rfl,trivial⟩))
 refine zJ (fun _=>zA (fun h=>by cases h)) (fun _=> ?_)
 refine zAW (P:=fun c:Ty.El zAi=>x5 c.1=true∧x5 c.2.1=true) (by omega) ?_ (fun hcond=>zA (fun _=>⟨hnets,haggs,hcond⟩))
 intro i p hp
 have hi:=(ac.1 hp).1
 simp only [zI hp,ae]
 refine z8 (zC ((show Wp _ (fun s:Bool=>s=false→x5 p.1=true∧x5 p.2.1=true) from ?_).mono (fun s hs=> ?_)))
 ·exact zC (zY (kS _) (zD (fun _=>zA (fun h=>by cases h)) (fun q=>zC (zY (kS _) (zA (fun q2=>⟨by simpa using q,by simpa using q2⟩))))))
 refine zD (fun _=>zA (fun h=>by cases h)) (fun hs0=>zD (fun _=>zA (fun h=>by cases h)) (fun _=> ?_))
 refine zBN (n:=i) (P:=fun _=>True) (by omega) ?_ (fun _=>e2l (zA (e2l ⟨rfl,hs hs0⟩)))
 intro j hj
 obtain ⟨y,hy⟩: ∃y,x.2.2.2.2.2.2.1[j]? =some y:=⟨_,ai (by omega)⟩
 simp only [zI hy,ae]
 exact zD (fun _=>zA (fun h=>by cases h)) (fun _=>zA (e2l ⟨rfl,trivial⟩))
structure PvC (r:Ty.El zF):Prop where
 sys:1≤r.2.1∧r.2.1≤65535
 ext:1≤r.2.2.2.2.2.2.2.2.2.2.1.2.1∧r.2.2.2.2.2.2.2.2.2.2.1.2.1≤255
 int:1≤r.2.2.2.2.2.2.2.2.2.2.1.2.2.1∧r.2.2.2.2.2.2.2.2.2.2.1.2.2.1≤255
 org:qDp r.2.2.2.2.2.2.2.2.2.2.1
 red:qB2 r.2.2.2.2.2.2.2.2.2.2.1.2.2.2.2.2.2.2.1 5 0 16777215
theorem zOZ (r:Ty.El zF) (hr:SmR r) (hon:r.2.2.2.2.2.2.2.2.2.2.1.1=true) (hasn:0≤r.2.1∧r.2.1≤65535):Wp (wE (r,())) (fun e=>e=0→PvC r):=by
 unfold wE
 dsimp only
 have h2:r.2.2.2.2.2.2.2.2.2.2.1.2.2.2.2.1.length≤20:=hr.i11
 have h3:r.2.2.2.2.2.2.2.2.2.2.1.2.2.2.2.2.1.length≤20:=hr.i12
 have h4:r.2.2.2.2.2.2.2.2.2.2.1.2.2.2.2.2.2.1.length≤20:=hr.i13
 rw [hon]
 refine zD (fun h=>by cases h) (fun _=> ?_)
 refine zC ((show Wp _ (fun s:Bool=>s=false→r.2.1≠0∧(1≤r.2.2.2.2.2.2.2.2.2.2.1.2.1∧r.2.2.2.2.2.2.2.2.2.2.1.2.1≤255)∧(1≤r.2.2.2.2.2.2.2.2.2.2.1.2.2.1∧r.2.2.2.2.2.2.2.2.2.2.1.2.2.1≤255)) from ?_).mono (fun s hs=> ?_))
 ·refine zD (fun _=>zA (fun h=>by cases h)) (fun q1=> ?_)
  refine zC (zY (z7 _ _ _) (zD (fun _=>zA (fun h=>by cases h)) (fun q2=> ?_)))
  refine zC (zY (z7 _ _ _) (zA (fun q3=>⟨by simpa using q1,by simpa using q2,by simpa using q3⟩)))
 refine zD (fun _=>zA (fun h=>by cases h)) (fun hs0=> ?_)
 obtain ⟨g1,g2,g3⟩:=hs hs0
 refine zC ((zJO r hr).mono (fun y6 _=> ?_))
 have ne: ∀y:Int,(y !=(0:Int))=true→y=0→PvC r:=fun y h1 h2=>by rw [h2] at h1;cases h1
 refine zD (fun hne=>zA (fun h=>ne _ hne h)) (fun _=> ?_)
 refine zC ((zNG _ h2 h3 h4).mono (fun y7 hy7=> ?_))
 refine zD (fun hne=>zA (fun h=>ne _ hne h)) (fun h7=> ?_)
 have horg:=hy7 (by simpa using h7)
 refine zC ((zJC r _ _ _ _ hr).mono (fun y8 hy8=>zA (fun h=> ?_)))
 have u: ∀a:Int,0≤a→a≠0→1≤a:=fun a h0 h1=>by omega
 exact ⟨⟨u _ hasn.1 g1,hasn.2⟩,g2,g3,horg,hy8 h⟩
theorem qCs {r:Ty.El zF} (h:zY3 r) (hs:SmR r) (hon:r.2.2.2.2.2.2.2.2.2.2.1.1=true):PvC r:=by
 obtain ⟨e,h1,h2⟩:=zOZ r hs hon h.asn
 have:=h.pv
 rw [this] at h1
 exact h2 (aJ h1).symm
end Go.Ve

namespace Go.Ve
open Go
set_option maxRecDepth 1000000
set_option maxHeartbeats 4000000
def zLu (r:Ty.El zF) (d:Ty.El qO) (x:Ty.El zB):Option (Int×Int):=
 bif d.2.2.2.1==({ data:= #[] } :ByteArray) then some (d.2.1,d.2.2.1) else
 (zDx r d.2.2.2.1 x).map (fun c=>((bif c.2.2.2.1==(-1:Int) then d.2.1 else c.2.2.2.1),(bif c.2.2.2.2.1==(-1:Int) then d.2.2.1 else c.2.2.2.2.1)))
def zOI (r:Ty.El zF) (p:Ty.El zG) (m t:Int):Ty.El zB:=
 (p,(5:Int),(1:Int),r.2.2.2.2.2.2.2.2.2.2.1.2.2.1,m,(0:Int),t,(100:Int),[],(0:Int),(0:Int),[],false,())
def zRl (r:Ty.El zF) (d:Ty.El qO) (x:Ty.El zB):Option (Ty.El zB):=(zLu r d x).map (fun mt=>zOI r x.1 mt.1 mt.2)
def zKu (x:Ty.El zB):Bool:=x.2.2.2.2.2.2.2.2.2.2.2.2.1&&(x.2.1 !=(2:Int))
def zWh (r:Ty.El zF) (l:List (Ty.El qO)) (x:Ty.El zB):Option (Ty.El zB):=
 bif zKu x then none else (l.find? (fun d=>d.1==x.2.1)).bind (fun d=>zRl r d x)
def zZJ (r:Ty.El zF) (l:List (Ty.El qO)) (rib:List (Ty.El zB)):List (Ty.El zB):=rib.filterMap (zWh r l)
theorem zOi (r:Ty.El zF) (d:Ty.El qO) (x:Ty.El zB) (hr:SmR r):Wp (zGl (r,d,x,())) (fun y=>(y.2.2.1=false∧zLu r d x=none)∨(y.2.2.1=true∧zLu r d x=some (y.1,y.2.1))):=by
 unfold zGl
 dsimp only
 refine zD (fun h=>zA (.inr ⟨rfl,by unfold zLu;rw [h];rfl⟩)) (fun h=> ?_)
 have hT:zLu r d x=(zDx r d.2.2.2.1 x).map (fun c=>((bif c.2.2.2.1==(-1:Int) then d.2.1 else c.2.2.2.1),(bif c.2.2.2.2.1==(-1:Int) then d.2.2.1 else c.2.2.2.2.1))):=by unfold zLu;rw [h];rfl
 rw [hT]
 refine zC ((zAY r _ hr).mono (fun k hk=> ?_))
 subst hk
 refine zC ((zEg r _ x hr).mono (fun k hk=> ?_))
 rcases hk with ⟨h1,h2⟩|⟨i,j,m,c,rfl,h2,h3,h4,h5⟩
 ·have hp:zDx r d.2.2.2.1 x=none:=by unfold zDx;rw [h2]
  rw [hp]
  refine zC (Wp.mono (Q:=fun b=>b=true) ?_ (fun b hb=> ?_))
  ·exact zJ (fun _=>zA rfl) (fun _=>zJ (fun _=>zA rfl) (fun _=>zJ (fun _=>zA rfl) (fun h=>absurd h1 h)))
  ·subst hb
   exact tt rfl (zA (.inl ⟨rfl,rfl⟩))
 ·rw [h2]
  have hj:=(ac.1 h3).1
  have hi:=(ac.1 h4).1
  refine zC (Wp.mono (Q:=fun b=>b=false) ?_ (fun b hb=> ?_))
  ·refine zJ (fun h=>absurd h (by omega)) (fun _=>zJ (fun h=>absurd h (by omega)) (fun _=>zJ (fun h=>absurd h (by omega)) (fun _=> ?_)))
   simp only [zI h3,ae]
   exact zA (decide_eq_false (by omega))
  ·subst hb
   refine ff rfl ?_
   simp only [zI h3,zI h4,ae]
   refine zC (Wp.mono (Q:=fun s=>s=(bif c.2.2.2.1==(-1:Int) then d.2.1 else c.2.2.2.1)) ?_ (fun s9 h9=> ?_))
   ·refine zD (fun h=>zA ?_) (fun h=>zA ?_)
    ·have h:(c.2.2.2.1==(-1:Int))=false:=by simpa [bne] using h
     rw [h];rfl
    ·have h:(c.2.2.2.1==(-1:Int))=true:=by simpa [bne] using h
     rw [h];rfl
   refine zC (Wp.mono (Q:=fun s=>s=(bif c.2.2.2.2.1==(-1:Int) then d.2.2.1 else c.2.2.2.2.1)) ?_ (fun s10 h10=> ?_))
   ·refine zD (fun h=>zA ?_) (fun h=>zA ?_)
    ·have h:(c.2.2.2.2.1==(-1:Int))=false:=by simpa [bne] using h
     rw [h];rfl
    ·have h:(c.2.2.2.2.1==(-1:Int))=true:=by simpa [bne] using h
     rw [h];rfl
   refine zA ?_
   subst h9
   subst h10
   unfold zDx
   rw [h5]
   cases hc:c.1 with
   |false=>exact .inl ⟨rfl,by simp [hc]⟩
   |true=>exact .inr ⟨rfl,by simp [hc]⟩
theorem zOj (r:Ty.El zF) (d:Ty.El qO) (p:Ty.El zG) (m t:Int):
  zKi (p,(5:Int),(0:Int),(0:Int),m,(0:Int),t,(0:Int),[],(0:Int),(0:Int),[],false,()) (r,d,())=some (zOI r p m t,true):=rfl
theorem zZb {γ:Type} {l:List (Ty.El qO)} {p:Ty.El qO→Bool} {acc:γ} {Q:Int×γ→Prop} (hl:l.length<4611686018427387904) (h:Q (kQ p l,acc)):
  Wp (zL (fun (s : Int × γ × Int) => bif decide (s.1 < (l.length : Int)) then
      Option.bind (idx l s.1) fun (y:Ty.El qO)=>bif p y then some (Sum.inr (s.1,s.2.1)) else some (Sum.inl (IntKind.wrap .i64 (s.1+(1:Int)),s.2))
   else some (Sum.inr (s.2.2,s.2.1))) ((0:Int),acc,(-1:Int))) Q:=by
 refine jF (fun (s:Int×γ×Int)=> ∃i:Nat,s=((i:Int),acc,(-1:Int))∧i≤l.length∧ ∀j y,j<i→l[j]? =some y→p y=false) (fun s=>((l.length:Int) -s.1).toNat) ⟨0,rfl,aI _,fun j y hj=>by omega⟩ ?_
 rintro s ⟨i,rfl,hi,hj⟩
 refine zJ (fun hlt=> ?_) (fun hge=> ?_)
 ·have hlt:(i:Int)< (l.length:Int):=hlt
  obtain ⟨y,hy⟩: ∃y,l[i]? =some y:=⟨_,ai (by omega)⟩
  simp only [zI hy,ae]
  refine zD (fun hp=>zA (e2r ?_)) (fun hp=>zA (e2l ⟨⟨i+1,?_,by omega,?_⟩,?_⟩))
  ·have:kQ p l=(i:Int):=by
    rcases zEw p l with ⟨h1,h2⟩|⟨k,x,h1,h2,h3,h4⟩
    ·rw [h2 y (af hy)] at hp;cases hp
    ·have:k=i:=by
      rcases cG k i with h'|h'|h'
      ·rw [hj k x h' h2] at h3;cases h3
      ·exact h'
      ·rw [h4 i y h' hy] at hp;cases hp
     rw [h1,this]
   rw [←this];exact h
  ·rw [zH (by omega) (by omega)];rfl
  ·intro j z hjl hz
   rcases aL j i with h'|h'
   ·exact hj j z h' hz
   ·have:j=i:=by omega
    subst this
    rw [hy] at hz
    cases hz
    exact hp
  ·simp only
   rw [zH (by omega) (by omega)]
   omega
 ·have hge: ¬(i:Int)< (l.length:Int):=hge
  have:kQ p l= -1:=zIW (fun x hx=>by
   obtain ⟨k,hk,rfl⟩:=aD hx
   exact hj k _ (by omega) (by simp [hk]))
  exact zA (e2r (by rw [←this];exact h))
theorem zHl (r:Ty.El zF) (l:List (Ty.El qO)) (rib:List (Ty.El zB)) (hr:SmR r) (hl:l.length≤20) (hb:rib.length≤1048576):
  Wp (zAC (r,l,rib,(5:Int),())) (fun o=>o=zZJ r l rib):=by
 unfold zAC
 dsimp only
 refine zC (qZ (xs:=rib) (by omega) (fun j (g:List (Ty.El zB))=>g=(rib.take j).filterMap (zWh r l)) (by simp) ?_ (fun g hg=>zA (by rw [hg,aN];rfl)))
 intro j x g hx hg
 have hgl:g.length≤1048576:=by rw [hg];exact ay (aF _ _) (ay (bl _ _) hb)
 simp only [zI hx,ae]
 rw [qT hx, ←hg]
 refine zC (zZb (l:=l) (p:=fun d=>d.1==x.2.1) (acc:=g) (by omega) ?_)
 unfold zWh
 rcases zFS (fun d:Ty.El qO=>d.1==x.2.1) l with ⟨h1,h2⟩|⟨i,d,h1,h2,h3⟩
 ·rw [h1,h2]
  refine zC (Wp.mono (Q:=fun s=>s=(true,g)) (zJ (fun _=>zA rfl) (fun h=>absurd (show (-1:Int)<0 by decide) h)) (fun s hs=> ?_))
  subst hs
  refine tt rfl (zA ?_)
  cases zKu x<;>simp
 ·rw [h1,h3]
  refine zC (Wp.mono (Q:=fun s=>s=(zKu x,g)) (zJ (fun h=>absurd h (by simp only;omega)) (fun _=>zD (fun h=>zA ?_) (fun h=>zA ?_))) (fun s hs=> ?_))
  ·unfold zKu;rw [h];rfl
  ·unfold zKu;rw [h];rfl
  subst hs
  refine zD (fun h=>zA ?_) (fun h=> ?_)
  ·have h:zKu x=true:=h
   rw [h];simp
  ·have h:zKu x=false:=h
   rw [h]
   simp only [zI h2,ae,cond_false]
   refine zC ((zOi r d x hr).mono (fun y hy=> ?_))
   rcases hy with ⟨h4,h5⟩|⟨h4,h5⟩
   ·refine tt (by rw [h4];rfl) (zA ?_)
    unfold zRl
    rw [h5];simp
   ·refine ff (by rw [h4];rfl) ?_
    refine zC (zY (zOj r d x.1 y.1 y.2.1) (tt rfl (zC (qU (by simp only [aC];omega) (zA ?_)))))
    unfold zRl
    rw [h5];simp
theorem zJI {α β:Type} {p:α→Bool} {f:α→Option β} : ∀ {l:List α},l.Pairwise (fun x y=> ¬(p x=true∧p y=true))→l.filterMap (fun d=>bif p d then f d else none)=((l.find? p).bind f).toList
 |[],_=>rfl
 |a::l,h=>by
  obtain ⟨h1,h2⟩:=bB.1 h
  have ih:=zJI (f:=f) h2
  cases hp:p a with
  |false=>simp only [cw,hp,cond_false,dH,ih]
  |true=>
   have hn:l.filterMap (fun d=>bif p d then f d else none)=[]:=by
    rw [List.filterMap_eq_nil_iff]
    intro b hb
    have:p b=false:=by
     cases hb':p b with
     |false=>rfl
     |true=>exact absurd ⟨hp,hb'⟩ (h1 b hb)
    rw [this];rfl
   simp only [cw,hp,cond_true,dH,hn,ae]
   cases f a<;>rfl
theorem zU6 {α β:Type} {f:α→Option β} : ∀ (l:List α),l.flatMap (fun x=>(f x).toList)=l.filterMap f
 |[]=>rfl
 |a::l=>by
  rw [cT,zU6 l,cw]
  cases f a<;>rfl
def zPH (r:Ty.El zF) (x:Ty.El zB) (d:Ty.El qO):Option (Ty.El zB):=bif d.1==x.2.1 then (bif zKu x then none else zRl r d x) else none
theorem qBm {r:Ty.El zF} {l:List (Ty.El qO)} {into least most:Int} (hl:qB2 l into least most) (x:Ty.El zB):l.filterMap (zPH r x)=(zWh r l x).toList:=by
 have hp:l.Pairwise (fun a b=> ¬((a.1==x.2.1)=true∧(b.1==x.2.1)=true)):=by
  rw [br]
  rintro i j hi hj hij ⟨h1,h2⟩
  have h1:l[i].1=x.2.1:=by simpa using h1
  have h2:l[j].1=x.2.1:=by simpa using h2
  exact hl.one j i l[j] l[i] hij (by simp) (by simp) (by rw [h1,h2])
 unfold zWh
 cases h:zKu x with
 |true=>
  simp only [cond_true,Option.toList_none]
  rw [List.filterMap_eq_nil_iff]
  intro d _
  unfold zPH
  rw [h]
  cases d.1==x.2.1<;>rfl
 |false=>
  simp only [cond_false]
  rw [←zJI hp]
  congr 1
  funext d
  unfold zPH
  rw [h];rfl
theorem zFD (r:Ty.El zF) (l:List (Ty.El qO)) (rib:List (Ty.El zB)) (hr:SmR r) {least most:Int} (hl:qB2 l 5 least most) (hb:rib.length≤1048576):
  Wp (xL (r,l,rib,(5:Int),())) (fun o=>o=zZJ r l rib):=by
 unfold xL
 dsimp only
 have hl4:=hl.len
 refine zC (qZ (xs:=rib) (by omega) (fun j (g:List (Ty.El zB))=>g=(rib.take j).flatMap (fun x=>l.filterMap (zPH r x))) (by simp) ?_ (fun g hg=>zA ?_))
 ·intro j x g hx hg
  have hgl:g.length≤4194304:=by
   have h1:=j6 (xs:=rib.take j) (f:=fun x=>l.filterMap (zPH r x)) (k:=4) (fun x _=>ay (aF _ _) hl4)
   have h2:=bl j rib
   rw [hg]
   omega
  simp only [zI hx,ae]
  rw [zGJ hx, ←hg]
  refine qZ (xs:=l) (by omega) (fun k (w:List (Ty.El zB))=>w=g++(l.take k).filterMap (zPH r x)) (by simp) ?_ (fun w hw=>by rw [hw,aN])
  intro k d w hd hw
  have hwl:w.length≤4194308:=by
   have h3:((l.take k).filterMap (zPH r x)).length≤4:=ay (aF _ _) (ay (bl _ _) hl4)
   rw [hw,aH]
   omega
  simp only [zI hd,ae]
  rw [qT hd, ←bp, ←hw]
  refine zC (Wp.mono (Q:=fun s:Bool×List (Ty.El zB)=>s.1=(!(d.1==x.2.1)||zKu x)∧s.2=w) ?_ (fun s hs=> ?_))
  ·refine zD (fun h=>zA ⟨?_,rfl⟩) (fun h=>zD (fun h2=>zA ⟨?_,rfl⟩) (fun h2=>zA ⟨?_,rfl⟩))
   ·have h:(d.1==x.2.1)=false:=by simpa [bne] using h
    rw [h];rfl
   ·have h:(d.1==x.2.1)=true:=by simpa [bne] using h
    unfold zKu
    rw [h,h2];rfl
   ·have h:(d.1==x.2.1)=true:=by simpa [bne] using h
    unfold zKu
    rw [h,h2];rfl
  obtain ⟨s1,s2⟩:=s
  obtain ⟨e1,e2⟩:=hs
  simp only at e1 e2
  subst e2
  refine zD (fun h=>zA ?_) (fun h=> ?_)
  ·have h:s1=true:=h
   rw [h] at e1
   have:zPH r x d=none:=by
    unfold zPH
    cases hd1:d.1==x.2.1 with
    |false=>rfl
    |true=>rw [hd1] at e1;have e1:zKu x=true:=e1.symm;rw [e1];rfl
   rw [this];simp
  ·have h:s1=false:=h
   rw [h] at e1
   have h1:(d.1==x.2.1)=true:=by
    cases hd1:d.1==x.2.1 with
    |false=>rw [hd1] at e1;cases e1
    |true=>rfl
   have h2:zKu x=false:=by
    rw [h1] at e1;exact e1.symm
   have hD:zPH r x d=zRl r d x:=by unfold zPH;rw [h1,h2];rfl
   rw [hD]
   have fin: ∀mt:Int×Int,zLu r d x=some mt→Wp (Option.bind (app (136:Nat) s2 [((x.1,(5:Int),(1:Int),r.2.2.2.2.2.2.2.2.2.2.1.2.2.1,mt.1,(0:Int),mt.2,(100:Int),[],(0:Int),(0:Int),[],false,()):Ty.El zB)]) fun (y92:List (Ty.El zB))=>some y92) (fun o=>o=s2++(zRl r d x).toList):=by
    intro mt hmt
    refine zC (qU (by simp only [aC];omega) (zA ?_))
    unfold zRl
    rw [hmt];rfl
   refine z8 (zD (fun hm=> ?_) (fun hm=> ?_))
   ·have hm:(d.2.2.2.1==({ data:= #[] } :ByteArray))=false:=by simpa [bne] using hm
    have hT:zLu r d x=(zDx r d.2.2.2.1 x).map (fun c=>((bif c.2.2.2.1==(-1:Int) then d.2.1 else c.2.2.2.1),(bif c.2.2.2.2.1==(-1:Int) then d.2.2.1 else c.2.2.2.2.1))):=by unfold zLu;rw [hm];rfl
    refine zC ((zCK r _ x hr).mono (fun k hk=> ?_))
    rcases hk with ⟨h3,h4⟩|⟨i,j',m,c,rfl,h3,h4,h5,h6⟩
    ·refine zJ (fun _=>zA (e2r ?_)) (fun h=>absurd h3 h)
     have hp:zDx r d.2.2.2.1 x=none:=by unfold zDx;rw [h4]
     unfold zRl
     rw [hT,hp];simp
    ·refine zJ (fun h=>absurd h (by omega)) (fun _=> ?_)
     refine zC ((xF r _ hr).mono (fun k hk=> ?_))
     subst hk
     rw [h3]
     simp only [zI h4,zI h5,ae]
     refine zD (fun hc=>zA (e2r ?_)) (fun hc=> ?_)
     ·have hc:c.1=false:=by simpa using hc
      have hp:zDx r d.2.2.2.1 x=none:=by unfold zDx;rw [h6];simp [hc]
      unfold zRl
      rw [hT,hp];simp
     ·have hc:c.1=true:=by simpa using hc
      have hp:zDx r d.2.2.2.1 x=some c:=by unfold zDx;rw [h6];simp [hc]
      rw [hp,aU] at hT
      refine zC (Wp.mono (Q:=fun s=>s=((bif c.2.2.2.1==(-1:Int) then d.2.1 else c.2.2.2.1),s2)) ?_ (fun s9 h9=> ?_))
      ·refine zD (fun h=>zA ?_) (fun h=>zA ?_)
       ·have h:(c.2.2.2.1==(-1:Int))=false:=by simpa [bne] using h
        rw [h];rfl
       ·have h:(c.2.2.2.1==(-1:Int))=true:=by simpa [bne] using h
        rw [h];rfl
      subst h9
      refine zD (fun h=>zA (e2l ?_)) (fun h=>zA (e2l ?_))
      ·have h:(c.2.2.2.2.1==(-1:Int))=false:=by simpa [bne] using h
       rw [h] at hT
       exact z8 (ff rfl (ff rfl (tt rfl (zA (e2l (fin _ hT))))))
      ·have h:(c.2.2.2.2.1==(-1:Int))=true:=by simpa [bne] using h
       rw [h] at hT
       exact z8 (ff rfl (ff rfl (tt rfl (zA (e2l (fin _ hT))))))
   ·have hm:(d.2.2.2.1==({ data:= #[] } :ByteArray))=true:=by simpa [bne] using hm
    have hT:zLu r d x=some (d.2.1,d.2.2.1):=by unfold zLu;rw [hm];rfl
    exact zA (e2l (z8 (ff rfl (ff rfl (tt rfl (zA (e2l (fin _ hT))))))))
 ·rw [hg,aN]
  unfold zZJ
  rw [←zU6]
  exact zEv (fun x _=>qBm hl x)
end Go.Ve

namespace Go.Ve
open Go
set_option maxRecDepth 1000000
set_option maxHeartbeats 4000000
theorem zSK {α ρ:Type} {xs:List α} {p:Nat→α→Bool} {hv:ρ} {body:Int→Option (Int ⊕ (Unit ⊕ ρ))} {K:Unit→Option ρ} {Q:ρ→Prop} (hl:xs.length<4611686018427387904)
  (step: ∀ (i:Nat) x,xs[i]? =some x→Wp (body (i:Int)) (fun o=>o=(bif p i x then Sum.inr (Sum.inr hv) else Sum.inl (IntKind.wrap .i64 ((i:Int)+1)))))
  (hit:(∃ (i:Nat) (x:α),xs[i]? =some x∧p i x=true)→Q hv) (miss:(∀ (i:Nat) x,xs[i]? =some x→p i x=false)→Wp (K ()) Q):
  Wp (qM (zL (fun s:Int=>bif decide (s< (xs.length:Int)) then body s else some (Sum.inr (Sum.inl ()))) (0:Int)) K) Q:=by
 refine uY hl (fun i=> ∀j y,j<i→xs[j]? =some y→p j y=false) (fun j y hj=>by omega) ?_ (fun h=>miss (fun i x hx=>h i x (ac.1 hx).1 hx))
 intro i x hx hj
 refine (step i x hx).mono (fun o ho=> ?_)
 cases hp:p i x with
 |true=>
  rw [hp] at ho
  rw [ho]
  exact e2r (e2r (hit ⟨i,x,hx,hp⟩))
 |false=>
  rw [hp] at ho
  rw [ho]
  refine e2l ⟨rfl,?_⟩
  intro j y hjl hy
  rcases aL j i with h'|h'
  ·exact hj j y h' hy
  ·have:j=i:=by omega
   subst this
   rw [hx] at hy
   cases hy
   exact hp
theorem zMc {α:Type} (p:α→Bool) (l:List α):decide (kQ p l≥(0:Int))=l.any p:=by
 rcases zEw p l with ⟨h1,h2⟩|⟨i,x,h1,h2,h3,_⟩
 ·rw [h1]
  symm
  rw [show decide ((-1:Int)≥0)=false from rfl,cH]
  intro x hx
  rw [h2 x hx];decide
 ·rw [h1]
  have:l.any p=true:=bt.2 ⟨x,af h2,h3⟩
  rw [this]
  exact decide_eq_true (by omega)
def zRm (v:Ty.El zN) (r:Int) (rt:Ty.El zF) (p:Ty.El zG):Bool:=
 (List.range rt.2.2.1.length).any (fun i=>match rt.2.2.1[i]? with
  |some x=>upB v r i&&jI (zCS x.2.1 x.2.2.1) p
  |none=>false)
theorem zPN {v:Ty.El zN} {r:Int} {rt:Ty.El zF} {p:Ty.El zG} :zRm v r rt p=true↔ ∃ (i:Nat) (x:Ty.El qA),rt.2.2.1[i]? =some x∧(upB v r i&&jI (zCS x.2.1 x.2.2.1) p)=true:=by
 unfold zRm
 rw [bt]
 constructor
 ·rintro ⟨i,_,h⟩
  split at h
  ·rename_i x hx
   exact ⟨i,x,hx,h⟩
  ·cases h
 ·rintro ⟨i,x,hx,h⟩
  exact ⟨i,bd.2 (ac.1 hx).1,by rw [hx];exact h⟩
theorem zSc {v:Ty.El zN} {r:Int} {rt:Ty.El zF} {p:Ty.El zG} (h: ∀ (i:Nat) x,rt.2.2.1[i]? =some x→(upB v r i&&jI (zCS x.2.1 x.2.2.1) p)=false):zRm v r rt p=false:=by
 cases hb:zRm v r rt p with
 |false=>rfl
 |true=>
  obtain ⟨i,x,hx,h1⟩:=zPN.1 hb
  rw [h i x hx] at h1;cases h1
theorem zFk (v:Ty.El zN) (r:Nat) (rt:Ty.El zF) (p:Ty.El zG) (hv:xY v) (hr:v.1.1[r]? =some rt):Wp (u9 (v,(r:Int),p,())) (fun b=>b=zRm v r rt p):=by
 unfold u9
 dsimp only
 have hl:rt.2.2.1.length≤20:=(hv.sm rt (af hr)).i1
 simp only [zI hr,ae]
 refine zSK (p:=fun i (x:Ty.El qA)=>upB v r i&&jI (zCS x.2.1 x.2.2.1) p) (by omega) ?_ (fun h=>(zPN.2 h).symm) (fun h=>zA (zSc h).symm)
 intro i x hx
 simp only [zI hx,ae]
 refine zC (Wp.mono (Q:=fun s=>s=(upB v r i&&jI (zCS x.2.1 x.2.2.1) p)) ?_ (fun s hs=> ?_))
 ·refine zC ((zGf v r i hv).mono (fun b hb=> ?_))
  subst hb
  refine zD (fun h=>zC (zY (zLm _ _) (zA ?_))) (fun h=>zA ?_)
  ·rw [h];rfl
  ·rw [h];rfl
 ·subst hs
  exact zD (fun h=>zA (by rw [h];rfl)) (fun h=>zA (by rw [h];rfl))
theorem zPv (v:Ty.El zN) (r:Nat) (rt:Ty.El zF) (p:Ty.El zG) (hv:xY v) (hr:v.1.1[r]? =some rt):Wp (zIK (v,(r:Int),p,())) (fun b=>b=zRm v r rt p):=by
 unfold zIK
 dsimp only
 have hl:rt.2.2.1.length≤20:=(hv.sm rt (af hr)).i1
 simp only [zI hr,ae]
 refine zSK (p:=fun i (x:Ty.El qA)=>upB v r i&&jI (zCS x.2.1 x.2.2.1) p) (by omega) ?_ (fun h=>(zPN.2 h).symm) (fun h=>zA (zSc h).symm)
 intro i x hx
 refine zC (Wp.mono (Q:=fun s=>s=(upB v r i&&jI (zCS x.2.1 x.2.2.1) p)) ?_ (fun s hs=> ?_))
 ·refine zC ((zFi v r i hv).mono (fun b hb=> ?_))
  subst hb
  refine zD (fun h=>zC (zY (zKa v r i rt x hr hx) (zA ?_))) (fun h=>zA ?_)
  ·rw [h];rfl
  ·rw [h];rfl
 ·subst hs
  exact zD (fun h=>zA (by rw [h];rfl)) (fun h=>zA (by rw [h];rfl))
theorem zDt (t:List (Ty.El zB)) (p:Ty.El zG) (hl:t.length<4611686018427387904):Wp (zCN (t,p,())) (fun k=>k=kQ (fun x=>jI x.1 p) t):=by
 unfold zCN
 dsimp only
 refine kM (p:=fun x:Ty.El zB=>jI x.1 p) hl ?_ rfl
 intro i x hx
 simp only [zI hx,ae]
 show (bif jI x.1 p then _ else _)=_
 cases jI x.1 p<;>rfl
theorem zKf (t:List (Ty.El zB)) (p:Ty.El zG) (hl:t.length<4611686018427387904):Wp (j4 (t,(p,()),())) (fun b=>b=t.any (fun x=>jI x.1 p)):=by
 unfold j4
 dsimp only
 refine zC (Wp.mono (Q:=fun k=>k=kQ (fun x=>jI x.1 p) t) ?_ (fun k hk=> ?_))
 ·unfold kF
  dsimp only
  refine kM (p:=fun x:Ty.El zB=>jI x.1 p) hl ?_ rfl
  intro i x hx
  simp only [zI hx,ae]
  show (bif jI x.1 p then _ else _)=_
  cases jI x.1 p<;>rfl
 ·subst hk
  exact zA (zMc _ _)
theorem zKe (t:List (Ty.El zB)) (g:Ty.El q8) (hl:t.length<4611686018427387904):Wp (j3 (t,(g,()),())) (fun b=>b=t.any (fun x=>lwB x.1 g.1)):=by
 unfold j3
 dsimp only
 refine zC (Wp.mono (Q:=fun k=>k=kQ (fun x=>lwB x.1 g.1) t) ?_ (fun k hk=> ?_))
 ·unfold kE
  dsimp only
  refine kM (p:=fun x:Ty.El zB=>lwB x.1 g.1) hl ?_ rfl
  intro i x hx
  have hc:vQ (x,g,())=some (lwB x.1 g.1):=by
   unfold vQ
   dsimp only
   rw [show jS (x.1,g.1,())=some (lwB x.1 g.1) from xR _ _]
   rfl
  simp only [zI hx,ae]
  rw [show vQ (x,g,())=some (lwB x.1 g.1) from hc]
  cases lwB x.1 g.1<;>rfl
 ·subst hk
  exact zA (zMc _ _)
def qBv (t:List (Ty.El zB)) (p:Ty.El zG):Bool:=
 match t.find? (fun x=>jI x.1 p) with
 |some x=>x.2.2.1==(3:Int)
 |none=>false
theorem zY8 {t:List (Ty.El zB)} {p:Ty.El zG} :
  Wp (bif decide (kQ (fun x=>jI x.1 p) t≥(0:Int)) then Option.bind (idx t (kQ (fun x=>jI x.1 p) t)) fun (y3:Ty.El zB)=>some (y3.2.2.1==(3:Int)) else some false) (fun b=>b=qBv t p):=by
 unfold qBv
 rcases zFS (fun x:Ty.El zB=>jI x.1 p) t with ⟨h1,h2⟩|⟨i,x,h1,h2,h3⟩
 ·rw [h1,h2]
  exact ff rfl (zA rfl)
 ·rw [h1,h3]
  refine tt (decide_eq_true (by omega)) ?_
  simp only [zI h2,ae]
  exact zA rfl
noncomputable def zTp (v:Ty.El zN) (t:Ty.El zS) (r:Int) (rt:Ty.El zF) (p:Ty.El zG):Bool:=
 zRm v r rt p||((rt.2.2.2.2.2.2.2.1.filterMap (act v t.2.2.2.1 r rt)).any (fun y=>jI y.1 p)||(t.1.any (fun x=>jI x.1 p)||qBv t.2.1 p))
structure zY1 (t:Ty.El zS):Prop where
 ls:t.1.length≤1048576
 dv:t.2.1.length≤1048576
 pv:t.2.2.1.length≤1048576
 rib:t.2.2.2.1.length≤1048576
theorem zEN (t:Ty.El zS) (p:Ty.El zG) (ht:zY1 t):Wp (uD (t,p,())) (fun b=>b=(t.1.any (fun x=>jI x.1 p)||qBv t.2.1 p)):=by
 unfold uD
 dsimp only
 have h1:=ht.ls
 have h2:=ht.dv
 refine zC ((zDt t.1 p (by omega)).mono (fun k hk=> ?_))
 subst hk
 rw [zMc]
 refine zD (fun h=>zA (by rw [h];rfl)) (fun h=> ?_)
 rw [h]
 refine zC ((zDt t.2.1 p (by omega)).mono (fun k hk=> ?_))
 subst hk
 exact zC (zY8.mono (fun b hb=>zA (by rw [hb];rfl)))
theorem zPw (v:Ty.El zN) (t:Ty.El zS) (r:Nat) (rt:Ty.El zF) (p:Ty.El zG) (hv:xY v) (hr:v.1.1[r]? =some rt) (ht:zY1 t) (hok:zSH rt):Wp (zIL (v,t,(r:Int),p,())) (fun b=>b=zTp v t r rt p):=by
 unfold zIL
 dsimp only
 have h1:=ht.ls
 have h2:=ht.dv
 have h3:=ht.rib
 have hst:rt.2.2.2.2.2.2.2.1.length≤20:=(hv.sm rt (af hr)).i6
 unfold zTp
 refine zC (Wp.mono (Q:=fun b=>b=(zRm v r rt p||t.1.any (fun x=>jI x.1 p))) ?_ (fun b hb=> ?_))
 ·refine zC ((zPv v r rt p hv hr).mono (fun b hb=> ?_))
  subst hb
  refine zD (fun h=>zA (by rw [h];rfl)) (fun h=> ?_)
  refine zC ((zDv t.1 p (by omega)).mono (fun k hk=>zA ?_))
  subst hk
  rw [h,zMc];rfl
 subst hb
 refine zD (fun h=>zA ?_) (fun h=> ?_)
 ·simp only [bU] at h
  rcases h with h|h
  ·rw [h];rfl
  ·rw [h];simp
 have ho:zRm v r rt p=false:=by
  cases hh:zRm v r rt p with
  |false=>rfl
  |true=>rw [hh] at h;cases h
 have hL:t.1.any (fun x=>jI x.1 p)=false:=by
  rw [ho] at h;exact h
 rw [ho,hL]
 refine zC ((zLj v t.2.2.2.1 r rt hv hr h3 hok).mono (fun y hy=> ?_))
 have hyl:y.length≤20:=by rw [hy];exact ay (aF _ _) hst
 rw [←hy]
 refine zSK (hv:=(true:Bool)) (xs:=y) (p:=fun _ (x:Ty.El zB)=>jI x.1 p) (by omega) ?_ ?_ ?_
 ·intro i x hx
  simp only [zI hx,ae]
  show Wp (bif jI x.1 p then _ else _) _
  exact zD (fun h=>zA (by rw [h];rfl)) (fun h=>zA (by rw [h];rfl))
 ·rintro ⟨i,x,hx,h⟩
  have:y.any (fun x=>jI x.1 p)=true:=bt.2 ⟨x,af hx,h⟩
  rw [this];rfl
 ·intro hno
  have:y.any (fun x=>jI x.1 p)=false:=by
   rw [cH]
   intro x hx
   obtain ⟨k,hk,rfl⟩:=aD hx
   rw [hno k _ (by simp [hk])];decide
  rw [this]
  refine zC ((zDv t.2.1 p (by omega)).mono (fun k hk=> ?_))
  subst hk
  exact zC (zY8.mono (fun b hb=>zA (by rw [hb];rfl)))
def zYZ (r:Ty.El zF) (p:Ty.El zG):Ty.El zB:=
 (p,(5:Int),(2:Int),r.2.2.2.2.2.2.2.2.2.2.1.2.2.1,(0:Int),(0:Int),(0:Int),(100:Int),[],(0:Int),(0:Int),[],true,())
noncomputable def zUO (v:Ty.El zN) (t:Ty.El zS) (r:Int) (rt:Ty.El zF) (p:Ty.El zG):Option (Ty.El zB):=bif zTp v t r rt p then some (zOI rt p 0 0) else none
def zOY (t:Ty.El zS) (rt:Ty.El zF) (c:Ty.El zAi):Option (Ty.El zB):=bif decide (kQ (fun x=>jI x.1 c.2.1) t.2.2.2.1< (0:Int))==c.2.2.1 then some (zOI rt c.1 0 0) else none
def zO1 (t:Ty.El zS) (rt:Ty.El zF) (g:Ty.El q8):Option (Ty.El zB):=bif t.2.2.1.any (fun x=>lwB x.1 g.1) then some (zYZ rt g.1) else none
noncomputable def zA1 (v:Ty.El zN) (t:Ty.El zS) (r:Int) (rt:Ty.El zF):List (Ty.El zB):=
 ((rt.2.2.2.2.2.2.2.2.2.2.1.2.2.2.2.1.filterMap (zUO v t r rt)++rt.2.2.2.2.2.2.2.2.2.2.1.2.2.2.2.2.2.1.filterMap (zOY t rt))++zZJ rt rt.2.2.2.2.2.2.2.2.2.2.1.2.2.2.2.2.2.2.1 t.2.2.2.1)++rt.2.2.2.2.2.2.2.2.2.2.1.2.2.2.2.2.1.filterMap (zO1 t rt)
theorem zPG (r:Ty.El zF) (l:List (Ty.El qO)) (rib:List (Ty.El zB)):(zZJ r l rib).length≤rib.length:=aF _ _
theorem zKw {v:Ty.El zN} {t:Ty.El zS} {r:Int} {rt:Ty.El zF} (hs:SmR rt):(zA1 v t r rt).length≤t.2.2.2.1.length+60:=by
 have h1:rt.2.2.2.2.2.2.2.2.2.2.1.2.2.2.2.1.length≤20:=hs.i11
 have h2:rt.2.2.2.2.2.2.2.2.2.2.1.2.2.2.2.2.1.length≤20:=hs.i12
 have h3:rt.2.2.2.2.2.2.2.2.2.2.1.2.2.2.2.2.2.1.length≤20:=hs.i13
 have a1:=aF (zUO v t r rt) rt.2.2.2.2.2.2.2.2.2.2.1.2.2.2.2.1
 have a2:=aF (zOY t rt) rt.2.2.2.2.2.2.2.2.2.2.1.2.2.2.2.2.2.1
 have a3:=aF (zO1 t rt) rt.2.2.2.2.2.2.2.2.2.2.1.2.2.2.2.2.1
 have a4:=zPG rt rt.2.2.2.2.2.2.2.2.2.2.1.2.2.2.2.2.2.2.1 t.2.2.2.1
 unfold zA1
 simp only [aH]
 omega
theorem zCA (v:Ty.El zN) (t:Ty.El zS) (r:Nat) (rt:Ty.El zF) (hv:xY v) (hr:v.1.1[r]? =some rt) (ht:zY1 t):
  Wp (kB (v,t,(r:Int),())) (fun o=>o=bif rt.2.2.2.2.2.2.2.2.2.2.1.1 then zA1 v t r rt else []):=by
 unfold kB
 dsimp only
 have hrl:=(ac.1 hr).1
 have hs:=hv.sm rt (af hr)
 have b1:=ht.ls
 have b2:=ht.dv
 have b3:=ht.pv
 have b4:=ht.rib
 have n1:rt.2.2.2.2.2.2.2.2.2.2.1.2.2.2.2.1.length≤20:=hs.i11
 have n2:rt.2.2.2.2.2.2.2.2.2.2.1.2.2.2.2.2.1.length≤20:=hs.i12
 have n3:rt.2.2.2.2.2.2.2.2.2.2.1.2.2.2.2.2.2.1.length≤20:=hs.i13
 have n4:rt.2.2.2.2.2.2.2.2.2.2.1.2.2.2.2.2.2.2.1.length≤20:=hs.i14
 have n5:rt.2.2.2.2.2.2.2.1.length≤20:=hs.i6
 refine zC (Wp.mono (Q:=fun s=>s= !rt.2.2.2.2.2.2.2.2.2.2.1.1) ?_ (fun s hs2=> ?_))
 ·have q0: ¬((r:Int)<0):=by omega
  have q1: ¬((r:Int)≥(List.length v.1.1:Int)):=by omega
  refine zJ (fun h=>absurd h q0) (fun _=>zJ (fun h=>absurd h q1) (fun _=> ?_))
  simp only [zI hr,ae]
  exact zA rfl
 subst hs2
 cases hon:rt.2.2.2.2.2.2.2.2.2.2.1.1 with
 |false=>exact tt rfl (zA rfl)
 |true=>
  refine ff rfl ?_
  simp only [zI hr,ae,cond_true]
  refine zC ((zJ7 v t.2.2.2.1 r rt hv hr b4).mono (fun y4 h4=> ?_))
  have hy4:y4.length≤20:=by rw [h4];exact ay (aF _ _) n5
  refine zC (qZ (xs:=rt.2.2.2.2.2.2.2.2.2.2.1.2.2.2.2.1) (by omega) (fun i (g:List (Ty.El zB))=>g=(rt.2.2.2.2.2.2.2.2.2.2.1.2.2.2.2.1.take i).filterMap (zUO v t r rt)) (by simp) ?_ (fun s38 h38=> ?_))
  ·intro i p g hp hg
   have hgl:g.length≤20:=by rw [hg];exact ay (aF _ _) (ay (bl _ _) n1)
   simp only [zI hp,ae]
   rw [qT hp, ←hg]
   refine zC (Wp.mono (Q:=fun s=>s=(zTp v t r rt p,g)) ?_ (fun s hs2=> ?_))
   ·unfold zTp
    rw [←h4]
    refine zC ((zFk v r rt p hv hr).mono (fun b hb=> ?_))
    subst hb
    refine zD (fun h=>zA (by rw [h];rfl)) (fun h=> ?_)
    rw [h]
    refine zC ((zKf y4 p (by omega)).mono (fun b hb=> ?_))
    subst hb
    refine zD (fun h=>zA (by rw [h];rfl)) (fun h=> ?_)
    rw [h]
    exact zC ((zEN t p ht).mono (fun b hb=>zA (by rw [hb];rfl)))
   ·subst hs2
    unfold zUO
    refine zD (fun h=> ?_) (fun h=>zA ?_)
    ·have h:zTp v t r rt p=true:=h
     rw [h]
     exact zC (qU (by simp only [aC];omega) (zA rfl))
    ·have h:zTp v t r rt p=false:=h
     rw [h];simp
  rw [aN] at h38
  have hl38:s38.length≤20:=by rw [h38];exact ay (aF _ _) n1
  refine zC (qZ (xs:=rt.2.2.2.2.2.2.2.2.2.2.1.2.2.2.2.2.2.1) (by omega) (fun i (g:List (Ty.El zB))=>g=s38++(rt.2.2.2.2.2.2.2.2.2.2.1.2.2.2.2.2.2.1.take i).filterMap (zOY t rt)) (by simp) ?_ (fun s58 h58=> ?_))
  ·intro i c g hc hg
   have hgl:g.length≤40:=by
    have:=ay (aF (zOY t rt) (rt.2.2.2.2.2.2.2.2.2.2.1.2.2.2.2.2.2.1.take i)) (ay (bl _ _) n3)
    rw [hg,aH];omega
   simp only [zI hc,ae]
   rw [qT hc, ←bp, ←hg]
   refine zC ((zDt t.2.2.2.1 c.2.1 (by omega)).mono (fun k hk=> ?_))
   subst hk
   unfold zOY
   refine zD (fun h=> ?_) (fun h=>zA ?_)
   ·rw [h]
    exact zC (qU (by simp only [aC];omega) (zA rfl))
   ·rw [h];simp
  rw [aN] at h58
  have hl58:s58.length≤40:=by
   have:=ay (aF (zOY t rt) rt.2.2.2.2.2.2.2.2.2.2.1.2.2.2.2.2.2.1) n3
   rw [h58,aH];omega
  refine zC ((zHl rt _ t.2.2.2.1 hs n4 b4).mono (fun y59 h59=> ?_))
  have hl59:=zPG rt rt.2.2.2.2.2.2.2.2.2.2.1.2.2.2.2.2.2.2.1 t.2.2.2.1
  rw [←h59] at hl59
  refine zC (qU (by omega) ?_)
  refine zC (qZ (xs:=rt.2.2.2.2.2.2.2.2.2.2.1.2.2.2.2.2.1) (by omega) (fun i (g:List (Ty.El zB))=>g=(s58++y59)++(rt.2.2.2.2.2.2.2.2.2.2.1.2.2.2.2.2.1.take i).filterMap (zO1 t rt)) (by simp) ?_ (fun s79 h79=>zA ?_))
  ·intro i c g hc hg
   have hgl:g.length≤1048636:=by
    have:=ay (aF (zO1 t rt) (rt.2.2.2.2.2.2.2.2.2.2.1.2.2.2.2.2.1.take i)) (ay (bl _ _) n2)
    rw [hg,aH,aH];omega
   simp only [zI hc,ae]
   rw [qT hc, ←bp, ←hg]
   refine zC ((zKe t.2.2.1 c (by omega)).mono (fun b hb=> ?_))
   subst hb
   unfold zO1
   refine zD (fun h=> ?_) (fun h=>zA ?_)
   ·rw [h]
    exact zC (qU (by simp only [aC];omega) (zA rfl))
   ·rw [h];simp
  ·rw [h79,aN,h58,h38,h59];rfl
theorem zZa {α β γ:Type} {xs:List α} {g0:β×γ} {body:Int×β×γ→Option (β×γ)} {Q:β→Prop} (hl:xs.length<4611686018427387904) (J:Nat→β×γ→Prop) (h0:J 0 g0)
  (step: ∀i x g,xs[i]? =some x→J i g→Wp (body ((i:Int),g)) (J (i+1))) (fin: ∀g,J xs.length g→Q g.1):
  Wp (zL (fun s:Int×β×γ=>bif decide (s.1< (xs.length:Int)) then Option.bind (body s) (fun g=>some (Sum.inl (IntKind.wrap .i64 (s.1+(1:Int)),g))) else some (Sum.inr s.2.1)) ((0:Int),g0)) Q:=by
 refine jF (fun (s:Int×β×γ)=> ∃i:Nat,s.1=(i:Int)∧i≤xs.length∧J i s.2) (fun (s:Int×β×γ)=>((xs.length:Int) -s.1).toNat) ⟨(0:Nat),rfl,aI _,h0⟩ ?_
 rintro ⟨s,g⟩ ⟨i,hi,hle,hj⟩
 simp only at hi
 subst hi
 refine zJ (fun hlt=> ?_) (fun hge=> ?_)
 ·have hlt:(i:Int)< (xs.length:Int):=hlt
  obtain ⟨x,hx⟩: ∃x,xs[i]? =some x:=⟨_,ai (by omega)⟩
  refine zC ((step i x g hx hj).mono (fun g' hg'=>zA (e2l ⟨⟨i+1,?_,by omega,hg'⟩,?_⟩)))
  ·simp only
   rw [zH (by omega) (by omega)];rfl
  ·simp only
   rw [zH (by omega) (by omega)];omega
 ·have hge: ¬(i:Int)< (xs.length:Int):=hge
  have:i=xs.length:=by omega
  subst this
  exact zA (e2r (fin g hj))
def qB9 (r:Ty.El zF):Int×Int×Int×Int×Int×Int×Int×List Int×Int×Int×List (Ty.El qB)×Bool×Unit:=
 ((5:Int),(1:Int),r.2.2.2.2.2.2.2.2.2.2.1.2.2.1,(0:Int),(0:Int),(0:Int),(100:Int),[],(0:Int),(0:Int),[],false,())
theorem zMO (v:Ty.El zN) (t:Ty.El zS) (r:Nat) (rt:Ty.El zF) (hv:xY v) (hr:v.1.1[r]? =some rt) (ht:zY1 t) (hok:zSH rt) (hpv:rt.2.2.2.2.2.2.2.2.2.2.1.1=true→PvC rt):
  Wp (zEZ (v,t,(r:Int),())) (fun o=>o=bif rt.2.2.2.2.2.2.2.2.2.2.1.1 then zA1 v t r rt else []):=by
 unfold zEZ
 dsimp only
 have hrl:=(ac.1 hr).1
 have hs:=hv.sm rt (af hr)
 have b1:=ht.ls
 have b2:=ht.dv
 have b3:=ht.pv
 have b4:=ht.rib
 have n1:rt.2.2.2.2.2.2.2.2.2.2.1.2.2.2.2.1.length≤20:=hs.i11
 have n2:rt.2.2.2.2.2.2.2.2.2.2.1.2.2.2.2.2.1.length≤20:=hs.i12
 have n3:rt.2.2.2.2.2.2.2.2.2.2.1.2.2.2.2.2.2.1.length≤20:=hs.i13
 refine zC (Wp.mono (Q:=fun s=>s= !rt.2.2.2.2.2.2.2.2.2.2.1.1) ?_ (fun s hs2=> ?_))
 ·refine zC (zY (zBS v r hrl) (ff rfl ?_))
  simp only [zI hr,ae]
  exact zA rfl
 subst hs2
 cases hon:rt.2.2.2.2.2.2.2.2.2.2.1.1 with
 |false=>exact tt rfl (zA rfl)
 |true=>
  have hC:=hpv hon
  refine ff rfl ?_
  simp only [zI hr,ae,cond_true]
  refine zC (qZ (xs:=rt.2.2.2.2.2.2.2.2.2.2.1.2.2.2.2.1) (by omega) (fun i (g:List (Ty.El zB)×Ty.El zB)=>g.1=(rt.2.2.2.2.2.2.2.2.2.2.1.2.2.2.2.1.take i).filterMap (zUO v t r rt)∧g.2.2=qB9 rt) ⟨rfl,rfl⟩ ?_ (fun s30 h30=> ?_))
  ·rintro i p ⟨g,q,x⟩ hp ⟨hg,hx⟩
   simp only at hg hx
   subst hx
   have hgl:g.length≤20:=by rw [hg];exact ay (aF _ _) (ay (bl _ _) n1)
   simp only [zI hp,ae]
   rw [qT hp, ←hg]
   refine zC ((zPw v t r rt p hv hr ht hok).mono (fun b hb=> ?_))
   subst hb
   unfold zUO
   refine zD (fun h=> ?_) (fun h=>zA ⟨?_,rfl⟩)
   ·rw [h]
    exact zC (qU (by simp only [aC];omega) (zA ⟨rfl,rfl⟩))
   ·rw [h];simp
  obtain ⟨s38,p38,x38⟩:=s30
  obtain ⟨h38,h38x⟩:=h30
  simp only at h38 h38x
  subst h38x
  rw [aN] at h38
  have hl38:s38.length≤20:=by rw [h38];exact ay (aF _ _) n1
  refine zC (qZ (xs:=rt.2.2.2.2.2.2.2.2.2.2.1.2.2.2.2.2.2.1) (by omega) (fun i (g:List (Ty.El zB)×Ty.El zB)=>g.1=s38++(rt.2.2.2.2.2.2.2.2.2.2.1.2.2.2.2.2.2.1.take i).filterMap (zOY t rt)∧g.2.2=qB9 rt) ⟨by simp,rfl⟩ ?_ (fun s50 h50=> ?_))
  ·rintro i c ⟨g,q,x⟩ hc ⟨hg,hx⟩
   simp only at hg hx
   subst hx
   have hgl:g.length≤40:=by
    have:=ay (aF (zOY t rt) (rt.2.2.2.2.2.2.2.2.2.2.1.2.2.2.2.2.2.1.take i)) (ay (bl _ _) n3)
    rw [hg,aH];omega
   simp only [zI hc,ae]
   rw [qT hc, ←bp, ←hg]
   refine zC ((zDv t.2.2.2.1 c.2.1 (by omega)).mono (fun k hk=> ?_))
   subst hk
   unfold zOY
   refine zD (fun h=> ?_) (fun h=>zA ⟨?_,rfl⟩)
   ·rw [h]
    exact zC (qU (by simp only [aC];omega) (zA ⟨rfl,rfl⟩))
   ·rw [h];simp
  obtain ⟨s58,p58,x58⟩:=s50
  obtain ⟨h58,h58x⟩:=h50
  simp only at h58 h58x
  subst h58x
  rw [aN] at h58
  have hl58:s58.length≤40:=by
   have:=ay (aF (zOY t rt) rt.2.2.2.2.2.2.2.2.2.2.1.2.2.2.2.2.2.1) n3
   rw [h58,aH];omega
  refine zC ((zFD rt _ t.2.2.2.1 hs hC.red b4).mono (fun y59 h59=> ?_))
  have hl59:=zPG rt rt.2.2.2.2.2.2.2.2.2.2.1.2.2.2.2.2.2.2.1 t.2.2.2.1
  rw [←h59] at hl59
  dsimp only
  refine zC (qU (by omega) ?_)
  have key: ∀ (i:Nat) (g:List (Ty.El zB)),g=(s58++y59)++(rt.2.2.2.2.2.2.2.2.2.2.1.2.2.2.2.2.1.take i).filterMap (zO1 t rt)→g.length≤1048636:=by
   intro i g hg
   have:=ay (aF (zO1 t rt) (rt.2.2.2.2.2.2.2.2.2.2.1.2.2.2.2.2.1.take i)) (ay (bl _ _) n2)
   rw [hg,aH,aH];omega
  refine zC (Wp.mono (Q:=fun o=>o=(s58++y59)++rt.2.2.2.2.2.2.2.2.2.2.1.2.2.2.2.2.1.filterMap (zO1 t rt)) ?_ (fun s79 h79=>zA (by rw [h79,h58,h38,h59];rfl)))
  refine zZa (xs:=rt.2.2.2.2.2.2.2.2.2.2.1.2.2.2.2.2.1) (by omega) (fun i (g:List (Ty.El zB)×Ty.El zB)=>g.1=(s58++y59)++(rt.2.2.2.2.2.2.2.2.2.2.1.2.2.2.2.2.1.take i).filterMap (zO1 t rt)∧g.2.2=(zYZ rt g.2.1).2) ⟨by simp,rfl⟩ ?_ (fun s79 h79=>by rw [h79.1,aN])
  rintro i c ⟨g,q,x⟩ hc ⟨hg,hx⟩
  simp only at hg hx
  subst hx
  have hgl:=key i g hg
  simp only [zI hc,ae]
  rw [qT hc, ←bp, ←hg]
  refine zC (Wp.mono (Q:=fun s:Bool×List (Ty.El zB)=>s=(t.2.2.1.any (fun x=>lwB x.1 c.1),g)) ?_ (fun s hs2=> ?_))
  ·refine qZ (xs:=t.2.2.1) (by omega) (fun j (s:Bool×List (Ty.El zB))=>s=((t.2.2.1.take j).any (fun x=>lwB x.1 c.1),g)) rfl ?_ (fun s hs2=>by rw [hs2,aN])
   rintro j z s hz rfl
   have hany:(t.2.2.1.take (j+1)).any (fun x=>lwB x.1 c.1)=((t.2.2.1.take j).any (fun x=>lwB x.1 c.1)||lwB z.1 c.1):=by
    rw [b9,hz,cQ,List.any_append];simp
   rw [hany]
   refine zD (fun h=>zA ?_) (fun h=> ?_)
   ·have h:(t.2.2.1.take j).any (fun x=>lwB x.1 c.1)=true:=h
    rw [h];rfl
   ·have h:(t.2.2.1.take j).any (fun x=>lwB x.1 c.1)=false:=h
    rw [h]
    simp only [zI hz,ae]
    unfold lwB
    refine zJ (fun h2=> ?_) (fun h2=>zA ?_)
    ·have h2:c.1.2.1<z.1.2.1:=h2
     refine zC (zY (yH _ _) (zA ?_))
     rw [decide_eq_true h2];rfl
    ·have h2: ¬c.1.2.1<z.1.2.1:=h2
     rw [decide_eq_false h2];rfl
  ·subst hs2
   unfold zO1
   refine zD (fun h=> ?_) (fun h=>zA ⟨?_,rfl⟩)
   ·have h:t.2.2.1.any (fun x=>lwB x.1 c.1)=true:=h
    rw [h]
    exact zC (qU (by simp only [aC];omega) (zA ⟨rfl,rfl⟩))
   ·have h:t.2.2.1.any (fun x=>lwB x.1 c.1)=false:=h
    rw [h];simp
end Go.Ve

namespace Go.Ve
open Go
set_option maxRecDepth 1000000
set_option maxHeartbeats 4000000
def StS (s:List (Ty.El zS)):Prop:= ∀t,t∈s→zY1 t∧((∀y,y∈t.1→RtS y)∧(∀y,y∈t.2.1→RtS y)∧(∀y,y∈t.2.2.1→RtS y)∧(∀y,y∈t.2.2.2.1→RtS y))
structure qDo (v:Ty.El zN) (s:List (Ty.El zS)):Prop where
 len:s.length=v.1.1.length
 short: ∀t,t∈s→t.1.length≤12∧t.2.1.length≤12∧t.2.2.1.length≤12∧t.2.2.2.1.length≤16
 ok: ∀t,t∈s→uJ t.1 3∧uJ t.2.1 4∧uJ t.2.2.1 5∧uJ t.2.2.2.1 0
theorem zVy (v:Ty.El zN) (s:List (Ty.El zS)) (hs:StS s) (hl:s.length≤1048576):Wp (zEY (v,s,())) (fun b=>b=true→ ∀t,t∈s→uJ t.1 3∧uJ t.2.1 4∧uJ t.2.2.1 5∧uJ t.2.2.2.1 0):=by
 unfold zEY
 dsimp only
 refine zD (fun _=>zA (fun h=>by cases h)) (fun _=> ?_)
 refine zAW (P:=fun t:Ty.El zS=>uJ t.1 3∧uJ t.2.1 4∧uJ t.2.2.1 5∧uJ t.2.2.2.1 0) (by omega) ?_ (fun h=>zA (fun _=>h))
 intro i t ht
 obtain ⟨⟨l1,l2,l3,l4⟩,r1,r2,r3,r4⟩:=hs t (af ht)
 simp only [zI ht,ae]
 refine zC (Wp.mono (Q:=fun b=>b=false→uJ t.1 3∧uJ t.2.1 4∧uJ t.2.2.1 5∧uJ t.2.2.2.1 0) ?_ (fun b hb=>zD (fun _=>zA (e2r (e2r (fun h=>by cases h)))) (fun h=>zA (e2l ⟨rfl,hb h⟩))))
 refine zC ((zI2 t.1 3 l1 r1).mono (fun b1 h1=>zD (fun _=>zA (fun h=>by cases h)) (fun k1=> ?_)))
 refine zC ((zI2 t.2.1 4 l2 r2).mono (fun b2 h2=>zD (fun _=>zA (fun h=>by cases h)) (fun k2=> ?_)))
 refine zC ((zI2 t.2.2.1 5 l3 r3).mono (fun b3 h3=>zD (fun _=>zA (fun h=>by cases h)) (fun k3=> ?_)))
 refine zC ((zI2 t.2.2.2.1 0 l4 r4).mono (fun b4 h4=>zA (fun k4=> ?_)))
 exact ⟨h1 (by simpa using k1),h2 (by simpa using k2),h3 (by simpa using k3),h4 (by simpa using k4)⟩
theorem zYP (v:Ty.El zN) (s:List (Ty.El zS)) (hs:StS s) (hl:s.length≤1048576):Wp (zE5 (v,s,())) (fun b=>b=true→qDo v s):=by
 unfold zE5
 dsimp only
 refine zD (fun _=>zA (fun h=>by cases h)) (fun hlen=> ?_)
 have hlen:s.length=v.1.1.length:=by
  have:(s.length:Int)=(v.1.1.length:Int):=by simpa [bne] using hlen
  omega
 refine zAW (P:=fun t:Ty.El zS=>t.1.length≤12∧t.2.1.length≤12∧t.2.2.1.length≤12∧t.2.2.2.1.length≤16) (by omega) ?_ (fun h=> ?_)
 ·intro i t ht
  simp only [zI ht,ae]
  refine zC (Wp.mono (Q:=fun b=>b=false→t.1.length≤12∧t.2.1.length≤12∧t.2.2.1.length≤12∧t.2.2.2.1.length≤16) ?_ (fun b hb=>zD (fun _=>zA (e2r (e2r (fun h=>by cases h)))) (fun h=>zA (e2l ⟨rfl,hb h⟩))))
  refine zJ (fun _=>zA (fun h=>by cases h)) (fun k1=>zJ (fun _=>zA (fun h=>by cases h)) (fun k2=>zJ (fun _=>zA (fun h=>by cases h)) (fun k3=>zA (fun k4=> ?_))))
  have k4:=of_decide_eq_false k4
  exact ⟨by omega,by omega,by omega,by omega⟩
 ·exact zC ((zVy v s hs hl).mono (fun b hb=>zA (fun h2=>⟨hlen,h,hb h2⟩)))
theorem zYl {v:Ty.El zN} {t:Ty.El zS} {r:Int} {rt:Ty.El zF} {p:Ty.El zG} {x:Ty.El zB} (h:zUO v t r rt p=some x):zTp v t r rt p=true∧x=zOI rt p 0 0:=by
 unfold zUO at h
 cases hb:zTp v t r rt p with
 |false=>rw [hb] at h;cases h
 |true=>rw [hb] at h;exact ⟨rfl,(aJ h).symm⟩
theorem zYL {t:Ty.El zS} {rt:Ty.El zF} {c:Ty.El zAi} {x:Ty.El zB} (h:zOY t rt c=some x):x=zOI rt c.1 0 0:=by
 unfold zOY at h
 cases hb:(decide (kQ (fun x:Ty.El zB=>jI x.1 c.2.1) t.2.2.2.1< (0:Int))==c.2.2.1) with
 |false=>rw [hb] at h;cases h
 |true=>rw [hb] at h;exact (aJ h).symm
theorem zY0 {t:Ty.El zS} {rt:Ty.El zF} {g:Ty.El q8} {x:Ty.El zB} (h:zO1 t rt g=some x):x=zYZ rt g.1:=by
 unfold zO1 at h
 cases hb:t.2.2.1.any (fun x=>lwB x.1 g.1) with
 |false=>rw [hb] at h;cases h
 |true=>rw [hb] at h;exact (aJ h).symm
theorem zYc {rt:Ty.El zF} {l:List (Ty.El qO)} {y x:Ty.El zB} (h:zWh rt l y=some x): ∃d mt,d∈l∧zLu rt d y=some mt∧x=zOI rt y.1 mt.1 mt.2:=by
 unfold zWh at h
 cases ho:zKu y with
 |true=>rw [ho] at h;cases h
 |false=>
  rw [ho] at h
  simp only [cond_false] at h
  cases hf:l.find? (fun d=>d.1==y.2.1) with
  |none=>rw [hf] at h;cases h
  |some d=>
   rw [hf] at h
   simp only [ae] at h
   unfold zRl at h
   cases hT:zLu rt d y with
   |none=>rw [hT] at h;cases h
   |some mt=>
    rw [hT] at h
    exact ⟨d,mt,cK hf,hT,(aJ h).symm⟩
theorem zYm {v:Ty.El zN} {t:Ty.El zS} {r:Int} {rt:Ty.El zF} {x:Ty.El zB} (h:x∈zA1 v t r rt):
  (∃p,p∈rt.2.2.2.2.2.2.2.2.2.2.1.2.2.2.2.1∧x=zOI rt p 0 0)∨(∃c,c∈rt.2.2.2.2.2.2.2.2.2.2.1.2.2.2.2.2.2.1∧x=zOI rt c.1 0 0)∨
  (∃y d mt,y∈t.2.2.2.1∧d∈rt.2.2.2.2.2.2.2.2.2.2.1.2.2.2.2.2.2.2.1∧zLu rt d y=some mt∧x=zOI rt y.1 mt.1 mt.2)∨(∃g,g∈rt.2.2.2.2.2.2.2.2.2.2.1.2.2.2.2.2.1∧x=zYZ rt g.1):=by
 unfold zA1 at h
 rcases aX.1 h with h|h
 ·rcases aX.1 h with h|h
  ·rcases aX.1 h with h|h
   ·obtain ⟨p,hp,h⟩:=bi.1 h
    exact .inl ⟨p,hp,(zYl h).2⟩
   ·obtain ⟨c,hc,h⟩:=bi.1 h
    exact .inr (.inl ⟨c,hc,zYL h⟩)
  ·obtain ⟨y,hy,h⟩:=bi.1 h
   obtain ⟨d,mt,hd,hT,hx⟩:=zYc h
   exact .inr (.inr (.inl ⟨y,d,mt,hy,hd,hT,hx⟩))
 ·obtain ⟨g,hg,h⟩:=bi.1 h
  exact .inr (.inr (.inr ⟨g,hg,zY0 h⟩))
theorem zQb {v:Ty.El zN} {t:Ty.El zS} {r:Int} {rt:Ty.El zF} {x:Ty.El zB} (h:x∈zA1 v t r rt):PvS x∧RtS x:=by
 have h1: ∀p m k,PvS (zOI rt p m k)∧RtS (zOI rt p m k):=fun p m k=>⟨⟨rfl,⟨show (0:Int)≤100 by decide,show (100:Int)≤1000000 by decide⟩,⟨show (0:Int)≤0 by decide,show (0:Int)<4294967296 by decide⟩⟩,⟨aI _,aI _⟩⟩
 have h2: ∀p,PvS (zYZ rt p)∧RtS (zYZ rt p):=fun p=>⟨⟨rfl,⟨show (0:Int)≤100 by decide,show (100:Int)≤1000000 by decide⟩,⟨show (0:Int)≤0 by decide,show (0:Int)<4294967296 by decide⟩⟩,⟨aI _,aI _⟩⟩
 rcases zYm h with ⟨_,_,rfl⟩|⟨_,_,rfl⟩|⟨_,_,_,_,_,_,rfl⟩|⟨_,_,rfl⟩
 ·exact h1 _ _ _
 ·exact h1 _ _ _
 ·exact h1 _ _ _
 ·exact h2 _
theorem qAm {s:List (Ty.El zS)} (h: ∀t∈s,Ty.fits 1048576 zS t):StS s:=fun t ht=>by
 obtain ⟨⟨a1,a2⟩,⟨b1,b2⟩,⟨c1,c2⟩,⟨d1,d2⟩,_⟩:=h t ht
 exact ⟨⟨a1,b1,c1,d1⟩,fun y hy=>zII (a2 y hy),fun y hy=>zII (b2 y hy),fun y hy=>zII (c2 y hy),fun y hy=>zII (d2 y hy)⟩
end Go.Ve

/-
  Plain laws: the routes of one prefix are merged.
  Plain laws: the program's merging is the document's.
  Plain laws: the tables of distance-vector routing.
  Plain laws: the document's distance-vector tables.
  Plain laws of path-vector routing: sessions.
  PathSessions: the law answers true.
  Plain laws of path-vector routing: what is told and what is made of it.
  PathLoops, PathSplit: the laws answer true.
  Plain laws: the fixed network of distance-vector routing; DistTables.
  Plain laws: what a router makes of its neighbors' path-vector tables.
  Plain laws: what the checks say of redistribution and of the prefixes that path-vector routing originates.
  Plain laws: redistribution into path-vector routing; both sides answer the same list.
  Plain laws: the routes that a router originates; both sides answer the same list.
  Plain laws: states of a view; PathLocal.
  Plain laws: tables of path-vector routing: the program's Table.
  Plain laws: the fixed network of path-vector routing.
-/
import Derived.KernelRfl
import Derived.Test.YtcnlcmbchljpgaaGreatPl18
import Derived.Test.YtcnlcmbchljpgaaGreatPl13
import Derived.Test.YtcnlcmbchljpgaaGreatPl17
set_option linter.unusedVariables false
namespace Go.Ve
open Go
set_option maxRecDepth 1000000
set_option maxHeartbeats 4000000
theorem zPJ {l l':List (Ty.El zA)} {p:Ty.El zH} (h:zAm p l=zAm p l'):mrg l p=mrg l' p:=by
 have hm: ∀x,(x∈l∧x.1=p)↔(x∈l'∧x.1=p):=fun x=>by rw [←zDa, ←zDa,h]
 unfold mrg
 have hb:zDL l p=zDL l' p:=by
  rw [zDK,zDK,h]
 rw [hb]
 cases zDL l' p with
 |none=>rfl
 |some b=>
  have hh:zEo l p b=zEo l' p b:=zC7 zKh (zAG _ _ _) (zAG _ _ _) (fun h'=>by
   rw [zDz,zDz]
   exact ⟨fun ⟨x,hx,e,k⟩=>⟨x,((hm x).1 ⟨hx,e⟩).1,e,k⟩,fun ⟨x,hx,e,k⟩=>⟨x,((hm x).2 ⟨hx,e⟩).1,e,k⟩⟩)
  rw [Option.map_some,Option.map_some,hh]
theorem zJ6 (p:Ty.El zH) (a b:List (Ty.El zA)):zAm p (a++b)=zAm p a++zAm p b:=by
 unfold zAm zLh
 exact List.filter_append _ _
theorem zNQ {p:Ty.El zH} {l:List (Ty.El zA)} (h: ∀x,x∈l→x.1≠p):zAm p l=[]:=by
 unfold zAm zLh
 rw [List.filter_eq_nil_iff]
 intro x hx
 simpa using h x hx
theorem zVG {p:Ty.El zH} {l:List (Ty.El zA)} (h: ∀x,x∈l→x.1=p):zAm p l=l:=by
 unfold zAm zLh
 rw [List.filter_eq_self]
 intro x hx
 simpa using h x hx
theorem zUp {l:List (Ty.El zA)} {c:Option (Ty.El zA)} {i:Nat} {x:Ty.El zA} (h:l[i]? =some x):zKF c (l.take (i+1))=(bif zUq x (zKF c (l.take i)) then some x else zKF c (l.take i)):=by
 unfold zKF
 rw [List.take_add_one,h,Option.toList_some,List.foldl_append]
 rfl
def zKg (b:Ty.El zA) (l:List (Ty.El zA)):List (Ty.El qQ):=l.flatMap (fun x=>bif zBY x b==0 then x.2.2.2.2.2.2.2.2.2.2.2.1 else [])
theorem zTn (xs:List (Ty.El qQ)):((if xs=[] then [] else srt zLd xs):List (Ty.El qQ)).Pairwise (fun x y=> ¬hlt y x)∧(∀h,h∈(if xs=[] then [] else srt zLd xs)↔h∈xs)∧(if xs=[] then [] else srt zLd xs).length=xs.length:=by
 by_cases hx:xs=[]
 ·rw [if_pos hx,hx]
  exact ⟨List.Pairwise.nil,fun h=>Iff.rfl,rfl⟩
 ·rw [if_neg hx]
  obtain ⟨h1,h2,h3⟩:=zRF zU1 xs
  refine ⟨?_,fun h=>h1.mem_iff,h2⟩
  rw [List.pairwise_iff_getElem]
  intro i j hi hj hij hlt'
  have:=h3 i j _ _ hij (List.getElem?_eq_getElem hi) (List.getElem?_eq_getElem hj)
  rw [(zD5 _ _).2 hlt'] at this
  cases this
theorem zHA (g:List (Ty.El zA)) (p:Ty.El zH) (hne:g≠[]) (hp: ∀x,x∈g→x.1=p) (hs: ∀x,x∈g→RtS x) (hl:g.length≤524288) (hP: ∀x y,x∈g→y∈g→yO (x,y,())=some (zBY x y)):
  Wp (zBt (g,())) (fun z=>mrg g p=some z):=by
 obtain ⟨y0,r,rfl⟩: ∃y0 r,g=y0::r:=by
  cases g with
  |nil=>exact absurd rfl hne
  |cons y r=>exact ⟨y,r,rfl⟩
 unfold zBt
 dsimp only
 have h0:idx (y0::r) (0:Int)=some y0:=rfl
 have hsub:sub (y0::r) (1:Int) ((List.length (y0::r):Nat):Int)=some r:=by
  have:=zRC (xs:=y0::r) (k:=1) (by simp)
  simpa using this
 have hrl:r.length≤524288:=by simp only [List.length_cons] at hl;omega
 refine zC (qJ h0 ?_)
 refine zC (Wp.mono (Q:=fun b=>zKF (some y0) r=some b∧b∈y0::r) ?_ ?_)
 ·refine zC (qJ hsub ?_)
  refine vI (xs:=r) (by omega) (fun i (b:Ty.El zA)=>zKF (some y0) (r.take i)=some b∧b∈y0::r) ⟨rfl,by simp⟩ ?_ (fun b hb=>by rw [List.take_length] at hb;exact hb)
  rintro i x b hx ⟨hb,hbm⟩
  have hxm:x∈y0::r:=List.mem_cons_of_mem _ (List.mem_of_getElem? hx)
  simp only [zJ hx,Option.bind_some]
  refine zC (qJ (hP x b hxm hbm) ?_)
  rw [zUp hx,hb]
  refine zI (fun h=>zB ⟨?_,hxm⟩) (fun h=>zB ⟨?_,hbm⟩)
  ·have:zUq x (some b)=true:=decide_eq_true h
   rw [this];rfl
  ·have:zUq x (some b)=false:=decide_eq_false h
   rw [this];rfl
 ·rintro b ⟨hb,hbm⟩
  have hbest:zDL (y0::r) p=some b:=by
   rw [zDK,zVG hp]
   exact hb
  have hbs:=hs b hbm
  have hbound: ∀i,i≤(y0::r).length→(zKg b ((y0::r).take i)).length≤i*1048576:=by
   intro i hi
   have:=w4 (xs:=(y0::r).take i) (f:=fun x:Ty.El zA=>bif zBY x b==0 then x.2.2.2.2.2.2.2.2.2.2.2.1 else []) (k:=1048576) (fun x hx=>by
    have:=(hs x (List.mem_of_mem_take hx)).hops
    cases zBY x b==0
    ·exact Nat.zero_le _
    ·exact this)
   rw [List.length_take,Nat.min_eq_left hi] at this
   exact this
  refine zC ((show Wp _ (fun hs0:List (Ty.El qQ)=>hs0=zKg b (y0::r)) from ?_).mono (fun hs0 hh=> ?_))
  ·refine vI (xs:=y0::r) (by omega) (fun i (h:List (Ty.El qQ))=>h=zKg b ((y0::r).take i)) rfl ?_ (fun h hh=>by rw [hh,List.take_length])
   intro i x h hx hh
   have hi:=(List.getElem?_eq_some_iff.1 hx).1
   have hxm:x∈y0::r:=List.mem_of_getElem? hx
   have hxh:=(hs x hxm).hops
   have hlh:h.length≤i*1048576:=by rw [hh];exact hbound i (by omega)
   simp only [zJ hx,Option.bind_some]
   refine zC (qJ (hP x b hxm hbm) ?_)
   have hst:zKg b ((y0::r).take (i+1))=h++(bif zBY x b==0 then x.2.2.2.2.2.2.2.2.2.2.2.1 else []):=by
    rw [hh]
    exact zKk hx
   rw [hst]
   refine zG (fun hz=> ?_) (fun hz=>zB ?_)
   ·rw [hz]
    exact zC (wN (by omega) (zB rfl))
   ·rw [hz];exact (List.append_nil h).symm
  ·have hlen:hs0.length≤549755813888:=by
    have:=hbound (y0::r).length (Nat.le_refl _)
    rw [List.take_length, ←hh] at this
    have h2:(y0::r).length*1048576≤524288*1048576:=Nat.mul_le_mul_right _ hl
    omega
   obtain ⟨s1,s2,s3⟩:=zTn hs0
   refine tt (Nat.beq_refl _) ?_
   have e1:uI hs0 ((),())=some (if hs0=[] then [] else srt zLd hs0,()):=by
    unfold uI
    rw [if_pos (by omega)]
   refine zC (qJ e1 ?_)
   generalize (if hs0=[] then [] else srt zLd hs0)=hs1 at s1 s2 s3
   have e2:yM hs1 ()=some (vG zPh hs1):=by
    unfold yM
    rw [if_pos (by omega)]
   refine zC (qJ e2 ?_)
   have hcm:vG zPh hs1=zEo (y0::r) p b:=by
    refine zQN s1 (fun h=> ?_)
    rw [s2,hh]
    unfold zKg
    rw [List.mem_flatMap]
    constructor
    ·rintro ⟨x,hx,hxx⟩
     cases hz:zBY x b==0 with
     |false=>rw [hz] at hxx;cases hxx
     |true=>
      rw [hz] at hxx
      exact ⟨x,hx,hp x hx,by simpa using hz,hxx⟩
    ·rintro ⟨x,hx,_,hz,hxx⟩
     refine ⟨x,hx,?_⟩
     have:(zBY x b==0)=true:=by simpa using hz
     rw [this]
     exact hxx
   have hpath:=hbs.path
   have e3:jO (b.2.2.2.2.2.2.2.2.1,())=some b.2.2.2.2.2.2.2.2.1:=by
    refine wM ?_
    unfold jO
    exact zC (wN (by simp only [List.length_nil];omega) (zB rfl))
   refine zC (qJ e3 (zB ?_))
   unfold mrg
   rw [hbest,hcm]
   obtain ⟨⟨a1,a2,⟨⟩⟩,b⟩:=b
   rfl
end Go.Ve

namespace Go.Ve
open Go
set_option maxRecDepth 1000000
set_option maxHeartbeats 4000000
theorem zIS {l:List (Ty.El zA)} {z:Ty.El zA} :z∈zAX l↔ ∃q,(∃x,x∈l∧x.1=q)∧mrg l q=some z:=by
 unfold zAX
 rw [List.mem_filterMap]
 exact ⟨fun ⟨q,h1,h2⟩=>⟨q,(zJO l q).1 h1,h2⟩,fun ⟨q,h1,h2⟩=>⟨q,(zJO l q).2 h1,h2⟩⟩
theorem zQG {a g:List (Ty.El zA)} {p:Ty.El zH} {z:Ty.El zA} (ha: ∀x,x∈a→plt x.1 p) (hg: ∀x,x∈g→x.1=p) (hne:g≠[]) (hz:mrg g p=some z):zAX (a++g)=zAX a++[z]:=by
 have hirr: ∀q:Ty.El zH, ¬plt q q:=fun q h=>zHh.asym _ _ h h
 have hane: ∀x,x∈a→x.1≠p:=fun x hx e=>by have:=ha x hx;rw [e] at this;exact hirr p this
 have hzp:z.1=p:=zMZ hz
 have e1: ∀q,q≠p→mrg (a++g) q=mrg a q:=fun q hq=>zPJ (by
  rw [zJ6,zNQ (l:=g) (fun x hx e=>hq (e.symm.trans (hg x hx))),List.append_nil])
 have e2:mrg (a++g) p=mrg g p:=zPJ (by rw [zJ6,zNQ hane,List.nil_append])
 refine zC7 zUS (zH6 _) ?_ ?_
 ·rw [List.pairwise_append]
  refine ⟨zH6 a,List.pairwise_singleton _ _,?_⟩
  intro x hx y hy
  rw [List.mem_singleton] at hy
  subst hy
  obtain ⟨q,⟨x0,hx0,hq⟩,hm⟩:=zIS.1 hx
  unfold rlt
  rw [hzp,zMZ hm, ←hq]
  exact ha x0 hx0
 ·intro y
  rw [List.mem_append,List.mem_singleton,zIS,zIS]
  constructor
  ·rintro ⟨q,⟨x,hx,hq⟩,hm⟩
   by_cases hqp:q=p
   ·subst hqp
    rw [e2,hz] at hm
    exact .inr (Option.some.inj hm).symm
   ·refine .inl ⟨q,⟨x,?_,hq⟩,by rw [←e1 q hqp];exact hm⟩
    rcases List.mem_append.1 hx with h|h
    ·exact h
    ·exact absurd ((hg x h).symm.trans hq).symm hqp
  ·rintro (⟨q,⟨x,hx,hq⟩,hm⟩|rfl)
   ·have hqp:q≠p:=fun e=>hane x hx (hq.trans e)
    exact ⟨q,⟨x,List.mem_append_left _ hx,hq⟩,by rw [e1 q hqp];exact hm⟩
   ·obtain ⟨x,hx⟩:=List.exists_mem_of_ne_nil g hne
    exact ⟨p,⟨x,List.mem_append_right _ hx,hg x hx⟩,by rw [e2];exact hz⟩
theorem zTJ (l:List (Ty.El zA)):(zAX l).length≤l.length:=Nat.le_trans (List.length_filterMap_le _ _) (zW4 l)
theorem zKV (l:List (Ty.El zA)) (hl:l.length≤524288) (hs: ∀x,x∈l→RtS x) (hP: ∀x y,x∈l→y∈l→yO (x,y,())=some (zBY x y)):
  Wp (zDZ (l,())) (fun r=>r=zAX l):=by
 unfold zDZ
 dsimp only
 have e0:yN (l,())=some l:=by
  refine wM ?_
  unfold yN
  exact zC (wN (by simp only [List.length_nil];omega) (zB rfl))
 refine zC (qJ e0 ?_)
 refine tt (by simp) ?_
 refine zC ((show Wp (uT l ((),())) _ from zMj l (by omega)).mono ?_)
 rintro ⟨s,⟨⟩⟩ ⟨hsl,hsame,hso⟩
 simp only at hsl hsame hso
 rw [zSd hsame]
 have hm: ∀x,x∈s→x∈l:=by
  intro x hx
  have h1:= @zDa x.1 x l
  have h2:= @zDa x.1 x s
  have h3:zAm x.1 l=zAm x.1 s:=hsame x.1
  rw [h3] at h1
  exact (h1.1 (h2.2 ⟨hx,rfl⟩)).1
 have hn:s.length≤524288:=by omega
 have hso':=List.pairwise_iff_getElem.1 hso
 refine zC ((show Wp _ (fun r=>r=zAX s) from ?_).mono (fun r hr=>zB hr))
 refine jY (fun q:Int×List (Ty.El zA)=> ∃i:Nat,q.1=(i:Int)∧i≤s.length∧q.2=zAX (s.take i)∧(0<i→ ∀x y,s[i-1]? =some x→s[i]? =some y→x.1≠y.1)) (fun q=>((s.length:Int) -q.1).toNat)
  ⟨(0:Nat),rfl,Nat.zero_le _,rfl,fun h=>absurd h (Nat.lt_irrefl 0)⟩ ?_
 rintro ⟨st,mg⟩ ⟨i,hi,hil,hmg,hbd⟩
 simp only at hi hmg
 subst hi
 refine zI (fun hc=> ?_) (fun hc=> ?_)
 ·have hc:(i:Int)< (s.length:Int):=hc
  have hlt:i<s.length:=by omega
  have hx:s[i]? =some s[i]:=by simp [hlt]
  generalize hxi:s[i]=xi at hx
  refine zC ((show Wp _ (fun q:List (Ty.El zA)×Int=>q.1=mg∧ ∃e:Nat,q.2=(e:Int)∧i<e∧e≤s.length∧(∀k y,i≤k→k<e→s[k]? =some y→y.1=xi.1)∧(∀y,s[e]? =some y→y.1≠xi.1)) from ?_).mono ?_)
  ·refine jY (fun q:Int×List (Ty.El zA)=>q.2=mg∧ ∃e:Nat,q.1=(e:Int)∧i<e∧e≤s.length∧(∀k y,i≤k→k<e→s[k]? =some y→y.1=xi.1)) (fun q=>((s.length:Int) -q.1).toNat) ⟨rfl,i+1,?_,Nat.lt_succ_self i,hlt,?_⟩ ?_
   ·rw [zF (by omega) (by omega)];omega
   ·intro k y h1 h2 hy
    have:k=i:=by omega
    subst this
    rw [hx] at hy
    cases hy
    rfl
   ·rintro ⟨q1,q2⟩ ⟨rfl,e,he,hie,hel,hall⟩
    simp only at he
    subst he
    refine zC ((show Wp _ (fun b:Bool×List (Ty.El zA)=>b.2=q2∧(b.1=true→ ∃y,s[e]? =some y∧y.1=xi.1)∧(b.1=false→ ∀y,s[e]? =some y→y.1≠xi.1)) from ?_).mono ?_)
    ·refine zI (fun h=> ?_) (fun h=>zB ⟨rfl,(fun h'=>by cases h'),fun _ y hy=> ?_⟩)
     ·have h:(e:Int)< (s.length:Int):=h
      have hye:s[e]? =some (s[e]'(by omega)):=by simp
      generalize (s[e]'(by omega))=ye at hye
      simp only [zJ hye,zJ hx,Option.bind_some]
      refine zB ⟨rfl,fun hb=>⟨ye,hye,zGE hb⟩,fun hb y hy=> ?_⟩
      have hyy:y=ye:=by rw [hye] at hy;exact (Option.some.inj hy).symm
      subst hyy
      intro e0
      have hb:(y.1.fst==xi.1.fst&&(y.1.snd.fst==xi.1.snd.fst&&true))=false:=hb
      rw [e0] at hb
      simp at hb
     ·have h: ¬(e:Int)< (s.length:Int):=h
      have:=(List.getElem?_eq_some_iff.1 hy).1
      omega
    ·rintro ⟨b,q3⟩ ⟨hq,hbt,hbf⟩
     simp only at hq hbt hbf
     subst hq
     refine zG (fun hb=> ?_) (fun hb=>zB (e2r ⟨rfl,e,rfl,hie,hel,hall,hbf hb⟩))
     obtain ⟨y,hy,hyp⟩:=hbt hb
     have hel':=(List.getElem?_eq_some_iff.1 hy).1
     have hw:IntKind.wrap IntKind.i64 ((e:Int)+1)=((e+1:Nat):Int):=by rw [zF (by omega) (by omega)];omega
     refine zB (e2l ⟨⟨rfl,e+1,hw,by omega,hel',?_⟩,?_⟩)
     ·intro k y' h1 h2 hy'
      rcases Nat.lt_or_ge k e with h3|h3
      ·exact hall k y' h1 h3 hy'
      ·have:k=e:=by omega
       subst this
       rw [hy] at hy'
       cases hy'
       exact hyp
     ·simp only [hw];omega
  ·rintro ⟨q1,q2⟩ ⟨hq,e,he,hie,hel,hall,hend⟩
   simp only at hq he
   subst hq
   subst he
   have hsub:sub s (i:Int) (e:Int)=some ((s.take e).drop i):=by
    unfold sub
    rw [if_pos ⟨by omega,by omega,by omega⟩]
    simp
   have hgm: ∀x,x∈(s.take e).drop i→x∈s∧x.1=xi.1:=by
    intro x hx'
    obtain ⟨k,hk,rfl⟩:=List.getElem_of_mem hx'
    rw [List.length_drop,List.length_take] at hk
    have hke:((s.take e).drop i)[k]=s[i+k]'(by omega):=by rw [List.getElem_drop,List.getElem_take]
    rw [hke]
    exact ⟨List.getElem_mem _,hall (i+k) _ (by omega) (by omega) (by simp)⟩
   have hgl:((s.take e).drop i).length=e-i:=by rw [List.length_drop,List.length_take];omega
   have hgn:(s.take e).drop i≠[]:=fun h=>by rw [h] at hgl;simp only [List.length_nil] at hgl;omega
   refine zC (qJ hsub ?_)
   refine zC ((zHA _ xi.1 hgn (fun x hx'=>(hgm x hx').2) (fun x hx'=>hs x (hm x (hgm x hx').1)) (by omega) (fun x y hx' hy'=>hP x y (hm x (hgm x hx').1) (hm y (hgm y hy').1))).mono (fun z hz=> ?_))
   have hml:=zTJ (s.take i)
   rw [List.length_take] at hml
   have hql:q1.length≤524288:=by rw [hmg];omega
   refine zC (wN (by simp only [List.length_singleton];omega) (zB (e2l ⟨⟨e,rfl,hel,?_,?_⟩,?_⟩)))
   ·have hta:s.take e=s.take i++(s.take e).drop i:=by
     have h1:=List.take_append_drop i (s.take e)
     rw [List.take_take,Nat.min_eq_left (by omega)] at h1
     exact h1.symm
    rw [hta,hmg]
    refine (zQG (p:=xi.1) ?_ (fun x hx'=>(hgm x hx').2) hgn hz).symm
    intro x hx'
    obtain ⟨a,ha,rfl⟩:=List.getElem_of_mem hx'
    rw [List.length_take] at ha
    rw [List.getElem_take]
    have hi0:0<i:=by omega
    have hx1:s[i-1]? =some (s[i-1]'(by omega)):=by simp
    have hne:=hbd hi0 _ _ hx1 hx
    have h1:=hso' (i-1) i (by omega) hlt (by omega)
    rw [hxi] at h1
    have h2:plt (s[i-1]'(by omega)).1 xi.1:=zTB h1 hne
    by_cases hai:a=i-1
    ·subst hai;exact h2
    ·have h3:=hso' a (i-1) (by omega) (by omega) (by omega)
     unfold rlt plt zEE at*
     omega
   ·intro _ x y hx' hy' hxy
    have h1:x.1=xi.1:=hall (e-1) x (by omega) (by omega) hx'
    exact hend y hy' (hxy.symm.trans h1)
   ·simp only;omega
 ·have hc: ¬(i:Int)< (s.length:Int):=hc
  have:i=s.length:=by omega
  subst this
  refine zB (e2r ?_)
  simp only [hmg,List.take_length]
end Go.Ve





namespace Go.Ve
open Go
set_option maxRecDepth 1000000
set_option maxHeartbeats 4000000
theorem wA (v:Ty.El zR) (r i:Nat) (rt:Ty.El zD) (x:Ty.El z7) (hr:v.1.1[r]? =some rt) (hx:rt.2.2.1[i]? =some x):
  Wp (q8 (v,(r:Int),(i:Int),())) (fun y=>y=(x,true,())):=by
 unfold q8
 dsimp only
 have hrl:=(List.getElem?_eq_some_iff.1 hr).1
 have hil:=(List.getElem?_eq_some_iff.1 hx).1
 have q0: ¬((r:Int)<0):=by omega
 have q1: ¬((r:Int)≥(List.length v.1.1:Int)):=by omega
 have q2: ¬((i:Int)<0):=by omega
 refine zC ((show Wp _ (fun s:Bool=>s=false) from ?_).mono (fun s hs=> ?_))
 ·refine zI (fun h=>absurd h q0) (fun _=>zI (fun h=>absurd h q1) (fun _=>zI (fun h=>absurd h q2) (fun _=> ?_)))
  simp only [zJ hr,Option.bind_some]
  refine zB ?_
  have: ¬((i:Int)≥(List.length rt.2.2.1:Int)):=by omega
  exact decide_eq_false this
 ·subst hs
  simp only [cond_false,zJ hr,zJ hx,Option.bind_some]
  exact zB rfl
def zOV (rt q:Ty.El zD) (x y:Ty.El z7):Bool:=
 q.2.2.2.2.2.2.2.2.2.2.1.1&&(knB rt.2.2.2.2.2.2.2.2.2.2.1.2.2.2.1 y.2.1 q.2.1&&knB q.2.2.2.2.2.2.2.2.2.2.1.2.2.2.1 x.2.1 rt.2.1)
def zMp (v:Ty.El zR) (r i:Int) (rt:Ty.El zD) (x:Ty.El z7) (e:Ty.El zL):Option (Ty.El zK):=
 match v.1.1[Int.toNat e.1]? with
 |some q=>match q.2.2.1[Int.toNat e.2.1]? with
  |some y=>bif zOV rt q x y then some (e.1,e.2.1,r,i,q.2.1==rt.2.1,()) else none
  |none=>none
 |none=>none
def zBr (v:Ty.El zR) (r:Int) (rt:Ty.El zD) (i:Nat):List (Ty.El zK):=
 match rt.2.2.1[i]? with
 |some x=>bif rt.2.2.2.2.2.2.2.2.2.2.1.1 then (zGb v r i (fun e=>e.1 !=r)).filterMap (zMp v r i rt x) else []
 |none=>[]
def zEk (v:Ty.El zR) (r:Nat):List (Ty.El zK):=
 match v.1.1[r]? with
 |some rt=>(List.range rt.2.2.1.length).flatMap (zBr v r rt)
 |none=>[]
def zGy (v:Ty.El zR):List (Ty.El zK):=(List.range v.1.1.length).flatMap (zEk v)
theorem zEB {v:Ty.El zR} (hv:zBb v) (r:Int) (rt:Ty.El zD) (i:Nat):(zBr v r rt i).length≤360:=by
 unfold zBr
 split
 ·cases rt.2.2.2.2.2.2.2.2.2.2.1.1
  ·exact Nat.zero_le _
  ·exact Nat.le_trans (List.length_filterMap_le _ _) (zNR hv _ _ _)
 ·exact Nat.zero_le _
theorem zNq {v:Ty.El zR} (hv:zBb v) (r:Nat):(zEk v r).length≤7200:=by
 unfold zEk
 split
 ·rename_i rt hr
  have h1:=w4 (xs:=List.range rt.2.2.1.length) (f:=zBr v r rt) (k:=360) (fun i _=>zEB hv r rt i)
  have h2:=(hv.sm rt (List.mem_of_getElem? hr)).i1
  have h2:rt.2.2.1.length≤20:=h2
  rw [List.length_range] at h1
  omega
 ·exact Nat.zero_le _
theorem zWK {v:Ty.El zR} (hv:zBb v):(zGy v).length≤64800:=by
 have h1:=w4 (xs:=List.range v.1.1.length) (f:=zEk v) (k:=7200) (fun i _=>zNq hv i)
 have h2:=hv.rs
 rw [List.length_range] at h1
 unfold zGy
 omega
structure zMc (v:Ty.El zR):Prop where
 s:zBb v
 nb: ∀r,r∈v.1.1→zUE r.2.2.2.2.2.2.2.2.2.2.1.2.2.2.1
 ends : ∀ (r i : Int) (e : Ty.El zL), upB v r i = true → e ∈ xY v r i → (0 : Int) ≤ e.1 ∧ (0 : Int) ≤ e.2.1 ∧ ∃ q y, v.1.1[Int.toNat e.1]? = some q ∧ q.2.2.1[Int.toNat e.2.1]? = some y
 own: ∀ (r i:Int),zGb v r i (fun e=>e.1 !=r||e.2.1 !=i)=zGb v r i (fun e=>e.1 !=r)
theorem zCg.p {n:Ty.El zV} {d:List Int} {v:Ty.El zR} (hv:zCg n d v):zMc v where
 s:=hv.s
 nb:=fun r hr=>qAz ((zTI hv).rt r (by rw [←hv.net];exact hr)) (hv.s.sm r hr)
 ends := fun r i e hu he => by
  obtain ⟨e0,e1,q,y,e2,e3,_⟩:=zXT hv hu he
  exact ⟨e0,e1,q,y,e2,e3⟩
 own:=fun r i=>zXd hv r i
theorem yU (v:Ty.El zR) (hv:zMc v) (r i:Nat) (rt:Ty.El zD) (x:Ty.El z7) (hr:v.1.1[r]? =some rt) (hx:rt.2.2.1[i]? =some x):
  Wp (j6 (v,(r:Int),(i:Int),())) (fun l=>l=zBr v r rt i):=by
 unfold j6
 dsimp only
 have hs:=hv.s
 have hsm:=hs.sm rt (List.mem_of_getElem? hr)
 have hnb:=hv.nb rt (List.mem_of_getElem? hr)
 refine zC (qJ (zJ hr) (zC ((wA v r i rt x hr hx).mono (fun y1 hy1=> ?_))))
 subst hy1
 have hI:zBr v r rt i=bif rt.2.2.2.2.2.2.2.2.2.2.1.1 then (zGb v r i (fun e=>e.1 !=(r:Int))).filterMap (zMp v r i rt x) else []:=by
  unfold zBr;rw [hx]
 rw [hI]
 refine zG (fun h=>zB ?_) (fun h=> ?_)
 ·have h:rt.2.2.2.2.2.2.2.2.2.2.1.1=false:=by simpa using h
  rw [h];rfl
 have h:rt.2.2.2.2.2.2.2.2.2.2.1.1=true:=by simpa using h
 rw [h]
 refine zC (zC ((zHz v r i hs).mono (fun ns hns=> ?_)))
 rw [hv.own] at hns
 have hnl:ns.length≤360:=by rw [hns];exact zNR hs _ _ _
 refine (vI (xs:=ns) (by omega) (fun j (g:List (Ty.El zK))=>g=(ns.take j).filterMap (zMp v r i rt x)) rfl ?_ (fun g hg=>zB ?_))
 ·intro j e g he hg
  have hj:=(List.getElem?_eq_some_iff.1 he).1
  have hgl:g.length≤360:=by
   rw [hg]
   exact Nat.le_trans (List.length_filterMap_le _ _) (Nat.le_trans (List.length_take_le' _ _) hnl)
  simp only [zJ he,Option.bind_some]
  rw [w5 he, ←hg]
  have hem:=List.mem_of_getElem? he
  rw [hns] at hem
  obtain ⟨u1,u2,_⟩:=zMY hem
  obtain ⟨b0,b1,q,y,b2,b3⟩:=hv.ends _ _ _ u1 u2
  obtain ⟨e1,e2,⟨⟩⟩:=e
  obtain ⟨qn,rfl⟩:=Int.eq_ofNat_of_zero_le (show (0:Int)≤e1 from b0)
  obtain ⟨kn,rfl⟩:=Int.eq_ofNat_of_zero_le (show (0:Int)≤e2 from b1)
  have c2:v.1.1[qn]? =some q:=b2
  have c3:q.2.2.1[kn]? =some y:=b3
  have hqm:=List.mem_of_getElem? c2
  have hE:zMp v r i rt x ((qn:Int),(kn:Int),())=bif zOV rt q x y then some ((qn:Int),(kn:Int),(r:Int),(i:Int),q.2.1==rt.2.1,()) else none:=by
   unfold zMp
   simp only [Int.toNat_natCast,c2,c3]
  rw [hE]
  refine zC ((wA v qn kn q y c2 c3).mono (fun z hz=> ?_))
  subst hz
  refine ff rfl ?_
  simp only [zJ c2,Option.bind_some]
  refine zC ((show Wp _ (fun s:Bool×List (Ty.El zK)=>s.1=zOV rt q x y∧s.2=g) from ?_).mono (fun s hs'=> ?_))
  ·unfold zOV
   refine zG (fun h1=> ?_) (fun h1=>zB ⟨by rw [h1];rfl,rfl⟩)
   rw [h1]
   refine zC ((zBW rt _ _ hsm hnb).mono (fun b hb=> ?_))
   subst hb
   refine zG (fun h2=> ?_) (fun h2=>zB ⟨by rw [h2];rfl,rfl⟩)
   rw [h2]
   refine zC ((zBW q _ _ (hs.sm q hqm) (hv.nb q hqm)).mono (fun c hc=>zB ⟨?_,rfl⟩))
   rw [hc];rfl
  ·obtain ⟨s1,s2⟩:=s
   obtain ⟨k1,k2⟩:=hs'
   simp only at k1 k2
   subst k2
   refine zG (fun hb=> ?_) (fun hb=>zB ?_)
   ·have hb:s1=true:=hb
    rw [←k1,hb]
    exact zC (wN (by simp only [List.length_singleton];omega) (zB rfl))
   ·have hb:s1=false:=hb
    rw [←k1,hb]
    exact (List.append_nil s2).symm
 ·rw [hg,List.take_length,hns];rfl
theorem zEj (v:Ty.El zR) (hv:zMc v):Wp (uN (v,())) (fun l=>l=zGy v):=by
 unfold uN
 dsimp only
 have hs:=hv.s
 have hrs:=hs.rs
 refine zC ((vI (xs:=v.1.1) (by omega) (fun i (g:List (Ty.El zK))=>g=(List.range i).flatMap (zEk v)) rfl ?_ (Q:=fun g=>g=zGy v) (fun g hg=>hg)).mono (fun g hg=>zB hg))
 intro r rt g hr hg
 have hrl:=(List.getElem?_eq_some_iff.1 hr).1
 have hgl:g.length≤r*7200:=by
  have h2:=w4 (xs:=List.range r) (f:=zEk v) (k:=7200) (fun j _=>zNq hs j)
  rw [List.length_range] at h2
  rw [hg];exact h2
 have hsm:=hs.sm rt (List.mem_of_getElem? hr)
 have hil:rt.2.2.1.length≤20:=hsm.i1
 have yX:(List.range (r+1)).flatMap (zEk v)=g++(List.range rt.2.2.1.length).flatMap (zBr v r rt):=by
  rw [List.range_succ,List.flatMap_append, ←hg]
  have:zEk v r=(List.range rt.2.2.1.length).flatMap (zBr v r rt):=by unfold zEk;rw [hr]
  simp [this]
 rw [yX]
 simp only [zJ hr,Option.bind_some]
 refine jY (fun s:Int×List (Ty.El zK)=> ∃i:Nat,s.1=(i:Int)∧i≤rt.2.2.1.length∧s.2=g++(List.range i).flatMap (zBr v r rt)) (fun s=>((rt.2.2.1.length:Int) -s.1).toNat) ⟨0,rfl,Nat.zero_le _,by simp⟩ ?_
 rintro ⟨s,g'⟩ ⟨i,hi,hil2,hg'⟩
 simp only at hi hg'
 subst hi
 refine zI (fun h=> ?_) (fun h=>zB (e2r ?_))
 ·have h:(i:Int)< (rt.2.2.1.length:Int):=h
  obtain ⟨x,hx⟩: ∃x,rt.2.2.1[i]? =some x:=⟨_,List.getElem?_eq_getElem (by omega)⟩
  have hg'l:g'.length≤r*7200+i*360:=by
   have h2:=w4 (xs:=List.range i) (f:=zBr v r rt) (k:=360) (fun j _=>zEB hs r rt j)
   rw [List.length_range] at h2
   rw [hg',List.length_append]
   omega
  have hsl:=zEB hs r rt i
  refine zC ((yU v hv r i rt x hr hx).mono (fun l hl=> ?_))
  refine zC (wN (by simp only [hl];omega) (zB (e2l ⟨⟨i+1,?_,by omega,?_⟩,?_⟩)))
  ·simp only;rw [zF (by omega) (by omega)];omega
  ·rw [hl,hg',List.range_succ,List.flatMap_append,List.append_assoc]
   simp
  ·simp only;rw [zF (by omega) (by omega)];omega
 ·have h: ¬(i:Int)< (rt.2.2.1.length:Int):=h
  have:i=rt.2.2.1.length:=by omega
  subst this
  exact hg'
theorem zHC (v:Ty.El zR) (hv:zMc v):Wp (zBx (v,())) (fun l=>l=zGy v):=by
 unfold zBx
 dsimp only
 have hs:=hv.s
 have hrs:=hs.rs
 refine zC ((vI (xs:=v.1.1) (by omega) (fun i (g:List (Ty.El zK))=>g=(List.range i).flatMap (zEk v)) rfl ?_ (Q:=fun g=>g=zGy v) (fun g hg=>hg)).mono (fun g hg=>zB hg))
 intro r rt g hr hg
 have hrl:=(List.getElem?_eq_some_iff.1 hr).1
 have hgl:g.length≤r*7200:=by
  have h2:=w4 (xs:=List.range r) (f:=zEk v) (k:=7200) (fun j _=>zNq hs j)
  rw [List.length_range] at h2
  rw [hg];exact h2
 have hsm:=hs.sm rt (List.mem_of_getElem? hr)
 have hil:rt.2.2.1.length≤20:=hsm.i1
 have yX:(List.range (r+1)).flatMap (zEk v)=g++(List.range rt.2.2.1.length).flatMap (zBr v r rt):=by
  rw [List.range_succ,List.flatMap_append, ←hg]
  have:zEk v r=(List.range rt.2.2.1.length).flatMap (zBr v r rt):=by unfold zEk;rw [hr]
  simp [this]
 rw [yX]
 simp only [zJ hr,Option.bind_some]
 have hoff:rt.2.2.2.2.2.2.2.2.2.2.1.1=false→(List.range rt.2.2.1.length).flatMap (zBr v r rt)=[]:=by
  intro h
  rw [List.flatMap_eq_nil_iff]
  intro i _
  unfold zBr
  rw [h]
  split<;>rfl
 refine jY (fun s:Int×List (Ty.El zK)=> ∃i:Nat,s.1=(i:Int)∧i≤rt.2.2.1.length∧s.2=g++(List.range i).flatMap (zBr v r rt)∧(rt.2.2.2.2.2.2.2.2.2.2.1.1=false→s.2=g)) (fun s=>((rt.2.2.1.length:Int) -s.1).toNat) ⟨0,rfl,Nat.zero_le _,by simp,fun _=>rfl⟩ ?_
 rintro ⟨s,g'⟩ ⟨i,hi,hil2,hg',hgo⟩
 simp only at hi hg' hgo
 subst hi
 refine zC ((show Wp _ (fun b:Bool×List (Ty.El zK)=>b.1=(rt.2.2.2.2.2.2.2.2.2.2.1.1&&decide ((i:Int)< (rt.2.2.1.length:Int)))∧b.2=g') from ?_).mono (fun b hb=> ?_))
 ·refine zG (fun h=>zB ⟨?_,rfl⟩) (fun h=>zB ⟨?_,rfl⟩)
  ·rw [h];rfl
  ·rw [h];rfl
 obtain ⟨b1,b2⟩:=b
 obtain ⟨hb1,hb2⟩:=hb
 simp only at hb1 hb2
 subst hb1 hb2
 refine zG (fun hb=> ?_) (fun hb=>zB (e2r ?_))
 ·simp only [Bool.and_eq_true,decide_eq_true_eq] at hb
  obtain ⟨hon,h⟩:=hb
  obtain ⟨x,hx⟩: ∃x,rt.2.2.1[i]? =some x:=⟨_,List.getElem?_eq_getElem (by omega)⟩
  have hg'l:b2.length≤r*7200+i*360:=by
   have h2:=w4 (xs:=List.range i) (f:=zBr v r rt) (k:=360) (fun j _=>zEB hs r rt j)
   rw [List.length_range] at h2
   rw [hg',List.length_append]
   omega
  have hI:zBr v r rt i=(zGb v r i (fun e=>e.1 !=(r:Int))).filterMap (zMp v r i rt x):=by
   unfold zBr;rw [hx,hon];rfl
  refine zC (Wp.mono (Q:=fun g2=>g2=b2++zBr v r rt i) ?_ (fun g2 hg2=>zB (e2l ⟨⟨i+1,?_,by omega,?_,fun hf=>by rw [hf] at hon;cases hon⟩,?_⟩)))
  ·rw [hI]
   refine zC ((zGu v r i hs).mono (fun ns hns=> ?_))
   have hnl:ns.length≤360:=by rw [hns];exact zNR hs _ _ _
   refine (vI (xs:=ns) (by omega) (fun j (g3:List (Ty.El zK))=>g3=b2++(ns.take j).filterMap (zMp v r i rt x)) (by simp) ?_ (fun g3 hg3=>by rw [hg3,List.take_length,hns]))
   intro j e g3 he hg3
   have hj:=(List.getElem?_eq_some_iff.1 he).1
   have hgl3:g3.length≤r*7200+i*360+360:=by
    have h2:=List.length_filterMap_le (zMp v r i rt x) (ns.take j)
    have h3:=List.length_take_le' j ns
    rw [hg3,List.length_append]
    omega
   simp only [zJ he,Option.bind_some]
   rw [w5 he, ←List.append_assoc, ←hg3]
   have hem:=List.mem_of_getElem? he
   rw [hns] at hem
   obtain ⟨u1,u2,_⟩:=zMY hem
   obtain ⟨b0,b1,q,y,b2',b3⟩:=hv.ends _ _ _ u1 u2
   have hat:=zOS v e q y b0 b1 b2' b3
   obtain ⟨e1,e2,⟨⟩⟩:=e
   obtain ⟨qn,rfl⟩:=Int.eq_ofNat_of_zero_le (show (0:Int)≤e1 from b0)
   obtain ⟨kn,rfl⟩:=Int.eq_ofNat_of_zero_le (show (0:Int)≤e2 from b1)
   have c2:v.1.1[qn]? =some q:=b2'
   have c3:q.2.2.1[kn]? =some y:=b3
   have hqm:=List.mem_of_getElem? c2
   have hE:zMp v r i rt x ((qn:Int),(kn:Int),())=bif zOV rt q x y then some ((qn:Int),(kn:Int),(r:Int),(i:Int),q.2.1==rt.2.1,()) else none:=by
    unfold zMp
    simp only [Int.toNat_natCast,c2,c3]
   rw [hE]
   simp only [zJ c2,Option.bind_some]
   refine zC ((show Wp _ (fun s:Bool×List (Ty.El zK)=>s.1=zOV rt q x y∧s.2=g3) from ?_).mono (fun s hs'=> ?_))
   ·unfold zOV
    refine zG (fun h1=> ?_) (fun h1=>zB ⟨by rw [h1];rfl,rfl⟩)
    rw [h1]
    refine zC (hat.mono (fun z hz=> ?_))
    subst hz
    refine zC ((zFM rt _ _ hsm).mono (fun k hk=> ?_))
    subst hk
    have hk1:=zND rt.2.2.2.2.2.2.2.2.2.2.1.2.2.2.1 z.2.1 q.2.1
    refine zG (fun h2=> ?_) (fun h2=>zB ⟨?_,rfl⟩)
    ·rw [←hk1,h2]
     simp only [zJ hx,Option.bind_some]
     refine zC ((zFM q _ _ (hs.sm q hqm)).mono (fun k' hk'=>zB ⟨?_,rfl⟩))
     subst hk'
     rw [zND];rfl
    ·rw [←hk1,h2];rfl
   ·obtain ⟨s1,s2⟩:=s
    obtain ⟨k1,k2⟩:=hs'
    simp only at k1 k2
    subst k2
    refine zG (fun hb=> ?_) (fun hb=>zB ?_)
    ·have hb:s1=true:=hb
     rw [←k1,hb]
     refine zC (wN (by simp only [List.length_singleton];omega) (zB ?_))
     have hc:(rt.2.1==q.2.1)=(q.2.1==rt.2.1):=by
      rw [Bool.eq_iff_iff,beq_iff_eq,beq_iff_eq]
      exact ⟨Eq.symm,Eq.symm⟩
     rw [hc];rfl
    ·have hb:s1=false:=hb
     rw [←k1,hb]
     exact (List.append_nil s2).symm
  ·simp only;rw [zF (by omega) (by omega)];omega
  ·rw [hg2,hg',List.range_succ,List.flatMap_append,List.append_assoc]
   simp
  ·simp only;rw [zF (by omega) (by omega)];omega
 ·simp only at hb ⊢
  cases hon:rt.2.2.2.2.2.2.2.2.2.2.1.1 with
  |false=>rw [hoff hon,hgo hon,List.append_nil]
  |true=>
   rw [hon] at hb
   have h: ¬(i:Int)< (rt.2.2.1.length:Int):=by simpa using hb
   have:i=rt.2.2.1.length:=by omega
   subst this
   exact hg'
end Go.Ve

namespace Go.Ve
open Go
set_option maxRecDepth 1000000
set_option maxHeartbeats 4000000
theorem zSe {v:Ty.El zR} {x:Ty.El zK} :x∈zGy v↔ ∃ (r i:Nat) (rt:Ty.El zD) (z:Ty.El z7) (e:Ty.El zL) (q:Ty.El zD) (y:Ty.El z7),v.1.1[r]? =some rt∧rt.2.2.1[i]? =some z∧
  rt.2.2.2.2.2.2.2.2.2.2.1.1=true∧e∈zGb v r i (fun e=>e.1 !=(r:Int))∧v.1.1[Int.toNat e.1]? =some q∧q.2.2.1[Int.toNat e.2.1]? =some y∧zOV rt q z y=true∧x=(e.1,e.2.1,(r:Int),(i:Int),q.2.1==rt.2.1,()):=by
 unfold zGy
 rw [List.mem_flatMap]
 constructor
 ·rintro ⟨r,_,hr⟩
  unfold zEk at hr
  cases hrt:v.1.1[r]? with
  |none=>rw [hrt] at hr;cases hr
  |some rt=>
   rw [hrt] at hr
   obtain ⟨i,_,hi⟩:=List.mem_flatMap.1 hr
   unfold zBr at hi
   cases hz:rt.2.2.1[i]? with
   |none=>rw [hz] at hi;cases hi
   |some z=>
    rw [hz] at hi
    simp only at hi
    cases hon:rt.2.2.2.2.2.2.2.2.2.2.1.1 with
    |false=>rw [hon] at hi;cases hi
    |true=>
     rw [hon] at hi
     obtain ⟨e,he,hx⟩:=List.mem_filterMap.1 hi
     unfold zMp at hx
     cases hq:v.1.1[Int.toNat e.1]? with
     |none=>rw [hq] at hx;cases hx
     |some q=>
      rw [hq] at hx
      simp only at hx
      cases hy:q.2.2.1[Int.toNat e.2.1]? with
      |none=>rw [hy] at hx;cases hx
      |some y=>
       rw [hy] at hx
       simp only at hx
       cases hb:zOV rt q z y with
       |false=>rw [hb] at hx;cases hx
       |true=>
        rw [hb] at hx
        exact ⟨r,i,rt,z,e,q,y,hrt,hz,hon,he,hq,hy,hb,(Option.some.inj hx).symm⟩
 ·rintro ⟨r,i,rt,z,e,q,y,hrt,hz,hon,he,hq,hy,hb,rfl⟩
  refine ⟨r,List.mem_range.2 (List.getElem?_eq_some_iff.1 hrt).1,?_⟩
  unfold zEk
  rw [hrt]
  refine List.mem_flatMap.2 ⟨i,List.mem_range.2 (List.getElem?_eq_some_iff.1 hz).1,?_⟩
  unfold zBr
  rw [hz]
  simp only [hon,cond_true]
  refine List.mem_filterMap.2 ⟨e,he,?_⟩
  unfold zMp
  rw [hq]
  simp only [hy,hb,cond_true]
end Go.Ve

namespace Go.Ve
open Go
set_option maxRecDepth 1000000
set_option maxHeartbeats 4000000
def lwB (p q:Ty.El zH):Bool:=decide (q.2.1<p.2.1)&&(decide (q.2.1≤p.2.1)&&zDH q p.1)
theorem yV (p q:Ty.El zH):jJ (p,q,())=some (lwB p q):=by
 refine wM ?_
 unfold jJ lwB
 dsimp only
 refine zC (zI (fun h=> ?_) (fun h=>zB (zB ?_)))
 ·have h:q.2.1<p.2.1:=h
  refine zC (qJ (zEA _ _) (zB (zB ?_)))
  rw [decide_eq_true h];rfl
 ·have h: ¬q.2.1<p.2.1:=h
  rw [decide_eq_false h];rfl
def zTP (q:Ty.El zD) (p:Ty.El zH):Bool:=q.2.2.2.2.2.2.2.2.2.2.1.2.2.2.2.2.1.any (fun g:Ty.El jQ=>g.2.1&&lwB p g.1)
theorem zWq {q:Ty.El zD} {p:Ty.El zH} (hr:SmR q):Wp (kM (q,p,())) (fun b=>b=zTP q p):=by
 have h20:q.2.2.2.2.2.2.2.2.2.2.1.2.2.2.2.2.1.length≤20:=hr.i12
 unfold kM zTP
 dsimp only
 refine zAJ (xs:=q.2.2.2.2.2.2.2.2.2.2.1.2.2.2.2.2.1) (by omega) (fun i=> ∀j y,j<i→q.2.2.2.2.2.2.2.2.2.2.1.2.2.2.2.2.1[j]? =some y→(y.2.1&&lwB p y.1)=false) (fun j y hj=>by omega) ?_ (fun hj=>zB ?_)
 ·intro i x hx hj
  simp only [zJ hx,Option.bind_some]
  refine zC ((show Wp _ (fun s:Bool=>s=(x.2.1&&lwB p x.1)) from ?_).mono (fun s hs=> ?_))
  ·refine zG (fun h=>zC (qJ (yV _ _) (zB ?_))) (fun h=>zB ?_)
   ·rw [h];rfl
   ·rw [h];rfl
  ·refine zG (fun h=>zB (e2r (e2r ?_))) (fun h=>zB (e2l ⟨rfl,?_⟩))
   ·symm
    refine List.any_eq_true.2 ⟨x,List.mem_of_getElem? hx,?_⟩
    rw [←hs];exact h
   ·intro k z hk hz
    rcases Nat.lt_or_ge k i with h'|h'
    ·exact hj k z h' hz
    ·have:k=i:=by omega
     subst this
     rw [hx] at hz
     cases hz
     rw [←hs];exact h
 ·symm
  rw [List.any_eq_false]
  intro x hx
  obtain ⟨k,hk,rfl⟩:=List.getElem_of_mem hx
  rw [hj k _ hk (by simp [hk])]
  decide
def zIA (x:Ty.El zA) (m:Int):Ty.El zA:=(x.1,x.2.1,x.2.2.1,x.2.2.2.1,m,x.2.2.2.2.2)
def qAk (x y:Ty.El zA):Ty.El zA:=
 (x.1,(5:Int),(0:Int),(0:Int),y.2.2.2.2.1,(0:Int),y.2.2.2.2.2.2.1,y.2.2.2.2.2.2.2.1,x.2.2.2.2.2.2.2.2.1,(0:Int),(0:Int),[],false,())
def qAl (x y:Ty.El zA) (sy:Int) (k:Nat):Ty.El zA:=
 (x.1,(5:Int),(0:Int),(0:Int),y.2.2.2.2.1,(0:Int),y.2.2.2.2.2.2.1,(100:Int),List.replicate k sy++x.2.2.2.2.2.2.2.2.1,(0:Int),(0:Int),[],false,())
def zQT (q:Ty.El zD) (a:Int) (int:Bool) (x:Ty.El zA):Option (Ty.El zA):=
 bif (x.2.2.1==(4:Int)&&int)||zTP q x.1 then none else
 match zGc q.2.2.2.2.2.2.2.2.2.2.1.2.2.2.1 a with
 |none=>none
 |some nb=>bif int then (zG4 q nb.2.2.2.1 x).map (qAk x) else
  match zG4 q nb.2.2.2.1 (zIA x 0) with
  |none=>none
  |some y=>bif decide (1+zOZ q nb.2.2.2.1 (zIA x 0)+(x.2.2.2.2.2.2.2.2.1.length:Int)>(64:Int)) then none else some (qAl x y q.2.1 (1+(zOZ q nb.2.2.2.1 (zIA x 0)).toNat))
def zZR (m:Option (Ty.El zA)):Ty.El zA×Bool×Unit:=
 match m with
 |some z=>(z,true,())
 |none=>(zWo,false,())
theorem zLK {r:Ty.El zD} {nm:Ty.El .str} {x:Ty.El zA} {y:Ty.El zA×Bool×Unit} (h:y=match zG4 r nm x with
  |some z=>(z,true,())
  |none=>(zWo,false,())):(y.2.1=false∧zG4 r nm x=none)∨(y.2.1=true∧zG4 r nm x=some y.1):=by
 cases hc:zG4 r nm x with
 |none=>rw [hc] at h;exact .inl ⟨by rw [h],rfl⟩
 |some z=>rw [hc] at h;exact .inr ⟨by rw [h],by rw [h]⟩
theorem zVp (x:Ty.El zA) (m:Int):RtS x→RtS (zIA x m):=fun h=>⟨h.path,h.hops⟩
theorem zBp (v:Ty.El zR) (hv:zMc v) (qn kn r i:Nat) (int:Bool) (q rt:Ty.El zD) (z:Ty.El z7) (hq:v.1.1[qn]? =some q) (hr:v.1.1[r]? =some rt) (hz:rt.2.2.1[i]? =some z) (hm:zA1 q) (x:Ty.El zA) (hx:RtS x):
  Wp (kQ (v,((qn:Int),(kn:Int),(r:Int),(i:Int),int,()),x,())) (fun y=>y=zZR (zQT q z.2.1 int x)):=by
 unfold kQ
 dsimp only
 have hs:=hv.s
 have hqs:=hs.sm q (List.mem_of_getElem? hq)
 have hql:=(List.getElem?_eq_some_iff.1 hq).1
 have q0: ¬((qn:Int)<0):=by omega
 have q1: ¬((qn:Int)≥(List.length v.1.1:Int)):=by omega
 refine zC ((wA v r i rt z hr hz).mono (fun y0 hy0=> ?_))
 subst hy0
 refine zC ((show Wp _ (fun s:Bool=>s=false) from ?_).mono (fun s hs'=> ?_))
 ·exact ff rfl (zI (fun h=>absurd h q0) (fun _=>zB (decide_eq_false q1)))
 subst hs'
 refine ff rfl ?_
 simp only [zJ hq,Option.bind_some]
 refine zC ((show Wp _ (fun s:Bool=>s=((x.2.2.1==(4:Int)&&int)||zTP q x.1)) from ?_).mono (fun s hs'=> ?_))
 ·refine zG (fun h=>zG (fun h2=>zB ?_) (fun h2=>zC ((zWq hqs).mono (fun b hb=>zB ?_)))) (fun h=>zC ((zWq hqs).mono (fun b hb=>zB ?_)))
  ·have h2:int=true:=h2
   rw [h,h2];rfl
  ·have h2:int=false:=h2
   rw [h,h2,hb];rfl
  ·rw [h,hb];rfl
 subst hs'
 unfold zQT
 refine zG (fun h=>zB ?_) (fun h=> ?_)
 ·rw [h];rfl
 rw [h]
 refine zC ((vW q z.2.1 hqs).mono (fun y8 hy8=> ?_))
 cases hn:zGc q.2.2.2.2.2.2.2.2.2.2.1.2.2.2.1 z.2.1 with
 |none=>
  rw [hn] at hy8
  simp only at hy8
  subst hy8
  exact tt rfl (zB rfl)
 |some nb=>
  rw [hn] at hy8
  simp only at hy8
  subst hy8
  refine ff rfl ?_
  dsimp only
  cases int with
  |true=>
   refine zC (ff rfl (zB ?_))
   refine zC ((zBn q nb.2.2.2.1 x hqs hx).mono (fun y10 hy10=> ?_))
   rcases zLK hy10 with ⟨h1,h2⟩|⟨h1,h2⟩
   ·refine tt (by rw [h1];rfl) (zB ?_)
    simp only [cond_false,cond_true,h2];rfl
   ·refine ff (by rw [h1];rfl) (tt rfl (zC (qJ (zLG _ hx.path) (zB ?_))))
    simp only [cond_false,cond_true,h2];rfl
  |false=>
   refine zC (tt rfl (zB ?_))
   have hx':RtS (zIA x 0):=zVp x 0 hx
   refine zC ((zBn q nb.2.2.2.1 (zIA x 0) hqs hx').mono (fun y10 hy10=> ?_))
   rcases zLK hy10 with ⟨h1,h2⟩|⟨h1,h2⟩
   ·refine tt (by rw [h1];rfl) (zB ?_)
    simp only [cond_false,h2];rfl
   ·refine ff (by rw [h1];rfl) (ff rfl (zC ((zHD q nb.2.2.2.1 (zIA x 0) hqs).mono (fun y12 hy12=> ?_))))
    subst hy12
    have hpn:=zUW hm nb.2.2.2.1 (zIA x 0)
    have hpl:=hx.path
    have hpl:x.2.2.2.2.2.2.2.2.1.length≤1048576:=hpl
    simp only [cond_false,h2]
    generalize zOZ q nb.2.2.2.1 (zIA x 0)=pn at hpn
    obtain ⟨k,rfl⟩:=Int.eq_ofNat_of_zero_le hpn.1
    rw [zF (x:=(1:Int)+(k:Int)) (by omega) (by omega)]
    have hw:IntKind.wrap IntKind.i64 ((1:Int)+(k:Int)+((List.length (zIA x 0).2.2.2.2.2.2.2.2.1:Nat):Int))=(1:Int)+(k:Int)+(x.2.2.2.2.2.2.2.2.1.length:Int):=by
     show IntKind.wrap IntKind.i64 ((1:Int)+(k:Int)+(x.2.2.2.2.2.2.2.2.1.length:Int))=_
     rw [zF (by omega) (by omega)]
    refine zI (fun h=>zB ?_) (fun h=> ?_)
    ·have h:(1:Int)+(k:Int)+(x.2.2.2.2.2.2.2.2.1.length:Int)>64:=by rw [←hw];exact h
     rw [decide_eq_true h];rfl
    ·have h: ¬(1:Int)+(k:Int)+(x.2.2.2.2.2.2.2.2.1.length:Int)>64:=by rw [←hw];exact h
     rw [decide_eq_false h]
     refine zC ((show Wp _ (fun s:Int×Int×Int×Int×Int×Int×Int×Int×Int×List Int×Int×Int×List (Ty.El qQ)×Bool=>s=(x.1.1,x.1.2.1,(5:Int),(0:Int),(0:Int),y10.1.2.2.2.2.1,(0:Int),y10.1.2.2.2.2.2.2.1,(0:Int),List.replicate (1+k) q.2.1,(0:Int),(0:Int),[],false)) from ?_).mono (fun s hs'=> ?_))
     ·refine jY (fun s:Int×Int×Int×Int×Int×Int×Int×Int×Int×Int×List Int×Int×Int×List (Ty.El qQ)×Bool=> ∃j:Nat,j≤1+k∧s=((j:Int),x.1.1,x.1.2.1,(5:Int),(0:Int),(0:Int),y10.1.2.2.2.2.1,(0:Int),y10.1.2.2.2.2.2.2.1,(0:Int),List.replicate j q.2.1,(0:Int),(0:Int),[],false)) (fun s=>((1:Int)+(k:Int) -s.1).toNat) ⟨0,Nat.zero_le _,rfl⟩ ?_
      rintro s ⟨j,hj,rfl⟩
      refine zI (fun hlt=> ?_) (fun hge=>zB (e2r ?_))
      ·have hlt:(j:Int)< (1:Int)+(k:Int):=hlt
       refine zC (wN (by simp only [List.length_replicate,List.length_singleton];omega) (zB (e2l ⟨⟨j+1,by omega,?_⟩,?_⟩)))
       ·rw [zF (by omega) (by omega)]
        rw [List.replicate_succ']
        rfl
       ·simp only;rw [zF (by omega) (by omega)];omega
      ·have hge: ¬(j:Int)< (1:Int)+(k:Int):=hge
       have:j=1+k:=by omega
       subst this
       rfl
     ·subst hs'
      refine zC (wN (by simp only [List.length_replicate];show (2*(1+k+x.2.2.2.2.2.2.2.2.1.length)+1024)*8≤_;omega) (zB ?_))
      obtain ⟨⟨pa,pl,⟨⟩⟩,x2⟩:=x
      rfl
def qAu (rt:Ty.El zD) (a:Int) (i:Int) (int:Bool) (m y:Ty.El zA):Ty.El zA:=
 (m.1,(5:Int),(bif int then (4:Int) else (3:Int)),(bif int then rt.2.2.2.2.2.2.2.2.2.2.1.2.2.1 else rt.2.2.2.2.2.2.2.2.2.2.1.2.1),y.2.2.2.2.1,(0:Int),y.2.2.2.2.2.2.1,y.2.2.2.2.2.2.2.1,m.2.2.2.2.2.2.2.2.1,a,(0:Int),[(i,a,())],false,())
def zQM (rt:Ty.El zD) (a:Int) (i:Int) (int:Bool) (m:Ty.El zA):Option (Ty.El zA):=
 bif m.2.2.2.2.2.2.2.2.1.any (fun x=>x==rt.2.1) then none else
 match zGc rt.2.2.2.2.2.2.2.2.2.2.1.2.2.2.1 a with
 |none=>none
 |some nb=>(zG4 rt nb.2.2.1 m).map (qAu rt a i int m)
theorem zBo (v:Ty.El zR) (hv:zMc v) (qn kn r:Nat) (i:Int) (int:Bool) (q rt:Ty.El zD) (y:Ty.El z7) (hq:v.1.1[qn]? =some q) (hy:q.2.2.1[kn]? =some y) (hr:v.1.1[r]? =some rt) (m:Ty.El zA) (hx:RtS m):
  Wp (kP (v,((qn:Int),(kn:Int),(r:Int),i,int,()),m,())) (fun z=>z=zZR (zQM rt y.2.1 i int m)):=by
 unfold kP
 dsimp only
 have hs:=hv.s
 have hrs:=hs.sm rt (List.mem_of_getElem? hr)
 have hrl:=(List.getElem?_eq_some_iff.1 hr).1
 have q0: ¬((r:Int)<0):=by omega
 have q1: ¬((r:Int)≥(List.length v.1.1:Int)):=by omega
 refine zC ((wA v qn kn q y hq hy).mono (fun y0 hy0=> ?_))
 subst hy0
 refine zC ((show Wp _ (fun s:Bool=>s=false) from ?_).mono (fun s hs'=> ?_))
 ·exact ff rfl (zI (fun h=>absurd h q0) (fun _=>zB (decide_eq_false q1)))
 subst hs'
 refine ff rfl ?_
 simp only [zJ hr,Option.bind_some]
 refine zC ((zAx m.2.2.2.2.2.2.2.2.1 rt.2.1 hx.path).mono (fun b hb=> ?_))
 subst hb
 unfold zQM
 refine zG (fun h=>zB ?_) (fun h=> ?_)
 ·rw [h];rfl
 rw [h]
 refine zC ((vW rt y.2.1 hrs).mono (fun y4 hy4=> ?_))
 cases hn:zGc rt.2.2.2.2.2.2.2.2.2.2.1.2.2.2.1 y.2.1 with
 |none=>
  rw [hn] at hy4
  simp only at hy4
  subst hy4
  exact tt rfl (zB rfl)
 |some nb=>
  rw [hn] at hy4
  simp only at hy4
  subst hy4
  refine ff rfl ?_
  dsimp only
  refine zC ((zBn rt nb.2.2.1 m hrs hx).mono (fun y5 hy5=> ?_))
  rcases zLK hy5 with ⟨h1,h2⟩|⟨h1,h2⟩
  ·refine tt (by rw [h1];rfl) (zB ?_)
   simp only [cond_false,h2];rfl
  ·refine ff (by rw [h1];rfl) (zC (qJ (zLG _ hx.path) ?_))
   simp only [cond_false,h2]
   cases int with
   |true=>exact zC (zB (zB rfl))
   |false=>exact zC (zB (zB rfl))
end Go.Ve

namespace Go.Ve
open Go
set_option maxRecDepth 1000000
set_option maxHeartbeats 4000000
theorem zPS (l:List Int) (hl:l.length≤1152921504606846976):zEL (l,l,())=some true:=by
 refine wM ?_
 unfold zEL
 dsimp only
 refine ff (by simp) ?_
 refine zEb (P:=fun _=>True) (by omega) ?_ (fun _=>zB rfl)
 intro i x hx
 simp only [zJ hx,Option.bind_some]
 exact ff (by simp) (zB (e2l ⟨rfl,trivial⟩))
theorem zZH {n:Ty.El zV} {d:List Int} {v:Ty.El zR} (hv:zCg n d v) {s:Ty.El zK} (h:s∈zGy v):
  ∃ (qn kn r i:Nat) (int:Bool) (q rt:Ty.El zD) (y z:Ty.El z7),s=((qn:Int),(kn:Int),(r:Int),(i:Int),int,())∧v.1.1[qn]? =some q∧q.2.2.1[kn]? =some y∧v.1.1[r]? =some rt∧rt.2.2.1[i]? =some z∧zA1 q∧zA1 rt∧zOV rt q z y=true∧int=(q.2.1==rt.2.1)∧qn≠r:=by
 obtain ⟨r,i,rt,z,e,q,y,hrt,hz,hon,he,hq,hy,hb,rfl⟩:=zSe.1 h
 obtain ⟨u1,u2,u3⟩:=zMY he
 obtain ⟨b0,b1,_⟩:=zXT hv u1 u2
 obtain ⟨e1,e2,⟨⟩⟩:=e
 obtain ⟨qn,rfl⟩:=Int.eq_ofNat_of_zero_le (show (0:Int)≤e1 from b0)
 obtain ⟨kn,rfl⟩:=Int.eq_ofNat_of_zero_le (show (0:Int)≤e2 from b1)
 have hq:v.1.1[qn]? =some q:=hq
 have hy:q.2.2.1[kn]? =some y:=hy
 have hok: ∀ (k:Nat) (w:Ty.El zD),v.1.1[k]? =some w→zA1 w:=fun k w hk=>zYP ((zTI hv).rt w (by rw [←hv.net];exact List.mem_of_getElem? hk)) (hv.s.sm w (List.mem_of_getElem? hk))
 have u3:((qn:Int) !=(r:Int))=true:=u3
 have u3:(qn:Int)≠(r:Int):=by simpa using u3
 exact ⟨qn,kn,r,i,_,q,rt,y,z,rfl,hq,hy,hrt,hz,hok qn q hq,hok r rt hrt,hb,rfl,by omega⟩
theorem zJQ {m:Option (Ty.El zA)} {y:Ty.El zA×Bool×Unit} (h:y=zZR m):(y.2.1=false∧m=none)∨(y.2.1=true∧m=some y.1):=by
 cases m with
 |none=>exact .inl ⟨by rw [h];rfl,rfl⟩
 |some z=>exact .inr ⟨by rw [h];rfl,by rw [h];rfl⟩
theorem zSx {q:Ty.El zD} {a:Int} {int:Bool} {x m:Ty.El zA} (hm:zA1 q) (h:zQT q a int x=some m):
  ((x.2.2.1==(4:Int)&&int)=false∧zTP q x.1=false)∧((int=true∧m.2.2.2.2.2.2.2.2.1=x.2.2.2.2.2.2.2.2.1)∨(int=false∧ ∃k:Nat,k≤8∧m.2.2.2.2.2.2.2.2.1=List.replicate (1+k) q.2.1++x.2.2.2.2.2.2.2.2.1∧1+k+x.2.2.2.2.2.2.2.2.1.length≤64))∧m.2.2.2.2.2.2.2.2.2.2.2.1=[]:=by
 unfold zQT at h
 cases hh:(x.2.2.1==(4:Int)&&int)||zTP q x.1 with
 |true=>rw [hh] at h;cases h
 |false=>
  rw [hh] at h
  refine ⟨by simpa using hh,?_⟩
  simp only [cond_false] at h
  cases hn:zGc q.2.2.2.2.2.2.2.2.2.2.1.2.2.2.1 a with
  |none=>rw [hn] at h;cases h
  |some nb=>
   rw [hn] at h
   simp only at h
   cases int with
   |true=>
    simp only [cond_true] at h
    cases ha:zG4 q nb.2.2.2.1 x with
    |none=>rw [ha] at h;cases h
    |some y=>
     rw [ha] at h
     have h:=(Option.some.inj h).symm
     subst h
     exact ⟨.inl ⟨rfl,rfl⟩,rfl⟩
   |false=>
    simp only [cond_false] at h
    cases ha:zG4 q nb.2.2.2.1 (zIA x 0) with
    |none=>rw [ha] at h;cases h
    |some y=>
     rw [ha] at h
     simp only at h
     have hpn:=zUW hm nb.2.2.2.1 (zIA x 0)
     generalize zOZ q nb.2.2.2.1 (zIA x 0)=pn at hpn h
     obtain ⟨k,rfl⟩:=Int.eq_ofNat_of_zero_le hpn.1
     cases hd:decide ((1:Int)+(k:Int)+(x.2.2.2.2.2.2.2.2.1.length:Int)>(64:Int)) with
     |true=>rw [hd] at h;cases h
     |false=>
      rw [hd] at h
      have h:=(Option.some.inj h).symm
      subst h
      have hd:=of_decide_eq_false hd
      refine ⟨.inr ⟨rfl,k,by omega,?_,by omega⟩,rfl⟩
      simp only [Int.toNat_natCast]
      rfl
theorem zXo {rt:Ty.El zD} {a i:Int} {int:Bool} {m y:Ty.El zA} (h:zQM rt a i int m=some y):y.2.2.2.2.2.2.2.2.1=m.2.2.2.2.2.2.2.2.1∧m.2.2.2.2.2.2.2.2.1.any (fun x=>x==rt.2.1)=false:=by
 unfold zQM at h
 cases hh:m.2.2.2.2.2.2.2.2.1.any (fun x=>x==rt.2.1) with
 |true=>rw [hh] at h;cases h
 |false=>
  rw [hh] at h
  simp only [cond_false] at h
  cases hn:zGc rt.2.2.2.2.2.2.2.2.2.2.1.2.2.2.1 a with
  |none=>rw [hn] at h;cases h
  |some nb=>
   rw [hn] at h
   simp only at h
   cases ha:zG4 rt nb.2.2.1 m with
   |none=>rw [ha] at h;cases h
   |some w=>
    rw [ha] at h
    have h:=(Option.some.inj h).symm
    subst h
    exact ⟨rfl,rfl⟩
theorem zPg (n:Ty.El zV) (d:List Int) (x:Ty.El zA) (hx:RtS x):Wp (zAQ (n,d,x,())) (fun b=>b=true):=by
 unfold zAQ
 dsimp only
 refine zC ((zNi n d).mono (fun y0 hy0=> ?_))
 refine zC ((show Wp _ (fun s:Bool=>s=false→zCg n d y0.1) from ?_).mono (fun s hs=> ?_))
 ·refine zG (fun h=>zB (fun h=>by cases h)) (fun h1=>zG (fun h=>zB (fun h=>by cases h)) (fun _=> ?_))
  exact zC ((zMg x hx).mono (fun _ _=>zB (fun _=>hy0 (by simpa using h1))))
 refine zG (fun h=>zB rfl) (fun h=> ?_)
 have hv:=hs h
 refine zC ((zHC y0.1 hv.p).mono (fun l hl=> ?_))
 have hll:=zWK hv.s
 rw [←hl] at hll
 refine zEb (P:=fun _=>True) (by omega) ?_ (fun _=>zC (qJ rfl (zB rfl)))
 intro j s hsj
 have hsm:=List.mem_of_getElem? hsj
 rw [hl] at hsm
 obtain ⟨qn,kn,r,i,int,q,rt,y,z,hse,hq,hy,hr,hz,hmq,hmr,hb,hint,_⟩:=zZH hv hsm
 have hqn:n.1[qn]? =some q:=by rw [←hv.net];exact hq
 have hrn:n.1[r]? =some rt:=by rw [←hv.net];exact hr
 simp only [zJ hsj,Option.bind_some]
 subst hse
 refine qD (zC ((zBp y0.1 hv.p qn kn r i int q rt z hq hr hz hmq x hx).mono (fun m hm=> ?_)))
 rcases zJQ hm with ⟨h1,_⟩|⟨h1,hme⟩
 ·exact tt (by rw [h1];rfl) (zB (e2l (zB (e2l ⟨rfl,trivial⟩))))
 refine ff (by rw [h1];rfl) ?_
 obtain ⟨_,hpath,hhops⟩:=zSx hmq hme
 have hxp:=hx.path
 have hxp:x.2.2.2.2.2.2.2.2.1.length≤1048576:=hxp
 have hms:RtS m.1:=by
  refine ⟨?_,?_⟩
  ·show m.1.2.2.2.2.2.2.2.2.1.length≤_
   rcases hpath with ⟨_,h2⟩|⟨_,k,hk,h2,h3⟩
   ·rw [h2];exact hxp
   ·rw [h2];simp only [List.length_append,List.length_replicate];omega
  ·show m.1.2.2.2.2.2.2.2.2.2.2.2.1.length≤_
   rw [hhops];exact Nat.zero_le _
 refine zC ((zBo y0.1 hv.p qn kn r i int q rt y hq hy hr m.1 hms).mono (fun w hw=> ?_))
 rcases zJQ hw with ⟨h2,_⟩|⟨h2,hwe⟩
 ·exact tt (by rw [h2];rfl) (zB (e2l (zB (e2l ⟨rfl,trivial⟩))))
 refine ff (by rw [h2];rfl) ?_
 obtain ⟨hwp,hno⟩:=zXo hwe
 have hml:=hms.path
 have hml:m.1.2.2.2.2.2.2.2.2.1.length≤1048576:=hml
 rw [hwp]
 generalize hP:m.1.2.2.2.2.2.2.2.2.1=P at hno hml hpath
 refine qD (zQe (xs:=P) (P:=fun _=>True) (by omega) ?_ (fun _=>e2l ?_))
 ·intro k a ha
  simp only [zJ ha,zJ hrn,Option.bind_some]
  rw [List.any_eq_false] at hno
  have:=hno a (List.mem_of_getElem? ha)
  exact ff (by simpa using this) (zB (e2l ⟨rfl,trivial⟩))
 ·rcases hpath with ⟨hi,h3⟩|⟨hi,k,hk,h3,h4⟩
  ·refine tt hi ?_
   rw [h3]
   exact zC (qJ (zPS _ (by omega)) (ff rfl (zB (e2l (zB (e2l ⟨rfl,trivial⟩))))))
  ·refine ff hi ?_
   have hPl:P.length=1+k+x.2.2.2.2.2.2.2.2.1.length:=by rw [h3];simp only [List.length_append,List.length_replicate]
   refine zC ((show Wp _ (fun s:Bool=>s=false) from ?_).mono (fun s hs'=> ?_))
   ·refine zI (fun h=> ?_) (fun _=> ?_)
    ·have h:(P.length:Int)≤(x.2.2.2.2.2.2.2.2.1.length:Int):=h
     omega
    ·have h0:P[0]? =some q.2.1:=by
      rw [h3,Nat.add_comm 1 k,List.replicate_succ]
      rfl
     have h0':idx P (0:Int)=some q.2.1:=zJ (i:=0) h0
     refine zC (qJ h0' ?_)
     simp only [zJ hqn,Option.bind_some]
     refine ff (by simp) ?_
     have hsub:sub P (IntKind.wrap IntKind.i64 ((P.length:Int) - (x.2.2.2.2.2.2.2.2.1.length:Int))) (P.length:Int)=some x.2.2.2.2.2.2.2.2.1:=by
      rw [zF (by omega) (by omega)]
      have e1:((P.length:Int) - (x.2.2.2.2.2.2.2.2.1.length:Int))=((1+k:Nat):Int):=by omega
      rw [e1]
      have:=zRC (xs:=P) (k:=1+k) (by omega)
      rw [this,h3]
      congr 1
      rw [List.drop_append_of_le_length (by simp),List.drop_of_length_le (by simp)]
      rfl
     refine zC (qJ hsub (zC (qJ (zPS _ (by omega)) (zB rfl))))
   subst hs'
   exact ff rfl (zB (e2l (zB (e2l ⟨rfl,trivial⟩))))
theorem zHZ: ∀x:ElS [zV, .sl tI,zA],zU3 1048576 [zV, .sl tI,zA] x→zAQ x=some true:=by
 rintro ⟨n,d,x,⟨⟩⟩ ⟨_,_,h,_⟩
 exact wM (zPg n d x (zVs h))
end Go.Ve

namespace Go.Ve
open Go
set_option maxRecDepth 1000000
set_option maxHeartbeats 4000000
def ifS (nm:ByteArray) (a:Int) (dv:Bool):Ty.El z7:=(nm,a,24,0,false,false,0,0,dv,⟨#[]⟩,⟨#[]⟩,0,())
def rtS (nm:ByteArray) (sy:Int) (ifs:List (Ty.El z7)) (dv:Ty.El tDV) (pv:Ty.El tPV):Ty.El zD:=(nm,sy,ifs,[],[],[],[],[],(false,0,[],[],()),dv,pv,())
def qAF:Ty.El tDV:=(true,120,⟨#[]⟩,⟨#[]⟩,[],())
def qAv:Ty.El tPV:=(false,0,0,[],[],[],[],[],())
def qAT:Ty.El zD:=rtS ⟨#[97]⟩ 0 [ifS ⟨#[101,48]⟩ 167772161 true] qAF qAv
def qAS:Ty.El zD:=rtS ⟨#[98]⟩ 0 [ifS ⟨#[101,48]⟩ 167772162 true,ifS ⟨#[101,49]⟩ 167772418 true] qAF qAv
def zZQ:Ty.El zV:=([qAT,qAS],())
def zWy:Ty.El zJs:=([((167772160,24,()),0,[(0,0,()),(1,0,())],()),((167772416,24,()),0,[(1,1,())],())],[0],())
def zZC:Ty.El zR:=(zZQ,zWy,[],())
theorem zQn {nm:ByteArray} {sy:Int} {ifs:List (Ty.El z7)} {dv:Ty.El tDV} {pv:Ty.El tPV} (h1:ifs.length≤20) (h2:dv.2.2.2.2.1.length≤20) (h3:pv.2.2.2.1.length≤20) (h4:pv.2.2.2.2.1.length≤20) (h5:pv.2.2.2.2.2.1.length≤20) (h6:pv.2.2.2.2.2.2.1.length≤20) (h7:pv.2.2.2.2.2.2.2.1.length≤20):SmR (rtS nm sy ifs dv pv) where
 i1:=h1
 i2:=Nat.zero_le _
 i3:=Nat.zero_le _
 i4:=Nat.zero_le _
 i5:=Nat.zero_le _
 i6:=Nat.zero_le _
 i7:=Nat.zero_le _
 i8:=Nat.zero_le _
 i9:=h2
 i10:=h3
 i11:=h4
 i12:=h5
 i13:=h6
 i14:=h7
 n1:=fun y hy=>by cases hy
 n2:=fun y hy=>by cases hy
 n3:=fun y hy=>by cases hy
theorem zHb:zBb zZC where
 rs:=by decide
 sm:=fun y hy=>by
  rcases List.mem_cons.1 hy with rfl|hy
  ·exact zQn (by decide) (by decide) (by decide) (by decide) (by decide) (by decide) (by decide)
  ·rcases List.mem_cons.1 hy with rfl|hy
   ·exact zQn (by decide) (by decide) (by decide) (by decide) (by decide) (by decide) (by decide)
   ·cases hy
 doms:=by decide
 ends := fun d hd => by
  rcases List.mem_cons.1 hd with rfl|hd
  ·decide
  ·rcases List.mem_cons.1 hd with rfl|hd
   ·decide
   ·cases hd
 links:=by decide
 link0:=fun l hl=>by
  rcases List.mem_cons.1 hl with rfl|hl
  ·decide
  ·cases hl
 down:=by decide
 down0:=fun l hl=>by cases hl
end Go.Ve

namespace Go.Ve
open Go
set_option maxRecDepth 1000000
set_option maxHeartbeats 4000000
def zIE (v:Ty.El zR) (t:List (Ty.El zA)) (s:Ty.El zK):List (Ty.El zA):=
 match v.1.1[Int.toNat s.1]?,v.1.1[Int.toNat s.2.2.1]? with
 |some q,some rt=>match q.2.2.1[Int.toNat s.2.1]?,rt.2.2.1[Int.toNat s.2.2.2.1]? with
  |some y,some z=>t.filterMap (fun x=>(zQT q z.2.1 s.2.2.2.2.1 x).bind (zQM rt y.2.1 s.2.2.2.1 s.2.2.2.2.1))
  |_,_=>[]
 |_,_=>[]
def zJL (s:List (Ty.El qL)) (k:Int):List (Ty.El zA):=
 match s[Int.toNat k]? with
 |some t=>t.2.2.1
 |none=>[]
def zVx (v:Ty.El zR) (s:List (Ty.El qL)) (r:Nat):List (Ty.El zA):=(zEk v r).flatMap (fun x=>zIE v (zJL s x.1) x)
theorem zNz {v:Ty.El zR} {t:List (Ty.El zA)} {s:Ty.El zK} :(zIE v t s).length≤t.length:=by
 unfold zIE
 split
 ·split
  ·exact List.length_filterMap_le _ _
  ·exact Nat.zero_le _
 ·exact Nat.zero_le _
end Go.Ve



namespace Go.Ve
open Go
set_option maxRecDepth 1000000
set_option maxHeartbeats 4000000
def zQy (r:Ty.El zD) (d:Ty.El jE) (x:Ty.El zA):Option (Int×Int):=
 bif d.2.2.2.1==({ data:= #[] } :ByteArray) then some (d.2.1,d.2.2.1) else
 (zIG r d.2.2.2.1 x).map (fun c=>((bif c.2.2.2.1==(-1:Int) then d.2.1 else c.2.2.2.1),(bif c.2.2.2.2.1==(-1:Int) then d.2.2.1 else c.2.2.2.2.1)))
def zMF (r:Ty.El zD) (p:Ty.El zH) (m t:Int):Ty.El zA:=
 (p,(5:Int),(1:Int),r.2.2.2.2.2.2.2.2.2.2.1.2.2.1,m,(0:Int),t,(100:Int),[],(0:Int),(0:Int),[],false,())
def zYG (r:Ty.El zD) (d:Ty.El jE) (x:Ty.El zA):Option (Ty.El zA):=(zQy r d x).map (fun mt=>zMF r x.1 mt.1 mt.2)
def zR9 (x:Ty.El zA):Bool:=x.2.2.2.2.2.2.2.2.2.2.2.2.1&&(x.2.1 !=(2:Int))
def zWW (r:Ty.El zD) (l:List (Ty.El jE)) (x:Ty.El zA):Option (Ty.El zA):=
 bif zR9 x then none else (l.find? (fun d=>d.1==x.2.1)).bind (fun d=>zYG r d x)
def zZM (r:Ty.El zD) (l:List (Ty.El jE)) (rib:List (Ty.El zA)):List (Ty.El zA):=rib.filterMap (zWW r l)
theorem zMk (r:Ty.El zD) (d:Ty.El jE) (x:Ty.El zA) (hr:SmR r):Wp (zFb (r,d,x,())) (fun y=>(y.2.2.1=false∧zQy r d x=none)∨(y.2.2.1=true∧zQy r d x=some (y.1,y.2.1))):=by
 unfold zFb
 dsimp only
 refine zG (fun h=>zB (.inr ⟨rfl,by unfold zQy;rw [h];rfl⟩)) (fun h=> ?_)
 have hT:zQy r d x=(zIG r d.2.2.2.1 x).map (fun c=>((bif c.2.2.2.1==(-1:Int) then d.2.1 else c.2.2.2.1),(bif c.2.2.2.2.1==(-1:Int) then d.2.2.1 else c.2.2.2.2.1))):=by unfold zQy;rw [h];rfl
 rw [hT]
 refine zC ((zAr r _ hr).mono (fun k hk=> ?_))
 subst hk
 refine zC ((zDm r _ x hr).mono (fun k hk=> ?_))
 rcases hk with ⟨h1,h2⟩|⟨i,j,m,c,rfl,h2,h3,h4,h5⟩
 ·have hp:zIG r d.2.2.2.1 x=none:=by unfold zIG;rw [h2]
  rw [hp]
  refine zC (Wp.mono (Q:=fun b=>b=true) ?_ (fun b hb=> ?_))
  ·exact zI (fun _=>zB rfl) (fun _=>zI (fun _=>zB rfl) (fun _=>zI (fun _=>zB rfl) (fun h=>absurd h1 h)))
  ·subst hb
   exact tt rfl (zB (.inl ⟨rfl,rfl⟩))
 ·rw [h2]
  have hj:=(List.getElem?_eq_some_iff.1 h3).1
  have hi:=(List.getElem?_eq_some_iff.1 h4).1
  refine zC (Wp.mono (Q:=fun b=>b=false) ?_ (fun b hb=> ?_))
  ·refine zI (fun h=>absurd h (by omega)) (fun _=>zI (fun h=>absurd h (by omega)) (fun _=>zI (fun h=>absurd h (by omega)) (fun _=> ?_)))
   simp only [zJ h3,Option.bind_some]
   exact zB (decide_eq_false (by omega))
  ·subst hb
   refine ff rfl ?_
   simp only [zJ h3,zJ h4,Option.bind_some]
   refine zC (Wp.mono (Q:=fun s=>s=(bif c.2.2.2.1==(-1:Int) then d.2.1 else c.2.2.2.1)) ?_ (fun s9 h9=> ?_))
   ·refine zG (fun h=>zB ?_) (fun h=>zB ?_)
    ·have h:(c.2.2.2.1==(-1:Int))=false:=by simpa [bne] using h
     rw [h];rfl
    ·have h:(c.2.2.2.1==(-1:Int))=true:=by simpa [bne] using h
     rw [h];rfl
   refine zC (Wp.mono (Q:=fun s=>s=(bif c.2.2.2.2.1==(-1:Int) then d.2.2.1 else c.2.2.2.2.1)) ?_ (fun s10 h10=> ?_))
   ·refine zG (fun h=>zB ?_) (fun h=>zB ?_)
    ·have h:(c.2.2.2.2.1==(-1:Int))=false:=by simpa [bne] using h
     rw [h];rfl
    ·have h:(c.2.2.2.2.1==(-1:Int))=true:=by simpa [bne] using h
     rw [h];rfl
   refine zB ?_
   subst h9
   subst h10
   unfold zIG
   rw [h5]
   cases hc:c.1 with
   |false=>exact .inl ⟨rfl,by simp [hc]⟩
   |true=>exact .inr ⟨rfl,by simp [hc]⟩
theorem zMl (r:Ty.El zD) (d:Ty.El jE) (p:Ty.El zH) (m t:Int):
  zIC (p,(5:Int),(0:Int),(0:Int),m,(0:Int),t,(0:Int),[],(0:Int),(0:Int),[],false,()) (r,d,())=some (zMF r p m t,true):=rfl
theorem zWr {γ:Type} {l:List (Ty.El jE)} {p:Ty.El jE→Bool} {acc:γ} {Q:Int×γ→Prop} (hl:l.length<4611686018427387904) (h:Q (yH p l,acc)):
  Wp (zO (fun (s : Int × γ × Int) => bif decide (s.1 < (l.length : Int)) then
      Option.bind (idx l s.1) fun (y:Ty.El jE)=>bif p y then some (Sum.inr (s.1,s.2.1)) else some (Sum.inl (IntKind.wrap IntKind.i64 (s.1+(1:Int)),s.2))
   else some (Sum.inr (s.2.2,s.2.1))) ((0:Int),acc,(-1:Int))) Q:=by
 refine jY (fun (s:Int×γ×Int)=> ∃i:Nat,s=((i:Int),acc,(-1:Int))∧i≤l.length∧ ∀j y,j<i→l[j]? =some y→p y=false) (fun s=>((l.length:Int) -s.1).toNat) ⟨0,rfl,Nat.zero_le _,fun j y hj=>by omega⟩ ?_
 rintro s ⟨i,rfl,hi,hj⟩
 refine zI (fun hlt=> ?_) (fun hge=> ?_)
 ·have hlt:(i:Int)< (l.length:Int):=hlt
  obtain ⟨y,hy⟩: ∃y,l[i]? =some y:=⟨_,List.getElem?_eq_getElem (by omega)⟩
  simp only [zJ hy,Option.bind_some]
  refine zG (fun hp=>zB (e2r ?_)) (fun hp=>zB (e2l ⟨⟨i+1,?_,by omega,?_⟩,?_⟩))
  ·have:yH p l=(i:Int):=by
    rcases zDA p l with ⟨h1,h2⟩|⟨k,x,h1,h2,h3,h4⟩
    ·rw [h2 y (List.mem_of_getElem? hy)] at hp;cases hp
    ·have:k=i:=by
      rcases Nat.lt_trichotomy k i with h'|h'|h'
      ·rw [hj k x h' h2] at h3;cases h3
      ·exact h'
      ·rw [h4 i y h' hy] at hp;cases hp
     rw [h1,this]
   rw [←this];exact h
  ·rw [zF (by omega) (by omega)];rfl
  ·intro j z hjl hz
   rcases Nat.lt_or_ge j i with h'|h'
   ·exact hj j z h' hz
   ·have:j=i:=by omega
    subst this
    rw [hy] at hz
    cases hz
    exact hp
  ·simp only
   rw [zF (by omega) (by omega)]
   omega
 ·have hge: ¬(i:Int)< (l.length:Int):=hge
  have:yH p l= -1:=zHo (fun x hx=>by
   obtain ⟨k,hk,rfl⟩:=List.getElem_of_mem hx
   exact hj k _ (by omega) (by simp [hk]))
  exact zB (e2r (by rw [←this];exact h))
theorem zF4 (r:Ty.El zD) (l:List (Ty.El jE)) (rib:List (Ty.El zA)) (hr:SmR r) (hl:l.length≤20) (hb:rib.length≤1048576):
  Wp (x9 (r,l,rib,(5:Int),())) (fun o=>o=zZM r l rib):=by
 unfold x9
 dsimp only
 refine zC (vI (xs:=rib) (by omega) (fun j (g:List (Ty.El zA))=>g=(rib.take j).filterMap (zWW r l)) (by simp) ?_ (fun g hg=>zB (by rw [hg,List.take_length];rfl)))
 intro j x g hx hg
 have hgl:g.length≤1048576:=by rw [hg];exact Nat.le_trans (List.length_filterMap_le _ _) (Nat.le_trans (List.length_take_le' _ _) hb)
 simp only [zJ hx,Option.bind_some]
 rw [w5 hx, ←hg]
 refine zC (zWr (l:=l) (p:=fun d=>d.1==x.2.1) (acc:=g) (by omega) ?_)
 unfold zWW
 rcases zLj (fun d:Ty.El jE=>d.1==x.2.1) l with ⟨h1,h2⟩|⟨i,d,h1,h2,h3⟩
 ·rw [h1,h2]
  refine zC (Wp.mono (Q:=fun s=>s=(true,g)) (zI (fun _=>zB rfl) (fun h=>absurd (show (-1:Int)<0 by decide) h)) (fun s hs=> ?_))
  subst hs
  refine tt rfl (zB ?_)
  cases zR9 x<;>simp
 ·rw [h1,h3]
  refine zC (Wp.mono (Q:=fun s=>s=(zR9 x,g)) (zI (fun h=>absurd h (by simp only;omega)) (fun _=>zG (fun h=>zB ?_) (fun h=>zB ?_))) (fun s hs=> ?_))
  ·unfold zR9;rw [h];rfl
  ·unfold zR9;rw [h];rfl
  subst hs
  refine zG (fun h=>zB ?_) (fun h=> ?_)
  ·have h:zR9 x=true:=h
   rw [h];simp
  ·have h:zR9 x=false:=h
   rw [h]
   simp only [zJ h2,Option.bind_some,cond_false]
   refine zC ((zMk r d x hr).mono (fun y hy=> ?_))
   rcases hy with ⟨h4,h5⟩|⟨h4,h5⟩
   ·refine tt (by rw [h4];rfl) (zB ?_)
    unfold zYG
    rw [h5];simp
   ·refine ff (by rw [h4];rfl) ?_
    refine zC (qJ (zMl r d x.1 y.1 y.2.1) (tt rfl (zC (wN (by simp only [List.length_singleton];omega) (zB ?_)))))
    unfold zYG
    rw [h5];simp
end Go.Ve

namespace Go.Ve
open Go
set_option maxRecDepth 1000000
set_option maxHeartbeats 4000000
theorem zYl {α ρ:Type} {xs:List α} {p:Nat→α→Bool} {hv:ρ} {body:Int→Option (Int ⊕ (Unit ⊕ ρ))} {K:Unit→Option ρ} {Q:ρ→Prop} (hl:xs.length<4611686018427387904)
  (step: ∀ (i:Nat) x,xs[i]? =some x→Wp (body (i:Int)) (fun o=>o=(bif p i x then Sum.inr (Sum.inr hv) else Sum.inl (IntKind.wrap IntKind.i64 ((i:Int)+1)))))
  (hit:(∃ (i:Nat) (x:α),xs[i]? =some x∧p i x=true)→Q hv) (miss:(∀ (i:Nat) x,xs[i]? =some x→p i x=false)→Wp (K ()) Q):
  Wp (qT (zO (fun s:Int=>bif decide (s< (xs.length:Int)) then body s else some (Sum.inr (Sum.inl ()))) (0:Int)) K) Q:=by
 refine zAJ hl (fun i=> ∀j y,j<i→xs[j]? =some y→p j y=false) (fun j y hj=>by omega) ?_ (fun h=>miss (fun i x hx=>h i x (List.getElem?_eq_some_iff.1 hx).1 hx))
 intro i x hx hj
 refine (step i x hx).mono (fun o ho=> ?_)
 cases hp:p i x with
 |true=>
  rw [hp] at ho
  rw [ho]
  exact e2r (e2r (hit ⟨i,x,hx,hp⟩))
 |false=>
  rw [hp] at ho
  rw [ho]
  refine e2l ⟨rfl,?_⟩
  intro j y hjl hy
  rcases Nat.lt_or_ge j i with h'|h'
  ·exact hj j y h' hy
  ·have:j=i:=by omega
   subst this
   rw [hx] at hy
   cases hy
   exact hp
theorem zOa {α:Type} (p:α→Bool) (l:List α):decide (yH p l≥(0:Int))=l.any p:=by
 rcases zDA p l with ⟨h1,h2⟩|⟨i,x,h1,h2,h3,_⟩
 ·rw [h1]
  symm
  rw [show decide ((-1:Int)≥0)=false from rfl,List.any_eq_false]
  intro x hx
  rw [h2 x hx];decide
 ·rw [h1]
  have:l.any p=true:=List.any_eq_true.2 ⟨x,List.mem_of_getElem? h2,h3⟩
  rw [this]
  exact decide_eq_true (by omega)
def zVF (v:Ty.El zR) (r:Int) (rt:Ty.El zD) (p:Ty.El zH):Bool:=
 (List.range rt.2.2.1.length).any (fun i=>match rt.2.2.1[i]? with
  |some x=>upB v r i&&v8 (zC1 x.2.1 x.2.2.1) p
  |none=>false)
theorem zR2 {v:Ty.El zR} {r:Int} {rt:Ty.El zD} {p:Ty.El zH} :zVF v r rt p=true↔ ∃ (i:Nat) (x:Ty.El z7),rt.2.2.1[i]? =some x∧(upB v r i&&v8 (zC1 x.2.1 x.2.2.1) p)=true:=by
 unfold zVF
 rw [List.any_eq_true]
 constructor
 ·rintro ⟨i,_,h⟩
  split at h
  ·rename_i x hx
   exact ⟨i,x,hx,h⟩
  ·cases h
 ·rintro ⟨i,x,hx,h⟩
  exact ⟨i,List.mem_range.2 (List.getElem?_eq_some_iff.1 hx).1,by rw [hx];exact h⟩
theorem zVE {v:Ty.El zR} {r:Int} {rt:Ty.El zD} {p:Ty.El zH} (h: ∀ (i:Nat) x,rt.2.2.1[i]? =some x→(upB v r i&&v8 (zC1 x.2.1 x.2.2.1) p)=false):zVF v r rt p=false:=by
 cases hb:zVF v r rt p with
 |false=>rfl
 |true=>
  obtain ⟨i,x,hx,h1⟩:=zR2.1 hb
  rw [h i x hx] at h1;cases h1
theorem zEi (v:Ty.El zR) (r:Nat) (rt:Ty.El zD) (p:Ty.El zH) (hv:zBb v) (hr:v.1.1[r]? =some rt):Wp (uM (v,(r:Int),p,())) (fun b=>b=zVF v r rt p):=by
 unfold uM
 dsimp only
 have hl:rt.2.2.1.length≤20:=(hv.sm rt (List.mem_of_getElem? hr)).i1
 simp only [zJ hr,Option.bind_some]
 refine zYl (p:=fun i (x:Ty.El z7)=>upB v r i&&v8 (zC1 x.2.1 x.2.2.1) p) (by omega) ?_ (fun h=>(zR2.2 h).symm) (fun h=>zB (zVE h).symm)
 intro i x hx
 simp only [zJ hx,Option.bind_some]
 refine zC (Wp.mono (Q:=fun s=>s=(upB v r i&&v8 (zC1 x.2.1 x.2.2.1) p)) ?_ (fun s hs=> ?_))
 ·refine zC ((zE9 v r i hv).mono (fun b hb=> ?_))
  subst hb
  refine zG (fun h=>zC (qJ (zJz _ _) (zB ?_))) (fun h=>zB ?_)
  ·rw [h];rfl
  ·rw [h];rfl
 ·subst hs
  exact zG (fun h=>zB (by rw [h];rfl)) (fun h=>zB (by rw [h];rfl))
theorem zCH (t:List (Ty.El zA)) (p:Ty.El zH) (hl:t.length<4611686018427387904):Wp (zB9 (t,p,())) (fun k=>k=yH (fun x=>v8 x.1 p) t):=by
 unfold zB9
 dsimp only
 refine xH (p:=fun x:Ty.El zA=>v8 x.1 p) hl ?_ rfl
 intro i x hx
 simp only [zJ hx,Option.bind_some]
 show (bif v8 x.1 p then _ else _)=_
 cases v8 x.1 p<;>rfl
theorem zIy (t:List (Ty.El zA)) (p:Ty.El zH) (hl:t.length<4611686018427387904):Wp (jT (t,(p,()),())) (fun b=>b=t.any (fun x=>v8 x.1 p)):=by
 unfold jT
 dsimp only
 refine zC (Wp.mono (Q:=fun k=>k=yH (fun x=>v8 x.1 p) t) ?_ (fun k hk=> ?_))
 ·unfold vY
  dsimp only
  refine xH (p:=fun x:Ty.El zA=>v8 x.1 p) hl ?_ rfl
  intro i x hx
  simp only [zJ hx,Option.bind_some]
  show (bif v8 x.1 p then _ else _)=_
  cases v8 x.1 p<;>rfl
 ·subst hk
  exact zB (zOa _ _)
theorem zIx (t:List (Ty.El zA)) (g:Ty.El jQ) (hl:t.length<4611686018427387904):Wp (jS (t,(g,()),())) (fun b=>b=t.any (fun x=>lwB x.1 g.1)):=by
 unfold jS
 dsimp only
 refine zC (Wp.mono (Q:=fun k=>k=yH (fun x=>lwB x.1 g.1) t) ?_ (fun k hk=> ?_))
 ·unfold vX
  dsimp only
  refine xH (p:=fun x:Ty.El zA=>lwB x.1 g.1) hl ?_ rfl
  intro i x hx
  have hc:vF (x,g,())=some (lwB x.1 g.1):=by
   unfold vF
   dsimp only
   rw [show jJ (x.1,g.1,())=some (lwB x.1 g.1) from yV _ _]
   rfl
  simp only [zJ hx,Option.bind_some]
  rw [show vF (x,g,())=some (lwB x.1 g.1) from hc]
  cases lwB x.1 g.1<;>rfl
 ·subst hk
  exact zB (zOa _ _)
def zYQ (t:List (Ty.El zA)) (p:Ty.El zH):Bool:=
 match t.find? (fun x=>v8 x.1 p) with
 |some x=>x.2.2.1==(3:Int)
 |none=>false
theorem zZB {t:List (Ty.El zA)} {p:Ty.El zH} :
  Wp (bif decide (yH (fun x=>v8 x.1 p) t≥(0:Int)) then Option.bind (idx t (yH (fun x=>v8 x.1 p) t)) fun (y3:Ty.El zA)=>some (y3.2.2.1==(3:Int)) else some false) (fun b=>b=zYQ t p):=by
 unfold zYQ
 rcases zLj (fun x:Ty.El zA=>v8 x.1 p) t with ⟨h1,h2⟩|⟨i,x,h1,h2,h3⟩
 ·rw [h1,h2]
  exact ff rfl (zB rfl)
 ·rw [h1,h3]
  refine tt (decide_eq_true (by omega)) ?_
  simp only [zJ h2,Option.bind_some]
  exact zB rfl
noncomputable def zTQ (v:Ty.El zR) (t:Ty.El qL) (r:Int) (rt:Ty.El zD) (p:Ty.El zH):Bool:=
 zVF v r rt p||((rt.2.2.2.2.2.2.2.1.filterMap (act v t.2.2.2.1 r rt)).any (fun y=>v8 y.1 p)||(t.1.any (fun x=>v8 x.1 p)||zYQ t.2.1 p))
structure qAj (t:Ty.El qL):Prop where
 ls:t.1.length≤1048576
 dv:t.2.1.length≤1048576
 pv:t.2.2.1.length≤1048576
 rib:t.2.2.2.1.length≤1048576
theorem zDS (t:Ty.El qL) (p:Ty.El zH) (ht:qAj t):Wp (kN (t,p,())) (fun b=>b=(t.1.any (fun x=>v8 x.1 p)||zYQ t.2.1 p)):=by
 unfold kN
 dsimp only
 have h1:=ht.ls
 have h2:=ht.dv
 refine zC ((zCH t.1 p (by omega)).mono (fun k hk=> ?_))
 subst hk
 rw [zOa]
 refine zG (fun h=>zB (by rw [h];rfl)) (fun h=> ?_)
 rw [h]
 refine zC ((zCH t.2.1 p (by omega)).mono (fun k hk=> ?_))
 subst hk
 exact zC (zZB.mono (fun b hb=>zB (by rw [hb];rfl)))
def zX9 (r:Ty.El zD) (p:Ty.El zH):Ty.El zA:=
 (p,(5:Int),(2:Int),r.2.2.2.2.2.2.2.2.2.2.1.2.2.1,(0:Int),(0:Int),(0:Int),(100:Int),[],(0:Int),(0:Int),[],true,())
noncomputable def zVJ (v:Ty.El zR) (t:Ty.El qL) (r:Int) (rt:Ty.El zD) (p:Ty.El zH):Option (Ty.El zA):=bif zTQ v t r rt p then some (zMF rt p 0 0) else none
def zSM (t:Ty.El qL) (rt:Ty.El zD) (c:Ty.El zB6):Option (Ty.El zA):=bif decide (yH (fun x=>v8 x.1 c.2.1) t.2.2.2.1< (0:Int))==c.2.2.1 then some (zMF rt c.1 0 0) else none
def zUA (t:Ty.El qL) (rt:Ty.El zD) (g:Ty.El jQ):Option (Ty.El zA):=bif t.2.2.1.any (fun x=>lwB x.1 g.1) then some (zX9 rt g.1) else none
noncomputable def zFq (v:Ty.El zR) (t:Ty.El qL) (r:Int) (rt:Ty.El zD):List (Ty.El zA):=
 ((rt.2.2.2.2.2.2.2.2.2.2.1.2.2.2.2.1.filterMap (zVJ v t r rt)++rt.2.2.2.2.2.2.2.2.2.2.1.2.2.2.2.2.2.1.filterMap (zSM t rt))++zZM rt rt.2.2.2.2.2.2.2.2.2.2.1.2.2.2.2.2.2.2.1 t.2.2.2.1)++rt.2.2.2.2.2.2.2.2.2.2.1.2.2.2.2.2.1.filterMap (zUA t rt)
theorem zRW (r:Ty.El zD) (l:List (Ty.El jE)) (rib:List (Ty.El zA)):(zZM r l rib).length≤rib.length:=List.length_filterMap_le _ _
theorem zTK {v:Ty.El zR} {t:Ty.El qL} {r:Int} {rt:Ty.El zD} (hs:SmR rt):(zFq v t r rt).length≤t.2.2.2.1.length+60:=by
 have h1:rt.2.2.2.2.2.2.2.2.2.2.1.2.2.2.2.1.length≤20:=hs.i11
 have h2:rt.2.2.2.2.2.2.2.2.2.2.1.2.2.2.2.2.1.length≤20:=hs.i12
 have h3:rt.2.2.2.2.2.2.2.2.2.2.1.2.2.2.2.2.2.1.length≤20:=hs.i13
 have a1:=List.length_filterMap_le (zVJ v t r rt) rt.2.2.2.2.2.2.2.2.2.2.1.2.2.2.2.1
 have a2:=List.length_filterMap_le (zSM t rt) rt.2.2.2.2.2.2.2.2.2.2.1.2.2.2.2.2.2.1
 have a3:=List.length_filterMap_le (zUA t rt) rt.2.2.2.2.2.2.2.2.2.2.1.2.2.2.2.2.1
 have a4:=zRW rt rt.2.2.2.2.2.2.2.2.2.2.1.2.2.2.2.2.2.2.1 t.2.2.2.1
 unfold zFq
 simp only [List.length_append]
 omega
theorem zBX (v:Ty.El zR) (t:Ty.El qL) (r:Nat) (rt:Ty.El zD) (hv:zBb v) (hr:v.1.1[r]? =some rt) (ht:qAj t):
  Wp (vU (v,t,(r:Int),())) (fun o=>o=bif rt.2.2.2.2.2.2.2.2.2.2.1.1 then zFq v t r rt else []):=by
 unfold vU
 dsimp only
 have hrl:=(List.getElem?_eq_some_iff.1 hr).1
 have hs:=hv.sm rt (List.mem_of_getElem? hr)
 have b1:=ht.ls
 have b2:=ht.dv
 have b3:=ht.pv
 have b4:=ht.rib
 have n1:rt.2.2.2.2.2.2.2.2.2.2.1.2.2.2.2.1.length≤20:=hs.i11
 have n2:rt.2.2.2.2.2.2.2.2.2.2.1.2.2.2.2.2.1.length≤20:=hs.i12
 have n3:rt.2.2.2.2.2.2.2.2.2.2.1.2.2.2.2.2.2.1.length≤20:=hs.i13
 have n4:rt.2.2.2.2.2.2.2.2.2.2.1.2.2.2.2.2.2.2.1.length≤20:=hs.i14
 have n5:rt.2.2.2.2.2.2.2.1.length≤20:=hs.i6
 refine zC (Wp.mono (Q:=fun s=>s= !rt.2.2.2.2.2.2.2.2.2.2.1.1) ?_ (fun s hs2=> ?_))
 ·have q0: ¬((r:Int)<0):=by omega
  have q1: ¬((r:Int)≥(List.length v.1.1:Int)):=by omega
  refine zI (fun h=>absurd h q0) (fun _=>zI (fun h=>absurd h q1) (fun _=> ?_))
  simp only [zJ hr,Option.bind_some]
  exact zB rfl
 subst hs2
 cases hon:rt.2.2.2.2.2.2.2.2.2.2.1.1 with
 |false=>exact tt rfl (zB rfl)
 |true=>
  refine ff rfl ?_
  simp only [zJ hr,Option.bind_some,cond_true]
  refine zC ((zIr v t.2.2.2.1 r rt hv hr b4).mono (fun y4 h4=> ?_))
  have hy4:y4.length≤20:=by rw [h4];exact Nat.le_trans (List.length_filterMap_le _ _) n5
  refine zC (vI (xs:=rt.2.2.2.2.2.2.2.2.2.2.1.2.2.2.2.1) (by omega) (fun i (g:List (Ty.El zA))=>g=(rt.2.2.2.2.2.2.2.2.2.2.1.2.2.2.2.1.take i).filterMap (zVJ v t r rt)) (by simp) ?_ (fun s38 h38=> ?_))
  ·intro i p g hp hg
   have hgl:g.length≤20:=by rw [hg];exact Nat.le_trans (List.length_filterMap_le _ _) (Nat.le_trans (List.length_take_le' _ _) n1)
   simp only [zJ hp,Option.bind_some]
   rw [w5 hp, ←hg]
   refine zC (Wp.mono (Q:=fun s=>s=(zTQ v t r rt p,g)) ?_ (fun s hs2=> ?_))
   ·unfold zTQ
    rw [←h4]
    refine zC ((zEi v r rt p hv hr).mono (fun b hb=> ?_))
    subst hb
    refine zG (fun h=>zB (by rw [h];rfl)) (fun h=> ?_)
    rw [h]
    refine zC ((zIy y4 p (by omega)).mono (fun b hb=> ?_))
    subst hb
    refine zG (fun h=>zB (by rw [h];rfl)) (fun h=> ?_)
    rw [h]
    exact zC ((zDS t p ht).mono (fun b hb=>zB (by rw [hb];rfl)))
   ·subst hs2
    unfold zVJ
    refine zG (fun h=> ?_) (fun h=>zB ?_)
    ·have h:zTQ v t r rt p=true:=h
     rw [h]
     exact zC (wN (by simp only [List.length_singleton];omega) (zB rfl))
    ·have h:zTQ v t r rt p=false:=h
     rw [h];simp
  rw [List.take_length] at h38
  have hl38:s38.length≤20:=by rw [h38];exact Nat.le_trans (List.length_filterMap_le _ _) n1
  refine zC (vI (xs:=rt.2.2.2.2.2.2.2.2.2.2.1.2.2.2.2.2.2.1) (by omega) (fun i (g:List (Ty.El zA))=>g=s38++(rt.2.2.2.2.2.2.2.2.2.2.1.2.2.2.2.2.2.1.take i).filterMap (zSM t rt)) (by simp) ?_ (fun s58 h58=> ?_))
  ·intro i c g hc hg
   have hgl:g.length≤40:=by
    have:=Nat.le_trans (List.length_filterMap_le (zSM t rt) (rt.2.2.2.2.2.2.2.2.2.2.1.2.2.2.2.2.2.1.take i)) (Nat.le_trans (List.length_take_le' _ _) n3)
    rw [hg,List.length_append];omega
   simp only [zJ hc,Option.bind_some]
   rw [w5 hc, ←List.append_assoc, ←hg]
   refine zC ((zCH t.2.2.2.1 c.2.1 (by omega)).mono (fun k hk=> ?_))
   subst hk
   unfold zSM
   refine zG (fun h=> ?_) (fun h=>zB ?_)
   ·rw [h]
    exact zC (wN (by simp only [List.length_singleton];omega) (zB rfl))
   ·rw [h];simp
  rw [List.take_length] at h58
  have hl58:s58.length≤40:=by
   have:=Nat.le_trans (List.length_filterMap_le (zSM t rt) rt.2.2.2.2.2.2.2.2.2.2.1.2.2.2.2.2.2.1) n3
   rw [h58,List.length_append];omega
  refine zC ((zF4 rt _ t.2.2.2.1 hs n4 b4).mono (fun y59 h59=> ?_))
  have hl59:=zRW rt rt.2.2.2.2.2.2.2.2.2.2.1.2.2.2.2.2.2.2.1 t.2.2.2.1
  rw [←h59] at hl59
  refine zC (wN (by omega) ?_)
  refine zC (vI (xs:=rt.2.2.2.2.2.2.2.2.2.2.1.2.2.2.2.2.1) (by omega) (fun i (g:List (Ty.El zA))=>g=(s58++y59)++(rt.2.2.2.2.2.2.2.2.2.2.1.2.2.2.2.2.1.take i).filterMap (zUA t rt)) (by simp) ?_ (fun s79 h79=>zB ?_))
  ·intro i c g hc hg
   have hgl:g.length≤1048636:=by
    have:=Nat.le_trans (List.length_filterMap_le (zUA t rt) (rt.2.2.2.2.2.2.2.2.2.2.1.2.2.2.2.2.1.take i)) (Nat.le_trans (List.length_take_le' _ _) n2)
    rw [hg,List.length_append,List.length_append];omega
   simp only [zJ hc,Option.bind_some]
   rw [w5 hc, ←List.append_assoc, ←hg]
   refine zC ((zIx t.2.2.1 c (by omega)).mono (fun b hb=> ?_))
   subst hb
   unfold zUA
   refine zG (fun h=> ?_) (fun h=>zB ?_)
   ·rw [h]
    exact zC (wN (by simp only [List.length_singleton];omega) (zB rfl))
   ·rw [h];simp
  ·rw [h79,List.take_length,h58,h38,h59];rfl
end Go.Ve

namespace Go.Ve
open Go
set_option maxRecDepth 1000000
set_option maxHeartbeats 4000000
theorem zVI {v:Ty.El zR} {t:Ty.El qL} {r:Int} {rt:Ty.El zD} {p:Ty.El zH} {x:Ty.El zA} (h:zVJ v t r rt p=some x):zTQ v t r rt p=true∧x=zMF rt p 0 0:=by
 unfold zVJ at h
 cases hb:zTQ v t r rt p with
 |false=>rw [hb] at h;cases h
 |true=>rw [hb] at h;exact ⟨rfl,(Option.some.inj h).symm⟩
theorem zV9 {t:Ty.El qL} {rt:Ty.El zD} {c:Ty.El zB6} {x:Ty.El zA} (h:zSM t rt c=some x):x=zMF rt c.1 0 0:=by
 unfold zSM at h
 cases hb:(decide (yH (fun x:Ty.El zA=>v8 x.1 c.2.1) t.2.2.2.1< (0:Int))==c.2.2.1) with
 |false=>rw [hb] at h;cases h
 |true=>rw [hb] at h;exact (Option.some.inj h).symm
theorem zWl {t:Ty.El qL} {rt:Ty.El zD} {g:Ty.El jQ} {x:Ty.El zA} (h:zUA t rt g=some x):x=zX9 rt g.1:=by
 unfold zUA at h
 cases hb:t.2.2.1.any (fun x=>lwB x.1 g.1) with
 |false=>rw [hb] at h;cases h
 |true=>rw [hb] at h;exact (Option.some.inj h).symm
theorem zVw {rt:Ty.El zD} {l:List (Ty.El jE)} {y x:Ty.El zA} (h:zWW rt l y=some x): ∃d mt,d∈l∧zQy rt d y=some mt∧x=zMF rt y.1 mt.1 mt.2:=by
 unfold zWW at h
 cases ho:zR9 y with
 |true=>rw [ho] at h;cases h
 |false=>
  rw [ho] at h
  simp only [cond_false] at h
  cases hf:l.find? (fun d=>d.1==y.2.1) with
  |none=>rw [hf] at h;cases h
  |some d=>
   rw [hf] at h
   simp only [Option.bind_some] at h
   unfold zYG at h
   cases hT:zQy rt d y with
   |none=>rw [hT] at h;cases h
   |some mt=>
    rw [hT] at h
    exact ⟨d,mt,List.mem_of_find?_eq_some hf,hT,(Option.some.inj h).symm⟩
theorem zVK {v:Ty.El zR} {t:Ty.El qL} {r:Int} {rt:Ty.El zD} {x:Ty.El zA} (h:x∈zFq v t r rt):
  (∃p,p∈rt.2.2.2.2.2.2.2.2.2.2.1.2.2.2.2.1∧x=zMF rt p 0 0)∨(∃c,c∈rt.2.2.2.2.2.2.2.2.2.2.1.2.2.2.2.2.2.1∧x=zMF rt c.1 0 0)∨
  (∃y d mt,y∈t.2.2.2.1∧d∈rt.2.2.2.2.2.2.2.2.2.2.1.2.2.2.2.2.2.2.1∧zQy rt d y=some mt∧x=zMF rt y.1 mt.1 mt.2)∨(∃g,g∈rt.2.2.2.2.2.2.2.2.2.2.1.2.2.2.2.2.1∧x=zX9 rt g.1):=by
 unfold zFq at h
 rcases List.mem_append.1 h with h|h
 ·rcases List.mem_append.1 h with h|h
  ·rcases List.mem_append.1 h with h|h
   ·obtain ⟨p,hp,h⟩:=List.mem_filterMap.1 h
    exact .inl ⟨p,hp,(zVI h).2⟩
   ·obtain ⟨c,hc,h⟩:=List.mem_filterMap.1 h
    exact .inr (.inl ⟨c,hc,zV9 h⟩)
  ·obtain ⟨y,hy,h⟩:=List.mem_filterMap.1 h
   obtain ⟨d,mt,hd,hT,hx⟩:=zVw h
   exact .inr (.inr (.inl ⟨y,d,mt,hy,hd,hT,hx⟩))
 ·obtain ⟨g,hg,h⟩:=List.mem_filterMap.1 h
  exact .inr (.inr (.inr ⟨g,hg,zWl h⟩))
theorem zXh {v:Ty.El zR} {t:Ty.El qL} {r:Int} {rt:Ty.El zD} {x:Ty.El zA} (h:x∈zFq v t r rt):PvS x∧RtS x:=by
 have h1: ∀p m k,PvS (zMF rt p m k)∧RtS (zMF rt p m k):=fun p m k=>⟨⟨rfl,⟨show (0:Int)≤100 by decide,show (100:Int)≤1000000 by decide⟩,⟨show (0:Int)≤0 by decide,show (0:Int)<4294967296 by decide⟩⟩,⟨Nat.zero_le _,Nat.zero_le _⟩⟩
 have h2: ∀p,PvS (zX9 rt p)∧RtS (zX9 rt p):=fun p=>⟨⟨rfl,⟨show (0:Int)≤100 by decide,show (100:Int)≤1000000 by decide⟩,⟨show (0:Int)≤0 by decide,show (0:Int)<4294967296 by decide⟩⟩,⟨Nat.zero_le _,Nat.zero_le _⟩⟩
 rcases zVK h with ⟨_,_,rfl⟩|⟨_,_,rfl⟩|⟨_,_,_,_,_,_,rfl⟩|⟨_,_,rfl⟩
 ·exact h1 _ _ _
 ·exact h1 _ _ _
 ·exact h1 _ _ _
 ·exact h2 _
end Go.Ve

namespace Go.Ve
open Go
set_option maxRecDepth 1000000
set_option maxHeartbeats 4000000
structure zOK (v:Ty.El zR):Prop where
 p:zMc v
 maps: ∀r,r∈v.1.1→zA1 r
 adr: ∀r,r∈v.1.1→ ∀x,x∈r.2.2.1→0≤x.2.1∧x.2.1<4294967296
def zDQ (x:Ty.El zA):Prop:=0≤x.2.2.2.2.2.2.2.1∧x.2.2.2.2.2.2.2.1≤1000000
structure zZk (t:Ty.El qL):Prop where
 s:qAj t
 pv:t.2.2.1.length≤12
 rib:t.2.2.2.1.length≤16
 rt: ∀y,y∈t.2.2.1→RtS y∧zDQ y
theorem zQq {v:Ty.El zR} (hv:zOK v) {s:Ty.El zK} (h:s∈zGy v):
  ∃ (qn kn r i:Nat) (int:Bool) (q rt:Ty.El zD) (y z:Ty.El z7),s=((qn:Int),(kn:Int),(r:Int),(i:Int),int,())∧v.1.1[qn]? =some q∧q.2.2.1[kn]? =some y∧v.1.1[r]? =some rt∧rt.2.2.1[i]? =some z∧zA1 q∧zA1 rt∧(0≤y.2.1∧y.2.1<4294967296):=by
 obtain ⟨r,i,rt,z,e,q,y,hrt,hz,hon,he,hq,hy,hb,rfl⟩:=zSe.1 h
 obtain ⟨u1,u2,u3⟩:=zMY he
 obtain ⟨b0,b1,_⟩:=hv.p.ends _ _ _ u1 u2
 obtain ⟨e1,e2,⟨⟩⟩:=e
 obtain ⟨qn,rfl⟩:=Int.eq_ofNat_of_zero_le (show (0:Int)≤e1 from b0)
 obtain ⟨kn,rfl⟩:=Int.eq_ofNat_of_zero_le (show (0:Int)≤e2 from b1)
 have hq:v.1.1[qn]? =some q:=hq
 have hy:q.2.2.1[kn]? =some y:=hy
 exact ⟨qn,kn,r,i,_,q,rt,y,z,rfl,hq,hy,hrt,hz,hv.maps q (List.mem_of_getElem? hq),hv.maps rt (List.mem_of_getElem? hrt),hv.adr q (List.mem_of_getElem? hq) y (List.mem_of_getElem? hy)⟩
theorem zUV {v:Ty.El zR} {t:List (Ty.El zA)} {qn kn r i:Nat} {int:Bool} {q rt:Ty.El zD} {y z:Ty.El z7} (hq:v.1.1[qn]? =some q) (hy:q.2.2.1[kn]? =some y) (hr:v.1.1[r]? =some rt) (hz:rt.2.2.1[i]? =some z):
  zIE v t ((qn:Int),(kn:Int),(r:Int),(i:Int),int,())=t.filterMap (fun x=>(zQT q z.2.1 int x).bind (zQM rt y.2.1 (i:Int) int)):=by
 unfold zIE
 simp only [Int.toNat_natCast,hq,hr,hy,hz]
theorem zX5 {r:Ty.El zD} {nm:Ty.El .str} {x y:Ty.El zA} (hm:zA1 r) (hx:zDQ x) (h:zG4 r nm x=some y):zDQ y:=by
 unfold zG4 at h
 cases hn:(nm==({ data:= #[] } :ByteArray)) with
 |true=>
  rw [hn] at h
  rw [←Option.some.inj h]
  exact hx
 |false=>
  rw [hn] at h
  simp only [cond_false] at h
  cases hp:zIG r nm x with
  |none=>rw [hp] at h;cases h
  |some c=>
   rw [hp] at h
   rw [←Option.some.inj h]
   have hc:zWn c:=by
    unfold zIG at hp
    cases ha:zPq r nm x with
    |none=>rw [ha] at hp;cases hp
    |some c'=>
     rw [ha] at hp
     simp only at hp
     cases hc1:c'.1 with
     |false=>rw [hc1] at hp;cases hp
     |true=>
      rw [hc1] at hp
      rw [←Option.some.inj hp]
      exact zVa hm ha
   have h1: -1≤c.2.2.2.2.2.1∧c.2.2.2.2.2.1≤1000000:=hc.pref
   unfold zDQ zYx
   simp only
   have aux: ∀a b:Int,(-1≤a∧a≤1000000)→(0≤b∧b≤1000000)→(0≤(bif a==(-1:Int) then b else a)∧(bif a==(-1:Int) then b else a)≤1000000):=by
    intro a b ha hb
    cases hab:(a==(-1:Int)) with
    |true=>exact hb
    |false=>
     have:a≠ -1:=by simpa using hab
     simp only [cond_false]
     omega
   exact aux _ _ h1 hx
theorem zXE {q:Ty.El zD} {a:Int} {int:Bool} {x m:Ty.El zA} (hm:zA1 q) (hx:RtS x) (hp:zDQ x) (h:zQT q a int x=some m):RtS m∧zDQ m:=by
 obtain ⟨_,h1,h2⟩:=zSx hm h
 refine ⟨⟨?_,by rw [h2];exact Nat.zero_le _⟩,?_⟩
 ·rcases h1 with ⟨_,h1⟩|⟨_,k,_,h1,h3⟩
  ·rw [h1];exact hx.path
  ·rw [h1,List.length_append,List.length_replicate];omega
 ·unfold zQT at h
  cases hh:(x.2.2.1==(4:Int)&&int)||zTP q x.1 with
  |true=>rw [hh] at h;cases h
  |false=>
   rw [hh] at h
   simp only [cond_false] at h
   cases hn:zGc q.2.2.2.2.2.2.2.2.2.2.1.2.2.2.1 a with
   |none=>rw [hn] at h;cases h
   |some nb=>
    rw [hn] at h
    simp only at h
    cases int with
    |true=>
     simp only [cond_true] at h
     cases ha:zG4 q nb.2.2.2.1 x with
     |none=>rw [ha] at h;cases h
     |some y=>
      rw [ha] at h
      rw [←Option.some.inj h]
      exact (zX5 hm hp ha:zDQ y)
    |false=>
     simp only [cond_false] at h
     cases ha:zG4 q nb.2.2.2.1 (zIA x 0) with
     |none=>rw [ha] at h;cases h
     |some y=>
      rw [ha] at h
      simp only at h
      cases hd:decide (1+zOZ q nb.2.2.2.1 (zIA x 0)+(x.2.2.2.2.2.2.2.2.1.length:Int)>(64:Int)) with
      |true=>rw [hd] at h;cases h
      |false=>
       rw [hd] at h
       rw [←Option.some.inj h]
       exact ⟨show (0:Int)≤100 by decide,show (100:Int)≤1000000 by decide⟩
theorem zZ0 {rt:Ty.El zD} {a i:Int} {int:Bool} {m y:Ty.El zA} (hm:zA1 rt) (ha:0≤a∧a<4294967296) (hx:RtS m) (hp:zDQ m) (h:zQM rt a i int m=some y):PvS y∧RtS y:=by
 unfold zQM at h
 cases hh:m.2.2.2.2.2.2.2.2.1.any (fun x=>x==rt.2.1) with
 |true=>rw [hh] at h;cases h
 |false=>
  rw [hh] at h
  simp only [cond_false] at h
  cases hn:zGc rt.2.2.2.2.2.2.2.2.2.2.1.2.2.2.1 a with
  |none=>rw [hn] at h;cases h
  |some nb=>
   rw [hn] at h
   simp only at h
   cases hr:zG4 rt nb.2.2.1 m with
   |none=>rw [hr] at h;cases h
   |some w=>
    rw [hr] at h
    rw [←Option.some.inj h]
    exact ⟨⟨rfl,(zX5 hm hp hr:zDQ w),ha⟩,⟨hx.path,show 1≤1048576 by decide⟩⟩
theorem zYI {v:Ty.El zR} (hv:zOK v) {t:List (Ty.El zA)} (ht: ∀y,y∈t→RtS y∧zDQ y) {s:Ty.El zK} (h:s∈zGy v) {x:Ty.El zA} (hx:x∈zIE v t s):PvS x∧RtS x:=by
 obtain ⟨qn,kn,r,i,int,q,rt,y,z,rfl,hq,hy,hr,hz,hmq,hmr,ha⟩:=zQq hv h
 rw [zUV hq hy hr hz] at hx
 obtain ⟨w,hw,hx⟩:=List.mem_filterMap.1 hx
 obtain ⟨m,h1,h2⟩:=Option.bind_eq_some_iff.1 hx
 obtain ⟨e1,e2⟩:=zXE hmq (ht w hw).1 (ht w hw).2 h1
 exact zZ0 hmr ha e1 e2 h2
theorem zEh (v:Ty.El zR) (hv:zOK v) (s:Ty.El zK) (h:s∈zGy v) (t:List (Ty.El zA)) (hl:t.length≤1048576) (ht: ∀y,y∈t→RtS y∧zDQ y):
  Wp (uL (v,s,t,())) (fun l=>l=zIE v t s):=by
 obtain ⟨qn,kn,r,i,int,q,rt,y,z,rfl,hq,hy,hr,hz,hmq,hmr,ha⟩:=zQq hv h
 rw [zUV hq hy hr hz]
 unfold uL
 dsimp only
 refine zC (vI (xs:=t) (by omega) (fun j (g:List (Ty.El zA))=>g=(t.take j).filterMap (fun x=>(zQT q z.2.1 int x).bind (zQM rt y.2.1 (i:Int) int))) (by simp) ?_ (fun g hg=>zB (by rw [hg,List.take_length])))
 intro j x g hx hg
 have hgl:g.length≤1048576:=by rw [hg];exact Nat.le_trans (List.length_filterMap_le _ _) (Nat.le_trans (List.length_take_le' _ _) hl)
 simp only [zJ hx,Option.bind_some]
 rw [w5 hx, ←hg]
 obtain ⟨x1,x2⟩:=ht x (List.mem_of_getElem? hx)
 refine zC ((zBp v hv.p qn kn r i int q rt z hq hr hz hmq x x1).mono (fun m hm=> ?_))
 rcases zJQ hm with ⟨h1,h2⟩|⟨h1,h2⟩
 ·refine tt (by rw [h1];rfl) (zB ?_)
  rw [h2];simp
 ·obtain ⟨e1,e2⟩:=zXE hmq x1 x2 h2
  refine ff (by rw [h1];rfl) (zC ((zBo v hv.p qn kn r (i:Int) int q rt y hq hy hr m.1 e1).mono (fun w hw=> ?_)))
  rw [h2,Option.bind_some]
  rcases zJQ hw with ⟨h3,h4⟩|⟨h3,h4⟩
  ·refine ff h3 (zB ?_)
   rw [h4];simp
  ·refine tt h3 (zC (wN (by simp only [List.length_singleton];omega) (zB ?_)))
   rw [h4];rfl
theorem zRO {v:Ty.El zR} {r:Nat} {x:Ty.El zK} (hr:r<v.1.1.length) (h:x∈zEk v r):x∈zGy v:=by
 unfold zGy
 exact List.mem_flatMap.2 ⟨r,List.mem_range.2 hr,h⟩
theorem zWL {v:Ty.El zR} {r i:Nat} {rt:Ty.El zD} {x:Ty.El zK} (hr:v.1.1[r]? =some rt) (hi:i<rt.2.2.1.length) (h:x∈zBr v r rt i):x∈zEk v r:=by
 unfold zEk
 rw [hr]
 exact List.mem_flatMap.2 ⟨i,List.mem_range.2 hi,h⟩
theorem zWJ {v:Ty.El zR} (hv:zOK v) {s:Ty.El zK} (h:s∈zGy v): ∃qn:Nat,s.1=(qn:Int)∧qn<v.1.1.length:=by
 obtain ⟨qn,kn,r,i,int,q,rt,y,z,rfl,hq,_⟩:=zQq hv h
 exact ⟨qn,rfl,(List.getElem?_eq_some_iff.1 hq).1⟩
theorem zYH {v:Ty.El zR} (hv:zOK v) {s:List (Ty.El qL)} (hs: ∀t,t∈s→zZk t) {r:Nat} (hr:r<v.1.1.length) {x:Ty.El zA} (hx:x∈zVx v s r):PvS x∧RtS x:=by
 obtain ⟨w,hw,hx⟩:=List.mem_flatMap.1 hx
 refine zYI hv ?_ (zRO hr hw) hx
 intro y hy
 unfold zJL at hy
 split at hy
 ·rename_i t ht
  exact (hs t (List.mem_of_getElem? ht)).rt y hy
 ·cases hy
theorem zF5 (v:Ty.El zR) (hv:zOK v) (s:List (Ty.El qL)) (hlen:s.length=v.1.1.length) (hs: ∀t,t∈s→zZk t) (r:Nat) (rt:Ty.El zD) (t:Ty.El qL) (hr:v.1.1[r]? =some rt) (ht:s[r]? =some t):
  Wp (zAc (v,s,(r:Int),())) (fun o=>o=bif rt.2.2.2.2.2.2.2.2.2.2.1.1 then zAX (zFq v t r rt++zVx v s r) else []):=by
 unfold zAc
 dsimp only
 have hrl:=(List.getElem?_eq_some_iff.1 hr).1
 have hV:=hv.p.s
 have hsm:=hV.sm rt (List.mem_of_getElem? hr)
 have hT:=hs t (List.mem_of_getElem? ht)
 have n1:rt.2.2.1.length≤20:=hsm.i1
 refine zC (Wp.mono (Q:=fun s=>s= !rt.2.2.2.2.2.2.2.2.2.2.1.1) ?_ (fun s2 hs2=> ?_))
 ·have q0: ¬((r:Int)<0):=by omega
  have q1: ¬((r:Int)≥(List.length v.1.1:Int)):=by omega
  have q2: ¬((r:Int)≥(List.length s:Int)):=by omega
  refine zI (fun h=>absurd h q0) (fun _=>zI (fun h=>absurd h q1) (fun _=>zI (fun h=>absurd h q2) (fun _=> ?_)))
  simp only [zJ hr,Option.bind_some]
  exact zB rfl
 subst hs2
 cases hon:rt.2.2.2.2.2.2.2.2.2.2.1.1 with
 |false=>exact tt rfl (zB rfl)
 |true=>
  refine ff rfl ?_
  simp only [zJ hr,zJ ht,Option.bind_some,cond_true]
  refine zC ((zBX v t r rt hV hr hT.s).mono (fun y6 h6=> ?_))
  rw [hon] at h6
  simp only [cond_true] at h6
  have hl6:y6.length≤76:=by
   have:=zTK (v:=v) (t:=t) (r:=r) hsm
   have h16:=hT.rib
   rw [h6];omega
  have hpv: ∀k,(zJL s k).length≤12:=by
   intro k
   unfold zJL
   split
   ·rename_i t0 h0
    exact (hs t0 (List.mem_of_getElem? h0)).pv
   ·exact Nat.zero_le _
  have hrI: ∀k,((zBr v r rt k).flatMap (fun x=>zIE v (zJL s x.1) x)).length≤4320:=by
   intro k
   have h1:=w4 (xs:=zBr v r rt k) (f:=fun x=>zIE v (zJL s x.1) x) (k:=12) (fun x _=>Nat.le_trans zNz (hpv _))
   have h2:=zEB hV r rt k
   omega
  have hrA: ∀m,m≤20→((List.range m).flatMap (fun k=>(zBr v r rt k).flatMap (fun x=>zIE v (zJL s x.1) x))).length≤86400:=by
   intro m hm
   have h1:=w4 (xs:=List.range m) (f:=fun k=>(zBr v r rt k).flatMap (fun x=>zIE v (zJL s x.1) x)) (k:=4320) (fun k _=>hrI k)
   rw [List.length_range] at h1
   omega
  refine zC (vI (xs:=rt.2.2.1) (by omega) (fun i (g:List (Ty.El zA))=>g=y6++(List.range i).flatMap (fun k=>(zBr v r rt k).flatMap (fun x=>zIE v (zJL s x.1) x))) (by simp) ?_ (fun s102 h102=> ?_))
  ·intro i z g hz hg
   have hi:=(List.getElem?_eq_some_iff.1 hz).1
   have hgl:g.length≤86476:=by
    have:=hrA i (by omega)
    rw [hg,List.length_append];omega
   refine zC ((yU v hv.p r i rt z hr hz).mono (fun y94 h94=> ?_))
   have hl94:y94.length≤360:=by rw [h94];exact zEB hV r rt i
   rw [List.range_succ,List.flatMap_append, ←List.append_assoc, ←hg]
   refine vI (xs:=y94) (by omega) (fun j (w:List (Ty.El zA))=>w=g++(y94.take j).flatMap (fun x=>zIE v (zJL s x.1) x)) (by simp) ?_ (fun w hw=> ?_)
   ·intro j x w hx hw
    have hwl:w.length≤90796:=by
     have h1:=w4 (xs:=y94.take j) (f:=fun x=>zIE v (zJL s x.1) x) (k:=12) (fun x _=>Nat.le_trans zNz (hpv _))
     have h2:=List.length_take_le' j y94
     rw [hw,List.length_append];omega
    have hxm:x∈zGy v:=zRO hrl (zWL hr hi (by rw [←h94];exact List.mem_of_getElem? hx))
    obtain ⟨qn,hq1,hq2⟩:=zWJ hv hxm
    obtain ⟨t0,ht0⟩: ∃t0,s[qn]? =some t0:=⟨_,List.getElem?_eq_getElem (by omega)⟩
    have hT0:=hs t0 (List.mem_of_getElem? ht0)
    have hpe:zJL s x.1=t0.2.2.1:=by
     unfold zJL
     rw [hq1,Int.toNat_natCast,ht0]
    simp only [zJ hx,Option.bind_some]
    rw [zKk hx, ←List.append_assoc, ←hw,hpe]
    have hlt:(qn:Int)< (s.length:Int):=by omega
    refine tt (decide_eq_true (by rw [hq1];exact hlt)) ?_
    rw [hq1]
    simp only [zJ ht0,Option.bind_some]
    have hpl:=hT0.pv
    refine zC ((zEh v hv x hxm t0.2.2.1 (by omega) hT0.rt).mono (fun l hl=> ?_))
    have hll:l.length≤12:=by rw [hl];exact Nat.le_trans zNz hpl
    refine zC (wN (by omega) (zB ?_))
    rw [hl]
   ·rw [hw,List.take_length,h94];simp
  ·have hrec:zVx v s r=(List.range rt.2.2.1.length).flatMap (fun k=>(zBr v r rt k).flatMap (fun x=>zIE v (zJL s x.1) x)):=by
    unfold zVx zEk
    rw [hr]
    simp only
    rw [List.flatMap_assoc]
   rw [←hrec] at h102
   have hrl2:(zVx v s r).length≤86400:=by rw [hrec];exact hrA _ n1
   have hall: ∀x,x∈s102→PvS x∧RtS x:=by
    intro x hx
    rw [h102] at hx
    rcases List.mem_append.1 hx with hx|hx
    ·rw [h6] at hx;exact zXh hx
    ·exact zYH hv hs hrl hx
   refine zC ((zKV s102 (by rw [h102,List.length_append];omega) (fun x hx=>(hall x hx).2) (fun x y hx hy=>zIs x y (hall x hx).1 (hall y hy).1)).mono (fun o ho=>zB ?_))
   rw [ho,h102,h6]
end Go.Ve

namespace Go.Ve
open Go
set_option maxRecDepth 1000000
set_option maxHeartbeats 4000000
def qAE:Ty.El tDV:=(false,0,⟨#[]⟩,⟨#[]⟩,[],())
def qAV:Ty.El tPV:=(true,20,200,[(167772162,2,⟨#[]⟩,⟨#[]⟩,())],[],[],[],[],())
def qAU:Ty.El tPV:=(true,20,200,[(167772161,1,⟨#[]⟩,⟨#[]⟩,())],[(167772416,24,())],[],[],[],())
def zYK:Ty.El zD:=rtS ⟨#[97]⟩ 1 [ifS ⟨#[101,48]⟩ 167772161 false] qAE qAV
def zYJ:Ty.El zD:=rtS ⟨#[98]⟩ 2 [ifS ⟨#[101,48]⟩ 167772162 false,ifS ⟨#[101,49]⟩ 167772418 false] qAE qAU
def zZP:Ty.El zV:=([zYK,zYJ],())
def kY:Ty.El zR:=(zZP,zWy,[],())
def zRt:Ty.El qL:=([],[],[],[],())
def l20:List (Ty.El zA):=[((167772416,24,()),5,1,200,0,0,0,100,[],0,0,[],false,())]
def s20:List (Ty.El qL):=[zRt,([],[],l20,[],())]
def t20:List (Ty.El zA):=[((167772416,24,()),5,3,20,0,0,0,100,[2],167772162,0,[(0,167772162,())],false,())]
def e20:List (Ty.El zK):=[(1,0,0,0,false,()),(0,0,1,0,false,())]
theorem zYX {P:Ty.El zD→Prop} (ha:P zYK) (hb:P zYJ): ∀r,r∈kY.1.1→P r:=by
 intro r hr
 rcases List.mem_cons.1 hr with rfl|hr
 ·exact ha
 ·rcases List.mem_cons.1 hr with rfl|hr
  ·exact hb
  ·cases hr
theorem zUJ:zBb kY where
 rs:=by decide
 sm:=zYX (zQn (by decide) (by decide) (by decide) (by decide) (by decide) (by decide) (by decide)) (zQn (by decide) (by decide) (by decide) (by decide) (by decide) (by decide) (by decide))
 doms:=zHb.doms
 ends := zHb.ends
 links:=zHb.links
 link0:=zHb.link0
 down:=zHb.down
 down0:=zHb.down0
theorem zXR {r i:Int} {e:Ty.El zL} (he:e∈xY kY r i):
  (xY kY r i=[(0,0,()),(1,0,())]∨xY kY r i=[(1,1,())]):=by
 unfold xY at he ⊢
 split at he
 ·rename_i d hd
  have hd:=List.mem_of_getElem? hd
  rcases List.mem_cons.1 hd with rfl|hd
  ·exact .inl rfl
  ·rcases List.mem_cons.1 hd with rfl|hd
   ·exact .inr rfl
   ·cases hd
 ·cases he
theorem zUK:zMc kY where
 s:=zUJ
 nb:=zYX (fun i j x y hj hx _=>by
  have:i<1:=(List.getElem?_eq_some_iff.1 hx).1
  omega) (fun i j x y hj hx _=>by
  have:i<1:=(List.getElem?_eq_some_iff.1 hx).1
  omega)
 ends := fun r i e _ he => by
  rcases zXR he with h|h
  ·rw [h] at he
   rcases List.mem_cons.1 he with rfl|he
   ·exact ⟨by decide,by decide,_,_,rfl,rfl⟩
   ·rcases List.mem_cons.1 he with rfl|he
    ·exact ⟨by decide,by decide,_,_,rfl,rfl⟩
    ·cases he
  ·rw [h] at he
   rcases List.mem_cons.1 he with rfl|he
   ·exact ⟨by decide,by decide,_,_,rfl,rfl⟩
   ·cases he
 own:=fun r i=>by
  unfold zGb
  cases hu:upB kY r i with
  |false=>rfl
  |true=>
   simp only [cond_true]
   have ho:=zXQ hu
   refine List.filter_congr (fun e he=> ?_)
   cases h1:(e.1 !=r) with
   |true=>rfl
   |false=>
    have h1:e.1=r:=by simpa [bne] using h1
    have h2:e.2.1=i:=by
     rcases zXR he with h|h
     ·rw [h] at he ho
      rcases List.mem_cons.1 he with rfl|he
      ·rcases List.mem_cons.1 ho with ho|ho
       ·exact (congrArg (fun e:Ty.El zL=>e.2.1) ho).symm
       ·rcases List.mem_cons.1 ho with ho|ho
        ·have h3:r=1:=congrArg (fun e:Ty.El zL=>e.1) ho
         have h1:(0:Int)=r:=h1
         omega
        ·cases ho
      ·rcases List.mem_cons.1 he with rfl|he
       ·rcases List.mem_cons.1 ho with ho|ho
        ·have h3:r=0:=congrArg (fun e:Ty.El zL=>e.1) ho
         have h1:(1:Int)=r:=h1
         omega
        ·rcases List.mem_cons.1 ho with ho|ho
         ·exact (congrArg (fun e:Ty.El zL=>e.2.1) ho).symm
         ·cases ho
       ·cases he
     ·rw [h] at he ho
      rcases List.mem_cons.1 he with rfl|he
      ·rcases List.mem_cons.1 ho with ho|ho
       ·exact (congrArg (fun e:Ty.El zL=>e.2.1) ho).symm
       ·cases ho
      ·cases he
    rw [h2]
    simp
theorem zYq:zOK kY where
 p:=zUK
 maps:=zYX (fun m hm=>by cases hm) (fun m hm=>by cases hm)
 adr:=zYX (fun x hx=>by
  rcases List.mem_cons.1 hx with rfl|hx
  ·exact ⟨by decide,by decide⟩
  ·cases hx) (fun x hx=>by
  rcases List.mem_cons.1 hx with rfl|hx
  ·exact ⟨by decide,by decide⟩
  ·rcases List.mem_cons.1 hx with rfl|hx
   ·exact ⟨by decide,by decide⟩
   ·cases hx)
theorem qAm:zZk zRt:=⟨⟨by decide,by decide,by decide,by decide⟩,by decide,by decide,fun y hy=>by cases hy⟩
theorem qAn: ∀t,t∈s20→zZk t:=by
 intro t ht
 rcases List.mem_cons.1 ht with rfl|ht
 ·exact qAm
 ·rcases List.mem_cons.1 ht with rfl|ht
  ·refine ⟨⟨by decide,by decide,by decide,by decide⟩,by decide,by decide,fun y hy=> ?_⟩
   rcases List.mem_cons.1 hy with rfl|hy
   ·exact ⟨⟨by decide,by decide⟩,⟨by decide,by decide⟩⟩
   ·cases hy
  ·cases ht
theorem zXj:zFq kY zRt 1 zYJ=l20:=by kernel_rfl
theorem zXk:zAX (zFq kY zRt 0 zYK++zVx kY s20 0)=t20:=by kernel_rfl
theorem zZI:zGy kY=e20:=by kernel_rfl
theorem zYS:vU (kY,zRt,1,())=some l20:=by
 refine wM ((zBX kY zRt 1 zYJ zUJ rfl qAm.s).mono (fun o ho=> ?_))
 rw [ho]
 exact zXj
theorem zYu:zAc (kY,s20,0,())=some t20:=by
 refine wM ((zF5 kY zYq s20 rfl qAn 0 zYK zRt rfl rfl).mono (fun o ho=> ?_))
 rw [ho]
 exact zXk
theorem zTs:uN (kY,())=some e20:=by
 refine wM ((zEj kY zUK).mono (fun o ho=> ?_))
 rw [ho]
 exact zZI
end Go.Ve

/-
  Plain laws: the routes of one prefix are merged.
  Plain laws: the program's merging is the document's.
  Plain laws: the tables of distance-vector routing.
  Plain laws: the document's distance-vector tables.
  DistBetter, plain: a neighbor with a lower metric makes no metric greater.
  DistBetter: the law answers true.
  Plain laws: the fixed network of distance-vector routing; DistTables.
-/
import Derived.KernelRfl
import Derived.Test.YtcnlcmbchljpgaaGreatQb17
import Derived.Test.YtcnlcmbchljpgaaGreatQb13
import Derived.Test.YtcnlcmbchljpgaaGreatQb18
set_option linter.unusedVariables false
namespace Go.Ve
open Go
set_option maxRecDepth 1000000
set_option maxHeartbeats 4000000
theorem zNr {l l':List (Ty.El zA)} {p:Ty.El zF} (h:w5 p l=w5 p l'):mrg l p=mrg l' p:=by
 have hm: ∀x,(x∈l∧x.1=p)↔(x∈l'∧x.1=p):=fun x=>by rw [←uM, ←uM,h]
 unfold mrg
 have hb:zBc l p=zBc l' p:=by
  rw [zBb,zBb,h]
 rw [hb]
 cases zBc l' p with
 |none=>rfl
 |some b=>
  have hh:zCj l p b=zCj l' p b:=zA3 zIg (xS _ _ _) (xS _ _ _) (fun h'=>by
   rw [zCi,zCi]
   exact ⟨fun ⟨x,hx,e,k⟩=>⟨x,((hm x).1 ⟨hx,e⟩).1,e,k⟩,fun ⟨x,hx,e,k⟩=>⟨x,((hm x).2 ⟨hx,e⟩).1,e,k⟩⟩)
  rw [Option.map_some,Option.map_some,hh]
theorem zBS (p:Ty.El zF) (a b:List (Ty.El zA)):w5 p (a++b)=w5 p a++w5 p b:=by
 unfold w5 zIk
 exact List.filter_append _ _
theorem zLB {p:Ty.El zF} {l:List (Ty.El zA)} (h: ∀x,x∈l→x.1≠p):w5 p l=[]:=by
 unfold w5 zIk
 rw [List.filter_eq_nil_iff]
 intro x hx
 simpa using h x hx
theorem zTd {p:Ty.El zF} {l:List (Ty.El zA)} (h: ∀x,x∈l→x.1=p):w5 p l=l:=by
 unfold w5 zIk
 rw [List.filter_eq_self]
 intro x hx
 simpa using h x hx
theorem zR0 {l:List (Ty.El zA)} {c:Option (Ty.El zA)} {i:Nat} {x:Ty.El zA} (h:l[i]? =some x):zFq c (l.take (i+1))=(bif zM5 x (zFq c (l.take i)) then some x else zFq c (l.take i)):=by
 unfold zFq
 rw [List.take_add_one,h,Option.toList_some,List.foldl_append]
 rfl
def zIf (b:Ty.El zA) (l:List (Ty.El zA)):List (Ty.El jJ):=l.flatMap (fun x=>bif uW x b==0 then x.2.2.2.2.2.2.2.2.2.2.2.1 else [])
theorem zQ6 (xs:List (Ty.El jJ)):((if xs=[] then [] else srt zI7 xs):List (Ty.El jJ)).Pairwise (fun x y=> ¬hlt y x)∧(∀h,h∈(if xs=[] then [] else srt zI7 xs)↔h∈xs)∧(if xs=[] then [] else srt zI7 xs).length=xs.length:=by
 by_cases hx:xs=[]
 ·rw [if_pos hx,hx]
  exact ⟨List.Pairwise.nil,fun h=>Iff.rfl,rfl⟩
 ·rw [if_neg hx]
  obtain ⟨h1,h2,h3⟩:=zPm zSB xs
  refine ⟨?_,fun h=>h1.mem_iff,h2⟩
  rw [List.pairwise_iff_getElem]
  intro i j hi hj hij hlt'
  have:=h3 i j _ _ hij (List.getElem?_eq_getElem hi) (List.getElem?_eq_getElem hj)
  rw [(zCL _ _).2 hlt'] at this
  cases this
theorem zFZ (g:List (Ty.El zA)) (p:Ty.El zF) (hne:g≠[]) (hp: ∀x,x∈g→x.1=p) (hs: ∀x,x∈g→RtS x) (hl:g.length≤524288) (hP: ∀x y,x∈g→y∈g→uB (x,y,())=some (uW x y)):
  Wp (zAz (g,())) (fun z=>mrg g p=some z):=by
 obtain ⟨y0,r,rfl⟩: ∃y0 r,g=y0::r:=by
  cases g with
  |nil=>exact absurd rfl hne
  |cons y r=>exact ⟨y,r,rfl⟩
 unfold zAz
 dsimp only
 have h0:idx (y0::r) (0:Int)=some y0:=rfl
 have hsub:sub (y0::r) (1:Int) ((List.length (y0::r):Nat):Int)=some r:=by
  have:=zT1 (xs:=y0::r) (k:=1) (by simp)
  simpa using this
 have hrl:r.length≤524288:=by simp only [List.length_cons] at hl;omega
 refine zC (wD h0 ?_)
 refine zC (Wp.mono (Q:=fun b=>zFq (some y0) r=some b∧b∈y0::r) ?_ ?_)
 ·refine zC (wD hsub ?_)
  refine zBL (xs:=r) (by omega) (fun i (b:Ty.El zA)=>zFq (some y0) (r.take i)=some b∧b∈y0::r) ⟨rfl,by simp⟩ ?_ (fun b hb=>by rw [List.take_length] at hb;exact hb)
  rintro i x b hx ⟨hb,hbm⟩
  have hxm:x∈y0::r:=List.mem_cons_of_mem _ (List.mem_of_getElem? hx)
  simp only [zT hx,Option.bind_some]
  refine zC (wD (hP x b hxm hbm) ?_)
  rw [zR0 hx,hb]
  refine zI (fun h=>zB ⟨?_,hxm⟩) (fun h=>zB ⟨?_,hbm⟩)
  ·have:zM5 x (some b)=true:=decide_eq_true h
   rw [this];rfl
  ·have:zM5 x (some b)=false:=decide_eq_false h
   rw [this];rfl
 ·rintro b ⟨hb,hbm⟩
  have hbest:zBc (y0::r) p=some b:=by
   rw [zBb,zTd hp]
   exact hb
  have hbs:=hs b hbm
  have hbound: ∀i,i≤(y0::r).length→(zIf b ((y0::r).take i)).length≤i*1048576:=by
   intro i hi
   have:=zAk (xs:=(y0::r).take i) (f:=fun x:Ty.El zA=>bif uW x b==0 then x.2.2.2.2.2.2.2.2.2.2.2.1 else []) (k:=1048576) (fun x hx=>by
    have:=(hs x (List.mem_of_mem_take hx)).hops
    cases uW x b==0
    ·exact Nat.zero_le _
    ·exact this)
   rw [List.length_take,Nat.min_eq_left hi] at this
   exact this
  refine zC ((show Wp _ (fun hs0:List (Ty.El jJ)=>hs0=zIf b (y0::r)) from ?_).mono (fun hs0 hh=> ?_))
  ·refine zBL (xs:=y0::r) (by omega) (fun i (h:List (Ty.El jJ))=>h=zIf b ((y0::r).take i)) rfl ?_ (fun h hh=>by rw [hh,List.take_length])
   intro i x h hx hh
   have hi:=(List.getElem?_eq_some_iff.1 hx).1
   have hxm:x∈y0::r:=List.mem_of_getElem? hx
   have hxh:=(hs x hxm).hops
   have hlh:h.length≤i*1048576:=by rw [hh];exact hbound i (by omega)
   simp only [zT hx,Option.bind_some]
   refine zC (wD (hP x b hxm hbm) ?_)
   have hst:zIf b ((y0::r).take (i+1))=h++(bif uW x b==0 then x.2.2.2.2.2.2.2.2.2.2.2.1 else []):=by
    rw [hh]
    exact zIj hx
   rw [hst]
   refine zH (fun hz=> ?_) (fun hz=>zB ?_)
   ·rw [hz]
    exact zC (zA0 (by omega) (zB rfl))
   ·rw [hz];exact (List.append_nil h).symm
  ·have hlen:hs0.length≤549755813888:=by
    have:=hbound (y0::r).length (Nat.le_refl _)
    rw [List.take_length, ←hh] at this
    have h2:(y0::r).length*1048576≤524288*1048576:=Nat.mul_le_mul_right _ hl
    omega
   obtain ⟨s1,s2,s3⟩:=zQ6 hs0
   refine tt (Nat.beq_refl _) ?_
   have e1:vY hs0 ((),())=some (if hs0=[] then [] else srt zI7 hs0,()):=by
    unfold vY
    rw [if_pos (by omega)]
   refine zC (wD e1 ?_)
   generalize (if hs0=[] then [] else srt zI7 hs0)=hs1 at s1 s2 s3
   have e2:kZ hs1 ()=some (wM zMT hs1):=by
    unfold kZ
    rw [if_pos (by omega)]
   refine zC (wD e2 ?_)
   have hcm:wM zMT hs1=zCj (y0::r) p b:=by
    refine zOB s1 (fun h=> ?_)
    rw [s2,hh]
    unfold zIf
    rw [List.mem_flatMap]
    constructor
    ·rintro ⟨x,hx,hxx⟩
     cases hz:uW x b==0 with
     |false=>rw [hz] at hxx;cases hxx
     |true=>
      rw [hz] at hxx
      exact ⟨x,hx,hp x hx,by simpa using hz,hxx⟩
    ·rintro ⟨x,hx,_,hz,hxx⟩
     refine ⟨x,hx,?_⟩
     have:(uW x b==0)=true:=by simpa using hz
     rw [this]
     exact hxx
   have hpath:=hbs.path
   have e3:yO (b.2.2.2.2.2.2.2.2.1,())=some b.2.2.2.2.2.2.2.2.1:=by
    refine u4 ?_
    unfold yO
    exact zC (zA0 (by simp only [List.length_nil];omega) (zB rfl))
   refine zC (wD e3 (zB ?_))
   unfold mrg
   rw [hbest,hcm]
   obtain ⟨⟨a1,a2,⟨⟩⟩,b⟩:=b
   rfl
end Go.Ve

namespace Go.Ve
open Go
set_option maxRecDepth 1000000
set_option maxHeartbeats 4000000
theorem x9 {l:List (Ty.El zA)} {z:Ty.El zA} :z∈vC l↔ ∃q,(∃x,x∈l∧x.1=q)∧mrg l q=some z:=by
 unfold vC
 rw [List.mem_filterMap]
 exact ⟨fun ⟨q,h1,h2⟩=>⟨q,(zDd l q).1 h1,h2⟩,fun ⟨q,h1,h2⟩=>⟨q,(zDd l q).2 h1,h2⟩⟩
theorem zOu {a g:List (Ty.El zA)} {p:Ty.El zF} {z:Ty.El zA} (ha: ∀x,x∈a→plt x.1 p) (hg: ∀x,x∈g→x.1=p) (hne:g≠[]) (hz:mrg g p=some z):vC (a++g)=vC a++[z]:=by
 have hirr: ∀q:Ty.El zF, ¬plt q q:=fun q h=>zFF.asym _ _ h h
 have hane: ∀x,x∈a→x.1≠p:=fun x hx e=>by have:=ha x hx;rw [e] at this;exact hirr p this
 have hzp:z.1=p:=zDU hz
 have e1: ∀q,q≠p→mrg (a++g) q=mrg a q:=fun q hq=>zNr (by
  rw [zBS,zLB (l:=g) (fun x hx e=>hq (e.symm.trans (hg x hx))),List.append_nil])
 have e2:mrg (a++g) p=mrg g p:=zNr (by rw [zBS,zLB hane,List.nil_append])
 refine zA3 zOh (zGn _) ?_ ?_
 ·rw [List.pairwise_append]
  refine ⟨zGn a,List.pairwise_singleton _ _,?_⟩
  intro x hx y hy
  rw [List.mem_singleton] at hy
  subst hy
  obtain ⟨q,⟨x0,hx0,hq⟩,hm⟩:=x9.1 hx
  unfold rlt
  rw [hzp,zDU hm, ←hq]
  exact ha x0 hx0
 ·intro y
  rw [List.mem_append,List.mem_singleton,x9,x9]
  constructor
  ·rintro ⟨q,⟨x,hx,hq⟩,hm⟩
   by_cases hqp:q=p
   ·subst hqp
    rw [e2,hz] at hm
    exact .inr (Option.some.inj hm).symm
   ·refine .inl ⟨q,⟨x,?_,hq⟩,by rw [←e1 q hqp];exact hm⟩
    rcases List.mem_append.1 hx with h|h
    ·exact h
    ·exact absurd ((hg x h).symm.trans hq).symm hqp
  ·rintro (⟨q,⟨x,hx,hq⟩,hm⟩|rfl)
   ·have hqp:q≠p:=fun e=>hane x hx (hq.trans e)
    exact ⟨q,⟨x,List.mem_append_left _ hx,hq⟩,by rw [e1 q hqp];exact hm⟩
   ·obtain ⟨x,hx⟩:=List.exists_mem_of_ne_nil g hne
    exact ⟨p,⟨x,List.mem_append_right _ hx,hg x hx⟩,by rw [e2];exact hz⟩
theorem zLD (l:List (Ty.El zA)):(vC l).length≤l.length:=Nat.le_trans (List.length_filterMap_le _ _) (zUu l)
theorem zIQ (l:List (Ty.El zA)) (hl:l.length≤524288) (hs: ∀x,x∈l→RtS x) (hP: ∀x y,x∈l→y∈l→uB (x,y,())=some (uW x y)):
  Wp (zCD (l,())) (fun r=>r=vC l):=by
 unfold zCD
 dsimp only
 have e0:uA (l,())=some l:=by
  refine u4 ?_
  unfold uA
  exact zC (zA0 (by simp only [List.length_nil];omega) (zB rfl))
 refine zC (wD e0 ?_)
 refine tt (by simp) ?_
 refine zC ((show Wp (kF l ((),())) _ from zEh l (by omega)).mono ?_)
 rintro ⟨s,⟨⟩⟩ ⟨hsl,hsame,hso⟩
 simp only at hsl hsame hso
 rw [zJN hsame]
 have hm: ∀x,x∈s→x∈l:=by
  intro x hx
  have h1:= @uM x.1 x l
  have h2:= @uM x.1 x s
  have h3:w5 x.1 l=w5 x.1 s:=hsame x.1
  rw [h3] at h1
  exact (h1.1 (h2.2 ⟨hx,rfl⟩)).1
 have hn:s.length≤524288:=by omega
 have hso':=List.pairwise_iff_getElem.1 hso
 refine zC ((show Wp _ (fun r=>r=vC s) from ?_).mono (fun r hr=>zB hr))
 refine wO (fun q:Int×List (Ty.El zA)=> ∃i:Nat,q.1=(i:Int)∧i≤s.length∧q.2=vC (s.take i)∧(0<i→ ∀x y,s[i-1]? =some x→s[i]? =some y→x.1≠y.1)) (fun q=>((s.length:Int) -q.1).toNat)
  ⟨(0:Nat),rfl,Nat.zero_le _,rfl,fun h=>absurd h (Nat.lt_irrefl 0)⟩ ?_
 rintro ⟨st,mg⟩ ⟨i,hi,hil,hmg,hbd⟩
 simp only at hi hmg
 subst hi
 refine zI (fun hc=> ?_) (fun hc=> ?_)
 ·have hc:(i:Int)< (s.length:Int):=hc
  have hlt:i<s.length:=by omega
  have hx:s[i]? =some s[i]:=by simp [hlt]
  generalize hxi:s[i]=xi at hx
  refine zC ((show Wp _ (fun q:List (Ty.El zA)×Int=>q.1=mg∧ ∃e:Nat,q.2=(e:Int)∧i<e∧e≤s.length∧(∀k y,i≤k→k<e→s[k]? =some y→y.1=xi.1)∧(∀y,s[e]? =some y→y.1≠xi.1)) from ?_).mono ?_)
  ·refine wO (fun q:Int×List (Ty.El zA)=>q.2=mg∧ ∃e:Nat,q.1=(e:Int)∧i<e∧e≤s.length∧(∀k y,i≤k→k<e→s[k]? =some y→y.1=xi.1)) (fun q=>((s.length:Int) -q.1).toNat) ⟨rfl,i+1,?_,Nat.lt_succ_self i,hlt,?_⟩ ?_
   ·rw [zD (by omega) (by omega)];omega
   ·intro k y h1 h2 hy
    have:k=i:=by omega
    subst this
    rw [hx] at hy
    cases hy
    rfl
   ·rintro ⟨q1,q2⟩ ⟨rfl,e,he,hie,hel,hall⟩
    simp only at he
    subst he
    refine zC ((show Wp _ (fun b:Bool×List (Ty.El zA)=>b.2=q2∧(b.1=true→ ∃y,s[e]? =some y∧y.1=xi.1)∧(b.1=false→ ∀y,s[e]? =some y→y.1≠xi.1)) from ?_).mono ?_)
    ·refine zI (fun h=> ?_) (fun h=>zB ⟨rfl,(fun h'=>by cases h'),fun _ y hy=> ?_⟩)
     ·have h:(e:Int)< (s.length:Int):=h
      have hye:s[e]? =some (s[e]'(by omega)):=by simp
      generalize (s[e]'(by omega))=ye at hye
      simp only [zT hye,zT hx,Option.bind_some]
      refine zB ⟨rfl,fun hb=>⟨ye,hye,zE3 hb⟩,fun hb y hy=> ?_⟩
      have hyy:y=ye:=by rw [hye] at hy;exact (Option.some.inj hy).symm
      subst hyy
      intro e0
      have hb:(y.1.fst==xi.1.fst&&(y.1.snd.fst==xi.1.snd.fst&&true))=false:=hb
      rw [e0] at hb
      simp at hb
     ·have h: ¬(e:Int)< (s.length:Int):=h
      have:=(List.getElem?_eq_some_iff.1 hy).1
      omega
    ·rintro ⟨b,q3⟩ ⟨hq,hbt,hbf⟩
     simp only at hq hbt hbf
     subst hq
     refine zH (fun hb=> ?_) (fun hb=>zB (e2r ⟨rfl,e,rfl,hie,hel,hall,hbf hb⟩))
     obtain ⟨y,hy,hyp⟩:=hbt hb
     have hel':=(List.getElem?_eq_some_iff.1 hy).1
     have hw:IntKind.wrap IntKind.i64 ((e:Int)+1)=((e+1:Nat):Int):=by rw [zD (by omega) (by omega)];omega
     refine zB (e2l ⟨⟨rfl,e+1,hw,by omega,hel',?_⟩,?_⟩)
     ·intro k y' h1 h2 hy'
      rcases Nat.lt_or_ge k e with h3|h3
      ·exact hall k y' h1 h3 hy'
      ·have:k=e:=by omega
       subst this
       rw [hy] at hy'
       cases hy'
       exact hyp
     ·simp only [hw];omega
  ·rintro ⟨q1,q2⟩ ⟨hq,e,he,hie,hel,hall,hend⟩
   simp only at hq he
   subst hq
   subst he
   have hsub:sub s (i:Int) (e:Int)=some ((s.take e).drop i):=by
    unfold sub
    rw [if_pos ⟨by omega,by omega,by omega⟩]
    simp
   have hgm: ∀x,x∈(s.take e).drop i→x∈s∧x.1=xi.1:=by
    intro x hx'
    obtain ⟨k,hk,rfl⟩:=List.getElem_of_mem hx'
    rw [List.length_drop,List.length_take] at hk
    have hke:((s.take e).drop i)[k]=s[i+k]'(by omega):=by rw [List.getElem_drop,List.getElem_take]
    rw [hke]
    exact ⟨List.getElem_mem _,hall (i+k) _ (by omega) (by omega) (by simp)⟩
   have hgl:((s.take e).drop i).length=e-i:=by rw [List.length_drop,List.length_take];omega
   have hgn:(s.take e).drop i≠[]:=fun h=>by rw [h] at hgl;simp only [List.length_nil] at hgl;omega
   refine zC (wD hsub ?_)
   refine zC ((zFZ _ xi.1 hgn (fun x hx'=>(hgm x hx').2) (fun x hx'=>hs x (hm x (hgm x hx').1)) (by omega) (fun x y hx' hy'=>hP x y (hm x (hgm x hx').1) (hm y (hgm y hy').1))).mono (fun z hz=> ?_))
   have hml:=zLD (s.take i)
   rw [List.length_take] at hml
   have hql:q1.length≤524288:=by rw [hmg];omega
   refine zC (zA0 (by simp only [List.length_singleton];omega) (zB (e2l ⟨⟨e,rfl,hel,?_,?_⟩,?_⟩)))
   ·have hta:s.take e=s.take i++(s.take e).drop i:=by
     have h1:=List.take_append_drop i (s.take e)
     rw [List.take_take,Nat.min_eq_left (by omega)] at h1
     exact h1.symm
    rw [hta,hmg]
    refine (zOu (p:=xi.1) ?_ (fun x hx'=>(hgm x hx').2) hgn hz).symm
    intro x hx'
    obtain ⟨a,ha,rfl⟩:=List.getElem_of_mem hx'
    rw [List.length_take] at ha
    rw [List.getElem_take]
    have hi0:0<i:=by omega
    have hx1:s[i-1]? =some (s[i-1]'(by omega)):=by simp
    have hne:=hbd hi0 _ _ hx1 hx
    have h1:=hso' (i-1) i (by omega) hlt (by omega)
    rw [hxi] at h1
    have h2:plt (s[i-1]'(by omega)).1 xi.1:=zOl h1 hne
    by_cases hai:a=i-1
    ·subst hai;exact h2
    ·have h3:=hso' a (i-1) (by omega) (by omega) (by omega)
     unfold rlt plt zDe at*
     omega
   ·intro _ x y hx' hy' hxy
    have h1:x.1=xi.1:=hall (e-1) x (by omega) (by omega) hx'
    exact hend y hy' (hxy.symm.trans h1)
   ·simp only;omega
 ·have hc: ¬(i:Int)< (s.length:Int):=hc
  have:i=s.length:=by omega
  subst this
  refine zB (e2r ?_)
  simp only [hmg,List.take_length]
end Go.Ve

namespace Go.Ve
open Go
set_option maxRecDepth 1000000
set_option maxHeartbeats 4000000
def zUx (rt:Ty.El zG) (x:Ty.El qQ) (k:Nat):Ty.El zA:=
 (zUD x.2.1 x.2.2.1,(4:Int),(1:Int),rt.2.2.2.2.2.2.2.2.2.1.2.1,(1:Int),(0:Int),(0:Int),(0:Int),[],(0:Int),(0:Int),[((k:Int),(0:Int),())],false,())
def zTc (v:Ty.El z6) (r:Int) (rt:Ty.El zG) (k:Nat):Option (Ty.El zA):=
 match rt.2.2.1[k]? with
 |some x=>bif uX v rt x r k then some (zUx rt x k) else none
 |none=>none
def zOn (v:Ty.El z6) (r:Int) (rt:Ty.El zG):List (Ty.El zA):=(List.range rt.2.2.1.length).filterMap (zTc v r rt)
theorem zLl (v:Ty.El z6) (r:Int) (rt:Ty.El zG):(zOn v r rt).length≤rt.2.2.1.length:=
 Nat.le_trans (List.length_filterMap_le _ _) (by rw [List.length_range];exact Nat.le_refl _)
theorem zOm {v:Ty.El z6} {r:Int} {rt:Ty.El zG} {y:Ty.El zA} (h:y∈zOn v r rt): ∃ (k:Nat) (x:Ty.El qQ),rt.2.2.1[k]? =some x∧uX v rt x r k=true∧y=zUx rt x k:=by
 obtain ⟨k,_,hk⟩:=List.mem_filterMap.1 h
 unfold zTc at hk
 cases hx:rt.2.2.1[k]? with
 |none=>rw [hx] at hk;cases hk
 |some x=>
  rw [hx] at hk
  simp only at hk
  cases hp:uX v rt x r k with
  |false=>rw [hp] at hk;cases hk
  |true=>
   rw [hp] at hk
   exact ⟨k,x,hx,hp,(Option.some.inj hk).symm⟩
theorem zBF (v:Ty.El z6) (r:Nat) (rt:Ty.El zG) (hv:zCQ v) (hr:v.1.1[r]? =some rt):
  Wp (yK (v,(r:Int),())) (fun out=>out.length=(zOn v r rt).length∧zAY (fun x:Ty.El zA=>x.1) (zOn v r rt) out∧out.Pairwise (fun x y=> ¬rlt y x)):=by
 unfold yK
 dsimp only
 have hrl:=(List.getElem?_eq_some_iff.1 hr).1
 have hsm:=hv.sm rt (List.mem_of_getElem? hr)
 have hil:rt.2.2.1.length≤20:=hsm.i1
 have hr0: ¬((r:Int)<0):=by omega
 have hr1: ¬((r:Int)≥(List.length v.1.1:Int)):=by omega
 refine zC (zI (fun h=>absurd h hr0) (fun h=>zB ?_))
 refine zI (fun h=>absurd h hr1) (fun h=> ?_)
 simp only [zT hr,Option.bind_some]
 have hfl: ∀i,i≤20→((List.range i).filterMap (zTc v r rt)).length≤20:=fun i hi=>Nat.le_trans (List.length_filterMap_le _ _) (by rw [List.length_range];exact hi)
 refine zC ((zBL (xs:=rt.2.2.1) (by omega) (fun i (g:List (Ty.El zA))=>g=(List.range i).filterMap (zTc v r rt)) rfl ?_ (Q:=fun g=>g=zOn v r rt) (fun g hg=>hg)).mono (fun g hg=> ?_))
 ·intro i x g hx hg
  have hi:=(List.getElem?_eq_some_iff.1 hx).1
  have hgl:g.length≤20:=by rw [hg];exact hfl i (by omega)
  simp only [zT hx,Option.bind_some]
  rw [zKs, ←hg]
  have hf:zTc v r rt i=bif uX v rt x r i then some (zUx rt x i) else none:=by unfold zTc;rw [hx]
  rw [hf]
  refine zC ((vB v r i rt x hv hr hx).mono (fun b hb=> ?_))
  subst hb
  refine zH (fun h=>zB ?_) (fun h=>zC (wD (zHH _ _) (zC (zA0 (by simp only [List.length_singleton];omega) (zB ?_)))))
  ·have h:uX v rt x r i=false:=by simpa using h
   rw [h];simp
  ·have h:uX v rt x r i=true:=by simpa using h
   rw [h];rfl
 ·subst hg
  refine zH (fun _=> ?_) (fun h=>absurd h (by rw [Nat.beq_refl];decide))
  have:=zLl v r rt
  refine zC ((zEh (zOn v r rt) (by omega)).mono (fun q hq=>zB ?_))
  exact hq
theorem zOb {a a':List (Ty.El zA)} (h:zAY (fun x:Ty.El zA=>x.1) a a') (b:List (Ty.El zA)):zAY (fun x:Ty.El zA=>x.1) (a++b) (a'++b):=by
 intro p
 have h1:=zBS p a b
 have h2:=zBS p a' b
 have h3:w5 p a=w5 p a':=h p
 show w5 p (a++b)=w5 p (a'++b)
 rw [h1,h2,h3]
theorem zS2 {a a':List (Ty.El zA)} (h:zAY (fun x:Ty.El zA=>x.1) a a') (x:Ty.El zA):x∈a↔x∈a':=by
 have h1:= @uM x.1 x a
 have h2:= @uM x.1 x a'
 have h3:w5 x.1 a=w5 x.1 a':=h x.1
 rw [h3] at h1
 constructor
 ·intro hx;exact (h2.1 (h1.2 ⟨hx,rfl⟩)).1
 ·intro hx;exact (h1.1 (h2.2 ⟨hx,rfl⟩)).1
theorem zSx (rt:Ty.El zG) (x:Ty.El qQ) (k:Nat):(zUx rt x k).2.1=4∧RtS (zUx rt x k):=⟨rfl,⟨Nat.zero_le _,by show 1≤1048576;omega⟩⟩
def zM6 (v:Ty.El z6) (dv:List (List (Ty.El zA))) (l:List (Ty.El zA)) (r:Int) (rt:Ty.El zG):List (Ty.El zA):=zOn v r rt++(l++zBO v dv r rt)
theorem zUo {v:Ty.El z6} {dv:List (List (Ty.El zA))} {r:Int} {rt:Ty.El zG} {x:Ty.El zA} (h:x∈zBO v dv r rt):x.2.1=4∧RtS x:=by
 obtain ⟨i,z,e,_,_,_,hx⟩:=zLE h
 obtain ⟨q,y,t,x0,_,_,_,_,_,hf⟩:=zLF hx
 obtain ⟨_,_,_,hxe⟩:=zIV hf
 rw [hxe]
 exact ⟨rfl,⟨Nat.zero_le _,by show 1≤1048576;omega⟩⟩
theorem uN (v:Ty.El z6) (hs:zCQ v) (hE: ∀ (r i:Int) (e:Ty.El zO),upB v r i=true→e∈zA9 v r i→(0:Int)≤e.1∧(0:Int)≤e.2.1∧ ∃q y,v.1.1[Int.toNat e.1]? =some q∧q.2.2.1[Int.toNat e.2.1]? =some y)
  (dv:List (List (Ty.El zA))) (hdv:dv.length=v.1.1.length) (h12: ∀t,t∈dv→t.length≤12) (l:List (Ty.El zA)) (hl:l.length≤12) (h4: ∀x,x∈l→x.2.1=4∧RtS x) (r:Nat) (rt:Ty.El zG) (hr:v.1.1[r]? =some rt)
  (hlen:(zBO v dv r rt).length≤500000):
  Wp (w3 (v,dv,l,(r:Int),())) (fun t=>t=bif rt.2.2.2.2.2.2.2.2.2.1.1 then vC (zM6 v dv l r rt) else []):=by
 unfold w3
 dsimp only
 have hrl:=(List.getElem?_eq_some_iff.1 hr).1
 have hsm:=hs.sm rt (List.mem_of_getElem? hr)
 have hil:rt.2.2.1.length≤20:=hsm.i1
 have hr0: ¬((r:Int)<0):=by omega
 have hr1: ¬((r:Int)≥(List.length v.1.1:Int)):=by omega
 refine zC ((show Wp _ (fun b:Bool=>b= !rt.2.2.2.2.2.2.2.2.2.1.1) from ?_).mono (fun b hb=> ?_))
 ·refine zI (fun h=>absurd h hr0) (fun _=>zI (fun h=>absurd h hr1) (fun _=> ?_))
  simp only [zT hr,Option.bind_some]
  exact zB rfl
 subst hb
 refine zH (fun h=>zB ?_) (fun h=> ?_)
 ·have h:rt.2.2.2.2.2.2.2.2.2.1.1=false:=by simpa using h
  rw [h];rfl
 have h:rt.2.2.2.2.2.2.2.2.2.1.1=true:=by simpa using h
 rw [h]
 refine zC ((zBF v r rt hs hr).mono (fun o ho=> ?_))
 obtain ⟨ho1,ho2,_⟩:=ho
 have hol:=zLl v r rt
 refine zC ((zCY v hs hE dv hdv h12 r rt hr).mono (fun q hq=> ?_))
 subst hq
 have hfl:([o,l,zBO v dv r rt]:List (List (Ty.El zA))).flatten=o++(l++zBO v dv r rt):=by simp
 have hal:(o++(l++zBO v dv r rt)).length≤524288:=by simp only [List.length_append];omega
 have hc:v6 ([o,l,zBO v dv r rt],())=some (o++(l++zBO v dv r rt)):=by
  unfold v6
  simp only [hfl]
  rw [if_pos ⟨by omega,by simp⟩]
 refine zC (wD hc ?_)
 have hsame:=zOb ho2 (l++zBO v dv r rt)
 have hall: ∀x,x∈o++(l++zBO v dv r rt)→x.2.1=4∧RtS x:=by
  intro x hx
  rcases List.mem_append.1 hx with hx|hx
  ·obtain ⟨k,y,_,_,rfl⟩:=zOm ((zS2 ho2 x).2 hx)
   exact zSx rt y k
  ·rcases List.mem_append.1 hx with hx|hx
   ·exact h4 x hx
   ·exact zUo hx
 refine zC ((zIQ _ hal (fun x hx=>(hall x hx).2) (fun x y hx hy=>zGL x y (hall x hx).1 (hall y hy).1)).mono (fun t ht=>zB ?_))
 rw [ht]
 exact (zJN hsame).symm
end Go.Ve

namespace Go.Ve
open Go
set_option maxRecDepth 1000000
set_option maxHeartbeats 4000000
theorem zRc {a b:List (Ty.El zA)} (h:zAY (fun x:Ty.El zA=>x.1) a b):a.Perm b:=by
 classical
 rw [List.perm_iff_count]
 intro x
 have h1:w5 x.1 a=w5 x.1 b:=h x.1
 unfold w5 zIk at h1
 have e:=congrArg (List.count x) h1
 rwa [List.count_filter (by simp),List.count_filter (by simp)] at e
end Go.Ve

namespace Go.Ve
open Go
set_option maxRecDepth 1000000
set_option maxHeartbeats 4000000
def qZ (x:Ty.El zA):Int:=x.2.2.2.2.1
theorem zHQ {x:Ty.El zA} (hx:x.2.1=(4:Int)):(zBo x).1=qZ x:=by
 unfold zBo
 rw [hx]
 rfl
theorem zVQ {x y:Ty.El zA} (hx:x.2.1=(4:Int)) (hy:y.2.1=(4:Int)) (h:uW x y<0):qZ x≤qZ y:=by
 unfold uW zQt at h
 rw [zHQ hx,zHQ hy] at h
 rcases Int.lt_or_le (qZ y) (qZ x) with h1|h1
 ·rw [if_neg (by omega),if_pos h1] at h
  omega
 ·exact h1
theorem zVR {x y:Ty.El zA} (hx:x.2.1=(4:Int)) (hy:y.2.1=(4:Int)) (h: ¬uW x y<0):qZ y≤qZ x:=by
 unfold uW zQt at h
 rw [zHQ hx,zHQ hy] at h
 rcases Int.lt_or_le (qZ x) (qZ y) with h1|h1
 ·rw [if_pos h1] at h
  omega
 ·exact h1
theorem zJA: ∀ (l:List (Ty.El zA)) (c:Option (Ty.El zA)) (b:Ty.El zA),(∀x,x∈l→x.2.1=(4:Int))→(∀y,c=some y→y.2.1=(4:Int))→zFq c l=some b→
  (∀y,c=some y→qZ b≤qZ y)∧ ∀x,x∈l→qZ b≤qZ x
 |[],c,b,_,_,h=>⟨fun y hy=>by
   have h:c=some b:=h
   rw [hy] at h
   cases h
   exact Int.le_refl _,fun x hx=>by cases hx⟩
 |x::l,c,b,hl,hc,h=>by
  have h:zFq (bif zM5 x c then some x else c) l=some b:=h
  have hx:=hl x (by simp)
  cases hb:zM5 x c with
  |true=>
   rw [hb,cond_true] at h
   obtain ⟨h1,h2⟩:=zJA l (some x) b (fun y hy=>hl y (List.mem_cons_of_mem _ hy)) (fun y hy=>by cases hy;exact hx) h
   have h3:=h1 x rfl
   refine ⟨?_,?_⟩
   ·intro y hy
    subst hy
    have hb:decide (uW x y<0)=true:=hb
    have:=zVQ hx (hc y rfl) (by simpa using hb)
    omega
   ·intro y hy
    rcases List.mem_cons.1 hy with rfl|hy
    ·exact h3
    ·exact h2 y hy
  |false=>
   rw [hb,cond_false] at h
   obtain ⟨h1,h2⟩:=zJA l c b (fun y hy=>hl y (List.mem_cons_of_mem _ hy)) hc h
   refine ⟨h1,?_⟩
   intro y hy
   rcases List.mem_cons.1 hy with rfl|hy
   ·cases hcc:c with
    |none=>rw [hcc] at hb;cases hb
    |some z=>
     rw [hcc] at hb
     have hb:decide (uW y z<0)=false:=hb
     have h3:=zVR hx (hc z hcc) (by simpa using hb)
     have h4:=h1 z hcc
     omega
   ·exact h2 y hy
theorem zSz {l:List (Ty.El zA)} {p:Ty.El zF} {z:Ty.El zA} (h4: ∀x,x∈l→x.2.1=(4:Int)) (h:mrg l p=some z):
  z.1=p∧(∃x,x∈l∧x.1=p∧qZ x=qZ z)∧ ∀x,x∈l→x.1=p→qZ z≤qZ x:=by
 refine ⟨zDU h,?_⟩
 unfold mrg at h
 cases hb:zBc l p with
 |none=>rw [hb] at h;cases h
 |some b=>
  rw [hb] at h
  cases h
  obtain ⟨h1,h2⟩:=zQD hb
  refine ⟨⟨b,h1,h2,rfl⟩,?_⟩
  rw [zBb] at hb
  intro x hx hp
  exact (zJA _ none b (fun y hy=>h4 y (uM.1 hy).1) (fun y hy=>by cases hy) hb).2 x (uM.2 ⟨hx,hp⟩)
theorem zVT {l:List (Ty.El zA)} {x:Ty.El zA} (h:x∈l): ∃z,mrg l x.1=some z:=by
 obtain ⟨b,hb⟩:=zTK ((zDd l x.1).2 ⟨x,h,rfl⟩)
 exact ⟨zSp b (zCj l x.1 b),by unfold mrg;rw [hb];rfl⟩
theorem zOX {la lb:List (Ty.El zA)} (ha: ∀x,x∈la→x.2.1=(4:Int)∧1≤qZ x∧qZ x≤15) (hb: ∀x,x∈lb→x.2.1=(4:Int))
  (h1: ∀x,x∈la→ ∃y,y∈lb∧y.1=x.1∧qZ y≤qZ x)
  (h2: ∀y,y∈lb→(∃x,x∈la∧x.1=y.1∧qZ x-1≤qZ y)∨15≤qZ y) {z:Ty.El zA} (hz:z∈vC la):
  (1≤qZ z∧qZ z≤15)∧ ∃z',z'∈vC lb∧z'.1=z.1∧qZ z'≤qZ z∧qZ z-1≤qZ z':=by
 obtain ⟨p,_,hm⟩:=x9.1 hz
 obtain ⟨hp,⟨x,hx,hxp,hxm⟩,hmin⟩:=zSz (fun x hx=>(ha x hx).1) hm
 obtain ⟨y,hy,hyp,hym⟩:=h1 x hx
 obtain ⟨z',hz'⟩:=zVT hy
 obtain ⟨hp',⟨y',hy',hyp',hym'⟩,hmin'⟩:=zSz hb hz'
 have hbx:=(ha x hx).2
 refine ⟨by omega,z',x9.2 ⟨y.1,⟨y,hy,rfl⟩,hz'⟩,?_,?_,?_⟩
 ·rw [hp',hyp,hxp,hp]
 ·have:=hmin' y hy rfl
  omega
 ·rcases h2 y' hy' with ⟨x',hx',hxp',hxm'⟩|h15
  ·have:=hmin x' hx' (by rw [hxp',hyp',hyp,hxp])
   omega
  ·omega
def zH9 (x:Ty.El zA) (m:Int):Ty.El zA:=(x.1,x.2.1,x.2.2.1,x.2.2.2.1,m,x.2.2.2.2.2)
theorem zFH {v:Ty.El z6} {dv:List (List (Ty.El zA))} {rt:Ty.El zG} {i:Int} {e:Ty.El zO} {x x0:Ty.El zA} {q:Ty.El zG} {y:Ty.El qQ} {t:List (Ty.El zA)}
  (hq:v.1.1[Int.toNat e.1]? =some q) (hy:q.2.2.1[Int.toNat e.2.1]? =some y) (ht:dv[Int.toNat e.1]? =some t) (hp:uX v q y e.1 e.2.1=true) (hx0:x0∈t) (hf:zKd rt q y i x0=some x):x∈zGQ v dv rt i e:=by
 unfold zGQ
 rw [hq]
 simp only [hy,ht,hp,cond_true]
 exact List.mem_filterMap.2 ⟨x0,hx0,hf⟩
theorem zFG {v:Ty.El z6} {dv:List (List (Ty.El zA))} {r:Int} {rt:Ty.El zG} {x:Ty.El zA} {i:Nat} {z:Ty.El qQ} {e:Ty.El zO} (hz:rt.2.2.1[i]? =some z)
  (hp:uX v rt z r i=true) (he:e∈zMS v r i (fun e=>e.1 !=r||e.2.1 !=(i:Int))) (hx:x∈zGQ v dv rt i e):x∈zBO v dv r rt:=by
 unfold zBO
 refine List.mem_flatMap.2 ⟨i,by simpa using (List.getElem?_eq_some_iff.1 hz).1,?_⟩
 unfold zIU
 rw [hz]
 simp only [hp,cond_true]
 exact List.mem_flatMap.2 ⟨e,he,hx⟩
theorem zSv {rt q:Ty.El zG} {y:Ty.El qQ} {i:Int} {x0:Ty.El zA} (h1:x0.2.2.2.2.1< (15:Int)) (h2:zEl q q.2.2.2.2.2.2.2.2.2.1.2.2.2.1 x0.1=true) (h3:zEl rt rt.2.2.2.2.2.2.2.2.2.1.2.2.1 x0.1=true):
  zKd rt q y i x0=some (x0.1,(4:Int),(3:Int),rt.2.2.2.2.2.2.2.2.2.1.2.1,IntKind.wrap IntKind.i64 (x0.2.2.2.2.1+(1:Int)),(0:Int),x0.2.2.2.2.2.2.1,(0:Int),[],(0:Int),(0:Int),[(i,y.2.1,())],false,()):=by
 unfold zKd
 rw [h2,h3]
 have:decide (x0.2.2.2.2.1< (15:Int))=true:=by simpa using h1
 rw [this]
 rfl
section
variable {v:Ty.El z6} {dv:List (List (Ty.El zA))} {r:Int} {rt:Ty.El zG} {q k:Nat} {t:List (Ty.El zA)} {x0:Ty.El zA} {m:Int}
theorem zWT (hq:dv[q]? =some t) {u:Nat} {t':List (Ty.El zA)} (h:(dv.set q (t.set k (zH9 x0 m)))[u]? =some t') (hk:t[k]? =some x0) {y:Ty.El zA} (hy:y∈t'):
  ∃t1,dv[u]? =some t1∧(y∈t1∨(x0∈t1∧y=zH9 x0 m)):=by
 by_cases hu:q=u
 ·subst hu
  rw [List.getElem?_set_self (List.getElem?_eq_some_iff.1 hq).1] at h
  cases h
  refine ⟨t,hq,?_⟩
  rcases List.mem_or_eq_of_mem_set hy with h|h
  ·exact .inl h
  ·exact .inr ⟨List.mem_of_getElem? hk,h⟩
 ·rw [List.getElem?_set_ne hu] at h
  exact ⟨t',h, .inl hy⟩
theorem zWS (hq:dv[q]? =some t) (hk:t[k]? =some x0) {u:Nat} {t1:List (Ty.El zA)} (h:dv[u]? =some t1) {y:Ty.El zA} (hy:y∈t1):
  ∃t',(dv.set q (t.set k (zH9 x0 m)))[u]? =some t'∧(y∈t'∨(y=x0∧zH9 x0 m∈t')):=by
 by_cases hu:q=u
 ·subst hu
  rw [hq] at h
  cases h
  refine ⟨t.set k (zH9 x0 m),List.getElem?_set_self (List.getElem?_eq_some_iff.1 hq).1,?_⟩
  obtain ⟨i,hi,rfl⟩:=List.getElem_of_mem hy
  have hkl:=(List.getElem?_eq_some_iff.1 hk).1
  by_cases hki:k=i
  ·subst hki
   refine .inr ⟨?_,List.mem_of_getElem? (List.getElem?_set_self hkl)⟩
   have:=(List.getElem?_eq_some_iff.1 hk).2
   exact this
  ·refine .inl (List.mem_of_getElem? (i:=i) ?_)
   rw [List.getElem?_set_ne hki]
   simp
 ·refine ⟨t1,?_, .inl hy⟩
  rw [List.getElem?_set_ne hu];exact h
theorem zRZ (hd: ∀t,t∈dv→ ∀x,x∈t→1≤qZ x∧qZ x≤15) (hq:dv[q]? =some t) (hk:t[k]? =some x0) (hm:m=qZ x0-1) (h2:2≤qZ x0):
  (∀x,x∈zBO v dv r rt→(1≤qZ x∧qZ x≤15)∧ ∃y,y∈zBO v (dv.set q (t.set k (zH9 x0 m))) r rt∧y.1=x.1∧qZ y≤qZ x)∧
  ∀y,y∈zBO v (dv.set q (t.set k (zH9 x0 m))) r rt→(∃x,x∈zBO v dv r rt∧x.1=y.1∧qZ x-1≤qZ y)∨15≤qZ y:=by
 have hx0:=hd t (List.mem_of_getElem? hq) x0 (List.mem_of_getElem? hk)
 have hw: ∀n:Int,1≤n→n≤15→IntKind.wrap IntKind.i64 (n+(1:Int))=n+1:=fun n _ _=>zD (by omega) (by omega)
 have hlow:qZ (zH9 x0 m)=m:=rfl
 constructor
 ·intro x hx
  obtain ⟨i,z,e,hz,hp,he,hxe⟩:=zLE hx
  obtain ⟨qr,y,t1,w,hqr,hy,ht1,hpq,hwt,hf⟩:=zLF hxe
  obtain ⟨f1,f2,f3,f4⟩:=zIV hf
  have hmw:1≤qZ w∧qZ w≤15:=hd t1 (List.mem_of_getElem? ht1) w hwt
  have hmx:qZ x=qZ w+1:=by rw [f4];exact hw _ hmw.1 hmw.2
  have f1':qZ w<15:=f1
  refine ⟨by omega,?_⟩
  obtain ⟨t',ht',hc⟩:=zWS (m:=m) hq hk ht1 hwt
  rcases hc with hc|⟨rfl,hc⟩
  ·exact ⟨x,zFG hz hp he (zFH hqr hy ht' hpq hc hf),rfl,Int.le_refl _⟩
  ·have hf':=zSv (rt:=rt) (q:=qr) (y:=y) (i:=(i:Int)) (x0:=zH9 w m) (by show qZ (zH9 w m)<15;omega) f2 f3
   refine ⟨_,zFG hz hp he (zFH hqr hy ht' hpq hc hf'),?_,?_⟩
   ·rw [f4];rfl
   ·have:IntKind.wrap IntKind.i64 (m+(1:Int))=m+1:=hw m (by omega) (by omega)
    show IntKind.wrap IntKind.i64 (m+(1:Int))≤_
    omega
 ·intro x hx
  obtain ⟨i,z,e,hz,hp,he,hxe⟩:=zLE hx
  obtain ⟨qr,y,t',w,hqr,hy,ht',hpq,hwt,hf⟩:=zLF hxe
  obtain ⟨f1,f2,f3,f4⟩:=zIV hf
  obtain ⟨t1,ht1,hc⟩:=zWT hq ht' hk hwt
  rcases hc with hc|⟨hc,rfl⟩
  ·exact .inl ⟨x,zFG hz hp he (zFH hqr hy ht1 hpq hc hf),rfl,by omega⟩
  ·have hmx:qZ x=m+1:=by rw [f4];exact hw m (by omega) (by omega)
   rcases Int.lt_or_le (qZ x0) 15 with h15|h15
   ·have hf':=zSv (rt:=rt) (q:=qr) (y:=y) (i:=(i:Int)) (x0:=x0) h15 f2 f3
    refine .inl ⟨_,zFG hz hp he (zFH hqr hy ht1 hpq hc hf'),?_,?_⟩
    ·rw [f4];rfl
    ·have:IntKind.wrap IntKind.i64 (qZ x0+(1:Int))=qZ x0+1:=hw _ hx0.1 hx0.2
     show IntKind.wrap IntKind.i64 (qZ x0+(1:Int)) -1≤_
     omega
   ·exact .inr (by omega)
theorem zOW (hd: ∀t,t∈dv→ ∀x,x∈t→1≤qZ x∧qZ x≤15) (hq:dv[q]? =some t) (hk:t[k]? =some x0) (hm:m=qZ x0-1) (h2:2≤qZ x0) {z:Ty.El zA} (hz:z∈vC (zM6 v dv [] r rt)):
  (1≤qZ z∧qZ z≤15)∧ ∃z',z'∈vC (zM6 v (dv.set q (t.set k (zH9 x0 m))) [] r rt)∧z'.1=z.1∧qZ z'≤qZ z∧qZ z-1≤qZ z':=by
 obtain ⟨g1,g2⟩:=zRZ (v:=v) (r:=r) (rt:=rt) hd hq hk hm h2
 have ok4: ∀ (dv:List (List (Ty.El zA))) x,x∈zM6 v dv [] r rt→x.2.1=(4:Int):=by
  intro dv x hx
  unfold zM6 at hx
  rcases List.mem_append.1 hx with hx|hx
  ·obtain ⟨k,y,_,_,rfl⟩:=zOm hx
   exact (zSx rt y k).1
  ·rcases List.mem_append.1 hx with hx|hx
   ·cases hx
   ·exact (zUo hx).1
 have own: ∀x,x∈zOn v r rt→qZ x=1:=by
  intro x hx
  obtain ⟨k,y,_,_,rfl⟩:=zOm hx
  rfl
 refine zOX (fun x hx=>⟨ok4 _ x hx,?_⟩) (ok4 _) (fun x hx=> ?_) (fun y hy=> ?_) hz
 ·rcases List.mem_append.1 hx with hx|hx
  ·have:=own x hx;omega
  ·exact (g1 x (by simpa using hx)).1
 ·rcases List.mem_append.1 hx with hx|hx
  ·exact ⟨x,List.mem_append.2 (.inl hx),rfl,Int.le_refl _⟩
  ·obtain ⟨y,hy,h3,h4⟩:=(g1 x (by simpa using hx)).2
   exact ⟨y,List.mem_append.2 (.inr (by simpa using hy)),h3,h4⟩
 ·rcases List.mem_append.1 hy with hy|hy
  ·exact .inl ⟨y,List.mem_append.2 (.inl hy),rfl,by omega⟩
  ·rcases g2 y (by simpa using hy) with ⟨x,hx,h3,h4⟩|h
   ·exact .inl ⟨x,List.mem_append.2 (.inr (by simpa using hx)),h3,h4⟩
   ·exact .inr h
end
end Go.Ve

namespace Go.Ve
open Go
set_option maxRecDepth 1000000
set_option maxHeartbeats 4000000
theorem zRo {l:List (Ty.El zA)} {x y:Ty.El zA} (hx:x∈vC l) (hy:y∈vC l) (h:y.1=x.1):y=x:=by
 obtain ⟨p,_,h1⟩:=x9.1 hx
 obtain ⟨q,_,h2⟩:=x9.1 hy
 have e1:=zDU h1
 have e2:=zDU h2
 have:q=p:=by rw [←e2, ←e1,h]
 subst this
 rw [h1] at h2
 exact (Option.some.inj h2).symm
theorem zSO {α:Type} {n:Nat} {xs:List α} (h:(2*xs.length+1024)*n≤140737488355328):app n [] xs=some xs:=by
 unfold app
 rw [if_pos (by simpa using h)]
 rfl
theorem zLI (n:Ty.El zV) (d:List Int) (dv:List (List (Ty.El zA))) (a4 a5:Int) (hdv: ∀t,t∈dv→ ∀y,y∈t→RtS y):Wp (yT (n,d,dv,a4,a5,())) (fun b=>b=true):=by
 unfold yT
 dsimp only
 refine zC ((zK3 n d).mono (fun y0 hy0=> ?_))
 refine zC ((show Wp _ (fun s:Bool=>s=false→zHm n d y0.1∧zSQ n.1.length dv∧0≤a4∧ ∃t x,dv[Int.toNat a4]? =some t∧0≤a5∧t[Int.toNat a5]? =some x∧2≤qZ x) from ?_).mono (fun s hs=> ?_))
 ·refine zH (fun h=>zB (fun h=>by cases h)) (fun h1=> ?_)
  have hv:=hy0 (by simpa using h1)
  refine zC ((zTF y0.1 dv hdv hv.s.rs).mono (fun b hb=> ?_))
  refine zH (fun h=>zB (fun h=>by cases h)) (fun h2=> ?_)
  have hR:=hb (by simpa using h2)
  rw [hv.net] at hR
  refine zI (fun _=>zB (fun h=>by cases h)) (fun h3=> ?_)
  refine zI (fun _=>zB (fun h=>by cases h)) (fun h4=> ?_)
  refine zI (fun _=>zB (fun h=>by cases h)) (fun h5=> ?_)
  have q0:0≤a4:=by have h3: ¬a4<0:=h3;omega
  have q1:a4< (dv.length:Int):=by have h4: ¬a4≥(dv.length:Int):=h4;omega
  have k0:0≤a5:=by have h5: ¬a5<0:=h5;omega
  obtain ⟨t,ht⟩: ∃t,dv[Int.toNat a4]? =some t:=⟨_,List.getElem?_eq_getElem (by omega)⟩
  simp only [jN ht q0,Option.bind_some]
  refine zI (fun _=>zB (fun h=>by cases h)) (fun h6=> ?_)
  have k1:a5< (t.length:Int):=by have h6: ¬a5≥(t.length:Int):=h6;omega
  obtain ⟨x,hx⟩: ∃x,t[Int.toNat a5]? =some x:=⟨_,List.getElem?_eq_getElem (by omega)⟩
  simp only [jN hx k0,Option.bind_some]
  refine zH (fun _=>zB (fun h=>by cases h)) (fun _=>zB (fun h=>⟨hv,hR,q0,t,x,ht,k0,hx,?_⟩))
  have h: ¬qZ x<2:=of_decide_eq_false h
  omega
 refine zH (fun h=>zB rfl) (fun h=> ?_)
 obtain ⟨hv,hR,q0,t,x,ht,k0,hx,hm2⟩:=hs h
 have hlen:=hR.len
 have hrs:=hv.rs
 have hS:=hv.s
 have h12: ∀t,t∈dv→t.length≤12:=fun t ht=>(hR.one t ht).1
 have htm:=List.mem_of_getElem? ht
 have htl:=h12 t htm
 have hxt:=(List.getElem?_eq_some_iff.1 hx).1
 have hmet: ∀t,t∈dv→ ∀x,x∈t→1≤qZ x∧qZ x≤15:=fun t ht x hx=>((hR.one t ht).2.2 x hx).met
 have hmx:=hmet t htm x (List.mem_of_getElem? hx)
 have e1:app 24 [] dv=some dv:=zSO (by omega)
 have e2:app 136 [] t=some t:=zSO (by omega)
 have e3:atN t (Int.toNat a5)=some x:=hx
 have e4:(!t.isEmpty)=true:=by
  cases t with
  |nil=>simp at hxt
  |cons a l=>rfl
 have e5:IntKind.wrap IntKind.i64 (x.2.2.2.2.1- (1:Int))=qZ x-1:=zD (by have:=hmx.1;unfold qZ at this;omega) (by have:=hmx.2;unfold qZ at this;omega)
 refine zC (wD e1 ?_)
 simp only [jN ht q0,Option.bind_some]
 refine zC (wD e2 ?_)
 simp only [e4,cond_true,decide_true,jN hx k0,e3,Option.bind_some]
 have hless:(dv.set (Int.toNat a4) (t.set (Int.toNat a5) (zH9 x (IntKind.wrap IntKind.i64 (x.2.2.2.2.1- (1:Int)))))).length=dv.length:=by simp
 have hl12: ∀u,u∈dv.set (Int.toNat a4) (t.set (Int.toNat a5) (zH9 x (IntKind.wrap IntKind.i64 (x.2.2.2.2.1- (1:Int)))))→u.length≤12:=by
  intro u hu
  rcases List.mem_or_eq_of_mem_set hu with hu|hu
  ·exact h12 u hu
  ·rw [hu,List.length_set];exact htl
 refine zIJ (P:=fun _=>True) (by omega) ?_ (fun _=>zC (wD rfl (zB rfl)))
 intro r t0 hr0
 have hrl:=(List.getElem?_eq_some_iff.1 hr0).1
 have hrn:n.1[r]? =some (n.1[r]'(by omega)):=by simp
 generalize (n.1[r]'(by omega))=rt at hrn
 have hr:y0.1.1.1[r]? =some rt:=by rw [hv.net];exact hrn
 have hsm:=hS.sm rt (List.mem_of_getElem? hr)
 have hil:rt.2.2.1.length≤20:=hsm.i1
 have hol:=zLl y0.1 r rt
 have hql:=zPH hS (dv:=dv) (r:=r) (rt:=rt) h12 hil
 have hql':=zPH hS (dv:=dv.set (Int.toNat a4) (t.set (Int.toNat a5) (zH9 x (IntKind.wrap IntKind.i64 (x.2.2.2.2.1- (1:Int)))))) (r:=r) (rt:=rt) hl12 hil
 have hdv2:dv.length=y0.1.1.1.length:=by rw [hv.net];exact hlen
 have hE: ∀ (r i:Int) (e:Ty.El zO),upB y0.1 r i=true→e∈zA9 y0.1 r i→(0:Int)≤e.1∧(0:Int)≤e.2.1∧ ∃q y,y0.1.1.1[Int.toNat e.1]? =some q∧q.2.2.1[Int.toNat e.2.1]? =some y:=by
  intro r i e hu he
  obtain ⟨e0,e1,q,y,e2,e3,_⟩:=zW8 hv hu he
  exact ⟨e0,e1,q,y,e2,e3⟩
 refine qT (zC ((uN y0.1 hS hE dv hdv2 h12 [] (by simp) (fun x hx=>by cases hx) r rt hr (by omega)).mono (fun ta hta=> ?_)))
 refine zC ((uN y0.1 hS hE _ (hless.trans hdv2) hl12 [] (by simp) (fun x hx=>by cases hx) r rt hr (by omega)).mono (fun tb htb=> ?_))
 have lenA: ∀dv,(zBO y0.1 dv r rt).length≤86400→(bif rt.2.2.2.2.2.2.2.2.2.1.1 then vC (zM6 y0.1 dv [] r rt) else []).length≤90000:=by
  intro dv h
  cases rt.2.2.2.2.2.2.2.2.2.1.1 with
  |false=>exact Nat.zero_le _
  |true=>
   have h1:=zLD (zM6 y0.1 dv [] r rt)
   have h2:(zM6 y0.1 dv [] r rt).length≤90000:=by unfold zM6;simp only [List.length_append,List.length_nil];omega
   exact Nat.le_trans h1 h2
 have hta':ta.length≤90000:=by rw [hta];exact lenA _ hql
 have htb':tb.length≤90000:=by rw [htb];exact lenA _ hql'
 refine zVx (P:=fun _=>True) (by omega) ?_ (fun _=>e2l (zB (e2l ⟨rfl,trivial⟩)))
 intro i z hz
 have hzm:=List.mem_of_getElem? hz
 cases hon:rt.2.2.2.2.2.2.2.2.2.1.1 with
 |false=>rw [hta,hon] at hzm;cases hzm
 |true=>
  rw [hta,hon,cond_true] at hzm
  rw [hon,cond_true] at htb
  obtain ⟨hzb,z',hz',hp,hle,hge⟩:=zOW (v:=y0.1) (r:=r) (rt:=rt) hmet ht hx e5 hm2 hzm
  rw [←htb] at hz'
  have hone: ∀y,y∈tb→y.1=z'.1→y=z':=by
   intro y hy he
   rw [htb] at hy hz'
   exact zRo hz' hy he
  obtain ⟨f0,f1⟩:=zV8 hz' hone
  rw [hp] at f0 f1
  simp only [zT hz,Option.bind_some]
  refine zC ((zKa tb z.1 (by omega)).mono (fun f hf=> ?_))
  rw [←hf] at f0 f1
  refine zC ((show Wp _ (fun s:Bool=>s=false) from ?_).mono (fun s hs=> ?_))
  ·refine zI (fun h=>absurd f0 (by have h:f<0:=h;omega)) (fun _=> ?_)
   simp only [jN f1 f0,Option.bind_some]
   refine zI (fun h=> ?_) (fun _=>zB ?_)
   ·have h:qZ z'>qZ z:=h
    omega
   ·have hw:IntKind.wrap IntKind.i64 (z.2.2.2.2.1- (1:Int))=qZ z-1:=zD (by have:=hzb.1;unfold qZ at this;omega) (by have:=hzb.2;unfold qZ at this;omega)
    rw [hw]
    exact decide_eq_false (show ¬qZ z'<qZ z-1 by omega)
  subst hs
  exact ff rfl (zB (e2l ⟨rfl,trivial⟩))
theorem zFs: ∀x:ElS [zV, .sl tI, .sl (.sl zA),tI,tI],zSF 1048576 [zV, .sl tI, .sl (.sl zA),tI,tI] x→yT x=some true:=by
 rintro ⟨n,d,dv,a,b,⟨⟩⟩ ⟨_,_,⟨h1,h2⟩,_⟩
 exact u4 (zLI n d dv a b (fun t ht y hy=>zS3 ((h2 t ht).2 y hy)))
end Go.Ve

namespace Go.Ve
open Go
set_option maxRecDepth 1000000
set_option maxHeartbeats 4000000
def ifS (nm:ByteArray) (a:Int) (dv:Bool):Ty.El qQ:=(nm,a,24,0,false,false,0,0,dv,⟨#[]⟩,⟨#[]⟩,0,())
def rtS (nm:ByteArray) (sy:Int) (ifs:List (Ty.El qQ)) (dv:Ty.El tDV) (pv:Ty.El tPV):Ty.El zG:=(nm,sy,ifs,[],[],[],[],[],(false,0,[],[],()),dv,pv,())
def zXz:Ty.El tDV:=(true,120,⟨#[]⟩,⟨#[]⟩,[],())
def zXq:Ty.El tPV:=(false,0,0,[],[],[],[],[],())
def zUp:Ty.El zG:=rtS ⟨#[97]⟩ 0 [ifS ⟨#[101,48]⟩ 167772161 true] zXz zXq
def zWK:Ty.El zG:=rtS ⟨#[98]⟩ 0 [ifS ⟨#[101,48]⟩ 167772162 true,ifS ⟨#[101,49]⟩ 167772418 true] zXz zXq
def zWM:Ty.El zV:=([zUp,zWK],())
def zWD:Ty.El zHA:=([((167772160,24,()),0,[(0,0,()),(1,0,())],()),((167772416,24,()),0,[(1,1,())],())],[0],())
def zAs:Ty.El z6:=(zWM,zWD,[],())
def zVK (p:Int) (cl me:Int) (h:Ty.El jJ):Ty.El zA:=((p,24,()),4,cl,120,me,0,0,0,[],0,0,[h],false,())
def o17:List (Ty.El zA):=[zVK 167772160 1 1 (0,0,()),zVK 167772416 1 1 (1,0,())]
def t17:List (Ty.El zA):=[zVK 167772160 1 1 (0,0,()),zVK 167772416 3 2 (0,167772162,())]
theorem zT7 {nm:ByteArray} {sy:Int} {ifs:List (Ty.El qQ)} {dv:Ty.El tDV} {pv:Ty.El tPV} (h1:ifs.length≤20) (h2:dv.2.2.2.2.1.length≤20) (h3:pv.2.2.2.1.length≤20) (h4:pv.2.2.2.2.1.length≤20) (h5:pv.2.2.2.2.2.1.length≤20) (h6:pv.2.2.2.2.2.2.1.length≤20) (h7:pv.2.2.2.2.2.2.2.1.length≤20):SmR (rtS nm sy ifs dv pv) where
 i1:=h1
 i2:=Nat.zero_le _
 i3:=Nat.zero_le _
 i4:=Nat.zero_le _
 i5:=Nat.zero_le _
 i6:=Nat.zero_le _
 i7:=Nat.zero_le _
 i8:=Nat.zero_le _
 i9:=h2
 i10:=h3
 i11:=h4
 i12:=h5
 i13:=h6
 i14:=h7
 n1:=fun y hy=>by cases hy
 n2:=fun y hy=>by cases hy
 n3:=fun y hy=>by cases hy
theorem zSh:zCQ zAs where
 rs:=by decide
 sm:=fun y hy=>by
  rcases List.mem_cons.1 hy with rfl|hy
  ·exact zT7 (by decide) (by decide) (by decide) (by decide) (by decide) (by decide) (by decide)
  ·rcases List.mem_cons.1 hy with rfl|hy
   ·exact zT7 (by decide) (by decide) (by decide) (by decide) (by decide) (by decide) (by decide)
   ·cases hy
 doms:=by decide
 ends := fun d hd => by
  rcases List.mem_cons.1 hd with rfl|hd
  ·decide
  ·rcases List.mem_cons.1 hd with rfl|hd
   ·decide
   ·cases hd
 links:=by decide
 link0:=fun l hl=>by
  rcases List.mem_cons.1 hl with rfl|hl
  ·decide
  ·cases hl
 down:=by decide
 down0:=fun l hl=>by cases hl
theorem zW6 (r i:Int) (e:Ty.El zO) (_:upB zAs r i=true) (he:e∈zA9 zAs r i):(0:Int)≤e.1∧(0:Int)≤e.2.1∧ ∃q y,zAs.1.1[Int.toNat e.1]? =some q∧q.2.2.1[Int.toNat e.2.1]? =some y:=by
 unfold zA9 at he
 split at he
 ·rename_i d hd
  have hd:=List.mem_of_getElem? hd
  rcases List.mem_cons.1 hd with rfl|hd
  ·rcases List.mem_cons.1 he with rfl|he
   ·exact ⟨by decide,by decide,_,_,rfl,rfl⟩
   ·rcases List.mem_cons.1 he with rfl|he
    ·exact ⟨by decide,by decide,_,_,rfl,rfl⟩
    ·cases he
  ·rcases List.mem_cons.1 hd with rfl|hd
   ·rcases List.mem_cons.1 he with rfl|he
    ·exact ⟨by decide,by decide,_,_,rfl,rfl⟩
    ·cases he
   ·cases hd
 ·cases he
theorem zWP:zOn zAs 1 zWK=o17:=by kernel_rfl
theorem zXs:yK (zAs,1,())=some o17:=by
 refine u4 ((zBF zAs 1 zWK zSh rfl).mono (fun o ho=> ?_))
 obtain ⟨_,h2,h3⟩:=ho
 have h4:zAY (fun x:Ty.El zA=>x.1) o17 o:=by rw [←zWP];exact h2
 have hp:=zRc h4
 have ha:o17.Pairwise (fun x y=>x.1≠y.1):=by
  refine List.pairwise_cons.2 ⟨fun y hy=> ?_,List.pairwise_cons.2 ⟨(fun y hy=>by cases hy),List.Pairwise.nil⟩⟩
  rcases List.mem_cons.1 hy with rfl|hy
  ·intro h
   exact absurd (congrArg Prod.fst h) (by decide)
  ·cases hy
 have hs:o17.Pairwise rlt:=by
  refine List.pairwise_cons.2 ⟨fun y hy=> ?_,List.pairwise_cons.2 ⟨(fun y hy=>by cases hy),List.Pairwise.nil⟩⟩
  rcases List.mem_cons.1 hy with rfl|hy
  ·exact .inl (by decide)
  ·cases hy
 exact zA3 zOh (zPK hp.symm h3 ha) hs (fun z=>hp.symm.mem_iff)
theorem zVV:vC (zM6 zAs [[],o17] [] 0 zUp)=t17:=by kernel_rfl
theorem zXp:(zBO zAs [[],o17] 0 zUp).length=2:=by kernel_rfl
theorem zVC:w3 (zAs,[[],o17],[],0,())=some t17:=by
 refine u4 ((uN zAs zSh zW6 [[],o17] rfl ?_ [] (by decide) (fun x hx=>by cases hx) 0 zUp rfl ?_).mono (fun t ht=> ?_))
 ·intro t ht
  rcases List.mem_cons.1 ht with rfl|ht
  ·decide
  ·rcases List.mem_cons.1 ht with rfl|ht
   ·decide
   ·cases ht
 ·have:=zXp
  show (zBO zAs [[],o17] 0 zUp).length≤_
  omega
 ·rw [ht];exact zVV
end Go.Ve

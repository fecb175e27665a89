/-
  Plain laws: the path-vector table is a table, and it prefers what the router originates: PathOwn.
  Plain laws: the fixed network of distance-vector routing; DistTables.
  Plain laws: the fixed network of path-vector routing.
-/
import Derived.KernelRfl
import Derived.Test.YtcnlcmbchljpgaaGreatPo21
set_option linter.unusedVariables false
namespace Go.Ve
open Go
set_option maxRecDepth 1000000
set_option maxHeartbeats 4000000
structure zZS (t:Ty.El zT):Prop where
 r:zYI t
 pv: ∀y,y∈t.2.2.1→PvR y
 rib: ∀y,y∈t.2.2.2.1→vB y.1=true
theorem zQL {n:Ty.El zQ} {d:List Int} {v:Ty.El zR} (hv:xX n d v) (hM:zHj v) {s:List (Ty.El zT)} (hs: ∀t,t∈s→zZS t) {r:Nat} (hr:r<v.1.1.length) {x:Ty.El zB} (hx:x∈zDF v s r):
  PvV x∧(x.2.2.1=3∨x.2.2.1=4)∧ ∃ (i qn kn:Nat) (q:Ty.El zF) (y:Ty.El qG),upB v r i=true∧(((qn:Int),(kn:Int),()):Ty.El zO)∈vQ v r i∧v.1.1[qn]? =some q∧q.2.2.1[kn]? =some y∧y.2.2.1≠0∧
   y.2.1=x.2.2.2.2.2.2.2.2.2.1∧x.2.2.2.2.2.2.2.2.2.2.2.1=[((i:Int),x.2.2.2.2.2.2.2.2.2.1,())]:=by
 obtain ⟨w,hw,hx⟩:=List.mem_flatMap.1 hx
 have hto:=zY3 hw
 obtain ⟨r',i,rt,z,e,q,y,hrt,hz,hon,he,hq,hy,hb,rfl⟩:=zSu.1 (zNx hr hw)
 have hrr:(r':Int)=(r:Int):=hto
 have hrr:r'=r:=by omega
 subst hrr
 obtain ⟨u1,u2,u3⟩:=zQS he
 obtain ⟨b0,b1,q',y',g1,g2,g3⟩:=zYq hv u1 u2
 obtain ⟨e1,e2,⟨⟩⟩:=e
 obtain ⟨qn,rfl⟩:=Int.eq_ofNat_of_zero_le (show (0:Int)≤e1 from b0)
 obtain ⟨kn,rfl⟩:=Int.eq_ofNat_of_zero_le (show (0:Int)≤e2 from b1)
 have hq:v.1.1[qn]? =some q:=hq
 have hy:q.2.2.1[kn]? =some y:=hy
 have g1:v.1.1[qn]? =some q':=g1
 have g2:q'.2.2.1[kn]? =some y':=g2
 rw [hq] at g1
 cases g1
 rw [hy] at g2
 cases g2
 have hadr:y.2.1≠0:=((zFB hv).rt q (by rw [←hv.net];exact List.mem_of_getElem? hq)).ifs kn y hy|>.addr g3
 have hqon:q.2.2.2.2.2.2.2.2.2.2.1.1=true:=by
  unfold zR4 at hb
  simp only [Bool.and_eq_true] at hb
  exact hb.1
 have hCq:=zTY ((zFB hv).rt q (by rw [←hv.net];exact List.mem_of_getElem? hq)) (hv.s.sm q (List.mem_of_getElem? hq)) hqon
 have hCr:=zTY ((zFB hv).rt rt (by rw [←hv.net];exact List.mem_of_getElem? hrt)) (hv.s.sm rt (List.mem_of_getElem? hrt)) hon
 have hmq:=hM.maps q (List.mem_of_getElem? hq)
 have hmr:=hM.maps rt (List.mem_of_getElem? hrt)
 have hx:x∈zGM v (zGk s (qn:Int)) ((qn:Int),(kn:Int),(r':Int),(i:Int),q.2.1==rt.2.1,()):=hx
 rw [zQM hq hy hrt hz] at hx
 obtain ⟨x0,hx0,hx⟩:=List.mem_filterMap.1 hx
 obtain ⟨m,h1,h2⟩:=Option.bind_eq_some_iff.1 hx
 have hP:PvR x0:=by
  unfold zGk at hx0
  split at hx0
  ·rename_i t ht
   exact (hs t (List.mem_of_getElem? ht)).pv x0 hx0
  ·cases hx0
 obtain ⟨p1,p2,p3,p4⟩:=zWe hmr hCr hadr (Int.natCast_nonneg i) (zWm hmq hCq hP h1) h2
 refine ⟨p1,p4,i,qn,kn,q,y,u1,u2,hq,hy,g3,p2.symm,?_⟩
 rw [p3,p2]
theorem zZd {n:Ty.El zQ} {d:List Int} {v:Ty.El zR} (hv:xX n d v) (hM:zHj v) {s:List (Ty.El zT)} (hs: ∀t,t∈s→zZS t) {r:Nat} (hr:r<v.1.1.length) {x x':Ty.El zB} (hx:x∈zDF v s r) (hx':x'∈zDF v s r)
  (h:x.2.2.2.2.2.2.2.2.2.1=x'.2.2.2.2.2.2.2.2.2.1):x.2.2.2.2.2.2.2.2.2.2.2.1=x'.2.2.2.2.2.2.2.2.2.2.2.1:=by
 obtain ⟨_,_,i,qn,kn,q,y,u1,u2,a1,a2,a3,a4,a5⟩:=zQL hv hM hs hr hx
 obtain ⟨_,_,i',qn',kn',q',y',w1,w2,c1,c2,c3,c4,c5⟩:=zQL hv hM hs hr hx'
 obtain ⟨e1,e2⟩:=zZQ hv a1 a2 a3 c1 c2 c3 (by rw [a4,c4,h])
 subst e1
 subst e2
 have h1:=zQh hv u1 u2
 have h2:=zQh hv w1 w2
 have h3:vQ v (r:Int) (i:Int)=vQ v (r:Int) (i':Int):=h1.symm.trans h2
 have ho:=zSY w1
 rw [←h3] at ho
 have:=zQi hv u1 ho rfl
 have hi:(i':Int)=(i:Int):=this
 rw [a5,c5,h,hi]
theorem zTO {l:List (Ty.El qP)} {h:Ty.El qP} (hs:l.Pairwise hlt) (hm: ∀x,x∈l↔x=h):l=[h]:=by
 match l,hs,hm with
 |[],_,hm=>have:=(hm h).2 rfl;cases this
 |[a],_,hm=>rw [(hm a).1 (by simp)]
 |a::b::l,hs,hm=>
  have ha:=(hm a).1 (by simp)
  have hb:=(hm b).1 (by simp)
  have hlt':=(List.pairwise_cons.1 hs).1 b (by simp)
  rw [ha,hb] at hlt'
  exfalso
  unfold hlt zD1 at hlt'
  omega
theorem zSs {n:Ty.El zQ} {d:List Int} {v:Ty.El zR} (hv:xX n d v) (hM:zHj v) {s:List (Ty.El zT)} (hs: ∀t,t∈s→zZS t) {r:Nat} {rt:Ty.El zF} {t:Ty.El zT} (hr:v.1.1[r]? =some rt) (ht:s[r]? =some t) (hon:rt.2.2.2.2.2.2.2.2.2.2.1.1=true)
  {z:Ty.El zB} (hz:z∈zAj (kR v t r rt++zDF v s r)):PvV z∧(∀x,x∈kR v t r rt→x.1=z.1→z.2.2.1≤x.2.2.1):=by
 have hrl:=(List.getElem?_eq_some_iff.1 hr).1
 have hC:=zTY ((zFB hv).rt rt (by rw [←hv.net];exact List.mem_of_getElem? hr)) (hv.s.sm rt (List.mem_of_getElem? hr)) hon
 have hm:=hM.maps rt (List.mem_of_getElem? hr)
 have hT:=hs t (List.mem_of_getElem? ht)
 have hloc: ∀x,x∈kR v t r rt→PvV x∧PvS x∧(x.2.2.1=1∨x.2.2.1=2):=fun x hx=>⟨(zL8 hm hC hT.rib hx).1,(zSw hx).1,(zL8 hm hC hT.rib hx).2⟩
 have hrec: ∀x,x∈zDF v s r→PvV x∧PvS x∧(x.2.2.1=3∨x.2.2.1=4):=fun x hx=>⟨(zQL hv hM hs hrl hx).1,(zVi hM (fun t ht=>(hs t ht).r) hrl hx).1,(zQL hv hM hs hrl hx).2.1⟩
 have hall: ∀x,x∈kR v t r rt++zDF v s r→PvV x∧PvS x:=fun x hx=>by
  rcases List.mem_append.1 hx with hx|hx
  ·exact ⟨(hloc x hx).1,(hloc x hx).2.1⟩
  ·exact ⟨(hrec x hx).1,(hrec x hx).2.1⟩
 generalize hl:kR v t r rt++zDF v s r=l at hz hall
 obtain ⟨p,_,hmz⟩:=zDK.1 hz
 have hzp:=zHy hmz
 unfold mrg at hmz
 cases hb:zCu l p with
 |none=>rw [hb] at hmz;cases hmz
 |some b=>
  rw [hb] at hmz
  have hmz:zM3 b (zCq l p b)=z:=Option.some.inj hmz
  obtain ⟨hbl,hbp⟩:=zTk hb
  obtain ⟨hbV,hbS⟩:=hall b hbl
  have hcls:z.2.2.1=b.2.2.1:=by rw [←hmz];rfl
  refine ⟨?_,fun x hx hxz=> ?_⟩
  ·have hmem:=zCp l p b
   have hsor:=xT l p b
   have hhops:zCq l p b=b.2.2.2.2.2.2.2.2.2.2.2.1:=by
    rcases hbV.kind with ⟨k1,_,_,k4,_⟩|⟨k1,k2,⟨i,k3,k4⟩,k5⟩
    ·rw [k4]
     refine List.eq_nil_iff_forall_not_mem.2 (fun h hh=> ?_)
     obtain ⟨x,hxl,_,hxb,hxh⟩:=(hmem h).1 hh
     obtain ⟨hxV,hxS⟩:=hall x hxl
     have hc:=(zPR hxS hbS hxb).1
     rcases hxV.kind with ⟨_,_,_,j4,_⟩|⟨j1,_⟩
     ·rw [j4] at hxh;cases hxh
     ·have hx34:x.2.2.1=3∨x.2.2.1=4:=by
       rcases j1 with ⟨j1,_⟩|j1
       ·exact .inl j1
       ·exact .inr j1
      have aux: ∀a:Int,(a=1∨a=2)→(a=3∨a=4)→False:=fun a h1 h2=>by omega
      exact aux b.2.2.1 k1 (by rw [←hc];exact hx34)
    ·rw [k4]
     have hb34:b.2.2.1=3∨b.2.2.1=4:=by
      rcases k1 with ⟨k1,_⟩|k1
      ·exact .inl k1
      ·exact .inr k1
     have aux: ∀a:Int,(a=1∨a=2)→(a=3∨a=4)→False:=fun a h1 h2=>by omega
     have hbrec:b∈zDF v s r:=by
      rw [←hl] at hbl
      rcases List.mem_append.1 hbl with h|h
      ·exact (aux _ (hloc b h).2.2 hb34).elim
      ·exact h
     refine zTO hsor (fun h=>⟨fun hh=> ?_,fun hh=> ?_⟩)
     ·obtain ⟨x,hxl,_,hxb,hxh⟩:=(hmem h).1 hh
      obtain ⟨hxV,hxS⟩:=hall x hxl
      obtain ⟨c1,c2⟩:=zPR hxS hbS hxb
      have hxrec:x∈zDF v s r:=by
       rw [←hl] at hxl
       rcases List.mem_append.1 hxl with h|h
       ·exact (aux _ (hloc x h).2.2 (by rw [c1];exact hb34)).elim
       ·exact h
      rw [zZd hv hM hs hrl hxrec hbrec c2,k4] at hxh
      exact List.mem_singleton.1 hxh
     ·refine (hmem h).2 ⟨b,hbl,hbp,zT1 b,?_⟩
      rw [k4,hh]
      simp
   have hzb:z=b:=by
    rw [←hmz,hhops]
    exact zQC b
   rw [hzb]
   exact hbV
  ·have hxl:x∈l:=by rw [←hl];exact List.mem_append_left _ hx
   have hx12:=(hloc x hx).2.2
   have h1:=(zOT hb).1 x hxl (by rw [hxz,hzp])
   rw [zVk hbV.proto,zVk (hloc x hx).1.proto] at h1
   have h1:(if (3:Int)<b.2.2.1 then (3:Int) else b.2.2.1)≤(if (3:Int)<x.2.2.1 then (3:Int) else x.2.2.1):=h1
   have aux: ∀a c:Int,(c=1∨c=2)→(if (3:Int)<a then (3:Int) else a)≤(if (3:Int)<c then (3:Int) else c)→a≤c:=by
    intro a c hc h
    split at h<;>split at h<;>omega
   rw [hcls]
   exact aux _ _ hx12 h1
theorem zSA (n:Ty.El zQ) (d:List Int) (s:List (Ty.El zT)) (hs:StS s) (hsl:s.length≤1048576) (hadr: ∀r,r∈n.1→ ∀x,x∈r.2.2.1→0≤x.2.1∧x.2.1<4294967296):Wp (zCB (n,d,s,())) (fun b=>b=true):=by
 unfold zCB
 dsimp only
 refine zC ((zNp n d).mono (fun y0 hy0=> ?_))
 refine zC ((show Wp _ (fun b:Bool=>b=false→xX n d y0.1∧qBk y0.1 s) from ?_).mono (fun b hb=> ?_))
 ·refine zD (fun h=>zA (fun h=>by cases h)) (fun h1=> ?_)
  exact zC ((zWE y0.1 s hs hsl).mono (fun b hb=>zA (fun h2=>⟨hy0 (by simpa using h1),hb (by simpa using h2)⟩)))
 refine zD (fun h=>zA rfl) (fun h=> ?_)
 obtain ⟨hv,hst⟩:=hb h
 have hS:=hv.s
 have hM:zHj y0.1:=⟨hv.p,fun r hr=>zZl ((zFB hv).rt r (by rw [←hv.net];exact hr)) (hS.sm r hr),fun r hr=>hadr r (by rw [←hv.net];exact hr)⟩
 have hTV: ∀t,t∈s→zZS t:=by
  intro t ht
  obtain ⟨l1,l2,l3,l4⟩:=hst.short t ht
  obtain ⟨o1,o2,o3,o4⟩:=hst.ok t ht
  obtain ⟨hT,_,_,hp,_⟩:=hs t ht
  have hpv: ∀y,y∈t.2.2.1→PvR y:=by
   intro y hy
   obtain ⟨b,hb1,hb2⟩:=zUJ y (hp y hy) (o3.pr (by decide) y hy)
   rw [o3.val y hy] at hb1
   exact hb2 (Option.some.inj hb1).symm
  exact ⟨⟨hT,l3,l4,fun y hy=>⟨hp y hy,(hpv y hy).pref⟩⟩,hpv,fun y hy=>zVG (o4.val y hy)⟩
 refine zAb (P:=fun _=>True) (by omega) ?_ (fun _=>zC (z7 rfl (zA rfl)))
 intro r t ht
 have hrl:=(List.getElem?_eq_some_iff.1 ht).1
 have hlen:=hst.len
 obtain ⟨rt,hr⟩: ∃rt,y0.1.1.1[r]? =some rt:=⟨_,List.getElem?_eq_getElem (by omega)⟩
 have hsm:=hS.sm rt (List.mem_of_getElem? hr)
 have hT:=hTV t (List.mem_of_getElem? ht)
 simp only [zJ ht,Option.bind_some]
 refine qE (zC ((xU y0.1 t r rt hS hr hT.r.s).mono (fun o ho=> ?_)))
 refine zC ((zCa y0.1 hM s hlen (fun t ht=>(hTV t ht).r) r rt t hr ht).mono (fun w hw=> ?_))
 have hol:o.length≤76:=by
  rw [ho]
  have h1:=zI9 (v:=y0.1) (t:=t) (r:=r) hsm
  have h2:=hT.r.rib
  cases rt.2.2.2.2.2.2.2.2.2.2.1.1
  ·exact Nat.zero_le _
  ·show (kR y0.1 t r rt).length≤_
   omega
 have hrlt:r<y0.1.1.1.length:=by omega
 have hwl:w.length≤86476:=by
  rw [hw]
  cases rt.2.2.2.2.2.2.2.2.2.2.1.1
  ·exact Nat.zero_le _
  ·show (zAj (kR y0.1 t r rt++zDF y0.1 s r)).length≤_
   have h1:=zN2 (kR y0.1 t r rt++zDF y0.1 s r)
   have h2:=zXr hS (fun t ht=>(hTV t ht).r.pv) r
   have h3:=zI9 (v:=y0.1) (t:=t) (r:=r) hsm
   have h4:=hT.r.rib
   rw [List.length_append] at h1
   omega
 have hz: ∀z,z∈w→PvV z∧(∀x,x∈o→x.1=z.1→z.2.2.1≤x.2.2.1):=by
  intro z hz
  rw [hw] at hz
  cases hon:rt.2.2.2.2.2.2.2.2.2.2.1.1 with
  |false=>rw [hon] at hz;cases hz
  |true=>
   rw [hon] at hz ho
   obtain ⟨z1,z2⟩:=zSs hv hM hTV hr ht hon hz
   exact ⟨z1,fun x hx=>z2 x (by rw [ho] at hx;exact hx)⟩
 have hin: ∀x,x∈o→ ∃z,z∈w∧z.1=x.1:=by
  intro x hx
  cases hon:rt.2.2.2.2.2.2.2.2.2.2.1.1 with
  |false=>rw [ho,hon] at hx;cases hx
  |true=>
   rw [hon] at hw ho
   have hxl:x∈kR y0.1 t r rt++zDF y0.1 s r:=List.mem_append_left _ (by rw [ho] at hx;exact hx)
   have hp:x.1∈zPb (kR y0.1 t r rt++zDF y0.1 s r):=(zEN _ _).2 ⟨x,hxl,rfl⟩
   obtain ⟨b,hb⟩:=zWK hp
   have hmz:mrg (kR y0.1 t r rt++zDF y0.1 s r) x.1=some (zM3 b (zCq (kR y0.1 t r rt++zDF y0.1 s r) x.1 b)):=by unfold mrg;rw [hb];rfl
   refine ⟨_,?_,zHy hmz⟩
   rw [hw]
   exact zDK.2 ⟨x.1,⟨x,hxl,rfl⟩,hmz⟩
 have hsw:w.Pairwise rlt:=by
  rw [hw]
  cases rt.2.2.2.2.2.2.2.2.2.2.1.1
  ·exact List.Pairwise.nil
  ·exact zEw _
 refine zC ((zTD (by omega) (fun z h=>qAc (hz z h).1) (fun z h=>(hz z h).1.proto) hsw).mono (fun b hb=> ?_))
 subst hb
 refine ff rfl ?_
 refine j7 (fun (q:Int×List (Ty.El zB))=> ∃i:Nat,q=((i:Int),o)∧i≤o.length) (fun q=>((o.length:Int) -q.1).toNat) ⟨0,rfl,Nat.zero_le _⟩ ?_
 rintro q ⟨i,rfl,hi⟩
 refine zI (fun hlt=> ?_) (fun _=>zA (e2r (e2l (zA (e2l ⟨rfl,trivial⟩)))))
 have hlt:(i:Int)< (o.length:Int):=hlt
 obtain ⟨x,hx⟩: ∃x,o[i]? =some x:=⟨_,List.getElem?_eq_getElem (by omega)⟩
 have hat:atN o (Int.toNat (i:Int))=some x:=by rw [Int.toNat_natCast];exact hx
 simp only [zJ hx,hat,Option.bind_some]
 refine zC ((zMw w x.1 (by omega)).mono (fun k hk=> ?_))
 subst hk
 obtain ⟨z,hzw,hzp⟩:=hin x (List.mem_of_getElem? hx)
 rcases zHF (fun y:Ty.El zB=>vF y.1 x.1) w with ⟨h1,h2⟩|⟨j,y,h1,h2,h3⟩
 ·rw [List.find?_eq_none] at h2
  have:=h2 z hzw
  rw [zAg.2 hzp] at this
  exact absurd rfl this
 ·rw [h1]
  have hyp0:=List.find?_some h3
  have hyp:y.1=x.1:=zAg.1 hyp0
  have hle:=(hz y (List.mem_of_getElem? h2)).2 x (List.mem_of_getElem? hx) hyp.symm
  refine zC (Wp.mono (Q:=fun b=>b=(false,o)) ?_ (fun b hb=> ?_))
  ·refine zI (fun h=>absurd h (Int.not_lt.2 (Int.natCast_nonneg j))) (fun _=> ?_)
   simp only [zJ h2,Option.bind_some]
   refine zA ?_
   rw [decide_eq_false (Int.not_lt.2 hle)]
  ·subst hb
   refine ff rfl (zA (e2l ⟨⟨i+1,?_,by omega⟩,?_⟩))
   ·rw [zG (by omega) (by omega)];rfl
   ·simp only
    rw [zG (by omega) (by omega)]
    omega
theorem zX9 {n:Ty.El zQ} (h:Ty.fits 1048576 zQ n): ∀r,r∈n.1→ ∀x,x∈r.2.2.1→0≤x.2.1∧x.2.1<4294967296:=by
 intro r hr x hx
 have h1:=h.1.2 r hr
 have h2:=h1.2.2.1.2 x hx
 have h3:(Lit.int .u32 x.2.1).wf=true:=h2.2.1
 have h4:(decide (IntKind.min .u32≤x.2.1)&&decide (x.2.1≤IntKind.max .u32))=true:=h3
 simp only [Bool.and_eq_true,decide_eq_true_eq] at h4
 obtain ⟨a,b⟩:=h4
 have e1:IntKind.min .u32=0:=by decide
 have e2:IntKind.max .u32=4294967295:=by decide
 rw [e1] at a
 rw [e2] at b
 exact ⟨a,Int.lt_of_le_of_lt b (by decide)⟩
theorem zKS: ∀x:ElS [zQ, .sl tI, .sl zT],zVt 1048576 [zQ, .sl tI, .sl zT] x→zCB x=some true:=by
 rintro ⟨n,d,s,⟨⟩⟩ ⟨h0,_,⟨h1,h2⟩,_⟩
 exact j2 (zSA n d s (zX8 h2) h1 (zX9 h0))
end Go.Ve

namespace Go.Ve
open Go
set_option maxRecDepth 1000000
set_option maxHeartbeats 4000000
def ifS (nm:ByteArray) (a:Int) (dv:Bool):Ty.El qG:=(nm,a,24,0,false,false,0,0,dv,⟨#[]⟩,⟨#[]⟩,0,())
def rtS (nm:ByteArray) (sy:Int) (ifs:List (Ty.El qG)) (dv:Ty.El tDV) (pv:Ty.El tPV):Ty.El zF:=(nm,sy,ifs,[],[],[],[],[],(false,0,[],[],()),dv,pv,())
def qBf:Ty.El tDV:=(true,120,⟨#[]⟩,⟨#[]⟩,[],())
def qA5:Ty.El tPV:=(false,0,0,[],[],[],[],[],())
def qBx:Ty.El zF:=rtS ⟨#[97]⟩ 0 [ifS ⟨#[101,48]⟩ 167772161 true] qBf qA5
def qBw:Ty.El zF:=rtS ⟨#[98]⟩ 0 [ifS ⟨#[101,48]⟩ 167772162 true,ifS ⟨#[101,49]⟩ 167772418 true] qBf qA5
def qAq:Ty.El zQ:=([qBx,qBw],())
def zW2:Ty.El zJK:=([((167772160,24,()),0,[(0,0,()),(1,0,())],()),((167772416,24,()),0,[(1,1,())],())],[0],())
def qAb:Ty.El zR:=(qAq,zW2,[],())
theorem zQz {nm:ByteArray} {sy:Int} {ifs:List (Ty.El qG)} {dv:Ty.El tDV} {pv:Ty.El tPV} (h1:ifs.length≤20) (h2:dv.2.2.2.2.1.length≤20) (h3:pv.2.2.2.1.length≤20) (h4:pv.2.2.2.2.1.length≤20) (h5:pv.2.2.2.2.2.1.length≤20) (h6:pv.2.2.2.2.2.2.1.length≤20) (h7:pv.2.2.2.2.2.2.2.1.length≤20):SmR (rtS nm sy ifs dv pv) where
 i1:=h1
 i2:=Nat.zero_le _
 i3:=Nat.zero_le _
 i4:=Nat.zero_le _
 i5:=Nat.zero_le _
 i6:=Nat.zero_le _
 i7:=Nat.zero_le _
 i8:=Nat.zero_le _
 i9:=h2
 i10:=h3
 i11:=h4
 i12:=h5
 i13:=h6
 i14:=h7
 n1:=fun y hy=>by cases hy
 n2:=fun y hy=>by cases hy
 n3:=fun y hy=>by cases hy
theorem zHq:zDa qAb where
 rs:=by decide
 sm:=fun y hy=>by
  rcases List.mem_cons.1 hy with rfl|hy
  ·exact zQz (by decide) (by decide) (by decide) (by decide) (by decide) (by decide) (by decide)
  ·rcases List.mem_cons.1 hy with rfl|hy
   ·exact zQz (by decide) (by decide) (by decide) (by decide) (by decide) (by decide) (by decide)
   ·cases hy
 doms:=by decide
 ends := fun d hd => by
  rcases List.mem_cons.1 hd with rfl|hd
  ·decide
  ·rcases List.mem_cons.1 hd with rfl|hd
   ·decide
   ·cases hd
 links:=by decide
 link0:=fun l hl=>by
  rcases List.mem_cons.1 hl with rfl|hl
  ·decide
  ·cases hl
 down:=by decide
 down0:=fun l hl=>by cases hl
end Go.Ve

namespace Go.Ve
open Go
set_option maxRecDepth 1000000
set_option maxHeartbeats 4000000
def qBe:Ty.El tDV:=(false,0,⟨#[]⟩,⟨#[]⟩,[],())
def qBz:Ty.El tPV:=(true,20,200,[(167772162,2,⟨#[]⟩,⟨#[]⟩,())],[],[],[],[],())
def qBy:Ty.El tPV:=(true,20,200,[(167772161,1,⟨#[]⟩,⟨#[]⟩,())],[(167772416,24,())],[],[],[],())
def zZg:Ty.El zF:=rtS ⟨#[97]⟩ 1 [ifS ⟨#[101,48]⟩ 167772161 false] qBe qBz
def zZf:Ty.El zF:=rtS ⟨#[98]⟩ 2 [ifS ⟨#[101,48]⟩ 167772162 false,ifS ⟨#[101,49]⟩ 167772418 false] qBe qBy
def qAp:Ty.El zQ:=([zZg,zZf],())
def uI:Ty.El zR:=(qAp,zW2,[],())
def zRI:Ty.El zT:=([],[],[],[],())
def l20:List (Ty.El zB):=[((167772416,24,()),5,1,200,0,0,0,100,[],0,0,[],false,())]
def s20:List (Ty.El zT):=[zRI,([],[],l20,[],())]
def t20:List (Ty.El zB):=[((167772416,24,()),5,3,20,0,0,0,100,[2],167772162,0,[(0,167772162,())],false,())]
def e20:List (Ty.El zW):=[(1,0,0,0,false,()),(0,0,1,0,false,())]
theorem zZt {P:Ty.El zF→Prop} (ha:P zZg) (hb:P zZf): ∀r,r∈uI.1.1→P r:=by
 intro r hr
 rcases List.mem_cons.1 hr with rfl|hr
 ·exact ha
 ·rcases List.mem_cons.1 hr with rfl|hr
  ·exact hb
  ·cases hr
theorem zU7:zDa uI where
 rs:=by decide
 sm:=zZt (zQz (by decide) (by decide) (by decide) (by decide) (by decide) (by decide) (by decide)) (zQz (by decide) (by decide) (by decide) (by decide) (by decide) (by decide) (by decide))
 doms:=zHq.doms
 ends := zHq.ends
 links:=zHq.links
 link0:=zHq.link0
 down:=zHq.down
 down0:=zHq.down0
theorem zYo {r i:Int} {e:Ty.El zO} (he:e∈vQ uI r i):
  (vQ uI r i=[(0,0,()),(1,0,())]∨vQ uI r i=[(1,1,())]):=by
 unfold vQ at he ⊢
 split at he
 ·rename_i d hd
  have hd:=List.mem_of_getElem? hd
  rcases List.mem_cons.1 hd with rfl|hd
  ·exact .inl rfl
  ·rcases List.mem_cons.1 hd with rfl|hd
   ·exact .inr rfl
   ·cases hd
 ·cases he
theorem zU8:zOZ uI where
 s:=zU7
 nb:=zZt (fun i j x y hj hx _=>by
  have:i<1:=(List.getElem?_eq_some_iff.1 hx).1
  omega) (fun i j x y hj hx _=>by
  have:i<1:=(List.getElem?_eq_some_iff.1 hx).1
  omega)
 ends := fun r i e _ he => by
  rcases zYo he with h|h
  ·rw [h] at he
   rcases List.mem_cons.1 he with rfl|he
   ·exact ⟨by decide,by decide,_,_,rfl,rfl⟩
   ·rcases List.mem_cons.1 he with rfl|he
    ·exact ⟨by decide,by decide,_,_,rfl,rfl⟩
    ·cases he
  ·rw [h] at he
   rcases List.mem_cons.1 he with rfl|he
   ·exact ⟨by decide,by decide,_,_,rfl,rfl⟩
   ·cases he
 own:=fun r i=>by
  unfold zI8
  cases hu:upB uI r i with
  |false=>rfl
  |true=>
   simp only [cond_true]
   have ho:=zSY hu
   refine List.filter_congr (fun e he=> ?_)
   cases h1:(e.1 !=r) with
   |true=>rfl
   |false=>
    have h1:e.1=r:=by simpa [bne] using h1
    have h2:e.2.1=i:=by
     rcases zYo he with h|h
     ·rw [h] at he ho
      rcases List.mem_cons.1 he with rfl|he
      ·rcases List.mem_cons.1 ho with ho|ho
       ·exact (congrArg (fun e:Ty.El zO=>e.2.1) ho).symm
       ·rcases List.mem_cons.1 ho with ho|ho
        ·have h3:r=1:=congrArg (fun e:Ty.El zO=>e.1) ho
         have h1:(0:Int)=r:=h1
         omega
        ·cases ho
      ·rcases List.mem_cons.1 he with rfl|he
       ·rcases List.mem_cons.1 ho with ho|ho
        ·have h3:r=0:=congrArg (fun e:Ty.El zO=>e.1) ho
         have h1:(1:Int)=r:=h1
         omega
        ·rcases List.mem_cons.1 ho with ho|ho
         ·exact (congrArg (fun e:Ty.El zO=>e.2.1) ho).symm
         ·cases ho
       ·cases he
     ·rw [h] at he ho
      rcases List.mem_cons.1 he with rfl|he
      ·rcases List.mem_cons.1 ho with ho|ho
       ·exact (congrArg (fun e:Ty.El zO=>e.2.1) ho).symm
       ·cases ho
      ·cases he
    rw [h2]
    simp
theorem zYV:zHj uI where
 p:=zU8
 maps:=zZt (fun m hm=>by cases hm) (fun m hm=>by cases hm)
 adr:=zZt (fun x hx=>by
  rcases List.mem_cons.1 hx with rfl|hx
  ·exact ⟨by decide,by decide⟩
  ·cases hx) (fun x hx=>by
  rcases List.mem_cons.1 hx with rfl|hx
  ·exact ⟨by decide,by decide⟩
  ·rcases List.mem_cons.1 hx with rfl|hx
   ·exact ⟨by decide,by decide⟩
   ·cases hx)
theorem qAW:zYI zRI:=⟨⟨by decide,by decide,by decide,by decide⟩,by decide,by decide,fun y hy=>by cases hy⟩
theorem qAX: ∀t,t∈s20→zYI t:=by
 intro t ht
 rcases List.mem_cons.1 ht with rfl|ht
 ·exact qAW
 ·rcases List.mem_cons.1 ht with rfl|ht
  ·refine ⟨⟨by decide,by decide,by decide,by decide⟩,by decide,by decide,fun y hy=> ?_⟩
   rcases List.mem_cons.1 hy with rfl|hy
   ·exact ⟨⟨by decide,by decide⟩,⟨by decide,by decide⟩⟩
   ·cases hy
  ·cases ht
theorem zXP:kR uI zRI 1 zZf=l20:=by kernel_rfl
theorem zXQ:zAj (kR uI zRI 0 zZg++zDF uI s20 0)=t20:=by kernel_rfl
theorem qAh:zMy uI=e20:=by kernel_rfl
theorem zZo:w5 (uI,zRI,1,())=some l20:=by
 refine j2 ((xU uI zRI 1 zZf zU7 rfl qAW.s).mono (fun o ho=> ?_))
 rw [ho]
 exact zXP
theorem zYZ:yK (uI,s20,0,())=some t20:=by
 refine j2 ((zCa uI zYV s20 rfl qAX 0 zZg zRI rfl rfl).mono (fun o ho=> ?_))
 rw [ho]
 exact zXQ
theorem zTR:uZ (uI,())=some e20:=by
 refine j2 ((zEr uI zU8).mono (fun o ho=> ?_))
 rw [ho]
 exact qAh
end Go.Ve

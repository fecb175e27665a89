/-
  Drawn regions that write, part 4: the beginning; the whole region.
  Rows that are lent: the call that turns a row of the frame's own.
  Functions out of code, part 3: regions.
-/
import Derived.Test.YtcnlcmbchljpgaaGreatPt7
set_option linter.unusedVariables false
namespace Go.Ve
open Go
def lq (Cm:Nat) (listed:Array Bool):Array Bool:=listed.mapIdx fun i b=>b||Nat.testBit Cm i
theorem qBw {Cm:Nat} {listed:Array Bool} :(lq Cm listed).size=listed.size:=by simp [lq]
theorem zP9 {Cm:Nat} {listed:Array Bool} {i:Nat} :(lq Cm listed).getD i true=(listed.getD i true||Nat.testBit Cm i):=by
 simp only [lq,au,cW]
 cases listed[i]? <;>simp
theorem qCy {Cm:Nat} {listed:Array Bool} {i:Nat} :lq Cm (listed.setIfInBounds i true)=(lq Cm listed).setIfInBounds i true:=by
 apply zGV
 intro j
 simp only [lq,cW,Array.getElem?_setIfInBounds,Array.size_mapIdx]
 by_cases h:i=j
 ·subst h
  by_cases hl:i<listed.size
  ·simp [hl]
  ·simp [hl]
 ·simp [h]
def zFc {St:Type} (e:Env St) (fl:List Fl):Env St:=wB e (fl.map fun q=>⟨q.i,q.d, .c .dead⟩)
theorem zVr {St:Type} {e:Env St} {fl:List Fl} (h:zJD e.tm.length fl):zBg (zFc e fl) e∧(∀t,(∀q,q∈fl→t≠q.d)→(zFc e fl).get t=e.get t)∧(∀q,q∈fl→(zFc e fl).get q.d= .dead):=by
 have hok:zJD e.tm.length (fl.map fun q=>⟨q.i,q.d, .c .dead⟩):=by
  refine ⟨?_,?_,?_⟩
  ·rw [List.pairwise_map];exact h.dist
  ·intro q hq
   obtain ⟨p,hp,rfl⟩:=be.1 hq
   exact h.lt p hp
  ·intro q hq s hs
   obtain ⟨p,hp,rfl⟩:=be.1 hq
   cases hs
 obtain ⟨h1,h2⟩:=zA8 _ e _ hok (aK _)
 refine ⟨zAm _ e,?_,?_⟩
 ·intro t ht
  refine h1 t (fun q hq=> ?_)
  obtain ⟨p,hp,rfl⟩:=be.1 hq
  exact ht p hp
 ·intro q hq
  exact h2 ⟨q.i,q.d, .c .dead⟩ (be.2 ⟨q,hq,rfl⟩)
section
variable {Γ:Sig} {P:Program} {G:Nat→Option (List V)} {S:jM Γ} {w0:World} {F0:Blk→Prop} {O0:xA} {ops:Array Oper} {anc:Array Nat} {Cm Um:Nat}
theorem zXV {Q:Exit→Act→World→Prop} {K:Act→World→Prop} {i:Nat} {o:Oper} {a:Act} {w:World} (hch:zXj ops anc Cm Um) (ho:ops[i]? =some o) (hC:Cm.testBit i=false)
  (h:wpOp P (vE ops Cm) Q i K a w):wpOp P ops Q i K a w:=by
 unfold wpOp at*
 rw [yS ho hC] at h
 rw [ho]
 simp only at h ⊢
 have hw:Region.wanted o (yielded (vE ops Cm) a.tmps)=Region.wanted o (yielded ops a.tmps):=by
  unfold Region.wanted
  cases hg:o.guard with
  |none=>rfl
  |some gw=>
   obtain ⟨j,want⟩:=gw
   have hj:=hch.guardQ i o j want ho hC hg
   simp only [yielded,zFK,hj]
   cases ops[j]? <;>rfl
 rw [hw] at h
 exact h
theorem zSM (hch:zXj ops anc Cm Um) (hS:qG Γ P G S) {e1 b0 b':Env Γ.St} {sts:Nat→Γ.St}
  (hsteps: ∀ (i:Nat) (o:Oper),(vE ops Cm)[i]? =some o→zEL P G S (vE ops Cm) e1 (sts i) o (sts (i+1))) (hlast:sts ops.size=e1.st)
  {fl:List Fl} (hflok:zJD e1.tm.length fl)
  (hfi: ∀i,Um.testBit i=true→Cm.testBit i=false→i<ops.size→ ∃q,q∈fl∧q.i=i)
  (hfo: ∀q,q∈fl→Cm.testBit q.i=false∧Um.testBit q.i=true∧ ∃o,ops[q.i]? =some o∧o.dst=some q.d)
  (hfv: ∀q,q∈fl→e1.get q.d=q.val e1∧e1.var q.d=none)
  (hb0:zBg b0 e1) (hb1: ∀t,(∀q,q∈fl→t≠q.d)→b0.get t=e1.get t) (hb2: ∀q,q∈fl→b0.get q.d= .dead)
  (hf0: ∀q,q∈fl→zME P G S ops fl b0 q)
  (hchain:zIB P G S ops anc fl ((List.range ops.size).filter (fun i=>Cm.testBit i)) b0 b')
  {Q:Exit→Act→World→Prop} (hQ: ∀a w,Inv Γ G w0 F0 O0 a w (wB b' fl)→Q .normal a w): ∀ (fuel:Nat) (listed:Array Bool) (a:Act) (w:World),
  listed.size=ops.size→listed.count false≤fuel→zNO ops (fun i=>listed.getD i true=true)→(∀c,c<ops.size→Cm.testBit c=true→listed.getD c true=false)→
  (∃F O β al m,zY4 Γ G w0 F0 O0 (vE ops Cm) e1 sts (lq Cm listed) a w F O β al m)→wpAny P .any ops Q fuel listed a w:=by
 have hgo: ∀ (fuel:Nat) (listed:Array Bool) (a:Act) (w:World),listed.size=ops.size→listed.count false≤fuel→zNO ops (fun i=>listed.getD i true=true)→
   (∀c,c<ops.size→Cm.testBit c=true→listed.getD c true=false)→(∀i,i<ops.size→Cm.testBit i=false→Um.testBit i=false→listed.getD i true=true)→
   (∃F O β al m,zY4 Γ G w0 F0 O0 (vE ops Cm) e1 sts (lq Cm listed) a w F O β al m)→wpAny P .any ops Q fuel listed a w:=by
  rintro fuel listed a w hls hcnt hcl hnc hall ⟨F,O,β,al,m,hp⟩
  refine zTY hch hS hflok hfi hfo hQ fuel _ b0 listed a w hls hcnt hcl hall ?_ (List.Pairwise.filter _ List.pairwise_lt_range) hchain (fun q hq _=>hf0 q hq) hb0.len ?_
  ·intro c
   simp only [aV,bd]
   constructor
   ·rintro ⟨h1,h2⟩;exact ⟨h1,h2,hnc c h1 h2⟩
   ·rintro ⟨h1,h2,_⟩;exact ⟨h1,h2⟩
  ·have hgq: ∀ (i:Nat) (o:Oper),(vE ops Cm)[i]? =some o→(lq Cm listed).getD i true=false→ops[i]? =some o∧Cm.testBit i=false∧Um.testBit i=true∧listed.getD i true=false:=by
    intro i o ho hl
    rw [zP9,dE] at hl
    have hlt:i<ops.size:=by have:=(ar.1 ho).1;rwa [zBB] at this
    rw [zFK] at ho
    simp only [ah] at ho
    obtain ⟨o',ho',heq⟩:=ho
    simp only [hl.2] at heq
    subst heq
    refine ⟨ho',hl.2,?_,hl.1⟩
    cases hU:Um.testBit i with
    |true=>rfl
    |false=>have:=hall i hlt hl.2 hU;rw [hl.1] at this;cases this
   have hknown: ∀t,(∀q,q∈fl→t=q.d→listed.getD q.i true=true)→zJS (vE ops Cm) (lq Cm listed) t:=by
    intro t ht i o ho hl hd
    obtain ⟨h1,h2,h3,h4⟩:=hgq i o ho hl
    obtain ⟨q,hq,hqi⟩:=hfi i h3 h2 (ar.1 h1).1
    obtain ⟨_,_,o',ho',hd'⟩:=hfo q hq
    rw [hqi,h1] at ho'
    cases ho'
    rw [hd] at hd'
    have:=ht q hq (aJ hd')
    rw [hqi,h4] at this;cases this
   have heq: ∀k,m+k≤ops.size→sts (m+k)=sts m:=by
    intro k
    induction k with
    |zero=>intro _;rfl
    |succ k ih=>
     intro hk
     have hlt:m+k< (vE ops Cm).size:=by rw [zBB];omega
     have hj:(vE ops Cm)[m+k]? =some (vE ops Cm)[m+k]:=aP hlt
     have hnc:isCall (vE ops Cm)[m+k]=false:=by
      cases hc:isCall (vE ops Cm)[m+k] with
      |false=>rfl
      |true=>
       exfalso
       cases hl:(lq Cm listed).getD (m+k) true with
       |true=>have:=(hp.calls _ _ hj hc).1 hl;omega
       |false=>
        obtain ⟨h1,h2,h3,h4⟩:=hgq _ _ hj hl
        have:=hch.call _ _ h1 h2 h3
        rw [hc] at this;cases this
     rw [←ih (by omega)]
     rcases hsteps (m+k) _ hj with ⟨_,r',hev',hst'',_,_⟩|⟨_,hst'',_⟩
     ·rw [←bw,hst''];exact zBP (zNi hev' hnc) _
     ·rw [←bw,hst'']
   have hmle:m≤ops.size:=by have:=hp.mle;rwa [zBB] at this
   have hlst:sts m=e1.st:=by
    have:=heq (ops.size-m) (by omega)
    rw [db hmle] at this
    rw [←this,hlast]
   have hal:=zAm (fl.filter (fun q=>listed.getD q.i true)) b0
   obtain ⟨a1,a2⟩:=zA8 (fl.filter (fun q=>listed.getD q.i true)) b0 _ (hflok.filter _) (by rw [hb0.len];exact aK _)
   have hvar: ∀s,(wB b0 (fl.filter (fun q=>listed.getD q.i true))).var s=e1.var s:=fun s=>(hal.trans hb0).var s
   refine Inv.of (al:=al) (by rw [hal.st,hb0.st, ←hlst];exact hp.core) hp.g (by rw [hal.len,hb0.len];exact hp.size) hp.defers ?_ ?_ ?_
   ·intro t
    by_cases ht: ∃q,q∈fl∧t=q.d
    ·obtain ⟨q,hq,rfl⟩:=ht
     cases hl:listed.getD q.i true with
     |true=>
      rw [a2 q (aV.2 ⟨hq,hl⟩)]
      have hk:=hp.tm q.d (hknown q.d (by
       intro r hr hrd
       have:r.i=q.i:=by
        obtain ⟨c1,_,o1,h1,d1⟩:=hfo q hq
        obtain ⟨c2,_,o2,h2,d2⟩:=hfo r hr
        exact (hch.st.dist q.i r.i o1 o2 q.d (yS h1 c1) (yS h2 c2) d1 (by rw [hrd];exact d2)).symm
       rw [this];exact hl))
      rw [(hfv q hq).1] at hk
      have:q.val b0=q.val e1:=by
       unfold Fl.val
       cases hv:q.v with
       |c x=>rfl
       |a s=>simp only;exact hb1 s (fun r hr=>hflok.src q hq s hv r hr)
      rw [this];exact hk
     |false=>
      rw [a1 q.d (by
       intro r hr hrd
       obtain ⟨hr1,hr2⟩:=aV.1 hr
       obtain ⟨c1,_,o1,h1,d1⟩:=hfo q hq
       obtain ⟨c2,_,o2,h2,d2⟩:=hfo r hr1
       have:q.i=r.i:=hch.st.dist q.i r.i o1 o2 q.d (yS h1 c1) (yS h2 c2) d1 (by rw [hrd];exact d2)
       rw [←this,hl] at hr2;cases hr2),hb2 q hq]
      trivial
    ·have ht': ∀q,q∈fl→t≠q.d:=fun q hq hh=>ht ⟨q,hq,hh⟩
     rw [a1 t (fun q hq=>ht' q (aV.1 hq).1),hb1 t ht']
     exact hp.tm t (hknown t (fun q hq hh=>absurd hh (ht' q hq)))
   ·intro s cs hcs
    rw [hvar] at hcs
    have hks:zJS (vE ops Cm) (lq Cm listed) s:=hknown s (by
     intro q hq hh
     subst hh
     rw [(hfv q hq).2] at hcs;cases hcs)
    have ha:=hp.vk s cs hcs hks
    exact ⟨ha,hp.var s cs hcs ha⟩
   ·intro s hs
    obtain ⟨cs,hcs⟩:=hp.lp s hs
    exact ⟨cs,by rw [hvar];exact hcs⟩
 intro fuel
 induction fuel with
 |zero=>
  intro listed a w hls hcnt hcl hnc hp
  refine hgo 0 listed a w hls hcnt hcl hnc ?_ hp
  intro i hi _ _
  cases hl:listed.getD i true with
  |true=>rfl
  |false=>
   exfalso
   have h0:listed.count false=0:=by omega
   rw [dI] at h0
   apply h0
   have h:i<listed.size:=by omega
   simp [au,h] at hl
   rw [←hl];exact Array.getElem_mem h
 |succ fuel ih=>
  intro listed a w hls hcnt hcl hnc hp
  by_cases hall: ∀i,i<ops.size→Cm.testBit i=false→Um.testBit i=false→listed.getD i true=true
  ·exact hgo (fuel+1) listed a w hls hcnt hcl hnc hall hp
  ·obtain ⟨j,hj⟩:=Classical.not_forall.1 hall
   simp only [Classical.not_imp] at hj
   obtain ⟨hj1,hj2,hj3,hj4⟩:=hj
   refine ⟨fun hr=> ?_,?_⟩
   ·exfalso
    apply hj4
    have: ∀i,i<ops.size→listed.getD i true=true:=by
     intro i
     induction i using Nat.strongRecOn with
     |_ i ihi=>
      intro hi
      cases hl:listed.getD i true with
      |true=>rfl
      |false=>
       exfalso
       have hmem:i∈Region.ready .any ops listed:=by
        rw [mem_ready]
        refine ⟨hl,ops[i],by simp [hi],?_⟩
        intro e he hb
        have hon:=hch.edge i ops[i] e (by simp [hi]) he hb
        rw [zE8 (by omega)]
        exact ihi e.on hon (by omega)
       rw [hr] at hmem;cases hmem
    exact this j hj1
   ·intro i hi
    obtain ⟨hun,o,ho,hdeps⟩:=mem_ready.1 hi
    have hlt:i<ops.size:=(ar.1 ho).1
    have hin:i<listed.size:=by omega
    have hdeps': ∀e,e∈o.after→Region.binds .any e=true→listed.getD e.on true=true:=by
     intro e he hb
     have h1:=hdeps e he hb
     have hon:=hch.edge i o e ho he hb
     rw [←zE8 (by omega)];exact h1
    have hC:Cm.testBit i=false:=by
     cases hC:Cm.testBit i with
     |false=>rfl
     |true=>
      exfalso
      have hb:=hch.before i o ho hC j hj1 (.inr ⟨hj2,hj3⟩)
      exact hj4 (hch.up (fun j=>listed.getD j true=true) hcl i o ho hdeps' j hb.1 hb.2)
    obtain ⟨F,O,β,al,m,hp⟩:=hp
    refine zXV hch ho hC ?_
    refine zSa hch.st hS hsteps hp (by rw [qBw,zBB];exact hls) ?_ (yS ho hC) ?_ ?_ ?_
    ·intro k ok e hk hl he hb
     rw [zP9,bU] at hl ⊢
     have hkl:k<ops.size:=by have:=(ar.1 hk).1;rwa [zBB] at this
     rw [zFK] at hk
     simp only [ah] at hk
     obtain ⟨o',ho',heq⟩:=hk
     cases hCk:Cm.testBit k with
     |true=>
      simp only [hCk] at heq
      subst heq
      simp [zZX] at he
     |false=>
      simp only [hCk] at heq
      subst heq
      rw [hCk] at hl
      exact .inl (hcl k o' e ho' (hl.resolve_right (by simp)) he hb)
    ·rw [zP9,hun,hC];rfl
    ·intro e he hb
     rw [zP9,hdeps' e he hb];rfl
    ·intro a' w' F' O' β' al' m' hp'
     rw [←qCy] at hp'
     refine ih (listed.setIfInBounds i true) a' w' (by simpa using hls) ?_ ?_ ?_ ⟨F',O',β',al',m',hp'⟩
     ·have hli:listed[i]=false:=by simpa [au,hin] using hun
      rw [dl,dif_pos hin,Array.count_set hin,hli]
      simp
      omega
     ·intro k ok e hk hl he hb
      show (listed.setIfInBounds i true).getD e.on true=true
      have hl:(listed.setIfInBounds i true).getD k true=true:=hl
      rw [jL _ _ _ hin] at hl ⊢
      split
      ·rfl
      ·by_cases hki:k=i
       ·subst hki;rw [ho] at hk;cases hk;exact hdeps' e he hb
       ·rw [if_neg hki] at hl;exact hcl k ok e hk hl he hb
     ·intro c hc hCc
      rw [jL _ _ _ hin,if_neg (fun hh=>by rw [hh,hC] at hCc;cases hCc)]
      exact hnc c hc hCc
theorem zYR (hmix:P.follows .mixedOrders=true) (hch:zXj ops anc Cm Um) (hS:qG Γ P G S) {a:Act} {w:World} {e e1 b':Env Γ.St} (hi:Inv Γ G w0 F0 O0 a w e)
  (he1:zBu P G S (vE ops Cm) (vE ops Cm).toList (killAll (qH (vE ops Cm).toList) e)=some e1)
  {fl:List Fl} (hflok:zJD e1.tm.length fl)
  (hfi: ∀i,Um.testBit i=true→Cm.testBit i=false→i<ops.size→ ∃q,q∈fl∧q.i=i)
  (hfo: ∀q,q∈fl→Cm.testBit q.i=false∧Um.testBit q.i=true∧ ∃o,ops[q.i]? =some o∧o.dst=some q.d)
  (hfv: ∀q,q∈fl→e1.get q.d=q.val e1∧e1.var q.d=none)
  (hf0: ∀q,q∈fl→zME P G S ops fl (zFc e1 fl) q)
  (hchain:zIB P G S ops anc fl ((List.range ops.size).filter (fun i=>Cm.testBit i)) (zFc e1 fl) b') {id:Nat}
  {Q:Exit→Act→World→Prop} (hQ: ∀a w,Inv Γ G w0 F0 O0 a w (wB b' fl)→Q .normal a w):(Code.region id ops true).wp P Q a w:=by
 have hst:=hch.st
 have hah:=zQ6 hst 0 (vE ops Cm).toList (by simp)
 have hno: ∀d,d∈qH (vE ops Cm).toList→(killAll (qH (vE ops Cm).toList) e).var d=none:=by
  intro d hd
  cases hv:(killAll (qH (vE ops Cm).toList) e).var d with
  |none=>rfl
  |some cs=>exact absurd ⟨cs,hv⟩ (zBd _ e d hd).1
 obtain ⟨sts,h0,hn,hsteps,hg,hv,hl⟩:=zGQ _ _ _ he1 hah hno
 have hsteps': ∀ (i:Nat) (o:Oper),(vE ops Cm)[i]? =some o→zEL P G S (vE ops Cm) e1 (sts i) o (sts (i+1)):=fun i o ho=>hsteps i o (by rw [bm];exact ho)
 refine wp_region_any hmix ?_
 obtain ⟨F,O,β,hc,hG,hsz,hdf,ht,hvv⟩:=(hi.killAll (qH (vE ops Cm).toList)).drew (w.drawn+1) (c9 _)
 have hlqf: ∀i,i<ops.size→Cm.testBit i=false→(lq Cm (Array.replicate ops.size false)).getD i true=false:=by
  intro i hi hC
  rw [zP9,hC]
  simp [au,hi]
 have hmem: ∀ (i:Nat) (o:Oper) (d:Nat),(vE ops Cm)[i]? =some o→o.dst=some d→d∈qH (vE ops Cm).toList∧Cm.testBit i=false:=by
  intro i o d ho hd
  refine ⟨?_,?_⟩
  ·simp only [qH,bi]
   exact ⟨o,c6.2 (cV ho),hd⟩
  ·cases hC:Cm.testBit i with
   |false=>rfl
   |true=>
    rw [zFK] at ho
    simp only [ah] at ho
    obtain ⟨o',_,heq⟩:=ho
    simp only [hC] at heq
    subst heq
    cases hd
 have hnotin: ∀t,zJS (vE ops Cm) (lq Cm (Array.replicate ops.size false)) t→t ∉ qH (vE ops Cm).toList:=by
  intro t hkn hin
  simp only [qH,bi] at hin
  obtain ⟨o,hm',hd⟩:=hin
  obtain ⟨i,hi',rfl⟩:=aD hm'
  have hi'':i< (vE ops Cm).size:=by simpa using hi'
  have hoi:(vE ops Cm)[i]? =some (vE ops Cm)[i]:=aP hi''
  have hd':(vE ops Cm)[i].dst=some t:=by rw [←dF];exact hd
  refine hkn i _ hoi (hlqf i (by rwa [zBB] at hi'') (hmem i _ t hoi hd').2) hd'
 obtain ⟨d1,d2,d3⟩:=zVr hflok
 refine zSM hch hS hsteps' (by rw [←hn];simp [zBB]) hflok hfi hfo hfv d1 d2 d3 hf0 hchain hQ ops.size _ a _ (by simp) (by simp) ?_ ?_ ⟨F,O,β,zU (killAll (qH (vE ops Cm).toList) e),0,?_⟩
 ·intro i o ed ho hlst
  have hi'':i<ops.size:=(ar.1 ho).1
  have hlst:(Array.replicate ops.size false).getD i true=true:=hlst
  simp [au,hi''] at hlst
 ·intro c hc _;simp [au,hc]
 ·refine ⟨by rw [h0];exact hc,hG,by rw [hl];exact hsz,hdf,?_,?_,?_,?_,?_,aI _,?_⟩
  ·intro t hkn;rw [hg t (hnotin t hkn)];exact ht t
  ·intro s cs hcs hs
   obtain ⟨cs0,hcs0⟩:=hs
   have hni:s ∉ qH (vE ops Cm).toList:=fun hin=>by rw [hno s hin] at hcs0;cases hcs0
   rw [hv s hni] at hcs
   exact hvv s cs hcs
  ·intro s hs
   obtain ⟨cs0,hcs0⟩:=hs
   have hni:s ∉ qH (vE ops Cm).toList:=fun hin=>by rw [hno s hin] at hcs0;cases hcs0
   exact ⟨cs0,by rw [hv s hni];exact hcs0⟩
  ·intro s cs hcs hkn
   rw [hv s (hnotin s hkn)] at hcs
   exact ⟨cs,hcs⟩
  ·intro i o d ho _ hd
   exact zBd _ e d (hmem i o d ho hd).1
  ·intro i o ho hcall
   cases hC:Cm.testBit i with
   |false=>
    have hi'':i<ops.size:=by have:=(ar.1 ho).1;rwa [zBB] at this
    rw [hlqf i hi'' hC];simp
   |true=>
    exfalso
    rw [zFK] at ho
    simp only [ah] at ho
    obtain ⟨o',_,heq⟩:=ho
    simp only [hC] at heq
    subst heq
    cases hcall
end
def zWg (a b:Nat):T→T
 | .ow i k es=> .ow (if i=a then b else i) k es
 | .oe i k es j off=> .oe (if i=a then b else i) k es j off
 | .mp i es ck=> .mp (if i=a then b else i) es ck
 | .ot i t xs=> .ot (if i=a then b else i) t xs
 | .oet i t xs j off=> .oet (if i=a then b else i) t xs j off
 | .ov i t xs lo hi=> .ov (if i=a then b else i) t xs lo hi
 |x=>x
def noO (d:Nat):T→Bool
 | .ow i _ _=> !Nat.beq i d
 | .oe i _ _ _ _=> !Nat.beq i d
 | .mp i _ _=> !Nat.beq i d
 | .ot i _ _=> !Nat.beq i d
 | .oet i _ _ _ _=> !Nat.beq i d
 | .ov i _ _ _ _=> !Nat.beq i d
 |_=>true
def qCx {St:Type} (d:Nat) (e:Env St):Bool:=
 e.tm.all (noO d)&&e.vars.all (fun c=>match c with
  |some cs=>cs.all (noO d)
  |none=>true)
section
variable {Γ:Sig} {G:Nat→Option (List V)} {w0:World} {F0:Blk→Prop} {O0:xA} {e:Env Γ.St} {a0:Act} {w:World}
theorem zXD {d:Nat} {x:T} (h:noO d x=true): ¬x.hasO d:=by
 cases x<;>simp only [noO,T.hasO,bj] at h ⊢ <;>first|(intro hh;exact hh)|(intro hh;subst hh;simp at h)|(rintro ⟨hh,_⟩;subst hh;simp at h)
theorem Inv.ren (hi:Inv Γ G w0 F0 O0 a0 w e) {a b:Nat} (hb:qCx b e=true) (hal:a≠jP) (hbl:b≠jP):Inv Γ G w0 F0 O0 a0 w (e.mapT (zWg a b)):=by
 obtain ⟨F,O,β,hc,hG,hsz,hdf,ht,hv⟩:=hi
 by_cases hab:a=b
 ·subst hab
  have:e.mapT (zWg a a)=e:=by
   have hid: ∀x:T,zWg a a x=x:=by
    intro x
    cases x<;>simp only [zWg]<;>(try split)<;>simp_all
   obtain ⟨tm,vars,st⟩:=e
   simp only [Env.mapT,Env.mk.injEq,and_true]
   refine ⟨(cd (fun x _=>hid x)).trans (dt _),?_⟩
   refine (cd (g:=id) ?_).trans (dt _)
   intro c _
   cases c with
   |none=>rfl
   |some cs=>exact congrArg some ((cd (fun x _=>hid x)).trans (dt _))
  rw [this]
  exact ⟨F,O,β,hc,hG,hsz,hdf,ht,hv⟩
 have hnb: ¬zU e (.o b):=by
  rintro ⟨x,hx,hid⟩
  unfold qCx at hb
  simp only [aj] at hb
  rcases hx with hx|⟨s,cs,hcs,hx⟩
  ·exact zXD (aq.1 hb.1 x hx) hid
  ·have hm:some cs∈e.vars:=by
    simp only [Env.var] at hcs
    cases hg:e.vars[s]? with
    |none=>rw [hg] at hcs;cases hcs
    |some c=>rw [hg] at hcs;simp only [a7] at hcs;subst hcs;exact af hg
   have:=aq.1 hb.2 (some cs) hm
   exact zXD (aq.1 this x hx) hid
 let β':Lay:= { β with ob:=fun i=>if i=b then β.ob a else β.ob i }
 let al':j7→Prop:=fun x=>match x with
  | .v s=>zU e (.v s)
  | .o i=>(i=b∧zU e (.o a))∨(i≠a∧i≠b∧zU e (.o i))
 have hblk: ∀i,zU e (.o i)→al' (.o (if i=a then b else i))∧β'.ob (if i=a then b else i)=β.ob i:=by
  intro i hi
  by_cases h:i=a
  ·subst h
   simp only [if_true]
   exact ⟨.inl ⟨rfl,hi⟩,by simp [β']⟩
  ·have hib:i≠b:=fun hh=>hnb (hh▸hi)
   simp only [if_neg h]
   exact ⟨.inr ⟨h,hib,hi⟩,by simp [β',hib]⟩
 have hf: ∀v x,zW w F β (zU e) v x→zW w F β' al' v (zWg a b x):=by
  intro v x hx
  cases x with
  |p d=>exact hx
  |ow i k es=>
   obtain ⟨ha,cap,hv',hr⟩:=hx
   obtain ⟨h1,h2⟩:=hblk i ha
   exact ⟨h1,cap,by rw [h2];exact hv',by rw [h2];exact hr⟩
  |oe i k es j off=>
   obtain ⟨ha,hj,cap,hv',hr⟩:=hx
   obtain ⟨h1,h2⟩:=hblk i ha
   exact ⟨h1,hj,cap,by rw [h2];exact hv',by rw [h2];exact hr⟩
  |lp s off=>exact hx
  |mp i es ck=>
   obtain ⟨ha,hv',hr⟩:=hx
   obtain ⟨h1,h2⟩:=hblk i ha
   exact ⟨h1,by rw [h2];exact hv',by rw [h2];exact hr⟩
  |ot i t xs=>
   rcases hx with hx|⟨hne,ha,cap,hv',hr⟩
   ·exact .inl hx
   ·obtain ⟨h1,h2⟩:=hblk i ha
    exact .inr ⟨hne,h1,cap,by rw [h2];exact hv',by rw [h2];exact hr⟩
  |oet i t xs j off=>
   obtain ⟨ha,hj,cap,hv',hr⟩:=hx
   obtain ⟨h1,h2⟩:=hblk i ha
   exact ⟨h1,hj,cap,by rw [h2];exact hv',by rw [h2];exact hr⟩
  |ov i t xs lo hi=>
   rcases hx with hx|⟨hne,ha,k1,k2,cap,hv',hr⟩
   ·exact .inl hx
   ·obtain ⟨h1,h2⟩:=hblk i ha
    exact .inr ⟨hne,h1,k1,k2,cap,by rw [h2];exact hv',by rw [h2];exact hr⟩
  |emp=>exact hx
  |dead=>trivial
 have hsite: ∀x,al' x→ ∃y,zU e y∧β'.blk x=β.blk y∧(∀s,x= .v s↔y= .v s)∧(x= .o b↔y= .o a)∧(x≠ .o b→x=y):=by
  intro x hx
  cases x with
  |v s=>exact ⟨.v s,hx,rfl,fun _=>cC,by simp,fun _=>rfl⟩
  |o i=>
   rcases hx with ⟨rfl,ha⟩|⟨h1,h2,ha⟩
   ·exact ⟨.o a,ha,by simp [Lay.blk,β'],by simp,by simp,fun h=>absurd rfl h⟩
   ·exact ⟨.o i,ha,by simp [Lay.blk,β',h2],fun s=>cC,by simp [h1,h2],fun _=>rfl⟩
 refine Inv.of (al:=al') (β:=β') ⟨hc.keep,hc.sig,hc.oin,hc.fin,hc.f0,?_,?_,hc.lent⟩ hG (by simpa [Env.mapT] using hsz) hdf (fun t=>by rw [wL rfl];exact hf _ _ (ht t)) ?_ ?_
 ·intro x hx
  obtain ⟨y,hy,hb',_,hx1,hx2⟩:=hsite x hx
  rw [hb']
  refine ⟨?_,(hc.place y hy).2⟩
  have hp:=(hc.place y hy).1
  by_cases h1:x= .o b
  ·have h2:=hx1.1 h1
   subst h2
   subst h1
   exact .inl ⟨fun h=>hbl (by injection h),hp.o hal⟩
  ·rw [hx2 h1];exact hp
 ·intro x y hx hy hxy
  obtain ⟨x',hx',hbx,_,hx1,hx2⟩:=hsite x hx
  obtain ⟨y',hy',hby,_,hy1,hy2⟩:=hsite y hy
  rw [hbx,hby] at hxy
  have:=hc.dist x' y' hx' hy' hxy
  subst this
  by_cases h1:x= .o b
  ·rw [h1,hy1.2 (hx1.1 h1)]
  ·by_cases h2:y= .o b
   ·exact absurd (hx1.2 (hy1.1 h2)) h1
   ·rw [hx2 h1,hy2 h2]
 ·intro s cs hcs
  rw [jR] at hcs
  simp only [ah] at hcs
  obtain ⟨cs0,hcs0,rfl⟩:=hcs
  exact ⟨⟨cs0,hcs0⟩,(hv s cs0 hcs0).mapT rfl hf⟩
 ·rintro s ⟨cs,hcs⟩
  exact ⟨_,by rw [jR,hcs];rfl⟩
end
end Go.Ve

namespace Go.Ve
open Go
def qS (d:Nat):T→T
 | .ow i k es=>if i=d then .dead else .ow i k es
 | .oe i k es j off=>if i=d then .dead else .oe i k es j off
 | .mp i es ck=>if i=d then .dead else .mp i es ck
 | .ot i t xs=>if i=d then .dead else .ot i t xs
 | .oet i t xs j off=>if i=d then .dead else .oet i t xs j off
 | .ov i t xs j off=>if i=d then .dead else .ov i t xs j off
 |x=>x
def alo (d:Nat) (al:j7→Prop) (x:j7):Prop:=al x∧x≠ .o d
theorem zW.killO {w:World} {F:Blk→Prop} {β:Lay} {al:j7→Prop} {v:Value} {x:T} {d:Nat} (h:zW w F β al v x):zW w F β (alo d al) v (qS d x):=by
 cases x with
 |p d=>exact h
 |ow i k es=>
  simp only [qS];split
  ·trivial
  ·rename_i hne;exact ⟨⟨h.1,by simpa using hne⟩,h.2⟩
 |oe i k es j off=>
  simp only [qS];split
  ·trivial
  ·rename_i hne;exact ⟨⟨h.1,by simpa using hne⟩,h.2⟩
 |lp s off=>exact ⟨⟨h.1,by simp⟩,h.2⟩
 |mp i es ck=>
  simp only [qS];split
  ·trivial
  ·rename_i hne;exact ⟨⟨h.1,by simpa using hne⟩,h.2⟩
 |ot i t xs=>
  simp only [qS];split
  ·trivial
  ·rename_i hne
   rcases h with h|⟨h0,ha,h⟩
   ·exact .inl h
   ·exact .inr ⟨h0,⟨ha,by simpa using hne⟩,h⟩
 |oet i t xs j off=>
  simp only [qS];split
  ·trivial
  ·rename_i hne;exact ⟨⟨h.1,by simpa using hne⟩,h.2⟩
 |ov i t xs lo hi=>
  simp only [qS];split
  ·trivial
  ·rename_i hne
   rcases h with h|⟨h0,ha,h⟩
   ·exact .inl h
   ·exact .inr ⟨h0,⟨ha,by simpa using hne⟩,h⟩
 |emp=>exact h
 |dead=>trivial
def zJU (id:Nat) (t:Ty) (zs:List t.El):T→T
 | .ot i t' xs=>if i=id then (if t'=t then .ot id t zs else .dead) else .ot i t' xs
 |x=>qS id x
def qAR:List Bool→Bool
 |[]=>true
 |[b]=>b
 |b::c::r=>b&&qAR (c::r)
def zJK (id p n:Nat):Nat→List T→List Bool
 |_,[]=>[]
 |i, .ot j _ xs::r=>match Nat.beq j id with
  |true=>match Nat.beq i p with
   |true=>zJK id p n (i+1) r
   |false=>Nat.beq xs.length n::zJK id p n (i+1) r
  |false=>zJK id p n (i+1) r
 |i,_::r=>zJK id p n (i+1) r
theorem zVO: ∀ {l:List Bool},qAR l=true→ ∀b,b∈l→b=true
 |[],_,b,hb=>by simp at hb
 |[c],h,b,hb=>by simp only [aO] at hb;subst hb;exact h
 |c::c'::r,h,b,hb=>by
  simp only [qAR,aj] at h
  rcases aB.1 hb with rfl|hb
  ·exact h.1
  ·exact zVO h.2 b hb
theorem zSh {id p n:Nat} : ∀ {l:List T} {i:Nat},(∀b,b∈zJK id p n i l→b=true)→ ∀ (k:Nat) (t:Ty) (xs:List t.El),l[k]? =some (.ot id t xs)→i+k≠p→xs.length=n
 |[],i,_,k,t,xs,hk,_=>by simp at hk
 |x::r,i,h,k,t,xs,hk,hne=>by
  have hr: ∀b,b∈zJK id p n (i+1) r→b=true:=by
   intro b hb
   refine h b ?_
   cases x with
   |ot j t' ys=>
    simp only [zJK]
    split
    ·split
     ·exact hb
     ·exact aw _ hb
    ·exact hb
   |_=>exact hb
  cases k with
  |zero=>
   simp only [aY,aa] at hk
   subst hk
   have hip:Nat.beq i p=false:=by
    cases hb:Nat.beq i p with
    |false=>rfl
    |true=>exact absurd (aQ hb) (by simpa using hne)
   have:=h (Nat.beq xs.length n) (by simp only [zJK,bh,hip];exact dO)
   exact aQ this
  |succ k=>exact zSh hr k t xs (by simpa using hk) (by omega)
def zZP {St:Type} (e:Env St) (id p:Nat) (t:Ty) (zs:List t.El) (st:St) (dst:Option Tmp) (d:V):Env St:=
 (⟨(e.tm.map (zJU id t zs)).set p (.ot id t zs),e.vars.map (fun c=>c.map (List.map (qS id))),st⟩:Env St).put dst (.p d)
def zZO {St:Type} (e:Env St) (id:Nat) (t:Ty) (zs:List t.El) (st:St) (dst:Option Tmp):Env St:=
 (⟨e.tm.map (qS id),e.vars.map (fun c=>c.map (List.map (qS id))),st⟩:Env St).put dst (.ot id t zs)
section
variable {Γ:Sig} {P:Program} {G:Nat→Option (List V)} {S:jM Γ} {w0:World} {F0:Blk→Prop} {O0:xA} {a:Act} {w:World} {e:Env Γ.St}
theorem zUB {w:World} {F:Blk→Prop} (u:Value) (h:Rd w F u .bot):False:=by cases h
theorem qBT (hS:qG Γ P G S) (hi:Inv Γ G w0 F0 O0 a w e) {dst:Option Tmp} {c:Call} {type:TypeId} {pos:String} {after:Array Edge} {guard:Option (Nat×Bool)}
  {f:Operand} {g:FuncId} {p id:Nat} {xs:List Operand} {t:Ty} {ys zs:List t.El} {ds:List V} {st':Γ.St} {d:V}
  (hcal:c.callee= .value f) (hf:evx G e f= .p (.clo g [])) (hcargs:c.args.toList= .tmp p::xs) (hp:e.get p= .ot id t ys) (hxs:yP G e xs=some ds)
  (hlens:qAR (zJK id p ys.length 0 e.tm)=true) (hdb:d= .bot→False) (hsp:S g e.st (.bot:: .tl t ys::ds)=some (st', .p (.tup [.tl t zs,d]))) {Q:Exit→Act→World→Prop} :
  (⟨dst, .call c,type,pos,after,guard⟩:Oper).wp P a w (fun a' w'=>Inv Γ G w0 F0 O0 a' w' (zZP e id p t zs st' dst d)) Q:=by
 obtain ⟨F,O,β,hc,hG,hsz,hdf,ht,hv⟩:=hi
 obtain ⟨hbor,fn,hfn,hbody,hname⟩:=hS.bor g e.st t ys ds st' zs d hsp
 have hops: ∀x,zW w F β (zU e) (a.eval x) (evx G e x):=fun x=>yB hG ht x
 have hf0:=hops f
 rw [hf] at hf0
 have hx0:=ht p
 rw [hp] at hx0
 have hplt:p<e.tm.length:=by
  rcases aL p e.tm.length with h|h
  ·exact h
  ·simp only [Env.get,az,bg h,Option.getD_none] at hp
   cases hp
 obtain ⟨hlen,hargs⟩:=zDR (a:=a) xs ds (fun x _=>hops x) hxs
 have hrun:(execOp a.eval ⟨dst, .call c,type,pos,after,guard⟩).run P w= .ok (.enter g (c.args.map a.eval)) w:=by
  have hf1:Rd w F (a.eval f) (.clo g []):=hf0
  generalize hev:a.eval f=fv at hf1
  cases hf1 with
  |clo _ cv _ hl hcap=>
   have hcv:cv= #[]:=by simpa using hl
   subst hcv
   have hb: ¬fn.body=none:=by intro hbb;simp [hbb] at hbody
   have hname' : ¬ fn.name = "runtime.NumGoroutine" := by simpa using hname
   simp [execOp,resolve,hcal,hev,Deferred.ofValue,invoke,callFunc,hfn,hname',hb]
 have hnp:zCQ ds=none:=zHZ (fun r hr=>by
  cases xs with
  |nil=>rw [hr] at hlen;simp at hlen
  |cons x xs'=>exact zUB _ (hargs 0 (a.eval x) .bot (by simp) (by rw [hr];rfl)))
 have hcs:c.args=(.tmp p::xs).toArray:=by apply di;simpa using hcargs
 have hsize:(c.args.map a.eval).size=ds.length+1:=by rw [hcs];simp [hlen]
 have ha0:(c.args.map a.eval)[0]? =some (a.tmps.getD p undef):=by rw [hcs];simp [Act.eval]
 have hown:zQ9 w F ⟨fun _=>β.ob id,fun _=>β.ob id⟩ (fun _=>True) (a.tmps.getD p undef) 0 t.size (ys.map t.enc):=by
  rcases hx0 with h|⟨h0,_,h⟩
  ·exact .inl h
  ·exact .inr ⟨h0,trivial,h⟩
 have hal0:ys≠[]→zU e (.o id):=by
  intro h0
  rcases hx0 with ⟨h,_⟩|⟨_,h,_⟩
  ·exact absurd (by simpa using h) h0
  ·exact h
 have hcall:=(hbor.row hnp) w F O (β.ob id) (a.tmps.getD p undef) (c.args.map a.eval) hc.sig hG (fun b hb=>(hc.fin b hb).2) hown
  (fun h0=>⟨(hc.place _ (hal0 h0)).2.1,(hc.place _ (hal0 h0)).2.2.1,(hc.place _ (hal0 h0)).2.2.2⟩) hsize ha0
  (fun i x y hi hd=>hargs i x y (by rw [hcs] at hi;simpa using hi) hd)
 unfold Oper.wp
 rw [hrun]
 refine hcall.mono ?_
 rintro ex w' ⟨v,F',O',rfl,g1,g2,g3,g4,g5,g67⟩
 obtain ⟨g6,g7⟩:=g67.out hdb
 have hkb: ∀b,b<w.heap.size→ ¬O b→(ys≠[]→b≠β.ob id)→w'.heap[b]? =w.heap[b]? :=fun b hb ho hne=>g2.block b hb (fun h=>h.elim ho (fun h=>hne h.1 h.2))
 have hne: ∀x,zU e x→x≠ .o id→ys≠[]→β.blk x≠β.ob id:=fun x hx hxi h0 hh=>hxi (hc.dist x (.o id) hx (hal0 h0) hh)
 have hO': ∀b,b<w.heap.size→ ¬O b→ ¬O' b:=fun b hb ho h=>by
  rcases g3 b h with h|h
  ·exact ho h
  ·omega
 have hF': ∀b:Nat,b<w.heap.size→ ¬F b→ ¬F' b:=fun b hb hf h=>by
  rcases (g5 b h).1 with h|h
  ·exact hf h
  ·omega
 have hext:Ext w F β (alo id (zU e)) w' F' β (zU e):=
  ⟨g4,fun b hb=>hkb b (hc.fin b hb).2.1 (hc.fin b hb).2.2 (fun h0 hh=>(hc.place _ (hal0 h0)).2.2.1 (by rw [hh] at hb;exact hb)),fun x hx=>hx.1,fun _ _=>rfl,
   fun x hx=>hkb _ (hc.place x hx.1).2.1 (hc.place x hx.1).2.2.2 (hne x hx.1 hx.2)⟩
 have hcore:zDr Γ w0 F0 O0 w' F' O' β (zU e) st':=by
  refine ⟨⟨g2.os.trans hc.keep.os,g2.tape.trans hc.keep.tape,g2.output.trans hc.keep.output,ay hc.keep.size g2.size,?_,ay hc.keep.drawn g2.drawn⟩,g1,?_,?_,fun b hb=>g4 b (hc.f0 b hb),?_,hc.dist,?_⟩
  ·intro b hb ho
   rw [hkb b (by have:=hc.keep.size;omega) (fun h=>by
    rcases hc.oin b h with h|h
    ·exact ho (.inl h)
    ·omega) (fun h0 hh=>ho ((hc.place _ (hal0 h0)).1.old (by show β.ob id<_;rw [←hh];exact hb)|>fun h=>by rw [hh];exact h))]
   exact hc.keep.block b hb ho
  ·intro b hb
   rcases g3 b hb with h|h
   ·exact hc.oin b h
   ·exact .inr (ay hc.keep.size h)
  ·intro b hb
   obtain ⟨h1,h2,h3⟩:=g5 b hb
   refine ⟨?_,h2,h3⟩
   rcases h1 with h|h
   ·exact (hc.fin b h).1
   ·exact .inr (ay hc.keep.size h)
  ·intro x hx
   obtain ⟨k1,k2,k3,k4⟩:=hc.place x hx
   exact ⟨k1,cn k2 g2.size,hF' _ k2 k3,hO' _ k2 k4⟩
  ·intro b n hb
   obtain ⟨h1,h2,h3,cc,et,fl,h4,h5⟩:=hc.lent b n hb
   have hbw:b<w.heap.size:=by have:=hc.keep.size;omega
   refine ⟨h1,hO' b hbw h2,hF' b hbw h3,?_⟩
   by_cases hbi:ys≠[]∧b=β.ob id
   ·obtain ⟨hy,rfl⟩:=hbi
    rcases hown with ⟨hh,_⟩|⟨_,_,cap,hv0,c0,et0,r1,r2,_⟩
    ·exact absurd (by simpa using hh) hy
    ·rw [r1] at h4
     simp only [aa,Obj.cells.injEq] at h4
     obtain ⟨rfl,_,_⟩:=h4
     rcases g6 with ⟨hh,a0,hv1⟩|⟨_,_,cap1,hv1,c1,et1,q1,q2,_⟩
     ·rw [hv0] at hv1
      simp only [Value.slice.injEq,aW] at hv1
      exact absurd (aM hv1.2.1) hy
     ·rw [hv0] at hv1
      simp only [Value.slice.injEq] at hv1
      refine ⟨c1,et1,(0,0),q1,?_⟩
      rw [q2, ←hv1.2.2, ←r2];exact h5
   ·exact ⟨cc,et,fl,by rw [hkb b hbw h2 (fun h hh=>hbi ⟨h,hh⟩)];exact h4,h5⟩
 have hnew:zW w' F' β (zU e) (a.tmps.getD p undef) (.ot id t zs):=by
  rcases g6 with h|⟨h0,_,cap,hv0,hr⟩
  ·exact .inl h
  ·refine .inr ⟨h0,hal0 ?_,cap,hv0,hr⟩
   intro hy
   subst hy
   rcases hown with ⟨_,a0,h1⟩|⟨h1,_⟩
   ·rw [h1] at hv0
    simp only [Value.slice.injEq] at hv0
    have:zs.map t.enc=[]:=aM hv0.2.1.symm
    exact h0 this
   ·exact h1 rfl
 have hzl:zs.length=ys.length:=by
  have l1: ∀ (w:World) (F:Blk→Prop) (us:List t.El),zQ9 w F ⟨fun _=>β.ob id,fun _=>β.ob id⟩ (fun _=>True) (a.tmps.getD p undef) 0 t.size (us.map t.enc)→ ∃ad c,a.tmps.getD p undef= .slice ad us.length c:=by
   intro w F us h
   rcases h with ⟨h0,a0,h1⟩|⟨_,_,cap,h1,_⟩
   ·have hu0:us=[]:=by simpa using h0
    subst hu0;exact ⟨_,_,h1⟩
   ·exact ⟨_,_,by simpa using h1⟩
  obtain ⟨_,_,k1⟩:=l1 _ _ _ hown
  obtain ⟨_,_,k2⟩:=l1 _ _ _ g6
  rw [k1] at k2
  simp only [Value.slice.injEq] at k2
  exact k2.2.1.symm
 have hother: ∀q (us:List t.El),e.get q= .ot id t us→us.length=ys.length→zW w' F' β (zU e) (a.tmps.getD q undef) (.ot id t zs):=by
  intro q us hq hul
  have hTq:=ht q
  rw [hq] at hTq
  rcases hTq with ⟨h0,a0,h1⟩|⟨h0,hal,cap1,h1,c1,et1,k1,k2,k3,_⟩
  ·have hu0:us=[]:=by simpa using h0
   subst hu0
   have hz0:zs=[]:=aM (by rw [hzl, ←hul];rfl)
   subst hz0
   exact .inl ⟨rfl,a0,h1⟩
  ·have hy0:ys≠[]:=fun hh=>h0 (by rw [hh] at hul;simpa using hul)
   rcases hown with ⟨hh,_⟩|⟨_,_,cap,hv0,c0,et0,r1,r2,_⟩
   ·exact absurd (by simpa using hh) hy0
   ·rcases g6 with ⟨hh,_⟩|⟨hz0,_,cap2,hv1,c2,et2,q1,q2,q3,q4,q5⟩
    ·have:zs=[]:=by simpa using hh
     subst this
     exact absurd (aM hzl.symm) hy0
    ·rw [hv0] at hv1
     simp only [Value.slice.injEq] at hv1
     rw [r1] at k1
     simp only [aa,Obj.cells.injEq] at k1
     obtain ⟨rfl,_,_⟩:=k1
     refine .inr ⟨hz0,hal,cap1,?_,c2,et2,q1,?_,?_,q4,q5⟩
     ·rw [h1];simp [hul,hzl]
     ·rw [q2, ←hv1.2.2, ←r2,k2]
     ·simp only [aW] at k3 ⊢;omega
 have hlen1:((e.tm.map (zJU id t zs)).set p (.ot id t zs)).length=e.tm.length:=by simp
 have jB: ∀t',zW w' F' β (zU e) (a.tmps.getD t' undef) ((⟨(e.tm.map (zJU id t zs)).set p (.ot id t zs),e.vars.map (fun c=>c.map (List.map (qS id))),st'⟩:Env Γ.St).get t'):=by
  intro q
  have h1:(⟨(e.tm.map (zJU id t zs)).set p (.ot id t zs),e.vars.map (fun c=>c.map (List.map (qS id))),st'⟩:Env Γ.St).get q=if q=p then .ot id t zs else zJU id t zs (e.get q):=by
   simp only [Env.get,az,List.getElem?_set]
   split
   ·rename_i hpq
    subst hpq
    simp [hplt]
   ·rename_i hpq
    rw [if_neg (fun hh=>hpq hh.symm),am]
    cases e.tm[q]? with
    |none=>simp [zJU,qS]
    |some x=>rfl
  rw [h1]
  split
  ·rename_i h;rw [h];exact hnew
  ·rename_i hqp
   have hkill:zW w' F' β (zU e) (a.tmps.getD q undef) (qS id (e.get q)):=(ht q).killO.ext hext
   cases hx:e.get q with
   |ot i t' us=>
    rw [hx] at hkill
    simp only [zJU]
    split
    ·rename_i hi
     subst hi
     split
     ·rename_i htt
      subst htt
      refine hother q us hx ?_
      refine zSh (zVO hlens) q t' us ?_ (by simpa using hqp)
      simp only [Env.get,az] at hx
      cases hg:e.tm[q]? with
      |none=>rw [hg] at hx;cases hx
      |some x=>rw [hg] at hx;simp only [a7] at hx;rw [hx]
     ·trivial
    ·rename_i hi
     simp only [qS,if_neg hi] at hkill
     exact hkill
   |_=>rw [hx] at hkill;exact hkill
 refine Inv.of (al:=zU e) (F:=F') (O:=O') (β:=β) ?_ (hG.ext hext) ?_ ?_ ?_ ?_ ?_
 ·cases dst<;>exact hcore
 ·cases dst<;>simp [zZP,Env.put,Act.put,hsz]
 ·cases dst<;>exact hdf
 ·intro t'
  cases dst with
  |none=>exact jB t'
  |some q=>
   have h1:(zZP e id p t zs st' (some q) d).get t'=if t'=q∧q< ((e.tm.map (zJU id t zs)).set p (.ot id t zs)).length then .p d else (⟨(e.tm.map (zJU id t zs)).set p (.ot id t zs),e.vars.map (fun c=>c.map (List.map (qS id))),st'⟩:Env Γ.St).get t':=uF (⟨(e.tm.map (zJU id t zs)).set p (.ot id t zs),e.vars.map (fun c=>c.map (List.map (qS id))),st'⟩:Env Γ.St) q t' (.p d)
   rw [zA5,h1,hlen1,hsz]
   split
   ·exact g7
   ·exact jB t'
 ·intro s cs hcs
  have hcs':(e.mapT (qS id)).var s=some cs:=by cases dst<;>exact hcs
  rw [jR] at hcs'
  simp only [ah] at hcs'
  obtain ⟨cs0,hcs0,rfl⟩:=hcs'
  have ha:zU e (.v s):=⟨cs0,hcs0⟩
  refine ⟨ha,?_⟩
  obtain ⟨c0,et,q1,q2,q3⟩:=hv s cs0 hcs0
  refine ⟨c0,et,(hext.ha (.v s) ⟨ha,by simp⟩).trans q1,by simpa using q2,?_⟩
  intro i x y hi hy
  simp only [am,ah] at hy
  obtain ⟨y0,hy0,rfl⟩:=hy
  exact (q3 i x y0 hi hy0).killO.ext hext
 ·rintro s ⟨cs,hcs⟩
  refine ⟨cs.map (qS id),?_⟩
  have:(e.mapT (qS id)).var s=some (cs.map (qS id)):=by rw [jR,hcs];rfl
  cases dst<;>exact this
def zJ6 {St:Type} (G:Nat→Option (List V)) (e:Env St):List Operand→Option (Nat×Nat×List Operand)
 |[]=>none
 |x::r=>match evx G e x with
  | .lp s 0=>some (0,s,r)
  |_=>match zJ6 G e r with
   |some (k,s,r')=>some (k+1,s,x::r')
   |none=>none
theorem zLe {St:Type} {G:Nat→Option (List V)} {e:Env St} : ∀ {l:List Operand} {k s:Nat} {r:List Operand},zJ6 G e l=some (k,s,r)→
  k≤r.length∧l.length=r.length+1∧(∃x,l[k]? =some x∧evx G e x= .lp s 0)∧ ∀ (i:Nat) (x:Operand),r[i]? =some x→l[if i<k then i else i+1]? =some x
 |[],_,_,_,h=>by simp [zJ6] at h
 |x::r0,k,s,r,h=>by
  simp only [zJ6] at h
  split at h
  ·rename_i s' hx
   simp only [aa,ak] at h
   obtain ⟨rfl,rfl,rfl⟩:=h
   exact ⟨aI _,rfl,⟨x,rfl,hx⟩,fun i y hy=>by simpa using hy⟩
  ·split at h
   ·rename_i k' s' r' hr
    simp only [aa,ak] at h
    obtain ⟨rfl,rfl,rfl⟩:=h
    obtain ⟨h1,h2,⟨y,h3,h4⟩,h5⟩:=zLe hr
    refine ⟨by simpa using h1,by simp [h2],⟨y,by simpa using h3,h4⟩,?_⟩
    intro i z hz
    cases i with
    |zero=>simpa using hz
    |succ i=>
     have:=h5 i z (by simpa using hz)
     by_cases hi:i<k'
     ·rw [if_pos hi] at this
      rw [if_pos (by omega)]
      simpa using this
     ·rw [if_neg hi] at this
      rw [if_neg (by omega)]
      simpa using this
   ·cases h
def zKk:List T→Option (List V)
 |[]=>some []
 | .p d::r=>match zKk r with
  |some ds=>some (d::ds)
  |none=>none
 |_=>none
theorem zLy: ∀ {cs:List T} {vs:List V},zKk cs=some vs→cs=vs.map T.p
 |[],vs,h=>by simp [zKk] at h;subst h;rfl
 |x::r,vs,h=>by
  cases x with
  |p d=>
   simp only [zKk] at h
   split at h
   ·rename_i ds hds
    simp only [aa] at h
    subst h
    rw [cu, ←zLy hds]
   ·cases h
  |_=>simp [zKk] at h
def zZN {St:Type} (e:Env St) (s:Nat) (t:Ty) (z:t.El) (st:St) (dst:Option Tmp) (d:V):Env St:=
 (⟨e.tm,e.vars.set s (some ((t.cells z).map T.p)),st⟩:Env St).put dst (.p d)
theorem zW.extV {w w':World} {F F':Blk→Prop} {β:Lay} {al:j7→Prop} {v:Value} {x:T} {s:Nat} (h:Ext w F β (fun y=>al y∧y≠ .v s) w' F' β al) (hx:zW w F β al v x):zW w' F' β al v x:=by
 cases x with
 |lp s' off=>exact hx
 |p d=>exact zW.ext (x:= .p d) h hx
 |ow id k es=>exact zW.ext (x:= .ow id k es) h ⟨⟨hx.1,by simp⟩,hx.2⟩
 |oe id k es i off=>exact zW.ext (x:= .oe id k es i off) h ⟨⟨hx.1,by simp⟩,hx.2⟩
 |mp id es ck=>exact zW.ext (x:= .mp id es ck) h ⟨⟨hx.1,by simp⟩,hx.2⟩
 |ot id t xs=>
  refine zW.ext (x:= .ot id t xs) h ?_
  rcases hx with h0|⟨h0,ha,h1⟩
  ·exact .inl h0
  ·exact .inr ⟨h0,⟨ha,by simp⟩,h1⟩
 |oet id t xs i off=>exact zW.ext (x:= .oet id t xs i off) h ⟨⟨hx.1,by simp⟩,hx.2⟩
 |ov id t xs lo hi=>
  refine zW.ext (x:= .ov id t xs lo hi) h ?_
  rcases hx with h0|⟨h0,ha,h1⟩
  ·exact .inl h0
  ·exact .inr ⟨h0,⟨ha,by simp⟩,h1⟩
 |emp=>exact hx
 |dead=>trivial
theorem qBr (hS:qG Γ P G S) (hi:Inv Γ G w0 F0 O0 a w e) {dst:Option Tmp} {c:Call} {type:TypeId} {pos:String} {after:Array Edge} {guard:Option (Nat×Bool)}
  {f:Operand} {g:FuncId} {k s:Nat} {xs:List Operand} {cs:List T} {vs:List V} {t:Ty} {y z:t.El} {ds:List V} {st':Γ.St} {d:V}
  (hcal:c.callee= .value f) (hf:evx G e f= .p (.clo g [])) (hspl:zJ6 G e c.args.toList=some (k,s,xs)) (hxs:yP G e xs=some ds)
  (hcs:e.var s=some cs) (hvs:zKk cs=some vs) (hy:t.dec (.agg vs)=some y)
  (hsp:S g e.st (.bot:: .tl t [y]:: .bot:: .val (.int .i64 (k:Int))::ds)=some (st', .p (.tup [.tl t [z],d]))) {Q:Exit→Act→World→Prop} :
  (⟨dst, .call c,type,pos,after,guard⟩:Oper).wp P a w (fun a' w'=>Inv Γ G w0 F0 O0 a' w' (zZN e s t z st' dst d)) Q:=by
 obtain ⟨F,O,β,hc,hG,hsz,hdf,ht,hv⟩:=hi
 obtain ⟨hbor,fn,hfn,hbody,hname⟩:=hS.bor g e.st t [y] (.bot:: .val (.int .i64 (k:Int))::ds) st' [z] d hsp
 have hptr:qAX Γ P G g e.st t k [y] ds st' [z] d:=hbor
 have hops: ∀x,zW w F β (zU e) (a.eval x) (evx G e x):=fun x=>yB hG ht x
 have hf0:=hops f
 rw [hf] at hf0
 obtain ⟨s1,s2,⟨x0,s3,s4⟩,s5⟩:=zLe hspl
 have hx0:=hops x0
 rw [s4] at hx0
 obtain ⟨hal,hpv⟩:=hx0
 obtain ⟨hlen,hargs⟩:=zDR (a:=a) xs ds (fun x _=>hops x) hxs
 have hrun:(execOp a.eval ⟨dst, .call c,type,pos,after,guard⟩).run P w= .ok (.enter g (c.args.map a.eval)) w:=by
  have hf1:Rd w F (a.eval f) (.clo g []):=hf0
  generalize hev:a.eval f=fv at hf1
  cases hf1 with
  |clo _ cv _ hl hcap=>
   have hcv:cv= #[]:=by simpa using hl
   subst hcv
   have hb: ¬fn.body=none:=by intro hbb;simp [hbb] at hbody
   have hname' : ¬ fn.name = "runtime.NumGoroutine" := by simpa using hname
   simp [execOp,resolve,hcal,hev,Deferred.ofValue,invoke,callFunc,hfn,hname',hb]
 have hsize:(c.args.map a.eval).size=ds.length+1:=by rw [dK, ←da,s2,hlen]
 have hat: ∀ (i:Nat) (x:Operand),c.args.toList[i]? =some x→(c.args.map a.eval)[i]? =some (a.eval x):=by
  intro i x h
  rw [dP, ←bm,h]
  rfl
 have hak:(c.args.map a.eval)[k]? =some (.pointer (some ⟨β.vb s,0,none⟩)):=by rw [hat k x0 s3,hpv]
 have hrest: ∀ (i:Nat) (x:Value) (d:V),(c.args.map a.eval)[if i<k then i else i+1]? =some x→ds[i]? =some d→Rd w F x d:=by
  intro i x d0 h1 h2
  have hlt:i<xs.length:=by rw [hlen];exact (ac.1 h2).1
  have h3:xs[i]? =some xs[i]:=by simp [hlt]
  rw [hat _ _ (s5 i _ h3)] at h1
  simp only [aa] at h1
  subst h1
  exact hargs i _ d0 (by rw [am,h3];rfl) h2
 obtain ⟨c0,et,q1,q2,q3⟩:=hv s cs hcs
 have hcv:=zLy hvs
 subst hcv
 have hws:w5 vs (t.enc y).cells:=zND hy
 have hrow:qL w F (β.vb s) t.size 1 ([y].map t.enc):=by
  refine ⟨c0,et,q1,?_,by simp,?_,?_⟩
  ·rw [q2,aW,hws.len,vF];simp
  ·intro e0 he0
   simp only [cu,dD,aO] at he0
   subst he0
   exact vF t y
  ·intro i j e0 d0 x h1 h2 h3
   cases i with
   |succ i=>simp at h1
   |zero=>
    simp only [cu,dD,aY,aa] at h1
    subst h1
    have hlt:j<vs.length:=by rw [hws.len];exact (ac.1 h2).1
    have h4:vs[j]? =some vs[j]:=by simp [hlt]
    have h5:Rd w F x vs[j]:=q3 j x (.p vs[j]) (by simpa using h3) (by rw [am,h4];rfl)
    exact hws.get j _ d0 h4 h2 w F x h5
 obtain ⟨p1,p2,p3,p4⟩:=hc.place (.v s) hal
 have hcall:=hptr w F O (β.vb s) (c.args.map a.eval) hc.sig hG (fun b hb=>(hc.fin b hb).2) hrow rfl ⟨p2,p3,p4⟩ hsize (by rw [←hlen];exact s1) hak hrest
 unfold Oper.wp
 rw [hrun]
 refine hcall.mono ?_
 rintro ex w' ⟨v,F',O',rfl,g1,g2,g3,g4,g5,g6,_,g7⟩
 have hkb: ∀b,b<w.heap.size→ ¬O b→b≠β.vb s→w'.heap[b]? =w.heap[b]? :=fun b hb ho hne=>g2.block b hb (fun h=>h.elim ho hne)
 have hne: ∀x,zU e x→x≠ .v s→β.blk x≠β.vb s:=fun x hx hxi hh=>hxi (hc.dist x (.v s) hx hal hh)
 have hnew0:w0.heap.size≤β.vb s:=p1.v
 have hO': ∀b,b<w.heap.size→ ¬O b→ ¬O' b:=fun b hb ho h=>by
  rcases g3 b h with h|h
  ·exact ho h
  ·omega
 have hF': ∀b:Nat,b<w.heap.size→ ¬F b→ ¬F' b:=fun b hb hf h=>by
  rcases (g5 b h).1 with h|h
  ·exact hf h
  ·omega
 have hext:Ext w F β (fun x=>zU e x∧x≠ .v s) w' F' β (zU e):=
  ⟨g4,fun b hb=>hkb b (hc.fin b hb).2.1 (hc.fin b hb).2.2 (fun hh=>p3 (by rw [hh] at hb;exact hb)),fun x hx=>hx.1,fun _ _=>rfl,
   fun x hx=>hkb _ (hc.place x hx.1).2.1 (hc.place x hx.1).2.2.2 (hne x hx.1 hx.2)⟩
 have hext0:Ext w F β (fun _=>False) w' F' β (fun _=>False):=
  ⟨g4,hext.hf,fun x hx=>hx,fun _ _=>rfl,fun x hx=>hx.elim⟩
 have hcore:zDr Γ w0 F0 O0 w' F' O' β (zU e) st':=by
  refine ⟨⟨g2.os.trans hc.keep.os,g2.tape.trans hc.keep.tape,g2.output.trans hc.keep.output,ay hc.keep.size g2.size,?_,ay hc.keep.drawn g2.drawn⟩,g1,?_,?_,fun b hb=>g4 b (hc.f0 b hb),?_,hc.dist,?_⟩
  ·intro b hb ho
   rw [hkb b (by have:=hc.keep.size;omega) (fun h=>by
    rcases hc.oin b h with h|h
    ·exact ho (.inl h)
    ·omega) (fun hh=>by omega)]
   exact hc.keep.block b hb ho
  ·intro b hb
   rcases g3 b hb with h|h
   ·exact hc.oin b h
   ·exact .inr (ay hc.keep.size h)
  ·intro b hb
   obtain ⟨h1,h2,h3⟩:=g5 b hb
   refine ⟨?_,h2,h3⟩
   rcases h1 with h|h
   ·exact (hc.fin b h).1
   ·exact .inr (ay hc.keep.size h)
  ·intro x hx
   obtain ⟨k1,k2,k3,k4⟩:=hc.place x hx
   exact ⟨k1,cn k2 g2.size,hF' _ k2 k3,hO' _ k2 k4⟩
  ·intro b n hb
   obtain ⟨h1,h2,h3,cc,et,fl,h4,h5⟩:=hc.lent b n hb
   have hbw:b<w.heap.size:=by have:=hc.keep.size;omega
   exact ⟨h1,hO' b hbw h2,hF' b hbw h3,cc,et,fl,by rw [hkb b hbw h2 (fun hh=>by omega)];exact h4,h5⟩
 have hsl:s<e.vars.length:=by
  rcases aL s e.vars.length with h|h
  ·exact h
  ·simp [Env.var,bg h] at hcs
 have hvar: ∀s',(⟨e.tm,e.vars.set s (some ((t.cells z).map T.p)),st'⟩:Env Γ.St).var s'=if s'=s then some ((t.cells z).map T.p) else e.var s':=by
  intro s'
  simp only [Env.var]
  by_cases hh:s'=s
  ·subst hh;simp [hsl]
  ·simp [hh,aG (bX hh)]
 have jB: ∀t',zW w' F' β (zU e) (a.tmps.getD t' undef) (e.get t'):=fun t'=>(ht t').extV hext
 refine Inv.of (al:=zU e) (F:=F') (O:=O') (β:=β) ?_ (hG.ext hext0) ?_ ?_ ?_ ?_ ?_
 ·cases dst<;>exact hcore
 ·cases dst<;>simp [zZN,Env.put,Act.put,hsz]
 ·cases dst<;>exact hdf
 ·intro t'
  cases dst with
  |none=>exact jB t'
  |some q=>
   have h1:(zZN e s t z st' (some q) d).get t'=if t'=q∧q<e.tm.length then .p d else e.get t':=uF (⟨e.tm,e.vars.set s (some ((t.cells z).map T.p)),st'⟩:Env Γ.St) q t' (.p d)
   rw [zA5,h1,hsz]
   split
   ·exact g7
   ·exact jB t'
 ·intro s' cs' hcs'
  have hcs2:(⟨e.tm,e.vars.set s (some ((t.cells z).map T.p)),st'⟩:Env Γ.St).var s'=some cs':=by cases dst<;>exact hcs'
  rw [hvar] at hcs2
  split at hcs2
  ·rename_i hss
   subst hss
   simp only [aa] at hcs2
   subst hcs2
   obtain ⟨c1,et1,k1,k2,k3,k4,k5⟩:=g6
   refine ⟨hal,c1,et1,k1,?_,?_⟩
   ·rw [k2,aW,jA];simp
   ·intro i x y0 hx hy0
    simp only [am,ah] at hy0
    obtain ⟨d0,hd0,rfl⟩:=hy0
    exact k5 0 i (t.enc z) d0 x rfl (by rw [qY];exact hd0) (by simpa using hx)
  ·rename_i hss
   have ha':zU e (.v s'):=⟨cs',hcs2⟩
   refine ⟨ha',?_⟩
   obtain ⟨c',et',r1,r2,r3⟩:=hv s' cs' hcs2
   exact ⟨c',et',(hext.ha (.v s') ⟨ha',by simpa using hss⟩).trans r1,r2,fun i u y0 hu hy0=>(r3 i u y0 hu hy0).extV hext⟩
 ·rintro s' ⟨cs',hcs'⟩
  by_cases hss:s'=s
  ·refine ⟨(t.cells z).map T.p,?_⟩
   have:=hvar s'
   rw [if_pos hss] at this
   cases dst<;>exact this
  ·refine ⟨cs',?_⟩
   have:=hvar s'
   rw [if_neg hss,hcs'] at this
   cases dst<;>exact this
theorem zZ2 (hS:qG Γ P G S) (hi:Inv Γ G w0 F0 O0 a w e) {dst:Option Tmp} {c:Call} {type:TypeId} {pos:String} {after:Array Edge} {guard:Option (Nat×Bool)}
  {f:Operand} {g:FuncId} {p id:Nat} {xs:List Operand} {t:Ty} {ys zs:List t.El} {ds:List V} {st':Γ.St}
  (hcal:c.callee= .value f) (hf:evx G e f= .p (.clo g [])) (hcargs:c.args.toList= .tmp p::xs) (hp:e.get p= .ot id t ys) (hxs:yP G e xs=some ds)
  (hid:id≠jP) (hsp:S g e.st (.bot:: .tl t ys::ds)=some (st', .p (.tup [.tl t zs, .bot]))) {Q:Exit→Act→World→Prop} :
  (⟨dst, .call c,type,pos,after,guard⟩:Oper).wp P a w (fun a' w'=>Inv Γ G w0 F0 O0 a' w' (zZO e id t zs st' dst)) Q:=by
 obtain ⟨F,O,β,hc,hG,hsz,hdf,ht,hv⟩:=hi
 obtain ⟨hbor,fn,hfn,hbody,hname⟩:=hS.bor g e.st t ys ds st' zs .bot hsp
 have hops: ∀x,zW w F β (zU e) (a.eval x) (evx G e x):=fun x=>yB hG ht x
 have hf0:=hops f
 rw [hf] at hf0
 have hx0:=ht p
 rw [hp] at hx0
 obtain ⟨hlen,hargs⟩:=zDR (a:=a) xs ds (fun x _=>hops x) hxs
 have hrun:(execOp a.eval ⟨dst, .call c,type,pos,after,guard⟩).run P w= .ok (.enter g (c.args.map a.eval)) w:=by
  have hf1:Rd w F (a.eval f) (.clo g []):=hf0
  generalize hev:a.eval f=fv at hf1
  cases hf1 with
  |clo _ cv _ hl hcap=>
   have hcv:cv= #[]:=by simpa using hl
   subst hcv
   have hb: ¬fn.body=none:=by intro hbb;simp [hbb] at hbody
   have hname' : ¬ fn.name = "runtime.NumGoroutine" := by simpa using hname
   simp [execOp,resolve,hcal,hev,Deferred.ofValue,invoke,callFunc,hfn,hname',hb]
 have hnp:zCQ ds=none:=zHZ (fun r hr=>by
  cases xs with
  |nil=>rw [hr] at hlen;simp at hlen
  |cons x xs'=>exact zUB _ (hargs 0 (a.eval x) .bot (by simp) (by rw [hr];rfl)))
 have hcs:c.args=(.tmp p::xs).toArray:=by apply di;simpa using hcargs
 have hsize:(c.args.map a.eval).size=ds.length+1:=by rw [hcs];simp [hlen]
 have ha0:(c.args.map a.eval)[0]? =some (a.tmps.getD p undef):=by rw [hcs];simp [Act.eval]
 have hown:zQ9 w F ⟨fun _=>β.ob id,fun _=>β.ob id⟩ (fun _=>True) (a.tmps.getD p undef) 0 t.size (ys.map t.enc):=by
  rcases hx0 with h|⟨h0,_,h⟩
  ·exact .inl h
  ·exact .inr ⟨h0,trivial,h⟩
 have hal0:ys≠[]→zU e (.o id):=by
  intro h0
  rcases hx0 with ⟨h,_⟩|⟨_,h,_⟩
  ·exact absurd (by simpa using h) h0
  ·exact h
 have hcall:=(hbor.row hnp) w F O (β.ob id) (a.tmps.getD p undef) (c.args.map a.eval) hc.sig hG (fun b hb=>(hc.fin b hb).2) hown
  (fun h0=>⟨(hc.place _ (hal0 h0)).2.1,(hc.place _ (hal0 h0)).2.2.1,(hc.place _ (hal0 h0)).2.2.2⟩) hsize ha0
  (fun i x y hi hd=>hargs i x y (by rw [hcs] at hi;simpa using hi) hd)
 unfold Oper.wp
 rw [hrun]
 refine hcall.mono ?_
 rintro ex w' ⟨v,F',O',rfl,g1,g2,g3,g4,g5,g6,g7⟩
 have hkb: ∀b,b<w.heap.size→ ¬O b→(ys≠[]→b≠β.ob id)→w'.heap[b]? =w.heap[b]? :=fun b hb ho hne=>g2.block b hb (fun h=>h.elim ho (fun h=>hne h.1 h.2))
 have hne: ∀x,zU e x→x≠ .o id→ys≠[]→β.blk x≠β.ob id:=fun x hx hxi h0 hh=>hxi (hc.dist x (.o id) hx (hal0 h0) hh)
 have hnew0:ys≠[]→w0.heap.size≤β.ob id:=fun h0=>(hc.place _ (hal0 h0)).1.o hid
 have hO': ∀b,b<w.heap.size→ ¬O b→ ¬O' b:=fun b hb ho h=>by
  rcases g3 b h with h|h
  ·exact ho h
  ·omega
 have hF': ∀b:Nat,b<w.heap.size→ ¬F b→ ¬F' b:=fun b hb hf h=>by
  rcases (g5 b h).1 with h|h
  ·exact hf h
  ·omega
 have hext:Ext w F β (alo id (zU e)) w' F' β (zU e):=
  ⟨g4,fun b hb=>hkb b (hc.fin b hb).2.1 (hc.fin b hb).2.2 (fun h0 hh=>(hc.place _ (hal0 h0)).2.2.1 (by rw [hh] at hb;exact hb)),fun x hx=>hx.1,fun _ _=>rfl,
   fun x hx=>hkb _ (hc.place x hx.1).2.1 (hc.place x hx.1).2.2.2 (hne x hx.1 hx.2)⟩
 have hcore:zDr Γ w0 F0 O0 w' F' O' β (zU e) st':=by
  refine ⟨⟨g2.os.trans hc.keep.os,g2.tape.trans hc.keep.tape,g2.output.trans hc.keep.output,ay hc.keep.size g2.size,?_,ay hc.keep.drawn g2.drawn⟩,g1,?_,?_,fun b hb=>g4 b (hc.f0 b hb),?_,hc.dist,?_⟩
  ·intro b hb ho
   rw [hkb b (by have:=hc.keep.size;omega) (fun h=>by
    rcases hc.oin b h with h|h
    ·exact ho (.inl h)
    ·omega) (fun h0 hh=>by have:=hnew0 h0;omega)]
   exact hc.keep.block b hb ho
  ·intro b hb
   rcases g3 b hb with h|h
   ·exact hc.oin b h
   ·exact .inr (ay hc.keep.size h)
  ·intro b hb
   obtain ⟨h1,h2,h3⟩:=g5 b hb
   refine ⟨?_,h2,h3⟩
   rcases h1 with h|h
   ·exact (hc.fin b h).1
   ·exact .inr (ay hc.keep.size h)
  ·intro x hx
   obtain ⟨k1,k2,k3,k4⟩:=hc.place x hx
   exact ⟨k1,cn k2 g2.size,hF' _ k2 k3,hO' _ k2 k4⟩
  ·intro b n hb
   obtain ⟨h1,h2,h3,cc,et,fl,h4,h5⟩:=hc.lent b n hb
   have hbw:b<w.heap.size:=by have:=hc.keep.size;omega
   exact ⟨h1,hO' b hbw h2,hF' b hbw h3,cc,et,fl,by rw [hkb b hbw h2 (fun h0 hh=>by have:=hnew0 h0;omega)];exact h4,h5⟩
 have hnew:zW w' F' β (zU e) v (.ot id t zs):=by
  rcases g6 with h|⟨h0,_,cap,hv0,hr⟩
  ·exact .inl h
  ·exact .inr ⟨h0,hal0 (fun hy=>h0 (by rw [g7 hy];rfl)),cap,hv0,hr⟩
 have jB: ∀t',zW w' F' β (zU e) (a.tmps.getD t' undef) ((e.mapT (qS id)).get t'):=by
  intro q
  rw [wL rfl]
  exact (ht q).killO.ext hext
 refine Inv.of (al:=zU e) (F:=F') (O:=O') (β:=β) ?_ (hG.ext hext) ?_ ?_ ?_ ?_ ?_
 ·cases dst<;>exact hcore
 ·cases dst<;>simp [zZO,Env.put,Act.put,hsz]
 ·cases dst<;>exact hdf
 ·intro t'
  cases dst with
  |none=>exact jB t'
  |some q=>
   have h1:(zZO e id t zs st' (some q)).get t'=if t'=q∧q< (e.tm.map (qS id)).length then .ot id t zs else (e.mapT (qS id)).get t':=uF (⟨e.tm.map (qS id),e.vars.map (fun c=>c.map (List.map (qS id))),st'⟩:Env Γ.St) q t' (.ot id t zs)
   rw [zA5,h1,aW,hsz]
   split
   ·exact hnew
   ·exact jB t'
 ·intro s cs hcs
  have hcs':(e.mapT (qS id)).var s=some cs:=by cases dst<;>exact hcs
  rw [jR] at hcs'
  simp only [ah] at hcs'
  obtain ⟨cs0,hcs0,rfl⟩:=hcs'
  have ha:zU e (.v s):=⟨cs0,hcs0⟩
  refine ⟨ha,?_⟩
  obtain ⟨c0,et,q1,q2,q3⟩:=hv s cs0 hcs0
  refine ⟨c0,et,(hext.ha (.v s) ⟨ha,by simp⟩).trans q1,by simpa using q2,?_⟩
  intro i x y hi hy
  simp only [am,ah] at hy
  obtain ⟨y0,hy0,rfl⟩:=hy
  exact (q3 i x y0 hi hy0).killO.ext hext
 ·rintro s ⟨cs,hcs⟩
  refine ⟨cs.map (qS id),?_⟩
  have:(e.mapT (qS id)).var s=some (cs.map (qS id)):=by rw [jR,hcs];rfl
  cases dst<;>exact this
end
end Go.Ve

namespace Go.Ve
open Go
section
variable {Γ:Sig} {ρ:Type} (P:jJ) (G:Nat→Option (List V)) (S:zQ Γ)
def zVN (e:Env Γ.St) (dst:Option Tmp) (c:Call):Option (Kex Γ ρ):=
 match c.callee,c.args.toList,c.argTypes.toList,dst with
 | .builtin .append,[.tmp p,x1],[t0,t1],some d=>
  match e.get p with
  | .ov id t' xs 0 hi=>match P.und t0,P.und t1 with
   |some (.slice el),some (.slice _)=>match P.inf el with
    |some info=>match info.zero,zV9 (evx G e x1) with
     |some z,some ⟨t,y::ys⟩=>
      if zZZ p x1=false then none else
      if h:t'=t then
       if t.size=info.size∧1≤info.bytes∧zPf z=info.size∧id≠jP then
        some (fun K=>Option.bind (app info.bytes (List.take hi (h▸xs)) (y::ys)) fun zs=>K { (e.kill id) with tm:=(e.kill id).tm.set d (.ot id t zs) })
       else none
      else none
     |_,_=>none
    |none=>none
   |_,_=>none
  |_=>none
 |_,_,_,_=>none
def wX (e:Env Γ.St) (o:Oper):Option (Kex Γ ρ):=
 match o.op with
 | .store t ap x=>match o.dst with
  |some _=>none
  |none=>match evx G e ap,evx G e x with
   | .oet id ty xs i off, .p d=>
    if wA P t=some d.cells.length∧off+d.cells.length≤ty.size∧d.cells.all V.one=true∧(ty.aggT=false→d.cells.length=1∧ty.size=1) then
     some (fun K=>Option.bind (atN xs i) fun y=>match zZY ty y off d with
      |some z=>K (e.mapT (zHF id ty i z))
      |none=>none)
    else none
   |_,_=>none
 | .call c=>match zVN P G e o.dst c with
  |some q=>some q
  |none=>match c.callee,c.args.toList,c.argTypes.toList,o.dst with
  | .builtin .append,[x0,x1],[t0,t1],some d=>match P.und t0,P.und t1 with
   |some (.slice el),some (.slice _)=>match P.inf el with
    |some info=>match info.zero,zV9 (evx G e x1) with
     |some z,some ⟨t,ys⟩=>match zVo t (evx G e x0) with
      |some (nm,xs)=>
       if t.size=info.size∧1≤info.bytes∧zPf z=info.size∧nm.getD d≠jP then
        some (fun K=>Option.bind (app info.bytes xs ys) fun zs=>
         K { (e.kill (nm.getD d)) with tm:=(e.kill (nm.getD d)).tm.set d (.ot (nm.getD d) t zs) })
       else none
      |none=>none
     |_,_=>none
    |none=>none
   |_,_=>none
  |_,_,_,_=>none
 |_=>none
def wXs (e:Env Γ.St) (o:Oper):Option (Kex Γ ρ):=
 match wX P G e o with
 |some q=>some q
 |none=>match evW P G e o with
  |some e1=>some (fun K=>K e1)
  |none=>none
def zKh (e:Env Γ.St) (o:Oper):Option (Kex Γ ρ):=
 match qXs P G S e o with
 |some q=>some (fun K=>q (fun r=>match yZ e o.dst r with
  |some e1=>K e1
  |none=>none))
 |none=>wXs P G e o
def qCU (e:Env Γ.St) (o:Oper):Option (Kex Γ ρ):=
 match o.op with
 | .call c=>match c.callee,c.args.toList with
  | .value f, .tmp p::xs=>match evx G e f,e.get p,yP G e xs with
   | .p (.clo g []), .ot id t ys,some ds=>match S g e.st (.bot:: .tl t ys::ds) with
    |some cx=>match cx.pl with
     |false=>some (fun K=>zLW (qAR (zJK id p ys.length 0 e.tm)) (Option.bind cx.m fun y=>match cx.res y with
      | .p (.tup [.tl _ _, .bot])=>none
      | .p (.tup [.tl t' zs,d])=>if h:t'=t then K (zZP e id p t (h▸zs) (cx.st y) o.dst d) else none
      |_=>none))
     |true=>match Nat.beq id jP with
      |true=>none
      |false=>some (fun K=>Option.bind cx.m fun y=>match cx.res y with
       | .p (.tup [.tl t' zs, .bot])=>if h:t'=t then K (zZO e id t (h▸zs) (cx.st y) o.dst) else none
       |_=>none)
    |none=>none
   |_,_,_=>none
  |_,_=>none
 |_=>none
def qC9 (tys:List TypeId) (k:Nat):Option Ty:=
 match tys[k]? with
 |some tp=>match P.und tp with
  |some (.pointer el)=>P.ty el
  |_=>none
 |none=>none
def qCt (e:Env Γ.St) (o:Oper):Option (Kex Γ ρ):=
 match o.op with
 | .call c=>match c.callee with
  | .value f=>match evx G e f,zJ6 G e c.args.toList with
   | .p (.clo g []),some (k,s,xs)=>match yP G e xs,e.var s,qC9 P c.argTypes.toList k with
    |some ds,some cs,some t=>match zKk cs with
     |some vs=>match t.dec (.agg vs) with
      |some y=>match S g e.st (.bot:: .tl t [y]:: .bot:: .val (.int .i64 (k:Int))::ds) with
       |some cx=>match cx.pl with
        |false=>some (fun K=>Option.bind cx.m fun u=>match cx.res u with
         | .p (.tup [.tl t' [z],d])=>if h:t'=t then K (zZN e s t (h▸z) (cx.st u) o.dst d) else none
         |_=>none)
        |true=>none
       |none=>none
      |none=>none
     |none=>none
    |_,_,_=>none
   |_,_=>none
  |_=>none
 |_=>none
def qDl:Option (Nat×Nat×List Operand)→Nat
 |some (_,s,_)=>2^(2*s+1)
 |none=>0
def zJX (e:Env Γ.St) (o:Oper):Nat:=
 wP G e o|||match o.op with
 | .call c=>qDl (zJ6 G e c.args.toList)
 |_=>0
def zSZ (e:Env Γ.St) (o:Oper):Option (Kex Γ ρ):=
 match zKh P G S e o with
 |some q=>some q
 |none=>match qCU G S e o with
  |some q=>some q
  |none=>qCt P G S e o
def qAQ (e:Env Γ.St) (lg:Nat) (o:Oper) (K:Env Γ.St→Nat→Option ρ):Option ρ:=
 match zSZ P G S e o with
 |some q=>q (fun e1=>K e1 (lg|||zJX G e o))
 |none=>match zSZ P G S (frzOps G (zQo o) e) o with
  |some q=>q (fun e1=>K e1 (lg|||(zPj G (zQo o) e|||zJX G (frzOps G (zQo o) e) o)))
  |none=>none
def zZm (ops:Array Oper) (e:Env Γ.St) (lg:Nat) (o:Oper) (K:Env Γ.St→Nat→Option ρ):Option ρ:=
 match o.guard with
 |none=>qAQ P G S e lg o K
 |some (j,want)=>match (ops[j]?).bind (·.dst) with
  |none=>K (e.put o.dst (.p (.val undef))) (lg|||zCr o.dst)
  |some t=>match e.get t with
   | .p (.val (.bool b))=>if t<e.tm.length then
     cond b (match want with
      |true=>zKx t (e.lit t true) (fun e=>qAQ P G S e lg o K)
      |false=>K ((e.lit t true).put o.dst (.p (.val undef))) (lg|||zCr o.dst))
     (match want with
      |true=>K ((e.lit t false).put o.dst (.p (.val undef))) (lg|||zCr o.dst)
      |false=>zKx t (e.lit t false) (fun e=>qAQ P G S e lg o K))
    else none
   | .p (.val (.tuple _))=>K (e.put o.dst (.p (.val undef))) (lg|||zCr o.dst)
   |_=>none
def seqX (ops:Array Oper):List Oper→Env Γ.St→Nat→(Env Γ.St→Nat→Option ρ)→Option ρ
 |[],e,lg,K=>K e lg
 |o::rest,e,lg,K=>zZm P G S ops e lg o (fun e1 lg=>kOp o e1 (fun e1=>seqX ops rest e1 lg K))
def qCw (e:Env Γ.St) (o:Oper) (K:Env Γ.St→Option ρ):Option ρ:=
 match o.guard with
 |none=>match qXs P G S e o with
  |some q=>q (fun r=>match r with
   | .frzT t xs=>match yZ e o.dst (.ownT t xs) with
    |some e1=>K e1
    |none=>none
   |_=>none)
  |none=>none
 |some _=>none
def zZy (ops:Array Oper) (k:Nat) (e:Env Γ.St) (lg:Nat) (K:Env Γ.St→Nat→Option ρ):Option ρ:=
 seqX P G S ops (ops.toList.take k) e lg (fun e lg=>match ops.toList.drop k with
  |o::rest=>qCw P G S e o (fun e1=>kOp o e1 (fun e1=>seqX P G S ops rest e1 (lg|||zCr o.dst) K))
  |[]=>none)
def zD4 (e:Env Γ.St) (lg:Nat) (o:Oper) (K:Env Γ.St→Nat→Option ρ):Option ρ:=
 match qXs P G S e o with
 |some q=>q (fun r=>match zIw e o.dst r with
  |some e1=>K e1 (lg|||zCr o.dst)
  |none=>none)
 |none=>none
def zAM (ops:Array Oper):List Oper→Env Γ.St→Nat→(Env Γ.St→Nat→Option ρ)→Option ρ
 |[],e,lg,K=>K e lg
 |o::rest,e,lg,K=>
  match o.guard with
  |none=>if zMU G (qH (o::rest)) e o then zD4 P G S e lg o (fun e1 lg=>kOp o e1 (fun e1=>zAM ops rest e1 lg K)) else none
  |some (j,want)=>match (ops[j]?).bind (·.dst) with
   |none=>zKx (o.dst.getD 0) (e.put o.dst (.p (.val undef))) (fun e1=>zAM ops rest e1 (lg|||zCr o.dst) K)
   |some t=>match e.get t with
    | .p (.val (.bool b))=>if t<e.tm.length then
      cond b (match want with
       |true=>zKx t (e.lit t true) (fun e=>if zMU G (qH (o::rest)) e o then zD4 P G S e lg o (fun e1 lg=>kOp o e1 (fun e1=>zAM ops rest e1 lg K)) else none)
       |false=>zKx (o.dst.getD 0) ((e.lit t true).put o.dst (.p (.val undef))) (fun e1=>zAM ops rest e1 (lg|||zCr o.dst) K))
      (match want with
       |true=>zKx (o.dst.getD 0) ((e.lit t false).put o.dst (.p (.val undef))) (fun e1=>zAM ops rest e1 (lg|||zCr o.dst) K)
       |false=>zKx t (e.lit t false) (fun e=>if zMU G (qH (o::rest)) e o then zD4 P G S e lg o (fun e1 lg=>kOp o e1 (fun e1=>zAM ops rest e1 lg K)) else none))
     else none
    | .p (.val (.tuple _))=>zKx (o.dst.getD 0) (e.put o.dst (.p (.val undef))) (fun e1=>zAM ops rest e1 (lg|||zCr o.dst) K)
    |_=>none
def zVF:List Nat→Nat
 |[]=>0
 |d::r=>2^(2*d)|||zVF r
def zQT (ops:Array Oper) (k:Nat) (e:Env Γ.St) (lg:Nat) (K:Env Γ.St→Nat→Option ρ):Option ρ:=
 if k≤ops.size&&zHJ ops k&&zGH ops k&&zNC (ops.extract 0 k) then
  zDU (killAll (qH (ops.extract 0 k).toList) e) (fun e=>zAM P G S (ops.extract 0 k) (ops.extract 0 k).toList e (lg|||zVF (qH (ops.extract 0 k).toList))
   (fun e1 lg=>seqX P G S ops (ops.toList.drop k) e1 lg K))
 else none
def qAF (ops:Array Oper) (e:Env Γ.St) (lg:Nat) (K:Env Γ.St→Nat→Option ρ):Option ρ:=zQT P G S ops (zCI ops.toList) e lg K
def zWv:T→Bool
 | .p _=>true
 | .lp _ _=>true
 |_=>false
def zWE {St:Type} (ops:Array Oper) (e1:Env St):List Nat→Option (List Fl)
 |[]=>some []
 |i::r=>match ops[i]? with
  |some o=>match o.dst with
   |some d=>match zWv (e1.get d) with
    |true=>(zWE ops e1 r).map (⟨i,d, .c (e1.get d)⟩:: ·)
    |false=>match o.op with
     | .move (.tmp s)=>(zWE ops e1 r).map (⟨i,d, .a s⟩:: ·)
     |_=>none
   |none=>none
  |none=>none
def flD (fl:List Fl) (t:Nat):Bool:=fl.any (fun q=>Nat.beq q.d t)
def flC (fl:List Fl) (t:Nat):Bool:=fl.any (fun q=>Nat.beq q.d t&&(match q.v with
 | .c _=>true
 | .a _=>false))
def zU8 (n:Nat):List Fl→Bool
 |[]=>true
 |q::r=> !flD r q.d&&Nat.blt q.d n&&zU8 n r
def qAl (fl:List Fl):Bool:=fl.all (fun q=>match q.v with
 | .c _=>true
 | .a s=> !flD fl s)
def noD (d:Nat):T→Bool
 | .ow i _ _=> !Nat.beq i d
 | .oe i _ _ _ _=> !Nat.beq i d
 | .lp s _=> !Nat.beq s d
 | .mp i _ _=> !Nat.beq i d
 | .ot i _ _=> !Nat.beq i d
 | .oet i _ _ _ _=> !Nat.beq i d
 | .ov i _ _ _ _=> !Nat.beq i d
 |_=>true
def qCc {St:Type} (d:Nat) (e:Env St):Bool:=
 e.tm.all (noD d)&&e.vars.all (fun c=>match c with
  |some cs=>cs.all (noD d)
  |none=>true)&&(e.var d).isNone&&Nat.blt d e.vars.length
def zZU {St:Type} (fl:List Fl) (m:Nat) (e1:Env St):Operand→Bool
 | .tmp t=>(flC fl t||(!flD fl t&& !Nat.testBit m (2*t)))&&(match e1.get t with
  | .p _=>true
  | .lp s _=> !Nat.testBit m (2*s)&&(match e1.var s with
   |some cs=>cs.all (fun x=>match x with| .p _=>true|_=>false)&& !Nat.testBit m (2*s+1)
   |none=>false)
  |_=>false)
 |_=>true
def qBs {St:Type} (ops:Array Oper) (fl:List Fl) (m:Nat) (e1 b:Env St) (q:Fl):Bool:=
 match ops[q.i]? with
 |some o=>match q.v with
  | .a s=>match o.op with
   | .move (.tmp s')=>Nat.beq s' s
   |_=>false
  | .c _=>o.op.operands.toList.all (zZU fl m e1)&&qCc q.d b&&fl.all (fun r=>match r.v with
   | .c x=>noD q.d x
   | .a _=>true)
 |none=>false
def zV6 (m:Nat) (dst:Option Nat) (q:Fl):Bool:=
 (match dst with
  |some d=> !Nat.beq d q.d
  |none=>true)&&(match q.v with
  | .c (.p _)=>true
  | .c (.lp s _)=> !Nat.testBit m (2*s)
  | .c _=>false
  | .a s=>match dst with
   |some d=> !Nat.beq d s
   |none=>true)
def qDE (fl:List Fl) (A:Fl→Bool) (o:Oper):Bool:=
 o.op.operands.toList.all (fun x=>match x with
  | .tmp t=>fl.all (fun q=> !Nat.beq q.d t||A q)
  |_=>true)
def zCq:List Fl→Nat
 |[]=>0
 |q::r=>2^(2*q.d)|||zCq r
def zW8 (anc:Array Nat) (c:Nat) (q:Fl):Bool:=(anc.getD c 0).testBit q.i&&decide (q.i<c)
def zWe (e:Env Γ.St) (o:Oper):Option (Kex Γ ρ):=
 match zKh P G S e o with
 |some q=>some q
 |none=>match zIV o with
  |true=>zKh P G S (zU3 G o e) o
  |false=>none
def zIu (ops:Array Oper) (anc:Array Nat) (fl:List Fl) (e1:Env Γ.St):List Nat→Env Γ.St→Nat→(Env Γ.St→Nat→Option ρ)→Option ρ
 |[],b,m,K=>zDU (wB b fl) (fun e=>K e (m|||zCq fl))
 |c::rest,b,m,K=>match ops[c]? with
  |some o=>zDU (wB b (fl.filter (zW8 anc c))) (fun bA=>match qDE fl (zW8 anc c) o&&fl.all (zV6 (wP G bA o) o.dst) with
   |true=>match zWe P G S bA o with
    |some q=>q (fun b1=>kOp o b1 (fun b1=>match fl.all (fun q=>zW8 anc c q||qBs ops fl (m|||(zCq fl|||wP G bA o)) e1 b1 q) with
     |true=>zIu ops anc fl e1 rest b1 (m|||(zCq fl|||wP G bA o)) K
     |false=>none))
    |none=>none
   |false=>none)
  |none=>none
def zW2 (ops:Array Oper) (Cm Um:Nat) (e:Env Γ.St) (lg:Nat) (K:Env Γ.St→Nat→Option ρ):Option ρ:=
 if qCT ops (Region.before ops) Cm Um then
  zDU (killAll (qH (vE ops Cm).toList) e) (fun e=>zAM P G S (vE ops Cm) (vE ops Cm).toList e (lg|||zVF (qH (vE ops Cm).toList))
   (fun e1 lg=>match zWE ops e1 ((List.range ops.size).filter (fun i=>Nat.testBit Um i&& !Nat.testBit Cm i)) with
    |some fl=>match zU8 e1.tm.length fl&&qAl fl&&fl.all (fun q=>(e1.var q.d).isNone)&&fl.all (qBs ops fl (zCq fl) e1 (zFc e1 fl)) with
     |true=>zDU (zFc e1 fl) (fun b=>zIu P G S ops (Region.before ops) fl e1 ((List.range ops.size).filter (fun i=>Nat.testBit Cm i)) b (zCq fl) (fun e2 m=>K e2 (lg|||m)))
     |false=>none
    |none=>none))
 else none
def zYb:List (Nat×Nat×Nat)→Env Γ.St→(Env Γ.St→Option ρ)→Option ρ
 |[],e,K=>K e
 |(a,b,n)::r,e,K=>match n with
  |1=>match qCx b e&&(!Nat.beq a jP&& !Nat.beq b jP) with
   |true=>zDU (e.mapT (zWg a b)) (fun e=>zYb r e K)
   |false=>none
  |2=>zDU (frzOE a e) (fun e=>zYb r e K)
  |_=>zYb r e K
def zXG:List (Nat×Nat×Nat)→List Operand
 |[]=>[]
 |(t,_,n)::r=>match n with
  |0=> .tmp t::zXG r
  |_=>zXG r
def zUz (ops:Array Oper) (d:Bool) (fz:Option (List (Nat×Nat×Nat))) (e:Env Γ.St) (lg:Nat) (K:Env Γ.St→Nat→Option ρ):Option ρ:=
 match d with
 |false=>match fz with
  |none=>seqX P G S ops ops.toList e lg K
  |some []=>seqX P G S ops ops.toList e lg K
  |some ((k,_,n)::_)=>match n with
   |7=>zZy P G S ops k e lg K
   |_=>seqX P G S ops ops.toList e lg K
 |true=>match fz with
  |none=>qAF P G S ops e lg K
  |some []=>zDU (frzOps G (zAO ops.toList) e) (fun e1=>qAF P G S ops e1 (lg|||zPj G (zAO ops.toList) e) K)
  |some ((Cm,Um,n)::ts)=>match n with
   |9=>qAF P G S ops e lg K
   |8=>zQT P G S ops Cm e lg K
   |_=>zDU (frzOps G (zXG ts) e) (fun e1=>zW2 P G S ops Cm Um e1 (lg|||zPj G (zXG ts) e) K)
def qBl (ops:Array Oper) (d:Bool) (fz:Option (List (Nat×Nat×Nat))) (e:Env Γ.St) (lg:Nat) (K:Env Γ.St→Nat→Option ρ):Option ρ:=
 match fz with
 |none=>zUz P G S ops d fz e lg K
 |some []=>zUz P G S ops d fz e lg K
 |some (x::ts)=>zUz P G S ops d fz e lg (fun e1 lg1=>zYb ts e1 (fun e2=>K e2 lg1))
end
section
variable {Γ:Sig} {ρ:Type} {P:Program} {G:Nat→Option (List V)} {S:zQ Γ} {e:Env Γ.St} {o:Oper} {ops:Array Oper} {v:ρ}
theorem zVM {q:Kex Γ ρ} {K:Env Γ.St→Option ρ} {dst:Option Tmp} {c:Call} (h:zVN P G e dst c=some q) (hK:q K=some v): ∃e1,kC P G e dst c=some e1∧K e1=some v:=by
 unfold zVN at h
 split at h
 ·rename_i p x1 t0 t1 d hcal hargs htys
  split at h
  ·rename_i id t' xs hi jB
   split at h
   ·rename_i el el1 hu0 hu1
    split at h
    ·rename_i info hinfo
     split at h
     ·rename_i z t y ys hz hsrc
      split at h
      ·cases h
      ·rename_i hne
       split at h
       ·rename_i htt
        subst htt
        split at h
        ·rename_i hok
         simp only [aa] at h
         subst h
         obtain ⟨zs,hzs,hK⟩:=bind_some hK
         unfold app at hzs
         split at hzs
         ·rename_i hroom
          simp only [aa] at hzs
          subst hzs
          refine ⟨_,?_,hK⟩
          have hu0':P.underlying t0=some (.slice el):=hu0
          have hu1':P.underlying t1=some (.slice el1):=hu1
          have hinfo':P.info? el=some info:=hinfo
          simp only [kC,hcal,hargs,htys,hu0',hu1',hinfo',hz,hsrc,jB]
          rw [if_neg hne,dif_pos trivial,if_pos hok,if_pos hroom]
         ·cases hzs
        ·cases h
       ·cases h
     ·cases h
    ·cases h
   ·cases h
  ·cases h
 ·cases h
theorem zW7 {q:Kex Γ ρ} {dst:Option Tmp} {c:Call} (h:zVN P G e dst c=some q):wW P G e dst c=none:=by
 unfold zVN at h
 split at h
 ·rename_i p x1 t0 t1 d hcal hargs htys
  split at h
  ·rename_i id t' xs hi jB
   unfold wW
   simp only [hcal,hargs,htys]
   repeat' split
   all_goals first|rfl|skip
   all_goals (rename_i hdst _ _;simp only [evx,jB,zVo] at hdst;cases hdst)
  ·cases h
 ·cases h
theorem zZd {q:Kex Γ ρ} {K:Env Γ.St→Option ρ} (h:wX P G e o=some q) (hK:q K=some v): ∃e1,evW P G e o=some e1∧K e1=some v:=by
 obtain ⟨dst,op,type,pos,after,guard⟩:=o
 cases op<;>simp only [wX,reduceCtorEq] at h
 case store t ap x=>
  split at h
  ·cases h
  ·rename_i hd
   split at h
   ·rename_i id ty xs i off d hp hx
    split at h
    ·rename_i hcond
     simp only [aa] at h
     subst h
     obtain ⟨y,hg,h3⟩:=bind_some hK
     unfold atN at hg
     split at h3
     ·rename_i z hz
      refine ⟨_,?_,h3⟩
      simp only [evW,hp,hx,zEx]
      rw [if_pos hcond]
      simp only [hg,hz]
     ·cases h3
    ·cases h
   ·cases h
 case call c=>
  split at h
  ·rename_i q' hq
   simp only [aa] at h
   subst h
   obtain ⟨e1,h1,h2⟩:=zVM hq hK
   refine ⟨e1,?_,h2⟩
   simp only [evW,zW7 hq,h1]
  ·split at h
   ·rename_i x0 x1 t0 t1 d hcal hargs htys _
    split at h
    ·rename_i el el1 hu0 hu1
     split at h
     ·rename_i info hinfo
      split at h
      ·rename_i z t ys hz hsrc
       split at h
       ·rename_i nm xs hdst
        split at h
        ·rename_i hok
         simp only [aa] at h
         subst h
         obtain ⟨zs,hzs,hK⟩:=bind_some hK
         unfold app at hzs
         split at hzs
         ·rename_i hroom
          simp only [aa] at hzs
          subst hzs
          refine ⟨_,?_,hK⟩
          have hu0':P.underlying t0=some (.slice el):=hu0
          have hu1':P.underlying t1=some (.slice el1):=hu1
          have hinfo':P.info? el=some info:=hinfo
          simp only [evW,wW,hcal,hargs,htys,hu0',hu1',hinfo',hz,hsrc,hdst]
          rw [if_pos hok,if_pos hroom]
         ·cases hzs
        ·cases h
       ·cases h
      ·cases h
     ·cases h
    ·cases h
   ·cases h
theorem zRZ {q:Kex Γ ρ} {K:Env Γ.St→Option ρ} (h:wXs P G e o=some q) (hK:q K=some v): ∃e1,evW P G e o=some e1∧K e1=some v:=by
 unfold wXs at h
 split at h
 ·rename_i q' hq
  simp only [aa] at h;subst h
  exact zZd hq hK
 ·split at h
  ·rename_i r hr
   simp only [aa] at h;subst h
   exact ⟨r,hr,hK⟩
  ·cases h
theorem zSX (hS:qG Γ P G S.toS) {q:Kex Γ ρ} {K:Env Γ.St→Option ρ} (h:zKh P G S e o=some q) (hK:q K=some v):
  ∃e1,zXg P G e o e1∧zZ (wP G e o) e e1∧K e1=some v:=by
 unfold zKh at h
 split at h
 ·rename_i q' hq
  simp only [aa] at h;subst h
  obtain ⟨r,hr,hk⟩:=zIN hq hK
  split at hk
  ·rename_i e1 he1
   refine ⟨e1,fun w0 F0 O0 a w Q hi=>zIi (P:=P) hS hi ?_,?_,hk⟩
   ·simp only [zJu,hr,he1]
   ·refine (zGY he1).mono ?_
    intro t ht
    simp only [wP,kJ] at ht
    exact ht.1
  ·cases hk
 ·obtain ⟨e1,h1,h2⟩:=zRZ h hK
  exact ⟨e1,fun w0 F0 O0 a w Q hi=>zO9 hi h1,zSG h1,h2⟩
theorem zXb (e:Env Γ.St) (id p:Nat) (t:Ty) (ys zs:List t.El) (st:Γ.St) (dst:Option Tmp) (d:V) (hp:e.get p= .ot id t ys):zZ (zCr dst) e (zZP e id p t zs st dst d):=by
 have hg: ∀t',t'≠p→(⟨(e.tm.map (zJU id t zs)).set p (.ot id t zs),e.vars.map (fun c=>c.map (List.map (qS id))),st⟩:Env Γ.St).get t'=zJU id t zs (e.get t'):=by
  intro t' hne
  simp only [Env.get,az]
  rw [aG (bX hne),am]
  cases e.tm[t']? with
  |none=>simp [zJU,qS]
  |some x=>rfl
 have h1:zZ 0 e (⟨(e.tm.map (zJU id t zs)).set p (.ot id t zs),e.vars.map (fun c=>c.map (List.map (qS id))),st⟩:Env Γ.St):=by
  refine ⟨by simp,by simp,?_,?_,?_⟩
  ·intro t' d' ht' hx
   have hne:t'≠p:=fun h=>by rw [h,hp] at hx;cases hx
   rw [hg t' hne,hx];rfl
  ·intro t' s off _ _ hx
   have hne:t'≠p:=fun h=>by rw [h,hp] at hx;cases hx
   rw [hg t' hne,hx];rfl
  ·intro s ds _ _ hx
   have h2:(⟨(e.tm.map (zJU id t zs)).set p (.ot id t zs),e.vars.map (fun c=>c.map (List.map (qS id))),st⟩:Env Γ.St).var s=(e.mapT (qS id)).var s:=rfl
   rw [h2,jR,hx]
   simp [qS,cb]
 exact (h1.mono (fun t' _=>by simp)).same (zAP _ dst _)
theorem zXa (e:Env Γ.St) (id:Nat) (t:Ty) (zs:List t.El) (st:Γ.St) (dst:Option Tmp):zZ (zCr dst) e (zZO e id t zs st dst):=by
 have hg: ∀t',(⟨e.tm.map (qS id),e.vars.map (fun c=>c.map (List.map (qS id))),st⟩:Env Γ.St).get t'=qS id (e.get t'):=wL (f:=qS id) rfl e
 have h1:zZ 0 e (⟨e.tm.map (qS id),e.vars.map (fun c=>c.map (List.map (qS id))),st⟩:Env Γ.St):=by
  refine ⟨by simp,by simp,?_,?_,?_⟩
  ·intro t' d' ht' hx
   rw [hg t',hx];rfl
  ·intro t' s off _ _ hx
   rw [hg t',hx];rfl
  ·intro s ds _ _ hx
   have h2:(⟨e.tm.map (qS id),e.vars.map (fun c=>c.map (List.map (qS id))),st⟩:Env Γ.St).var s=(e.mapT (qS id)).var s:=rfl
   rw [h2,jR,hx]
   simp [qS,cb]
 exact (h1.mono (fun t' _=>by simp)).same (zAP _ dst _)
theorem zW3 (hS:qG Γ P G S.toS) {q:Kex Γ ρ} {K:Env Γ.St→Option ρ} (h:qCU G S e o=some q) (hK:q K=some v):
  ∃e1,zXg P G e o e1∧zZ (wP G e o) e e1∧K e1=some v:=by
 obtain ⟨dst,op,type,pos,after,guard⟩:=o
 unfold qCU at h
 split at h
 ·rename_i c hop
  subst hop
  split at h
  ·rename_i f p xs hcal hargs
   split at h
   ·rename_i g id t ys ds hf hp hxs
    split at h
    ·rename_i cx hcx
     split at h
     ·simp only [aa] at h
      subst h
      obtain ⟨hlens,hK⟩:=yT.1 hK
      obtain ⟨y,hy,hK⟩:=bind_some hK
      split at hK
      ·cases hK
      ·rename_i t' zs d hdb hres
       split at hK
       ·rename_i ht
        subst ht
        refine ⟨_,fun w0 F0 O0 a w Q hi=>qBT hS hi hcal hf hargs hp hxs hlens hdb (by rw [zLa hcx hy,hres]),?_,hK⟩
        refine (zXb e id p t' ys zs _ dst d hp).mono ?_
        intro b hb
        simp only [wP,kJ] at hb
        exact hb.1
       ·cases hK
      ·cases hK
     ·split at h
      ·cases h
      ·rename_i hid
       have hid:id≠jP:=fun hh=>by rw [hh,bh] at hid;cases hid
       simp only [aa] at h
       subst h
       obtain ⟨y,hy,hK⟩:=bind_some hK
       split at hK
       ·rename_i t' zs hres
        split at hK
        ·rename_i ht
         subst ht
         refine ⟨_,fun w0 F0 O0 a w Q hi=>zZ2 hS hi hcal hf hargs hp hxs hid (by rw [zLa hcx hy,hres]),?_,hK⟩
         refine (zXa e id t' zs _ dst).mono ?_
         intro b hb
         simp only [wP,kJ] at hb
         exact hb.1
        ·cases hK
       ·cases hK
    ·cases h
   ·cases h
  ·cases h
 ·cases h
theorem zW9 (e:Env Γ.St) (s:Nat) (t:Ty) (z:t.El) (st:Γ.St) (dst:Option Tmp) (d:V):zZ (zCr dst|||2^(2*s+1)) e (zZN e s t z st dst d):=by
 have h1:zZ (2^(2*s+1)) e (⟨e.tm,e.vars.set s (some ((t.cells z).map T.p)),st⟩:Env Γ.St):=
  (zQ7 s _ e).same ((zMB st _).mono (fun t _=>by simp))
 refine (h1.trans (zAP _ dst (.p d))).mono ?_
 intro b hb
 simp only [kJ] at hb ⊢
 exact ⟨hb.2,hb.1⟩
theorem zWj (hS:qG Γ P G S.toS) {q:Kex Γ ρ} {K:Env Γ.St→Option ρ} (h:qCt P G S e o=some q) (hK:q K=some v):
  ∃e1,zXg P G e o e1∧zZ (zJX G e o) e e1∧K e1=some v:=by
 obtain ⟨dst,op,type,pos,after,guard⟩:=o
 unfold qCt at h
 split at h
 ·rename_i c hop
  subst hop
  split at h
  ·rename_i f hcal
   split at h
   ·rename_i g k s xs hf hspl
    split at h
    ·rename_i ds cs t hxs hcs hty
     split at h
     ·rename_i vs hvs
      split at h
      ·rename_i y hy
       split at h
       ·rename_i cx hcx
        split at h
        ·simp only [aa] at h
         subst h
         obtain ⟨u,hu,hK⟩:=bind_some hK
         split at hK
         ·rename_i t' z d hres
          split at hK
          ·rename_i ht
           subst ht
           refine ⟨_,fun w0 F0 O0 a w Q hi=>qBr hS hi hcal hf hspl hxs hcs hvs hy (by rw [zLa hcx hu,hres]),?_,hK⟩
           refine (zW9 e s t' z _ dst d).mono ?_
           intro b hb
           simp only [zJX,wP,kJ,hspl,qDl] at hb
           rw [kJ]
           exact ⟨hb.1.1,hb.2⟩
          ·cases hK
         ·cases hK
        ·cases h
       ·cases h
      ·cases h
     ·cases h
    ·cases h
   ·cases h
  ·cases h
 ·cases h
theorem zLr (hS:qG Γ P G S.toS) {q:Kex Γ ρ} {K:Env Γ.St→Option ρ} (h:zSZ P G S e o=some q) (hK:q K=some v):
  ∃e1,zXg P G e o e1∧zZ (zJX G e o) e e1∧K e1=some v:=by
 have hm: ∀b,(zJX G e o).testBit b=false→(wP G e o).testBit b=false:=fun b hb=>by
  unfold zJX at hb
  rw [kJ] at hb
  exact hb.1
 unfold zSZ at h
 split at h
 ·rename_i q' hq
  simp only [aa] at h;subst h
  obtain ⟨e1,h1,h2,h3⟩:=zSX hS hq hK
  exact ⟨e1,h1,h2.mono hm,h3⟩
 ·split at h
  ·rename_i q' hq
   simp only [aa] at h;subst h
   obtain ⟨e1,h1,h2,h3⟩:=zW3 hS hq hK
   exact ⟨e1,h1,h2.mono hm,h3⟩
  ·exact zWj hS h hK
theorem zKV (hS:qG Γ P G S.toS) {lg:Nat} {K:Env Γ.St→Nat→Option ρ} (h:qAQ P G S e lg o K=some v):
  ∃e1 d,zXg P G e o e1∧zZ d e e1∧K e1 (lg|||d)=some v:=by
 unfold qAQ at h
 split at h
 ·rename_i q hq
  obtain ⟨e1,h1,h2,h3⟩:=zLr hS hq h
  exact ⟨e1,_,h1,h2,h3⟩
 ·split at h
  ·rename_i q hq
   obtain ⟨e1,h1,h2,h3⟩:=zLr hS hq h
   exact ⟨e1,_,fun w0 F0 O0 a w Q hi=>h1 w0 F0 O0 a w Q (Inv.frzOps _ _ hi),(zGX _ e).trans h2,h3⟩
  ·cases h
theorem zUh (hS:qG Γ P G S.toS) {lg:Nat} {K:Env Γ.St→Nat→Option ρ} (h:zZm P G S ops e lg o K=some v):
  ∃e1 d,zVR P G ops e o e1∧zZ d e e1∧K e1 (lg|||d)=some v:=by
 unfold zZm at h
 split at h
 ·rename_i hg
  obtain ⟨e1,d,h1,h2,h3⟩:=zKV hS h
  exact ⟨e1,d, .inl ⟨by simp only [jQ,hg],h1⟩,h2,h3⟩
 ·rename_i j want hg
  split at h
  ·rename_i hj
   exact ⟨_,_, .inr ⟨by simp only [jQ,hg,hj],rfl⟩,zAP e o.dst _,h⟩
  ·rename_i t hj
   split at h
   ·rename_i b hb
    split at h
    ·rename_i hlt
     have hw:jQ ops e o=some (b==want):=by simp only [jQ,hg,hj,hb,hlt,if_true]
     cases b with
     |true=>
      simp only [cond_true] at h
      split at h
      ·rw [zIS,zIa hb] at h
       obtain ⟨e1,d,h1,h2,h3⟩:=zKV hS h
       exact ⟨e1,d, .inl ⟨hw,h1⟩,h2,h3⟩
      ·rw [zIa hb] at h
       exact ⟨_,_, .inr ⟨hw,rfl⟩,zAP e o.dst _,h⟩
     |false=>
      simp only [cond_false] at h
      split at h
      ·rw [zIa hb] at h
       exact ⟨_,_, .inr ⟨hw,rfl⟩,zAP e o.dst _,h⟩
      ·rw [zIS,zIa hb] at h
       obtain ⟨e1,d,h1,h2,h3⟩:=zKV hS h
       exact ⟨e1,d, .inl ⟨hw,h1⟩,h2,h3⟩
    ·cases h
   ·rename_i vs hb
    exact ⟨_,_, .inr ⟨by simp only [jQ,hg,hj,hb],rfl⟩,zAP e o.dst _,h⟩
   ·cases h
theorem zCM (hS:qG Γ P G S.toS) {K:Env Γ.St→Nat→Option ρ} : ∀ (l:List Oper) (e:Env Γ.St) (lg:Nat),seqX P G S ops l e lg K=some v→ ∃e' d,zKZ P G ops l e e'∧zZ d e e'∧K e' (lg|||d)=some v:=by
 intro l
 induction l with
 |nil=>intro e lg h;exact ⟨e,0, .nil e,zZ.refl e,by rw [dL];exact h⟩
 |cons o rest ih=>
  intro e lg h
  simp only [seqX] at h
  obtain ⟨e1,d,h1,h2,h3⟩:=zUh hS h
  rw [zTl] at h3
  obtain ⟨e',d',h4,h5,h6⟩:=ih e1 _ h3
  exact ⟨e',d|||d', .cons h1 h4,h2.trans h5,by rw [←bN];exact h6⟩
theorem zKZ.app {l1 l2:List Oper} {e1 e2 e3:Env Γ.St} (h:zKZ P G ops l1 e1 e2) (h':zKZ P G ops l2 e2 e3):zKZ P G ops (l1++l2) e1 e3:=by
 induction h with
 |nil=>exact h'
 |cons h0 _ ih=>exact .cons h0 (ih h')
theorem zWm (hS:qG Γ P G S.toS) {K:Env Γ.St→Option ρ} (h:qCw P G S e o K=some v): ∃e1,zVR P G ops e o e1∧zZ (zCr o.dst) e e1∧K e1=some v:=by
 unfold qCw at h
 split at h
 ·rename_i hg
  split at h
  ·rename_i q hq
   obtain ⟨r,hr,hk⟩:=zIN hq h
   split at hk
   ·rename_i t xs
    split at hk
    ·rename_i e1 he1
     exact ⟨e1, .inl ⟨by simp only [jQ,hg],fun w0 F0 O0 a w Q hi=>qBe (P:=P) hS hi hr he1⟩,zGY he1,hk⟩
    ·cases hk
   ·cases hk
  ·cases h
 ·cases h
theorem zUt (hS:qG Γ P G S.toS) {K:Env Γ.St→Nat→Option ρ} {k:Nat} {lg:Nat} (h:zZy P G S ops k e lg K=some v): ∃e' d,zKZ P G ops ops.toList e e'∧zZ d e e'∧K e' (lg|||d)=some v:=by
 unfold zZy at h
 obtain ⟨e1,d1,h1,h2,h3⟩:=zCM hS _ _ _ h
 split at h3
 ·rename_i o rest hd
  obtain ⟨e2,h4,h5,h6⟩:=zWm (ops:=ops) hS h3
  rw [zTl] at h6
  obtain ⟨e3,d3,h7,h8,h9⟩:=zCM hS _ _ _ h6
  refine ⟨e3,d1|||zCr o.dst|||d3,?_,(h2.trans h5).trans h8,by rw [←bN, ←bN];exact h9⟩
  have:=h1.app (.cons h4 h7)
  rw [←hd,cU] at this
  exact this
 ·cases h3
theorem zOX {lg:Nat} {K:Env Γ.St→Nat→Option ρ} (h:zD4 P G S e lg o K=some v): ∃r e1,evQ P G S.toS e o=some r∧zIw e o.dst r=some e1∧K e1 (lg|||zCr o.dst)=some v:=by
 unfold zD4 at h
 split at h
 ·rename_i q hq
  obtain ⟨r,hr,hk⟩:=zIN hq h
  split at hk
  ·rename_i e1 he1;exact ⟨r,e1,hr,he1,hk⟩
  ·cases hk
 ·cases h
theorem zJM {K:Env Γ.St→Nat→Option ρ} : ∀ (l:List Oper) (e:Env Γ.St) (lg:Nat),zAM P G S ops l e lg K=some v→ ∃e' d,zBu P G S.toS ops l e=some e'∧zZ d e e'∧K e' (lg|||d)=some v:=by
 intro l
 induction l with
 |nil=>intro e lg h;exact ⟨e,0,rfl,zZ.refl e,by rw [dL];exact h⟩
 |cons o rest ih=>
  intro e lg h
  have run: ∀e0:Env Γ.St,e0=e→jQ ops e o=some true→(if zMU G (qH (o::rest)) e0 o then zD4 P G S e0 lg o (fun e1 lg=>kOp o e1 (fun e1=>zAM P G S ops rest e1 lg K)) else none)=some v→
    ∃e' d,zBu P G S.toS ops (o::rest) e=some e'∧zZ d e e'∧K e' (lg|||d)=some v:=by
   intro e0 he0 hw hh
   subst he0
   split at hh
   ·rename_i hp
    obtain ⟨r,e1,h1,h2,h3⟩:=zOX hh
    rw [zTl] at h3
    obtain ⟨e',d,h4,h5,h6⟩:=ih e1 _ h3
    refine ⟨e',zCr o.dst|||d,?_,(zTS h2).trans h5,by rw [←bN];exact h6⟩
    simp only [zBu,hw,hp,if_true,h1,h2,h4]
   ·cases hh
  have skip: ∀e0:Env Γ.St,e0=e→jQ ops e o=some false→zKx (o.dst.getD 0) (e0.put o.dst (.p (.val undef))) (fun e1=>zAM P G S ops rest e1 (lg|||zCr o.dst) K)=some v→
    ∃e' d,zBu P G S.toS ops (o::rest) e=some e'∧zZ d e e'∧K e' (lg|||d)=some v:=by
   intro e0 he0 hw hh
   subst he0
   rw [zIS] at hh
   obtain ⟨e',d,h4,h5,h6⟩:=ih _ _ hh
   refine ⟨e',zCr o.dst|||d,?_,(zAP _ o.dst _).trans h5,by rw [←bN];exact h6⟩
   simp only [zBu,hw,h4]
  unfold zAM at h
  split at h
  ·rename_i hg;exact run e rfl (by simp only [jQ,hg]) h
  ·rename_i j want hg
   split at h
   ·rename_i hj;exact skip e rfl (by simp only [jQ,hg,hj]) h
   ·rename_i t hj
    split at h
    ·rename_i b hb
     split at h
     ·rename_i hlt
      have hw:jQ ops e o=some (b==want):=by simp only [jQ,hg,hj,hb,hlt,if_true]
      cases b with
      |true=>
       simp only [cond_true] at h
       split at h
       ·rw [zIS] at h;exact run _ (zIa hb) hw h
       ·exact skip _ (zIa hb) hw h
      |false=>
       simp only [cond_false] at h
       split at h
       ·exact skip _ (zIa hb) hw h
       ·rw [zIS] at h;exact run _ (zIa hb) hw h
     ·cases h
    ·rename_i vs hb;exact skip e rfl (by simp only [jQ,hg,hj,hb]) h
    ·cases h
theorem zJQ: ∀ (ds:List Nat) (e:Env Γ.St),zZ (zVF ds) e (killAll ds e):=by
 intro ds
 induction ds with
 |nil=>intro e;exact zZ.refl e
 |cons d r ih=>intro e;exact (zKY d e).trans (ih _)
theorem zTJ (hmix:P.follows .mixedOrders=true) (hS:qG Γ P G S.toS) {lg:Nat} {K:Env Γ.St→Nat→Option ρ} {k:Nat} (h:zQT P G S ops k e lg K=some v): ∃e' d,(∀ (id:Nat) (w0:World) (F0:Blk→Prop) (O0:xA) (a:Act) (w:World) (Q:Exit→Act→World→Prop),
  Inv Γ G w0 F0 O0 a w e→(∀a w,Inv Γ G w0 F0 O0 a w e'→Q .normal a w)→(Code.region id ops true).wp P Q a w)∧zZ d e e'∧K e' (lg|||d)=some v:=by
 unfold zQT at h
 split at h
 ·rename_i hc
  simp only [aj,decide_eq_true_eq] at hc
  obtain ⟨⟨⟨h1,h2⟩,h3⟩,h4⟩:=hc
  rw [uE] at h
  obtain ⟨e1,d1,h5,h6,h7⟩:=zJM _ _ _ h
  obtain ⟨e',d2,h8,h9,h10⟩:=zCM hS _ _ _ h7
  refine ⟨e',_|||d1|||d2,fun id w0 F0 O0 a w Q hi hQ=>zSB hmix hS hi h1 h2 h3 (e1:=e1) ?_ h8 hQ,((zJQ _ e).trans h6).trans h9,?_⟩
  ·unfold zKE
   rw [if_pos h4]
   exact h5
  ·rw [bN, ←bN, ←bN];exact h10
 ·cases h
theorem zYx {St:Type} {e1:Env St} : ∀ (l:List Nat) (fl:List Fl),zWE ops e1 l=some fl→
  (∀q,q∈fl→q.i∈l∧ ∃o,ops[q.i]? =some o∧o.dst=some q.d∧((zWv (e1.get q.d)=true∧q.v= .c (e1.get q.d))∨ ∃s,o.op= .move (.tmp s)∧q.v= .a s))∧ ∀i,i∈l→ ∃q,q∈fl∧q.i=i:=by
 intro l
 induction l with
 |nil=>intro fl h;simp only [zWE,aa] at h;subst h;exact ⟨fun q hq=>by simp at hq,fun i hi=>by simp at hi⟩
 |cons i r ih=>
  intro fl h
  simp only [zWE] at h
  split at h
  ·rename_i o ho
   split at h
   ·rename_i d hd
    have step: ∀q0:Fl,q0.i=i→q0.d=d→((zWv (e1.get d)=true∧q0.v= .c (e1.get d))∨ ∃s,o.op= .move (.tmp s)∧q0.v= .a s)→(zWE ops e1 r).map (q0:: ·)=some fl→
      (∀q,q∈fl→q.i∈i::r∧ ∃o,ops[q.i]? =some o∧o.dst=some q.d∧((zWv (e1.get q.d)=true∧q.v= .c (e1.get q.d))∨ ∃s,o.op= .move (.tmp s)∧q.v= .a s))∧ ∀j,j∈i::r→ ∃q,q∈fl∧q.i=j:=by
     intro q0 h1 h2 h3 hm
     simp only [ah] at hm
     obtain ⟨fl0,hfl0,rfl⟩:=hm
     obtain ⟨g1,g2⟩:=ih fl0 hfl0
     refine ⟨?_,?_⟩
     ·intro q hq
      rcases aB.1 hq with rfl|hq
      ·rw [h1,h2];exact ⟨by simp,o,ho,hd,h3⟩
      ·obtain ⟨k1,k2⟩:=g1 q hq
       exact ⟨aw _ k1,k2⟩
     ·intro j hj
      rcases aB.1 hj with rfl|hj
      ·exact ⟨q0,by simp,h1⟩
      ·obtain ⟨q,k1,k2⟩:=g2 j hj
       exact ⟨q,aw _ k1,k2⟩
    split at h
    ·rename_i hpl;exact step ⟨i,d, .c (e1.get d)⟩ rfl rfl (.inl ⟨hpl,rfl⟩) h
    ·split at h
     ·rename_i s hop;exact step ⟨i,d, .a s⟩ rfl rfl (.inr ⟨s,hop,rfl⟩) h
     ·cases h
   ·cases h
  ·cases h
theorem zTr {fl:List Fl} {t:Nat} :flD fl t=true↔ ∃q,q∈fl∧q.d=t:=by
 simp only [flD,bt]
 constructor
 ·rintro ⟨q,hq,h⟩;exact ⟨q,hq,aQ h⟩
 ·rintro ⟨q,hq,rfl⟩;exact ⟨q,hq,by simp⟩
theorem zU7 {n:Nat} {fl:List Fl} (h1:zU8 n fl=true) (h2:qAl fl=true):zJD n fl:=by
 have hd: ∀l:List Fl,zU8 n l=true→l.Pairwise (fun p q=>p.d≠q.d)∧ ∀q,q∈l→q.d<n:=by
  intro l
  induction l with
  |nil=>intro _;exact ⟨.nil,fun q hq=>by simp at hq⟩
  |cons q r ih=>
   intro h
   simp only [zU8,aj,bj] at h
   obtain ⟨⟨g1,g2⟩,g3⟩:=h
   obtain ⟨k1,k2⟩:=ih g3
   refine ⟨bB.2 ⟨?_,k1⟩,?_⟩
   ·intro p hp hh
    have:flD r q.d=true:=zTr.2 ⟨p,hp,hh.symm⟩
    rw [g1] at this;cases this
   ·intro p hp
    rcases aB.1 hp with rfl|hp
    ·simpa using g2
    ·exact k2 p hp
 refine ⟨(hd fl h1).1,(hd fl h1).2,?_⟩
 intro q hq s hs p hp hh
 have:=aq.1 h2 q hq
 rw [hs] at this
 simp only [bj] at this
 have h3:flD fl s=true:=zTr.2 ⟨p,hp,hh.symm⟩
 rw [this] at h3;cases h3
theorem zUN {d:Nat} {x:T} (h:noD d x=true):qP d x=x:=by
 cases x<;>simp only [noD,qP] at h ⊢ <;>first|rfl|(rw [if_neg];intro hh;subst hh;simp at h)
theorem zW0 {St:Type} {d:Nat} {e:Env St} (h1: ∀x,x∈e.tm→noD d x=true) (h2: ∀cs,some cs∈e.vars→ ∀x,x∈cs→noD d x=true) (h3:e.var d=none):e.kill d=e:=by
 obtain ⟨tm,vars,st⟩:=e
 simp only [Env.kill,Env.mk.injEq,and_true]
 refine ⟨?_,?_⟩
 ·exact (cd (fun x hx=>zUN (h1 x hx))).trans (dt _)
 ·have hs:vars.set d none=vars:=by
   apply ct
   intro i
   rw [List.getElem?_set]
   split
   ·rename_i h;subst h
    simp only [Env.var] at h3
    split
    ·rename_i hl
     rw [ai hl] at h3 ⊢
     simpa using h3.symm
    ·rename_i hl;rw [bg (by omega)]
   ·rfl
  rw [hs]
  refine (cd (g:=id) ?_).trans (dt _)
  intro c hc
  cases c with
  |none=>rfl
  |some cs=>exact congrArg some ((cd (fun x hx=>zUN (h2 cs hc x hx))).trans (dt _))
theorem qAs {S:jM Γ} {L:jJ} (st:Γ.St) (hc:isCall o=false):evQ L G S { e with st:=st } o=evQ L G S e o:=
 zQz (fun x _=>by cases x<;>rfl) (fun _ _ _ _ _=>rfl) (fun h=>by rw [hc] at h;cases h)
theorem qBq {St:Type} {b:Env St} : ∀ (L:List Fl) (b:Env St) (x:T),x∈(wB b L).tm→x∈b.tm∨(∃q,q∈L∧ ∃y,q.v= .c y∧x=y)∨x= .dead:=by
 intro L
 induction L with
 |nil=>intro b x h;exact .inl h
 |cons q L ih=>
  intro b x h
  rcases ih (zDQ b q) x h with h|⟨r,hr,y,hy⟩|h
  ·simp only [zDQ] at h
   rcases List.mem_or_eq_of_mem_set h with h|h
   ·exact .inl h
   ·unfold Fl.val at h
    cases hv:q.v with
    |c y=>rw [hv] at h;exact .inr (.inl ⟨q,by simp,y,hv,h⟩)
    |a s=>
     rw [hv] at h
     simp only [Env.get,az] at h
     cases hg:b.tm[s]? with
     |none=>rw [hg] at h;exact .inr (.inr h)
     |some z=>rw [hg] at h;simp only [a7] at h;subst h;exact .inl (af hg)
  ·exact .inr (.inl ⟨r,aw _ hr,y,hy⟩)
  ·exact .inr (.inr h)
theorem zP5 {Sp:jM Γ} {Cm Um:Nat} {anc:Array Nat} (hch:zXj ops anc Cm Um) {fl:List Fl} {e1 b:Env Γ.St} {m:Nat} (hfl:zJD e1.tm.length fl)
  (hspec: ∀q,q∈fl→Cm.testBit q.i=false∧Um.testBit q.i=true∧ ∃o,ops[q.i]? =some o∧o.dst=some q.d∧((zWv (e1.get q.d)=true∧q.v= .c (e1.get q.d))∨ ∃s,o.op= .move (.tmp s)∧q.v= .a s))
  (hvar: ∀q,q∈fl→e1.var q.d=none) (hA:zZ m (zFc e1 fl) b)
  {q:Fl} (hq:q∈fl) (hst: ∀o,ops[q.i]? =some o→ ∃st st',zEL P G Sp (vE ops Cm) e1 st o st') (h:qBs ops fl m e1 b q=true):zME P G Sp ops fl b q:=by
 intro o p ho hp
 obtain ⟨hC,hU,o',ho',hd,hcase⟩:=hspec q hq
 rw [ho] at ho'
 cases ho'
 have hg:=hch.guardC q.i o ho (.inr hU)
 have hnc:=hch.call q.i o ho hC hU
 obtain ⟨d1,d2,d3⟩:=zVr hfl
 have hlen:b.tm.length=e1.tm.length:=hA.tl.trans d1.len
 obtain ⟨a1,a2⟩:=zA8 (fl.filter p) b e1.tm.length (hfl.filter p) (by rw [hlen];exact aK _)
 have hal:=zAm (fl.filter p) b
 unfold qBs at h
 rw [ho] at h
 simp only at h
 rcases hcase with ⟨hpl,hv⟩|⟨s,hop,hv⟩
 ·-- a value
  rw [hv] at h
  simp only [aj] at h
  obtain ⟨⟨h1,h2⟩,h3⟩:=h
  obtain ⟨st,st',j5⟩:=hst o ho
  rcases j5 with ⟨_,r,hev,_,hneed,hdst⟩|⟨hw,_⟩
  ·obtain ⟨g1,g2,g3⟩:=hdst q.d hd
   have jB:=g1 (hfl.lt q hq)
   have hev':evQ P G Sp (wB b (fl.filter p)) o=some r:=by
    rw [←hev,qAs st hnc, ←qAs (e:=e1) (wB b (fl.filter p)).st hnc]
    have hops: ∀x,x∈o.op.operands→evx G (wB b (fl.filter p)) x=evx G e1 x∧ ∀s off,evx G e1 x= .lp s off→(wB b (fl.filter p)).var s=e1.var s:=by
     intro x hx
     have hok:=aq.1 h1 x (by simpa using hx)
     cases x with
     |tmp t=>
      simp only [zZU,aj,bU] at hok
      obtain ⟨hwhich,hm⟩:=hok
      have hvars: ∀s off,e1.get t= .lp s off→(wB b (fl.filter p)).var s=e1.var s:=by
       intro s off hlp
       rw [hlp] at hm
       simp only [aj,bj] at hm
       obtain ⟨hsb,hm⟩:=hm
       split at hm
       ·rename_i cs hcs
        simp only [aj,bj] at hm
        have hds: ∃ds:List V,cs=ds.map T.p:=by
         have hall:=hm.1
         clear hcs hm
         induction cs with
         |nil=>exact ⟨[],rfl⟩
         |cons c cs ih=>
          simp only [dw,aj] at hall
          obtain ⟨ds,hds⟩:=ih hall.2
          cases c with
          |p d0=>exact ⟨d0::ds,by rw [hds];rfl⟩
          |_=>simp at hall
        obtain ⟨ds,rfl⟩:=hds
        have hvv:=hA.v s ds hsb hm.2 (by rw [d1.var];exact hcs)
        rw [hal.var,hvv,hcs]
       ·cases hm
      refine ⟨?_,fun s off hs=>hvars s off hs⟩
      show (wB b (fl.filter p)).get t=e1.get t
      rcases hwhich with hok|hok
      ·simp only [flC,bt,aj] at hok
       obtain ⟨q',hq',hqd,hqc⟩:=hok
       have hqd:=aQ hqd
       subst hqd
       obtain ⟨_,_,o2,ho2,hd2,hcase2⟩:=hspec q' hq'
       have hpq:=hp q' hq' hx
       have hval:=a2 q' (aV.2 ⟨hq',hpq⟩)
       have hv2:q'.v= .c (e1.get q'.d):=by
        rcases hcase2 with ⟨_,h5⟩|⟨s5,_,h5⟩
        ·exact h5
        ·rw [h5] at hqc;cases hqc
       rw [hval];unfold Fl.val;rw [hv2]
      ·simp only [aj,bj] at hok
       obtain ⟨hnf,hbit⟩:=hok
       have hnf': ∀q',q'∈fl→t≠q'.d:=by
        intro q' hq' hh
        have:flD fl t=true:=zTr.2 ⟨q',hq',hh.symm⟩
        rw [hnf] at this;cases this
       have hdt:=d2 t hnf'
       have hbt:=a1 t (fun q' hq'=>hnf' q' (aV.1 hq').1)
       split at hm
       ·rename_i dv hdv
        have:=hA.p t dv hbit (by rw [hdt];exact hdv)
        rw [hbt,this,hdv]
       ·rename_i s off hlp
        simp only [aj,bj] at hm
        have:=hA.lp t s off hbit hm.1 (by rw [hdt];exact hlp)
        rw [hbt,this,hlp]
       ·cases hm
     |_=>exact ⟨rfl,fun s off hs=>by
       simp only [evx] at hs
       first|cases hs|(split at hs<;>cases hs)⟩
    exact zNj (fun x hx=>(hops x hx).1) (fun x hx s off hs=>(hops x hx).2 s off (by rw [←(hops x hx).1];exact hs)) rfl
   have hrc:=zNi hev hnc
   refine .inl ?_
   simp only [zJu,hev',hd]
   have hgoal: ∀e2:Env Γ.St,e2= { (wB b (fl.filter p)) with tm:=(wB b (fl.filter p)).tm.set q.d (zRk q.d r) } →some e2=some (zDQ (wB b (fl.filter p)) q):=by
    intro e2 he2
    rw [he2]
    unfold zDQ Fl.val
    rw [hv,jB]
   unfold yZ
   cases hn:r.needs with
   |false=>
    simp only [hn,bz,if_false]
    apply hgoal
    cases r with
    |ret x=>rfl
    |call _ _ _=>cases hrc
    |_=>cases hn
   |true=>
    simp only [hn,if_true]
    unfold qCc at h2
    simp only [aj] at h2
    obtain ⟨⟨⟨k1,k2⟩,k3⟩,k4⟩:=h2
    have hvl:q.d< (wB b (fl.filter p)).vars.length:=by rw [hal.vars];simpa using k4
    rw [if_pos ⟨hvl,by obtain ⟨d',hd',hdL⟩:=hneed hn;rw [hd] at hd';simp only [aa] at hd';rw [hd'];exact hdL⟩]
    have hk:(wB b (fl.filter p)).kill q.d=wB b (fl.filter p):=by
     refine zW0 ?_ ?_ ?_
     ·intro x hx
      rcases qBq (b:=b) _ _ x hx with hx|⟨q',hq',y,hy,rfl⟩|rfl
      ·exact aq.1 k1 x hx
      ·have:=aq.1 h3 q' (aV.1 hq').1
       rw [hy] at this
       exact this
      ·rfl
     ·intro cs hcs x hx
      rw [hal.vars] at hcs
      have:=aq.1 k2 (some cs) hcs
      exact aq.1 this x hx
     ·rw [hal.var];exact cJ.1 k3
    rw [hk]
    apply hgoal
    cases r with
    |var cs=>have:=g2 cs rfl;rw [hvar q hq] at this;cases this
    |call _ _ _=>cases hrc
    |ret x=>cases hn
    |_=>rfl
  ·simp only [jQ,hg] at hw
   cases hw
 ·-- a copy
  refine .inl ?_
  obtain ⟨dst,op,type,pos,after,guard⟩:=o
  simp only at hop hd
  subst hop hd
  simp only [zJu,evQ,yZ,R.needs,bz,if_false]
  simp only [zDQ,Fl.val,hv]
  rfl
theorem zJF {q:Kex Γ ρ} {K:Env Γ.St→Option ρ} (h:zKh P G S e o=some q) (hK:q K=some v):
  ∃e1,(zJu P G S.toS e o=some e1∨evW P G e o=some e1)∧zZ (wP G e o) e e1∧K e1=some v:=by
 unfold zKh at h
 split at h
 ·rename_i q' hq
  simp only [aa] at h;subst h
  obtain ⟨r,hr,hk⟩:=zIN hq hK
  split at hk
  ·rename_i e1 he1
   refine ⟨e1, .inl ?_,?_,hk⟩
   ·simp only [zJu,hr,he1]
   ·refine (zGY he1).mono ?_
    intro t ht
    simp only [wP,kJ] at ht
    exact ht.1
  ·cases hk
 ·obtain ⟨e1,h1,h2⟩:=zRZ h hK
  exact ⟨e1, .inr h1,zSG h1,h2⟩
theorem zXd: ∀ (l:List Nat) (e:Env Γ.St),zZ 0 e (frzI l e):=by
 intro l
 induction l with
 |nil=>intro e;exact zZ.refl e
 |cons i r ih=>intro e;exact ((zBF i e).trans (ih _)).mono (fun t _=>by simp)
theorem zSY {q:Kex Γ ρ} {K:Env Γ.St→Option ρ} (h:zWe P G S e o=some q) (hK:q K=some v):
  ∃e1,zHi P G S.toS e o e1∧zZ (wP G e o) e e1∧K e1=some v:=by
 unfold zWe at h
 split at h
 ·rename_i q' hq
  simp only [aa] at h;subst h
  obtain ⟨e1,h1,h2,h3⟩:=zJF hq hK
  exact ⟨e1,h1.elim .inl (fun h=> .inr (.inl h)),h2,h3⟩
 ·split at h
  ·rename_i hB
   obtain ⟨e1,h1,h2,h3⟩:=zJF h hK
   refine ⟨e1,?_,?_,h3⟩
   ·rcases h1 with h1|h1
    ·exact .inr (.inr ⟨hB,h1⟩)
    ·rw [zYD hB] at h1
     cases h1
   ·rw [zF8 hB] at h2 ⊢
    exact ((zXd _ e).trans h2).mono (fun t ht=>by simpa using ht)
  ·cases h
theorem zYU: ∀ {fl:List Fl} {t:Nat},(zCq fl).testBit t=false→ ∀q,q∈fl→t≠2*q.d:=by
 intro fl
 induction fl with
 |nil=>intro t _ q hq;simp at hq
 |cons p r ih=>
  intro t h q hq
  simp only [zCq,kJ] at h
  rcases aB.1 hq with rfl|hq
  ·exact (zPd _ _).1 h.1
  ·exact ih h.2 q hq
theorem zKX {St:Type} : ∀ (L:List Fl) (e:Env St),zZ (zCq L) e (wB e L):=by
 intro L
 induction L with
 |nil=>intro e;exact zZ.refl e
 |cons q L ih=>intro e;exact (zD7 q.d (q.val e) e).trans (ih (zDQ e q))
theorem zSF {L fl:List Fl} (h: ∀q,q∈L→ ∃r,r∈fl∧r.d=q.d) {t:Nat} (ht:(zCq fl).testBit t=false):(zCq L).testBit t=false:=by
 induction L with
 |nil=>simp [zCq]
 |cons q L ih=>
  simp only [zCq,kJ]
  refine ⟨(zPd _ _).2 ?_,ih (fun p hp=>h p (aw _ hp))⟩
  obtain ⟨r,hr,hrd⟩:=h q (by simp)
  rw [←hrd]
  exact zYU ht r hr
theorem zSP {m:Nat} {dst:Option Nat} {q:Fl} (h:zV6 m dst q=true):zVS m dst q:=by
 unfold zV6 at h
 simp only [aj] at h
 obtain ⟨h1,h2⟩:=h
 refine ⟨?_,?_⟩
 ·intro hh
  rw [hh] at h1
  simp at h1
 ·split at h2
  ·rename_i hv;rw [hv];trivial
  ·rename_i hv;rw [hv];simpa using h2
  ·cases h2
  ·rename_i s hv
   rw [hv]
   intro hh
   rw [hh] at h2
   simp at h2
theorem zQ1 {Cm Um:Nat} {anc:Array Nat} (hch:zXj ops anc Cm Um) {fl:List Fl} {e1:Env Γ.St} (hfl:zJD e1.tm.length fl)
  (hspec: ∀q,q∈fl→Cm.testBit q.i=false∧Um.testBit q.i=true∧ ∃o,ops[q.i]? =some o∧o.dst=some q.d∧((zWv (e1.get q.d)=true∧q.v= .c (e1.get q.d))∨ ∃s,o.op= .move (.tmp s)∧q.v= .a s))
  (hvar: ∀q,q∈fl→e1.var q.d=none)
  (hst: ∀q,q∈fl→ ∀o,ops[q.i]? =some o→ ∃st st',zEL P G S.toS (vE ops Cm) e1 st o st') {K:Env Γ.St→Nat→Option ρ} : ∀ (l:List Nat) (b:Env Γ.St) (m:Nat),
  zIu P G S ops anc fl e1 l b m K=some v→zZ m (zFc e1 fl) b→(∀t,m.testBit t=false→(zCq fl).testBit t=false)→
  ∃b' M,zIB P G S.toS ops anc fl l b b'∧zZ M (zFc e1 fl) (wB b' fl)∧(∀t,M.testBit t=false→(zCq fl).testBit t=false)∧K (wB b' fl) M=some v:=by
 intro l
 induction l with
 |nil=>
  intro b m h hA hm
  simp only [zIu] at h
  rw [uE] at h
  exact ⟨b,_, .nil b,hA.trans (zKX fl b),fun t ht=>((kJ _ _ _).1 ht).2,h⟩
 |cons c rest ih=>
  intro b m h hA hm
  simp only [zIu] at h
  split at h
  ·rename_i o ho
   rw [uE] at h
   split at h
   ·rename_i hchk
    simp only [aj] at hchk
    obtain ⟨hops,hstays⟩:=hchk
    split at h
    ·rename_i q hq
     obtain ⟨b1,h1,h2,h3⟩:=zSY hq h
     rw [zTl] at h3
     split at h3
     ·rename_i hok
      have hA1:zZ (m|||(zCq fl|||wP G (wB b (fl.filter (zW8 anc c))) o)) (zFc e1 fl) b1:=by
       have hput:zZ (zCq fl) b (wB b (fl.filter (zW8 anc c))):=(zKX _ b).mono (fun t ht=>zSF (fun q hq=>⟨q,(aV.1 hq).1,rfl⟩) ht)
       exact hA.trans (hput.trans h2)
      obtain ⟨b',M,g1,g2,g3,g4⟩:=ih b1 _ h3 hA1 (fun t ht=>hm t ((kJ _ _ _).1 ht).1)
      refine ⟨b',M, .cons ho h1 ?_ ?_ ?_ g1,g2,g3,g4⟩
      ·intro q hqf hx
       have hx1:=aq.1 hops (.tmp q.d) (by simpa using hx)
       have hx2:=aq.1 hx1 q hqf
       simpa [zW8] using hx2
      ·intro q hqf
       exact zSP (aq.1 hstays q hqf)
      ·intro q hqf hnA
       have hx:=aq.1 hok q hqf
       rw [show zW8 anc c q=false from hnA,b7] at hx
       exact zP5 hch hfl hspec hvar hA1 hqf (hst q hqf) hx
     ·cases h3
    ·cases h
   ·cases h
  ·cases h
theorem zTN (hmix:P.follows .mixedOrders=true) (hS:qG Γ P G S.toS) {Cm Um lg:Nat} {K:Env Γ.St→Nat→Option ρ} (h:zW2 P G S ops Cm Um e lg K=some v): ∃e' d,(∀ (id:Nat) (w0:World) (F0:Blk→Prop) (O0:xA) (a:Act) (w:World) (Q:Exit→Act→World→Prop),
  Inv Γ G w0 F0 O0 a w e→(∀a w,Inv Γ G w0 F0 O0 a w e'→Q .normal a w)→(Code.region id ops true).wp P Q a w)∧zZ d e e'∧K e' (lg|||d)=some v:=by
 unfold zW2 at h
 split at h
 ·rename_i hchk
  have hch:=qBS hchk
  rw [uE] at h
  obtain ⟨e1,d1,h1,h2,h3⟩:=zJM _ _ _ h
  split at h3
  ·rename_i fl hfl
   split at h3
   ·rename_i hc
    simp only [aj] at hc
    obtain ⟨⟨⟨c1,c2⟩,c3⟩,c4⟩:=hc
    have hflok:=zU7 c1 c2
    obtain ⟨s1,s2⟩:=zYx _ _ hfl
    have hspec: ∀q,q∈fl→Cm.testBit q.i=false∧Um.testBit q.i=true∧ ∃o,ops[q.i]? =some o∧o.dst=some q.d∧((zWv (e1.get q.d)=true∧q.v= .c (e1.get q.d))∨ ∃s,o.op= .move (.tmp s)∧q.v= .a s):=by
     intro q hq
     obtain ⟨k1,k2⟩:=s1 q hq
     simp only [aV,aj,bj] at k1
     exact ⟨k1.2.2,k1.2.1,k2⟩
    have hvar: ∀q,q∈fl→e1.var q.d=none:=fun q hq=>cJ.1 (aq.1 c3 q hq)
    have hah:=zQ6 hch.st 0 (vE ops Cm).toList (by simp)
    have hno: ∀d,d∈qH (vE ops Cm).toList→(killAll (qH (vE ops Cm).toList) e).var d=none:=by
     intro d hd
     cases hv:(killAll (qH (vE ops Cm).toList) e).var d with
     |none=>rfl
     |some cs=>exact absurd ⟨cs,hv⟩ (zBd _ e d hd).1
    obtain ⟨sts,_,_,hsteps,_,_,_⟩:=zGQ _ _ _ h1 hah hno
    have hst: ∀q,q∈fl→ ∀o,ops[q.i]? =some o→ ∃st st',zEL P G S.toS (vE ops Cm) e1 st o st':=by
     intro q hq o ho
     exact ⟨_,_,hsteps q.i o (by rw [bm];exact yS ho (hspec q hq).1)⟩
    rw [uE] at h3
    have hdead:zZ (zCq fl) e1 (zFc e1 fl):=(zKX _ e1).mono (fun t ht=>zSF (fun q hq=>by
     obtain ⟨p,hp,rfl⟩:=be.1 hq
     exact ⟨p,hp,rfl⟩) ht)
    have hA0:zZ (zCq fl) (zFc e1 fl) (zFc e1 fl):=(zZ.refl _).mono (fun t _=>by simp)
    obtain ⟨b',M,g1,g2,g3,g4⟩:=zQ1 hch hflok hspec hvar hst _ _ _ h3 hA0 (fun t ht=>ht)
    have hfv: ∀q,q∈fl→e1.get q.d=q.val e1∧e1.var q.d=none:=by
     intro q hq
     refine ⟨?_,hvar q hq⟩
     obtain ⟨hC,hU,o,ho,hd,hcase⟩:=hspec q hq
     rcases hcase with ⟨_,hv⟩|⟨s,hop,hv⟩
     ·unfold Fl.val;rw [hv]
     ·obtain ⟨st,st',j5⟩:=hst q hq o ho
      have hg:=hch.guardC q.i o ho (.inr hU)
      rcases j5 with ⟨_,r,hev,_,_,hdst⟩|⟨hw,_⟩
      ·obtain ⟨k1,_,_⟩:=hdst q.d hd
       rw [k1 (hflok.lt q hq)]
       simp only [evQ,hop,aa] at hev
       subst hev
       unfold Fl.val;rw [hv];rfl
      ·simp only [jQ,hg] at hw;cases hw
    refine ⟨wB b' fl,(zVF (qH (vE ops Cm).toList)|||d1)|||M,?_,?_,?_⟩
    ·intro id w0 F0 O0 a w Q hi hQ
     refine zYR hmix hch hS hi h1 hflok ?_ ?_ hfv ?_ g1 hQ
     ·intro i hU hC hlt
      exact s2 i (by simp [hlt,hU,hC])
     ·intro q hq
      obtain ⟨k1,k2,o,ho,hd,_⟩:=hspec q hq
      exact ⟨k1,k2,o,ho,hd⟩
     ·intro q hq
      exact zP5 hch hflok hspec hvar hA0 hq (hst q hq) (aq.1 c4 q hq)
    ·have hd2:zZ M e1 (wB b' fl):=(hdead.mono (fun t ht=>g3 t ht)).same g2
     exact ((zJQ _ e).trans h2).trans hd2
    ·rw [←bN, ←bN];exact g4
   ·cases h3
  ·cases h3
 ·cases h
theorem zHV (hmix:P.follows .mixedOrders=true) (hS:qG Γ P G S.toS) {d:Bool} {fz:Option (List (Nat×Nat×Nat))} {lg:Nat} {K:Env Γ.St→Nat→Option ρ} {id:Nat} (h:zUz P G S ops d fz e lg K=some v):
  ∃e' n,jN P G (.region id ops d) e .normal e'∧zZ n e e'∧K e' (lg|||n)=some v:=by
 have draw: ∀ (e:Env Γ.St) (lg k:Nat),zQT P G S ops k e lg K=some v→ ∃e' n,jN P G (.region id ops true) e .normal e'∧zZ n e e'∧K e' (lg|||n)=some v:=by
  intro e lg k h
  obtain ⟨e1,n,h1,h2,h3⟩:=zTJ hmix hS h
  exact ⟨e1,n,fun w0 F0 O0 a w hi=>h1 id w0 F0 O0 a w _ hi (fun a w h=>⟨rfl,h⟩),h2,h3⟩
 unfold zUz at h
 split at h
 ·have seq:(∃e' d,zKZ P G ops ops.toList e e'∧zZ d e e'∧K e' (lg|||d)=some v)→ ∃e' n,jN P G (.region id ops false) e .normal e'∧zZ n e e'∧K e' (lg|||n)=some v:=by
   rintro ⟨e1,n,h1,h2,h3⟩
   refine ⟨e1,n,?_,h2,h3⟩
   intro w0 F0 O0 a w hi
   refine wp_region ?_
   have:=zXw (Q:=fun ex a' w'=>ex=X.toExit .normal∧Inv Γ G w0 F0 O0 a' w' e1) ops 0 ops.toList e e1 a w (by simp) h1 hi (fun a w h=>⟨rfl,h⟩)
   simpa [List.range_eq_range'] using this
  split at h
  ·exact seq (zCM hS _ _ _ h)
  ·exact seq (zCM hS _ _ _ h)
  ·split at h
   ·exact seq (zUt hS h)
   ·exact seq (zCM hS _ _ _ h)
 ·split at h
  ·exact draw e lg _ h
  ·rw [uE] at h
   obtain ⟨e1,n,h1,h2,h3⟩:=draw _ _ _ h
   exact ⟨e1,_,fun w0 F0 O0 a w hi=>h1 w0 F0 O0 a w (Inv.frzOps _ _ hi),(zGX _ e).trans h2,by rw [←bN];exact h3⟩
  ·split at h
   ·exact draw e lg _ h
   ·exact draw e lg _ h
   ·rw [uE] at h
    obtain ⟨e1,n,h1,h2,h3⟩:=zTN hmix hS h
    exact ⟨e1,_,fun w0 F0 O0 a w hi=>h1 id w0 F0 O0 a w _ (Inv.frzOps _ _ hi) (fun a w h=>⟨rfl,h⟩),(zGX _ e).trans h2,by rw [←bN];exact h3⟩
theorem zYy (a b:Nat):qAY (zWg a b):=⟨fun _=>rfl,fun _ _=>rfl,rfl⟩
theorem zWf {K:Env Γ.St→Option ρ} : ∀ (l:List (Nat×Nat×Nat)) (e:Env Γ.St),zYb l e K=some v→ ∃e',zZ 0 e e'∧K e'=some v∧ ∀ (w0:World) (F0:Blk→Prop) (O0:xA) (a:Act) (w:World),Inv Γ G w0 F0 O0 a w e→Inv Γ G w0 F0 O0 a w e':=by
 intro l
 induction l with
 |nil=>intro e h;exact ⟨e,zZ.refl e,h,fun _ _ _ _ _ h=>h⟩
 |cons x r ih=>
  intro e h
  obtain ⟨a,b,n⟩:=x
  simp only [zYb] at h
  split at h
  ·split at h
   ·rename_i hb
    rw [uE] at h
    obtain ⟨e',h1,h2,h3⟩:=ih _ h
    exact ⟨e',(zEI (zYy a b) e).same h1,h2,fun w0 F0 O0 a0 w hi=>h3 w0 F0 O0 a0 w (by
     simp only [aj,bj] at hb
     exact hi.ren hb.1 (fun h=>by rw [h] at hb;simp at hb) (fun h=>by rw [h] at hb;simp at hb))⟩
   ·cases h
  ·rw [uE] at h
   obtain ⟨e',h1,h2,h3⟩:=ih _ h
   exact ⟨e',(zBF _ e).same h1,h2,fun w0 F0 O0 a0 w hi=>h3 w0 F0 O0 a0 w (hi.frzOE _)⟩
  ·exact ih e h
theorem zPF (hmix:P.follows .mixedOrders=true) (hS:qG Γ P G S.toS) {d:Bool} {fz:Option (List (Nat×Nat×Nat))} {lg:Nat} {K:Env Γ.St→Nat→Option ρ} {id:Nat} (h:qBl P G S ops d fz e lg K=some v):
  ∃e' n,jN P G (.region id ops d) e .normal e'∧zZ n e e'∧K e' (lg|||n)=some v:=by
 unfold qBl at h
 split at h
 ·exact zHV hmix hS h
 ·exact zHV hmix hS h
 ·obtain ⟨e1,n,h1,h2,h3⟩:=zHV hmix hS (id:=id) h
  obtain ⟨e2,g1,g2,g3⟩:=zWf (G:=G) _ _ h3
  refine ⟨e2,n,?_,h2.same (g1.mono (fun t _=>by simp)),g2⟩
  intro w0 F0 O0 a w hi
  exact wp_mono (h1 w0 F0 O0 a w hi) (fun ex a' w' hh=>⟨hh.1,g3 w0 F0 O0 a' w' hh.2⟩)
end
end Go.Ve

/-
  Drawn regions that write, part 4: the beginning; the whole region.
  Rows that are lent: the call that turns a row of the frame's own.
-/
import Derived.Test.YtaidmnnejapafaaGreatDoorl7
set_option linter.unusedVariables false
namespace Go.Ve
open Go
def lq (Cm:Nat) (listed:Array Bool):Array Bool:=listed.mapIdx fun i b=>b||Nat.testBit Cm i
theorem zSC {Cm:Nat} {listed:Array Bool} :(lq Cm listed).size=listed.size:=by simp [lq]
theorem zJg {Cm:Nat} {listed:Array Bool} {i:Nat} :(lq Cm listed).getD i true=(listed.getD i true||Nat.testBit Cm i):=by
 simp only [lq,Array.getD_eq_getD_getElem?,Array.getElem?_mapIdx]
 cases listed[i]? <;>simp
theorem zTL {Cm:Nat} {listed:Array Bool} {i:Nat} :lq Cm (listed.setIfInBounds i true)=(lq Cm listed).setIfInBounds i true:=by
 apply zDk
 intro j
 simp only [lq,Array.getElem?_mapIdx,Array.getElem?_setIfInBounds,Array.size_mapIdx]
 by_cases h:i=j
 ·subst h
  by_cases hl:i<listed.size
  ·simp [hl]
  ·simp [hl]
 ·simp [h]
def zBV {St:Type} (e:Env St) (fl:List Fl):Env St:=qQ e (fl.map fun q=>⟨q.i,q.d, .c .dead⟩)
theorem zMU {St:Type} {e:Env St} {fl:List Fl} (h:zE4 e.tm.length fl):Alike (zBV e fl) e∧(∀t,(∀q,q∈fl→t≠q.d)→(zBV e fl).get t=e.get t)∧(∀q,q∈fl→(zBV e fl).get q.d= .dead):=by
 have hok:zE4 e.tm.length (fl.map fun q=>⟨q.i,q.d, .c .dead⟩):=by
  refine ⟨?_,?_,?_⟩
  ·rw [List.pairwise_map];exact h.dist
  ·intro q hq
   obtain ⟨p,hp,rfl⟩:=List.mem_map.1 hq
   exact h.lt p hp
  ·intro q hq s hs
   obtain ⟨p,hp,rfl⟩:=List.mem_map.1 hq
   cases hs
 obtain ⟨h1,h2⟩:=uZ _ e _ hok (Nat.le_refl _)
 refine ⟨uB _ e,?_,?_⟩
 ·intro t ht
  refine h1 t (fun q hq=> ?_)
  obtain ⟨p,hp,rfl⟩:=List.mem_map.1 hq
  exact ht p hp
 ·intro q hq
  exact h2 ⟨q.i,q.d, .c .dead⟩ (List.mem_map.2 ⟨q,hq,rfl⟩)
section
variable {Γ:Sig} {P:Program} {G:Nat→Option (List V)} {S:qZ Γ} {w0:World} {F0:Blk→Prop} {O0:kC} {ops:Array Oper} {anc:Array Nat} {Cm Um:Nat}
theorem zPj {Q:Exit→Act→World→Prop} {K:Act→World→Prop} {i:Nat} {o:Oper} {a:Act} {w:World} (hch:zOB ops anc Cm Um) (ho:ops[i]? =some o) (hC:Cm.testBit i=false)
  (h:wpOp P (jK ops Cm) Q i K a w):wpOp P ops Q i K a w:=by
 unfold wpOp at*
 rw [vV ho hC] at h
 rw [ho]
 simp only at h ⊢
 have hw:Region.wanted o (yielded (jK ops Cm) a.tmps)=Region.wanted o (yielded ops a.tmps):=by
  unfold Region.wanted
  cases hg:o.guard with
  |none=>rfl
  |some gw=>
   obtain ⟨j,want⟩:=gw
   have hj:=hch.guardQ i o j want ho hC hg
   simp only [yielded,zCo,hj]
   cases ops[j]? <;>rfl
 rw [hw] at h
 exact h
theorem zKW (hch:zOB ops anc Cm Um) (hS:zZ Γ P G S) {e1 b0 b':Env Γ.St} {sts:Nat→Γ.St}
  (hsteps: ∀ (i:Nat) (o:Oper),(jK ops Cm)[i]? =some o→zBv P G S (jK ops Cm) e1 (sts i) o (sts (i+1))) (hlast:sts ops.size=e1.st)
  {fl:List Fl} (hflok:zE4 e1.tm.length fl)
  (hfi: ∀i,Um.testBit i=true→Cm.testBit i=false→i<ops.size→ ∃q,q∈fl∧q.i=i)
  (hfo: ∀q,q∈fl→Cm.testBit q.i=false∧Um.testBit q.i=true∧ ∃o,ops[q.i]? =some o∧o.dst=some q.d)
  (hfv: ∀q,q∈fl→e1.get q.d=q.val e1∧e1.var q.d=none)
  (hb0:Alike b0 e1) (hb1: ∀t,(∀q,q∈fl→t≠q.d)→b0.get t=e1.get t) (hb2: ∀q,q∈fl→b0.get q.d= .dead)
  (hf0: ∀q,q∈fl→zGU P G S ops fl b0 q)
  (hchain:zEm P G S ops anc fl ((List.range ops.size).filter (fun i=>Cm.testBit i)) b0 b')
  {Q:Exit→Act→World→Prop} (hQ: ∀a w,Inv Γ G w0 F0 O0 a w (qQ b' fl)→Q .normal a w): ∀ (fuel:Nat) (listed:Array Bool) (a:Act) (w:World),
  listed.size=ops.size→listed.count false≤fuel→Closed ops (fun i=>listed.getD i true=true)→(∀c,c<ops.size→Cm.testBit c=true→listed.getD c true=false)→
  (∃F O β al m,zQj Γ G w0 F0 O0 (jK ops Cm) e1 sts (lq Cm listed) a w F O β al m)→wpAny P .any ops Q fuel listed a w:=by
 have hgo: ∀ (fuel:Nat) (listed:Array Bool) (a:Act) (w:World),listed.size=ops.size→listed.count false≤fuel→Closed ops (fun i=>listed.getD i true=true)→
   (∀c,c<ops.size→Cm.testBit c=true→listed.getD c true=false)→(∀i,i<ops.size→Cm.testBit i=false→Um.testBit i=false→listed.getD i true=true)→
   (∃F O β al m,zQj Γ G w0 F0 O0 (jK ops Cm) e1 sts (lq Cm listed) a w F O β al m)→wpAny P .any ops Q fuel listed a w:=by
  rintro fuel listed a w hls hcnt hcl hnc hall ⟨F,O,β,al,m,hp⟩
  refine zLL hch hS hflok hfi hfo hQ fuel _ b0 listed a w hls hcnt hcl hall ?_ (List.Pairwise.filter _ List.pairwise_lt_range) hchain (fun q hq _=>hf0 q hq) hb0.len ?_
  ·intro c
   simp only [List.mem_filter,List.mem_range]
   constructor
   ·rintro ⟨h1,h2⟩;exact ⟨h1,h2,hnc c h1 h2⟩
   ·rintro ⟨h1,h2,_⟩;exact ⟨h1,h2⟩
  ·have hgq: ∀ (i:Nat) (o:Oper),(jK ops Cm)[i]? =some o→(lq Cm listed).getD i true=false→ops[i]? =some o∧Cm.testBit i=false∧Um.testBit i=true∧listed.getD i true=false:=by
    intro i o ho hl
    rw [zJg,Bool.or_eq_false_iff] at hl
    have hlt:i<ops.size:=by have:=(Array.getElem?_eq_some_iff.1 ho).1;rwa [yO] at this
    rw [zCo] at ho
    simp only [Option.map_eq_some_iff] at ho
    obtain ⟨o',ho',heq⟩:=ho
    simp only [hl.2] at heq
    subst heq
    refine ⟨ho',hl.2,?_,hl.1⟩
    cases hU:Um.testBit i with
    |true=>rfl
    |false=>have:=hall i hlt hl.2 hU;rw [hl.1] at this;cases this
   have hknown: ∀t,(∀q,q∈fl→t=q.d→listed.getD q.i true=true)→zFg (jK ops Cm) (lq Cm listed) t:=by
    intro t ht i o ho hl hd
    obtain ⟨h1,h2,h3,h4⟩:=hgq i o ho hl
    obtain ⟨q,hq,hqi⟩:=hfi i h3 h2 (Array.getElem?_eq_some_iff.1 h1).1
    obtain ⟨_,_,o',ho',hd'⟩:=hfo q hq
    rw [hqi,h1] at ho'
    cases ho'
    rw [hd] at hd'
    have:=ht q hq (Option.some.inj hd')
    rw [hqi,h4] at this;cases this
   have heq: ∀k,m+k≤ops.size→sts (m+k)=sts m:=by
    intro k
    induction k with
    |zero=>intro _;rfl
    |succ k ih=>
     intro hk
     have hlt:m+k< (jK ops Cm).size:=by rw [yO];omega
     have hj:(jK ops Cm)[m+k]? =some (jK ops Cm)[m+k]:=Array.getElem?_eq_getElem hlt
     have hnc:isCall (jK ops Cm)[m+k]=false:=by
      cases hc:isCall (jK ops Cm)[m+k] with
      |false=>rfl
      |true=>
       exfalso
       cases hl:(lq Cm listed).getD (m+k) true with
       |true=>have:=(hp.calls _ _ hj hc).1 hl;omega
       |false=>
        obtain ⟨h1,h2,h3,h4⟩:=hgq _ _ hj hl
        have:=hch.call _ _ h1 h2 h3
        rw [hc] at this;cases this
     rw [←ih (by omega)]
     rcases hsteps (m+k) _ hj with ⟨_,r',hev',hst'',_,_⟩|⟨_,hst'',_⟩
     ·rw [←Nat.add_assoc,hst''];exact xB (zHx hev' hnc) _
     ·rw [←Nat.add_assoc,hst'']
   have hmle:m≤ops.size:=by have:=hp.mle;rwa [yO] at this
   have hlst:sts m=e1.st:=by
    have:=heq (ops.size-m) (by omega)
    rw [Nat.add_sub_cancel' hmle] at this
    rw [←this,hlast]
   have hal:=uB (fl.filter (fun q=>listed.getD q.i true)) b0
   obtain ⟨a1,a2⟩:=uZ (fl.filter (fun q=>listed.getD q.i true)) b0 _ (hflok.filter _) (by rw [hb0.len];exact Nat.le_refl _)
   have hvar: ∀s,(qQ b0 (fl.filter (fun q=>listed.getD q.i true))).var s=e1.var s:=fun s=>(hal.trans hb0).var s
   refine Inv.of (al:=al) (by rw [hal.st,hb0.st, ←hlst];exact hp.core) hp.g (by rw [hal.len,hb0.len];exact hp.size) hp.defers ?_ ?_ ?_
   ·intro t
    by_cases ht: ∃q,q∈fl∧t=q.d
    ·obtain ⟨q,hq,rfl⟩:=ht
     cases hl:listed.getD q.i true with
     |true=>
      rw [a2 q (List.mem_filter.2 ⟨hq,hl⟩)]
      have hk:=hp.tm q.d (hknown q.d (by
       intro r hr hrd
       have:r.i=q.i:=by
        obtain ⟨c1,_,o1,h1,d1⟩:=hfo q hq
        obtain ⟨c2,_,o2,h2,d2⟩:=hfo r hr
        exact (hch.st.dist q.i r.i o1 o2 q.d (vV h1 c1) (vV h2 c2) d1 (by rw [hrd];exact d2)).symm
       rw [this];exact hl))
      rw [(hfv q hq).1] at hk
      have:q.val b0=q.val e1:=by
       unfold Fl.val
       cases hv:q.v with
       |c x=>rfl
       |a s=>simp only;exact hb1 s (fun r hr=>hflok.src q hq s hv r hr)
      rw [this];exact hk
     |false=>
      rw [a1 q.d (by
       intro r hr hrd
       obtain ⟨hr1,hr2⟩:=List.mem_filter.1 hr
       obtain ⟨c1,_,o1,h1,d1⟩:=hfo q hq
       obtain ⟨c2,_,o2,h2,d2⟩:=hfo r hr1
       have:q.i=r.i:=hch.st.dist q.i r.i o1 o2 q.d (vV h1 c1) (vV h2 c2) d1 (by rw [hrd];exact d2)
       rw [←this,hl] at hr2;cases hr2),hb2 q hq]
      trivial
    ·have ht': ∀q,q∈fl→t≠q.d:=fun q hq hh=>ht ⟨q,hq,hh⟩
     rw [a1 t (fun q hq=>ht' q (List.mem_filter.1 hq).1),hb1 t ht']
     exact hp.tm t (hknown t (fun q hq hh=>absurd hh (ht' q hq)))
   ·intro s cs hcs
    rw [hvar] at hcs
    have hks:zFg (jK ops Cm) (lq Cm listed) s:=hknown s (by
     intro q hq hh
     subst hh
     rw [(hfv q hq).2] at hcs;cases hcs)
    have ha:=hp.vk s cs hcs hks
    exact ⟨ha,hp.var s cs hcs ha⟩
   ·intro s hs
    obtain ⟨cs,hcs⟩:=hp.lp s hs
    exact ⟨cs,by rw [hvar];exact hcs⟩
 intro fuel
 induction fuel with
 |zero=>
  intro listed a w hls hcnt hcl hnc hp
  refine hgo 0 listed a w hls hcnt hcl hnc ?_ hp
  intro i hi _ _
  cases hl:listed.getD i true with
  |true=>rfl
  |false=>
   exfalso
   have h0:listed.count false=0:=by omega
   rw [Array.count_eq_zero] at h0
   apply h0
   have h:i<listed.size:=by omega
   simp [Array.getD_eq_getD_getElem?,h] at hl
   rw [←hl];exact Array.getElem_mem h
 |succ fuel ih=>
  intro listed a w hls hcnt hcl hnc hp
  by_cases hall: ∀i,i<ops.size→Cm.testBit i=false→Um.testBit i=false→listed.getD i true=true
  ·exact hgo (fuel+1) listed a w hls hcnt hcl hnc hall hp
  ·obtain ⟨j,hj⟩:=Classical.not_forall.1 hall
   simp only [Classical.not_imp] at hj
   obtain ⟨hj1,hj2,hj3,hj4⟩:=hj
   refine ⟨fun hr=> ?_,?_⟩
   ·exfalso
    apply hj4
    have: ∀i,i<ops.size→listed.getD i true=true:=by
     intro i
     induction i using Nat.strongRecOn with
     |_ i ihi=>
      intro hi
      cases hl:listed.getD i true with
      |true=>rfl
      |false=>
       exfalso
       have hmem:i∈Region.ready .any ops listed:=by
        rw [mem_ready]
        refine ⟨hl,ops[i],by simp [hi],?_⟩
        intro e he hb
        have hon:=hch.edge i ops[i] e (by simp [hi]) he hb
        rw [zBQ (by omega)]
        exact ihi e.on hon (by omega)
       rw [hr] at hmem;cases hmem
    exact this j hj1
   ·intro i hi
    obtain ⟨hun,o,ho,hdeps⟩:=mem_ready.1 hi
    have hlt:i<ops.size:=(Array.getElem?_eq_some_iff.1 ho).1
    have hin:i<listed.size:=by omega
    have hdeps': ∀e,e∈o.after→Region.binds .any e=true→listed.getD e.on true=true:=by
     intro e he hb
     have h1:=hdeps e he hb
     have hon:=hch.edge i o e ho he hb
     rw [←zBQ (by omega)];exact h1
    have hC:Cm.testBit i=false:=by
     cases hC:Cm.testBit i with
     |false=>rfl
     |true=>
      exfalso
      have hb:=hch.before i o ho hC j hj1 (.inr ⟨hj2,hj3⟩)
      exact hj4 (hch.up (fun j=>listed.getD j true=true) hcl i o ho hdeps' j hb.1 hb.2)
    obtain ⟨F,O,β,al,m,hp⟩:=hp
    refine zPj hch ho hC ?_
    refine zKs hch.st hS hsteps hp (by rw [zSC,yO];exact hls) ?_ (vV ho hC) ?_ ?_ ?_
    ·intro k ok e hk hl he hb
     rw [zJg,Bool.or_eq_true] at hl ⊢
     have hkl:k<ops.size:=by have:=(Array.getElem?_eq_some_iff.1 hk).1;rwa [yO] at this
     rw [zCo] at hk
     simp only [Option.map_eq_some_iff] at hk
     obtain ⟨o',ho',heq⟩:=hk
     cases hCk:Cm.testBit k with
     |true=>
      simp only [hCk] at heq
      subst heq
      simp [zRd] at he
     |false=>
      simp only [hCk] at heq
      subst heq
      rw [hCk] at hl
      exact .inl (hcl k o' e ho' (hl.resolve_right (by simp)) he hb)
    ·rw [zJg,hun,hC];rfl
    ·intro e he hb
     rw [zJg,hdeps' e he hb];rfl
    ·intro a' w' F' O' β' al' m' hp'
     rw [←zTL] at hp'
     refine ih (listed.setIfInBounds i true) a' w' (by simpa using hls) ?_ ?_ ?_ ⟨F',O',β',al',m',hp'⟩
     ·have hli:listed[i]=false:=by simpa [Array.getD_eq_getD_getElem?,hin] using hun
      rw [Array.setIfInBounds_def,dif_pos hin,Array.count_set hin,hli]
      simp
      omega
     ·intro k ok e hk hl he hb
      show (listed.setIfInBounds i true).getD e.on true=true
      have hl:(listed.setIfInBounds i true).getD k true=true:=hl
      rw [qB _ _ _ hin] at hl ⊢
      split
      ·rfl
      ·by_cases hki:k=i
       ·subst hki;rw [ho] at hk;cases hk;exact hdeps' e he hb
       ·rw [if_neg hki] at hl;exact hcl k ok e hk hl he hb
     ·intro c hc hCc
      rw [qB _ _ _ hin,if_neg (fun hh=>by rw [hh,hC] at hCc;cases hCc)]
      exact hnc c hc hCc
theorem zP8 (hmix:P.follows .mixedOrders=true) (hch:zOB ops anc Cm Um) (hS:zZ Γ P G S) {a:Act} {w:World} {e e1 b':Env Γ.St} (hi:Inv Γ G w0 F0 O0 a w e)
  (he1:zAi P G S (jK ops Cm) (jK ops Cm).toList (killAll (zK (jK ops Cm).toList) e)=some e1)
  {fl:List Fl} (hflok:zE4 e1.tm.length fl)
  (hfi: ∀i,Um.testBit i=true→Cm.testBit i=false→i<ops.size→ ∃q,q∈fl∧q.i=i)
  (hfo: ∀q,q∈fl→Cm.testBit q.i=false∧Um.testBit q.i=true∧ ∃o,ops[q.i]? =some o∧o.dst=some q.d)
  (hfv: ∀q,q∈fl→e1.get q.d=q.val e1∧e1.var q.d=none)
  (hf0: ∀q,q∈fl→zGU P G S ops fl (zBV e1 fl) q)
  (hchain:zEm P G S ops anc fl ((List.range ops.size).filter (fun i=>Cm.testBit i)) (zBV e1 fl) b') {id:Nat}
  {Q:Exit→Act→World→Prop} (hQ: ∀a w,Inv Γ G w0 F0 O0 a w (qQ b' fl)→Q .normal a w):(Code.region id ops true).wp P Q a w:=by
 have hst:=hch.st
 have hah:=zJM hst 0 (jK ops Cm).toList (by simp)
 have hno: ∀d,d∈zK (jK ops Cm).toList→(killAll (zK (jK ops Cm).toList) e).var d=none:=by
  intro d hd
  cases hv:(killAll (zK (jK ops Cm).toList) e).var d with
  |none=>rfl
  |some cs=>exact absurd ⟨cs,hv⟩ (u7 _ e d hd).1
 obtain ⟨sts,h0,hn,hsteps,hg,hv,hl⟩:=zDd _ _ _ he1 hah hno
 have hsteps': ∀ (i:Nat) (o:Oper),(jK ops Cm)[i]? =some o→zBv P G S (jK ops Cm) e1 (sts i) o (sts (i+1)):=fun i o ho=>hsteps i o (by rw [Array.getElem?_toList];exact ho)
 refine wp_region_any hmix ?_
 obtain ⟨F,O,β,hc,hG,hsz,hdf,ht,hvv⟩:=(hi.killAll (zK (jK ops Cm).toList)).drew (w.drawn+1) (Nat.le_succ _)
 have hlqf: ∀i,i<ops.size→Cm.testBit i=false→(lq Cm (Array.replicate ops.size false)).getD i true=false:=by
  intro i hi hC
  rw [zJg,hC]
  simp [Array.getD_eq_getD_getElem?,hi]
 have hmem: ∀ (i:Nat) (o:Oper) (d:Nat),(jK ops Cm)[i]? =some o→o.dst=some d→d∈zK (jK ops Cm).toList∧Cm.testBit i=false:=by
  intro i o d ho hd
  refine ⟨?_,?_⟩
  ·simp only [zK,List.mem_filterMap]
   exact ⟨o,Array.mem_toList_iff.2 (Array.mem_of_getElem? ho),hd⟩
  ·cases hC:Cm.testBit i with
   |false=>rfl
   |true=>
    rw [zCo] at ho
    simp only [Option.map_eq_some_iff] at ho
    obtain ⟨o',_,heq⟩:=ho
    simp only [hC] at heq
    subst heq
    cases hd
 have hnotin: ∀t,zFg (jK ops Cm) (lq Cm (Array.replicate ops.size false)) t→t ∉ zK (jK ops Cm).toList:=by
  intro t hkn hin
  simp only [zK,List.mem_filterMap] at hin
  obtain ⟨o,hm',hd⟩:=hin
  obtain ⟨i,hi',rfl⟩:=List.getElem_of_mem hm'
  have hi'':i< (jK ops Cm).size:=by simpa using hi'
  have hoi:(jK ops Cm)[i]? =some (jK ops Cm)[i]:=Array.getElem?_eq_getElem hi''
  have hd':(jK ops Cm)[i].dst=some t:=by rw [←Array.getElem_toList];exact hd
  refine hkn i _ hoi (hlqf i (by rwa [yO] at hi'') (hmem i _ t hoi hd').2) hd'
 obtain ⟨d1,d2,d3⟩:=zMU hflok
 refine zKW hch hS hsteps' (by rw [←hn];simp [yO]) hflok hfi hfo hfv d1 d2 d3 hf0 hchain hQ ops.size _ a _ (by simp) (by simp) ?_ ?_ ⟨F,O,β,alive (killAll (zK (jK ops Cm).toList) e),0,?_⟩
 ·intro i o ed ho hlst
  have hi'':i<ops.size:=(Array.getElem?_eq_some_iff.1 ho).1
  have hlst:(Array.replicate ops.size false).getD i true=true:=hlst
  simp [Array.getD_eq_getD_getElem?,hi''] at hlst
 ·intro c hc _;simp [Array.getD_eq_getD_getElem?,hc]
 ·refine ⟨by rw [h0];exact hc,hG,by rw [hl];exact hsz,hdf,?_,?_,?_,?_,?_,Nat.zero_le _,?_⟩
  ·intro t hkn;rw [hg t (hnotin t hkn)];exact ht t
  ·intro s cs hcs hs
   obtain ⟨cs0,hcs0⟩:=hs
   have hni:s ∉ zK (jK ops Cm).toList:=fun hin=>by rw [hno s hin] at hcs0;cases hcs0
   rw [hv s hni] at hcs
   exact hvv s cs hcs
  ·intro s hs
   obtain ⟨cs0,hcs0⟩:=hs
   have hni:s ∉ zK (jK ops Cm).toList:=fun hin=>by rw [hno s hin] at hcs0;cases hcs0
   exact ⟨cs0,by rw [hv s hni];exact hcs0⟩
  ·intro s cs hcs hkn
   rw [hv s (hnotin s hkn)] at hcs
   exact ⟨cs,hcs⟩
  ·intro i o d ho _ hd
   exact u7 _ e d (hmem i o d ho hd).1
  ·intro i o ho hcall
   cases hC:Cm.testBit i with
   |false=>
    have hi'':i<ops.size:=by have:=(Array.getElem?_eq_some_iff.1 ho).1;rwa [yO] at this
    rw [hlqf i hi'' hC];simp
   |true=>
    exfalso
    rw [zCo] at ho
    simp only [Option.map_eq_some_iff] at ho
    obtain ⟨o',_,heq⟩:=ho
    simp only [hC] at heq
    subst heq
    cases hcall
end
def zMh (a b:Nat):T→T
 | .ow i k es=> .ow (if i=a then b else i) k es
 | .oe i k es j off=> .oe (if i=a then b else i) k es j off
 | .mp i es ck=> .mp (if i=a then b else i) es ck
 | .ot i t xs=> .ot (if i=a then b else i) t xs
 | .oet i t xs j off=> .oet (if i=a then b else i) t xs j off
 | .ov i t xs lo hi=> .ov (if i=a then b else i) t xs lo hi
 | .on n=> .on { n with id:=if n.id=a then b else n.id,id2:=if n.id2=a then b else n.id2 }
 |x=>x
def noO (d:Nat):T→Bool
 | .ow i _ _=> !Nat.beq i d
 | .oe i _ _ _ _=> !Nat.beq i d
 | .mp i _ _=> !Nat.beq i d
 | .ot i _ _=> !Nat.beq i d
 | .oet i _ _ _ _=> !Nat.beq i d
 | .ov i _ _ _ _=> !Nat.beq i d
 | .on n=> !Nat.beq n.id d&& !Nat.beq n.id2 d
 |_=>true
def zTI {St:Type} (d:Nat) (e:Env St):Bool:=
 e.tm.all (noO d)&&e.vars.all (fun c=>match c with
  |some cs=>cs.all (noO d)
  |none=>true)
section
variable {Γ:Sig} {G:Nat→Option (List V)} {w0:World} {F0:Blk→Prop} {O0:kC} {e:Env Γ.St} {a0:Act} {w:World}
theorem zOU {d:Nat} {x:T} (h:noO d x=true): ¬x.hasO d:=by
 cases x<;>simp only [noO,T.hasO,Bool.not_eq_true'] at h ⊢ <;>first|(intro hh;exact hh)|(intro hh;subst hh;simp at h)|(rintro ⟨hh,_⟩;subst hh;simp at h)|(rintro (hh|hh)<;>(subst hh;simp at h))
theorem Inv.ren (hi:Inv Γ G w0 F0 O0 a0 w e) {a b:Nat} (hb:zTI b e=true) (hal:a≠qA) (hbl:b≠qA):Inv Γ G w0 F0 O0 a0 w (e.mapT (zMh a b)):=by
 obtain ⟨F,O,β,hc,hG,hsz,hdf,ht,hv⟩:=hi
 by_cases hab:a=b
 ·subst hab
  have:e.mapT (zMh a a)=e:=by
   have hid: ∀x:T,zMh a a x=x:=by
    intro x
    cases x with
    |on n=>
     have h: ∀i,(if i=a then a else i)=i:=fun i=>by split<;>simp_all
     simp only [zMh,h]
    |_=>simp only [zMh]<;>(try split)<;>simp_all
   obtain ⟨tm,vars,st⟩:=e
   simp only [Env.mapT,Env.mk.injEq,and_true]
   refine ⟨(List.map_congr_left (fun x _=>hid x)).trans (List.map_id _),?_⟩
   refine (List.map_congr_left (g:=id) ?_).trans (List.map_id _)
   intro c _
   cases c with
   |none=>rfl
   |some cs=>exact congrArg some ((List.map_congr_left (fun x _=>hid x)).trans (List.map_id _))
  rw [this]
  exact ⟨F,O,β,hc,hG,hsz,hdf,ht,hv⟩
 have hnb: ¬alive e (.o b):=by
  rintro ⟨x,hx,hid⟩
  unfold zTI at hb
  simp only [Bool.and_eq_true] at hb
  rcases hx with hx|⟨s,cs,hcs,hx⟩
  ·exact zOU (List.all_eq_true.1 hb.1 x hx) hid
  ·have hm:some cs∈e.vars:=by
    simp only [Env.var] at hcs
    cases hg:e.vars[s]? with
    |none=>rw [hg] at hcs;cases hcs
    |some c=>rw [hg] at hcs;simp only [Option.getD_some] at hcs;subst hcs;exact List.mem_of_getElem? hg
   have:=List.all_eq_true.1 hb.2 (some cs) hm
   exact zOU (List.all_eq_true.1 this x hx) hid
 let β':Lay:= { β with ob:=fun i=>if i=b then β.ob a else β.ob i }
 let al':Site→Prop:=fun x=>match x with
  | .v s=>alive e (.v s)
  | .o i=>(i=b∧alive e (.o a))∨(i≠a∧i≠b∧alive e (.o i))
 have hblk: ∀i,alive e (.o i)→al' (.o (if i=a then b else i))∧β'.ob (if i=a then b else i)=β.ob i:=by
  intro i hi
  by_cases h:i=a
  ·subst h
   simp only [if_true]
   exact ⟨.inl ⟨rfl,hi⟩,by simp [β']⟩
  ·have hib:i≠b:=fun hh=>hnb (hh▸hi)
   simp only [if_neg h]
   exact ⟨.inr ⟨h,hib,hi⟩,by simp [β',hib]⟩
 have hf: ∀v x,zE w F β (alive e) v x→zE w F β' al' v (zMh a b x):=by
  intro v x hx
  cases x with
  |p d=>exact hx
  |ow i k es=>
   obtain ⟨ha,cap,hv',hr⟩:=hx
   obtain ⟨h1,h2⟩:=hblk i ha
   exact ⟨h1,cap,by rw [h2];exact hv',by rw [h2];exact hr⟩
  |oe i k es j off=>
   obtain ⟨ha,hj,cap,hv',hr⟩:=hx
   obtain ⟨h1,h2⟩:=hblk i ha
   exact ⟨h1,hj,cap,by rw [h2];exact hv',by rw [h2];exact hr⟩
  |lp s off=>exact hx
  |mp i es ck=>
   obtain ⟨ha,hv',hr⟩:=hx
   obtain ⟨h1,h2⟩:=hblk i ha
   exact ⟨h1,by rw [h2];exact hv',by rw [h2];exact hr⟩
  |ot i t xs=>
   rcases hx with hx|⟨hne,ha,cap,hv',hr⟩
   ·exact .inl hx
   ·obtain ⟨h1,h2⟩:=hblk i ha
    exact .inr ⟨hne,h1,cap,by rw [h2];exact hv',by rw [h2];exact hr⟩
  |oet i t xs j off=>
   obtain ⟨ha,hj,cap,hv',hr⟩:=hx
   obtain ⟨h1,h2⟩:=hblk i ha
   exact ⟨h1,hj,cap,by rw [h2];exact hv',by rw [h2];exact hr⟩
  |ov i t xs lo hi=>
   rcases hx with hx|⟨hne,ha,k1,k2,cap,hv',hr⟩
   ·exact .inl hx
   ·obtain ⟨h1,h2⟩:=hblk i ha
    exact .inr ⟨hne,h1,k1,k2,cap,by rw [h2];exact hv',by rw [h2];exact hr⟩
  |on n=>
   obtain ⟨id,id2,ty,xs,j,ys,m⟩:=n
   obtain ⟨ha,ha2,c,et,cap2,k1,k2,k5,k6,k7,k8⟩:=hx
   obtain ⟨h1,h2⟩:=hblk id ha
   obtain ⟨h3,h4⟩:=hblk id2 ha2
   simp only at k1 k6 k7 k8
   exact ⟨h1,h3,c,et,cap2,by simp only [h2];exact k1,k2,k5,by simp only [h4];exact k6,by simp only [h4];exact k7,by simp only [h2,h4];exact k8⟩
  |emp=>exact hx
  |dead=>trivial
 have hsite: ∀x,al' x→ ∃y,alive e y∧β'.blk x=β.blk y∧(∀s,x= .v s↔y= .v s)∧(x= .o b↔y= .o a)∧(x≠ .o b→x=y):=by
  intro x hx
  cases x with
  |v s=>exact ⟨.v s,hx,rfl,fun _=>Iff.rfl,by simp,fun _=>rfl⟩
  |o i=>
   rcases hx with ⟨rfl,ha⟩|⟨h1,h2,ha⟩
   ·exact ⟨.o a,ha,by simp [Lay.blk,β'],by simp,by simp,fun h=>absurd rfl h⟩
   ·exact ⟨.o i,ha,by simp [Lay.blk,β',h2],fun s=>Iff.rfl,by simp [h1,h2],fun _=>rfl⟩
 refine Inv.of (al:=al') (β:=β') ⟨hc.keep,hc.sig,hc.oin,hc.fin,hc.f0,?_,?_,hc.lent⟩ hG (by simpa [Env.mapT] using hsz) hdf (fun t=>by rw [qH rfl];exact hf _ _ (ht t)) ?_ ?_
 ·intro x hx
  obtain ⟨y,hy,hb',_,hx1,hx2⟩:=hsite x hx
  rw [hb']
  refine ⟨?_,(hc.place y hy).2⟩
  have hp:=(hc.place y hy).1
  by_cases h1:x= .o b
  ·have h2:=hx1.1 h1
   subst h2
   subst h1
   exact .inl ⟨fun h=>hbl (by injection h),hp.o hal⟩
  ·rw [hx2 h1];exact hp
 ·intro x y hx hy hxy
  obtain ⟨x',hx',hbx,_,hx1,hx2⟩:=hsite x hx
  obtain ⟨y',hy',hby,_,hy1,hy2⟩:=hsite y hy
  rw [hbx,hby] at hxy
  have:=hc.dist x' y' hx' hy' hxy
  subst this
  by_cases h1:x= .o b
  ·rw [h1,hy1.2 (hx1.1 h1)]
  ·by_cases h2:y= .o b
   ·exact absurd (hx1.2 (hy1.1 h2)) h1
   ·rw [hx2 h1,hy2 h2]
 ·intro s cs hcs
  rw [zS] at hcs
  simp only [Option.map_eq_some_iff] at hcs
  obtain ⟨cs0,hcs0,rfl⟩:=hcs
  exact ⟨⟨cs0,hcs0⟩,(hv s cs0 hcs0).mapT rfl hf⟩
 ·rintro s ⟨cs,hcs⟩
  exact ⟨_,by rw [zS,hcs];rfl⟩
end
end Go.Ve

namespace Go.Ve
open Go
def zP (d:Nat):T→T
 | .ow i k es=>if i=d then .dead else .ow i k es
 | .oe i k es j off=>if i=d then .dead else .oe i k es j off
 | .mp i es ck=>if i=d then .dead else .mp i es ck
 | .ot i t xs=>if i=d then .dead else .ot i t xs
 | .oet i t xs j off=>if i=d then .dead else .oet i t xs j off
 | .ov i t xs j off=>if i=d then .dead else .ov i t xs j off
 | .on n=>if n.id=d∨n.id2=d then .dead else .on n
 |x=>x
def alo (d:Nat) (al:Site→Prop) (x:Site):Prop:=al x∧x≠ .o d
theorem zE.killO {w:World} {F:Blk→Prop} {β:Lay} {al:Site→Prop} {v:Value} {x:T} {d:Nat} (h:zE w F β al v x):zE w F β (alo d al) v (zP d x):=by
 cases x with
 |p d=>exact h
 |ow i k es=>
  simp only [zP];split
  ·trivial
  ·rename_i hne;exact ⟨⟨h.1,by simpa using hne⟩,h.2⟩
 |oe i k es j off=>
  simp only [zP];split
  ·trivial
  ·rename_i hne;exact ⟨⟨h.1,by simpa using hne⟩,h.2⟩
 |lp s off=>exact ⟨⟨h.1,by simp⟩,h.2⟩
 |mp i es ck=>
  simp only [zP];split
  ·trivial
  ·rename_i hne;exact ⟨⟨h.1,by simpa using hne⟩,h.2⟩
 |ot i t xs=>
  simp only [zP];split
  ·trivial
  ·rename_i hne
   rcases h with h|⟨h0,ha,h⟩
   ·exact .inl h
   ·exact .inr ⟨h0,⟨ha,by simpa using hne⟩,h⟩
 |oet i t xs j off=>
  simp only [zP];split
  ·trivial
  ·rename_i hne;exact ⟨⟨h.1,by simpa using hne⟩,h.2⟩
 |ov i t xs lo hi=>
  simp only [zP];split
  ·trivial
  ·rename_i hne
   rcases h with h|⟨h0,ha,h⟩
   ·exact .inl h
   ·exact .inr ⟨h0,⟨ha,by simpa using hne⟩,h⟩
 |on n=>
  simp only [zP];split
  ·trivial
  ·rename_i hne
   have h1:=not_or.1 hne
   exact ⟨⟨h.1,by simpa using h1.1⟩,⟨h.2.1,by simpa using h1.2⟩,h.2.2⟩
 |emp=>exact h
 |dead=>trivial
def updB (id:Nat) (t:Ty) (zs:List t.El):T→T
 | .ot i t' xs=>if i=id then (if t'=t then .ot id t zs else .dead) else .ot i t' xs
 |x=>zP id x
def zR3:List Bool→Bool
 |[]=>true
 |[b]=>b
 |b::c::r=>b&&zR3 (c::r)
def zFa (id p n:Nat):Nat→List T→List Bool
 |_,[]=>[]
 |i, .ot j _ xs::r=>match Nat.beq j id with
  |true=>match Nat.beq i p with
   |true=>zFa id p n (i+1) r
   |false=>Nat.beq xs.length n::zFa id p n (i+1) r
  |false=>zFa id p n (i+1) r
 |i,_::r=>zFa id p n (i+1) r
theorem zNe: ∀ {l:List Bool},zR3 l=true→ ∀b,b∈l→b=true
 |[],_,b,hb=>by simp at hb
 |[c],h,b,hb=>by simp only [List.mem_singleton] at hb;subst hb;exact h
 |c::c'::r,h,b,hb=>by
  simp only [zR3,Bool.and_eq_true] at h
  rcases List.mem_cons.1 hb with rfl|hb
  ·exact h.1
  ·exact zNe h.2 b hb
theorem zKw {id p n:Nat} : ∀ {l:List T} {i:Nat},(∀b,b∈zFa id p n i l→b=true)→ ∀ (k:Nat) (t:Ty) (xs:List t.El),l[k]? =some (.ot id t xs)→i+k≠p→xs.length=n
 |[],i,_,k,t,xs,hk,_=>by simp at hk
 |x::r,i,h,k,t,xs,hk,hne=>by
  have hr: ∀b,b∈zFa id p n (i+1) r→b=true:=by
   intro b hb
   refine h b ?_
   cases x with
   |ot j t' ys=>
    simp only [zFa]
    split
    ·split
     ·exact hb
     ·exact List.mem_cons_of_mem _ hb
    ·exact hb
   |_=>exact hb
  cases k with
  |zero=>
   simp only [List.getElem?_cons_zero,Option.some.injEq] at hk
   subst hk
   have hip:Nat.beq i p=false:=by
    cases hb:Nat.beq i p with
    |false=>rfl
    |true=>exact absurd (Nat.eq_of_beq_eq_true hb) (by simpa using hne)
   have:=h (Nat.beq xs.length n) (by simp only [zFa,Nat.beq_refl,hip];exact List.mem_cons_self)
   exact Nat.eq_of_beq_eq_true this
  |succ k=>exact zKw hr k t xs (by simpa using hk) (by omega)
def zQ6 {St:Type} (e:Env St) (id p:Nat) (t:Ty) (zs:List t.El) (st:St) (dst:Option Tmp) (d:V):Env St:=
 (⟨(e.tm.map (updB id t zs)).set p (.ot id t zs),e.vars.map (fun c=>c.map (List.map (zP id))),st⟩:Env St).put dst (.p d)
def zQ5 {St:Type} (e:Env St) (id:Nat) (t:Ty) (zs:List t.El) (st:St) (dst:Option Tmp):Env St:=
 (⟨e.tm.map (zP id),e.vars.map (fun c=>c.map (List.map (zP id))),st⟩:Env St).put dst (.ot id t zs)
section
variable {Γ:Sig} {P:Program} {G:Nat→Option (List V)} {S:qZ Γ} {w0:World} {F0:Blk→Prop} {O0:kC} {a:Act} {w:World} {e:Env Γ.St}
theorem zMj {w:World} {F:Blk→Prop} (u:Value) (h:Rd w F u .bot):False:=by cases h
theorem zS2 (hS:zZ Γ P G S) (hi:Inv Γ G w0 F0 O0 a w e) {dst:Option Tmp} {c:Call} {type:TypeId} {pos:String} {after:Array Edge} {guard:Option (Nat×Bool)}
  {f:Operand} {g:FuncId} {p id:Nat} {xs:List Operand} {t:Ty} {ys zs:List t.El} {ds:List V} {st':Γ.St} {d:V}
  (hcal:c.callee= .value f) (hf:evx G e f= .p (.clo g [])) (hcargs:c.args.toList= .tmp p::xs) (hp:e.get p= .ot id t ys) (hxs:vU G e xs=some ds)
  (hlens:zR3 (zFa id p ys.length 0 e.tm)=true) (hdb:d= .bot→False) (hsp:S g e.st (.bot:: .tl t ys::ds)=some (st', .p (.tup [.tl t zs,d]))) {Q:Exit→Act→World→Prop} :
  (⟨dst, .call c,type,pos,after,guard⟩:Oper).wp P a w (fun a' w'=>Inv Γ G w0 F0 O0 a' w' (zQ6 e id p t zs st' dst d)) Q:=by
 obtain ⟨F,O,β,hc,hG,hsz,hdf,ht,hv⟩:=hi
 obtain ⟨hbor,fn,hfn,hbody,hname⟩:=hS.bor g e.st t ys ds st' zs d hsp
 have hops: ∀x,zE w F β (alive e) (a.eval x) (evx G e x):=fun x=>wS hG ht x
 have hf0:=hops f
 rw [hf] at hf0
 have hx0:=ht p
 rw [hp] at hx0
 have hplt:p<e.tm.length:=by
  rcases Nat.lt_or_ge p e.tm.length with h|h
  ·exact h
  ·simp only [Env.get,List.getD_eq_getElem?_getD,List.getElem?_eq_none h,Option.getD_none] at hp
   cases hp
 obtain ⟨hlen,hargs⟩:=zA1 (a:=a) xs ds (fun x _=>hops x) hxs
 have hrun:(execOp a.eval ⟨dst, .call c,type,pos,after,guard⟩).run P w= .ok (.enter g (c.args.map a.eval)) w:=by
  have hf1:Rd w F (a.eval f) (.clo g []):=hf0
  generalize hev:a.eval f=fv at hf1
  cases hf1 with
  |clo _ cv _ hl hcap=>
   have hcv:cv= #[]:=by simpa using hl
   subst hcv
   have hb: ¬fn.body=none:=by intro hbb;simp [hbb] at hbody
   have hname' : ¬ fn.name = "runtime.NumGoroutine" := by simpa using hname
   simp [execOp,resolve,hcal,hev,Deferred.ofValue,invoke,callFunc,hfn,hname',hb]
 have hnp:zCV ds=none:=zDV (fun r hr=>by
  cases xs with
  |nil=>rw [hr] at hlen;simp at hlen
  |cons x xs'=>exact zMj _ (hargs 0 (a.eval x) .bot (by simp) (by rw [hr];rfl)))
 have hcs:c.args=(.tmp p::xs).toArray:=by apply Array.ext';simpa using hcargs
 have hsize:(c.args.map a.eval).size=ds.length+1:=by rw [hcs];simp [hlen]
 have ha0:(c.args.map a.eval)[0]? =some (a.tmps.getD p undef):=by rw [hcs];simp [Act.eval]
 have hown:zJS w F ⟨fun _=>β.ob id,fun _=>β.ob id⟩ (fun _=>True) (a.tmps.getD p undef) 0 t.size (ys.map t.enc):=by
  rcases hx0 with h|⟨h0,_,h⟩
  ·exact .inl h
  ·exact .inr ⟨h0,trivial,h⟩
 have hal0:ys≠[]→alive e (.o id):=by
  intro h0
  rcases hx0 with ⟨h,_⟩|⟨_,h,_⟩
  ·exact absurd (by simpa using h) h0
  ·exact h
 have hcall:=(hbor.row hnp) w F O (β.ob id) (a.tmps.getD p undef) (c.args.map a.eval) hc.sig hG (fun b hb=>(hc.fin b hb).2) hown
  (fun h0=>⟨(hc.place _ (hal0 h0)).2.1,(hc.place _ (hal0 h0)).2.2.1,(hc.place _ (hal0 h0)).2.2.2⟩) hsize ha0
  (fun i x y hi hd=>hargs i x y (by rw [hcs] at hi;simpa using hi) hd)
 unfold Oper.wp
 rw [hrun]
 refine hcall.mono ?_
 rintro ex w' ⟨v,F',O',rfl,g1,g2,g3,g4,g5,g67⟩
 obtain ⟨g6,g7⟩:=g67.out hdb
 have hkb: ∀b,b<w.heap.size→ ¬O b→(ys≠[]→b≠β.ob id)→w'.heap[b]? =w.heap[b]? :=fun b hb ho hne=>g2.block b hb (fun h=>h.elim ho (fun h=>hne h.1 h.2))
 have hne: ∀x,alive e x→x≠ .o id→ys≠[]→β.blk x≠β.ob id:=fun x hx hxi h0 hh=>hxi (hc.dist x (.o id) hx (hal0 h0) hh)
 have hO': ∀b,b<w.heap.size→ ¬O b→ ¬O' b:=fun b hb ho h=>by
  rcases g3 b h with h|h
  ·exact ho h
  ·omega
 have hF': ∀b:Nat,b<w.heap.size→ ¬F b→ ¬F' b:=fun b hb hf h=>by
  rcases (g5 b h).1 with h|h
  ·exact hf h
  ·omega
 have hext:Ext w F β (alo id (alive e)) w' F' β (alive e):=
  ⟨g4,fun b hb=>hkb b (hc.fin b hb).2.1 (hc.fin b hb).2.2 (fun h0 hh=>(hc.place _ (hal0 h0)).2.2.1 (by rw [hh] at hb;exact hb)),fun x hx=>hx.1,fun _ _=>rfl,
   fun x hx=>hkb _ (hc.place x hx.1).2.1 (hc.place x hx.1).2.2.2 (hne x hx.1 hx.2)⟩
 have hcore:Core Γ w0 F0 O0 w' F' O' β (alive e) st':=by
  refine ⟨⟨g2.os.trans hc.keep.os,g2.tape.trans hc.keep.tape,g2.output.trans hc.keep.output,Nat.le_trans hc.keep.size g2.size,?_,Nat.le_trans hc.keep.drawn g2.drawn⟩,g1,?_,?_,fun b hb=>g4 b (hc.f0 b hb),?_,hc.dist,?_⟩
  ·intro b hb ho
   rw [hkb b (by have:=hc.keep.size;omega) (fun h=>by
    rcases hc.oin b h with h|h
    ·exact ho (.inl h)
    ·omega) (fun h0 hh=>ho ((hc.place _ (hal0 h0)).1.old (by show β.ob id<_;rw [←hh];exact hb)|>fun h=>by rw [hh];exact h))]
   exact hc.keep.block b hb ho
  ·intro b hb
   rcases g3 b hb with h|h
   ·exact hc.oin b h
   ·exact .inr (Nat.le_trans hc.keep.size h)
  ·intro b hb
   obtain ⟨h1,h2,h3⟩:=g5 b hb
   refine ⟨?_,h2,h3⟩
   rcases h1 with h|h
   ·exact (hc.fin b h).1
   ·exact .inr (Nat.le_trans hc.keep.size h)
  ·intro x hx
   obtain ⟨k1,k2,k3,k4⟩:=hc.place x hx
   exact ⟨k1,Nat.lt_of_lt_of_le k2 g2.size,hF' _ k2 k3,hO' _ k2 k4⟩
  ·intro b n hb
   obtain ⟨h1,h2,h3,cc,et,fl,h4,h5⟩:=hc.lent b n hb
   have hbw:b<w.heap.size:=by have:=hc.keep.size;omega
   refine ⟨h1,hO' b hbw h2,hF' b hbw h3,?_⟩
   by_cases hbi:ys≠[]∧b=β.ob id
   ·obtain ⟨hy,rfl⟩:=hbi
    rcases hown with ⟨hh,_⟩|⟨_,_,cap,hv0,c0,et0,r1,r2,_⟩
    ·exact absurd (by simpa using hh) hy
    ·rw [r1] at h4
     simp only [Option.some.injEq,Obj.cells.injEq] at h4
     obtain ⟨rfl,_,_⟩:=h4
     rcases g6 with ⟨hh,a0,hv1⟩|⟨_,_,cap1,hv1,c1,et1,q1,q2,_⟩
     ·rw [hv0] at hv1
      simp only [Value.slice.injEq,List.length_map] at hv1
      exact absurd (List.eq_nil_of_length_eq_zero hv1.2.1) hy
     ·rw [hv0] at hv1
      simp only [Value.slice.injEq] at hv1
      refine ⟨c1,et1,(0,0),q1,?_⟩
      rw [q2, ←hv1.2.2, ←r2];exact h5
   ·exact ⟨cc,et,fl,by rw [hkb b hbw h2 (fun h hh=>hbi ⟨h,hh⟩)];exact h4,h5⟩
 have hnew:zE w' F' β (alive e) (a.tmps.getD p undef) (.ot id t zs):=by
  rcases g6 with h|⟨h0,_,cap,hv0,hr⟩
  ·exact .inl h
  ·refine .inr ⟨h0,hal0 ?_,cap,hv0,hr⟩
   intro hy
   subst hy
   rcases hown with ⟨_,a0,h1⟩|⟨h1,_⟩
   ·rw [h1] at hv0
    simp only [Value.slice.injEq] at hv0
    have:zs.map t.enc=[]:=List.eq_nil_of_length_eq_zero hv0.2.1.symm
    exact h0 this
   ·exact h1 rfl
 have hzl:zs.length=ys.length:=by
  have l1: ∀ (w:World) (F:Blk→Prop) (us:List t.El),zJS w F ⟨fun _=>β.ob id,fun _=>β.ob id⟩ (fun _=>True) (a.tmps.getD p undef) 0 t.size (us.map t.enc)→ ∃ad c,a.tmps.getD p undef= .slice ad us.length c:=by
   intro w F us h
   rcases h with ⟨h0,a0,h1⟩|⟨_,_,cap,h1,_⟩
   ·have hu0:us=[]:=by simpa using h0
    subst hu0;exact ⟨_,_,h1⟩
   ·exact ⟨_,_,by simpa using h1⟩
  obtain ⟨_,_,k1⟩:=l1 _ _ _ hown
  obtain ⟨_,_,k2⟩:=l1 _ _ _ g6
  rw [k1] at k2
  simp only [Value.slice.injEq] at k2
  exact k2.2.1.symm
 have hother: ∀q (us:List t.El),e.get q= .ot id t us→us.length=ys.length→zE w' F' β (alive e) (a.tmps.getD q undef) (.ot id t zs):=by
  intro q us hq hul
  have hTq:=ht q
  rw [hq] at hTq
  rcases hTq with ⟨h0,a0,h1⟩|⟨h0,hal,cap1,h1,c1,et1,k1,k2,k3,_⟩
  ·have hu0:us=[]:=by simpa using h0
   subst hu0
   have hz0:zs=[]:=List.eq_nil_of_length_eq_zero (by rw [hzl, ←hul];rfl)
   subst hz0
   exact .inl ⟨rfl,a0,h1⟩
  ·have hy0:ys≠[]:=fun hh=>h0 (by rw [hh] at hul;simpa using hul)
   rcases hown with ⟨hh,_⟩|⟨_,_,cap,hv0,c0,et0,r1,r2,_⟩
   ·exact absurd (by simpa using hh) hy0
   ·rcases g6 with ⟨hh,_⟩|⟨hz0,_,cap2,hv1,c2,et2,q1,q2,q3,q4,q5⟩
    ·have:zs=[]:=by simpa using hh
     subst this
     exact absurd (List.eq_nil_of_length_eq_zero hzl.symm) hy0
    ·rw [hv0] at hv1
     simp only [Value.slice.injEq] at hv1
     rw [r1] at k1
     simp only [Option.some.injEq,Obj.cells.injEq] at k1
     obtain ⟨rfl,_,_⟩:=k1
     refine .inr ⟨hz0,hal,cap1,?_,c2,et2,q1,?_,?_,q4,q5⟩
     ·rw [h1];simp [hul,hzl]
     ·rw [q2, ←hv1.2.2, ←r2,k2]
     ·simp only [List.length_map] at k3 ⊢;omega
 have hlen1:((e.tm.map (updB id t zs)).set p (.ot id t zs)).length=e.tm.length:=by simp
 have hget: ∀t',zE w' F' β (alive e) (a.tmps.getD t' undef) ((⟨(e.tm.map (updB id t zs)).set p (.ot id t zs),e.vars.map (fun c=>c.map (List.map (zP id))),st'⟩:Env Γ.St).get t'):=by
  intro q
  have h1:(⟨(e.tm.map (updB id t zs)).set p (.ot id t zs),e.vars.map (fun c=>c.map (List.map (zP id))),st'⟩:Env Γ.St).get q=if q=p then .ot id t zs else updB id t zs (e.get q):=by
   simp only [Env.get,List.getD_eq_getElem?_getD,List.getElem?_set]
   split
   ·rename_i hpq
    subst hpq
    simp [hplt]
   ·rename_i hpq
    rw [if_neg (fun hh=>hpq hh.symm),List.getElem?_map]
    cases e.tm[q]? with
    |none=>simp [updB,zP]
    |some x=>rfl
  rw [h1]
  split
  ·rename_i h;rw [h];exact hnew
  ·rename_i hqp
   have hkill:zE w' F' β (alive e) (a.tmps.getD q undef) (zP id (e.get q)):=(ht q).killO.ext hext
   cases hx:e.get q with
   |ot i t' us=>
    rw [hx] at hkill
    simp only [updB]
    split
    ·rename_i hi
     subst hi
     split
     ·rename_i htt
      subst htt
      refine hother q us hx ?_
      refine zKw (zNe hlens) q t' us ?_ (by simpa using hqp)
      simp only [Env.get,List.getD_eq_getElem?_getD] at hx
      cases hg:e.tm[q]? with
      |none=>rw [hg] at hx;cases hx
      |some x=>rw [hg] at hx;simp only [Option.getD_some] at hx;rw [hx]
     ·trivial
    ·rename_i hi
     simp only [zP,if_neg hi] at hkill
     exact hkill
   |_=>rw [hx] at hkill;exact hkill
 refine Inv.of (al:=alive e) (F:=F') (O:=O') (β:=β) ?_ (hG.ext hext) ?_ ?_ ?_ ?_ ?_
 ·cases dst<;>exact hcore
 ·cases dst<;>simp [zQ6,Env.put,Act.put,hsz]
 ·cases dst<;>exact hdf
 ·intro t'
  cases dst with
  |none=>exact hget t'
  |some q=>
   have h1:(zQ6 e id p t zs st' (some q) d).get t'=if t'=q∧q< ((e.tm.map (updB id t zs)).set p (.ot id t zs)).length then .p d else (⟨(e.tm.map (updB id t zs)).set p (.ot id t zs),e.vars.map (fun c=>c.map (List.map (zP id))),st'⟩:Env Γ.St).get t':=vA (⟨(e.tm.map (updB id t zs)).set p (.ot id t zs),e.vars.map (fun c=>c.map (List.map (zP id))),st'⟩:Env Γ.St) q t' (.p d)
   rw [uY,h1,hlen1,hsz]
   split
   ·exact g7
   ·exact hget t'
 ·intro s cs hcs
  have hcs':(e.mapT (zP id)).var s=some cs:=by cases dst<;>exact hcs
  rw [zS] at hcs'
  simp only [Option.map_eq_some_iff] at hcs'
  obtain ⟨cs0,hcs0,rfl⟩:=hcs'
  have ha:alive e (.v s):=⟨cs0,hcs0⟩
  refine ⟨ha,?_⟩
  obtain ⟨c0,et,q1,q2,q3⟩:=hv s cs0 hcs0
  refine ⟨c0,et,(hext.ha (.v s) ⟨ha,by simp⟩).trans q1,by simpa using q2,?_⟩
  intro i x y hi hy
  simp only [List.getElem?_map,Option.map_eq_some_iff] at hy
  obtain ⟨y0,hy0,rfl⟩:=hy
  exact (q3 i x y0 hi hy0).killO.ext hext
 ·rintro s ⟨cs,hcs⟩
  refine ⟨cs.map (zP id),?_⟩
  have:(e.mapT (zP id)).var s=some (cs.map (zP id)):=by rw [zS,hcs];rfl
  cases dst<;>exact this
def zFm {St:Type} (G:Nat→Option (List V)) (e:Env St):List Operand→Option (Nat×Nat×List Operand)
 |[]=>none
 |x::r=>match evx G e x with
  | .lp s 0=>some (0,s,r)
  |_=>match zFm G e r with
   |some (k,s,r')=>some (k+1,s,x::r')
   |none=>none
theorem zGe {St:Type} {G:Nat→Option (List V)} {e:Env St} : ∀ {l:List Operand} {k s:Nat} {r:List Operand},zFm G e l=some (k,s,r)→
  k≤r.length∧l.length=r.length+1∧(∃x,l[k]? =some x∧evx G e x= .lp s 0)∧ ∀ (i:Nat) (x:Operand),r[i]? =some x→l[if i<k then i else i+1]? =some x
 |[],_,_,_,h=>by simp [zFm] at h
 |x::r0,k,s,r,h=>by
  simp only [zFm] at h
  split at h
  ·rename_i s' hx
   simp only [Option.some.injEq,Prod.mk.injEq] at h
   obtain ⟨rfl,rfl,rfl⟩:=h
   exact ⟨Nat.zero_le _,rfl,⟨x,rfl,hx⟩,fun i y hy=>by simpa using hy⟩
  ·split at h
   ·rename_i k' s' r' hr
    simp only [Option.some.injEq,Prod.mk.injEq] at h
    obtain ⟨rfl,rfl,rfl⟩:=h
    obtain ⟨h1,h2,⟨y,h3,h4⟩,h5⟩:=zGe hr
    refine ⟨by simpa using h1,by simp [h2],⟨y,by simpa using h3,h4⟩,?_⟩
    intro i z hz
    cases i with
    |zero=>simpa using hz
    |succ i=>
     have:=h5 i z (by simpa using hz)
     by_cases hi:i<k'
     ·rw [if_pos hi] at this
      rw [if_pos (by omega)]
      simpa using this
     ·rw [if_neg hi] at this
      rw [if_neg (by omega)]
      simpa using this
   ·cases h
def zFr:List T→Option (List V)
 |[]=>some []
 | .p d::r=>match zFr r with
  |some ds=>some (d::ds)
  |none=>none
 |_=>none
theorem zGl: ∀ {cs:List T} {vs:List V},zFr cs=some vs→cs=vs.map T.p
 |[],vs,h=>by simp [zFr] at h;subst h;rfl
 |x::r,vs,h=>by
  cases x with
  |p d=>
   simp only [zFr] at h
   split at h
   ·rename_i ds hds
    simp only [Option.some.injEq] at h
    subst h
    rw [List.map_cons, ←zGl hds]
   ·cases h
  |_=>simp [zFr] at h
def zQ4 {St:Type} (e:Env St) (s:Nat) (t:Ty) (z:t.El) (st:St) (dst:Option Tmp) (d:V):Env St:=
 (⟨e.tm,e.vars.set s (some ((t.cells z).map T.p)),st⟩:Env St).put dst (.p d)
theorem zE.extV {w w':World} {F F':Blk→Prop} {β:Lay} {al:Site→Prop} {v:Value} {x:T} {s:Nat} (h:Ext w F β (fun y=>al y∧y≠ .v s) w' F' β al) (hx:zE w F β al v x):zE w' F' β al v x:=by
 cases x with
 |lp s' off=>exact hx
 |p d=>exact zE.ext (x:= .p d) h hx
 |ow id k es=>exact zE.ext (x:= .ow id k es) h ⟨⟨hx.1,by simp⟩,hx.2⟩
 |oe id k es i off=>exact zE.ext (x:= .oe id k es i off) h ⟨⟨hx.1,by simp⟩,hx.2⟩
 |mp id es ck=>exact zE.ext (x:= .mp id es ck) h ⟨⟨hx.1,by simp⟩,hx.2⟩
 |ot id t xs=>
  refine zE.ext (x:= .ot id t xs) h ?_
  rcases hx with h0|⟨h0,ha,h1⟩
  ·exact .inl h0
  ·exact .inr ⟨h0,⟨ha,by simp⟩,h1⟩
 |oet id t xs i off=>exact zE.ext (x:= .oet id t xs i off) h ⟨⟨hx.1,by simp⟩,hx.2⟩
 |ov id t xs lo hi=>
  refine zE.ext (x:= .ov id t xs lo hi) h ?_
  rcases hx with h0|⟨h0,ha,h1⟩
  ·exact .inl h0
  ·exact .inr ⟨h0,⟨ha,by simp⟩,h1⟩
 |on n=>exact zE.ext (x:= .on n) h ⟨⟨hx.1,by simp⟩,⟨hx.2.1,by simp⟩,hx.2.2⟩
 |emp=>exact hx
 |dead=>trivial
theorem zSu (hS:zZ Γ P G S) (hi:Inv Γ G w0 F0 O0 a w e) {dst:Option Tmp} {c:Call} {type:TypeId} {pos:String} {after:Array Edge} {guard:Option (Nat×Bool)}
  {f:Operand} {g:FuncId} {k s:Nat} {xs:List Operand} {cs:List T} {vs:List V} {t:Ty} {y z:t.El} {ds:List V} {st':Γ.St} {d:V}
  (hcal:c.callee= .value f) (hf:evx G e f= .p (.clo g [])) (hspl:zFm G e c.args.toList=some (k,s,xs)) (hxs:vU G e xs=some ds)
  (hcs:e.var s=some cs) (hvs:zFr cs=some vs) (hy:t.dec (.agg vs)=some y)
  (hsp:S g e.st (.bot:: .tl t [y]:: .bot:: .val (.int .i64 (k:Int))::ds)=some (st', .p (.tup [.tl t [z],d]))) {Q:Exit→Act→World→Prop} :
  (⟨dst, .call c,type,pos,after,guard⟩:Oper).wp P a w (fun a' w'=>Inv Γ G w0 F0 O0 a' w' (zQ4 e s t z st' dst d)) Q:=by
 obtain ⟨F,O,β,hc,hG,hsz,hdf,ht,hv⟩:=hi
 obtain ⟨hbor,fn,hfn,hbody,hname⟩:=hS.bor g e.st t [y] (.bot:: .val (.int .i64 (k:Int))::ds) st' [z] d hsp
 have hptr:zTs Γ P G g e.st t k [y] ds st' [z] d:=hbor
 have hops: ∀x,zE w F β (alive e) (a.eval x) (evx G e x):=fun x=>wS hG ht x
 have hf0:=hops f
 rw [hf] at hf0
 obtain ⟨s1,s2,⟨x0,s3,s4⟩,s5⟩:=zGe hspl
 have hx0:=hops x0
 rw [s4] at hx0
 obtain ⟨hal,hpv⟩:=hx0
 obtain ⟨hlen,hargs⟩:=zA1 (a:=a) xs ds (fun x _=>hops x) hxs
 have hrun:(execOp a.eval ⟨dst, .call c,type,pos,after,guard⟩).run P w= .ok (.enter g (c.args.map a.eval)) w:=by
  have hf1:Rd w F (a.eval f) (.clo g []):=hf0
  generalize hev:a.eval f=fv at hf1
  cases hf1 with
  |clo _ cv _ hl hcap=>
   have hcv:cv= #[]:=by simpa using hl
   subst hcv
   have hb: ¬fn.body=none:=by intro hbb;simp [hbb] at hbody
   have hname' : ¬ fn.name = "runtime.NumGoroutine" := by simpa using hname
   simp [execOp,resolve,hcal,hev,Deferred.ofValue,invoke,callFunc,hfn,hname',hb]
 have hsize:(c.args.map a.eval).size=ds.length+1:=by rw [Array.size_map, ←Array.length_toList,s2,hlen]
 have hat: ∀ (i:Nat) (x:Operand),c.args.toList[i]? =some x→(c.args.map a.eval)[i]? =some (a.eval x):=by
  intro i x h
  rw [Array.getElem?_map, ←Array.getElem?_toList,h]
  rfl
 have hak:(c.args.map a.eval)[k]? =some (.pointer (some ⟨β.vb s,0,none⟩)):=by rw [hat k x0 s3,hpv]
 have hrest: ∀ (i:Nat) (x:Value) (d:V),(c.args.map a.eval)[if i<k then i else i+1]? =some x→ds[i]? =some d→Rd w F x d:=by
  intro i x d0 h1 h2
  have hlt:i<xs.length:=by rw [hlen];exact (List.getElem?_eq_some_iff.1 h2).1
  have h3:xs[i]? =some xs[i]:=by simp [hlt]
  rw [hat _ _ (s5 i _ h3)] at h1
  simp only [Option.some.injEq] at h1
  subst h1
  exact hargs i _ d0 (by rw [List.getElem?_map,h3];rfl) h2
 obtain ⟨c0,et,q1,q2,q3⟩:=hv s cs hcs
 have hcv:=zGl hvs
 subst hcv
 have hws:jQ vs (t.enc y).cells:=zHF hy
 have hrow:zW w F (β.vb s) t.size 1 ([y].map t.enc):=by
  refine ⟨c0,et,q1,?_,by simp,?_,?_⟩
  ·rw [q2,List.length_map,hws.len,jU];simp
  ·intro e0 he0
   simp only [List.map_cons,List.map_nil,List.mem_singleton] at he0
   subst he0
   exact jU t y
  ·intro i j e0 d0 x h1 h2 h3
   cases i with
   |succ i=>simp at h1
   |zero=>
    simp only [List.map_cons,List.map_nil,List.getElem?_cons_zero,Option.some.injEq] at h1
    subst h1
    have hlt:j<vs.length:=by rw [hws.len];exact (List.getElem?_eq_some_iff.1 h2).1
    have h4:vs[j]? =some vs[j]:=by simp [hlt]
    have h5:Rd w F x vs[j]:=q3 j x (.p vs[j]) (by simpa using h3) (by rw [List.getElem?_map,h4];rfl)
    exact hws.get j _ d0 h4 h2 w F x h5
 obtain ⟨p1,p2,p3,p4⟩:=hc.place (.v s) hal
 have hcall:=hptr w F O (β.vb s) (c.args.map a.eval) hc.sig hG (fun b hb=>(hc.fin b hb).2) hrow rfl ⟨p2,p3,p4⟩ hsize (by rw [←hlen];exact s1) hak hrest
 unfold Oper.wp
 rw [hrun]
 refine hcall.mono ?_
 rintro ex w' ⟨v,F',O',rfl,g1,g2,g3,g4,g5,g6,_,g7⟩
 have hkb: ∀b,b<w.heap.size→ ¬O b→b≠β.vb s→w'.heap[b]? =w.heap[b]? :=fun b hb ho hne=>g2.block b hb (fun h=>h.elim ho hne)
 have hne: ∀x,alive e x→x≠ .v s→β.blk x≠β.vb s:=fun x hx hxi hh=>hxi (hc.dist x (.v s) hx hal hh)
 have hnew0:w0.heap.size≤β.vb s:=p1.v
 have hO': ∀b,b<w.heap.size→ ¬O b→ ¬O' b:=fun b hb ho h=>by
  rcases g3 b h with h|h
  ·exact ho h
  ·omega
 have hF': ∀b:Nat,b<w.heap.size→ ¬F b→ ¬F' b:=fun b hb hf h=>by
  rcases (g5 b h).1 with h|h
  ·exact hf h
  ·omega
 have hext:Ext w F β (fun x=>alive e x∧x≠ .v s) w' F' β (alive e):=
  ⟨g4,fun b hb=>hkb b (hc.fin b hb).2.1 (hc.fin b hb).2.2 (fun hh=>p3 (by rw [hh] at hb;exact hb)),fun x hx=>hx.1,fun _ _=>rfl,
   fun x hx=>hkb _ (hc.place x hx.1).2.1 (hc.place x hx.1).2.2.2 (hne x hx.1 hx.2)⟩
 have hext0:Ext w F β (fun _=>False) w' F' β (fun _=>False):=
  ⟨g4,hext.hf,fun x hx=>hx,fun _ _=>rfl,fun x hx=>hx.elim⟩
 have hcore:Core Γ w0 F0 O0 w' F' O' β (alive e) st':=by
  refine ⟨⟨g2.os.trans hc.keep.os,g2.tape.trans hc.keep.tape,g2.output.trans hc.keep.output,Nat.le_trans hc.keep.size g2.size,?_,Nat.le_trans hc.keep.drawn g2.drawn⟩,g1,?_,?_,fun b hb=>g4 b (hc.f0 b hb),?_,hc.dist,?_⟩
  ·intro b hb ho
   rw [hkb b (by have:=hc.keep.size;omega) (fun h=>by
    rcases hc.oin b h with h|h
    ·exact ho (.inl h)
    ·omega) (fun hh=>by omega)]
   exact hc.keep.block b hb ho
  ·intro b hb
   rcases g3 b hb with h|h
   ·exact hc.oin b h
   ·exact .inr (Nat.le_trans hc.keep.size h)
  ·intro b hb
   obtain ⟨h1,h2,h3⟩:=g5 b hb
   refine ⟨?_,h2,h3⟩
   rcases h1 with h|h
   ·exact (hc.fin b h).1
   ·exact .inr (Nat.le_trans hc.keep.size h)
  ·intro x hx
   obtain ⟨k1,k2,k3,k4⟩:=hc.place x hx
   exact ⟨k1,Nat.lt_of_lt_of_le k2 g2.size,hF' _ k2 k3,hO' _ k2 k4⟩
  ·intro b n hb
   obtain ⟨h1,h2,h3,cc,et,fl,h4,h5⟩:=hc.lent b n hb
   have hbw:b<w.heap.size:=by have:=hc.keep.size;omega
   exact ⟨h1,hO' b hbw h2,hF' b hbw h3,cc,et,fl,by rw [hkb b hbw h2 (fun hh=>by omega)];exact h4,h5⟩
 have hsl:s<e.vars.length:=by
  rcases Nat.lt_or_ge s e.vars.length with h|h
  ·exact h
  ·simp [Env.var,List.getElem?_eq_none h] at hcs
 have hvar: ∀s',(⟨e.tm,e.vars.set s (some ((t.cells z).map T.p)),st'⟩:Env Γ.St).var s'=if s'=s then some ((t.cells z).map T.p) else e.var s':=by
  intro s'
  simp only [Env.var]
  by_cases hh:s'=s
  ·subst hh;simp [hsl]
  ·simp [hh,List.getElem?_set_ne (Ne.symm hh)]
 have hget: ∀t',zE w' F' β (alive e) (a.tmps.getD t' undef) (e.get t'):=fun t'=>(ht t').extV hext
 refine Inv.of (al:=alive e) (F:=F') (O:=O') (β:=β) ?_ (hG.ext hext0) ?_ ?_ ?_ ?_ ?_
 ·cases dst<;>exact hcore
 ·cases dst<;>simp [zQ4,Env.put,Act.put,hsz]
 ·cases dst<;>exact hdf
 ·intro t'
  cases dst with
  |none=>exact hget t'
  |some q=>
   have h1:(zQ4 e s t z st' (some q) d).get t'=if t'=q∧q<e.tm.length then .p d else e.get t':=vA (⟨e.tm,e.vars.set s (some ((t.cells z).map T.p)),st'⟩:Env Γ.St) q t' (.p d)
   rw [uY,h1,hsz]
   split
   ·exact g7
   ·exact hget t'
 ·intro s' cs' hcs'
  have hcs2:(⟨e.tm,e.vars.set s (some ((t.cells z).map T.p)),st'⟩:Env Γ.St).var s'=some cs':=by cases dst<;>exact hcs'
  rw [hvar] at hcs2
  split at hcs2
  ·rename_i hss
   subst hss
   simp only [Option.some.injEq] at hcs2
   subst hcs2
   obtain ⟨c1,et1,k1,k2,k3,k4,k5⟩:=g6
   refine ⟨hal,c1,et1,k1,?_,?_⟩
   ·rw [k2,List.length_map,yU];simp
   ·intro i x y0 hx hy0
    simp only [List.getElem?_map,Option.map_eq_some_iff] at hy0
    obtain ⟨d0,hd0,rfl⟩:=hy0
    exact k5 0 i (t.enc z) d0 x rfl (by rw [wG];exact hd0) (by simpa using hx)
  ·rename_i hss
   have ha':alive e (.v s'):=⟨cs',hcs2⟩
   refine ⟨ha',?_⟩
   obtain ⟨c',et',r1,r2,r3⟩:=hv s' cs' hcs2
   exact ⟨c',et',(hext.ha (.v s') ⟨ha',by simpa using hss⟩).trans r1,r2,fun i u y0 hu hy0=>(r3 i u y0 hu hy0).extV hext⟩
 ·rintro s' ⟨cs',hcs'⟩
  by_cases hss:s'=s
  ·refine ⟨(t.cells z).map T.p,?_⟩
   have:=hvar s'
   rw [if_pos hss] at this
   cases dst<;>exact this
  ·refine ⟨cs',?_⟩
   have:=hvar s'
   rw [if_neg hss,hcs'] at this
   cases dst<;>exact this
theorem zRl (hS:zZ Γ P G S) (hi:Inv Γ G w0 F0 O0 a w e) {dst:Option Tmp} {c:Call} {type:TypeId} {pos:String} {after:Array Edge} {guard:Option (Nat×Bool)}
  {f:Operand} {g:FuncId} {p id:Nat} {xs:List Operand} {t:Ty} {ys zs:List t.El} {ds:List V} {st':Γ.St}
  (hcal:c.callee= .value f) (hf:evx G e f= .p (.clo g [])) (hcargs:c.args.toList= .tmp p::xs) (hp:e.get p= .ot id t ys) (hxs:vU G e xs=some ds)
  (hid:id≠qA) (hsp:S g e.st (.bot:: .tl t ys::ds)=some (st', .p (.tup [.tl t zs, .bot]))) {Q:Exit→Act→World→Prop} :
  (⟨dst, .call c,type,pos,after,guard⟩:Oper).wp P a w (fun a' w'=>Inv Γ G w0 F0 O0 a' w' (zQ5 e id t zs st' dst)) Q:=by
 obtain ⟨F,O,β,hc,hG,hsz,hdf,ht,hv⟩:=hi
 obtain ⟨hbor,fn,hfn,hbody,hname⟩:=hS.bor g e.st t ys ds st' zs .bot hsp
 have hops: ∀x,zE w F β (alive e) (a.eval x) (evx G e x):=fun x=>wS hG ht x
 have hf0:=hops f
 rw [hf] at hf0
 have hx0:=ht p
 rw [hp] at hx0
 obtain ⟨hlen,hargs⟩:=zA1 (a:=a) xs ds (fun x _=>hops x) hxs
 have hrun:(execOp a.eval ⟨dst, .call c,type,pos,after,guard⟩).run P w= .ok (.enter g (c.args.map a.eval)) w:=by
  have hf1:Rd w F (a.eval f) (.clo g []):=hf0
  generalize hev:a.eval f=fv at hf1
  cases hf1 with
  |clo _ cv _ hl hcap=>
   have hcv:cv= #[]:=by simpa using hl
   subst hcv
   have hb: ¬fn.body=none:=by intro hbb;simp [hbb] at hbody
   have hname' : ¬ fn.name = "runtime.NumGoroutine" := by simpa using hname
   simp [execOp,resolve,hcal,hev,Deferred.ofValue,invoke,callFunc,hfn,hname',hb]
 have hnp:zCV ds=none:=zDV (fun r hr=>by
  cases xs with
  |nil=>rw [hr] at hlen;simp at hlen
  |cons x xs'=>exact zMj _ (hargs 0 (a.eval x) .bot (by simp) (by rw [hr];rfl)))
 have hcs:c.args=(.tmp p::xs).toArray:=by apply Array.ext';simpa using hcargs
 have hsize:(c.args.map a.eval).size=ds.length+1:=by rw [hcs];simp [hlen]
 have ha0:(c.args.map a.eval)[0]? =some (a.tmps.getD p undef):=by rw [hcs];simp [Act.eval]
 have hown:zJS w F ⟨fun _=>β.ob id,fun _=>β.ob id⟩ (fun _=>True) (a.tmps.getD p undef) 0 t.size (ys.map t.enc):=by
  rcases hx0 with h|⟨h0,_,h⟩
  ·exact .inl h
  ·exact .inr ⟨h0,trivial,h⟩
 have hal0:ys≠[]→alive e (.o id):=by
  intro h0
  rcases hx0 with ⟨h,_⟩|⟨_,h,_⟩
  ·exact absurd (by simpa using h) h0
  ·exact h
 have hcall:=(hbor.row hnp) w F O (β.ob id) (a.tmps.getD p undef) (c.args.map a.eval) hc.sig hG (fun b hb=>(hc.fin b hb).2) hown
  (fun h0=>⟨(hc.place _ (hal0 h0)).2.1,(hc.place _ (hal0 h0)).2.2.1,(hc.place _ (hal0 h0)).2.2.2⟩) hsize ha0
  (fun i x y hi hd=>hargs i x y (by rw [hcs] at hi;simpa using hi) hd)
 unfold Oper.wp
 rw [hrun]
 refine hcall.mono ?_
 rintro ex w' ⟨v,F',O',rfl,g1,g2,g3,g4,g5,g6,g7⟩
 have hkb: ∀b,b<w.heap.size→ ¬O b→(ys≠[]→b≠β.ob id)→w'.heap[b]? =w.heap[b]? :=fun b hb ho hne=>g2.block b hb (fun h=>h.elim ho (fun h=>hne h.1 h.2))
 have hne: ∀x,alive e x→x≠ .o id→ys≠[]→β.blk x≠β.ob id:=fun x hx hxi h0 hh=>hxi (hc.dist x (.o id) hx (hal0 h0) hh)
 have hnew0:ys≠[]→w0.heap.size≤β.ob id:=fun h0=>(hc.place _ (hal0 h0)).1.o hid
 have hO': ∀b,b<w.heap.size→ ¬O b→ ¬O' b:=fun b hb ho h=>by
  rcases g3 b h with h|h
  ·exact ho h
  ·omega
 have hF': ∀b:Nat,b<w.heap.size→ ¬F b→ ¬F' b:=fun b hb hf h=>by
  rcases (g5 b h).1 with h|h
  ·exact hf h
  ·omega
 have hext:Ext w F β (alo id (alive e)) w' F' β (alive e):=
  ⟨g4,fun b hb=>hkb b (hc.fin b hb).2.1 (hc.fin b hb).2.2 (fun h0 hh=>(hc.place _ (hal0 h0)).2.2.1 (by rw [hh] at hb;exact hb)),fun x hx=>hx.1,fun _ _=>rfl,
   fun x hx=>hkb _ (hc.place x hx.1).2.1 (hc.place x hx.1).2.2.2 (hne x hx.1 hx.2)⟩
 have hcore:Core Γ w0 F0 O0 w' F' O' β (alive e) st':=by
  refine ⟨⟨g2.os.trans hc.keep.os,g2.tape.trans hc.keep.tape,g2.output.trans hc.keep.output,Nat.le_trans hc.keep.size g2.size,?_,Nat.le_trans hc.keep.drawn g2.drawn⟩,g1,?_,?_,fun b hb=>g4 b (hc.f0 b hb),?_,hc.dist,?_⟩
  ·intro b hb ho
   rw [hkb b (by have:=hc.keep.size;omega) (fun h=>by
    rcases hc.oin b h with h|h
    ·exact ho (.inl h)
    ·omega) (fun h0 hh=>by have:=hnew0 h0;omega)]
   exact hc.keep.block b hb ho
  ·intro b hb
   rcases g3 b hb with h|h
   ·exact hc.oin b h
   ·exact .inr (Nat.le_trans hc.keep.size h)
  ·intro b hb
   obtain ⟨h1,h2,h3⟩:=g5 b hb
   refine ⟨?_,h2,h3⟩
   rcases h1 with h|h
   ·exact (hc.fin b h).1
   ·exact .inr (Nat.le_trans hc.keep.size h)
  ·intro x hx
   obtain ⟨k1,k2,k3,k4⟩:=hc.place x hx
   exact ⟨k1,Nat.lt_of_lt_of_le k2 g2.size,hF' _ k2 k3,hO' _ k2 k4⟩
  ·intro b n hb
   obtain ⟨h1,h2,h3,cc,et,fl,h4,h5⟩:=hc.lent b n hb
   have hbw:b<w.heap.size:=by have:=hc.keep.size;omega
   exact ⟨h1,hO' b hbw h2,hF' b hbw h3,cc,et,fl,by rw [hkb b hbw h2 (fun h0 hh=>by have:=hnew0 h0;omega)];exact h4,h5⟩
 have hnew:zE w' F' β (alive e) v (.ot id t zs):=by
  rcases g6 with h|⟨h0,_,cap,hv0,hr⟩
  ·exact .inl h
  ·exact .inr ⟨h0,hal0 (fun hy=>h0 (by rw [g7 hy];rfl)),cap,hv0,hr⟩
 have hget: ∀t',zE w' F' β (alive e) (a.tmps.getD t' undef) ((e.mapT (zP id)).get t'):=by
  intro q
  rw [qH rfl]
  exact (ht q).killO.ext hext
 refine Inv.of (al:=alive e) (F:=F') (O:=O') (β:=β) ?_ (hG.ext hext) ?_ ?_ ?_ ?_ ?_
 ·cases dst<;>exact hcore
 ·cases dst<;>simp [zQ5,Env.put,Act.put,hsz]
 ·cases dst<;>exact hdf
 ·intro t'
  cases dst with
  |none=>exact hget t'
  |some q=>
   have h1:(zQ5 e id t zs st' (some q)).get t'=if t'=q∧q< (e.tm.map (zP id)).length then .ot id t zs else (e.mapT (zP id)).get t':=vA (⟨e.tm.map (zP id),e.vars.map (fun c=>c.map (List.map (zP id))),st'⟩:Env Γ.St) q t' (.ot id t zs)
   rw [uY,h1,List.length_map,hsz]
   split
   ·exact hnew
   ·exact hget t'
 ·intro s cs hcs
  have hcs':(e.mapT (zP id)).var s=some cs:=by cases dst<;>exact hcs
  rw [zS] at hcs'
  simp only [Option.map_eq_some_iff] at hcs'
  obtain ⟨cs0,hcs0,rfl⟩:=hcs'
  have ha:alive e (.v s):=⟨cs0,hcs0⟩
  refine ⟨ha,?_⟩
  obtain ⟨c0,et,q1,q2,q3⟩:=hv s cs0 hcs0
  refine ⟨c0,et,(hext.ha (.v s) ⟨ha,by simp⟩).trans q1,by simpa using q2,?_⟩
  intro i x y hi hy
  simp only [List.getElem?_map,Option.map_eq_some_iff] at hy
  obtain ⟨y0,hy0,rfl⟩:=hy
  exact (q3 i x y0 hi hy0).killO.ext hext
 ·rintro s ⟨cs,hcs⟩
  refine ⟨cs.map (zP id),?_⟩
  have:(e.mapT (zP id)).var s=some (cs.map (zP id)):=by rw [zS,hcs];rfl
  cases dst<;>exact this
end
end Go.Ve

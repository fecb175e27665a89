/-
  Functions out of code, part 5: soundness; contracts of functions.
  Functions out of code, part 6: contracts of functions to which a list is lent.
  Functions out of code, part 7: slices that go by a number: a state of lists; append.
  Functions out of code, part 8: contracts over a state of lists; from such a state to none, and from none to any.
  Functions out of code, part 9: a function with a state of lists of its own is a function without.
  The shapes of the program's data.
  Plain laws, part 1: what partial values come to.
  Plain laws, part 2: loops over lists.
  Plain laws, part 3: loops over lists within loops.
  Plain laws: sorting by insertion.
-/
import Derived.Test.YtaidmnnejapafaaGreatDoorl9
import Derived.Test.YtaidmnnejapafaaGreatDoorl3
set_option linter.unusedVariables false
namespace Go.Ve
open Go
section
variable {Γ:Sig} {P:Program} {G:Nat→Option (List V)} {e e1 e2:Env Γ.St}
def Fits (G:Nat→Option (List V)) (e e2:Env Γ.St):Prop:=
 ∀ (w0:World) (F0:Blk→Prop) (O0:kC) (a:Act) (w:World),Inv Γ G w0 F0 O0 a w e→Inv Γ G w0 F0 O0 a w e2
theorem zSQ (hl:e2.tm.length=e.tm.length) (hst:e2.st=e.st) (ht2: ∀t,WkT (e.get t) (e2.get t))
  (hv2: ∀s cs2,e2.var s=some cs2→ ∃cs,e.var s=some cs∧uO cs cs2) (hlp: ∀t,zDw e2 (e2.get t)=true)
  (hlv: ∀s cs2 x,e2.var s=some cs2→x∈cs2→zDw e2 x=true):Fits G e e2:=by
 intro w0 F0 O0 a w h
 obtain ⟨F,O,β,hc,hG,hsz,hdf,ht,hv⟩:=h
 let al':Site→Prop:=fun x=>alive e x∧ ∀s,x= .v s→ ∃cs,e2.var s=some cs
 have hon: ∀v x,zE w F β (alive e) v x→zDw e2 x=true→zE w F β al' v x:=by
  intro v x hx hl
  refine hx.on ?_
  have hs:=hx.sites
  cases x with
  |ow i k es=>exact ⟨hs,fun s h=>by cases h⟩
  |oe i k es j off=>exact ⟨hs,fun s h=>by cases h⟩
  |mp i es ck=>exact ⟨hs,fun s h=>by cases h⟩
  |ot i t xs=>exact fun h0=>⟨hs h0,fun s h=>by cases h⟩
  |oet i t xs j off=>exact ⟨hs,fun s h=>by cases h⟩
  |ov i t xs lo hi=>exact fun h0=>⟨hs h0,fun s h=>by cases h⟩
  |on n=>exact ⟨⟨hs.1,fun s h=>by cases h⟩,⟨hs.2,fun s h=>by cases h⟩⟩
  |lp s off=>
   refine ⟨hs,fun s' h=> ?_⟩
   simp only [Site.v.injEq] at h
   subst h
   exact Option.isSome_iff_exists.1 hl
  |_=>trivial
 refine Inv.of (al:=al') (by rw [hst];exact hc.anti (fun x hx=>hx.1)) hG (by rw [hl];exact hsz) hdf ?_ ?_ ?_
 ·intro t
  exact hon _ _ (ht2 t _ _ _ _ _ (ht t)) (hlp t)
 ·intro s cs2 hcs2
  obtain ⟨cs,h1,h3⟩:=hv2 s cs2 hcs2
  obtain ⟨c,et,g1,g2,g3⟩:=hv s cs h1
  refine ⟨⟨⟨cs,h1⟩,fun s' h=>by simp only [Site.v.injEq] at h;subst h;exact ⟨cs2,hcs2⟩⟩,c,et,g1,g2.trans h3.len,?_⟩
  intro i x y hx hy
  have hlt:i<cs.length:=by rw [h3.len];exact (List.getElem?_eq_some_iff.1 hy).1
  exact hon _ _ (h3.get i cs[i] y (by simp [hlt]) hy _ _ _ _ _ (g3 i x cs[i] hx (by simp [hlt]))) (hlv s cs2 y hcs2 (List.mem_of_getElem? hy))
 ·rintro s ⟨_,hs⟩
  exact hs s rfl
theorem zKd {c:Cell} {x:c.El} : ∀y,y∈zGY c x→zDw e y=true:=by
 intro y hy
 cases c with
 |p ty=>
  simp only [zGY,List.mem_map] at hy
  obtain ⟨d,_,rfl⟩:=hy
  rfl
 |o id ty=>
  simp only [zGY,List.mem_singleton] at hy
  subst hy
  rfl
theorem zIz: ∀ {cs:List Cell} {x:zKS cs}, ∀y,y∈zEo cs x→zDw e y=true
 |[],_,y,h=>by simp [zEo] at h
 |[c],x,y,h=>zKd (c:=c) (x:=x) y h
 |c::c'::r,x,y,h=>by
  simp only [zEo,List.mem_append] at h
  rcases h with h|h
  ·exact zKd y h
  ·exact zIz y h
theorem zLV {s:yZ} {x:s.El Γ.St} {i:Nat} {cs:List T} (h:(i,cs)∈zCf s x): ∀y,y∈cs→zDw e y=true:=by
 intro y hy
 cases s<;>simp only [zCf,List.mem_singleton,Prod.mk.injEq,List.not_mem_nil] at h
 obtain ⟨_,rfl⟩:=h
 exact zIz y hy
theorem zTg: ∀ {l:List yZ} {x:j3 Γ.St l} {i:Nat} {cs:List T},(i,cs)∈vS l x→ ∀y,y∈cs→zDw e y=true
 |[],_,_,_,h=>by simp [vS] at h
 |[s],x,_,_,h=>zLV (s:=s) (x:=x) h
 |s::s'::r,x,_,_,h=>by
  simp only [vS,List.mem_append] at h
  rcases h with h|h
  ·exact zLV h
  ·exact zTg h
theorem zKh {s:yZ} {x:s.El Γ.St} {i:Nat} {y:T} (h:(i,y)∈zBi s x):zDw e y=true:=by
 cases s<;>simp only [zBi,List.mem_singleton,Prod.mk.injEq,List.not_mem_nil] at h
 all_goals
  obtain ⟨_,rfl⟩:=h
  rfl
theorem zQA: ∀ {l:List yZ} {x:j3 Γ.St l} {i:Nat} {y:T},(i,y)∈tmS l x→zDw e y=true
 |[],_,_,_,h=>by simp [tmS] at h
 |[s],x,_,_,h=>zKh (s:=s) (x:=x) h
 |s::s'::r,x,_,_,h=>by
  simp only [tmS,List.mem_append] at h
  rcases h with h|h
  ·exact zKh h
  ·exact zQA h
theorem zM0 {j:JA} {i:Nat} (h:j.bits.testBit i=false):(zGx j.lps).testBit i=false∧(wY j.sl).testBit i=false:=by
 simp only [JA.bits,wM] at h
 exact h.2
theorem zEF {j:JA} (hst:Subsingleton Γ.St∨zCw j.sl=true) {s:j3 Γ.St j.sl} (hA:Agree j.bits e e1) (hr:rdJ j e1=some s):Fits G e1 (qI j e s):=by
 have hchk:zRW e1 j.lps=true∧rdS e1 j.sl=some s:=by
  unfold rdJ at hr
  split at hr
  ·rename_i h;exact ⟨h,hr⟩
  ·cases hr
 obtain ⟨hL,hS⟩:=hchk
 have hv: ∀i cs2,(qI j e s).var i=some cs2→ ∃cs,e1.var i=some cs∧uO cs cs2:=by
  intro i cs2 h
  rcases zKB h with h|⟨h1,h2,h3,ds,rfl⟩
  ·exact zTj hS i cs2 h
  ·exact ⟨_,hA.v i ds h2 h3 h1,uO.refl _⟩
 have hlp1: ∀s' off,isVar (qI j e s).vars s'=true→zDw (qI j e s) (.lp s' off)=true:=by
  intro s' off h
  obtain ⟨cs,hcs⟩:=zHq.1 h
  simp only [zDw,hcs,Option.isSome_some]
 have hget: ∀t,WkT (e1.get t) ((qI j e s).get t)∧zDw (qI j e s) ((qI j e s).get t)=true:=by
  intro t
  rcases Nat.lt_or_ge t e.tm.length with hlt|hge
  ·rcases zPI (j:=j) (s:=s) hlt with ⟨y,hy,h1⟩|h1|⟨hb,h1⟩
   ·rw [h1]
    rw [List.mem_append] at hy
    rcases hy with hy|hy
    ·obtain ⟨s',off,h2,rfl⟩:=zJh hy
     have h3:=zMX hL t s' off h2
     rcases zPE (qI j e s).vars s' off with h4|⟨h4,h5⟩
     ·rw [h4];exact ⟨.dead _,rfl⟩
     ·rw [h4,h3];exact ⟨.refl _,hlp1 s' off h5⟩
    ·exact ⟨zQZ hS t y hy,zQA hy⟩
   ·rw [h1];exact ⟨.dead _,rfl⟩
   ·rw [h1]
    cases hx:e.get t with
    |p d=>rw [hA.p t d hb hx];exact ⟨.refl _,rfl⟩
    |lp s' off=>
     simp only [zKz]
     split
     ·rename_i hk
      simp only [Bool.and_eq_true,Bool.not_eq_true'] at hk
      rw [hA.lp t s' off hb hk.1 hx]
      exact ⟨.refl _,hlp1 s' off hk.2⟩
     ·exact ⟨.dead _,rfl⟩
    |_=>exact ⟨.dead _,rfl⟩
  ·rw [zRs (e:=qI j e s) (by rw [zEG.1];exact hge)]
   exact ⟨.dead _,rfl⟩
 have hst':(qI j e s).st=e1.st:=by
  rcases hst with hsub|hst
  ·exact Subsingleton.elim _ _
  ·obtain ⟨y,hy⟩:=zL3 s hst
   have:=zQ0 hS y hy
   show zUj (stS j.sl s) e.st=e1.st
   rw [hy];exact this
 refine zSQ (by rw [zEG.1,hA.tl]) hst' (fun t=>(hget t).1) hv (fun t=>(hget t).2) ?_
 intro i cs2 x h hx
 rcases zKB h with h|⟨_,_,_,ds,rfl⟩
 ·exact zTg h x hx
 ·simp only [List.mem_map] at hx
  obtain ⟨d,_,rfl⟩:=hx
  rfl
theorem zMp {j:JA} : ∀ (l:List T) (n:Nat),zNK j e n l=true→ ∀i s off,l[i]? =some (.lp s off)→j.bits.testBit (2*(n+i))=false→j.bits.testBit (2*s)=false→
  (uF j.sl s=true∧(e.vars[s]?).isSome=true)∨(zJk j.bits s (e.var s)).isSome=true
 |[],_,_,i,s,off,h,_,_=>by simp at h
 |x::r,n,hk,i,s,off,h,h1,h2=>by
  have hr:zNK j e (n+1) r=true:=by
   cases x<;>simp only [zNK,Bool.and_eq_true] at hk<;>first|exact hk|exact hk.2
  cases i with
  |zero=>
   simp only [List.getElem?_cons_zero,Option.some.injEq] at h
   subst h
   simp only [zNK,Bool.and_eq_true,Bool.or_eq_true] at hk
   rw [Nat.add_zero] at h1
   rw [h1,h2] at hk
   rcases hk.1 with ((h3|h3)|h3)|h3
   ·cases h3
   ·cases h3
   ·exact .inl h3
   ·exact .inr h3
  |succ i=>
   simp only [List.getElem?_cons_succ] at h
   exact zMp r (n+1) hr i s off h (by rw [show n+1+i=n+(i+1) by omega];exact h1) h2
theorem zC2 {j:JA} {s:j3 Γ.St j.sl} (hok:okJ j e=true):Agree j.bits e (qI j e s):=by
 have hlook: ∀t,j.bits.testBit (2*t)=false→ ∀y,(t,y) ∉ zLk (qI j e s).vars j.lps++tmS j.sl s:=by
  intro t ht y hy
  obtain ⟨h1,h2⟩:=zM0 ht
  rw [List.mem_append] at hy
  rcases hy with hy|hy
  ·obtain ⟨s',off,h3,_⟩:=zJh hy
   rw [zM1 h3] at h1;cases h1
  ·rw [zPa hy] at h2;cases h2
 have hget: ∀t,j.bits.testBit (2*t)=false→t<e.tm.length→(qI j e s).get t=zKz j.bits (qI j e s).vars (e.get t):=by
  intro t ht hlt
  have h1:(qI j e s).tm[t]? =_:=zFE j.bits (zLk (qI j e s).vars j.lps++tmS j.sl s) (qI j e s).vars e.tm 0 t
  rw [List.getElem?_eq_getElem hlt,Option.map_some,Nat.zero_add] at h1
  have hg:(qI j e s).get t=((qI j e s).tm[t]?).getD .dead:=by simp [Env.get,List.getD_eq_getElem?_getD]
  have he:e.get t=e.tm[t]:=by simp [Env.get,hlt]
  rw [hg,h1,he]
  simp only [Option.getD_some]
  split
  ·rename_i y hy
   exact absurd (zCv hy) (hlook t ht y)
  ·rw [ht]
 have hvar: ∀i (ds:List V),j.bits.testBit (2*i)=false→j.bits.testBit (2*i+1)=false→e.var i=some (ds.map T.p)→(qI j e s).var i=some (ds.map T.p):=by
  intro i ds h1 h2 h3
  apply zCH
  show (kK _ _ _ _)[i]? =_
  rw [zA4,zFH h3,Option.map_some,Nat.zero_add]
  congr 1
  split
  ·rename_i y hy
   have:=zRZ (zCv hy)
   rw [(zM0 h2).2] at this;cases this
  ·have hall: ∀l:List V,zFX (l.map T.p)=true:=by
    intro l
    induction l with
    |nil=>rfl
    |cons x l ih=>simpa [zFX] using ih
   simp [zJk,h1,h2,hall]
 have hlt: ∀t x,e.get t=x→x≠ .dead→t<e.tm.length:=by
  intro t x hx hne
  rcases Nat.lt_or_ge t e.tm.length with h|h
  ·exact h
  ·rw [zRs h] at hx;exact absurd hx.symm hne
 refine ⟨zEG.1,zEG.2,?_,?_,hvar⟩
 ·intro t d ht hx
  rw [hget t ht (hlt t _ hx (by simp)),hx];rfl
 ·intro t s' off ht hs' hx
  have hl:=hlt t _ hx (by simp)
  rw [hget t ht hl,hx]
  have hg:e.tm[t]? =some (.lp s' off):=by
   rw [List.getElem?_eq_getElem hl]
   simp only [Env.get,List.getD_eq_getElem?_getD,List.getElem?_eq_getElem hl,Option.getD_some] at hx
   rw [hx]
  have h3:isVar (qI j e s).vars s'=true:=by
   rcases zMp e.tm 0 hok t s' off hg (by rw [Nat.zero_add];exact ht) hs' with ⟨h4,h5⟩|h4
   ·obtain ⟨cs,hcs⟩:=zK3 (x:=s) h4
    obtain ⟨y,hy⟩:=Option.isSome_iff_exists.1 h5
    rw [zHq]
    refine ⟨cs,zCH ?_⟩
    show (kK _ _ _ _)[s']? =_
    rw [zA4,hy,Option.map_some,Nat.zero_add,hcs]
   ·obtain ⟨cs,hcs⟩:=Option.isSome_iff_exists.1 h4
    obtain ⟨h5,h6,h7,ds,rfl⟩:=zJj hcs
    rw [zHq]
    exact ⟨_,hvar s' ds h6 h7 h5⟩
  simp [zKz,hs',h3]
theorem Fits.code {c:Code} {k:X} (h:qC P G c e k e1) (hf:Fits G e1 e2):qC P G c e k e2:=by
 intro w0 F0 O0 a w hi
 refine wp_mono (h w0 F0 O0 a w hi) ?_
 rintro ex a' w' ⟨rfl,hi'⟩
 exact ⟨rfl,hf _ _ _ _ _ hi'⟩
theorem Fits.loop {c:Code} {k:X} (hf:Fits G e e1) (h:zAj P G c e1 k e2):zAj P G c e k e2:=
 fun w0 F0 O0 a w hi=>h w0 F0 O0 a w (hf _ _ _ _ _ hi)
theorem zHB {j:JA} {lg:Nat} {s:j3 Γ.St j.sl} (h:zLt j e lg=some s):rdJ j e=some s∧ ∀t,j.bits.testBit t=false→lg.testBit t=false:=by
 unfold zLt at h
 split at h
 ·rename_i hb
  have hb:=Nat.eq_of_beq_eq_true hb
  refine ⟨h,fun t ht=> ?_⟩
  rw [←hb,wM] at ht
  exact ht.1
 ·cases h
theorem zKy {A:Nat→Option JA} {t:Nat} {c:Code} {j:JA} (h:zSH A t c=some j): ∃k,A k=some j:=by
 unfold zSH at h
 split at h
 ·exact ⟨_,h⟩
 ·cases h
theorem zHw {S:zL Γ} {A:Nat→Option JA} (hst: ∀k j,A k=some j→Subsingleton Γ.St∨zCw j.sl=true) (hmix:P.follows .mixedOrders=true) (hS:zZ Γ P G S.toS): ∀ (c:Code) (ρ:Type) (K:X→Env Γ.St→Nat→Option ρ) (e:Env Γ.St) (lg:Nat) (v:ρ),
  exC P G S A c ρ K e lg=some v→ ∃k e1 d,qC P G c e k e1∧Agree d e e1∧K k e1 (lg|||d)=some v:=by
 intro c
 induction c with
 |skip=>intro ρ K e lg v h;exact ⟨_,_,0, .skip e,Agree.refl e,by rw [Nat.or_zero];exact h⟩
 |exit id=>intro ρ K e lg v h;exact ⟨_,_,0, .exit id e,Agree.refl e,by rw [Nat.or_zero];exact h⟩
 |ret=>intro ρ K e lg v h;exact ⟨_,_,0, .ret e,Agree.refl e,by rw [Nat.or_zero];exact h⟩
 |seq x y ihx ihy=>
  intro ρ K e lg v h
  simp only [exC] at h
  split at h
  ·rename_i j hj0
   obtain ⟨jk,hj⟩:=zKy hj0
   have hjs:=hst jk j hj
   have fin: ∀ (k:X) (e1:Env Γ.St) (d:Nat) (s:j3 Γ.St j.sl),qC P G x e .normal e1→Agree d e e1→zLt j e1 (0|||d)=some s→okJ j e=true→zBm (qI j e s) (fun e1=>exC P G S A y ρ K e1 (lg|||j.bits))=some v→
     ∃k e1 d,qC P G (.seq x y) e k e1∧Agree d e e1∧K k e1 (lg|||d)=some v:=by
    intro k e1 d s h1 h2 h3 hok h4
    rw [vP] at h4
    obtain ⟨h5,h6⟩:=zHB h3
    have hA:Agree j.bits e e1:=h2.mono (fun t ht=>by have:=h6 t ht;rw [Nat.zero_or] at this;exact this)
    obtain ⟨k2,e2,d2,h7,h8,h9⟩:=ihy ρ K _ _ v h4
    exact ⟨k2,e2,j.bits|||d2,(Fits.code h1 (zEF hjs hA h5)).seqN h7,(zC2 hok).trans h8,by rw [←Nat.or_assoc];exact h9⟩
   split at h
   ·obtain ⟨hok,h⟩:=wE.1 h
    obtain ⟨s,h1,h2⟩:=bind_some h
    obtain ⟨k,e1,d,h3,h4,h5⟩:=ihx _ _ _ _ _ h1
    cases k with
    |normal=>exact fin .normal e1 d s h3 h4 h5 hok h2
    |exit id=>cases h5
    |ret=>cases h5
   ·obtain ⟨hok,h⟩:=wE.1 h
    have h0: ∃o,exC P G S A x (j3 Γ.St j.sl ⊕ ρ) (fun k e1 lg1=>match k with
     | .normal=>(zLt j e1 lg1).map .inl
     |k=>(K k e1 (lg|||lg1)).map .inr) e 0=some o∧match o with
     | .inl s=>zBm (qI j e s) (fun e1=>exC P G S A y ρ K e1 (lg|||j.bits))=some v
     | .inr r=>r=v:=by
     unfold kI at h
     split at h
     ·cases h
     ·rename_i s hs;exact ⟨_,hs,h⟩
     ·rename_i r hr;exact ⟨_,hr,by simpa using h⟩
    obtain ⟨o,h1,h2⟩:=h0
    obtain ⟨k,e1,d,h3,h4,h5⟩:=ihx _ _ _ _ _ h1
    have other:k≠ .normal→(K k e1 (lg|||(0|||d))).map (Sum.inr (α:=j3 Γ.St j.sl))=some o→ ∃k e1 d,qC P G (.seq x y) e k e1∧Agree d e e1∧K k e1 (lg|||d)=some v:=by
     intro hk hm
     rw [Option.map_eq_some_iff] at hm
     obtain ⟨r,hr,rfl⟩:=hm
     simp only at h2
     subst h2
     exact ⟨k,e1,d,h3.seqX hk,h4,by rw [Nat.zero_or] at hr;exact hr⟩
    cases k with
    |normal=>
     simp only [Option.map_eq_some_iff] at h5
     obtain ⟨s,hs,rfl⟩:=h5
     exact fin .normal e1 d s h3 h4 hs hok h2
    |exit id=>exact other (by simp) h5
    |ret=>exact other (by simp) h5
  ·obtain ⟨k,e1,d,h1,h2,h3⟩:=ihx _ _ _ _ _ h
   cases k with
   |normal=>
    obtain ⟨k2,e2,d2,h4,h5,h6⟩:=ihy _ _ _ _ _ h3
    exact ⟨k2,e2,d|||d2,h1.seqN h4,h2.trans h5,by rw [←Nat.or_assoc];exact h6⟩
   |exit id=>exact ⟨_,e1,d,h1.seqX (by simp),h2,h3⟩
   |ret=>exact ⟨_,e1,d,h1.seqX (by simp),h2,h3⟩
 |cond c x y ihx ihy=>
  intro ρ K e lg v h
  simp only [exC] at h
  split at h
  ·rename_i b hb
   cases b with
   |true=>
    obtain ⟨k,e1,d,h1,h2,h3⟩:=ihx _ _ _ _ _ h
    exact ⟨k,e1,d,qC.condB hb h1,h2,h3⟩
   |false=>
    obtain ⟨k,e1,d,h1,h2,h3⟩:=ihy _ _ _ _ _ h
    exact ⟨k,e1,d,qC.condB hb h1,h2,h3⟩
  ·cases h
 |block id c ih=>
  intro ρ K e lg v h
  simp only [exC] at h
  obtain ⟨k,e1,d,h1,h2,h3⟩:=ih _ _ _ _ _ h
  exact ⟨_,e1,d,h1.block,h2,h3⟩
 |loop c ih=>
  intro ρ K e lg v h
  simp only [exC] at h
  split at h
  ·rename_i j hj0
   obtain ⟨jk,hj⟩:=zKy hj0
   have hjs:=hst jk j hj
   obtain ⟨hok,h⟩:=wE.1 h
   obtain ⟨s0,h1,h2⟩:=bind_some h
   simp only [vP] at h2
   rw [zEC] at h2
   obtain ⟨n,hn⟩:=h2
   have key: ∀ (n:Nat) (s:j3 Γ.St j.sl),zBn (fun s=>exC P G S A c (j3 Γ.St j.sl ⊕ ρ) (fun k e1 lg1=>match k with
    | .normal=>(zLt j e1 lg1).map .inl
    |k=>(K k e1 (lg|||(j.bits|||lg1))).map .inr) (qI j e s) 0) n s=some v→ ∃k e1 d,zAj P G c (qI j e s) k e1∧Agree (j.bits|||d) e e1∧K k e1 (lg|||(j.bits|||d))=some v:=by
    intro n
    induction n with
    |zero=>intro s hs;simp [zBn] at hs
    |succ n ihn=>
     intro s hs
     simp only [zBn] at hs
     have other: ∀ (o:j3 Γ.St j.sl ⊕ ρ) (k:X) (e1:Env Γ.St) (d:Nat),k≠ .normal→qC P G c (qI j e s) k e1→Agree d (qI j e s) e1→(K k e1 (lg|||(j.bits|||(0|||d)))).map (Sum.inr (α:=j3 Γ.St j.sl))=some o→
       (∃r,o= .inr r∧K k e1 (lg|||(j.bits|||d))=some r)∧zAj P G c (qI j e s) k e1∧Agree (j.bits|||d) e e1:=by
      intro o k e1 d hk h3 h4 hm
      rw [Option.map_eq_some_iff] at hm
      obtain ⟨r,hr,rfl⟩:=hm
      rw [Nat.zero_or] at hr
      exact ⟨⟨r,rfl,hr⟩, .last h3 hk,(zC2 hok).trans h4⟩
     split at hs
     ·cases hs
     ·rename_i s' hs'
      obtain ⟨k,e1,d,h3,h4,h5⟩:=ih _ _ _ _ _ hs'
      cases k with
      |normal=>
       simp only [Option.map_eq_some_iff] at h5
       obtain ⟨s1,hs1,heq⟩:=h5
       simp only [Sum.inl.injEq] at heq
       subst heq
       obtain ⟨h6,h7⟩:=zHB hs1
       have hA:Agree j.bits e e1:=(zC2 hok).same (h4.mono (fun t ht=>by have:=h7 t ht;rw [Nat.zero_or] at this;exact this))
       obtain ⟨k2,e2,d2,h8,h9,h10⟩:=ihn _ hs
       exact ⟨k2,e2,d2,zAj.step (Fits.code h3 (zEF hjs hA h6)) h8,h9,h10⟩
      |exit id=>obtain ⟨⟨r,hr,_⟩,_⟩:=other _ _ _ _ (by simp) h3 h4 h5;cases hr
      |ret=>obtain ⟨⟨r,hr,_⟩,_⟩:=other _ _ _ _ (by simp) h3 h4 h5;cases hr
     ·rename_i r hs'
      simp only [Option.some.injEq] at hs
      subst hs
      obtain ⟨k,e1,d,h3,h4,h5⟩:=ih _ _ _ _ _ hs'
      cases k with
      |normal=>
       simp only [Option.map_eq_some_iff] at h5
       obtain ⟨s1,hs1,heq⟩:=h5
       cases heq
      |exit id=>
       obtain ⟨⟨r',hr,hK⟩,hL,hA⟩:=other _ _ _ _ (by simp) h3 h4 h5
       simp only [Sum.inr.injEq] at hr
       subst hr
       exact ⟨_,e1,d,hL,hA,hK⟩
      |ret=>
       obtain ⟨⟨r',hr,hK⟩,hL,hA⟩:=other _ _ _ _ (by simp) h3 h4 h5
       simp only [Sum.inr.injEq] at hr
       subst hr
       exact ⟨_,e1,d,hL,hA,hK⟩
   obtain ⟨k,e1,d,h3,h4,h5⟩:=key n s0 hn
   exact ⟨k,e1,_,qC.loop (Fits.loop (zEF hjs ((Agree.refl e).mono (fun t _=>by simp)) h1) h3),h4,h5⟩
  ·have key: ∀ (n:Nat) (e:Env Γ.St) (lg:Nat),zF6 (exC P G S A c ρ) K n e lg=some v→ ∃k e1 d,zAj P G c e k e1∧Agree d e e1∧K k e1 (lg|||d)=some v:=by
    intro n
    induction n with
    |zero=>intro e lg h;simp [zF6] at h
    |succ n ihn=>
     intro e lg h
     simp only [zF6] at h
     obtain ⟨k,e1,d,h5,h6,h7⟩:=ih _ _ _ _ _ h
     cases k with
     |normal=>
      obtain ⟨k2,e2,d2,h8,h9,h10⟩:=ihn e1 _ h7
      exact ⟨k2,e2,d|||d2,zAj.step h5 h8,h6.trans h9,by rw [←Nat.or_assoc];exact h10⟩
     |exit id=>exact ⟨_,e1,d, .last h5 (by simp),h6,h7⟩
     |ret=>exact ⟨_,e1,d, .last h5 (by simp),h6,h7⟩
   obtain ⟨k,e1,d,h4,h5,h6⟩:=key _ e lg h
   exact ⟨k,e1,d,qC.loop h4,h5,h6⟩
 |region id ops draw=>
  intro ρ K e lg v h
  simp only [exC] at h
  split at h
  ·rename_i j hj
   have hjs:=hst _ j hj
   obtain ⟨hok,h⟩:=wE.1 h
   obtain ⟨s,h1,h2⟩:=bind_some h
   obtain ⟨e1,n,h3,h4,h5⟩:=zIW hmix hS (id:=id) h1
   rw [vP] at h2
   obtain ⟨h6,h7⟩:=zHB h5
   have hA:Agree j.bits e e1:=h4.mono (fun t ht=>by have:=h7 t ht;rw [Nat.zero_or] at this;exact this)
   exact ⟨.normal,qI j e s,j.bits,Fits.code h3 (zEF hjs hA h6),zC2 hok,h2⟩
  ·obtain ⟨e1,n,h3,h4,h5⟩:=zIW hmix hS (id:=id) h
   exact ⟨.normal,e1,n,h3,h4,h5⟩
 |_=>intro ρ K e lg v h;simp [exC] at h
inductive RTy where
 |p (ty:Ty)
 |o (ty:Ty)
 |tu (tys:List Ty)
@[reducible] def RTy.El:RTy→Type
 | .p ty=>ty.El
 | .o ty=>List ty.El
 | .tu tys=>ElS tys
def RTy.get:(R:RTy)→RV→Option R.El
 | .p ty, .p d=>ty.dec d
 | .p (.sl ty), .ownT t' xs=>zGM t' ty xs
 | .p ty, .own []=>ty.dec (.sl [])
 | .p _,_=>none
 | .o ty, .ownT t' xs=>zGM t' ty xs
 | .o _, .p (.val (.slice none 0 0))=>some []
 | .o _, .own []=>some []
 | .o _,_=>none
 | .tu tys, .p (.tup ds)=>yY tys ds
 | .tu _,_=>none
def RTy.res:(R:RTy)→R.El→RV
 | .p ty,x=> .p (ty.enc x)
 | .o ty,xs=> .ownT ty xs
 | .tu tys,x=> .p (.tup (encS tys x))
def RTy.pl:RTy→Bool
 | .p ty=>ty.flat
 | .o ty=>ty.flat
 | .tu tys=>tys.all Ty.flat
theorem RTy.get_sound {N:Nat} {w:World} {F:Blk→Prop} {O:Nat→Prop} {v:Value} {R:RTy} {r:RV} {y:R.El} (h:R.get r=some y) (hr:uX N w F O v r):
  ∃F':Blk→Prop,(∀b,F b→F' b)∧(∀id a n c,F' (.h id a n c)↔F (.h id a n c))∧(∀b:Nat,F' b→F b∨(N≤b∧b<w.heap.size∧ ¬O b))∧uX N w F' O v (R.res y):=by
 have same:uX N w F O v (R.res y)→ ∃F':Blk→Prop,(∀b,F b→F' b)∧(∀id a n c,F' (.h id a n c)↔F (.h id a n c))∧(∀b:Nat,F' b→F b∨(N≤b∧b<w.heap.size∧ ¬O b))∧uX N w F' O v (R.res y):=
  fun h=>⟨F,fun _ h=>h,fun _ _ _ _=>Iff.rfl,fun _ h=> .inl h,h⟩
 unfold RTy.get at h
 split at h
 ·exact same (yT h _ _ _ hr)
 ·rename_i ty t' xs
  exact zHV (r:= .ownT t' xs) (r':= .p (.tl ty y)) (zAA h) hr
 ·rename_i ty _
  refine same ?_
  rcases hr with ⟨_,a0,rfl⟩|⟨h',_⟩
  ·exact yT h _ _ _ (.slemp a0 0)
  ·exact absurd rfl h'
 ·cases h
 ·rename_i ty t' xs
  exact zHV (r:= .ownT t' xs) (r':= .ownT ty y) (zAA h) hr
 ·simp only [Option.some.injEq] at h;subst h
  exact same (.inl ⟨rfl,none,Rd.eq_val hr⟩)
 ·simp only [Option.some.injEq] at h;subst h
  exact same hr
 ·cases h
 ·exact same (WkV.tup (wL _ _ _ h) _ _ _ hr)
 ·cases h
noncomputable def exF (L:qK) (G:Nat→Option (List V)) (S:zL Γ) (A:Nat→Option JA) (fn:Func) (c:Code) (R:RTy) (s:Γ.St) (ds:List V):Option R.El:=
 zBm (start fn.ntmps s ds) (fun e=>exC L G S A c R.El (fun k e1 _=>match k with
  | .exit _=>none
  |_=>match zFb L e1 fn with
   |some r=>R.get r
   |none=>none) e 0)
def zBk {X:Type} (dec:List V→Option X) (R:RTy) (g:X→Option R.El):Γ.St→List V→Option (zCG Γ.St):=fun s ds=>
 match dec ds with
 |some x=>some ⟨R.El,g x,fun _=>s,R.res,R.pl⟩
 |none=>none
def zAQ (ts:List Ty) (R:RTy) (g:ElS ts→Option R.El):Γ.St→List V→Option (zCG Γ.St):=zBk (yY ts) R g
inductive ATy where
 |d (ty:Ty)
 |pp (ty:Ty)
 |clo (f:Nat) (caps:List (Bool×Ty))
@[reducible] def zSb:List (Bool×Ty)→Type
 |[]=>Unit
 |c::r=>c.2.El×zSb r
@[reducible] def ATy.El:ATy→Type
 | .d ty=>ty.El
 | .pp ty=>ty.El
 | .clo _ caps=>zSb caps
@[reducible] def ElA:List ATy→Type
 |[]=>Unit
 |t::ts=>t.El×ElA ts
def zOe:(l:List (Bool×Ty))→zSb l→List V
 |[],_=>[]
 |(b,t)::r,x=>(match b with
  |true=> .pp (t.cells x.1)
  |false=>t.enc x.1)::zOe r x.2
def ATy.enc:(t:ATy)→t.El→V
 | .d ty,x=>ty.enc x
 | .pp ty,x=> .pp (ty.cells x)
 | .clo f caps,x=> .clo f (zOe caps x)
def zOf:(ts:List ATy)→ElA ts→List V
 |[],_=>[]
 |t::ts,x=>t.enc x.1::zOf ts x.2
def zO8 (t:Ty):V→Option t.El
 | .pp cs=>match t.uncells cs with
  |some (x,[])=>some x
  |_=>none
 |_=>none
def zFR:(l:List (Bool×Ty))→List V→Option (zSb l)
 |[],[]=>some ()
 |(b,t)::r,d::ds=>match b with
  |true=>match zO8 t d with
   |some x=>match zFR r ds with
    |some xs=>some (x,xs)
    |none=>none
   |none=>none
  |false=>match t.dec d with
   |some x=>match zFR r ds with
    |some xs=>some (x,xs)
    |none=>none
   |none=>none
 |_,_=>none
def ATy.dec:(t:ATy)→V→Option t.El
 | .d ty,v=>ty.dec v
 | .pp ty,v=>zO8 ty v
 | .clo f caps, .clo g ds=>match Nat.beq g f with
  |true=>zFR caps ds
  |false=>none
 | .clo _ _,_=>none
def zIl:(ts:List ATy)→List V→Option (ElA ts)
 |[],[]=>some ()
 |t::ts,d::ds=>match t.dec d with
  |some x=>match zIl ts ds with
   |some xs=>some (x,xs)
   |none=>none
  |none=>none
 |_,_=>none
def zQI (ts:List ATy) (R:RTy) (g:ElA ts→Option R.El):Γ.St→List V→Option (zCG Γ.St):=zBk (zIl ts) R g
def zL.none (Γ:Sig):zL Γ:=fun _ _ _=>Option.none
def zL.add (S:zL Γ) (f:FuncId) (sp:Γ.St→List V→Option (zCG Γ.St)):zL Γ:=fun g s ds=>
 match Nat.beq g f with
 |true=>match zKC ds with
  |true=>S g s ds
  |false=>match sp s ds with
   | .some c=>some c
   | .none=>S g s ds
 |false=>S g s ds
def z8 (sp:Γ.St→List V→Option (zCG Γ.St)):Γ.St→List V→Option (Γ.St×RV):=fun s ds=>
 match sp s ds with
 |some c=>c.m.map (fun y=>(c.st y,c.res y))
 |none=>none
theorem zDN:zZ Γ P G (zL.none Γ).toS:=by
 have:(zL.none Γ).toS=zOT Γ:=by funext f s ds;rfl
 rw [this];exact zNo
theorem xZ {S:zL Γ} (hS:zZ Γ P G S.toS) {f:FuncId} {sp:Γ.St→List V→Option (zCG Γ.St)} (hi:isFn P f=true) (h:kP Γ P G f (z8 sp)):zZ Γ P G (S.add f sp).toS:=by
 have e0: ∀s ds,zKC ds=true→(S.add f sp).toS f s ds=S.toS f s ds:=by
  intro s ds hb
  simp only [zL.toS,zL.add,Nat.beq_refl,hb]
 have e1: ∀s ds,zKC ds=false→(S.add f sp).toS f s ds=if (sp s ds).isSome then z8 sp s ds else S.toS f s ds:=by
  intro s ds hb
  simp only [zL.toS,zL.add,z8,Nat.beq_refl,hb]
  cases sp s ds<;>rfl
 have e2: ∀g,g≠f→(S.add f sp).toS g=S.toS g:=by
  intro g hg
  funext s ds
  have:Nat.beq g f=false:=by
   cases hb:Nat.beq g f with
   |false=>rfl
   |true=>exact absurd (Nat.eq_of_beq_eq_true hb) hg
  simp only [zL.toS,zL.add,this]
 have hnf: ∀k,P.funcs[k]? =none→k≠f:=by
  rintro k hk rfl
  simp [isFn,hk] at hi
 refine ⟨?_,?_,fun hno st q t ys bytes st' d h=>hS.app hno st q t ys bytes st' d (by rw [←e2 _ (hnf _ hno)];exact h),?_⟩
 ·intro g
  by_cases hg:g=f
  ·subst hg
   intro w F O s args ds s' r a1 a2 a3 a4 a5 a6
   cases hb:zKC ds with
   |true=>
    rw [e0 s ds hb] at a6
    exact hS.ok g w F O s args ds s' r a1 a2 a3 a4 a5 a6
   |false=>
    rw [e1 s ds hb] at a6
    split at a6
    ·exact h w F O s args ds s' r a1 a2 a3 a4 a5 a6
    ·exact hS.ok g w F O s args ds s' r a1 a2 a3 a4 a5 a6
  ·rw [e2 g hg];exact hS.ok g
 ·intro g s ds r hr hbot
  by_cases hg:g=f
  ·subst hg
   unfold isFn at hi
   split at hi
   ·rename_i fn hfn
    simp only [Bool.and_eq_true,Bool.not_eq_true'] at hi
    exact ⟨fn,hfn,hi.1,hi.2⟩
   ·cases hi
  ·rw [e2 g hg] at hr;exact hS.is g s ds r hr hbot
 ·intro g st t xs ds st' ys d h
  by_cases hg:g=f
  ·subst hg;rw [e0 _ _ rfl] at h;exact hS.bor g st t xs ds st' ys d h
  ·rw [e2 g hg] at h;exact hS.bor g st t xs ds st' ys d h
def zL.addB (S:zL Γ) (f:FuncId) (sp:Γ.St→List V→Option (zCG Γ.St)):zL Γ:=fun g s ds=>
 match Nat.beq g f with
 |true=>match ds with
  | .bot::r=>match sp s r with
   | .some c=>some c
   | .none=>S g s ds
  |_=>S g s ds
 |false=>S g s ds
def RTy.val:(R:RTy)→R.El→V
 | .p ty,x=>ty.enc x
 | .o ty,xs=> .tl ty xs
 | .tu tys,x=> .tup (encS tys x)
def zBK (t:Ty) {X:Type} (dec:List V→Option X) (R:RTy) (g:List t.El→X→Option (List t.El×R.El)):Γ.St→List V→Option (zCG Γ.St):=fun s ds=>
 match ds with
 | .tl t' xs::r=>match zGM t' t xs with
  |some ys=>match dec r with
   |some x=>some ⟨List t.El×R.El,g ys x,fun _=>s,fun y=> .p (.tup [.tl t y.1,R.val y.2]),false⟩
   |none=>none
  |none=>none
 |_=>none
def zNj (Γ:Sig) (P:Program) (G:Nat→Option (List V)) (f:FuncId) (t:Ty) {X:Type} (dec:List V→Option X) (R:RTy) (g:List t.El→X→Option (List t.El×R.El)):Prop:=
 ∀ (s:Γ.St) (xs:List t.El) (r:List V) (x:X) (ys:List t.El) (y:R.El),dec r=some x→g xs x=some (ys,y)→zGX Γ P G f s t xs r s ys (R.val y)
theorem zL0 {S:zL Γ} (hS:zZ Γ P G S.toS) {f:FuncId} {t:Ty} {X:Type} {dec:List V→Option X} {R:RTy} {g:List t.El→X→Option (List t.El×R.El)} (hi:isFn P f=true)
  (h:zNj Γ P G f t dec R g):zZ Γ P G (S.addB f (zBK t dec R g)).toS:=by
 have e0: ∀s ds,zKC ds=false→(S.addB f (zBK t dec R g)).toS f s ds=S.toS f s ds:=by
  intro s ds hb
  simp only [zL.toS,zL.addB,Nat.beq_refl]
  cases ds with
  |nil=>rfl
  |cons d r=>cases d<;>first|rfl|cases hb
 have e1: ∀s r,(S.addB f (zBK t dec R g)).toS f s (.bot::r)=match zBK (Γ:=Γ) t dec R g s r with
   |some c=>c.m.map (fun y=>(c.st y,c.res y))
   |none=>S.toS f s (.bot::r):=by
  intro s r
  simp only [zL.toS,zL.addB,Nat.beq_refl]
  cases zBK (Γ:=Γ) t dec R g s r<;>rfl
 have e2: ∀g',g'≠f→(S.addB f (zBK t dec R g)).toS g'=S.toS g':=by
  intro g' hg
  funext s ds
  have:Nat.beq g' f=false:=by
   cases hb:Nat.beq g' f with
   |false=>rfl
   |true=>exact absurd (Nat.eq_of_beq_eq_true hb) hg
  simp only [zL.toS,zL.addB,this]
 have hnf: ∀k,P.funcs[k]? =none→k≠f:=by
  rintro k hk rfl
  simp [isFn,hk] at hi
 have hisf : ∃ fn, P.funcs[f]? = some fn ∧ fn.body.isSome = true ∧ (fn.name == "runtime.NumGoroutine") = false := by
  unfold isFn at hi
  split at hi
  ·rename_i fn hfn
   simp only [Bool.and_eq_true,Bool.not_eq_true'] at hi
   exact ⟨fn,hfn,hi.1,hi.2⟩
  ·cases hi
 refine ⟨?_,?_,fun hno st q t ys bytes st' d h=>hS.app hno st q t ys bytes st' d (by rw [←e2 _ (hnf _ hno)];exact h),?_⟩
 ·intro g'
  by_cases hg:g'=f
  ·subst hg
   intro w F O s args ds s' r a1 a2 a3 a4 a5 a6
   cases hb:zKC ds with
   |false=>
    rw [e0 s ds hb] at a6
    exact hS.ok g' w F O s args ds s' r a1 a2 a3 a4 a5 a6
   |true=>
    exfalso
    cases ds with
    |nil=>cases hb
    |cons d ds=>
     cases d with
     |bot=>
      have h0:0<args.size:=by rw [a4];simp
      have hnb: ∀u:Value, ¬Rd w F u .bot:=fun u h=>by cases h
      exact hnb _ (a5 0 args[0] .bot (by simp [h0]) rfl)
     |_=>cases hb
  ·rw [e2 g' hg];exact hS.ok g'
 ·intro g' s ds r hr hbot
  by_cases hg:g'=f
  ·subst hg;exact hisf
  ·rw [e2 g' hg] at hr;exact hS.is g' s ds r hr hbot
 ·intro g' st t0 xs ds st' ys d h0
  by_cases hg:g'=f
  ·subst hg
   rw [e1] at h0
   split at h0
   ·rename_i cx hc
    refine ⟨?_,hisf⟩
    simp only [zBK] at hc
    cases hzs:zGM t0 t xs with
    |none=>rw [hzs] at hc;cases hc
    |some zs=>
     rw [hzs] at hc
     obtain ⟨ht,hz⟩:=zAe (zAA hzs)
     subst ht
     subst hz
     cases hx:dec ds with
     |none=>rw [hx] at hc;cases hc
     |some x=>
      rw [hx] at hc
      simp only [Option.some.injEq] at hc
      rw [←hc] at h0
      simp only [Option.map_eq_some_iff,Prod.mk.injEq,RV.p.injEq,V.tup.injEq,List.cons.injEq,and_true,V.tl.injEq,true_and] at h0
      obtain ⟨⟨ys',y⟩,h1,rfl,h2,h3⟩:=h0
      have h2:=eq_of_heq h2
      subst h2
      subst h3
      exact h _ _ _ x _ _ hx h1
   ·exact hS.bor g' st t0 xs ds st' ys d h0
  ·rw [e2 g' hg] at h0;exact hS.bor g' st t0 xs ds st' ys d h0
theorem WkV.pp {xs ys:List V} (h:jQ xs ys):WkV (.pp xs) (.pp ys):=by
 intro w F v hr
 cases hr with
 |pp b off cs g hF hg hr0=>
  refine .pp b off ys g hF (fun m hm=>hg m (by rw [h.len];exact hm)) ?_
  intro m d hd
  have hlt:m<xs.length:=by rw [h.len];exact (List.getElem?_eq_some_iff.1 hd).1
  exact h.get m xs[m] d (by simp [hlt]) hd w F _ (hr0 m xs[m] (by simp [hlt]))
theorem WkV.clo {f:FuncId} {xs ys:List V} (h:jQ xs ys):WkV (.clo f xs) (.clo f ys):=by
 intro w F v hr
 cases hr with
 |clo _ cs ds hl h0=>
  refine .clo f cs ys (hl.trans h.len) ?_
  intro i x d hi hd
  have hlt:i<xs.length:=by rw [h.len];exact (List.getElem?_eq_some_iff.1 hd).1
  exact h.get i xs[i] d (by simp [hlt]) hd w F x (h0 i x xs[i] hi (by simp [hlt]))
theorem zHZ {t:Ty} {d:V} {x:t.El} (h:zO8 t d=some x):WkV d (.pp (t.cells x)):=by
 unfold zO8 at h
 split at h
 ·rename_i cs
  split at h
  ·rename_i y hy
   simp only [Option.some.injEq] at h
   subst h
   obtain ⟨c1,h1,h2⟩:=vD t cs y [] hy
   simp only [List.append_nil] at h1
   subst h1
   exact WkV.pp h2
  ·cases h
 ·cases h
theorem zDe: ∀ (l:List (Bool×Ty)) (ds:List V) (x:zSb l),zFR l ds=some x→jQ ds (zOe l x)
 |[],[],_,_=>trivial
 |[],_::_,_,h=>by simp [zFR] at h
 |_::_,[],_,h=>by simp [zFR] at h
 |(b,t)::r,d::ds,x,h=>by
  simp only [zFR] at h
  split at h
  ·split at h
   ·rename_i y hy
    split at h
    ·rename_i ys hys
     simp only [Option.some.injEq] at h
     subst h
     exact ⟨zHZ hy,zDe r ds ys hys⟩
    ·cases h
   ·cases h
  ·split at h
   ·rename_i y hy
    split at h
    ·rename_i ys hys
     simp only [Option.some.injEq] at h
     subst h
     exact ⟨yT hy,zDe r ds ys hys⟩
    ·cases h
   ·cases h
theorem zDf: ∀ (ts:List ATy) (ds:List V) (x:ElA ts),zIl ts ds=some x→jQ ds (zOf ts x)
 |[],[],_,_=>trivial
 |[],_::_,_,h=>by simp [zIl] at h
 |_::_,[],_,h=>by simp [zIl] at h
 |t::ts,d::ds,x,h=>by
  simp only [zIl] at h
  split at h
  ·rename_i y hy
   split at h
   ·rename_i ys hys
    simp only [Option.some.injEq] at h
    subst h
    refine ⟨?_,zDf ts ds ys hys⟩
    cases t with
    |d ty=>exact yT (t:=ty) (x:=y) hy
    |pp ty=>exact zHZ (t:=ty) (x:=y) hy
    |clo f caps=>
     cases d with
     |clo g ds0=>
      simp only [ATy.dec] at hy
      split at hy
      ·rename_i hb
       have hb:=Nat.eq_of_beq_eq_true hb
       subst hb
       exact WkV.clo (zDe _ _ _ hy)
      ·cases hy
     |_=>simp [ATy.dec] at hy
   ·cases h
  ·cases h
theorem zMI [hsub:Subsingleton Γ.St] {S:zL Γ} {A:Nat→Option JA} (hmix:P.follows .mixedOrders=true) (hS:zZ Γ P G S.toS) {f:FuncId} {fn:Func} {c:Code} (hf:P.funcs[f]? =some fn) (hb:fn.body=some c)
  {X:Type} {dec:List V→Option X} {enc:X→List V} (hdec: ∀ds x,dec ds=some x→jQ ds (enc x)) {R:RTy} {g:X→Option R.El} (h: ∀s x,exF (Γ:=Γ) P G S A fn c R s (enc x)=g x):kP Γ P G f (z8 (zBk dec R g)):=by
 intro w F O s args ds s' r hsig hG hF hlen hrd hspec
 simp only [z8,zBk] at hspec
 split at hspec
 ·rename_i cx hcx
  split at hcx
  ·rename_i x hx
   simp only [Option.some.injEq] at hcx
   subst hcx
   simp only [Option.map_eq_some_iff] at hspec
   obtain ⟨y,hy,hsr⟩:=hspec
   simp only [Prod.mk.injEq] at hsr
   obtain ⟨rfl,rfl⟩:=hsr
   have hwk:=hdec ds x hx
   have hlen':args.size=(enc x).length:=hlen.trans hwk.len
   have hrd': ∀ (i:Nat) (u:Value) (d:V),args[i]? =some u→(enc x)[i]? =some d→Rd w F u d:=by
    intro i u d hu hd
    have hlt:i<ds.length:=by rw [hwk.len];exact (List.getElem?_eq_some_iff.1 hd).1
    exact hwk.get i ds[i] d (by simp [hlt]) hd w F u (hrd i u ds[i] hu (by simp [hlt]))
   have hex:=h s x
   rw [hy] at hex
   unfold exF at hex
   rw [vP] at hex
   obtain ⟨k,e',d,hok,_,hend⟩:=zHw (fun _ _ _=> .inl hsub) hmix hS c _ _ _ _ _ hex
   have hk:(k= .normal∨k= .ret)∧(match zFb (qK.of P) e' fn with
    |some r=>R.get r
    |none=>none)=some y:=by
    cases k with
    |normal=>exact ⟨.inl rfl,hend⟩
    |ret=>exact ⟨.inr rfl,hend⟩
    |exit id=>cases hend
   obtain ⟨hk,hend⟩:=hk
   split at hend
   ·rename_i r' hr'
    refine calls_of_wp hf hb ?_
    have hget: ∀t,zE w F ⟨fun _=>0,fun _=>0⟩ (fun _=>False) ((args++Array.replicate (fn.ntmps-args.size) undef).getD t undef) ((start fn.ntmps s (enc x)).get t):=by
     intro t
     simp only [start,zGc,Env.get,List.getD_eq_getElem?_getD,Array.getD_eq_getD_getElem?]
     by_cases ht:t< (enc x).length
     ·rw [List.getElem?_append_left (by simpa using ht),Array.getElem?_append_left (by omega)]
      rw [List.getElem?_map,List.getElem?_eq_getElem ht,Array.getElem?_eq_getElem (by omega)]
      exact hrd' t _ _ (by simp [show t<args.size by omega]) (by simp [ht])
     ·rw [List.getElem?_append_right (by simpa using Nat.le_of_not_lt ht),Array.getElem?_append_right (by omega),hlen']
      simp only [List.length_map]
      by_cases h2:t- (enc x).length<fn.ntmps- (enc x).length
      ·rw [List.getElem?_replicate,if_pos h2,Array.getElem?_replicate,if_pos h2]
       exact Rd.val _
      ·rw [List.getElem?_replicate,if_neg h2]
       trivial
    have hnovar: ∀s0,(start fn.ntmps s (enc x)).var s0=none:=by
     intro s0
     simp only [start,Env.var,List.getElem?_replicate]
     split<;>rfl
    have hinv:Inv Γ G w F O { tmps:=args++Array.replicate (fn.ntmps-args.size) undef,defers:=[] } w (start fn.ntmps s (enc x)):=by
     refine Inv.of (F:=F) (O:=O) (β:=⟨fun _=>0,fun _=>0⟩) (al:=fun _=>False) ⟨zBx.refl _ w,hsig,fun b hb=> .inl hb,fun b hb=>⟨.inl hb,hF b hb⟩,fun b hb=>hb,fun x hx=>hx.elim,fun x y hx=>hx.elim,fun b n h=>by cases h⟩ hG ?_ rfl hget ?_ (fun s h=>h.elim)
     ·simp [start,zGc,hlen']
     ·intro s0 cs hcs;rw [hnovar] at hcs;cases hcs
    refine wp_mono (hok w F O _ w hinv) ?_
    rintro ex a' w' ⟨rfl,hi'⟩
    obtain ⟨v,F',O',h1,h2,h3,h4,h5,h6,h7⟩:=zKK rfl hi' hr'
    have hdf:a'.defers=[]:=by obtain ⟨_,_,_,_,_,_,hdf,_⟩:=hi';exact hdf
    rw [Subsingleton.elim e'.st s] at h2
    obtain ⟨F'',g1,gh,g2,g3⟩:=RTy.get_sound hend h7
    have h2:=Γ.mono h2 gh (fun _ _=>rfl)
    have hF'': ∀b:Nat,F'' b→(F b∨w.heap.size≤b)∧b<w'.heap.size∧ ¬O' b:=by
     intro b hb
     rcases g2 b hb with hb|⟨h1,h2,h3⟩
     ·exact h6 b hb
     ·exact ⟨.inr h1,h2,h3⟩
    rcases hk with rfl|rfl
    ·exact ⟨hdf,v,h1,v,F'',O',rfl,h2,h3,h4,fun b hb=>g1 b (h5 b hb),hF'',g3⟩
    ·exact ⟨hdf,v,h1,v,F'',O',rfl,h2,h3,h4,fun b hb=>g1 b (h5 b hb),hF'',g3⟩
   ·cases hend
  ·cases hcx
 ·cases hspec
theorem zRz [hsub:Subsingleton Γ.St] {S:zL Γ} {A:Nat→Option JA} (hmix:P.follows .mixedOrders=true) (hS:zZ Γ P G S.toS) {f:FuncId} {fn:Func} {c:Code} (hf:P.funcs[f]? =some fn) (hb:fn.body=some c)
  {ts:List Ty} {R:RTy} {g:ElS ts→Option R.El} (h: ∀s x,exF (Γ:=Γ) P G S A fn c R s (encS ts x)=g x):kP Γ P G f (z8 (zAQ ts R g)):=by
 have:=zMI hmix hS hf hb (wL ts) h
 exact this
theorem zRB [hsub:Subsingleton Γ.St] {S:zL Γ} {A:Nat→Option JA} (hmix:P.follows .mixedOrders=true) (hS:zZ Γ P G S.toS) {f:FuncId} {fn:Func} {c:Code} (hf:P.funcs[f]? =some fn) (hb:fn.body=some c)
  {ts:List ATy} {R:RTy} {g:ElA ts→Option R.El} (h: ∀s x,exF (Γ:=Γ) P G S A fn c R s (zOf ts x)=g x):kP Γ P G f (z8 (zQI ts R g)):=
 zMI hmix hS hf hb (zDf ts) h
end
end Go.Ve

namespace Go.Ve
open Go
def zIL (n:Nat) (t:Ty) (xs:List t.El) (ds:List V):List T:= .ot qA t xs::(ds.map .p++List.replicate (n- (ds.length+1)) (.p (.val undef)))
def zFl {St:Type} (n:Nat) (s:St) (t:Ty) (xs:List t.El) (ds:List V):Env St:= { tm:=zIL n t xs ds,vars:=List.replicate n none,st:=s }
def zNO {St:Type} (e:Env St) (t:Ty):Option (List t.El):=
 match e.get 0 with
 | .ot id t' ys=>match Nat.beq id qA with
  |true=>zGM t' t ys
  |false=>none
 |_=>none
def RTy.getP:(R:RTy)→RV→Option R.El
 | .p ty, .p d=>ty.dec d
 | .tu tys, .p (.tup ds)=>yY tys ds
 |_,_=>none
section
variable {Γ:Sig} {P:Program} {G:Nat→Option (List V)}
noncomputable def zT3 (L:qK) (G:Nat→Option (List V)) (S:zL Γ) (A:Nat→Option JA) (fn:Func) (c:Code) (t:Ty) (R:RTy) (s:Γ.St) (xs:List t.El) (ds:List V):Option (List t.El×R.El):=
 zBm (zFl fn.ntmps s t xs ds) (fun e=>exC L G S A c (List t.El×R.El) (fun k e1 _=>match k with
  | .exit _=>none
  |_=>match zNO e1 t with
   |some ys=>match zFb L e1 fn with
    |some r=>match R.getP r with
     |some y=>zE1 (Nat.beq ys.length xs.length) (some (ys,y))
     |none=>none
    |none=>none
   |none=>none) e 0)
theorem zHU (t:Ty) (x:t.El) (h:t.flat=true): ∃u,(t.enc x).toVal1=some u:=by
 have hp:=zJp t [x] h
 simp only [RV.plain,List.map_cons,List.map_nil,List.all_cons,List.all_nil,Bool.and_true] at hp
 exact Option.isSome_iff_exists.1 hp
theorem zPq {d:V} {u:Value} (h:d.toVal1=some u): ∃u',d.toVal=some u':=by
 cases d<;>first|exact ⟨u,h⟩|(simp [V.toVal1] at h)
theorem zKH: ∀ (ts:List Ty) (x:ElS ts),ts.all Ty.flat=true→(encS ts x).all (fun d=>d.toVal1.isSome)=true
 |[],_,_=>rfl
 |t::ts,x,h=>by
  simp only [List.all_cons,Bool.and_eq_true] at h
  simp only [encS,List.all_cons,Bool.and_eq_true]
  obtain ⟨u,hu⟩:=zHU t x.1 h.1
  exact ⟨by rw [hu];rfl,zKH ts x.2 h.2⟩
theorem zQy {R:RTy} (h:R.pl=true) (hno: ∀ty,R≠ .o ty) (y:R.El): ∃u,(R.val y).toVal=some u:=by
 cases R with
 |p ty=>obtain ⟨u,hu⟩:=zHU ty y h;exact zPq hu
 |o ty=>exact absurd rfl (hno ty)
 |tu tys=>
  have:=zKH tys y h
  exact ⟨_,by simp only [RTy.val,V.toVal];rw [if_pos this]⟩
theorem zNS {w:World} {F:Blk→Prop} {v:Value} {R:RTy} {d:V} {y:R.El} (h:R.getP (.p d)=some y) (hr:Rd w F v d):Rd w F v (R.val y):=by
 cases R with
 |p ty=>exact yT (t:=ty) (x:=y) h _ _ _ hr
 |o ty=>simp [RTy.getP] at h
 |tu tys=>
  cases d with
  |tup ds=>exact WkV.tup (wL _ _ _ h) _ _ _ hr
  |_=>simp [RTy.getP] at h
theorem zPZ {w0:World} {F0:Blk→Prop} {O0:kC} {a:Act} {w:World} {e:Env Γ.St} (hi:Inv Γ G w0 F0 O0 a w e) {fn:Func} {d:V} (h:zFb P e fn=some (.p d)):
  ∃v F',(results fn a.tmps).run P w= .ok v w∧Rd w F' v d:=by
 obtain ⟨F,O,β,hc,hG,hsz,hdf,ht,hv⟩:=hi
 have hvars: ∀s cs,e.var s=some cs→alive e (.v s)→z7 w F β (alive e) (β.vb s) cs:=fun s cs hcs _=>hv s cs hcs
 have hrun: ∀us,(fn.results.toList.mapM (zKp a.tmps)).run P w= .ok us w→
   (results fn a.tmps).run P w= .ok (if h:us.length=1 then us[0] else .tuple us.toArray) w:=by
  intro us hus
  rw [zIV,Array.mapM_eq_mapM_toList]
  simp only [Sem.run_bind,Sem.run_map,hus,Result.andThen_ok,Sem.run_pure]
  rfl
 have hone: ∀r0,fn.results.toList=[r0]→ ∀d,resV P e r0=some d→ ∃v F',(results fn a.tmps).run P w= .ok v w∧Rd w F' v d:=by
  intro r0 hr d hd
  obtain ⟨us,h1,h2,h3⟩:=zEw (P:=P) hvars ht [r0] [d] (by simp [zCm,hd])
  cases us with
  |nil=>simp at h2
  |cons u us=>
   cases us with
   |cons _ _=>simp at h2
   |nil=>
    have:=hrun [u] (by rw [hr];exact h1)
    exact ⟨u,_,by simpa using this,h3 0 u d rfl rfl⟩
 unfold zFb at h
 split at h
 ·rename_i t hres
  split at h
  ·cases h
  ·rename_i id k hx
   have hT:=ht t
   rw [hx] at hT
   obtain ⟨ha,cap,hvv,hrow⟩:=hT
   simp only [Option.some.injEq,RV.p.injEq] at h;subst h
   have hrun1:(results fn a.tmps).run P w= .ok (a.tmps.getD t undef) w:=by
    have:=hrun [a.tmps.getD t undef] (by rw [hres];rfl)
    simpa using this
   exact ⟨_,F,hrun1,by rw [hvv];exact .slemp _ _⟩
  ·cases h
  ·cases h
  ·simp only [Option.map_eq_some_iff] at h
   obtain ⟨d',hd,heq⟩:=h
   cases heq
   exact hone _ hres d hd
 ·rename_i r0 _ hres
  simp only [Option.map_eq_some_iff] at h
  obtain ⟨d',hd,heq⟩:=h
  cases heq
  exact hone _ hres d hd
 ·rename_i hn1 hn2
  simp only [Option.map_eq_some_iff] at h
  obtain ⟨ds,hds,heq⟩:=h
  cases heq
  obtain ⟨us,h1,h2,h3⟩:=zEw (P:=P) hvars ht _ ds hds
  have hrun2:=hrun us h1
  have hne:us.length≠1:=by
   intro hl
   have hlen: ∀ (l:List ResultVar) (ds:List V),zCm P e l=some ds→ds.length=l.length:=by
    intro l
    induction l with
    |nil=>intro ds h;simp [zCm] at h;subst h;rfl
    |cons r l ih=>
     intro ds h
     simp only [zCm] at h
     split at h
     ·rename_i d ds' hd hds
      simp only [Option.some.injEq] at h;subst h
      simp [ih ds' hds]
     ·cases h
   have:=hlen _ ds hds
   match hl':fn.results.toList with
   |[]=>rw [hl'] at this;simp only [List.length_nil] at this;omega
   |[r0]=>exact hn2 r0 hl'
   |_::_::_=>rw [hl'] at this;simp only [List.length_cons] at this;omega
  rw [dif_neg hne] at hrun2
  exact ⟨_,_,hrun2, .tup _ ds (by simpa using h2) (fun i x d hi hd=>h3 i x d (by simpa using hi) hd)⟩
theorem zRA [hsub:Subsingleton Γ.St] {S:zL Γ} {A:Nat→Option JA} (hmix:P.follows .mixedOrders=true) (hS:zZ Γ P G S.toS) {f:FuncId} {fn:Func} {c:Code} (hf:P.funcs[f]? =some fn) (hb:fn.body=some c)
  {t:Ty} {X:Type} {dec:List V→Option X} {enc:X→List V} (hdec: ∀ds x,dec ds=some x→jQ ds (enc x)) (hnb: ∀ds x,dec ds=some x→zCV ds=none) {R:RTy} (hpl:R.pl=true) (hno: ∀ty,R≠ .o ty) {g:List t.El→X→Option (List t.El×R.El)}
  (h: ∀s xs x,zT3 (Γ:=Γ) P G S A fn c t R s xs (enc x)=g xs x):zNj Γ P G f t dec R g:=by
 intro s xs r x ys y hx hy
 refine zGX.of (hnb r x hx) ?_
 intro w F O b v0 args hsig hG hF hown hb0 hsize ha0 hrd
 have hwk:=hdec r x hx
 have hlen':args.size=(enc x).length+1:=hsize.trans (by rw [hwk.len])
 have hrd': ∀ (i:Nat) (u:Value) (d:V),args[i+1]? =some u→(enc x)[i]? =some d→Rd w F u d:=by
  intro i u d hu hd
  have hlt:i<r.length:=by rw [hwk.len];exact (List.getElem?_eq_some_iff.1 hd).1
  exact hwk.get i r[i] d (by simp [hlt]) hd w F u (hrd i u r[i] hu (by simp [hlt]))
 have hex:=h s xs x
 rw [hy] at hex
 unfold zT3 at hex
 rw [vP] at hex
 obtain ⟨k,e',d,hok,_,hend⟩:=zHw (fun _ _ _=> .inl hsub) hmix hS c _ _ _ _ _ hex
 have hk:(k= .normal∨k= .ret)∧(match zNO e' t with
   |some ys=>match zFb (qK.of P) e' fn with
    |some r=>match R.getP r with
     |some y=>zE1 (Nat.beq ys.length xs.length) (some (ys,y))
     |none=>none
    |none=>none
   |none=>none)=some (ys,y):=by
  cases k with
  |normal=>exact ⟨.inl rfl,hend⟩
  |ret=>exact ⟨.inr rfl,hend⟩
  |exit id=>cases hend
 obtain ⟨hk,hend⟩:=hk
 split at hend
 ·rename_i ys' hys
  split at hend
  ·rename_i rv hrv
   split at hend
   ·rename_i y' hy'
    obtain ⟨hlen0,hend⟩:=wE.1 hend
    have hlen0:=Nat.eq_of_beq_eq_true hlen0
    simp only [Option.some.injEq,Prod.mk.injEq] at hend
    obtain ⟨rfl,rfl⟩:=hend
    refine calls_of_wp hf hb ?_
    have hcap: ∃cap,xs≠[]→v0= .slice (some ⟨b,0,none⟩) xs.length cap∧xs.length≤cap∧ ∃ (c:Array Value) (et:TypeId) (fl:Nat×Nat),w.heap[b]? =some (.cells c et fl)∧c.size=cap*t.size:=by
     rcases hown with ⟨h1,_⟩|⟨h1,_,cap,h2,c,et,h3,h4,h5,_⟩
     ·exact ⟨0,fun h=>absurd (by simpa using h1) h⟩
     ·exact ⟨cap,fun _=>⟨by simpa using h2,by simpa using h5,c,et,(0,0),h3,h4⟩⟩
    obtain ⟨cap,hcap⟩:=hcap
    let β:Lay:=⟨fun _=>0,fun _=>b⟩
    let al:Site→Prop:=fun q=>q= .o qA∧xs≠[]
    let O0:kC:=⟨O,if xs=[] then none else some (b,cap*t.size)⟩
    have h0T:zE w F β al v0 (.ot qA t xs):=by
     rcases hown with ⟨h1,h2⟩|⟨h1,_,h2⟩
     ·exact .inl ⟨h1,h2⟩
     ·exact .inr ⟨h1,⟨rfl,fun hh=>h1 (by rw [hh];rfl)⟩,h2⟩
    have hget: ∀q,zE w F β al ((args++Array.replicate (fn.ntmps-args.size) undef).getD q undef) ((zFl fn.ntmps s t xs (enc x)).get q):=by
     intro q
     simp only [zFl,zIL,Env.get,List.getD_eq_getElem?_getD,Array.getD_eq_getD_getElem?]
     cases q with
     |zero=>
      rw [Array.getElem?_append_left (by omega),ha0]
      exact h0T
     |succ q=>
      rw [List.getElem?_cons_succ]
      by_cases ht:q< (enc x).length
      ·rw [List.getElem?_append_left (by simpa using ht),Array.getElem?_append_left (by omega)]
       rw [List.getElem?_map,List.getElem?_eq_getElem ht,Array.getElem?_eq_getElem (by omega)]
       exact hrd' q _ _ (by simp [show q+1<args.size by omega]) (by simp [ht])
      ·rw [List.getElem?_append_right (by simpa using Nat.le_of_not_lt ht),Array.getElem?_append_right (by omega),hlen']
       simp only [List.length_map]
       by_cases h2:q- (enc x).length<fn.ntmps- ((enc x).length+1)
       ·rw [List.getElem?_replicate,if_pos h2,Array.getElem?_replicate,if_pos (by omega)]
        exact Rd.val _
       ·rw [List.getElem?_replicate,if_neg h2]
        trivial
    have hnovar: ∀s0,(zFl fn.ntmps s t xs (enc x)).var s0=none:=by
     intro s0
     simp only [zFl,Env.var,List.getElem?_replicate]
     split<;>rfl
    have hl:xs≠[]→O0.l=some (b,cap*t.size):=fun hh=>by simp [O0,hh]
    have hinv:Inv Γ G w F O0 { tmps:=args++Array.replicate (fn.ntmps-args.size) undef,defers:=[] } w (zFl fn.ntmps s t xs (enc x)):=by
     refine Inv.of (F:=F) (O:=O) (β:=β) (al:=al) ⟨zBx.refl _ w,hsig,fun b hb=> .inl hb,fun b hb=>⟨.inl hb,hF b hb⟩,fun b hb=>hb,?_,?_,?_⟩ hG ?_ rfl hget ?_ ?_
     ·rintro q ⟨rfl,hne⟩
      exact ⟨.inr ⟨rfl,_,hl hne⟩,hb0 hne⟩
     ·rintro q q' ⟨rfl,_⟩ ⟨rfl,_⟩ _;rfl
     ·intro b' n hb'
      by_cases hx0:xs=[]
      ·simp [O0,hx0] at hb'
      ·rw [hl hx0] at hb'
       simp only [Option.some.injEq,Prod.mk.injEq] at hb'
       obtain ⟨rfl,rfl⟩:=hb'
       obtain ⟨_,_,c,et,fl,h1,h2⟩:=hcap hx0
       exact ⟨(hb0 hx0).1,(hb0 hx0).2.2,(hb0 hx0).2.1,c,et,fl,h1,h2⟩
     ·simp [zFl,zIL,hlen'];omega
     ·intro s0 cs hcs;rw [hnovar] at hcs;cases hcs
     ·rintro s0 ⟨hh,_⟩;cases hh
    refine wp_mono (hok w F O0 _ w hinv) ?_
    rintro ex a' w' ⟨rfl,hi'⟩
    have hdf:a'.defers=[]:=by obtain ⟨_,_,_,_,_,_,hdf,_⟩:=hi';exact hdf
    have hpd: ∃d0,rv= .p d0:=by
     cases rv with
     |p d0=>exact ⟨d0,rfl⟩
     |own es=>cases R<;>simp [RTy.getP] at hy'
     |ownT t0 xs0=>cases R<;>simp [RTy.getP] at hy'
    obtain ⟨d0,rfl⟩:=hpd
    obtain ⟨v,F1,h1,h2⟩:=zPZ hi' hrv
    have h3:=zNS hy' h2
    obtain ⟨u,hu⟩:=zQy hpl hno y'
    obtain ⟨F',O',β',hc',hG',hsz',_,ht',hv'⟩:=hi'
    have hrow:=ht' 0
    have hkeep:zBx (fun c=>O c∨(xs≠[]∧c=b)) w w':=by
     refine ⟨hc'.keep.os,hc'.keep.tape,hc'.keep.output,hc'.keep.size,fun c hc ho=>hc'.keep.block c hc ?_,hc'.keep.drawn⟩
     rintro (hh|⟨n,hh⟩)
     ·exact ho (.inl hh)
     ·by_cases hx0:xs=[]
      ·simp [O0,hx0] at hh
      ·rw [hl hx0] at hh
       simp only [Option.some.injEq,Prod.mk.injEq] at hh
       exact ho (.inr ⟨hx0,hh.1.symm⟩)
    have hrow':zJS w' F' ⟨fun _=>b,fun _=>b⟩ (fun _=>True) v0 0 t.size (ys'.map t.enc):=by
     unfold zNO at hys
     split at hys
     ·rename_i id t' zs hg
      split at hys
      ·rename_i hid
       have hid:=Nat.eq_of_beq_eq_true hid
       subst hid
       obtain ⟨htt,hz⟩:=zAe (zAA hys)
       subst htt
       subst hz
       rw [hg] at hrow
       by_cases hx0:xs=[]
       ·subst hx0
        have hz:zs=[]:=List.eq_nil_of_length_eq_zero hlen0
        subst hz
        rcases hown with ⟨_,h2⟩|⟨h1,_⟩
        ·exact .inl ⟨rfl,h2⟩
        ·exact absurd rfl h1
       ·have hne:zs≠[]:=fun hh=>hx0 (List.eq_nil_of_length_eq_zero (by rw [←hlen0,hh];rfl))
        rcases hrow with ⟨h1,_⟩|⟨h1,hal,cap',_,c1,et1,q1,q2,q3,q4,q5⟩
        ·exact absurd (by simpa using h1) hne
        ·rcases (hc'.place _ hal).1 with ⟨hh,_⟩|⟨_,n,hh⟩
         ·exact absurd rfl hh
         ·rw [hl hx0] at hh
          simp only [Option.some.injEq,Prod.mk.injEq] at hh
          have hbb:β'.ob qA=b:=hh.1.symm
          rw [hbb] at q1
          obtain ⟨_,_,_,c2,et2,fl2,k1,k2⟩:=hc'.lent b _ (hl hx0)
          rw [q1] at k1
          simp only [Option.some.injEq,Obj.cells.injEq] at k1
          obtain ⟨rfl,_,_⟩:=k1
          obtain ⟨hv0,hle,_⟩:=hcap hx0
          refine .inr ⟨h1,trivial,cap,by rw [hv0];simp [hlen0],c1,et1,q1,k2,by rw [List.length_map,hlen0];exact hle,q4,q5⟩
      ·cases hys
     ·cases hys
    have hst:e'.st=s:=Subsingleton.elim _ _
    rcases hk with rfl|rfl
    ·exact ⟨hdf,v,h1,v,F',O',rfl,by rw [←hst];exact hc'.sig,hkeep,hc'.oin,hc'.f0,hc'.fin,zF2.of hrow' (h3.of_flat hu)⟩
    ·exact ⟨hdf,v,h1,v,F',O',rfl,by rw [←hst];exact hc'.sig,hkeep,hc'.oin,hc'.f0,hc'.fin,zF2.of hrow' (h3.of_flat hu)⟩
   ·cases hend
  ·cases hend
 ·cases hend
theorem zRS: ∀ (ts:List ATy) (ds:List V) (x:ElA ts),zIl ts ds=some x→zCV ds=none
 |_,[],_,_=>rfl
 |[],_::_,_,h=>by simp [zIl] at h
 |t::ts,d::ds,x,h=>by
  refine zDV ?_
  rintro r hr
  simp only [List.cons.injEq] at hr
  obtain ⟨rfl,_⟩:=hr
  have hb:t.dec .bot=none:=by
   cases t with
   |d ty=>cases ty<;>rfl
   |pp ty=>rfl
   |clo f caps=>rfl
  simp only [zIl,hb] at h
  cases h
end
end Go.Ve

namespace Go.Ve
open Go
abbrev HSt (t:Ty):=List (Option (List t.El))
section
variable {t:Ty} {P:Program}
end
end Go.Ve

namespace Go.Ve
open Go
section
variable {Γ:Sig} {P:Program} {G:Nat→Option (List V)}
noncomputable def zSS (L:qK) (G:Nat→Option (List V)) (S:zL Γ) (A:Nat→Option JA) (fn:Func) (c:Code) (R:RTy) (s:Γ.St) (ds:List V):Option (Γ.St×R.El):=
 zBm (start fn.ntmps s ds) (fun e=>exC L G S A c (Γ.St×R.El) (fun k e1 _=>match k with
  | .exit _=>none
  |_=>match zFb L e1 fn with
   |some r=>match R.get r with
    |some y=>some (e1.st,y)
    |none=>none
   |none=>none) e 0)
def uQ {X:Type} (dec:List V→Option X) (R:RTy) (g:Γ.St→X→Option (Γ.St×R.El)):Γ.St→List V→Option (zCG Γ.St):=fun s ds=>
 match dec ds with
 |some x=>some ⟨Γ.St×R.El,g s x,fun y=>y.1,fun y=>R.res y.2,R.pl⟩
 |none=>none
theorem zMH {S:zL Γ} {A:Nat→Option JA} (hst: ∀k j,A k=some j→zCw j.sl=true) (hmix:P.follows .mixedOrders=true) (hS:zZ Γ P G S.toS) {f:FuncId} {fn:Func} {c:Code} (hf:P.funcs[f]? =some fn) (hb:fn.body=some c)
  {X:Type} {dec:List V→Option X} {enc:X→List V} (hdec: ∀ds x,dec ds=some x→jQ ds (enc x)) {R:RTy} {g:Γ.St→X→Option (Γ.St×R.El)} (h: ∀s x,zSS (Γ:=Γ) P G S A fn c R s (enc x)=g s x):kP Γ P G f (z8 (uQ dec R g)):=by
 intro w F O s args ds s' r hsig hG hF hlen hrd hspec
 simp only [z8,uQ] at hspec
 split at hspec
 ·rename_i cx hcx
  split at hcx
  ·rename_i x hx
   simp only [Option.some.injEq] at hcx
   subst hcx
   simp only [Option.map_eq_some_iff] at hspec
   obtain ⟨⟨s1,y⟩,hy,hsr⟩:=hspec
   simp only [Prod.mk.injEq] at hsr
   obtain ⟨rfl,rfl⟩:=hsr
   have hwk:=hdec ds x hx
   have hlen':args.size=(enc x).length:=hlen.trans hwk.len
   have hrd': ∀ (i:Nat) (u:Value) (d:V),args[i]? =some u→(enc x)[i]? =some d→Rd w F u d:=by
    intro i u d hu hd
    have hlt:i<ds.length:=by rw [hwk.len];exact (List.getElem?_eq_some_iff.1 hd).1
    exact hwk.get i ds[i] d (by simp [hlt]) hd w F u (hrd i u ds[i] hu (by simp [hlt]))
   have hex:=h s x
   rw [hy] at hex
   unfold zSS at hex
   rw [vP] at hex
   obtain ⟨k,e',d,hok,_,hend⟩:=zHw (fun k j hj=> .inr (hst k j hj)) hmix hS c _ _ _ _ _ hex
   have hk:(k= .normal∨k= .ret)∧(match zFb (qK.of P) e' fn with
    |some r=>match R.get r with
     |some y=>some (e'.st,y)
     |none=>none
    |none=>none)=some (s1,y):=by
    cases k with
    |normal=>exact ⟨.inl rfl,hend⟩
    |ret=>exact ⟨.inr rfl,hend⟩
    |exit id=>cases hend
   obtain ⟨hk,hend⟩:=hk
   split at hend
   ·rename_i r' hr'
    split at hend
    ·rename_i y' hy'
     simp only [Option.some.injEq,Prod.mk.injEq] at hend
     obtain ⟨rfl,rfl⟩:=hend
     refine calls_of_wp hf hb ?_
     have hget: ∀t,zE w F ⟨fun _=>0,fun _=>0⟩ (fun _=>False) ((args++Array.replicate (fn.ntmps-args.size) undef).getD t undef) ((start fn.ntmps s (enc x)).get t):=by
      intro t
      simp only [start,zGc,Env.get,List.getD_eq_getElem?_getD,Array.getD_eq_getD_getElem?]
      by_cases ht:t< (enc x).length
      ·rw [List.getElem?_append_left (by simpa using ht),Array.getElem?_append_left (by omega)]
       rw [List.getElem?_map,List.getElem?_eq_getElem ht,Array.getElem?_eq_getElem (by omega)]
       exact hrd' t _ _ (by simp [show t<args.size by omega]) (by simp [ht])
      ·rw [List.getElem?_append_right (by simpa using Nat.le_of_not_lt ht),Array.getElem?_append_right (by omega),hlen']
       simp only [List.length_map]
       by_cases h2:t- (enc x).length<fn.ntmps- (enc x).length
       ·rw [List.getElem?_replicate,if_pos h2,Array.getElem?_replicate,if_pos h2]
        exact Rd.val _
       ·rw [List.getElem?_replicate,if_neg h2]
        trivial
     have hnovar: ∀s0,(start fn.ntmps s (enc x)).var s0=none:=by
      intro s0
      simp only [start,Env.var,List.getElem?_replicate]
      split<;>rfl
     have hinv:Inv Γ G w F O { tmps:=args++Array.replicate (fn.ntmps-args.size) undef,defers:=[] } w (start fn.ntmps s (enc x)):=by
      refine Inv.of (F:=F) (O:=O) (β:=⟨fun _=>0,fun _=>0⟩) (al:=fun _=>False) ⟨zBx.refl _ w,hsig,fun b hb=> .inl hb,fun b hb=>⟨.inl hb,hF b hb⟩,fun b hb=>hb,fun x hx=>hx.elim,fun x y hx=>hx.elim,fun b n h=>by cases h⟩ hG ?_ rfl hget ?_ (fun s h=>h.elim)
      ·simp [start,zGc,hlen']
      ·intro s0 cs hcs;rw [hnovar] at hcs;cases hcs
     refine wp_mono (hok w F O _ w hinv) ?_
     rintro ex a' w' ⟨rfl,hi'⟩
     obtain ⟨v,F',O',h1,h2,h3,h4,h5,h6,h7⟩:=zKK rfl hi' hr'
     have hdf:a'.defers=[]:=by obtain ⟨_,_,_,_,_,_,hdf,_⟩:=hi';exact hdf
     obtain ⟨F'',g1,gh,g2,g3⟩:=RTy.get_sound hy' h7
     have h2:=Γ.mono h2 gh (fun _ _=>rfl)
     have hF'': ∀b:Nat,F'' b→(F b∨w.heap.size≤b)∧b<w'.heap.size∧ ¬O' b:=by
      intro b hb
      rcases g2 b hb with hb|⟨h1,h2,h3⟩
      ·exact h6 b hb
      ·exact ⟨.inr h1,h2,h3⟩
     rcases hk with rfl|rfl
     ·exact ⟨hdf,v,h1,v,F'',O',rfl,h2,h3,h4,fun b hb=>g1 b (h5 b hb),hF'',g3⟩
     ·exact ⟨hdf,v,h1,v,F'',O',rfl,h2,h3,h4,fun b hb=>g1 b (h5 b hb),hF'',g3⟩
    ·cases hend
   ·cases hend
  ·cases hcx
 ·cases hspec
end
def Ty.norf:Ty→Bool
 | .rf=>false
 | .hd=>false
 | .pair a b=>a.norf&&b.norf
 | .sl t=>t.norf
 |_=>true
theorem zCU {w:World} {F F':Blk→Prop} (hF: ∀b:Nat,F b→F' b): ∀ (t:Ty) (_:t.norf=true) (x:t.El) (v:Value) (d:V),d∈t.cells x→Rd w F v d→Rd w F' v d:=by
 intro t
 induction t with
 |int k=>intro _ x v d hd h;simp only [Ty.cells,List.mem_singleton] at hd;subst hd;rw [Rd.eq_val h];exact .val _
 |bool=>intro _ x v d hd h;simp only [Ty.cells,List.mem_singleton] at hd;subst hd;rw [Rd.eq_val h];exact .val _
 |str=>intro _ x v d hd h;simp only [Ty.cells,List.mem_singleton] at hd;subst hd;rw [Rd.eq_val h];exact .val _
 |unit=>intro _ x v d hd h;simp [Ty.cells] at hd
 |rf=>intro hn;simp [Ty.norf] at hn
 |hd=>intro hn;simp [Ty.norf] at hn
 |pair a b iha ihb=>
  intro hn x v d hd h
  simp only [Ty.norf,Bool.and_eq_true] at hn
  simp only [Ty.cells,List.mem_append] at hd
  rcases hd with hd|hd
  ·exact iha hn.1 x.1 v d hd h
  ·exact ihb hn.2 x.2 v d hd h
 |sl t ih=>
  intro hn x v d hd h
  simp only [Ty.cells,List.mem_singleton] at hd
  subst hd
  refine .tl t x v ?_
  have h:=h.untl
  generalize hes:x.map t.enc=es at h
  cases h with
  |slemp a cap=>exact .slemp a cap
  |sl b off cap k _ g hFb hcap hk hg hr=>
   refine .sl b off cap k es g (hF b hFb) hcap hk hg ?_
   intro i j e d' hi hj
   have hi0:=hi
   rw [←hes] at hi0
   simp only [List.getElem?_map,Option.map_eq_some_iff] at hi0
   obtain ⟨y,_,rfl⟩:=hi0
   exact ih hn y _ d' (by rw [←wG];exact List.mem_of_getElem? hj) (hr i j _ d' hi hj)
theorem zOQ {w:World} {F F':Blk→Prop} (hF: ∀b:Nat,F b→F' b) {t:Ty} (hn:t.norf=true) {x:t.El} {v:Value} (h:Rd w F v (t.enc x)):Rd w F' v (t.enc x):=by
 cases t with
 |int k=>rw [Rd.eq_val h];exact .val _
 |bool=>rw [Rd.eq_val h];exact .val _
 |str=>rw [Rd.eq_val h];exact .val _
 |rf=>simp [Ty.norf] at hn
 |hd=>simp [Ty.norf] at hn
 |unit=>
  cases h with
  |agg cs _ hl hh=>exact .agg cs _ hl (fun i x d hi hd=>by simp at hd)
 |pair a b=>
  cases h with
  |agg cs _ hl hh=>exact .agg cs _ hl (fun i u d hi hd=>zCU hF (.pair a b) hn x u d (List.mem_of_getElem? hd) (hh i u d hi hd))
 |sl t=>exact zCU hF (.sl t) hn x v _ (by simp [Ty.cells,Ty.enc]) h
theorem zQS {w:World} {F F':Blk→Prop} (hF: ∀b:Nat,F b→F' b) {t:Ty} (hn:t.norf=true) {b k cap:Nat} {xs:List t.El} (hr:zW w F b k cap (xs.map t.enc)):zW w F' b k cap (xs.map t.enc):=by
 obtain ⟨c,et,h1,h2,h3,h4,h5⟩:=hr
 refine ⟨c,et,h1,h2,h3,h4,fun i j e d x a1 a2 a3=> ?_⟩
 have a0:=a1
 simp only [List.getElem?_map,Option.map_eq_some_iff] at a0
 obtain ⟨y,hy,rfl⟩:=a0
 exact zCU hF t hn y x d (by rw [←wG];exact List.mem_of_getElem? a2) (h5 i j (t.enc y) d x a1 a2 a3)
def RTy.norf:RTy→Bool
 | .p ty=>ty.norf
 | .o ty=>ty.norf
 | .tu tys=>tys.all Ty.norf
theorem zEN {w:World} {F F':Blk→Prop} (hF: ∀b:Nat,F b→F' b): ∀ (ts:List Ty) (x:ElS ts),ts.all Ty.norf=true→ ∀ (i:Nat) (v:Value) (d:V),(encS ts x)[i]? =some d→Rd w F v d→Rd w F' v d
 |[],_,_,i,v,d,hd,_=>by simp [encS] at hd
 |t::ts,x,hn,i,v,d,hd,h=>by
  simp only [List.all_cons,Bool.and_eq_true] at hn
  cases i with
  |zero=>simp only [encS,List.getElem?_cons_zero,Option.some.injEq] at hd;subst hd;exact zOQ hF hn.1 h
  |succ i=>exact zEN hF ts x.2 hn.2 i v d (by simpa [encS] using hd) h
theorem zQV {N:Nat} {w:World} {F F':Blk→Prop} {O O':Nat→Prop} (hF: ∀b:Nat,F b→F' b) (hF': ∀b:Nat,N≤b→F' b→F b) (hO: ∀b,N≤b→O' b→O b) {R:RTy} (hn:R.norf=true) {y:R.El} {v:Value} (h:uX N w F O v (R.res y)):uX N w F' O' v (R.res y):=by
 cases R with
 |p ty=>exact zOQ (t:=ty) hF hn h
 |o ty=>
  rcases h with h|⟨h0,b,cap,h1,h2,h3,h4,h5,k,h6⟩
  ·exact .inl h
  ·exact .inr ⟨h0,b,cap,h1,h2,h3,fun hh=>h4 (hF' b h2 hh),fun hh=>h5 (hO b h2 hh),k,zQS (t:=ty) hF hn h6⟩
 |tu tys=>
  have h:Rd w F v (.tup (encS tys y)):=h
  cases h with
  |tup cs _ hl hh=>exact .tup cs _ hl (fun i u d hi hd=>zEN hF tys y hn i u d hd (hh i u d hi hd))
theorem zKG {Γ:Sig} {P:Program} {G:Nat→Option (List V)} {f:FuncId} {X:Type} {dec:List V→Option X} {R:RTy} {g:X→Option R.El} (hn:R.norf=true)
  (h:kP zAl P G f (z8 (zBk dec R g))):kP Γ P G f (z8 (zBk dec R g)):=by
 intro w F O s args ds s' r hsig hG hF hlen hrd hspec
 simp only [z8,zBk] at hspec
 cases hx:dec ds with
 |none=>rw [hx] at hspec;cases hspec
 |some x=>
  rw [hx] at hspec
  simp only [Option.map_eq_some_iff,Prod.mk.injEq] at hspec
  obtain ⟨y,hy,rfl,rfl⟩:=hspec
  have hcall:=h w F (fun _=>False) () args ds () (R.res y) (fun _ h=>h) hG (fun b hb=>⟨(hF b hb).1,fun h=>h⟩) hlen hrd (by simp only [z8,zBk,hx,hy,Option.map_some])
  refine hcall.mono ?_
  rintro e w' ⟨v,F',O',rfl,g1,g2,g3,g4,g5,g6⟩
  let F'':Blk→Prop:=fun b=>match b with
   | .b n=>F' (.b n)
   | .h id a n c=>F (.h id a n c)
  have hkb: ∀b,O b→w'.heap[b]? =w.heap[b]? :=fun b hb=>g2.block b (Γ.inb hsig b hb) (fun h=>h)
  refine ⟨v,F'',O,rfl,Γ.mono hsig (fun _ _ _ _=>Iff.rfl) hkb,⟨g2.os,g2.tape,g2.output,g2.size,fun b hb _=>g2.block b hb (fun h=>h),g2.drawn⟩,fun b hb=> .inl hb,?_,?_,?_⟩
  ·intro b hb
   cases b with
   |b n=>exact g4 _ hb
   |h _ _ _ _=>exact hb
  ·intro b hb
   obtain ⟨h1,h2,_⟩:=g5 b hb
   refine ⟨h1,h2,fun ho=> ?_⟩
   rcases h1 with h1|h1
   ·exact (hF b h1).2 ho
   ·have:=Γ.inb hsig b ho;omega
  ·exact zQV (F:=F') (F':=F'') (fun b hb=>hb) (fun b _ hb=>hb) (fun b hb ho=>by have:=Γ.inb hsig b ho;omega) hn g6
section
variable {tE:Ty} {st:HSt tE} {F F':Blk→Prop} {O:Nat→Prop} {w:World} {hb hc:Nat→Nat}
end
end Go.Ve

namespace Go.Ve
open Go
theorem zB1: ∀ (t:Ty) (x:t.El) (r:List V),t.uncells (t.cells x++r)=some (x,r)
 | .int k,x,r=>by simp [Ty.cells,Ty.uncells,zEt]
 | .bool,x,r=>by simp [Ty.cells,Ty.uncells,zCi]
 | .str,x,r=>by simp [Ty.cells,Ty.uncells,zEs]
 | .unit,x,r=>by simp [Ty.cells,Ty.uncells]
 | .rf,x,r=>by simp [Ty.cells,Ty.uncells,zG5]
 | .hd,x,r=>by simp [Ty.cells,Ty.uncells,zG6]
 | .sl t,x,r=>by simp [Ty.cells,Ty.uncells,zG4]
 | .pair a b,x,r=>by
  simp only [Ty.cells,Ty.uncells,List.append_assoc]
  rw [zB1 a x.1]
  simp only
  rw [zB1 b x.2]
theorem zSX (t:Ty) (x:t.El):t.dec (t.enc x)=some x:=by
 cases t with
 |int k=>simp [Ty.enc,Ty.dec,zEt]
 |bool=>simp [Ty.enc,Ty.dec,zCi]
 |str=>simp [Ty.enc,Ty.dec,zEs]
 |unit=>rfl
 |rf=>simp [Ty.enc,Ty.dec,zG5]
 |hd=>simp [Ty.enc,Ty.dec,zG6]
 |sl t=>simp [Ty.enc,Ty.dec,zG4]
 |pair a b=>
  have:=zB1 (.pair a b) x []
  simp only [List.append_nil] at this
  simp only [Ty.enc,Ty.dec]
  simp only [Ty.cells] at this
  rw [this]
theorem zEi: ∀ (ts:List Ty) (x:ElS ts),yY ts (encS ts x)=some x
 |[],_=>rfl
 |t::ts,x=>by
  simp only [encS,yY,zSX,zEi ts]
section
variable {tE:Ty} {st:HSt tE} {F F':Blk→Prop} {O:Nat→Prop} {w:World} {hb hc:Nat→Nat}
end
end Go.Ve

namespace Go.Ve
open Go
@[reducible] def Ty.st:List Ty→Ty
 |[]=> .unit
 |t::ts=> .pair t (Ty.st ts)
abbrev tI:Ty:= .int .i64
abbrev tU:Ty:= .int .u32
abbrev zI:Ty:= .st [tU,tI]
abbrev zAF:Ty:= .st [tI,tU]
abbrev wU:Ty:= .st [.str,tU,tI,tI, .bool, .bool,tI,tI, .bool, .str, .str,tI]
abbrev zQC:Ty:= .st [.bool,zI,tI,tI]
abbrev zCO:Ty:= .st [.str, .sl zQC]
abbrev zGb:Ty:= .st [.bool, .str,tI,tI,tI,tI,tI]
abbrev zGa:Ty:= .st [.str, .sl zGb]
abbrev zCj:Ty:= .st [tU,tU]
abbrev zBj:Ty:= .st [tI,tI]
abbrev qY:Ty:= .st [.bool,tI,zCj,zCj,zBj,zBj]
abbrev uE:Ty:= .st [.str, .sl qY]
abbrev zQD:Ty:= .st [tI,tU,tU,tI,tI,tI, .str,tU,tU]
abbrev zCN:Ty:= .st [zI,tU, .str, .bool,tI,tI]
abbrev zAY:Ty:= .st [tI,tI,tI, .str,tI]
abbrev zIo:Ty:= .st [tI,zI]
abbrev tLS:Ty:= .st [.bool,tI, .sl zIo, .sl zAY]
abbrev tDV:Ty:= .st [.bool,tI, .str, .str, .sl zAY]
abbrev zEu:Ty:= .st [tU,tI, .str, .str]
abbrev zCQ:Ty:= .st [zI, .bool]
abbrev zCP:Ty:= .st [zI,zI, .bool]
abbrev tPV:Ty:= .st [.bool,tI,tI, .sl zEu, .sl zI, .sl zCQ, .sl zCP, .sl zAY]
abbrev zD:Ty:= .st [.str,tI, .sl wU, .sl zCO, .sl zGa, .sl uE, .sl zQD, .sl zCN,tLS,tDV,tPV]
abbrev qM:Ty:= .st [tU,tU,tI,tI,tI]
abbrev zH:Ty:= .st [zI, .sl zAF, .bool]
end Go.Ve

namespace Go.Ve
open Go
def Wp {α:Type} (m:Option α) (Q:α→Prop):Prop:= ∃r,m=some r∧Q r
section
variable {α β ρ σ:Type}
theorem Wp.mono {m:Option α} {Q Q':α→Prop} (h:Wp m Q) (hq: ∀r,Q r→Q' r):Wp m Q':=by
 obtain ⟨r,h1,h2⟩:=h;exact ⟨r,h1,hq r h2⟩
theorem zA {x:α} {Q:α→Prop} (h:Q x):Wp (some x) Q:=⟨x,rfl,h⟩
theorem zB {m:Option α} {f:α→Option β} {Q:β→Prop} (h:Wp m (fun y=>Wp (f y) Q)):Wp (Option.bind m f) Q:=by
 obtain ⟨y,rfl,h⟩:=h;exact h
theorem zG {c:Bool} {x y:Option α} {Q:α→Prop} (h1:c=true→Wp x Q) (h2:c=false→Wp y Q):Wp (bif c then x else y) Q:=by
 cases c
 ·exact h2 rfl
 ·exact h1 rfl
def zAr (P:σ→Prop) (Q:ρ→Prop):σ ⊕ ρ→Prop
 | .inl s=>P s
 | .inr r=>Q r
theorem e2l {P:σ→Prop} {Q:ρ→Prop} {s:σ} (h:P s):zAr P Q (.inl s):=h
theorem e2r {P:σ→Prop} {Q:ρ→Prop} {r:ρ} (h:Q r):zAr P Q (.inr r):=h
theorem qG {m:Option (σ ⊕ ρ)} {K:σ→Option ρ} {Q:ρ→Prop} (h:Wp m (zAr (fun s=>Wp (K s) Q) Q)):Wp (kI m K) Q:=by
 obtain ⟨o,rfl,h⟩:=h
 cases o with
 |inl s=>exact h
 |inr r=>exact ⟨r,rfl,h⟩
theorem wp_loop {f:σ→Option (σ ⊕ ρ)} {Q:ρ→Prop} (J:σ→Prop) (m:σ→Nat) {s0:σ} (h0:J s0)
  (step: ∀s,J s→Wp (f s) (zAr (fun s'=>J s'∧m s'<m s) Q)):Wp (zM f s0) Q:=by
 refine zPF J m Q ?_ h0
 intro s hs
 obtain ⟨o,h1,h2⟩:=step s hs
 refine ⟨o,h1,?_⟩
 cases o with
 |inl s'=>exact h2
 |inr r=>exact h2
theorem jM {n s0:Int} {body els:Int→Option (Int ⊕ ρ)} {Q:ρ→Prop}
  (step: ∀s,s0≤s→s<n→Wp (body s) (zAr (fun s'=>s'=s+1) Q))
  (fin: ∀s,s0≤s→n≤s→Wp (els s) (zAr (fun _=>False) Q)):Wp (zM (fun s=>bif decide (s<n) then body s else els s) s0) Q:=by
 refine wp_loop (fun s=>s0≤s) (fun s=>(n-s).toNat) (Int.le_refl _) ?_
 intro s hs
 refine zG ?_ ?_
 ·intro hc
  have hc:s<n:=by simpa using hc
  refine (step s hs hc).mono ?_
  intro o ho
  cases o with
  |inl s'=>have:s'=s+1:=ho;subst this;exact ⟨by omega,by omega⟩
  |inr r=>exact ho
 ·intro hc
  have hc:n≤s:=by simpa using hc
  refine (fin s hs hc).mono ?_
  intro o ho
  cases o with
  |inl s'=>exact ho.elim
  |inr r=>exact ho
theorem jD {xs:List α} {i:Int} {Q:α→Prop} (h0:0≤i) (h1:i<xs.length) (h: ∀y,y∈xs→xs[i.toNat]? =some y→Q y):Wp (idx xs i) Q:=by
 unfold idx
 rw [if_pos h0]
 have hl:i.toNat<xs.length:=by omega
 exact ⟨xs[i.toNat],by simp [hl],h _ (List.getElem_mem hl) (by simp [hl])⟩
theorem zQ {s:ByteArray} {i:Int} {Q:Int→Prop} (h0:0≤i) (h1:i<s.size) (h: ∀y,0≤y→y<256→Q y):Wp (byteAt s i) Q:=by
 unfold byteAt
 rw [if_pos h0]
 have hl:i.toNat<s.size:=by omega
 refine ⟨(s[i.toNat].toNat:Int),by simp [hl],h _ (by omega) ?_⟩
 have:=s[i.toNat].toNat_lt
 omega
end
theorem wrap_i64 {x:Int} (h0: -9223372036854775808≤x) (h1:x<9223372036854775808):IntKind.wrap .i64 x=x:=by
 have e1:((2:Int)^IntKind.bits .i64)=18446744073709551616:=by decide
 have e2:((2:Int)^(IntKind.bits .i64-1))=9223372036854775808:=by decide
 simp only [IntKind.wrap,IntKind.signed,Bool.true_and,decide_eq_true_eq,e1,e2]
 split<;>omega
theorem zJ {α:Type} {p:Prop} [Decidable p] {x y:Option α} {Q:α→Prop} (h1:p→Wp x Q) (h2: ¬p→Wp y Q):Wp (bif decide p then x else y) Q:=by
 by_cases h:p
 ·simp only [h,decide_true,cond_true];exact h1 h
 ·simp only [h,decide_false,cond_false];exact h2 h
end Go.Ve

namespace Go.Ve
open Go
theorem wR {α:Type} {xs:List α} {i:Nat} {x:α} (h:xs[i]? =some x):idx xs (i:Int)=some x:=by
 rw [idx,if_pos (by omega),Int.toNat_natCast];exact h
theorem jR {α:Type} {m:Option α} {x:α} {Q:α→Prop} (h:m=some x) (hq:Q x):Wp m Q:=⟨x,h,hq⟩
section
variable {α γ ρ:Type}
theorem zOD {xs:List α} {g0:γ} {body:Int×γ→Option γ} {Q:γ→Prop} (hl:xs.length<4611686018427387904) (J:Nat→γ→Prop) (h0:J 0 g0)
  (step: ∀i x g,xs[i]? =some x→J i g→Wp (body ((i:Int),g)) (J (i+1))) (fin: ∀g,J xs.length g→Q g):
  Wp (zM (fun s:Int×γ=>bif decide (s.1< (xs.length:Int)) then Option.bind (body s) (fun g=>some (Sum.inl (IntKind.wrap IntKind.i64 (s.1+(1:Int)),g))) else some (Sum.inr s.2)) ((0:Int),g0)) Q:=by
 refine wp_loop (fun (s:Int×γ)=> ∃i:Nat,s.1=(i:Int)∧i≤xs.length∧J i s.2) (fun (s:Int×γ)=>((xs.length:Int) -s.1).toNat) ⟨(0:Nat),rfl,Nat.zero_le _,h0⟩ ?_
 rintro ⟨s,g⟩ ⟨i,hi,hle,hj⟩
 simp only at hi
 subst hi
 refine zJ ?_ ?_
 ·intro hc
  have hlt:i<xs.length:=by simp only at hc;omega
  refine zB ((step i xs[i] g (by simp [hlt]) hj).mono ?_)
  intro g' hg'
  refine zA ?_
  refine e2l ⟨⟨i+1,?_,hlt,hg'⟩,?_⟩
  ·simp only;rw [wrap_i64 (by omega) (by omega)];omega
  ·simp only;rw [wrap_i64 (by omega) (by omega)];omega
 ·intro hc
  have:i=xs.length:=by simp only at hc;omega
  subst this
  exact zA (e2r (fin _ hj))
theorem zKT {xs:List α} {body:Int→Option (Int ⊕ (Unit ⊕ ρ))} {K:Unit→Option ρ} {Q:ρ→Prop} (hl:xs.length<4611686018427387904) (J:Nat→Prop) (h0:J 0)
  (step: ∀i x,xs[i]? =some x→J i→Wp (body (i:Int)) (zAr (fun s'=>s'=IntKind.wrap IntKind.i64 ((i:Int)+1)∧J (i+1)) (zAr (fun _=>False) Q))) (fin:J xs.length→Wp (K ()) Q):
  Wp (kI (zM (fun s:Int=>bif decide (s< (xs.length:Int)) then body s else some (Sum.inr (Sum.inl ()))) (0:Int)) K) Q:=by
 refine qG ?_
 refine wp_loop (fun (s:Int)=> ∃i:Nat,s=(i:Int)∧i≤xs.length∧J i) (fun (s:Int)=>((xs.length:Int) -s).toNat) ⟨(0:Nat),rfl,Nat.zero_le _,h0⟩ ?_
 rintro s ⟨i,hi,hle,hj⟩
 subst hi
 refine zJ ?_ ?_
 ·intro hc
  have hlt:i<xs.length:=by omega
  refine (step i xs[i] (by simp [hlt]) hj).mono ?_
  intro o ho
  cases o with
  |inl s'=>
   obtain ⟨rfl,h2⟩:=ho
   rw [wrap_i64 (by omega) (by omega)]
   exact ⟨⟨i+1,by omega,hlt,h2⟩,by omega⟩
  |inr o=>
   cases o with
   |inl _=>exact ho.elim
   |inr r=>exact ho
 ·intro hc
  have:i=xs.length:=by omega
  subst this
  exact zA (e2r (fin hj))
end
def zA5 {α:Type} (p:α→Bool) (xs:List α):Int:=
 match xs.findIdx? p with
 |some i=>i
 |none=> -1
theorem zPU {α:Type} {p:α→Bool} {xs:List α} (h: ∀x,x∈xs→p x=false):zA5 p xs= -1:=by
 have:xs.findIdx? p=none:=by rw [List.findIdx?_eq_none_iff];exact h
 simp [zA5,this]
theorem zSR {α:Type} {p:α→Bool} {xs:List α} {i:Nat} {x:α} (h:xs[i]? =some x) (hp:p x=true) (hn: ∀j y,j<i→xs[j]? =some y→p y=false):zA5 p xs=i:=by
 have hlt:=(List.getElem?_eq_some_iff.1 h).1
 have hx:=(List.getElem?_eq_some_iff.1 h).2
 have:xs.findIdx? p=some i:=by
  rw [List.findIdx?_eq_some_iff_getElem]
  refine ⟨hlt,by rw [hx];exact hp,?_⟩
  intro j hj
  have:=hn j xs[j] hj (by simp)
  simp [this]
 simp [zA5,this]
theorem zAf {α:Type} (p:α→Bool) (xs:List α):(zA5 p xs= -1∧ ∀x,x∈xs→p x=false)∨ ∃i x,zA5 p xs=(i:Nat)∧xs[i]? =some x∧p x=true∧ ∀j y,j<i→xs[j]? =some y→p y=false:=by
 cases h:xs.findIdx? p with
 |none=>left;refine ⟨by simp [zA5,h],?_⟩;rw [List.findIdx?_eq_none_iff] at h;exact h
 |some i=>
  right
  rw [List.findIdx?_eq_some_iff_getElem] at h
  obtain ⟨h1,h2,h3⟩:=h
  have h':xs.findIdx? p=some i:=by rw [List.findIdx?_eq_some_iff_getElem];exact ⟨h1,h2,h3⟩
  refine ⟨i,xs[i],by simp [zA5,h'],by simp [h1],h2,?_⟩
  intro j y hj hy
  obtain ⟨hjl,rfl⟩:=List.getElem?_eq_some_iff.1 hy
  have:=h3 j hj
  simpa using this
theorem zEp {α:Type} {xs:List α} {p:α→Bool} {body:Int→Option (Int ⊕ (Unit ⊕ Int))} {Q:Int→Prop} (hl:xs.length<4611686018427387904)
  (step: ∀ (i:Nat) x,xs[i]? =some x→body (i:Int)=some (bif p x then Sum.inr (Sum.inr (i:Int)) else Sum.inl (IntKind.wrap IntKind.i64 ((i:Int)+1)))) (fin:Q (zA5 p xs)):
  Wp (kI (zM (fun s:Int=>bif decide (s< (xs.length:Int)) then body s else some (Sum.inr (Sum.inl ()))) (0:Int)) (fun _=>some (-1:Int))) Q:=by
 refine zKT hl (fun i=> ∀j y,j<i→xs[j]? =some y→p y=false) (fun j y hj=>by omega) ?_ ?_
 ·intro i x hx hj
  refine jR (step i x hx) ?_
  cases hp:p x with
  |true=>
   simp only [cond_true]
   refine e2r (e2r ?_)
   rw [zSR hx hp hj] at fin
   exact fin
  |false=>
   simp only [cond_false]
   refine e2l ⟨rfl,?_⟩
   intro j y hji hy
   rcases Nat.lt_or_ge j i with h|h
   ·exact hj j y h hy
   ·have:j=i:=by omega
    subst this
    rw [hx] at hy
    cases hy
    exact hp
 ·intro hj
  refine zA ?_
  rw [zPU] at fin
  ·exact fin
  ·intro x hx
   obtain ⟨j,hjl,rfl⟩:=List.getElem_of_mem hx
   exact hj j _ hjl (by simp [hjl])
end Go.Ve

namespace Go.Ve
open Go
section
variable {α ρ:Type}
theorem zQl {xs:List α} {body:Int→Option (Int ⊕ (Unit ⊕ ρ))} {Q:Unit ⊕ ρ→Prop} (hl:xs.length<4611686018427387904) (J:Nat→Prop) (h0:J 0)
  (step: ∀i x,xs[i]? =some x→J i→Wp (body (i:Int)) (zAr (fun s'=>s'=IntKind.wrap IntKind.i64 ((i:Int)+1)∧J (i+1)) (fun o=>(∀u,o≠Sum.inl u)∧Q o))) (fin:J xs.length→Q (Sum.inl ())):
  Wp (zM (fun s:Int=>bif decide (s< (xs.length:Int)) then body s else some (Sum.inr (Sum.inl ()))) (0:Int)) Q:=by
 refine wp_loop (fun (s:Int)=> ∃i:Nat,s=(i:Int)∧i≤xs.length∧J i) (fun (s:Int)=>((xs.length:Int) -s).toNat) ⟨(0:Nat),rfl,Nat.zero_le _,h0⟩ ?_
 rintro s ⟨i,hi,hle,hj⟩
 subst hi
 refine zJ ?_ ?_
 ·intro hc
  have hlt:i<xs.length:=by omega
  refine (step i xs[i] (by simp [hlt]) hj).mono ?_
  intro o ho
  cases o with
  |inl s'=>
   obtain ⟨rfl,h2⟩:=ho
   rw [wrap_i64 (by omega) (by omega)]
   exact ⟨⟨i+1,by omega,hlt,h2⟩,by omega⟩
  |inr o=>exact ho.2
 ·intro hc
  have:i=xs.length:=by omega
  subst this
  exact zA (e2r (fin hj))
theorem zSf {xs:List α} {P:α→Prop} {body:Int→Option (Int ⊕ (Unit ⊕ ρ))} {Q:Unit ⊕ ρ→Prop} (hl:xs.length<4611686018427387904)
  (step: ∀ (i:Nat) x,xs[i]? =some x→Wp (body (i:Int)) (zAr (fun s'=>s'=IntKind.wrap IntKind.i64 ((i:Int)+1)∧P x) (fun o=>(∀u,o≠Sum.inl u)∧Q o))) (fin:(∀x,x∈xs→P x)→Q (Sum.inl ())):
  Wp (zM (fun s:Int=>bif decide (s< (xs.length:Int)) then body s else some (Sum.inr (Sum.inl ()))) (0:Int)) Q:=by
 refine zQl hl (fun i=> ∀j y,j<i→xs[j]? =some y→P y) (fun j y hj=>by omega) ?_ (fun h=>fin ?_)
 ·intro i x hx hj
  refine (step i x hx).mono ?_
  intro o ho
  cases o with
  |inl s'=>
   refine ⟨ho.1,?_⟩
   intro j y hj' hy
   rcases Nat.lt_or_ge j i with h'|h'
   ·exact hj j y h' hy
   ·have:j=i:=by omega
    subst this
    rw [hx] at hy
    cases hy
    exact ho.2
  |inr o=>exact ho
 ·intro x hx
  obtain ⟨j,hjl,rfl⟩:=List.getElem_of_mem hx
  exact h j _ hjl (by simp [hjl])
end
end Go.Ve



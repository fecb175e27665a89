/-
  Functions out of code, part 5: soundness; contracts of functions.
  Functions out of code, part 6: contracts of functions to which a list is lent.
  Functions out of code, part 7: slices that go by a number: a state of lists; append.
  Functions out of code, part 8: contracts over a state of lists; from such a state to none, and from none to any.
  Functions out of code, part 9: a function with a state of lists of its own is a function without.
  The shapes of the program's data.
  Plain laws, part 1: what partial values come to.
  Plain laws, part 2: loops over lists.
  Plain laws, part 3: loops over lists within loops.
  Plain laws: sorting by insertion.
-/
import Derived.Test.YtaidmnnejapafaaDoorXf9
import Derived.Test.YtaidmnnejapafaaDoorXf3
set_option linter.unusedVariables false
namespace Go.Ve
open Go
section
variable {Γ:Sig} {P:Program} {G:Nat→Option (List V)} {e e1 e2:Env Γ.St}
def Fits (G:Nat→Option (List V)) (e e2:Env Γ.St):Prop:=
 ∀ (w0:World) (F0:Blk→Prop) (O0:kH) (a:Act) (w:World),Inv Γ G w0 F0 O0 a w e→Inv Γ G w0 F0 O0 a w e2
theorem zRE (hl:e2.tm.length=e.tm.length) (hst:e2.st=e.st) (ht2: ∀t,WkT (e.get t) (e2.get t))
  (hv2: ∀s cs2,e2.var s=some cs2→ ∃cs,e.var s=some cs∧uI cs cs2) (hlp: ∀t,zDc e2 (e2.get t)=true)
  (hlv: ∀s cs2 x,e2.var s=some cs2→x∈cs2→zDc e2 x=true):Fits G e e2:=by
 intro w0 F0 O0 a w h
 obtain ⟨F,O,β,hc,hG,hsz,hdf,ht,hv⟩:=h
 let al':Site→Prop:=fun x=>alive e x∧ ∀s,x= .v s→ ∃cs,e2.var s=some cs
 have hon: ∀v x,zE w F β (alive e) v x→zDc e2 x=true→zE w F β al' v x:=by
  intro v x hx hl
  refine hx.on ?_
  have hs:=hx.sites
  cases x with
  |ow i k es=>exact ⟨hs,fun s h=>by cases h⟩
  |oe i k es j off=>exact ⟨hs,fun s h=>by cases h⟩
  |mp i es ck=>exact ⟨hs,fun s h=>by cases h⟩
  |ot i t xs=>exact fun h0=>⟨hs h0,fun s h=>by cases h⟩
  |oet i t xs j off=>exact ⟨hs,fun s h=>by cases h⟩
  |ov i t xs lo hi=>exact fun h0=>⟨hs h0,fun s h=>by cases h⟩
  |on n=>exact ⟨⟨hs.1,fun s h=>by cases h⟩,⟨hs.2,fun s h=>by cases h⟩⟩
  |lp s off=>
   refine ⟨hs,fun s' h=> ?_⟩
   simp only [Site.v.injEq] at h
   subst h
   exact Option.isSome_iff_exists.1 hl
  |_=>trivial
 refine Inv.of (al:=al') (by rw [hst];exact hc.anti (fun x hx=>hx.1)) hG (by rw [hl];exact hsz) hdf ?_ ?_ ?_
 ·intro t
  exact hon _ _ (ht2 t _ _ _ _ _ (ht t)) (hlp t)
 ·intro s cs2 hcs2
  obtain ⟨cs,h1,h3⟩:=hv2 s cs2 hcs2
  obtain ⟨c,et,g1,g2,g3⟩:=hv s cs h1
  refine ⟨⟨⟨cs,h1⟩,fun s' h=>by simp only [Site.v.injEq] at h;subst h;exact ⟨cs2,hcs2⟩⟩,c,et,g1,g2.trans h3.len,?_⟩
  intro i x y hx hy
  have hlt:i<cs.length:=by rw [h3.len];exact (List.getElem?_eq_some_iff.1 hy).1
  exact hon _ _ (h3.get i cs[i] y (by simp [hlt]) hy _ _ _ _ _ (g3 i x cs[i] hx (by simp [hlt]))) (hlv s cs2 y hcs2 (List.mem_of_getElem? hy))
 ·rintro s ⟨_,hs⟩
  exact hs s rfl
theorem zJq {c:Cell} {x:c.El} : ∀y,y∈zGq c x→zDc e y=true:=by
 intro y hy
 cases c with
 |p ty=>
  simp only [zGq,List.mem_map] at hy
  obtain ⟨d,_,rfl⟩:=hy
  rfl
 |o id ty=>
  simp only [zGq,List.mem_singleton] at hy
  subst hy
  rfl
theorem zH1: ∀ {cs:List Cell} {x:zJ7 cs}, ∀y,y∈zD2 cs x→zDc e y=true
 |[],_,y,h=>by simp [zD2] at h
 |[c],x,y,h=>zJq (c:=c) (x:=x) y h
 |c::c'::r,x,y,h=>by
  simp only [zD2,List.mem_append] at h
  rcases h with h|h
  ·exact zJq y h
  ·exact zH1 y h
theorem zK3 {s:yR} {x:s.El Γ.St} {i:Nat} {cs:List T} (h:(i,cs)∈zBX s x): ∀y,y∈cs→zDc e y=true:=by
 intro y hy
 cases s<;>simp only [zBX,List.mem_singleton,Prod.mk.injEq,List.not_mem_nil] at h
 obtain ⟨_,rfl⟩:=h
 exact zH1 y hy
theorem zR1: ∀ {l:List yR} {x:jU Γ.St l} {i:Nat} {cs:List T},(i,cs)∈vS l x→ ∀y,y∈cs→zDc e y=true
 |[],_,_,_,h=>by simp [vS] at h
 |[s],x,_,_,h=>zK3 (s:=s) (x:=x) h
 |s::s'::r,x,_,_,h=>by
  simp only [vS,List.mem_append] at h
  rcases h with h|h
  ·exact zK3 h
  ·exact zR1 h
theorem zJu {s:yR} {x:s.El Γ.St} {i:Nat} {y:T} (h:(i,y)∈zA1 s x):zDc e y=true:=by
 cases s<;>simp only [zA1,List.mem_singleton,Prod.mk.injEq,List.not_mem_nil] at h
 all_goals
  obtain ⟨_,rfl⟩:=h
  rfl
theorem zPs: ∀ {l:List yR} {x:jU Γ.St l} {i:Nat} {y:T},(i,y)∈tmS l x→zDc e y=true
 |[],_,_,_,h=>by simp [tmS] at h
 |[s],x,_,_,h=>zJu (s:=s) (x:=x) h
 |s::s'::r,x,_,_,h=>by
  simp only [tmS,List.mem_append] at h
  rcases h with h|h
  ·exact zJu h
  ·exact zPs h
theorem zL2 {j:JA} {i:Nat} (h:j.bits.testBit i=false):(zF2 j.lps).testBit i=false∧(wN j.sl).testBit i=false:=by
 simp only [JA.bits,wE] at h
 exact h.2
theorem zEh {j:JA} (hst:Subsingleton Γ.St∨zCd j.sl=true) {s:jU Γ.St j.sl} (hA:Agree j.bits e e1) (hr:rdJ j e1=some s):Fits G e1 (qH j e s):=by
 have hchk:zQJ e1 j.lps=true∧rdS e1 j.sl=some s:=by
  unfold rdJ at hr
  split at hr
  ·rename_i h;exact ⟨h,hr⟩
  ·cases hr
 obtain ⟨hL,hS⟩:=hchk
 have hv: ∀i cs2,(qH j e s).var i=some cs2→ ∃cs,e1.var i=some cs∧uI cs cs2:=by
  intro i cs2 h
  rcases zJO h with h|⟨h1,h2,h3,ds,rfl⟩
  ·exact zR4 hS i cs2 h
  ·exact ⟨_,hA.v i ds h2 h3 h1,uI.refl _⟩
 have hlp1: ∀s' off,isVar (qH j e s).vars s'=true→zDc (qH j e s) (.lp s' off)=true:=by
  intro s' off h
  obtain ⟨cs,hcs⟩:=zGP.1 h
  simp only [zDc,hcs,Option.isSome_some]
 have hget: ∀t,WkT (e1.get t) ((qH j e s).get t)∧zDc (qH j e s) ((qH j e s).get t)=true:=by
  intro t
  rcases Nat.lt_or_ge t e.tm.length with hlt|hge
  ·rcases zOE (j:=j) (s:=s) hlt with ⟨y,hy,h1⟩|h1|⟨hb,h1⟩
   ·rw [h1]
    rw [List.mem_append] at hy
    rcases hy with hy|hy
    ·obtain ⟨s',off,h2,rfl⟩:=zIC hy
     have h3:=zLZ hL t s' off h2
     rcases zOA (qH j e s).vars s' off with h4|⟨h4,h5⟩
     ·rw [h4];exact ⟨.dead _,rfl⟩
     ·rw [h4,h3];exact ⟨.refl _,hlp1 s' off h5⟩
    ·exact ⟨zPQ hS t y hy,zPs hy⟩
   ·rw [h1];exact ⟨.dead _,rfl⟩
   ·rw [h1]
    cases hx:e.get t with
    |p d=>rw [hA.p t d hb hx];exact ⟨.refl _,rfl⟩
    |lp s' off=>
     simp only [zJM]
     split
     ·rename_i hk
      simp only [Bool.and_eq_true,Bool.not_eq_true'] at hk
      rw [hA.lp t s' off hb hk.1 hx]
      exact ⟨.refl _,hlp1 s' off hk.2⟩
     ·exact ⟨.dead _,rfl⟩
    |_=>exact ⟨.dead _,rfl⟩
  ·rw [zQj (e:=qH j e s) (by rw [zEi.1];exact hge)]
   exact ⟨.dead _,rfl⟩
 have hst':(qH j e s).st=e1.st:=by
  rcases hst with hsub|hst
  ·exact Subsingleton.elim _ _
  ·obtain ⟨y,hy⟩:=zLb s hst
   have:=zPR hS y hy
   show zS2 (stS j.sl s) e.st=e1.st
   rw [hy];exact this
 refine zRE (by rw [zEi.1,hA.tl]) hst' (fun t=>(hget t).1) hv (fun t=>(hget t).2) ?_
 intro i cs2 x h hx
 rcases zJO h with h|⟨_,_,_,ds,rfl⟩
 ·exact zR1 h x hx
 ·simp only [List.mem_map] at hx
  obtain ⟨d,_,rfl⟩:=hx
  rfl
theorem zLv {j:JA} : ∀ (l:List T) (n:Nat),zML j e n l=true→ ∀i s off,l[i]? =some (.lp s off)→j.bits.testBit (2*(n+i))=false→j.bits.testBit (2*s)=false→
  (kY j.sl s=true∧(e.vars[s]?).isSome=true)∨(zIF j.bits s (e.var s)).isSome=true
 |[],_,_,i,s,off,h,_,_=>by simp at h
 |x::r,n,hk,i,s,off,h,h1,h2=>by
  have hr:zML j e (n+1) r=true:=by
   cases x<;>simp only [zML,Bool.and_eq_true] at hk<;>first|exact hk|exact hk.2
  cases i with
  |zero=>
   simp only [List.getElem?_cons_zero,Option.some.injEq] at h
   subst h
   simp only [zML,Bool.and_eq_true,Bool.or_eq_true] at hk
   rw [Nat.add_zero] at h1
   rw [h1,h2] at hk
   rcases hk.1 with ((h3|h3)|h3)|h3
   ·cases h3
   ·cases h3
   ·exact .inl h3
   ·exact .inr h3
  |succ i=>
   simp only [List.getElem?_cons_succ] at h
   exact zLv r (n+1) hr i s off h (by rw [show n+1+i=n+(i+1) by omega];exact h1) h2
theorem zCJ {j:JA} {s:jU Γ.St j.sl} (hok:okJ j e=true):Agree j.bits e (qH j e s):=by
 have hlook: ∀t,j.bits.testBit (2*t)=false→ ∀y,(t,y) ∉ zKx (qH j e s).vars j.lps++tmS j.sl s:=by
  intro t ht y hy
  obtain ⟨h1,h2⟩:=zL2 ht
  rw [List.mem_append] at hy
  rcases hy with hy|hy
  ·obtain ⟨s',off,h3,_⟩:=zIC hy
   rw [zL3 h3] at h1;cases h1
  ·rw [zN8 hy] at h2;cases h2
 have hget: ∀t,j.bits.testBit (2*t)=false→t<e.tm.length→(qH j e s).get t=zJM j.bits (qH j e s).vars (e.get t):=by
  intro t ht hlt
  have h1:(qH j e s).tm[t]? =_:=zFc j.bits (zKx (qH j e s).vars j.lps++tmS j.sl s) (qH j e s).vars e.tm 0 t
  rw [List.getElem?_eq_getElem hlt,Option.map_some,Nat.zero_add] at h1
  have hg:(qH j e s).get t=((qH j e s).tm[t]?).getD .dead:=by simp [Env.get,List.getD_eq_getElem?_getD]
  have he:e.get t=e.tm[t]:=by simp [Env.get,hlt]
  rw [hg,h1,he]
  simp only [Option.getD_some]
  split
  ·rename_i y hy
   exact absurd (zCc hy) (hlook t ht y)
  ·rw [ht]
 have hvar: ∀i (ds:List V),j.bits.testBit (2*i)=false→j.bits.testBit (2*i+1)=false→e.var i=some (ds.map T.p)→(qH j e s).var i=some (ds.map T.p):=by
  intro i ds h1 h2 h3
  apply zCp
  show (kD _ _ _ _)[i]? =_
  rw [zAQ,zFe h3,Option.map_some,Nat.zero_add]
  congr 1
  split
  ·rename_i y hy
   have:=zQM (zCc hy)
   rw [(zL2 h2).2] at this;cases this
  ·have hall: ∀l:List V,zFv (l.map T.p)=true:=by
    intro l
    induction l with
    |nil=>rfl
    |cons x l ih=>simpa [zFv] using ih
   simp [zIF,h1,h2,hall]
 have hlt: ∀t x,e.get t=x→x≠ .dead→t<e.tm.length:=by
  intro t x hx hne
  rcases Nat.lt_or_ge t e.tm.length with h|h
  ·exact h
  ·rw [zQj h] at hx;exact absurd hx.symm hne
 refine ⟨zEi.1,zEi.2,?_,?_,hvar⟩
 ·intro t d ht hx
  rw [hget t ht (hlt t _ hx (by simp)),hx];rfl
 ·intro t s' off ht hs' hx
  have hl:=hlt t _ hx (by simp)
  rw [hget t ht hl,hx]
  have hg:e.tm[t]? =some (.lp s' off):=by
   rw [List.getElem?_eq_getElem hl]
   simp only [Env.get,List.getD_eq_getElem?_getD,List.getElem?_eq_getElem hl,Option.getD_some] at hx
   rw [hx]
  have h3:isVar (qH j e s).vars s'=true:=by
   rcases zLv e.tm 0 hok t s' off hg (by rw [Nat.zero_add];exact ht) hs' with ⟨h4,h5⟩|h4
   ·obtain ⟨cs,hcs⟩:=zKh (x:=s) h4
    obtain ⟨y,hy⟩:=Option.isSome_iff_exists.1 h5
    rw [zGP]
    refine ⟨cs,zCp ?_⟩
    show (kD _ _ _ _)[s']? =_
    rw [zAQ,hy,Option.map_some,Nat.zero_add,hcs]
   ·obtain ⟨cs,hcs⟩:=Option.isSome_iff_exists.1 h4
    obtain ⟨h5,h6,h7,ds,rfl⟩:=zIE hcs
    rw [zGP]
    exact ⟨_,hvar s' ds h6 h7 h5⟩
  simp [zJM,hs',h3]
theorem Fits.code {c:Code} {k:X} (h:z9 P G c e k e1) (hf:Fits G e1 e2):z9 P G c e k e2:=by
 intro w0 F0 O0 a w hi
 refine wp_mono (h w0 F0 O0 a w hi) ?_
 rintro ex a' w' ⟨rfl,hi'⟩
 exact ⟨rfl,hf _ _ _ _ _ hi'⟩
theorem Fits.loop {c:Code} {k:X} (hf:Fits G e e1) (h:zAe P G c e1 k e2):zAe P G c e k e2:=
 fun w0 F0 O0 a w hi=>h w0 F0 O0 a w (hf _ _ _ _ _ hi)
theorem zG0 {j:JA} {lg:Nat} {s:jU Γ.St j.sl} (h:zKG j e lg=some s):rdJ j e=some s∧ ∀t,j.bits.testBit t=false→lg.testBit t=false:=by
 unfold zKG at h
 split at h
 ·rename_i hb
  have hb:=Nat.eq_of_beq_eq_true hb
  refine ⟨h,fun t ht=> ?_⟩
  rw [←hb,wE] at ht
  exact ht.1
 ·cases h
theorem zJL {A:Nat→Option JA} {t:Nat} {c:Code} {j:JA} (h:zRv A t c=some j): ∃k,A k=some j:=by
 unfold zRv at h
 split at h
 ·exact ⟨_,h⟩
 ·cases h
theorem zJV {S:zL Γ} {A:Nat→Option JA} (hst: ∀k j,A k=some j→Subsingleton Γ.St∨zCd j.sl=true) (hmix:P.follows .mixedOrders=true) (hS:z8 Γ P G S.toS): ∀ (c:Code) (ρ:Type) (K:X→Env Γ.St→Nat→Option ρ) (e:Env Γ.St) (lg:Nat) (v:ρ),
  exC P G S A c ρ K e lg=some v→ ∃k e1 d,z9 P G c e k e1∧Agree d e e1∧K k e1 (lg|||d)=some v:=by
 intro c
 induction c with
 |skip=>intro ρ K e lg v h;exact ⟨_,_,0, .skip e,Agree.refl e,by rw [Nat.or_zero];exact h⟩
 |exit id=>intro ρ K e lg v h;exact ⟨_,_,0, .exit id e,Agree.refl e,by rw [Nat.or_zero];exact h⟩
 |ret=>intro ρ K e lg v h;exact ⟨_,_,0, .ret e,Agree.refl e,by rw [Nat.or_zero];exact h⟩
 |seq x y ihx ihy=>
  intro ρ K e lg v h
  simp only [exC] at h
  split at h
  ·rename_i j hj0
   obtain ⟨jk,hj⟩:=zJL hj0
   have hjs:=hst jk j hj
   have fin: ∀ (k:X) (e1:Env Γ.St) (d:Nat) (s:jU Γ.St j.sl),z9 P G x e .normal e1→Agree d e e1→zKG j e1 (0|||d)=some s→okJ j e=true→zBn (qH j e s) (fun e1=>exC P G S A y ρ K e1 (lg|||j.bits))=some v→
     ∃k e1 d,z9 P G (.seq x y) e k e1∧Agree d e e1∧K k e1 (lg|||d)=some v:=by
    intro k e1 d s h1 h2 h3 hok h4
    rw [kB] at h4
    obtain ⟨h5,h6⟩:=zG0 h3
    have hA:Agree j.bits e e1:=h2.mono (fun t ht=>by have:=h6 t ht;rw [Nat.zero_or] at this;exact this)
    obtain ⟨k2,e2,d2,h7,h8,h9⟩:=ihy ρ K _ _ v h4
    exact ⟨k2,e2,j.bits|||d2,(Fits.code h1 (zEh hjs hA h5)).seqN h7,(zCJ hok).trans h8,by rw [←Nat.or_assoc];exact h9⟩
   split at h
   ·obtain ⟨hok,h⟩:=wL.1 h
    obtain ⟨s,h1,h2⟩:=bind_some h
    obtain ⟨k,e1,d,h3,h4,h5⟩:=ihx _ _ _ _ _ h1
    cases k with
    |normal=>exact fin .normal e1 d s h3 h4 h5 hok h2
    |exit id=>cases h5
    |ret=>cases h5
   ·obtain ⟨hok,h⟩:=wL.1 h
    have h0: ∃o,exC P G S A x (jU Γ.St j.sl ⊕ ρ) (fun k e1 lg1=>match k with
     | .normal=>(zKG j e1 lg1).map .inl
     |k=>(K k e1 (lg|||lg1)).map .inr) e 0=some o∧match o with
     | .inl s=>zBn (qH j e s) (fun e1=>exC P G S A y ρ K e1 (lg|||j.bits))=some v
     | .inr r=>r=v:=by
     unfold kF at h
     split at h
     ·cases h
     ·rename_i s hs;exact ⟨_,hs,h⟩
     ·rename_i r hr;exact ⟨_,hr,by simpa using h⟩
    obtain ⟨o,h1,h2⟩:=h0
    obtain ⟨k,e1,d,h3,h4,h5⟩:=ihx _ _ _ _ _ h1
    have other:k≠ .normal→(K k e1 (lg|||(0|||d))).map (Sum.inr (α:=jU Γ.St j.sl))=some o→ ∃k e1 d,z9 P G (.seq x y) e k e1∧Agree d e e1∧K k e1 (lg|||d)=some v:=by
     intro hk hm
     rw [Option.map_eq_some_iff] at hm
     obtain ⟨r,hr,rfl⟩:=hm
     simp only at h2
     subst h2
     exact ⟨k,e1,d,h3.seqX hk,h4,by rw [Nat.zero_or] at hr;exact hr⟩
    cases k with
    |normal=>
     simp only [Option.map_eq_some_iff] at h5
     obtain ⟨s,hs,rfl⟩:=h5
     exact fin .normal e1 d s h3 h4 hs hok h2
    |exit id=>exact other (by simp) h5
    |ret=>exact other (by simp) h5
  ·obtain ⟨k,e1,d,h1,h2,h3⟩:=ihx _ _ _ _ _ h
   cases k with
   |normal=>
    obtain ⟨k2,e2,d2,h4,h5,h6⟩:=ihy _ _ _ _ _ h3
    exact ⟨k2,e2,d|||d2,h1.seqN h4,h2.trans h5,by rw [←Nat.or_assoc];exact h6⟩
   |exit id=>exact ⟨_,e1,d,h1.seqX (by simp),h2,h3⟩
   |ret=>exact ⟨_,e1,d,h1.seqX (by simp),h2,h3⟩
 |cond c x y ihx ihy=>
  intro ρ K e lg v h
  simp only [exC] at h
  split at h
  ·rename_i b hb
   cases b with
   |true=>
    obtain ⟨k,e1,d,h1,h2,h3⟩:=ihx _ _ _ _ _ h
    exact ⟨k,e1,d,z9.condB hb h1,h2,h3⟩
   |false=>
    obtain ⟨k,e1,d,h1,h2,h3⟩:=ihy _ _ _ _ _ h
    exact ⟨k,e1,d,z9.condB hb h1,h2,h3⟩
  ·cases h
 |block id c ih=>
  intro ρ K e lg v h
  simp only [exC] at h
  obtain ⟨k,e1,d,h1,h2,h3⟩:=ih _ _ _ _ _ h
  exact ⟨_,e1,d,h1.block,h2,h3⟩
 |loop c ih=>
  intro ρ K e lg v h
  simp only [exC] at h
  split at h
  ·rename_i j hj0
   obtain ⟨jk,hj⟩:=zJL hj0
   have hjs:=hst jk j hj
   obtain ⟨hok,h⟩:=wL.1 h
   obtain ⟨s0,h1,h2⟩:=bind_some h
   simp only [kB] at h2
   rw [zEe] at h2
   obtain ⟨n,hn⟩:=h2
   have key: ∀ (n:Nat) (s:jU Γ.St j.sl),zA6 (fun s=>exC P G S A c (jU Γ.St j.sl ⊕ ρ) (fun k e1 lg1=>match k with
    | .normal=>(zKG j e1 lg1).map .inl
    |k=>(K k e1 (lg|||(j.bits|||lg1))).map .inr) (qH j e s) 0) n s=some v→ ∃k e1 d,zAe P G c (qH j e s) k e1∧Agree (j.bits|||d) e e1∧K k e1 (lg|||(j.bits|||d))=some v:=by
    intro n
    induction n with
    |zero=>intro s hs;simp [zA6] at hs
    |succ n ihn=>
     intro s hs
     simp only [zA6] at hs
     have other: ∀ (o:jU Γ.St j.sl ⊕ ρ) (k:X) (e1:Env Γ.St) (d:Nat),k≠ .normal→z9 P G c (qH j e s) k e1→Agree d (qH j e s) e1→(K k e1 (lg|||(j.bits|||(0|||d)))).map (Sum.inr (α:=jU Γ.St j.sl))=some o→
       (∃r,o= .inr r∧K k e1 (lg|||(j.bits|||d))=some r)∧zAe P G c (qH j e s) k e1∧Agree (j.bits|||d) e e1:=by
      intro o k e1 d hk h3 h4 hm
      rw [Option.map_eq_some_iff] at hm
      obtain ⟨r,hr,rfl⟩:=hm
      rw [Nat.zero_or] at hr
      exact ⟨⟨r,rfl,hr⟩, .last h3 hk,(zCJ hok).trans h4⟩
     split at hs
     ·cases hs
     ·rename_i s' hs'
      obtain ⟨k,e1,d,h3,h4,h5⟩:=ih _ _ _ _ _ hs'
      cases k with
      |normal=>
       simp only [Option.map_eq_some_iff] at h5
       obtain ⟨s1,hs1,heq⟩:=h5
       simp only [Sum.inl.injEq] at heq
       subst heq
       obtain ⟨h6,h7⟩:=zG0 hs1
       have hA:Agree j.bits e e1:=(zCJ hok).same (h4.mono (fun t ht=>by have:=h7 t ht;rw [Nat.zero_or] at this;exact this))
       obtain ⟨k2,e2,d2,h8,h9,h10⟩:=ihn _ hs
       exact ⟨k2,e2,d2,zAe.step (Fits.code h3 (zEh hjs hA h6)) h8,h9,h10⟩
      |exit id=>obtain ⟨⟨r,hr,_⟩,_⟩:=other _ _ _ _ (by simp) h3 h4 h5;cases hr
      |ret=>obtain ⟨⟨r,hr,_⟩,_⟩:=other _ _ _ _ (by simp) h3 h4 h5;cases hr
     ·rename_i r hs'
      simp only [Option.some.injEq] at hs
      subst hs
      obtain ⟨k,e1,d,h3,h4,h5⟩:=ih _ _ _ _ _ hs'
      cases k with
      |normal=>
       simp only [Option.map_eq_some_iff] at h5
       obtain ⟨s1,hs1,heq⟩:=h5
       cases heq
      |exit id=>
       obtain ⟨⟨r',hr,hK⟩,hL,hA⟩:=other _ _ _ _ (by simp) h3 h4 h5
       simp only [Sum.inr.injEq] at hr
       subst hr
       exact ⟨_,e1,d,hL,hA,hK⟩
      |ret=>
       obtain ⟨⟨r',hr,hK⟩,hL,hA⟩:=other _ _ _ _ (by simp) h3 h4 h5
       simp only [Sum.inr.injEq] at hr
       subst hr
       exact ⟨_,e1,d,hL,hA,hK⟩
   obtain ⟨k,e1,d,h3,h4,h5⟩:=key n s0 hn
   exact ⟨k,e1,_,z9.loop (Fits.loop (zEh hjs ((Agree.refl e).mono (fun t _=>by simp)) h1) h3),h4,h5⟩
  ·have key: ∀ (n:Nat) (e:Env Γ.St) (lg:Nat),zFC (exC P G S A c ρ) K n e lg=some v→ ∃k e1 d,zAe P G c e k e1∧Agree d e e1∧K k e1 (lg|||d)=some v:=by
    intro n
    induction n with
    |zero=>intro e lg h;simp [zFC] at h
    |succ n ihn=>
     intro e lg h
     simp only [zFC] at h
     obtain ⟨k,e1,d,h5,h6,h7⟩:=ih _ _ _ _ _ h
     cases k with
     |normal=>
      obtain ⟨k2,e2,d2,h8,h9,h10⟩:=ihn e1 _ h7
      exact ⟨k2,e2,d|||d2,zAe.step h5 h8,h6.trans h9,by rw [←Nat.or_assoc];exact h10⟩
     |exit id=>exact ⟨_,e1,d, .last h5 (by simp),h6,h7⟩
     |ret=>exact ⟨_,e1,d, .last h5 (by simp),h6,h7⟩
   obtain ⟨k,e1,d,h4,h5,h6⟩:=key _ e lg h
   exact ⟨k,e1,d,z9.loop h4,h5,h6⟩
 |region id ops draw=>
  intro ρ K e lg v h
  simp only [exC] at h
  split at h
  ·rename_i j hj
   have hjs:=hst _ j hj
   obtain ⟨hok,h⟩:=wL.1 h
   obtain ⟨s,h1,h2⟩:=bind_some h
   obtain ⟨e1,n,h3,h4,h5⟩:=zIm hmix hS (id:=id) h1
   rw [kB] at h2
   obtain ⟨h6,h7⟩:=zG0 h5
   have hA:Agree j.bits e e1:=h4.mono (fun t ht=>by have:=h7 t ht;rw [Nat.zero_or] at this;exact this)
   exact ⟨.normal,qH j e s,j.bits,Fits.code h3 (zEh hjs hA h6),zCJ hok,h2⟩
  ·obtain ⟨e1,n,h3,h4,h5⟩:=zIm hmix hS (id:=id) h
   exact ⟨.normal,e1,n,h3,h4,h5⟩
 |_=>intro ρ K e lg v h;simp [exC] at h
inductive RTy where
 |p (ty:Ty)
 |o (ty:Ty)
 |tu (tys:List Ty)
@[reducible] def RTy.El:RTy→Type
 | .p ty=>ty.El
 | .o ty=>List ty.El
 | .tu tys=>ElS tys
def RTy.get:(R:RTy)→RV→Option R.El
 | .p ty, .p d=>ty.dec d
 | .p (.sl ty), .ownT t' xs=>zJ3 t' ty xs
 | .p ty, .own []=>ty.dec (.sl [])
 | .p _,_=>none
 | .o ty, .ownT t' xs=>zJ3 t' ty xs
 | .o _, .p (.val (.slice none 0 0))=>some []
 | .o _, .own []=>some []
 | .o _,_=>none
 | .tu tys, .p (.tup ds)=>zAC tys ds
 | .tu _,_=>none
def RTy.res:(R:RTy)→R.El→RV
 | .p ty,x=> .p (ty.enc x)
 | .o ty,xs=> .ownT ty xs
 | .tu tys,x=> .p (.tup (encS tys x))
def RTy.pl:RTy→Bool
 | .p ty=>ty.flat
 | .o ty=>ty.flat
 | .tu tys=>tys.all Ty.flat
theorem RTy.get_sound {N:Nat} {w:World} {F:Blk→Prop} {O:Nat→Prop} {v:Value} {R:RTy} {r:RV} {y:R.El} (h:R.get r=some y) (hr:yF N w F O v r):
  ∃F':Blk→Prop,(∀b,F b→F' b)∧(∀id a n c,F' (.h id a n c)↔F (.h id a n c))∧(∀b:Nat,F' b→F b∨(N≤b∧b<w.heap.size∧ ¬O b))∧yF N w F' O v (R.res y):=by
 have same:yF N w F O v (R.res y)→ ∃F':Blk→Prop,(∀b,F b→F' b)∧(∀id a n c,F' (.h id a n c)↔F (.h id a n c))∧(∀b:Nat,F' b→F b∨(N≤b∧b<w.heap.size∧ ¬O b))∧yF N w F' O v (R.res y):=
  fun h=>⟨F,fun _ h=>h,fun _ _ _ _=>Iff.rfl,fun _ h=> .inl h,h⟩
 unfold RTy.get at h
 split at h
 ·exact same (zAd h _ _ _ hr)
 ·rename_i ty t' xs
  exact zHj (r:= .ownT t' xs) (r':= .p (.tl ty y)) (zDX h) hr
 ·rename_i ty _
  refine same ?_
  rcases hr with ⟨_,a0,rfl⟩|⟨h',_⟩
  ·exact zAd h _ _ _ (.slemp a0 0)
  ·exact absurd rfl h'
 ·cases h
 ·rename_i ty t' xs
  exact zHj (r:= .ownT t' xs) (r':= .ownT ty y) (zDX h) hr
 ·simp only [Option.some.injEq] at h;subst h
  exact same (.inl ⟨rfl,none,Rd.eq_val hr⟩)
 ·simp only [Option.some.injEq] at h;subst h
  exact same hr
 ·cases h
 ·exact same (WkV.tup (kC _ _ _ h) _ _ _ hr)
 ·cases h
noncomputable def exF (L:qN) (G:Nat→Option (List V)) (S:zL Γ) (A:Nat→Option JA) (fn:Func) (c:Code) (R:RTy) (s:Γ.St) (ds:List V):Option R.El:=
 zBn (start fn.ntmps s ds) (fun e=>exC L G S A c R.El (fun k e1 _=>match k with
  | .exit _=>none
  |_=>match zJY L e1 fn with
   |some r=>R.get r
   |none=>none) e 0)
def zA3 {X:Type} (dec:List V→Option X) (R:RTy) (g:X→Option R.El):Γ.St→List V→Option (zD1 Γ.St):=fun s ds=>
 match dec ds with
 |some x=>some ⟨R.El,g x,fun _=>s,R.res,R.pl⟩
 |none=>none
def zB1 (ts:List Ty) (R:RTy) (g:ElS ts→Option R.El):Γ.St→List V→Option (zD1 Γ.St):=zA3 (zAC ts) R g
inductive ATy where
 |d (ty:Ty)
 |pp (ty:Ty)
 |clo (f:Nat) (caps:List (Bool×Ty))
@[reducible] def zQZ:List (Bool×Ty)→Type
 |[]=>Unit
 |c::r=>c.2.El×zQZ r
@[reducible] def ATy.El:ATy→Type
 | .d ty=>ty.El
 | .pp ty=>ty.El
 | .clo _ caps=>zQZ caps
@[reducible] def ElA:List ATy→Type
 |[]=>Unit
 |t::ts=>t.El×ElA ts
def zNc:(l:List (Bool×Ty))→zQZ l→List V
 |[],_=>[]
 |(b,t)::r,x=>(match b with
  |true=> .pp (t.cells x.1)
  |false=>t.enc x.1)::zNc r x.2
def ATy.enc:(t:ATy)→t.El→V
 | .d ty,x=>ty.enc x
 | .pp ty,x=> .pp (ty.cells x)
 | .clo f caps,x=> .clo f (zNc caps x)
def zOW:(ts:List ATy)→ElA ts→List V
 |[],_=>[]
 |t::ts,x=>t.enc x.1::zOW ts x.2
def zN6 (t:Ty):V→Option t.El
 | .pp cs=>match t.uncells cs with
  |some (x,[])=>some x
  |_=>none
 |_=>none
def zFo:(l:List (Bool×Ty))→List V→Option (zQZ l)
 |[],[]=>some ()
 |(b,t)::r,d::ds=>match b with
  |true=>match zN6 t d with
   |some x=>match zFo r ds with
    |some xs=>some (x,xs)
    |none=>none
   |none=>none
  |false=>match t.dec d with
   |some x=>match zFo r ds with
    |some xs=>some (x,xs)
    |none=>none
   |none=>none
 |_,_=>none
def ATy.dec:(t:ATy)→V→Option t.El
 | .d ty,v=>ty.dec v
 | .pp ty,v=>zN6 ty v
 | .clo f caps, .clo g ds=>match Nat.beq g f with
  |true=>zFo caps ds
  |false=>none
 | .clo _ _,_=>none
def zNf:(ts:List ATy)→List V→Option (ElA ts)
 |[],[]=>some ()
 |t::ts,d::ds=>match t.dec d with
  |some x=>match zNf ts ds with
   |some xs=>some (x,xs)
   |none=>none
  |none=>none
 |_,_=>none
def zPz (ts:List ATy) (R:RTy) (g:ElA ts→Option R.El):Γ.St→List V→Option (zD1 Γ.St):=zA3 (zNf ts) R g
def zL.none (Γ:Sig):zL Γ:=fun _ _ _=>Option.none
def zL.add (S:zL Γ) (f:FuncId) (sp:Γ.St→List V→Option (zD1 Γ.St)):zL Γ:=fun g s ds=>
 match Nat.beq g f with
 |true=>match zNW ds with
  |true=>S g s ds
  |false=>match sp s ds with
   | .some c=>some c
   | .none=>S g s ds
 |false=>S g s ds
def qF (sp:Γ.St→List V→Option (zD1 Γ.St)):Γ.St→List V→Option (Γ.St×RV):=fun s ds=>
 match sp s ds with
 |some c=>c.m.map (fun y=>(c.st y,c.res y))
 |none=>none
theorem zHc:z8 Γ P G (zL.none Γ).toS:=by
 have:(zL.none Γ).toS=zNP Γ:=by funext f s ds;rfl
 rw [this];exact zMp
theorem zES {S:zL Γ} (hS:z8 Γ P G S.toS) {f:FuncId} {sp:Γ.St→List V→Option (zD1 Γ.St)} (hi:isFn P f=true) (h:kX Γ P G f (qF sp)):z8 Γ P G (S.add f sp).toS:=by
 have e0: ∀s ds,zNW ds=true→(S.add f sp).toS f s ds=S.toS f s ds:=by
  intro s ds hb
  simp only [zL.toS,zL.add,Nat.beq_refl,hb]
 have e1: ∀s ds,zNW ds=false→(S.add f sp).toS f s ds=if (sp s ds).isSome then qF sp s ds else S.toS f s ds:=by
  intro s ds hb
  simp only [zL.toS,zL.add,qF,Nat.beq_refl,hb]
  cases sp s ds<;>rfl
 have e2: ∀g,g≠f→(S.add f sp).toS g=S.toS g:=by
  intro g hg
  funext s ds
  have:Nat.beq g f=false:=by
   cases hb:Nat.beq g f with
   |false=>rfl
   |true=>exact absurd (Nat.eq_of_beq_eq_true hb) hg
  simp only [zL.toS,zL.add,this]
 have hnf: ∀k,P.funcs[k]? =none→k≠f:=by
  rintro k hk rfl
  simp [isFn,hk] at hi
 refine ⟨?_,?_,fun hno st q t ys bytes st' d h=>hS.app hno st q t ys bytes st' d (by rw [←e2 _ (hnf _ hno)];exact h),?_⟩
 ·intro g
  by_cases hg:g=f
  ·subst hg
   intro w F O s args ds s' r a1 a2 a3 a4 a5 a6
   cases hb:zNW ds with
   |true=>
    rw [e0 s ds hb] at a6
    exact hS.ok g w F O s args ds s' r a1 a2 a3 a4 a5 a6
   |false=>
    rw [e1 s ds hb] at a6
    split at a6
    ·exact h w F O s args ds s' r a1 a2 a3 a4 a5 a6
    ·exact hS.ok g w F O s args ds s' r a1 a2 a3 a4 a5 a6
  ·rw [e2 g hg];exact hS.ok g
 ·intro g s ds r hr hbot
  by_cases hg:g=f
  ·subst hg
   unfold isFn at hi
   split at hi
   ·rename_i fn hfn
    simp only [Bool.and_eq_true,Bool.not_eq_true'] at hi
    exact ⟨fn,hfn,hi.1,hi.2⟩
   ·cases hi
  ·rw [e2 g hg] at hr;exact hS.is g s ds r hr hbot
 ·intro g st t xs ds st' ys d h
  by_cases hg:g=f
  ·subst hg;rw [e0 _ _ rfl] at h;exact hS.bor g st t xs ds st' ys d h
  ·rw [e2 g hg] at h;exact hS.bor g st t xs ds st' ys d h
theorem WkV.pp {xs ys:List V} (h:jR xs ys):WkV (.pp xs) (.pp ys):=by
 intro w F v hr
 cases hr with
 |pp b off cs g hF hg hr0=>
  refine .pp b off ys g hF (fun m hm=>hg m (by rw [h.len];exact hm)) ?_
  intro m d hd
  have hlt:m<xs.length:=by rw [h.len];exact (List.getElem?_eq_some_iff.1 hd).1
  exact h.get m xs[m] d (by simp [hlt]) hd w F _ (hr0 m xs[m] (by simp [hlt]))
theorem WkV.clo {f:FuncId} {xs ys:List V} (h:jR xs ys):WkV (.clo f xs) (.clo f ys):=by
 intro w F v hr
 cases hr with
 |clo _ cs ds hl h0=>
  refine .clo f cs ys (hl.trans h.len) ?_
  intro i x d hi hd
  have hlt:i<xs.length:=by rw [h.len];exact (List.getElem?_eq_some_iff.1 hd).1
  exact h.get i xs[i] d (by simp [hlt]) hd w F x (h0 i x xs[i] hi (by simp [hlt]))
theorem zHn {t:Ty} {d:V} {x:t.El} (h:zN6 t d=some x):WkV d (.pp (t.cells x)):=by
 unfold zN6 at h
 split at h
 ·rename_i cs
  split at h
  ·rename_i y hy
   simp only [Option.some.injEq] at h
   subst h
   obtain ⟨c1,h1,h2⟩:=wW t cs y [] hy
   simp only [List.append_nil] at h1
   subst h1
   exact WkV.pp h2
  ·cases h
 ·cases h
theorem zCW: ∀ (l:List (Bool×Ty)) (ds:List V) (x:zQZ l),zFo l ds=some x→jR ds (zNc l x)
 |[],[],_,_=>trivial
 |[],_::_,_,h=>by simp [zFo] at h
 |_::_,[],_,h=>by simp [zFo] at h
 |(b,t)::r,d::ds,x,h=>by
  simp only [zFo] at h
  split at h
  ·split at h
   ·rename_i y hy
    split at h
    ·rename_i ys hys
     simp only [Option.some.injEq] at h
     subst h
     exact ⟨zHn hy,zCW r ds ys hys⟩
    ·cases h
   ·cases h
  ·split at h
   ·rename_i y hy
    split at h
    ·rename_i ys hys
     simp only [Option.some.injEq] at h
     subst h
     exact ⟨zAd hy,zCW r ds ys hys⟩
    ·cases h
   ·cases h
theorem zFp: ∀ (ts:List ATy) (ds:List V) (x:ElA ts),zNf ts ds=some x→jR ds (zOW ts x)
 |[],[],_,_=>trivial
 |[],_::_,_,h=>by simp [zNf] at h
 |_::_,[],_,h=>by simp [zNf] at h
 |t::ts,d::ds,x,h=>by
  simp only [zNf] at h
  split at h
  ·rename_i y hy
   split at h
   ·rename_i ys hys
    simp only [Option.some.injEq] at h
    subst h
    refine ⟨?_,zFp ts ds ys hys⟩
    cases t with
    |d ty=>exact zAd (t:=ty) (x:=y) hy
    |pp ty=>exact zHn (t:=ty) (x:=y) hy
    |clo f caps=>
     cases d with
     |clo g ds0=>
      simp only [ATy.dec] at hy
      split at hy
      ·rename_i hb
       have hb:=Nat.eq_of_beq_eq_true hb
       subst hb
       exact WkV.clo (zCW _ _ _ hy)
      ·cases hy
     |_=>simp [ATy.dec] at hy
   ·cases h
  ·cases h
theorem zLL [hsub:Subsingleton Γ.St] {S:zL Γ} {A:Nat→Option JA} (hmix:P.follows .mixedOrders=true) (hS:z8 Γ P G S.toS) {f:FuncId} {fn:Func} {c:Code} (hf:P.funcs[f]? =some fn) (hb:fn.body=some c)
  {X:Type} {dec:List V→Option X} {enc:X→List V} (hdec: ∀ds x,dec ds=some x→jR ds (enc x)) {R:RTy} {g:X→Option R.El} (h: ∀s x,exF (Γ:=Γ) P G S A fn c R s (enc x)=g x):kX Γ P G f (qF (zA3 dec R g)):=by
 intro w F O s args ds s' r hsig hG hF hlen hrd hspec
 simp only [qF,zA3] at hspec
 split at hspec
 ·rename_i cx hcx
  split at hcx
  ·rename_i x hx
   simp only [Option.some.injEq] at hcx
   subst hcx
   simp only [Option.map_eq_some_iff] at hspec
   obtain ⟨y,hy,hsr⟩:=hspec
   simp only [Prod.mk.injEq] at hsr
   obtain ⟨rfl,rfl⟩:=hsr
   have hwk:=hdec ds x hx
   have hlen':args.size=(enc x).length:=hlen.trans hwk.len
   have hrd': ∀ (i:Nat) (u:Value) (d:V),args[i]? =some u→(enc x)[i]? =some d→Rd w F u d:=by
    intro i u d hu hd
    have hlt:i<ds.length:=by rw [hwk.len];exact (List.getElem?_eq_some_iff.1 hd).1
    exact hwk.get i ds[i] d (by simp [hlt]) hd w F u (hrd i u ds[i] hu (by simp [hlt]))
   have hex:=h s x
   rw [hy] at hex
   unfold exF at hex
   rw [kB] at hex
   obtain ⟨k,e',d,hok,_,hend⟩:=zJV (fun _ _ _=> .inl hsub) hmix hS c _ _ _ _ _ hex
   have hk:(k= .normal∨k= .ret)∧(match zJY (qN.of P) e' fn with
    |some r=>R.get r
    |none=>none)=some y:=by
    cases k with
    |normal=>exact ⟨.inl rfl,hend⟩
    |ret=>exact ⟨.inr rfl,hend⟩
    |exit id=>cases hend
   obtain ⟨hk,hend⟩:=hk
   split at hend
   ·rename_i r' hr'
    refine calls_of_wp hf hb ?_
    have hget: ∀t,zE w F ⟨fun _=>0,fun _=>0⟩ (fun _=>False) ((args++Array.replicate (fn.ntmps-args.size) undef).getD t undef) ((start fn.ntmps s (enc x)).get t):=by
     intro t
     simp only [start,zFI,Env.get,List.getD_eq_getElem?_getD,Array.getD_eq_getD_getElem?]
     by_cases ht:t< (enc x).length
     ·rw [List.getElem?_append_left (by simpa using ht),Array.getElem?_append_left (by omega)]
      rw [List.getElem?_map,List.getElem?_eq_getElem ht,Array.getElem?_eq_getElem (by omega)]
      exact hrd' t _ _ (by simp [show t<args.size by omega]) (by simp [ht])
     ·rw [List.getElem?_append_right (by simpa using Nat.le_of_not_lt ht),Array.getElem?_append_right (by omega),hlen']
      simp only [List.length_map]
      by_cases h2:t- (enc x).length<fn.ntmps- (enc x).length
      ·rw [List.getElem?_replicate,if_pos h2,Array.getElem?_replicate,if_pos h2]
       exact Rd.val _
      ·rw [List.getElem?_replicate,if_neg h2]
       trivial
    have hnovar: ∀s0,(start fn.ntmps s (enc x)).var s0=none:=by
     intro s0
     simp only [start,Env.var,List.getElem?_replicate]
     split<;>rfl
    have hinv:Inv Γ G w F O { tmps:=args++Array.replicate (fn.ntmps-args.size) undef,defers:=[] } w (start fn.ntmps s (enc x)):=by
     refine Inv.of (F:=F) (O:=O) (β:=⟨fun _=>0,fun _=>0⟩) (al:=fun _=>False) ⟨zBq.refl _ w,hsig,fun b hb=> .inl hb,fun b hb=>⟨.inl hb,hF b hb⟩,fun b hb=>hb,fun x hx=>hx.elim,fun x y hx=>hx.elim,fun b n h=>by cases h⟩ hG ?_ rfl hget ?_ (fun s h=>h.elim)
     ·simp [start,zFI,hlen']
     ·intro s0 cs hcs;rw [hnovar] at hcs;cases hcs
    refine wp_mono (hok w F O _ w hinv) ?_
    rintro ex a' w' ⟨rfl,hi'⟩
    obtain ⟨v,F',O',h1,h2,h3,h4,h5,h6,h7⟩:=zJX rfl hi' hr'
    have hdf:a'.defers=[]:=by obtain ⟨_,_,_,_,_,_,hdf,_⟩:=hi';exact hdf
    rw [Subsingleton.elim e'.st s] at h2
    obtain ⟨F'',g1,gh,g2,g3⟩:=RTy.get_sound hend h7
    have h2:=Γ.mono h2 gh (fun _ _=>rfl)
    have hF'': ∀b:Nat,F'' b→(F b∨w.heap.size≤b)∧b<w'.heap.size∧ ¬O' b:=by
     intro b hb
     rcases g2 b hb with hb|⟨h1,h2,h3⟩
     ·exact h6 b hb
     ·exact ⟨.inr h1,h2,h3⟩
    rcases hk with rfl|rfl
    ·exact ⟨hdf,v,h1,v,F'',O',rfl,h2,h3,h4,fun b hb=>g1 b (h5 b hb),hF'',g3⟩
    ·exact ⟨hdf,v,h1,v,F'',O',rfl,h2,h3,h4,fun b hb=>g1 b (h5 b hb),hF'',g3⟩
   ·cases hend
  ·cases hcx
 ·cases hspec
theorem zQq [hsub:Subsingleton Γ.St] {S:zL Γ} {A:Nat→Option JA} (hmix:P.follows .mixedOrders=true) (hS:z8 Γ P G S.toS) {f:FuncId} {fn:Func} {c:Code} (hf:P.funcs[f]? =some fn) (hb:fn.body=some c)
  {ts:List Ty} {R:RTy} {g:ElS ts→Option R.El} (h: ∀s x,exF (Γ:=Γ) P G S A fn c R s (encS ts x)=g x):kX Γ P G f (qF (zB1 ts R g)):=by
 have:=zLL hmix hS hf hb (kC ts) h
 exact this
theorem zQr [hsub:Subsingleton Γ.St] {S:zL Γ} {A:Nat→Option JA} (hmix:P.follows .mixedOrders=true) (hS:z8 Γ P G S.toS) {f:FuncId} {fn:Func} {c:Code} (hf:P.funcs[f]? =some fn) (hb:fn.body=some c)
  {ts:List ATy} {R:RTy} {g:ElA ts→Option R.El} (h: ∀s x,exF (Γ:=Γ) P G S A fn c R s (zOW ts x)=g x):kX Γ P G f (qF (zPz ts R g)):=
 zLL hmix hS hf hb (zFp ts) h
end
end Go.Ve



namespace Go.Ve
open Go
abbrev HSt (t:Ty):=List (Option (List t.El))
section
variable {t:Ty} {P:Program}
end
end Go.Ve

namespace Go.Ve
open Go
def zL.addE {Γ:Sig} (S:zL Γ):zL Γ:=fun f s ds=>
 match Nat.beq f vR with
 |true=>match ds with
  |[.bot, .bot, .tl t ys, .val (.int _ b)]=> .some ⟨List t.El,app b.toNat [] ys,fun _=>s,fun zs=> .p (.tl t zs),false⟩
  |_=>S f s ds
 |false=>S f s ds
theorem zRQ {Γ:Sig} {P:Program} {bytes:Nat} {st:Γ.St} {t:Ty} {ys zs:List t.El} (h:app bytes [] ys=some zs):zSe Γ P st .bot t ys bytes st (.tl t zs):=by
 intro ts ty t0 t1 el el1 info z w F O v0 v1 hts0 hts1 hu0 hu1 hinfo hz hsz hby hzc hbytes hR hF hr0 hr1
 subst hbytes
 obtain ⟨a0,rfl⟩:=(hr0: ∃a:Option Addr,v0= .slice a 0 0)
 unfold app at h
 split at h
 ·rename_i hbound
  simp only [Option.some.injEq,List.nil_append] at h
  subst h
  have hk2: ∀q,q∈ys.map t.enc→q.cells.length=info.size:=by
   intro q hq
   simp only [List.mem_map] at hq
   obtain ⟨y,_,rfl⟩:=hq
   rw [jH];exact hsz
  obtain ⟨a1,cap1,cells,hv1,hcap1,hl2,hrun2,hr2⟩:=zHP (P:=P) (β:=⟨id,id⟩) (al:=fun _=>False) (x:= .p (.sl (ys.map t.enc))) hr1.untl rfl hk2
  simp only [List.length_map] at hv1 hcap1 hl2 hrun2
  have hs:z4 P el=some info.size:=yX hinfo
  have hrest: ∀m,(Builtin.zeroCells z.cells m).size=m*info.size:=by
   intro m;simp only [Builtin.zeroCells,Array.size_map,Array.size_range];rw [hzc]
  cases ys with
  |nil=>
   have hrun:(Builtin.append_ ts ty #[.slice a0 0 0,v1]).run P w= .ok (.slice a0 0 0) w:=by
    rw [hv1]
    have hr:=hrun2 w rfl
    rw [hv1] at hr
    have hcn:cells=[]:=List.eq_nil_of_length_eq_zero (by simpa using hl2)
    subst hcn
    simp only [List.length_nil] at hr ⊢
    cases a0 with
    |none=>simp [Builtin.append_,hts0,hts1,zC hu0,zC hu1,run_sizeOf hs,Builtin.lenOf,hr]
    |some ad=>simp [Builtin.append_,hts0,hts1,zC hu0,zC hu1,run_sizeOf hs,Builtin.lenOf,hr,storeCells]
   exact ⟨_,w,hrun,F,O,hR,zBq.refl _ w,fun b hb=> .inl hb,fun b hb=>hb,fun b hb=>⟨.inl hb,hF b hb⟩, .tl t [] _ (.slemp a0 0)⟩
  |cons y r=>
   have hl2':cells.length=((y::r).map t.enc).length*info.size:=by simpa using hl2
   obtain ⟨newCap,hnc,hrun⟩:=run_append_grow (P:=P) (w:=w) (ts:=ts) (ty:=ty) (len:=0) (cap:=0) (n:=(y::r).length) (cap1:=cap1) (a0:=a0) (a1:=a1) (cells:=cells) (old:=[]) hts0 hts1 hu0 hu1 hinfo hz
    (by rw [←hv1];exact hrun2 w.drew rfl) (by cases a0<;>simp [Builtin.firstCells,loadCells,loadCellsFrom]) (by simp) hby (by simpa using hbound)
   rw [←hv1] at hrun
   simp only [Nat.zero_add] at hnc hrun
   have hrow:=zIk (w':=w.drew.alloc (.cells (([]:List Value).toArray++(cells.toArray++Builtin.zeroCells z.cells (newCap- (y::r).length))) el)) (F:=F) (b:=w.heap.size) (k:=info.size) (cap:=newCap) (es:=[]) (es2:=(y::r).map t.enc) (et:=el) (old:=[]) (cells:=cells)
    (by simp) hk2 (by simp) hl2' (fun i j q y hi hj=>by simp at hi) (fun i j e d hi hj=>by
     obtain ⟨x,hx,hrx⟩:=hr2 i j e d hi hj
     exact ⟨x,hx,hrx.mono (fun _ h=>h) (fun b hb=>jS (w:=w.drew) (hF b hb).1)⟩) (by simpa using hnc) (by simpa using hrest _) (xA (w:=w.drew))
   rw [List.nil_append] at hrow
   refine ⟨_,_,hrun,fun b=>F b∨b= .b w.heap.size,O,Γ.mono hR zG6 (fun b hb=>jS (w:=w.drew) (Γ.inb hR b hb)),⟨rfl,rfl,rfl,by simp,fun b hb _=>jS (w:=w.drew) hb,Nat.le_succ _⟩,fun b hb=> .inl hb,fun b hb=> .inl hb,?_,?_⟩
   ·rintro b (hb|hb)
    ·obtain ⟨h1,h2⟩:=hF b hb
     exact ⟨.inl hb,by simp;omega,h2⟩
    ·have hb:=vE hb
     subst hb
     exact ⟨.inr (Nat.le_refl _),by simp,fun ho=>by have:=Γ.inb hR _ ho;omega⟩
   ·have:=zBV hrow (F':=fun b=>F b∨b= .b w.heap.size) (fun b hb=> .inl hb) (.inr rfl)
    rw [List.length_map] at this
    exact .tl t (y::r) _ this
 ·cases h
theorem zK8 {Γ:Sig} {P:Program} {G:Nat→Option (List V)} {S:zL Γ} (hS:z8 Γ P G S.toS) (hno:P.funcs[vR]? =none):z8 Γ P G S.addE.toS:=by
 have e2: ∀g,g≠vR→S.addE.toS g=S.toS g:=by
  intro g hg
  funext s ds
  have:Nat.beq g vR=false:=by
   cases hb:Nat.beq g vR with
   |false=>rfl
   |true=>exact absurd (Nat.eq_of_beq_eq_true hb) hg
  simp only [zL.toS,zL.addE,this]
 have e1: ∀ (s:Γ.St) (ds:List V) r,S.addE.toS vR s ds=some r→S.toS vR s ds=some r∨
   ∃ (t:Ty) (ys zs:List t.El) (k:IntKind) (b:Int),ds=[.bot, .bot, .tl t ys, .val (.int k b)]∧app b.toNat [] ys=some zs∧r=(s, .p (.tl t zs)):=by
  intro s ds r h
  have ht:Nat.beq vR vR=true:=Nat.beq_refl _
  simp only [zL.toS,zL.addE,ht] at h
  split at h
  ·rename_i c hc
   split at hc
   ·rename_i t ys k b
    simp only [Option.some.injEq] at hc
    rw [←hc] at h
    simp only [Option.map_eq_some_iff] at h
    obtain ⟨zs,h1,h2⟩:=h
    exact .inr ⟨t,ys,zs,k,b,rfl,h1,h2.symm⟩
   ·exact .inl (by simp only [zL.toS,hc];exact h)
  ·cases h
 refine ⟨?_,?_,?_,?_⟩
 ·intro g
  by_cases hg:g=vR
  ·subst hg
   intro w F O s args ds s' r a1 a2 a3 a4 a5 a6
   rcases e1 s ds _ a6 with h|⟨t,ys,zs,k,b,rfl,_⟩
   ·exact hS.ok vR w F O s args ds s' r a1 a2 a3 a4 a5 h
   ·exfalso
    have h0:0<args.size:=by rw [a4];simp
    have hnb: ∀u:Value, ¬Rd w F u .bot:=fun u h=>by cases h
    exact hnb _ (a5 0 args[0] .bot (by simp [h0]) rfl)
  ·rw [e2 g hg];exact hS.ok g
 ·intro g s ds r hr hbot
  by_cases hg:g=vR
  ·subst hg
   rcases e1 s ds _ hr with h|⟨t,ys,zs,k,b,rfl,_⟩
   ·exact hS.is _ s ds r h hbot
   ·exact absurd rfl (hbot _)
  ·rw [e2 g hg] at hr;exact hS.is g s ds r hr hbot
 ·intro _ st q t ys bytes st' d h
  rcases e1 _ _ _ h with h|⟨t',ys',zs,k,b,heq,h1,h2⟩
  ·exact hS.app hno st q t ys bytes st' d h
  ·simp only [List.cons.injEq,V.tl.injEq,V.val.injEq,Value.int.injEq,true_and,and_true] at heq
   obtain ⟨rfl,⟨htt,hys⟩,rfl,rfl⟩:=heq
   subst htt
   have hys:=eq_of_heq hys
   subst hys
   cases h2
   simp only [Int.toNat_natCast] at h1
   exact zRQ h1
 ·intro f st t xs ds st' ys d h
  by_cases hf:f=vR
  ·subst hf
   rcases e1 _ _ _ h with h|⟨t',ys',zs,k,b,heq,_⟩
   ·exact hS.bor _ st t xs ds st' ys d h
   ·simp at heq
  ·rw [e2 f hf] at h;exact hS.bor f st t xs ds st' ys d h
section
variable {Γ:Sig} {P:Program} {G:Nat→Option (List V)}
noncomputable def zRF (L:qN) (G:Nat→Option (List V)) (S:zL Γ) (A:Nat→Option JA) (fn:Func) (c:Code) (R:RTy) (s:Γ.St) (ds:List V):Option (Γ.St×R.El):=
 zBn (start fn.ntmps s ds) (fun e=>exC L G S A c (Γ.St×R.El) (fun k e1 _=>match k with
  | .exit _=>none
  |_=>match zJY L e1 fn with
   |some r=>match R.get r with
    |some y=>some (e1.st,y)
    |none=>none
   |none=>none) e 0)
def xS {X:Type} (dec:List V→Option X) (R:RTy) (g:Γ.St→X→Option (Γ.St×R.El)):Γ.St→List V→Option (zD1 Γ.St):=fun s ds=>
 match dec ds with
 |some x=>some ⟨Γ.St×R.El,g s x,fun y=>y.1,fun y=>R.res y.2,R.pl⟩
 |none=>none
theorem zLK {S:zL Γ} {A:Nat→Option JA} (hst: ∀k j,A k=some j→zCd j.sl=true) (hmix:P.follows .mixedOrders=true) (hS:z8 Γ P G S.toS) {f:FuncId} {fn:Func} {c:Code} (hf:P.funcs[f]? =some fn) (hb:fn.body=some c)
  {X:Type} {dec:List V→Option X} {enc:X→List V} (hdec: ∀ds x,dec ds=some x→jR ds (enc x)) {R:RTy} {g:Γ.St→X→Option (Γ.St×R.El)} (h: ∀s x,zRF (Γ:=Γ) P G S A fn c R s (enc x)=g s x):kX Γ P G f (qF (xS dec R g)):=by
 intro w F O s args ds s' r hsig hG hF hlen hrd hspec
 simp only [qF,xS] at hspec
 split at hspec
 ·rename_i cx hcx
  split at hcx
  ·rename_i x hx
   simp only [Option.some.injEq] at hcx
   subst hcx
   simp only [Option.map_eq_some_iff] at hspec
   obtain ⟨⟨s1,y⟩,hy,hsr⟩:=hspec
   simp only [Prod.mk.injEq] at hsr
   obtain ⟨rfl,rfl⟩:=hsr
   have hwk:=hdec ds x hx
   have hlen':args.size=(enc x).length:=hlen.trans hwk.len
   have hrd': ∀ (i:Nat) (u:Value) (d:V),args[i]? =some u→(enc x)[i]? =some d→Rd w F u d:=by
    intro i u d hu hd
    have hlt:i<ds.length:=by rw [hwk.len];exact (List.getElem?_eq_some_iff.1 hd).1
    exact hwk.get i ds[i] d (by simp [hlt]) hd w F u (hrd i u ds[i] hu (by simp [hlt]))
   have hex:=h s x
   rw [hy] at hex
   unfold zRF at hex
   rw [kB] at hex
   obtain ⟨k,e',d,hok,_,hend⟩:=zJV (fun k j hj=> .inr (hst k j hj)) hmix hS c _ _ _ _ _ hex
   have hk:(k= .normal∨k= .ret)∧(match zJY (qN.of P) e' fn with
    |some r=>match R.get r with
     |some y=>some (e'.st,y)
     |none=>none
    |none=>none)=some (s1,y):=by
    cases k with
    |normal=>exact ⟨.inl rfl,hend⟩
    |ret=>exact ⟨.inr rfl,hend⟩
    |exit id=>cases hend
   obtain ⟨hk,hend⟩:=hk
   split at hend
   ·rename_i r' hr'
    split at hend
    ·rename_i y' hy'
     simp only [Option.some.injEq,Prod.mk.injEq] at hend
     obtain ⟨rfl,rfl⟩:=hend
     refine calls_of_wp hf hb ?_
     have hget: ∀t,zE w F ⟨fun _=>0,fun _=>0⟩ (fun _=>False) ((args++Array.replicate (fn.ntmps-args.size) undef).getD t undef) ((start fn.ntmps s (enc x)).get t):=by
      intro t
      simp only [start,zFI,Env.get,List.getD_eq_getElem?_getD,Array.getD_eq_getD_getElem?]
      by_cases ht:t< (enc x).length
      ·rw [List.getElem?_append_left (by simpa using ht),Array.getElem?_append_left (by omega)]
       rw [List.getElem?_map,List.getElem?_eq_getElem ht,Array.getElem?_eq_getElem (by omega)]
       exact hrd' t _ _ (by simp [show t<args.size by omega]) (by simp [ht])
      ·rw [List.getElem?_append_right (by simpa using Nat.le_of_not_lt ht),Array.getElem?_append_right (by omega),hlen']
       simp only [List.length_map]
       by_cases h2:t- (enc x).length<fn.ntmps- (enc x).length
       ·rw [List.getElem?_replicate,if_pos h2,Array.getElem?_replicate,if_pos h2]
        exact Rd.val _
       ·rw [List.getElem?_replicate,if_neg h2]
        trivial
     have hnovar: ∀s0,(start fn.ntmps s (enc x)).var s0=none:=by
      intro s0
      simp only [start,Env.var,List.getElem?_replicate]
      split<;>rfl
     have hinv:Inv Γ G w F O { tmps:=args++Array.replicate (fn.ntmps-args.size) undef,defers:=[] } w (start fn.ntmps s (enc x)):=by
      refine Inv.of (F:=F) (O:=O) (β:=⟨fun _=>0,fun _=>0⟩) (al:=fun _=>False) ⟨zBq.refl _ w,hsig,fun b hb=> .inl hb,fun b hb=>⟨.inl hb,hF b hb⟩,fun b hb=>hb,fun x hx=>hx.elim,fun x y hx=>hx.elim,fun b n h=>by cases h⟩ hG ?_ rfl hget ?_ (fun s h=>h.elim)
      ·simp [start,zFI,hlen']
      ·intro s0 cs hcs;rw [hnovar] at hcs;cases hcs
     refine wp_mono (hok w F O _ w hinv) ?_
     rintro ex a' w' ⟨rfl,hi'⟩
     obtain ⟨v,F',O',h1,h2,h3,h4,h5,h6,h7⟩:=zJX rfl hi' hr'
     have hdf:a'.defers=[]:=by obtain ⟨_,_,_,_,_,_,hdf,_⟩:=hi';exact hdf
     obtain ⟨F'',g1,gh,g2,g3⟩:=RTy.get_sound hy' h7
     have h2:=Γ.mono h2 gh (fun _ _=>rfl)
     have hF'': ∀b:Nat,F'' b→(F b∨w.heap.size≤b)∧b<w'.heap.size∧ ¬O' b:=by
      intro b hb
      rcases g2 b hb with hb|⟨h1,h2,h3⟩
      ·exact h6 b hb
      ·exact ⟨.inr h1,h2,h3⟩
     rcases hk with rfl|rfl
     ·exact ⟨hdf,v,h1,v,F'',O',rfl,h2,h3,h4,fun b hb=>g1 b (h5 b hb),hF'',g3⟩
     ·exact ⟨hdf,v,h1,v,F'',O',rfl,h2,h3,h4,fun b hb=>g1 b (h5 b hb),hF'',g3⟩
    ·cases hend
   ·cases hend
  ·cases hcx
 ·cases hspec
end
def Ty.norf:Ty→Bool
 | .rf=>false
 | .hd=>false
 | .pair a b=>a.norf&&b.norf
 | .sl t=>t.norf
 |_=>true
theorem zCD {w:World} {F F':Blk→Prop} (hF: ∀b:Nat,F b→F' b): ∀ (t:Ty) (_:t.norf=true) (x:t.El) (v:Value) (d:V),d∈t.cells x→Rd w F v d→Rd w F' v d:=by
 intro t
 induction t with
 |int k=>intro _ x v d hd h;simp only [Ty.cells,List.mem_singleton] at hd;subst hd;rw [Rd.eq_val h];exact .val _
 |bool=>intro _ x v d hd h;simp only [Ty.cells,List.mem_singleton] at hd;subst hd;rw [Rd.eq_val h];exact .val _
 |str=>intro _ x v d hd h;simp only [Ty.cells,List.mem_singleton] at hd;subst hd;rw [Rd.eq_val h];exact .val _
 |unit=>intro _ x v d hd h;simp [Ty.cells] at hd
 |rf=>intro hn;simp [Ty.norf] at hn
 |hd=>intro hn;simp [Ty.norf] at hn
 |pair a b iha ihb=>
  intro hn x v d hd h
  simp only [Ty.norf,Bool.and_eq_true] at hn
  simp only [Ty.cells,List.mem_append] at hd
  rcases hd with hd|hd
  ·exact iha hn.1 x.1 v d hd h
  ·exact ihb hn.2 x.2 v d hd h
 |sl t ih=>
  intro hn x v d hd h
  simp only [Ty.cells,List.mem_singleton] at hd
  subst hd
  refine .tl t x v ?_
  have h:=h.untl
  generalize hes:x.map t.enc=es at h
  cases h with
  |slemp a cap=>exact .slemp a cap
  |sl b off cap k _ g hFb hcap hk hg hr=>
   refine .sl b off cap k es g (hF b hFb) hcap hk hg ?_
   intro i j e d' hi hj
   have hi0:=hi
   rw [←hes] at hi0
   simp only [List.getElem?_map,Option.map_eq_some_iff] at hi0
   obtain ⟨y,_,rfl⟩:=hi0
   exact ih hn y _ d' (by rw [←j9];exact List.mem_of_getElem? hj) (hr i j _ d' hi hj)
theorem zNM {w:World} {F F':Blk→Prop} (hF: ∀b:Nat,F b→F' b) {t:Ty} (hn:t.norf=true) {x:t.El} {v:Value} (h:Rd w F v (t.enc x)):Rd w F' v (t.enc x):=by
 cases t with
 |int k=>rw [Rd.eq_val h];exact .val _
 |bool=>rw [Rd.eq_val h];exact .val _
 |str=>rw [Rd.eq_val h];exact .val _
 |rf=>simp [Ty.norf] at hn
 |hd=>simp [Ty.norf] at hn
 |unit=>
  cases h with
  |agg cs _ hl hh=>exact .agg cs _ hl (fun i x d hi hd=>by simp at hd)
 |pair a b=>
  cases h with
  |agg cs _ hl hh=>exact .agg cs _ hl (fun i u d hi hd=>zCD hF (.pair a b) hn x u d (List.mem_of_getElem? hd) (hh i u d hi hd))
 |sl t=>exact zCD hF (.sl t) hn x v _ (by simp [Ty.cells,Ty.enc]) h
theorem zPJ {w:World} {F F':Blk→Prop} (hF: ∀b:Nat,F b→F' b) {t:Ty} (hn:t.norf=true) {b k cap:Nat} {xs:List t.El} (hr:zV w F b k cap (xs.map t.enc)):zV w F' b k cap (xs.map t.enc):=by
 obtain ⟨c,et,h1,h2,h3,h4,h5⟩:=hr
 refine ⟨c,et,h1,h2,h3,h4,fun i j e d x a1 a2 a3=> ?_⟩
 have a0:=a1
 simp only [List.getElem?_map,Option.map_eq_some_iff] at a0
 obtain ⟨y,hy,rfl⟩:=a0
 exact zCD hF t hn y x d (by rw [←j9];exact List.mem_of_getElem? a2) (h5 i j (t.enc y) d x a1 a2 a3)
def RTy.norf:RTy→Bool
 | .p ty=>ty.norf
 | .o ty=>ty.norf
 | .tu tys=>tys.all Ty.norf
theorem zEp {w:World} {F F':Blk→Prop} (hF: ∀b:Nat,F b→F' b): ∀ (ts:List Ty) (x:ElS ts),ts.all Ty.norf=true→ ∀ (i:Nat) (v:Value) (d:V),(encS ts x)[i]? =some d→Rd w F v d→Rd w F' v d
 |[],_,_,i,v,d,hd,_=>by simp [encS] at hd
 |t::ts,x,hn,i,v,d,hd,h=>by
  simp only [List.all_cons,Bool.and_eq_true] at hn
  cases i with
  |zero=>simp only [encS,List.getElem?_cons_zero,Option.some.injEq] at hd;subst hd;exact zNM hF hn.1 h
  |succ i=>exact zEp hF ts x.2 hn.2 i v d (by simpa [encS] using hd) h
theorem zPM {N:Nat} {w:World} {F F':Blk→Prop} {O O':Nat→Prop} (hF: ∀b:Nat,F b→F' b) (hF': ∀b:Nat,N≤b→F' b→F b) (hO: ∀b,N≤b→O' b→O b) {R:RTy} (hn:R.norf=true) {y:R.El} {v:Value} (h:yF N w F O v (R.res y)):yF N w F' O' v (R.res y):=by
 cases R with
 |p ty=>exact zNM (t:=ty) hF hn h
 |o ty=>
  rcases h with h|⟨h0,b,cap,h1,h2,h3,h4,h5,k,h6⟩
  ·exact .inl h
  ·exact .inr ⟨h0,b,cap,h1,h2,h3,fun hh=>h4 (hF' b h2 hh),fun hh=>h5 (hO b h2 hh),k,zPJ (t:=ty) hF hn h6⟩
 |tu tys=>
  have h:Rd w F v (.tup (encS tys y)):=h
  cases h with
  |tup cs _ hl hh=>exact .tup cs _ hl (fun i u d hi hd=>zEp hF tys y hn i u d hd (hh i u d hi hd))
theorem zJS {Γ:Sig} {P:Program} {G:Nat→Option (List V)} {f:FuncId} {X:Type} {dec:List V→Option X} {R:RTy} {g:X→Option R.El} (hn:R.norf=true)
  (h:kX zAg P G f (qF (zA3 dec R g))):kX Γ P G f (qF (zA3 dec R g)):=by
 intro w F O s args ds s' r hsig hG hF hlen hrd hspec
 simp only [qF,zA3] at hspec
 cases hx:dec ds with
 |none=>rw [hx] at hspec;cases hspec
 |some x=>
  rw [hx] at hspec
  simp only [Option.map_eq_some_iff,Prod.mk.injEq] at hspec
  obtain ⟨y,hy,rfl,rfl⟩:=hspec
  have hcall:=h w F (fun _=>False) () args ds () (R.res y) (fun _ h=>h) hG (fun b hb=>⟨(hF b hb).1,fun h=>h⟩) hlen hrd (by simp only [qF,zA3,hx,hy,Option.map_some])
  refine hcall.mono ?_
  rintro e w' ⟨v,F',O',rfl,g1,g2,g3,g4,g5,g6⟩
  let F'':Blk→Prop:=fun b=>match b with
   | .b n=>F' (.b n)
   | .h id a n c=>F (.h id a n c)
  have hkb: ∀b,O b→w'.heap[b]? =w.heap[b]? :=fun b hb=>g2.block b (Γ.inb hsig b hb) (fun h=>h)
  refine ⟨v,F'',O,rfl,Γ.mono hsig (fun _ _ _ _=>Iff.rfl) hkb,⟨g2.os,g2.tape,g2.output,g2.size,fun b hb _=>g2.block b hb (fun h=>h),g2.drawn⟩,fun b hb=> .inl hb,?_,?_,?_⟩
  ·intro b hb
   cases b with
   |b n=>exact g4 _ hb
   |h _ _ _ _=>exact hb
  ·intro b hb
   obtain ⟨h1,h2,_⟩:=g5 b hb
   refine ⟨h1,h2,fun ho=> ?_⟩
   rcases h1 with h1|h1
   ·exact (hF b h1).2 ho
   ·have:=Γ.inb hsig b ho;omega
  ·exact zPM (F:=F') (F':=F'') (fun b hb=>hb) (fun b _ hb=>hb) (fun b hb ho=>by have:=Γ.inb hsig b ho;omega) hn g6
section
variable {tE:Ty} {st:HSt tE} {F F':Blk→Prop} {O:Nat→Prop} {w:World} {hb hc:Nat→Nat}
end
end Go.Ve

namespace Go.Ve
open Go
theorem zBI: ∀ (t:Ty) (x:t.El) (r:List V),t.uncells (t.cells x++r)=some (x,r)
 | .int k,x,r=>by simp [Ty.cells,Ty.uncells,zD6]
 | .bool,x,r=>by simp [Ty.cells,Ty.uncells,zB0]
 | .str,x,r=>by simp [Ty.cells,Ty.uncells,zD5]
 | .unit,x,r=>by simp [Ty.cells,Ty.uncells]
 | .rf,x,r=>by simp [Ty.cells,Ty.uncells,zGw]
 | .hd,x,r=>by simp [Ty.cells,Ty.uncells,zGx]
 | .sl t,x,r=>by simp [Ty.cells,Ty.uncells,zGv]
 | .pair a b,x,r=>by
  simp only [Ty.cells,Ty.uncells,List.append_assoc]
  rw [zBI a x.1]
  simp only
  rw [zBI b x.2]
theorem zRI (t:Ty) (x:t.El):t.dec (t.enc x)=some x:=by
 cases t with
 |int k=>simp [Ty.enc,Ty.dec,zD6]
 |bool=>simp [Ty.enc,Ty.dec,zB0]
 |str=>simp [Ty.enc,Ty.dec,zD5]
 |unit=>rfl
 |rf=>simp [Ty.enc,Ty.dec,zGw]
 |hd=>simp [Ty.enc,Ty.dec,zGx]
 |sl t=>simp [Ty.enc,Ty.dec,zGv]
 |pair a b=>
  have:=zBI (.pair a b) x []
  simp only [List.append_nil] at this
  simp only [Ty.enc,Ty.dec]
  simp only [Ty.cells] at this
  rw [this]
theorem zDU: ∀ (ts:List Ty) (x:ElS ts),zAC ts (encS ts x)=some x
 |[],_=>rfl
 |t::ts,x=>by
  simp only [encS,zAC,zRI,zDU ts]
section
variable {tE:Ty} {st:HSt tE} {F F':Blk→Prop} {O:Nat→Prop} {w:World} {hb hc:Nat→Nat}
end
end Go.Ve

namespace Go.Ve
open Go
@[reducible] def Ty.st:List Ty→Ty
 |[]=> .unit
 |t::ts=> .pair t (Ty.st ts)
abbrev tI:Ty:= .int .i64
abbrev tU:Ty:= .int .u32
abbrev zI:Ty:= .st [tU,tI]
abbrev zAx:Ty:= .st [tI,tU]
abbrev wK:Ty:= .st [.str,tU,tI,tI, .bool, .bool,tI,tI, .bool, .str, .str,tI]
abbrev zPu:Ty:= .st [.bool,zI,tI,tI]
abbrev zCx:Ty:= .st [.str, .sl zPu]
abbrev zFH:Ty:= .st [.bool, .str,tI,tI,tI,tI,tI]
abbrev zFG:Ty:= .st [.str, .sl zFH]
abbrev zJv:Ty:= .st [tU,tU]
abbrev zET:Ty:= .st [tI,tI]
abbrev qT:Ty:= .st [.bool,tI,zJv,zJv,zET,zET]
abbrev yA:Ty:= .st [.str, .sl qT]
abbrev zPv:Ty:= .st [tI,tU,tU,tI,tI,tI, .str,tU,tU]
abbrev zCw:Ty:= .st [zI,tU, .str, .bool,tI,tI]
abbrev zAM:Ty:= .st [tI,tI,tI, .str,tI]
abbrev zHO:Ty:= .st [tI,zI]
abbrev tLS:Ty:= .st [.bool,tI, .sl zHO, .sl zAM]
abbrev tDV:Ty:= .st [.bool,tI, .str, .str, .sl zAM]
abbrev zD7:Ty:= .st [tU,tI, .str, .str]
abbrev zCz:Ty:= .st [zI, .bool]
abbrev zCy:Ty:= .st [zI,zI, .bool]
abbrev tPV:Ty:= .st [.bool,tI,tI, .sl zD7, .sl zI, .sl zCz, .sl zCy, .sl zAM]
abbrev zD:Ty:= .st [.str,tI, .sl wK, .sl zCx, .sl zFG, .sl yA, .sl zPv, .sl zCw,tLS,tDV,tPV]
abbrev zG:Ty:= .st [zI, .sl zAx, .bool]
end Go.Ve

namespace Go.Ve
open Go
def Wp {α:Type} (m:Option α) (Q:α→Prop):Prop:= ∃r,m=some r∧Q r
section
variable {α β ρ σ:Type}
theorem Wp.mono {m:Option α} {Q Q':α→Prop} (h:Wp m Q) (hq: ∀r,Q r→Q' r):Wp m Q':=by
 obtain ⟨r,h1,h2⟩:=h;exact ⟨r,h1,hq r h2⟩
theorem zA {x:α} {Q:α→Prop} (h:Q x):Wp (some x) Q:=⟨x,rfl,h⟩
theorem zB {m:Option α} {f:α→Option β} {Q:β→Prop} (h:Wp m (fun y=>Wp (f y) Q)):Wp (Option.bind m f) Q:=by
 obtain ⟨y,rfl,h⟩:=h;exact h
theorem zH {c:Bool} {x y:Option α} {Q:α→Prop} (h1:c=true→Wp x Q) (h2:c=false→Wp y Q):Wp (bif c then x else y) Q:=by
 cases c
 ·exact h2 rfl
 ·exact h1 rfl
def zAl (P:σ→Prop) (Q:ρ→Prop):σ ⊕ ρ→Prop
 | .inl s=>P s
 | .inr r=>Q r
theorem e2l {P:σ→Prop} {Q:ρ→Prop} {s:σ} (h:P s):zAl P Q (.inl s):=h
theorem e2r {P:σ→Prop} {Q:ρ→Prop} {r:ρ} (h:Q r):zAl P Q (.inr r):=h
theorem qC {m:Option (σ ⊕ ρ)} {K:σ→Option ρ} {Q:ρ→Prop} (h:Wp m (zAl (fun s=>Wp (K s) Q) Q)):Wp (kF m K) Q:=by
 obtain ⟨o,rfl,h⟩:=h
 cases o with
 |inl s=>exact h
 |inr r=>exact ⟨r,rfl,h⟩
theorem wp_loop {f:σ→Option (σ ⊕ ρ)} {Q:ρ→Prop} (J:σ→Prop) (m:σ→Nat) {s0:σ} (h0:J s0)
  (step: ∀s,J s→Wp (f s) (zAl (fun s'=>J s'∧m s'<m s) Q)):Wp (zO f s0) Q:=by
 refine zOB J m Q ?_ h0
 intro s hs
 obtain ⟨o,h1,h2⟩:=step s hs
 refine ⟨o,h1,?_⟩
 cases o with
 |inl s'=>exact h2
 |inr r=>exact h2
theorem jJ {n s0:Int} {body els:Int→Option (Int ⊕ ρ)} {Q:ρ→Prop}
  (step: ∀s,s0≤s→s<n→Wp (body s) (zAl (fun s'=>s'=s+1) Q))
  (fin: ∀s,s0≤s→n≤s→Wp (els s) (zAl (fun _=>False) Q)):Wp (zO (fun s=>bif decide (s<n) then body s else els s) s0) Q:=by
 refine wp_loop (fun s=>s0≤s) (fun s=>(n-s).toNat) (Int.le_refl _) ?_
 intro s hs
 refine zH ?_ ?_
 ·intro hc
  have hc:s<n:=by simpa using hc
  refine (step s hs hc).mono ?_
  intro o ho
  cases o with
  |inl s'=>have:s'=s+1:=ho;subst this;exact ⟨by omega,by omega⟩
  |inr r=>exact ho
 ·intro hc
  have hc:n≤s:=by simpa using hc
  refine (fin s hs hc).mono ?_
  intro o ho
  cases o with
  |inl s'=>exact ho.elim
  |inr r=>exact ho
theorem jB {xs:List α} {i:Int} {Q:α→Prop} (h0:0≤i) (h1:i<xs.length) (h: ∀y,y∈xs→xs[i.toNat]? =some y→Q y):Wp (idx xs i) Q:=by
 unfold idx
 rw [if_pos h0]
 have hl:i.toNat<xs.length:=by omega
 exact ⟨xs[i.toNat],by simp [hl],h _ (List.getElem_mem hl) (by simp [hl])⟩
theorem zP {s:ByteArray} {i:Int} {Q:Int→Prop} (h0:0≤i) (h1:i<s.size) (h: ∀y,0≤y→y<256→Q y):Wp (byteAt s i) Q:=by
 unfold byteAt
 rw [if_pos h0]
 have hl:i.toNat<s.size:=by omega
 refine ⟨(s[i.toNat].toNat:Int),by simp [hl],h _ (by omega) ?_⟩
 have:=s[i.toNat].toNat_lt
 omega
theorem zSf {bytes:Nat} {xs ys:List α} {Q:List α→Prop} (h0:(2*(xs.length+ys.length)+1024)*bytes≤140737488355328) (h:Q (xs++ys)):Wp (app bytes xs ys) Q:=by
 unfold app
 rw [if_pos h0]
 exact ⟨_,rfl,h⟩
end
theorem wrap_i64 {x:Int} (h0: -9223372036854775808≤x) (h1:x<9223372036854775808):IntKind.wrap .i64 x=x:=by
 have e1:((2:Int)^IntKind.bits .i64)=18446744073709551616:=by decide
 have e2:((2:Int)^(IntKind.bits .i64-1))=9223372036854775808:=by decide
 simp only [IntKind.wrap,IntKind.signed,Bool.true_and,decide_eq_true_eq,e1,e2]
 split<;>omega
theorem zJ {α:Type} {p:Prop} [Decidable p] {x y:Option α} {Q:α→Prop} (h1:p→Wp x Q) (h2: ¬p→Wp y Q):Wp (bif decide p then x else y) Q:=by
 by_cases h:p
 ·simp only [h,decide_true,cond_true];exact h1 h
 ·simp only [h,decide_false,cond_false];exact h2 h
end Go.Ve

namespace Go.Ve
open Go
theorem uB {α:Type} {xs:List α} {i:Nat} {x:α} (h:xs[i]? =some x):idx xs (i:Int)=some x:=by
 rw [idx,if_pos (by omega),Int.toNat_natCast];exact h
theorem vJ {α:Type} {m:Option α} {x:α} {Q:α→Prop} (h:m=some x) (hq:Q x):Wp m Q:=⟨x,h,hq⟩
section
variable {α γ ρ:Type}
theorem zNz {xs:List α} {g0:γ} {body:Int×γ→Option γ} {Q:γ→Prop} (hl:xs.length<4611686018427387904) (J:Nat→γ→Prop) (h0:J 0 g0)
  (step: ∀i x g,xs[i]? =some x→J i g→Wp (body ((i:Int),g)) (J (i+1))) (fin: ∀g,J xs.length g→Q g):
  Wp (zO (fun s:Int×γ=>bif decide (s.1< (xs.length:Int)) then Option.bind (body s) (fun g=>some (Sum.inl (IntKind.wrap IntKind.i64 (s.1+(1:Int)),g))) else some (Sum.inr s.2)) ((0:Int),g0)) Q:=by
 refine wp_loop (fun (s:Int×γ)=> ∃i:Nat,s.1=(i:Int)∧i≤xs.length∧J i s.2) (fun (s:Int×γ)=>((xs.length:Int) -s.1).toNat) ⟨(0:Nat),rfl,Nat.zero_le _,h0⟩ ?_
 rintro ⟨s,g⟩ ⟨i,hi,hle,hj⟩
 simp only at hi
 subst hi
 refine zJ ?_ ?_
 ·intro hc
  have hlt:i<xs.length:=by simp only at hc;omega
  refine zB ((step i xs[i] g (by simp [hlt]) hj).mono ?_)
  intro g' hg'
  refine zA ?_
  refine e2l ⟨⟨i+1,?_,hlt,hg'⟩,?_⟩
  ·simp only;rw [wrap_i64 (by omega) (by omega)];omega
  ·simp only;rw [wrap_i64 (by omega) (by omega)];omega
 ·intro hc
  have:i=xs.length:=by simp only at hc;omega
  subst this
  exact zA (e2r (fin _ hj))
theorem zJ9 {xs:List α} {body:Int→Option (Int ⊕ (Unit ⊕ ρ))} {K:Unit→Option ρ} {Q:ρ→Prop} (hl:xs.length<4611686018427387904) (J:Nat→Prop) (h0:J 0)
  (step: ∀i x,xs[i]? =some x→J i→Wp (body (i:Int)) (zAl (fun s'=>s'=IntKind.wrap IntKind.i64 ((i:Int)+1)∧J (i+1)) (zAl (fun _=>False) Q))) (fin:J xs.length→Wp (K ()) Q):
  Wp (kF (zO (fun s:Int=>bif decide (s< (xs.length:Int)) then body s else some (Sum.inr (Sum.inl ()))) (0:Int)) K) Q:=by
 refine qC ?_
 refine wp_loop (fun (s:Int)=> ∃i:Nat,s=(i:Int)∧i≤xs.length∧J i) (fun (s:Int)=>((xs.length:Int) -s).toNat) ⟨(0:Nat),rfl,Nat.zero_le _,h0⟩ ?_
 rintro s ⟨i,hi,hle,hj⟩
 subst hi
 refine zJ ?_ ?_
 ·intro hc
  have hlt:i<xs.length:=by omega
  refine (step i xs[i] (by simp [hlt]) hj).mono ?_
  intro o ho
  cases o with
  |inl s'=>
   obtain ⟨rfl,h2⟩:=ho
   rw [wrap_i64 (by omega) (by omega)]
   exact ⟨⟨i+1,by omega,hlt,h2⟩,by omega⟩
  |inr o=>
   cases o with
   |inl _=>exact ho.elim
   |inr r=>exact ho
 ·intro hc
  have:i=xs.length:=by omega
  subst this
  exact zA (e2r (fin hj))
end
def zBo {α:Type} (p:α→Bool) (xs:List α):Int:=
 match xs.findIdx? p with
 |some i=>i
 |none=> -1
theorem zJU {α:Type} {p:α→Bool} {xs:List α} (h: ∀x,x∈xs→p x=false):zBo p xs= -1:=by
 have:xs.findIdx? p=none:=by rw [List.findIdx?_eq_none_iff];exact h
 simp [zBo,this]
theorem zN1 {α:Type} {p:α→Bool} {xs:List α} {i:Nat} {x:α} (h:xs[i]? =some x) (hp:p x=true) (hn: ∀j y,j<i→xs[j]? =some y→p y=false):zBo p xs=i:=by
 have hlt:=(List.getElem?_eq_some_iff.1 h).1
 have hx:=(List.getElem?_eq_some_iff.1 h).2
 have:xs.findIdx? p=some i:=by
  rw [List.findIdx?_eq_some_iff_getElem]
  refine ⟨hlt,by rw [hx];exact hp,?_⟩
  intro j hj
  have:=hn j xs[j] hj (by simp)
  simp [this]
 simp [zBo,this]
theorem zFg {α:Type} (p:α→Bool) (xs:List α):(zBo p xs= -1∧ ∀x,x∈xs→p x=false)∨ ∃i x,zBo p xs=(i:Nat)∧xs[i]? =some x∧p x=true∧ ∀j y,j<i→xs[j]? =some y→p y=false:=by
 cases h:xs.findIdx? p with
 |none=>left;refine ⟨by simp [zBo,h],?_⟩;rw [List.findIdx?_eq_none_iff] at h;exact h
 |some i=>
  right
  rw [List.findIdx?_eq_some_iff_getElem] at h
  obtain ⟨h1,h2,h3⟩:=h
  have h':xs.findIdx? p=some i:=by rw [List.findIdx?_eq_some_iff_getElem];exact ⟨h1,h2,h3⟩
  refine ⟨i,xs[i],by simp [zBo,h'],by simp [h1],h2,?_⟩
  intro j y hj hy
  obtain ⟨hjl,rfl⟩:=List.getElem?_eq_some_iff.1 hy
  have:=h3 j hj
  simpa using this
theorem zFA {α:Type} {xs:List α} {p:α→Bool} {body:Int→Option (Int ⊕ (Unit ⊕ Int))} {Q:Int→Prop} (hl:xs.length<4611686018427387904)
  (step: ∀ (i:Nat) x,xs[i]? =some x→body (i:Int)=some (bif p x then Sum.inr (Sum.inr (i:Int)) else Sum.inl (IntKind.wrap IntKind.i64 ((i:Int)+1)))) (fin:Q (zBo p xs)):
  Wp (kF (zO (fun s:Int=>bif decide (s< (xs.length:Int)) then body s else some (Sum.inr (Sum.inl ()))) (0:Int)) (fun _=>some (-1:Int))) Q:=by
 refine zJ9 hl (fun i=> ∀j y,j<i→xs[j]? =some y→p y=false) (fun j y hj=>by omega) ?_ ?_
 ·intro i x hx hj
  refine vJ (step i x hx) ?_
  cases hp:p x with
  |true=>
   simp only [cond_true]
   refine e2r (e2r ?_)
   rw [zN1 hx hp hj] at fin
   exact fin
  |false=>
   simp only [cond_false]
   refine e2l ⟨rfl,?_⟩
   intro j y hji hy
   rcases Nat.lt_or_ge j i with h|h
   ·exact hj j y h hy
   ·have:j=i:=by omega
    subst this
    rw [hx] at hy
    cases hy
    exact hp
 ·intro hj
  refine zA ?_
  rw [zJU] at fin
  ·exact fin
  ·intro x hx
   obtain ⟨j,hjl,rfl⟩:=List.getElem_of_mem hx
   exact hj j _ hjl (by simp [hjl])
end Go.Ve

namespace Go.Ve
open Go
section
variable {α ρ:Type}
theorem zPg {xs:List α} {body:Int→Option (Int ⊕ (Unit ⊕ ρ))} {Q:Unit ⊕ ρ→Prop} (hl:xs.length<4611686018427387904) (J:Nat→Prop) (h0:J 0)
  (step: ∀i x,xs[i]? =some x→J i→Wp (body (i:Int)) (zAl (fun s'=>s'=IntKind.wrap IntKind.i64 ((i:Int)+1)∧J (i+1)) (fun o=>(∀u,o≠Sum.inl u)∧Q o))) (fin:J xs.length→Q (Sum.inl ())):
  Wp (zO (fun s:Int=>bif decide (s< (xs.length:Int)) then body s else some (Sum.inr (Sum.inl ()))) (0:Int)) Q:=by
 refine wp_loop (fun (s:Int)=> ∃i:Nat,s=(i:Int)∧i≤xs.length∧J i) (fun (s:Int)=>((xs.length:Int) -s).toNat) ⟨(0:Nat),rfl,Nat.zero_le _,h0⟩ ?_
 rintro s ⟨i,hi,hle,hj⟩
 subst hi
 refine zJ ?_ ?_
 ·intro hc
  have hlt:i<xs.length:=by omega
  refine (step i xs[i] (by simp [hlt]) hj).mono ?_
  intro o ho
  cases o with
  |inl s'=>
   obtain ⟨rfl,h2⟩:=ho
   rw [wrap_i64 (by omega) (by omega)]
   exact ⟨⟨i+1,by omega,hlt,h2⟩,by omega⟩
  |inr o=>exact ho.2
 ·intro hc
  have:i=xs.length:=by omega
  subst this
  exact zA (e2r (fin hj))
theorem zQ2 {xs:List α} {P:α→Prop} {body:Int→Option (Int ⊕ (Unit ⊕ ρ))} {Q:Unit ⊕ ρ→Prop} (hl:xs.length<4611686018427387904)
  (step: ∀ (i:Nat) x,xs[i]? =some x→Wp (body (i:Int)) (zAl (fun s'=>s'=IntKind.wrap IntKind.i64 ((i:Int)+1)∧P x) (fun o=>(∀u,o≠Sum.inl u)∧Q o))) (fin:(∀x,x∈xs→P x)→Q (Sum.inl ())):
  Wp (zO (fun s:Int=>bif decide (s< (xs.length:Int)) then body s else some (Sum.inr (Sum.inl ()))) (0:Int)) Q:=by
 refine zPg hl (fun i=> ∀j y,j<i→xs[j]? =some y→P y) (fun j y hj=>by omega) ?_ (fun h=>fin ?_)
 ·intro i x hx hj
  refine (step i x hx).mono ?_
  intro o ho
  cases o with
  |inl s'=>
   refine ⟨ho.1,?_⟩
   intro j y hj' hy
   rcases Nat.lt_or_ge j i with h'|h'
   ·exact hj j y h' hy
   ·have:j=i:=by omega
    subst this
    rw [hx] at hy
    cases hy
    exact ho.2
  |inr o=>exact ho
 ·intro x hx
  obtain ⟨j,hjl,rfl⟩:=List.getElem_of_mem hx
  exact h j _ hjl (by simp [hjl])
end
end Go.Ve



/-
  Functions out of code, part 5: soundness; contracts of functions.
  The shapes of the program's data.
  Functions out of code: the checks of a network.
  Functions out of code, part 6: contracts of functions to which a list is lent.
-/
import Derived.Test.YtcnlcmbchljpgaaGreatPo8
import Derived.Test.YtcnlcmbchljpgaaGreatPo2
set_option linter.unusedVariables false
namespace Go.Ve
open Go
section
variable {Γ:Sig} {P:Program} {G:Nat→Option (List V)} {e e1 e2:Env Γ.St}
def zPD (G:Nat→Option (List V)) (e e2:Env Γ.St):Prop:=
 ∀ (w0:World) (F0:Blk→Prop) (O0:yT) (a:Act) (w:World),Inv Γ G w0 F0 O0 a w e→Inv Γ G w0 F0 O0 a w e2
theorem zZA (hl:e2.tm.length=e.tm.length) (hst:e2.st=e.st) (ht2: ∀t,WkT (e.get t) (e2.get t))
  (hv2: ∀s cs2,e2.var s=some cs2→ ∃cs,e.var s=some cs∧zAH cs cs2) (hlp: ∀t,zF3 e2 (e2.get t)=true)
  (hlv: ∀s cs2 x,e2.var s=some cs2→x∈cs2→zF3 e2 x=true):zPD G e e2:=by
 intro w0 F0 O0 a w h
 obtain ⟨F,O,β,hc,hG,hsz,hdf,ht,hv⟩:=h
 let al':j6→Prop:=fun x=>zS e x∧ ∀s,x= .v s→ ∃cs,e2.var s=some cs
 have hon: ∀v x,zU w F β (zS e) v x→zF3 e2 x=true→zU w F β al' v x:=by
  intro v x hx hl
  refine hx.on ?_
  have hs:=hx.sites
  cases x with
  |ow i k es=>exact ⟨hs,fun s h=>by cases h⟩
  |oe i k es j off=>exact ⟨hs,fun s h=>by cases h⟩
  |mp i es ck=>exact ⟨hs,fun s h=>by cases h⟩
  |ot i t xs=>exact fun h0=>⟨hs h0,fun s h=>by cases h⟩
  |oet i t xs j off=>exact ⟨hs,fun s h=>by cases h⟩
  |ov i t xs lo hi=>exact fun h0=>⟨hs h0,fun s h=>by cases h⟩
  |lp s off=>
   refine ⟨hs,fun s' h=> ?_⟩
   simp only [j6.v.injEq] at h
   subst h
   exact Option.isSome_iff_exists.1 hl
  |_=>trivial
 refine Inv.of (al:=al') (by rw [hst];exact hc.anti (fun x hx=>hx.1)) hG (by rw [hl];exact hsz) hdf ?_ ?_ ?_
 ·intro t
  exact hon _ _ (ht2 t _ _ _ _ _ (ht t)) (hlp t)
 ·intro s cs2 hcs2
  obtain ⟨cs,h1,h3⟩:=hv2 s cs2 hcs2
  obtain ⟨c,et,g1,g2,g3⟩:=hv s cs h1
  refine ⟨⟨⟨cs,h1⟩,fun s' h=>by simp only [j6.v.injEq] at h;subst h;exact ⟨cs2,hcs2⟩⟩,c,et,g1,g2.trans h3.len,?_⟩
  intro i x y hx hy
  have hlt:i<cs.length:=by rw [h3.len];exact (List.getElem?_eq_some_iff.1 hy).1
  exact hon _ _ (h3.get i cs[i] y (by simp [hlt]) hy _ _ _ _ _ (g3 i x cs[i] hx (by simp [hlt]))) (hlv s cs2 y hcs2 (List.mem_of_getElem? hy))
 ·rintro s ⟨_,hs⟩
  exact hs s rfl
theorem zPF {c:Cell} {x:c.El} : ∀y,y∈zKZ c x→zF3 e y=true:=by
 intro y hy
 cases c with
 |p ty=>
  simp only [zKZ,List.mem_map] at hy
  obtain ⟨d,_,rfl⟩:=hy
  rfl
 |o id ty=>
  simp only [zKZ,List.mem_singleton] at hy
  subst hy
  rfl
theorem zNh: ∀ {cs:List Cell} {x:zQp cs}, ∀y,y∈zHo cs x→zF3 e y=true
 |[],_,y,h=>by simp [zHo] at h
 |[c],x,y,h=>zPF (c:=c) (x:=x) y h
 |c::c'::r,x,y,h=>by
  simp only [zHo,List.mem_append] at h
  rcases h with h|h
  ·exact zPF y h
  ·exact zNh y h
theorem zRF {s:zBx} {x:s.El Γ.St} {i:Nat} {cs:List T} (h:(i,cs)∈zEC s x): ∀y,y∈cs→zF3 e y=true:=by
 intro y hy
 cases s<;>simp only [zEC,List.mem_singleton,Prod.mk.injEq,List.not_mem_nil] at h
 obtain ⟨_,rfl⟩:=h
 exact zNh y hy
theorem zZV: ∀ {l:List zBx} {x:vV Γ.St l} {i:Nat} {cs:List T},(i,cs)∈vS l x→ ∀y,y∈cs→zF3 e y=true
 |[],_,_,_,h=>by simp [vS] at h
 |[s],x,_,_,h=>zRF (s:=s) (x:=x) h
 |s::s'::r,x,_,_,h=>by
  simp only [vS,List.mem_append] at h
  rcases h with h|h
  ·exact zRF h
  ·exact zZV h
theorem zPK {s:zBx} {x:s.El Γ.St} {i:Nat} {y:T} (h:(i,y)∈zDw s x):zF3 e y=true:=by
 cases s<;>simp only [zDw,List.mem_singleton,Prod.mk.injEq,List.not_mem_nil] at h
 all_goals
  obtain ⟨_,rfl⟩:=h
  rfl
theorem zW3: ∀ {l:List zBx} {x:vV Γ.St l} {i:Nat} {y:T},(i,y)∈tmS l x→zF3 e y=true
 |[],_,_,_,h=>by simp [tmS] at h
 |[s],x,_,_,h=>zPK (s:=s) (x:=x) h
 |s::s'::r,x,_,_,h=>by
  simp only [tmS,List.mem_append] at h
  rcases h with h|h
  ·exact zPK h
  ·exact zW3 h
theorem zTh {j:JA} {i:Nat} (h:j.bits.testBit i=false):(zKm j.lps).testBit i=false∧(kX j.sl).testBit i=false:=by
 simp only [JA.bits,kK] at h
 exact h.2
theorem zHB {j:JA} (hst:Subsingleton Γ.St∨zEU j.sl=true) {s:vV Γ.St j.sl} (hA:zZ j.bits e e1) (hr:rdJ j e1=some s):zPD G e1 (jS j e s):=by
 have hchk:zYw e1 j.lps=true∧rdS e1 j.sl=some s:=by
  unfold rdJ at hr
  split at hr
  ·rename_i h;exact ⟨h,hr⟩
  ·cases hr
 obtain ⟨hL,hS⟩:=hchk
 have hv: ∀i cs2,(jS j e s).var i=some cs2→ ∃cs,e1.var i=some cs∧zAH cs cs2:=by
  intro i cs2 h
  rcases zP3 h with h|⟨h1,h2,h3,ds,rfl⟩
  ·exact zZY hS i cs2 h
  ·exact ⟨_,hA.v i ds h2 h3 h1,zAH.refl _⟩
 have hlp1: ∀s' off,zOc (jS j e s).vars s'=true→zF3 (jS j e s) (.lp s' off)=true:=by
  intro s' off h
  obtain ⟨cs,hcs⟩:=zLo.1 h
  simp only [zF3,hcs,Option.isSome_some]
 have q7: ∀t,WkT (e1.get t) ((jS j e s).get t)∧zF3 (jS j e s) ((jS j e s).get t)=true:=by
  intro t
  rcases Nat.lt_or_ge t e.tm.length with hlt|hge
  ·rcases zWd (j:=j) (s:=s) hlt with ⟨y,hy,h1⟩|h1|⟨hb,h1⟩
   ·rw [h1]
    rw [List.mem_append] at hy
    rcases hy with hy|hy
    ·obtain ⟨s',off,h2,rfl⟩:=zN4 hy
     have h3:=zTd hL t s' off h2
     rcases zV8 (jS j e s).vars s' off with h4|⟨h4,h5⟩
     ·rw [h4];exact ⟨.dead _,rfl⟩
     ·rw [h4,h3];exact ⟨.refl _,hlp1 s' off h5⟩
    ·exact ⟨zXs hS t y hy,zW3 hy⟩
   ·rw [h1];exact ⟨.dead _,rfl⟩
   ·rw [h1]
    cases hx:e.get t with
    |p d=>rw [hA.p t d hb hx];exact ⟨.refl _,rfl⟩
    |lp s' off=>
     simp only [zP1]
     split
     ·rename_i hk
      simp only [Bool.and_eq_true,Bool.not_eq_true'] at hk
      rw [hA.lp t s' off hb hk.1 hx]
      exact ⟨.refl _,hlp1 s' off hk.2⟩
     ·exact ⟨.dead _,rfl⟩
    |_=>exact ⟨.dead _,rfl⟩
  ·rw [zXX (e:=jS j e s) (by rw [zHC.1];exact hge)]
   exact ⟨.dead _,rfl⟩
 have hst':(jS j e s).st=e1.st:=by
  rcases hst with hsub|hst
  ·exact Subsingleton.elim _ _
  ·obtain ⟨y,hy⟩:=zRS s hst
   have:=zXt hS y hy
   show qA7 (stS j.sl s) e.st=e1.st
   rw [hy];exact this
 refine zZA (by rw [zHC.1,hA.tl]) hst' (fun t=>(q7 t).1) hv (fun t=>(q7 t).2) ?_
 intro i cs2 x h hx
 rcases zP3 h with h|⟨_,_,_,ds,rfl⟩
 ·exact zZV h x hx
 ·simp only [List.mem_map] at hx
  obtain ⟨d,_,rfl⟩:=hx
  rfl
theorem zSm {j:JA} : ∀ (l:List T) (n:Nat),zT7 j e n l=true→ ∀i s off,l[i]? =some (.lp s off)→j.bits.testBit (2*(n+i))=false→j.bits.testBit (2*s)=false→
  (zAv j.sl s=true∧(e.vars[s]?).isSome=true)∨(zN9 j.bits s (e.var s)).isSome=true
 |[],_,_,i,s,off,h,_,_=>by simp at h
 |x::r,n,hk,i,s,off,h,h1,h2=>by
  have hr:zT7 j e (n+1) r=true:=by
   cases x<;>simp only [zT7,Bool.and_eq_true] at hk<;>first|exact hk|exact hk.2
  cases i with
  |zero=>
   simp only [List.getElem?_cons_zero,Option.some.injEq] at h
   subst h
   simp only [zT7,Bool.and_eq_true,Bool.or_eq_true] at hk
   rw [Nat.add_zero] at h1
   rw [h1,h2] at hk
   rcases hk.1 with ((h3|h3)|h3)|h3
   ·cases h3
   ·cases h3
   ·exact .inl h3
   ·exact .inr h3
  |succ i=>
   simp only [List.getElem?_cons_succ] at h
   exact zSm r (n+1) hr i s off h (by rw [show n+1+i=n+(i+1) by omega];exact h1) h2
theorem zFF {j:JA} {s:vV Γ.St j.sl} (hok:okJ j e=true):zZ j.bits e (jS j e s):=by
 have hlook: ∀t,j.bits.testBit (2*t)=false→ ∀y,(t,y) ∉ zQV (jS j e s).vars j.lps++tmS j.sl s:=by
  intro t ht y hy
  obtain ⟨h1,h2⟩:=zTh ht
  rw [List.mem_append] at hy
  rcases hy with hy|hy
  ·obtain ⟨s',off,h3,_⟩:=zN4 hy
   rw [zTi h3] at h1;cases h1
  ·rw [zVA hy] at h2;cases h2
 have q7: ∀t,j.bits.testBit (2*t)=false→t<e.tm.length→(jS j e s).get t=zP1 j.bits (jS j e s).vars (e.get t):=by
  intro t ht hlt
  have h1:(jS j e s).tm[t]? =_:=zJb j.bits (zQV (jS j e s).vars j.lps++tmS j.sl s) (jS j e s).vars e.tm 0 t
  rw [List.getElem?_eq_getElem hlt,Option.map_some,Nat.zero_add] at h1
  have hg:(jS j e s).get t=((jS j e s).tm[t]?).getD .dead:=by simp [Env.get,List.getD_eq_getElem?_getD]
  have he:e.get t=e.tm[t]:=by simp [Env.get,hlt]
  rw [hg,h1,he]
  simp only [Option.getD_some]
  split
  ·rename_i y hy
   exact absurd (zET hy) (hlook t ht y)
  ·rw [ht]
 have hvar: ∀i (ds:List V),j.bits.testBit (2*i)=false→j.bits.testBit (2*i+1)=false→e.var i=some (ds.map T.p)→(jS j e s).var i=some (ds.map T.p):=by
  intro i ds h1 h2 h3
  apply zE6
  show (xM _ _ _ _)[i]? =_
  rw [zDi,zJc h3,Option.map_some,Nat.zero_add]
  congr 1
  split
  ·rename_i y hy
   have:=zYz (zET hy)
   rw [(zTh h2).2] at this;cases this
  ·have hall: ∀l:List V,zKT (l.map T.p)=true:=by
    intro l
    induction l with
    |nil=>rfl
    |cons x l ih=>simpa [zKT] using ih
   simp [zN9,h1,h2,hall]
 have hlt: ∀t x,e.get t=x→x≠ .dead→t<e.tm.length:=by
  intro t x hx hne
  rcases Nat.lt_or_ge t e.tm.length with h|h
  ·exact h
  ·rw [zXX h] at hx;exact absurd hx.symm hne
 refine ⟨zHC.1,zHC.2,?_,?_,hvar⟩
 ·intro t d ht hx
  rw [q7 t ht (hlt t _ hx (by simp)),hx];rfl
 ·intro t s' off ht hs' hx
  have hl:=hlt t _ hx (by simp)
  rw [q7 t ht hl,hx]
  have hg:e.tm[t]? =some (.lp s' off):=by
   rw [List.getElem?_eq_getElem hl]
   simp only [Env.get,List.getD_eq_getElem?_getD,List.getElem?_eq_getElem hl,Option.getD_some] at hx
   rw [hx]
  have h3:zOc (jS j e s).vars s'=true:=by
   rcases zSm e.tm 0 hok t s' off hg (by rw [Nat.zero_add];exact ht) hs' with ⟨h4,h5⟩|h4
   ·obtain ⟨cs,hcs⟩:=zQA (x:=s) h4
    obtain ⟨y,hy⟩:=Option.isSome_iff_exists.1 h5
    rw [zLo]
    refine ⟨cs,zE6 ?_⟩
    show (xM _ _ _ _)[s']? =_
    rw [zDi,hy,Option.map_some,Nat.zero_add,hcs]
   ·obtain ⟨cs,hcs⟩:=Option.isSome_iff_exists.1 h4
    obtain ⟨h5,h6,h7,ds,rfl⟩:=zN8 hcs
    rw [zLo]
    exact ⟨_,hvar s' ds h6 h7 h5⟩
  simp [zP1,hs',h3]
theorem zPD.code {c:Code} {k:X} (h:jL P G c e k e1) (hf:zPD G e1 e2):jL P G c e k e2:=by
 intro w0 F0 O0 a w hi
 refine wp_mono (h w0 F0 O0 a w hi) ?_
 rintro ex a' w' ⟨rfl,hi'⟩
 exact ⟨rfl,hf _ _ _ _ _ hi'⟩
theorem zPD.loop {c:Code} {k:X} (hf:zPD G e e1) (h:zCw P G c e1 k e2):zCw P G c e k e2:=
 fun w0 F0 O0 a w hi=>h w0 F0 O0 a w (hf _ _ _ _ _ hi)
theorem zLB {j:JA} {lg:Nat} {s:vV Γ.St j.sl} (h:zRa j e lg=some s):rdJ j e=some s∧ ∀t,j.bits.testBit t=false→lg.testBit t=false:=by
 unfold zRa at h
 split at h
 ·rename_i hb
  have hb:=Nat.eq_of_beq_eq_true hb
  refine ⟨h,fun t ht=> ?_⟩
  rw [←hb,kK] at ht
  exact ht.1
 ·cases h
theorem zP0 {A:Nat→Option JA} {t:Nat} {c:Code} {j:JA} (h:zZp A t c=some j): ∃k,A k=some j:=by
 unfold zZp at h
 split at h
 ·exact ⟨_,h⟩
 ·cases h
theorem zHG {S:zM Γ} {A:Nat→Option JA} (hst: ∀k j,A k=some j→Subsingleton Γ.St∨zEU j.sl=true) (hmix:P.follows .mixedOrders=true) (hS:qH Γ P G S.toS): ∀ (c:Code) (ρ:Type) (K:X→Env Γ.St→Nat→Option ρ) (e:Env Γ.St) (lg:Nat) (v:ρ),
  exC P G S A c ρ K e lg=some v→ ∃k e1 d,jL P G c e k e1∧zZ d e e1∧K k e1 (lg|||d)=some v:=by
 intro c
 induction c with
 |skip=>intro ρ K e lg v h;exact ⟨_,_,0, .skip e,zZ.refl e,by rw [Nat.or_zero];exact h⟩
 |exit id=>intro ρ K e lg v h;exact ⟨_,_,0, .exit id e,zZ.refl e,by rw [Nat.or_zero];exact h⟩
 |ret=>intro ρ K e lg v h;exact ⟨_,_,0, .ret e,zZ.refl e,by rw [Nat.or_zero];exact h⟩
 |seq x y ihx ihy=>
  intro ρ K e lg v h
  simp only [exC] at h
  split at h
  ·rename_i j hj0
   obtain ⟨jk,hj⟩:=zP0 hj0
   have hjs:=hst jk j hj
   have fin: ∀ (k:X) (e1:Env Γ.St) (d:Nat) (s:vV Γ.St j.sl),jL P G x e .normal e1→zZ d e e1→zRa j e1 (0|||d)=some s→okJ j e=true→zDh (jS j e s) (fun e1=>exC P G S A y ρ K e1 (lg|||j.bits))=some v→
     ∃k e1 d,jL P G (.seq x y) e k e1∧zZ d e e1∧K k e1 (lg|||d)=some v:=by
    intro k e1 d s h1 h2 h3 hok h4
    rw [uB] at h4
    obtain ⟨h5,h6⟩:=zLB h3
    have hA:zZ j.bits e e1:=h2.mono (fun t ht=>by have:=h6 t ht;rw [Nat.zero_or] at this;exact this)
    obtain ⟨k2,e2,d2,h7,h8,h9⟩:=ihy ρ K _ _ v h4
    exact ⟨k2,e2,j.bits|||d2,(zPD.code h1 (zHB hjs hA h5)).seqN h7,(zFF hok).trans h8,by rw [←Nat.or_assoc];exact h9⟩
   split at h
   ·obtain ⟨hok,h⟩:=yM.1 h
    obtain ⟨s,h1,h2⟩:=bind_some h
    obtain ⟨k,e1,d,h3,h4,h5⟩:=ihx _ _ _ _ _ h1
    cases k with
    |normal=>exact fin .normal e1 d s h3 h4 h5 hok h2
    |exit id=>cases h5
    |ret=>cases h5
   ·obtain ⟨hok,h⟩:=yM.1 h
    have h0: ∃o,exC P G S A x (vV Γ.St j.sl ⊕ ρ) (fun k e1 lg1=>match k with
     | .normal=>(zRa j e1 lg1).map .inl
     |k=>(K k e1 (lg|||lg1)).map .inr) e 0=some o∧match o with
     | .inl s=>zDh (jS j e s) (fun e1=>exC P G S A y ρ K e1 (lg|||j.bits))=some v
     | .inr r=>r=v:=by
     unfold q8 at h
     split at h
     ·cases h
     ·rename_i s hs;exact ⟨_,hs,h⟩
     ·rename_i r hr;exact ⟨_,hr,by simpa using h⟩
    obtain ⟨o,h1,h2⟩:=h0
    obtain ⟨k,e1,d,h3,h4,h5⟩:=ihx _ _ _ _ _ h1
    have other:k≠ .normal→(K k e1 (lg|||(0|||d))).map (Sum.inr (α:=vV Γ.St j.sl))=some o→ ∃k e1 d,jL P G (.seq x y) e k e1∧zZ d e e1∧K k e1 (lg|||d)=some v:=by
     intro hk hm
     rw [Option.map_eq_some_iff] at hm
     obtain ⟨r,hr,rfl⟩:=hm
     simp only at h2
     subst h2
     exact ⟨k,e1,d,h3.seqX hk,h4,by rw [Nat.zero_or] at hr;exact hr⟩
    cases k with
    |normal=>
     simp only [Option.map_eq_some_iff] at h5
     obtain ⟨s,hs,rfl⟩:=h5
     exact fin .normal e1 d s h3 h4 hs hok h2
    |exit id=>exact other (by simp) h5
    |ret=>exact other (by simp) h5
  ·obtain ⟨k,e1,d,h1,h2,h3⟩:=ihx _ _ _ _ _ h
   cases k with
   |normal=>
    obtain ⟨k2,e2,d2,h4,h5,h6⟩:=ihy _ _ _ _ _ h3
    exact ⟨k2,e2,d|||d2,h1.seqN h4,h2.trans h5,by rw [←Nat.or_assoc];exact h6⟩
   |exit id=>exact ⟨_,e1,d,h1.seqX (by simp),h2,h3⟩
   |ret=>exact ⟨_,e1,d,h1.seqX (by simp),h2,h3⟩
 |cond c x y ihx ihy=>
  intro ρ K e lg v h
  simp only [exC] at h
  split at h
  ·rename_i b hb
   cases b with
   |true=>
    obtain ⟨k,e1,d,h1,h2,h3⟩:=ihx _ _ _ _ _ h
    exact ⟨k,e1,d,jL.condB hb h1,h2,h3⟩
   |false=>
    obtain ⟨k,e1,d,h1,h2,h3⟩:=ihy _ _ _ _ _ h
    exact ⟨k,e1,d,jL.condB hb h1,h2,h3⟩
  ·cases h
 |block id c ih=>
  intro ρ K e lg v h
  simp only [exC] at h
  obtain ⟨k,e1,d,h1,h2,h3⟩:=ih _ _ _ _ _ h
  exact ⟨_,e1,d,h1.block,h2,h3⟩
 |loop c ih=>
  intro ρ K e lg v h
  simp only [exC] at h
  split at h
  ·rename_i j hj0
   obtain ⟨jk,hj⟩:=zP0 hj0
   have hjs:=hst jk j hj
   obtain ⟨hok,h⟩:=yM.1 h
   obtain ⟨s0,h1,h2⟩:=bind_some h
   simp only [uB] at h2
   rw [zHz] at h2
   obtain ⟨n,hn⟩:=h2
   have key: ∀ (n:Nat) (s:vV Γ.St j.sl),zDL (fun s=>exC P G S A c (vV Γ.St j.sl ⊕ ρ) (fun k e1 lg1=>match k with
    | .normal=>(zRa j e1 lg1).map .inl
    |k=>(K k e1 (lg|||(j.bits|||lg1))).map .inr) (jS j e s) 0) n s=some v→ ∃k e1 d,zCw P G c (jS j e s) k e1∧zZ (j.bits|||d) e e1∧K k e1 (lg|||(j.bits|||d))=some v:=by
    intro n
    induction n with
    |zero=>intro s hs;simp [zDL] at hs
    |succ n ihn=>
     intro s hs
     simp only [zDL] at hs
     have other: ∀ (o:vV Γ.St j.sl ⊕ ρ) (k:X) (e1:Env Γ.St) (d:Nat),k≠ .normal→jL P G c (jS j e s) k e1→zZ d (jS j e s) e1→(K k e1 (lg|||(j.bits|||(0|||d)))).map (Sum.inr (α:=vV Γ.St j.sl))=some o→
       (∃r,o= .inr r∧K k e1 (lg|||(j.bits|||d))=some r)∧zCw P G c (jS j e s) k e1∧zZ (j.bits|||d) e e1:=by
      intro o k e1 d hk h3 h4 hm
      rw [Option.map_eq_some_iff] at hm
      obtain ⟨r,hr,rfl⟩:=hm
      rw [Nat.zero_or] at hr
      exact ⟨⟨r,rfl,hr⟩, .last h3 hk,(zFF hok).trans h4⟩
     split at hs
     ·cases hs
     ·rename_i s' hs'
      obtain ⟨k,e1,d,h3,h4,h5⟩:=ih _ _ _ _ _ hs'
      cases k with
      |normal=>
       simp only [Option.map_eq_some_iff] at h5
       obtain ⟨s1,hs1,heq⟩:=h5
       simp only [Sum.inl.injEq] at heq
       subst heq
       obtain ⟨h6,h7⟩:=zLB hs1
       have hA:zZ j.bits e e1:=(zFF hok).same (h4.mono (fun t ht=>by have:=h7 t ht;rw [Nat.zero_or] at this;exact this))
       obtain ⟨k2,e2,d2,h8,h9,h10⟩:=ihn _ hs
       exact ⟨k2,e2,d2,zCw.step (zPD.code h3 (zHB hjs hA h6)) h8,h9,h10⟩
      |exit id=>obtain ⟨⟨r,hr,_⟩,_⟩:=other _ _ _ _ (by simp) h3 h4 h5;cases hr
      |ret=>obtain ⟨⟨r,hr,_⟩,_⟩:=other _ _ _ _ (by simp) h3 h4 h5;cases hr
     ·rename_i r hs'
      simp only [Option.some.injEq] at hs
      subst hs
      obtain ⟨k,e1,d,h3,h4,h5⟩:=ih _ _ _ _ _ hs'
      cases k with
      |normal=>
       simp only [Option.map_eq_some_iff] at h5
       obtain ⟨s1,hs1,heq⟩:=h5
       cases heq
      |exit id=>
       obtain ⟨⟨r',hr,hK⟩,hL,hA⟩:=other _ _ _ _ (by simp) h3 h4 h5
       simp only [Sum.inr.injEq] at hr
       subst hr
       exact ⟨_,e1,d,hL,hA,hK⟩
      |ret=>
       obtain ⟨⟨r',hr,hK⟩,hL,hA⟩:=other _ _ _ _ (by simp) h3 h4 h5
       simp only [Sum.inr.injEq] at hr
       subst hr
       exact ⟨_,e1,d,hL,hA,hK⟩
   obtain ⟨k,e1,d,h3,h4,h5⟩:=key n s0 hn
   exact ⟨k,e1,_,jL.loop (zPD.loop (zHB hjs ((zZ.refl e).mono (fun t _=>by simp)) h1) h3),h4,h5⟩
  ·have key: ∀ (n:Nat) (e:Env Γ.St) (lg:Nat),zJC (exC P G S A c ρ) K n e lg=some v→ ∃k e1 d,zCw P G c e k e1∧zZ d e e1∧K k e1 (lg|||d)=some v:=by
    intro n
    induction n with
    |zero=>intro e lg h;simp [zJC] at h
    |succ n ihn=>
     intro e lg h
     simp only [zJC] at h
     obtain ⟨k,e1,d,h5,h6,h7⟩:=ih _ _ _ _ _ h
     cases k with
     |normal=>
      obtain ⟨k2,e2,d2,h8,h9,h10⟩:=ihn e1 _ h7
      exact ⟨k2,e2,d|||d2,zCw.step h5 h8,h6.trans h9,by rw [←Nat.or_assoc];exact h10⟩
     |exit id=>exact ⟨_,e1,d, .last h5 (by simp),h6,h7⟩
     |ret=>exact ⟨_,e1,d, .last h5 (by simp),h6,h7⟩
   obtain ⟨k,e1,d,h4,h5,h6⟩:=key _ e lg h
   exact ⟨k,e1,d,jL.loop h4,h5,h6⟩
 |region id ops draw=>
  intro ρ K e lg v h
  simp only [exC] at h
  split at h
  ·rename_i j hj
   have hjs:=hst _ j hj
   obtain ⟨hok,h⟩:=yM.1 h
   obtain ⟨s,h1,h2⟩:=bind_some h
   obtain ⟨e1,n,h3,h4,h5⟩:=zNE hmix hS (id:=id) h1
   rw [uB] at h2
   obtain ⟨h6,h7⟩:=zLB h5
   have hA:zZ j.bits e e1:=h4.mono (fun t ht=>by have:=h7 t ht;rw [Nat.zero_or] at this;exact this)
   exact ⟨.normal,jS j e s,j.bits,zPD.code h3 (zHB hjs hA h6),zFF hok,h2⟩
  ·obtain ⟨e1,n,h3,h4,h5⟩:=zNE hmix hS (id:=id) h
   exact ⟨.normal,e1,n,h3,h4,h5⟩
 |_=>intro ρ K e lg v h;simp [exC] at h
inductive RTy where
 |p (ty:Ty)
 |o (ty:Ty)
 |tu (tys:List Ty)
@[reducible] def RTy.El:RTy→Type
 | .p ty=>ty.El
 | .o ty=>List ty.El
 | .tu tys=>ElS tys
def RTy.get:(R:RTy)→RV→Option R.El
 | .p ty, .p d=>ty.dec d
 | .p (.sl ty), .ownT t' xs=>zC9 t' ty xs
 | .p ty, .own []=>ty.dec (.sl [])
 | .p _,_=>none
 | .o ty, .ownT t' xs=>zC9 t' ty xs
 | .o _, .p (.val (.slice none 0 0))=>some []
 | .o _, .own []=>some []
 | .o _,_=>none
 | .tu tys, .p (.tup ds)=>zEy tys ds
 | .tu _,_=>none
def RTy.res:(R:RTy)→R.El→RV
 | .p ty,x=> .p (ty.enc x)
 | .o ty,xs=> .ownT ty xs
 | .tu tys,x=> .p (.tup (kQ tys x))
def RTy.pl:RTy→Bool
 | .p ty=>ty.flat
 | .o ty=>ty.flat
 | .tu tys=>tys.all Ty.flat
theorem RTy.get_sound {N:Nat} {w:World} {F:Blk→Prop} {O:Nat→Prop} {v:Value} {R:RTy} {r:RV} {y:R.El} (h:R.get r=some y) (hr:xY N w F O v r):
  ∃F':Blk→Prop,(∀b,F b→F' b)∧(∀id a n c,F' (.h id a n c)↔F (.h id a n c))∧(∀b:Nat,F' b→F b∨(N≤b∧b<w.heap.size∧ ¬O b))∧xY N w F' O v (R.res y):=by
 have same:xY N w F O v (R.res y)→ ∃F':Blk→Prop,(∀b,F b→F' b)∧(∀id a n c,F' (.h id a n c)↔F (.h id a n c))∧(∀b:Nat,F' b→F b∨(N≤b∧b<w.heap.size∧ ¬O b))∧xY N w F' O v (R.res y):=
  fun h=>⟨F,fun _ h=>h,fun _ _ _ _=>Iff.rfl,fun _ h=> .inl h,h⟩
 unfold RTy.get at h
 split at h
 ·exact same (kW h _ _ _ hr)
 ·rename_i ty t' xs
  exact zMd (r:= .ownT t' xs) (r':= .p (.tl ty y)) (uG h) hr
 ·rename_i ty _
  refine same ?_
  rcases hr with ⟨_,a0,rfl⟩|⟨h',_⟩
  ·exact kW h _ _ _ (.slemp a0 0)
  ·exact absurd rfl h'
 ·cases h
 ·rename_i ty t' xs
  exact zMd (r:= .ownT t' xs) (r':= .ownT ty y) (uG h) hr
 ·simp only [Option.some.injEq] at h;subst h
  exact same (.inl ⟨rfl,none,Rd.eq_val hr⟩)
 ·simp only [Option.some.injEq] at h;subst h
  exact same hr
 ·cases h
 ·exact same (WkV.tup (uP _ _ _ h) _ _ _ hr)
 ·cases h
noncomputable def exF (L:jE) (G:Nat→Option (List V)) (S:zM Γ) (A:Nat→Option JA) (fn:Func) (c:Code) (R:RTy) (s:Γ.St) (ds:List V):Option R.El:=
 zDh (start fn.ntmps s ds) (fun e=>exC L G S A c R.El (fun k e1 _=>match k with
  | .exit _=>none
  |_=>match zCc L e1 fn with
   |some r=>R.get r
   |none=>none) e 0)
def vD {X:Type} (dec:List V→Option X) (R:RTy) (g:X→Option R.El):Γ.St→List V→Option (zDb Γ.St):=fun s ds=>
 match dec ds with
 |some x=>some ⟨R.El,g x,fun _=>s,R.res,R.pl⟩
 |none=>none
def wE (ts:List Ty) (R:RTy) (g:ElS ts→Option R.El):Γ.St→List V→Option (zDb Γ.St):=vD (zEy ts) R g
inductive ATy where
 |d (ty:Ty)
 |pp (ty:Ty)
 |clo (f:Nat) (caps:List (Bool×Ty))
@[reducible] def zYN:List (Bool×Ty)→Type
 |[]=>Unit
 |c::r=>c.2.El×zYN r
@[reducible] def ATy.El:ATy→Type
 | .d ty=>ty.El
 | .pp ty=>ty.El
 | .clo _ caps=>zYN caps
@[reducible] def ElA:List ATy→Type
 |[]=>Unit
 |t::ts=>t.El×ElA ts
def zUA:(l:List (Bool×Ty))→zYN l→List V
 |[],_=>[]
 |(b,t)::r,x=>(match b with
  |true=> .pp (t.cells x.1)
  |false=>t.enc x.1)::zUA r x.2
def ATy.enc:(t:ATy)→t.El→V
 | .d ty,x=>ty.enc x
 | .pp ty,x=> .pp (ty.cells x)
 | .clo f caps,x=> .clo f (zUA caps x)
def zUB:(ts:List ATy)→ElA ts→List V
 |[],_=>[]
 |t::ts,x=>t.enc x.1::zUB ts x.2
def zVx (t:Ty):V→Option t.El
 | .pp cs=>match t.uncells cs with
  |some (x,[])=>some x
  |_=>none
 |_=>none
def zJs:(l:List (Bool×Ty))→List V→Option (zYN l)
 |[],[]=>some ()
 |(b,t)::r,d::ds=>match b with
  |true=>match zVx t d with
   |some x=>match zJs r ds with
    |some xs=>some (x,xs)
    |none=>none
   |none=>none
  |false=>match t.dec d with
   |some x=>match zJs r ds with
    |some xs=>some (x,xs)
    |none=>none
   |none=>none
 |_,_=>none
def ATy.dec:(t:ATy)→V→Option t.El
 | .d ty,v=>ty.dec v
 | .pp ty,v=>zVx ty v
 | .clo f caps, .clo g ds=>match Nat.beq g f with
  |true=>zJs caps ds
  |false=>none
 | .clo _ _,_=>none
def uF:(ts:List ATy)→List V→Option (ElA ts)
 |[],[]=>some ()
 |t::ts,d::ds=>match t.dec d with
  |some x=>match uF ts ds with
   |some xs=>some (x,xs)
   |none=>none
  |none=>none
 |_,_=>none
def zXa (ts:List ATy) (R:RTy) (g:ElA ts→Option R.El):Γ.St→List V→Option (zDb Γ.St):=vD (uF ts) R g
def zM.none (Γ:Sig):zM Γ:=fun _ _ _=>Option.none
def zM.add (S:zM Γ) (f:FuncId) (sp:Γ.St→List V→Option (zDb Γ.St)):zM Γ:=fun g s ds=>
 match Nat.beq g f with
 |true=>match zCN ds with
  |true=>S g s ds
  |false=>match sp s ds with
   | .some c=>some c
   | .none=>S g s ds
 |false=>S g s ds
def qO (sp:Γ.St→List V→Option (zDb Γ.St)):Γ.St→List V→Option (Γ.St×RV):=fun s ds=>
 match sp s ds with
 |some c=>c.m.map (fun y=>(c.st y,c.res y))
 |none=>none
theorem z8:qH Γ P G (zM.none Γ).toS:=by
 have:(zM.none Γ).toS=zM6 Γ:=by funext f s ds;rfl
 rw [this];exact zII
theorem qW {S:zM Γ} (hS:qH Γ P G S.toS) {f:FuncId} {sp:Γ.St→List V→Option (zDb Γ.St)} (hi:zG3 P f=true) (h:wY Γ P G f (qO sp)):qH Γ P G (S.add f sp).toS:=by
 have e0: ∀s ds,zCN ds=true→(S.add f sp).toS f s ds=S.toS f s ds:=by
  intro s ds hb
  simp only [zM.toS,zM.add,Nat.beq_refl,hb]
 have e1: ∀s ds,zCN ds=false→(S.add f sp).toS f s ds=if (sp s ds).isSome then qO sp s ds else S.toS f s ds:=by
  intro s ds hb
  simp only [zM.toS,zM.add,qO,Nat.beq_refl,hb]
  cases sp s ds<;>rfl
 have e2: ∀g,g≠f→(S.add f sp).toS g=S.toS g:=by
  intro g hg
  funext s ds
  have:Nat.beq g f=false:=by
   cases hb:Nat.beq g f with
   |false=>rfl
   |true=>exact absurd (Nat.eq_of_beq_eq_true hb) hg
  simp only [zM.toS,zM.add,this]
 have hnf: ∀k,P.funcs[k]? =none→k≠f:=by
  rintro k hk rfl
  simp [zG3,hk] at hi
 refine ⟨?_,?_,fun hno st q t ys bytes st' d h=>hS.app hno st q t ys bytes st' d (by rw [←e2 _ (hnf _ hno)];exact h),?_⟩
 ·intro g
  by_cases hg:g=f
  ·subst hg
   intro w F O s args ds s' r a1 a2 a3 a4 a5 a6
   cases hb:zCN ds with
   |true=>
    rw [e0 s ds hb] at a6
    exact hS.ok g w F O s args ds s' r a1 a2 a3 a4 a5 a6
   |false=>
    rw [e1 s ds hb] at a6
    split at a6
    ·exact h w F O s args ds s' r a1 a2 a3 a4 a5 a6
    ·exact hS.ok g w F O s args ds s' r a1 a2 a3 a4 a5 a6
  ·rw [e2 g hg];exact hS.ok g
 ·intro g s ds r hr hbot
  by_cases hg:g=f
  ·subst hg
   unfold zG3 at hi
   split at hi
   ·rename_i fn hfn
    simp only [Bool.and_eq_true,Bool.not_eq_true'] at hi
    exact ⟨fn,hfn,hi.1,hi.2⟩
   ·cases hi
  ·rw [e2 g hg] at hr;exact hS.is g s ds r hr hbot
 ·intro g st t xs ds st' ys d h
  by_cases hg:g=f
  ·subst hg;rw [e0 _ _ rfl] at h;exact hS.bor g st t xs ds st' ys d h
  ·rw [e2 g hg] at h;exact hS.bor g st t xs ds st' ys d h
def zM.addB (S:zM Γ) (f:FuncId) (sp:Γ.St→List V→Option (zDb Γ.St)):zM Γ:=fun g s ds=>
 match Nat.beq g f with
 |true=>match ds with
  | .bot::r=>match sp s r with
   | .some c=>some c
   | .none=>S g s ds
  |_=>S g s ds
 |false=>S g s ds
def RTy.val:(R:RTy)→R.El→V
 | .p ty,x=>ty.enc x
 | .o ty,xs=> .tl ty xs
 | .tu tys,x=> .tup (kQ tys x)
def vG (t:Ty) {X:Type} (dec:List V→Option X) (R:RTy) (g:List t.El→X→Option (List t.El×R.El)):Γ.St→List V→Option (zDb Γ.St):=fun s ds=>
 match ds with
 | .tl t' xs::r=>match zC9 t' t xs with
  |some ys=>match dec r with
   |some x=>some ⟨List t.El×R.El,g ys x,fun _=>s,fun y=> .p (.tup [.tl t y.1,R.val y.2]),false⟩
   |none=>none
  |none=>none
 |_=>none
def zBt (Γ:Sig) (P:Program) (G:Nat→Option (List V)) (f:FuncId) (t:Ty) {X:Type} (dec:List V→Option X) (R:RTy) (g:List t.El→X→Option (List t.El×R.El)):Prop:=
 ∀ (s:Γ.St) (xs:List t.El) (r:List V) (x:X) (ys:List t.El) (y:R.El),dec r=some x→g xs x=some (ys,y)→zBu Γ P G f s t xs r s ys (R.val y)
theorem wD {S:zM Γ} (hS:qH Γ P G S.toS) {f:FuncId} {t:Ty} {X:Type} {dec:List V→Option X} {R:RTy} {g:List t.El→X→Option (List t.El×R.El)} (hi:zG3 P f=true)
  (h:zBt Γ P G f t dec R g):qH Γ P G (S.addB f (vG t dec R g)).toS:=by
 have e0: ∀s ds,zCN ds=false→(S.addB f (vG t dec R g)).toS f s ds=S.toS f s ds:=by
  intro s ds hb
  simp only [zM.toS,zM.addB,Nat.beq_refl]
  cases ds with
  |nil=>rfl
  |cons d r=>cases d<;>first|rfl|cases hb
 have e1: ∀s r,(S.addB f (vG t dec R g)).toS f s (.bot::r)=match vG (Γ:=Γ) t dec R g s r with
   |some c=>c.m.map (fun y=>(c.st y,c.res y))
   |none=>S.toS f s (.bot::r):=by
  intro s r
  simp only [zM.toS,zM.addB,Nat.beq_refl]
  cases vG (Γ:=Γ) t dec R g s r<;>rfl
 have e2: ∀g',g'≠f→(S.addB f (vG t dec R g)).toS g'=S.toS g':=by
  intro g' hg
  funext s ds
  have:Nat.beq g' f=false:=by
   cases hb:Nat.beq g' f with
   |false=>rfl
   |true=>exact absurd (Nat.eq_of_beq_eq_true hb) hg
  simp only [zM.toS,zM.addB,this]
 have hnf: ∀k,P.funcs[k]? =none→k≠f:=by
  rintro k hk rfl
  simp [zG3,hk] at hi
 have hisf : ∃ fn, P.funcs[f]? = some fn ∧ fn.body.isSome = true ∧ (fn.name == "runtime.NumGoroutine") = false := by
  unfold zG3 at hi
  split at hi
  ·rename_i fn hfn
   simp only [Bool.and_eq_true,Bool.not_eq_true'] at hi
   exact ⟨fn,hfn,hi.1,hi.2⟩
  ·cases hi
 refine ⟨?_,?_,fun hno st q t ys bytes st' d h=>hS.app hno st q t ys bytes st' d (by rw [←e2 _ (hnf _ hno)];exact h),?_⟩
 ·intro g'
  by_cases hg:g'=f
  ·subst hg
   intro w F O s args ds s' r a1 a2 a3 a4 a5 a6
   cases hb:zCN ds with
   |false=>
    rw [e0 s ds hb] at a6
    exact hS.ok g' w F O s args ds s' r a1 a2 a3 a4 a5 a6
   |true=>
    exfalso
    cases ds with
    |nil=>cases hb
    |cons d ds=>
     cases d with
     |bot=>
      have h0:0<args.size:=by rw [a4];simp
      have hnb: ∀u:Value, ¬Rd w F u .bot:=fun u h=>by cases h
      exact hnb _ (a5 0 args[0] .bot (by simp [h0]) rfl)
     |_=>cases hb
  ·rw [e2 g' hg];exact hS.ok g'
 ·intro g' s ds r hr hbot
  by_cases hg:g'=f
  ·subst hg;exact hisf
  ·rw [e2 g' hg] at hr;exact hS.is g' s ds r hr hbot
 ·intro g' st t0 xs ds st' ys d h0
  by_cases hg:g'=f
  ·subst hg
   rw [e1] at h0
   split at h0
   ·rename_i cx hc
    refine ⟨?_,hisf⟩
    simp only [vG] at hc
    cases hzs:zC9 t0 t xs with
    |none=>rw [hzs] at hc;cases hc
    |some zs=>
     rw [hzs] at hc
     obtain ⟨ht,hz⟩:=uL (uG hzs)
     subst ht
     subst hz
     cases hx:dec ds with
     |none=>rw [hx] at hc;cases hc
     |some x=>
      rw [hx] at hc
      simp only [Option.some.injEq] at hc
      rw [←hc] at h0
      simp only [Option.map_eq_some_iff,Prod.mk.injEq,RV.p.injEq,V.tup.injEq,List.cons.injEq,and_true,V.tl.injEq,true_and] at h0
      obtain ⟨⟨ys',y⟩,h1,rfl,h2,h3⟩:=h0
      have h2:=eq_of_heq h2
      subst h2
      subst h3
      exact h _ _ _ x _ _ hx h1
   ·exact hS.bor g' st t0 xs ds st' ys d h0
  ·rw [e2 g' hg] at h0;exact hS.bor g' st t0 xs ds st' ys d h0
def zD5 (t:Ty) {X:Type} (dec:List V→Option X) (g:List t.El→X→Option (List t.El)):Γ.St→List V→Option (zDb Γ.St):=fun s ds=>
 match ds with
 | .tl t' xs::r=>match zC9 t' t xs with
  |some ys=>match dec r with
   |some x=>some ⟨List t.El,g ys x,fun _=>s,fun y=> .p (.tup [.tl t y, .bot]),true⟩
   |none=>none
  |none=>none
 |_=>none
def zVD (Γ:Sig) (P:Program) (G:Nat→Option (List V)) (f:FuncId) (t:Ty) {X:Type} (dec:List V→Option X) (g:List t.El→X→Option (List t.El)):Prop:=
 ∀ (s:Γ.St) (xs:List t.El) (r:List V) (x:X) (ys:List t.El),dec r=some x→g xs x=some ys→zBu Γ P G f s t xs r s ys .bot
theorem zRN {S:zM Γ} (hS:qH Γ P G S.toS) {f:FuncId} {t:Ty} {X:Type} {dec:List V→Option X} {g:List t.El→X→Option (List t.El)} (hi:zG3 P f=true)
  (h:zVD Γ P G f t dec g):qH Γ P G (S.addB f (zD5 t dec g)).toS:=by
 have e0: ∀s ds,zCN ds=false→(S.addB f (zD5 t dec g)).toS f s ds=S.toS f s ds:=by
  intro s ds hb
  simp only [zM.toS,zM.addB,Nat.beq_refl]
  cases ds with
  |nil=>rfl
  |cons d r=>cases d<;>first|rfl|cases hb
 have e1: ∀s r,(S.addB f (zD5 t dec g)).toS f s (.bot::r)=match zD5 (Γ:=Γ) t dec g s r with
   |some c=>c.m.map (fun y=>(c.st y,c.res y))
   |none=>S.toS f s (.bot::r):=by
  intro s r
  simp only [zM.toS,zM.addB,Nat.beq_refl]
  cases zD5 (Γ:=Γ) t dec g s r<;>rfl
 have e2: ∀g',g'≠f→(S.addB f (zD5 t dec g)).toS g'=S.toS g':=by
  intro g' hg
  funext s ds
  have:Nat.beq g' f=false:=by
   cases hb:Nat.beq g' f with
   |false=>rfl
   |true=>exact absurd (Nat.eq_of_beq_eq_true hb) hg
  simp only [zM.toS,zM.addB,this]
 have hnf: ∀k,P.funcs[k]? =none→k≠f:=by
  rintro k hk rfl
  simp [zG3,hk] at hi
 have hisf : ∃ fn, P.funcs[f]? = some fn ∧ fn.body.isSome = true ∧ (fn.name == "runtime.NumGoroutine") = false := by
  unfold zG3 at hi
  split at hi
  ·rename_i fn hfn
   simp only [Bool.and_eq_true,Bool.not_eq_true'] at hi
   exact ⟨fn,hfn,hi.1,hi.2⟩
  ·cases hi
 refine ⟨?_,?_,fun hno st q t ys bytes st' d h=>hS.app hno st q t ys bytes st' d (by rw [←e2 _ (hnf _ hno)];exact h),?_⟩
 ·intro g'
  by_cases hg:g'=f
  ·subst hg
   intro w F O s args ds s' r a1 a2 a3 a4 a5 a6
   cases hb:zCN ds with
   |false=>
    rw [e0 s ds hb] at a6
    exact hS.ok g' w F O s args ds s' r a1 a2 a3 a4 a5 a6
   |true=>
    exfalso
    cases ds with
    |nil=>cases hb
    |cons d ds=>
     cases d with
     |bot=>
      have h0:0<args.size:=by rw [a4];simp
      have hnb: ∀u:Value, ¬Rd w F u .bot:=fun u h=>by cases h
      exact hnb _ (a5 0 args[0] .bot (by simp [h0]) rfl)
     |_=>cases hb
  ·rw [e2 g' hg];exact hS.ok g'
 ·intro g' s ds r hr hbot
  by_cases hg:g'=f
  ·subst hg;exact hisf
  ·rw [e2 g' hg] at hr;exact hS.is g' s ds r hr hbot
 ·intro g' st t0 xs ds st' ys d h0
  by_cases hg:g'=f
  ·subst hg
   rw [e1] at h0
   split at h0
   ·rename_i cx hc
    refine ⟨?_,hisf⟩
    simp only [zD5] at hc
    cases hzs:zC9 t0 t xs with
    |none=>rw [hzs] at hc;cases hc
    |some zs=>
     rw [hzs] at hc
     obtain ⟨ht,hz⟩:=uL (uG hzs)
     subst ht
     subst hz
     cases hx:dec ds with
     |none=>rw [hx] at hc;cases hc
     |some x=>
      rw [hx] at hc
      simp only [Option.some.injEq] at hc
      rw [←hc] at h0
      simp only [Option.map_eq_some_iff,Prod.mk.injEq,RV.p.injEq,V.tup.injEq,List.cons.injEq,and_true,V.tl.injEq,true_and] at h0
      obtain ⟨ys',h1,rfl,h2,h3⟩:=h0
      have h2:=eq_of_heq h2
      subst h2
      subst h3
      exact h _ _ _ x _ hx h1
   ·exact hS.bor g' st t0 xs ds st' ys d h0
  ·rw [e2 g' hg] at h0;exact hS.bor g' st t0 xs ds st' ys d h0
theorem WkV.pp {xs ys:List V} (h:wW xs ys):WkV (.pp xs) (.pp ys):=by
 intro w F v hr
 cases hr with
 |pp b off cs g hF hg hr0=>
  refine .pp b off ys g hF (fun m hm=>hg m (by rw [h.len];exact hm)) ?_
  intro m d hd
  have hlt:m<xs.length:=by rw [h.len];exact (List.getElem?_eq_some_iff.1 hd).1
  exact h.get m xs[m] d (by simp [hlt]) hd w F _ (hr0 m xs[m] (by simp [hlt]))
theorem WkV.clo {f:FuncId} {xs ys:List V} (h:wW xs ys):WkV (.clo f xs) (.clo f ys):=by
 intro w F v hr
 cases hr with
 |clo _ cs ds hl h0=>
  refine .clo f cs ys (hl.trans h.len) ?_
  intro i x d hi hd
  have hlt:i<xs.length:=by rw [h.len];exact (List.getElem?_eq_some_iff.1 hd).1
  exact h.get i xs[i] d (by simp [hlt]) hd w F x (h0 i x xs[i] hi (by simp [hlt]))
theorem zMi {t:Ty} {d:V} {x:t.El} (h:zVx t d=some x):WkV d (.pp (t.cells x)):=by
 unfold zVx at h
 split at h
 ·rename_i cs
  split at h
  ·rename_i y hy
   simp only [Option.some.injEq] at h
   subst h
   obtain ⟨c1,h1,h2⟩:=jI t cs y [] hy
   simp only [List.append_nil] at h1
   subst h1
   exact WkV.pp h2
  ·cases h
 ·cases h
theorem zFP: ∀ (l:List (Bool×Ty)) (ds:List V) (x:zYN l),zJs l ds=some x→wW ds (zUA l x)
 |[],[],_,_=>trivial
 |[],_::_,_,h=>by simp [zJs] at h
 |_::_,[],_,h=>by simp [zJs] at h
 |(b,t)::r,d::ds,x,h=>by
  simp only [zJs] at h
  split at h
  ·split at h
   ·rename_i y hy
    split at h
    ·rename_i ys hys
     simp only [Option.some.injEq] at h
     subst h
     exact ⟨zMi hy,zFP r ds ys hys⟩
    ·cases h
   ·cases h
  ·split at h
   ·rename_i y hy
    split at h
    ·rename_i ys hys
     simp only [Option.some.injEq] at h
     subst h
     exact ⟨kW hy,zFP r ds ys hys⟩
    ·cases h
   ·cases h
theorem zFQ: ∀ (ts:List ATy) (ds:List V) (x:ElA ts),uF ts ds=some x→wW ds (zUB ts x)
 |[],[],_,_=>trivial
 |[],_::_,_,h=>by simp [uF] at h
 |_::_,[],_,h=>by simp [uF] at h
 |t::ts,d::ds,x,h=>by
  simp only [uF] at h
  split at h
  ·rename_i y hy
   split at h
   ·rename_i ys hys
    simp only [Option.some.injEq] at h
    subst h
    refine ⟨?_,zFQ ts ds ys hys⟩
    cases t with
    |d ty=>exact kW (t:=ty) (x:=y) hy
    |pp ty=>exact zMi (t:=ty) (x:=y) hy
    |clo f caps=>
     cases d with
     |clo g ds0=>
      simp only [ATy.dec] at hy
      split at hy
      ·rename_i hb
       have hb:=Nat.eq_of_beq_eq_true hb
       subst hb
       exact WkV.clo (zFP _ _ _ hy)
      ·cases hy
     |_=>simp [ATy.dec] at hy
   ·cases h
  ·cases h
theorem zOh [hsub:Subsingleton Γ.St] {S:zM Γ} {A:Nat→Option JA} (hmix:P.follows .mixedOrders=true) (hS:qH Γ P G S.toS) {f:FuncId} {fn:Func} {c:Code} (hf:P.funcs[f]? =some fn) (hb:fn.body=some c)
  {X:Type} {dec:List V→Option X} {enc:X→List V} (hdec: ∀ds x,dec ds=some x→wW ds (enc x)) {R:RTy} {g:X→Option R.El} (h: ∀s x,exF (Γ:=Γ) P G S A fn c R s (enc x)=g x):wY Γ P G f (qO (vD dec R g)):=by
 intro w F O s args ds s' r hsig hG hF hlen hrd hspec
 simp only [qO,vD] at hspec
 split at hspec
 ·rename_i cx hcx
  split at hcx
  ·rename_i x hx
   simp only [Option.some.injEq] at hcx
   subst hcx
   simp only [Option.map_eq_some_iff] at hspec
   obtain ⟨y,hy,hsr⟩:=hspec
   simp only [Prod.mk.injEq] at hsr
   obtain ⟨rfl,rfl⟩:=hsr
   have hwk:=hdec ds x hx
   have hlen':args.size=(enc x).length:=hlen.trans hwk.len
   have hrd': ∀ (i:Nat) (u:Value) (d:V),args[i]? =some u→(enc x)[i]? =some d→Rd w F u d:=by
    intro i u d hu hd
    have hlt:i<ds.length:=by rw [hwk.len];exact (List.getElem?_eq_some_iff.1 hd).1
    exact hwk.get i ds[i] d (by simp [hlt]) hd w F u (hrd i u ds[i] hu (by simp [hlt]))
   have hex:=h s x
   rw [hy] at hex
   unfold exF at hex
   rw [uB] at hex
   obtain ⟨k,e',d,hok,_,hend⟩:=zHG (fun _ _ _=> .inl hsub) hmix hS c _ _ _ _ _ hex
   have hk:(k= .normal∨k= .ret)∧(match zCc (jE.of P) e' fn with
    |some r=>R.get r
    |none=>none)=some y:=by
    cases k with
    |normal=>exact ⟨.inl rfl,hend⟩
    |ret=>exact ⟨.inr rfl,hend⟩
    |exit id=>cases hend
   obtain ⟨hk,hend⟩:=hk
   split at hend
   ·rename_i r' hr'
    refine calls_of_wp hf hb ?_
    have q7: ∀t,zU w F ⟨fun _=>0,fun _=>0⟩ (fun _=>False) ((args++Array.replicate (fn.ntmps-args.size) undef).getD t undef) ((start fn.ntmps s (enc x)).get t):=by
     intro t
     simp only [start,zFf,Env.get,List.getD_eq_getElem?_getD,Array.getD_eq_getD_getElem?]
     by_cases ht:t< (enc x).length
     ·rw [List.getElem?_append_left (by simpa using ht),Array.getElem?_append_left (by omega)]
      rw [List.getElem?_map,List.getElem?_eq_getElem ht,Array.getElem?_eq_getElem (by omega)]
      exact hrd' t _ _ (by simp [show t<args.size by omega]) (by simp [ht])
     ·rw [List.getElem?_append_right (by simpa using Nat.le_of_not_lt ht),Array.getElem?_append_right (by omega),hlen']
      simp only [List.length_map]
      by_cases h2:t- (enc x).length<fn.ntmps- (enc x).length
      ·rw [List.getElem?_replicate,if_pos h2,Array.getElem?_replicate,if_pos h2]
       exact Rd.val _
      ·rw [List.getElem?_replicate,if_neg h2]
       trivial
    have hnovar: ∀s0,(start fn.ntmps s (enc x)).var s0=none:=by
     intro s0
     simp only [start,Env.var,List.getElem?_replicate]
     split<;>rfl
    have hinv:Inv Γ G w F O { tmps:=args++Array.replicate (fn.ntmps-args.size) undef,defers:=[] } w (start fn.ntmps s (enc x)):=by
     refine Inv.of (F:=F) (O:=O) (β:=⟨fun _=>0,fun _=>0⟩) (al:=fun _=>False) ⟨zC1.refl _ w,hsig,fun b hb=> .inl hb,fun b hb=>⟨.inl hb,hF b hb⟩,fun b hb=>hb,fun x hx=>hx.elim,fun x y hx=>hx.elim,fun b n h=>by cases h⟩ hG ?_ rfl q7 ?_ (fun s h=>h.elim)
     ·simp [start,zFf,hlen']
     ·intro s0 cs hcs;rw [hnovar] at hcs;cases hcs
    refine wp_mono (hok w F O _ w hinv) ?_
    rintro ex a' w' ⟨rfl,hi'⟩
    obtain ⟨v,F',O',h1,h2,h3,h4,h5,h6,h7⟩:=zLw rfl hi' hr'
    have hdf:a'.defers=[]:=by obtain ⟨_,_,_,_,_,_,hdf,_⟩:=hi';exact hdf
    rw [Subsingleton.elim e'.st s] at h2
    obtain ⟨F'',g1,gh,g2,g3⟩:=RTy.get_sound hend h7
    have h2:=Γ.mono h2 gh (fun _ _=>rfl)
    have hF'': ∀b:Nat,F'' b→(F b∨w.heap.size≤b)∧b<w'.heap.size∧ ¬O' b:=by
     intro b hb
     rcases g2 b hb with hb|⟨h1,h2,h3⟩
     ·exact h6 b hb
     ·exact ⟨.inr h1,h2,h3⟩
    rcases hk with rfl|rfl
    ·exact ⟨hdf,v,h1,v,F'',O',rfl,h2,h3,h4,fun b hb=>g1 b (h5 b hb),hF'',g3⟩
    ·exact ⟨hdf,v,h1,v,F'',O',rfl,h2,h3,h4,fun b hb=>g1 b (h5 b hb),hF'',g3⟩
   ·cases hend
  ·cases hcx
 ·cases hspec
theorem zX4 [hsub:Subsingleton Γ.St] {S:zM Γ} {A:Nat→Option JA} (hmix:P.follows .mixedOrders=true) (hS:qH Γ P G S.toS) {f:FuncId} {fn:Func} {c:Code} (hf:P.funcs[f]? =some fn) (hb:fn.body=some c)
  {ts:List Ty} {R:RTy} {g:ElS ts→Option R.El} (h: ∀s x,exF (Γ:=Γ) P G S A fn c R s (kQ ts x)=g x):wY Γ P G f (qO (wE ts R g)):=by
 have:=zOh hmix hS hf hb (uP ts) h
 exact this
theorem zX6 [hsub:Subsingleton Γ.St] {S:zM Γ} {A:Nat→Option JA} (hmix:P.follows .mixedOrders=true) (hS:qH Γ P G S.toS) {f:FuncId} {fn:Func} {c:Code} (hf:P.funcs[f]? =some fn) (hb:fn.body=some c)
  {ts:List ATy} {R:RTy} {g:ElA ts→Option R.El} (h: ∀s x,exF (Γ:=Γ) P G S A fn c R s (zUB ts x)=g x):wY Γ P G f (qO (zXa ts R g)):=
 zOh hmix hS hf hb (zFQ ts) h
end
end Go.Ve

namespace Go.Ve
open Go
@[reducible] def Ty.st:List Ty→Ty
 |[]=> .unit
 |t::ts=> .pair t (Ty.st ts)
abbrev tI:Ty:= .int .i64
abbrev tU:Ty:= .int .u32
abbrev zH:Ty:= .st [tU,tI]
abbrev qP:Ty:= .st [tI,tU]
abbrev zB:Ty:= .st [zH,tI,tI,tI,tI,tI,tI,tI, .sl tI,tU,tU, .sl qP, .bool]
abbrev qG:Ty:= .st [.str,tU,tI,tI, .bool, .bool,tI,tI, .bool, .str, .str,tI]
abbrev zCW:Ty:= .st [.bool,zH,tI,tI]
abbrev vC:Ty:= .st [.str, .sl zCW]
abbrev kN:Ty:= .st [.bool, .str,tI,tI,tI,tI,tI]
abbrev yW:Ty:= .st [.str, .sl kN]
abbrev zZX:Ty:= .st [tU,tU]
abbrev zO:Ty:= .st [tI,tI]
abbrev zRP:Ty:= .st [.bool,tI,zZX,zZX,zO,zO]
abbrev zK2:Ty:= .st [.str, .sl zRP]
abbrev qAZ:Ty:= .st [tI,tU,tU,tI,tI,tI, .str,tU,tU]
abbrev zFd:Ty:= .st [zH,tU, .str, .bool,tI,tI]
abbrev qT:Ty:= .st [tI,tI,tI, .str,tI]
abbrev zFe:Ty:= .st [tI,zH]
abbrev tLS:Ty:= .st [.bool,tI, .sl zFe, .sl qT]
abbrev tDV:Ty:= .st [.bool,tI, .str, .str, .sl qT]
abbrev z6:Ty:= .st [tU,tI, .str, .str]
abbrev jQ:Ty:= .st [zH, .bool]
abbrev zBb:Ty:= .st [zH,zH, .bool]
abbrev tPV:Ty:= .st [.bool,tI,tI, .sl z6, .sl zH, .sl jQ, .sl zBb, .sl qT]
abbrev zF:Ty:= .st [.str,tI, .sl qG, .sl vC, .sl yW, .sl zK2, .sl qAZ, .sl zFd,tLS,tDV,tPV]
abbrev zQ:Ty:= .st [.sl zF]
abbrev zAt:Ty:= .st [zH,tI, .sl zO]
abbrev zP:Ty:= .st [zH,tI, .rf]
abbrev zGA:Ty:= .st [.sl zP, .sl tI]
abbrev zJK:Ty:= .st [.sl zAt, .sl tI]
abbrev qBs:Ty:= .st [zQ,zGA, .sl tI]
abbrev zR:Ty:= .st [zQ,zJK, .sl tI]
abbrev zVb:Ty:= .st [tU,tU,tI,tI,tI]
abbrev qBL:Ty:= .st [tI,tI,tI,qP]
abbrev zW:Ty:= .st [tI,tI,tI,tI, .bool]
abbrev zT:Ty:= .st [.sl zB, .sl zB, .sl zB, .sl zB]
abbrev qBq:Ty:= .st [tI,tI,tI, .sl zT]
abbrev qAf:Ty:= .st [tI,tI,zH]
abbrev qBu:Ty:= .st [qAf,zB,tI, .sl tI]
abbrev qA0:Ty:= .st [zH, .sl qP, .bool]
abbrev qBK:Ty:= .st [tI,zO,zVb]
abbrev qBt:Ty:= .st [zO,zVb]
abbrev qAY:Ty:= .st [tI,zO]
end Go.Ve

namespace Go.Ve
open Go
set_option maxRecDepth 1000000
noncomputable def zCG:ElS [(.int .u8)]→Option (RTy.El (.p .bool)):=fun x=>match x with|(a1,())=>Option.bind (bif decide (a1≥(97:Int)) then bif decide (a1≤(122:Int)) then some true else bif decide (a1≥(65:Int)) then some (decide (a1≤(90:Int))) else some false else bif decide (a1≥(65:Int)) then some (decide (a1≤(90:Int))) else some false) fun (s0:Bool)=>some s0
noncomputable def zBm:ElS [.str]→Option (RTy.El (.p .bool)):=fun x=>match x with|(a1,())=>Option.bind (bif decide ((↑(ByteArray.size a1):Int)< (1:Int)) then some true else bif decide ((↑(ByteArray.size a1):Int)>(15:Int)) then some true else Option.bind (zLU a1 (0:Int)) fun (y2:Int)=>Option.bind (zCG (y2,())) fun (y3:Bool)=>some !y3) fun (s4:Bool)=>bif s4 then some false else q8 (zN (fun (s14:Int)=>bif decide (s14< (↑(ByteArray.size a1):Int)) then Option.bind (zLU a1 s14) fun (y15:Int)=>Option.bind (Option.bind (zCG (y15,())) fun (y16:Bool)=>bif !y16 then bif decide (y15≥(48:Int)) then bif !decide (y15≤(57:Int)) then bif y15 !=(45:Int) then bif y15 !=(95:Int) then bif y15 !=(47:Int) then some (y15 !=(46:Int)) else some false else some false else some false else some false else bif y15 !=(45:Int) then bif y15 !=(95:Int) then bif y15 !=(47:Int) then some (y15 !=(46:Int)) else some false else some false else some false else some false) fun (s17:Bool)=>bif s17 then some (Sum.inr (Sum.inr false)) else some (Sum.inl (IntKind.wrap IntKind.i64 (s14+(1:Int)))) else some (Sum.inr (Sum.inl ()))) (1:Int)) fun (s18:Unit)=>some true
noncomputable def zX:ElS [tI,tI,tI]→Option (RTy.El (.p .bool)):=fun x=>match x with|(a1,a2,a3,())=>Option.bind (bif decide (a2≤a1) then some (decide (a1≤a3)) else some false) fun (s0:Bool)=>some s0
noncomputable def zBn:ElS [tI]→Option (RTy.El (.p tU)):=fun x=>match x with|(a1,())=>Option.bind (zN (fun (s4:Int×Int)=>bif decide (s4.1< (32:Int)) then Option.bind (bif decide (s4.1<a1) then bif decide ((0:Int)≤IntKind.wrap IntKind.u64 (IntKind.wrap IntKind.i64 ((31:Int) -s4.1))) then some (IntKind.wrap IntKind.u32 (↑(BitVec.toNat (BitVec.ofInt (IntKind.bits IntKind.u32) s4.2|||BitVec.ofInt (IntKind.bits IntKind.u32) (IntKind.wrap IntKind.u32 ((1:Int)*(2:Int)^min (Int.toNat (IntKind.wrap IntKind.u64 (IntKind.wrap IntKind.i64 ((31:Int) -s4.1)))) (IntKind.bits IntKind.u32))))):Int)) else none else some s4.2) fun (s5:Int)=>some (Sum.inl (IntKind.wrap IntKind.i64 (s4.1+(1:Int)),s5)) else some (Sum.inr s4.2)) ((0:Int),(0:Int))) fun (s6:Int)=>some s6
noncomputable def w9:ElS [tU,tI]→Option (RTy.El (.p zH)):=fun x=>match x with|(a1,a2,())=>Option.bind (zBn (if (0:Int)>if (32:Int)<a2 then (32:Int) else a2 then (0:Int) else if (32:Int)<a2 then (32:Int) else a2,())) fun (y0:Int)=>some (IntKind.wrap IntKind.u32 (↑(BitVec.toNat (BitVec.ofInt (IntKind.bits IntKind.u32) a1&&&BitVec.ofInt (IntKind.bits IntKind.u32) y0)):Int),if (0:Int)>if (32:Int)<a2 then (32:Int) else a2 then (0:Int) else if (32:Int)<a2 then (32:Int) else a2,())
noncomputable def xS:ElS [zH,tU]→Option (RTy.El (.p .bool)):=fun x=>match x with|(a1,a2,())=>Option.bind (zBn (a1.2.1,())) fun (y1:Int)=>some (IntKind.wrap IntKind.u32 (↑(BitVec.toNat (BitVec.ofInt (IntKind.bits IntKind.u32) a2&&&BitVec.ofInt (IntKind.bits IntKind.u32) y1)):Int)==a1.1)
noncomputable def zAe:ElS [zH,zH]→Option (RTy.El (.p .bool)):=fun x=>match x with|(a1,a2,())=>Option.bind (bif decide (a1.2.1≤a2.2.1) then Option.bind (xS (a1,a2.1,())) fun (y1:Bool)=>some y1 else some false) fun (s2:Bool)=>some s2
noncomputable def uK:ElS [zH,zH]→Option (RTy.El (.p .bool)):=fun x=>match x with|(a1,a2,())=>Option.bind (Option.bind (zAe (a1,a2,())) fun (y2:Bool)=>bif y2 then some true else Option.bind (zAe (a2,a1,())) fun (y3:Bool)=>some y3) fun (s4:Bool)=>some s4
noncomputable def kU:ElS [(.sl qG)]→Option (RTy.El (.p tI)):=fun x=>match x with|(a1,())=>bif decide ((↑(List.length a1):Int)>(8:Int)) then some (7:Int) else q8 (zN (fun (s164:Int)=>bif decide (s164< (↑(List.length a1):Int)) then q8 (Option.bind (idx a1 s164) fun (y165:Ty.El qG)=>Option.bind (zBm (y165.1,())) fun (y166:Bool)=>bif !y166 then some (Sum.inr (Sum.inr (Sum.inr (3:Int)))) else q8 (zN (fun (s167:Int)=>bif decide (s167<s164) then Option.bind (idx a1 s167) fun (y168:Ty.El qG)=>bif y168.1==y165.1 then some (Sum.inr (Sum.inr (Sum.inr (Sum.inr (Sum.inr (4:Int)))))) else some (Sum.inl (IntKind.wrap IntKind.i64 (s167+(1:Int)))) else some (Sum.inr (Sum.inl ()))) (0:Int)) fun (s169:Unit)=>Option.bind (Option.bind (zX (y165.2.2.1,(0:Int),(32:Int),())) fun (y170:Bool)=>bif !y170 then some true else Option.bind (zX (y165.2.2.2.1,(0:Int),(4094:Int),())) fun (y171:Bool)=>bif !y171 then some true else Option.bind (zX (y165.2.2.2.2.2.2.2.2.2.2.2.1,(0:Int),(2:Int),())) fun (y172:Bool)=>some !y172) fun (s173:Bool)=>bif s173 then some (Sum.inr (Sum.inr (Sum.inr (1:Int)))) else Option.bind (bif y165.2.2.1==(0:Int) then bif y165.2.1 !=(0:Int) then some true else bif y165.2.2.2.1 !=(0:Int) then some true else bif y165.2.2.2.2.2.2.2.2.2.2.2.1 !=(0:Int) then some true else bif y165.2.2.2.2.2.1 then some true else bif y165.2.2.2.2.2.2.2.2.1 then some true else bif y165.2.2.2.2.2.2.2.2.2.1 != { data:= #[] } then some true else bif y165.2.2.2.2.2.2.2.2.2.2.1 != { data:= #[] } then some true else bif y165.2.2.1 !=(0:Int) then some (y165.2.1==(0:Int)) else some false else bif y165.2.2.1 !=(0:Int) then some (y165.2.1==(0:Int)) else some false) fun (s174:Bool)=>bif s174 then some (Sum.inr (Sum.inr (Sum.inr (1:Int)))) else Option.bind (bif y165.2.2.2.2.2.1 then Option.bind (zX (y165.2.2.2.2.2.2.1,(0:Int),(255:Int),())) fun (y175:Bool)=>bif !y175 then some true else Option.bind (zX (y165.2.2.2.2.2.2.2.1,(1:Int),(65535:Int),())) fun (y176:Bool)=>bif !y176 then some true else bif !y165.2.2.2.2.2.1 then bif y165.2.2.2.2.2.2.1 !=(0:Int) then some true else some (y165.2.2.2.2.2.2.2.1 !=(0:Int)) else some false else bif !y165.2.2.2.2.2.1 then bif y165.2.2.2.2.2.2.1 !=(0:Int) then some true else some (y165.2.2.2.2.2.2.2.1 !=(0:Int)) else some false) fun (s177:Bool)=>bif s177 then some (Sum.inr (Sum.inr (Sum.inr (1:Int)))) else zN (fun (s178:Int)=>bif decide (s178<s164) then Option.bind (bif y165.2.2.1 !=(0:Int) then Option.bind (idx a1 s178) fun (y179:Ty.El qG)=>bif y179.2.2.1 !=(0:Int) then Option.bind (w9 (y165.2.1,y165.2.2.1,())) fun (y180:Int×Int×Unit)=>Option.bind (idx a1 s178) fun (y181:Ty.El qG)=>Option.bind (idx a1 s178) fun (y182:Ty.El qG)=>Option.bind (w9 (y181.2.1,y182.2.2.1,())) fun (y183:Int×Int×Unit)=>Option.bind (uK (y180,y183,())) fun (y184:Bool)=>some y184 else some false else some false) fun (s185:Bool)=>bif s185 then some (Sum.inr (Sum.inr (Sum.inr (Sum.inr (6:Int))))) else some (Sum.inl (IntKind.wrap IntKind.i64 (s178+(1:Int)))) else some (Sum.inr (Sum.inl ()))) (0:Int)) fun (s186:Unit)=>some (Sum.inl (IntKind.wrap IntKind.i64 (s164+(1:Int)))) else some (Sum.inr (Sum.inl ()))) (0:Int)) fun (s187:Unit)=>some (0:Int)
noncomputable def w4:ElS [zH]→Option (RTy.El (.p .bool)):=fun x=>match x with|(a1,())=>Option.bind (bif decide (a1.2.1≥(0:Int)) then bif decide (a1.2.1≤(32:Int)) then Option.bind (zBn (a1.2.1,())) fun (y2:Int)=>some (IntKind.wrap IntKind.u32 (↑(BitVec.toNat (BitVec.ofInt (IntKind.bits IntKind.u32) a1.1&&& ~~~BitVec.ofInt (IntKind.bits IntKind.u32) y2)):Int)==(0:Int)) else some false else some false) fun (s3:Bool)=>some s3
noncomputable def k6:ElS [zCW]→Option (RTy.El (.p .bool)):=fun x=>match x with|(a1,())=>Option.bind (Option.bind (w4 (a1.2.1,())) fun (y1:Bool)=>bif y1 then bif decide (a1.2.1.2.1≤a1.2.2.1) then bif decide (a1.2.2.1≤a1.2.2.2.1) then some (decide (a1.2.2.2.1≤(32:Int))) else some false else some false else some false) fun (s2:Bool)=>some s2
noncomputable def yD:ElS [(.sl vC)]→Option (RTy.El (.p tI)):=fun x=>match x with|(a1,())=>bif decide ((↑(List.length a1):Int)>(8:Int)) then some (7:Int) else q8 (zN (fun (s56:Int)=>bif decide (s56< (↑(List.length a1):Int)) then q8 (Option.bind (idx a1 s56) fun (y57:Ty.El vC)=>Option.bind (zBm (y57.1,())) fun (y58:Bool)=>bif !y58 then some (Sum.inr (Sum.inr (Sum.inr (3:Int)))) else q8 (zN (fun (s59:Int)=>bif decide (s59<s56) then Option.bind (idx a1 s59) fun (y60:Ty.El vC)=>Option.bind (idx a1 s56) fun (y61:Ty.El vC)=>bif y60.1==y61.1 then some (Sum.inr (Sum.inr (Sum.inr (Sum.inr (Sum.inr (4:Int)))))) else some (Sum.inl (IntKind.wrap IntKind.i64 (s59+(1:Int)))) else some (Sum.inr (Sum.inl ()))) (0:Int)) fun (s62:Unit)=>Option.bind (idx a1 s56) fun (y63:Ty.El vC)=>bif (↑(List.length y63.2.1):Int)==(0:Int) then some (Sum.inr (Sum.inr (Sum.inr (1:Int)))) else Option.bind (idx a1 s56) fun (y64:Ty.El vC)=>bif decide ((↑(List.length y64.2.1):Int)>(16:Int)) then some (Sum.inr (Sum.inr (Sum.inr (7:Int)))) else zN (fun (s65:Int)=>Option.bind (idx a1 s56) fun (y66:Ty.El vC)=>bif decide (s65< (↑(List.length y66.2.1):Int)) then Option.bind (idx a1 s56) fun (y67:Ty.El vC)=>Option.bind (idx y67.2.1 s65) fun (y68:Ty.El zCW)=>Option.bind (k6 (y68,())) fun (y69:Bool)=>bif !y69 then some (Sum.inr (Sum.inr (Sum.inr (Sum.inr (1:Int))))) else some (Sum.inl (IntKind.wrap IntKind.i64 (s65+(1:Int)))) else some (Sum.inr (Sum.inl ()))) (0:Int)) fun (s70:Unit)=>some (Sum.inl (IntKind.wrap IntKind.i64 (s56+(1:Int)))) else some (Sum.inr (Sum.inl ()))) (0:Int)) fun (s71:Unit)=>some (0:Int)
noncomputable def vM:ElS [zF, .str]→Option (RTy.El (.p tI)):=fun x=>match x with|(a1,a2,())=>q8 (zN (fun (s4:Int)=>bif decide (s4< (↑(List.length a1.2.2.2.1):Int)) then Option.bind (idx a1.2.2.2.1 s4) fun (y5:Ty.El vC)=>bif y5.1==a2 then some (Sum.inr (Sum.inr s4)) else some (Sum.inl (IntKind.wrap IntKind.i64 (s4+(1:Int)))) else some (Sum.inr (Sum.inl ()))) (0:Int)) fun (s6:Unit)=>some (-1:Int)
noncomputable def kI:ElS [zF]→Option (RTy.El (.p tI)):=fun x=>match x with|(a1,())=>bif decide ((↑(List.length a1.2.2.2.2.1):Int)>(8:Int)) then some (7:Int) else q8 (zN (fun (s192:Int)=>bif decide (s192< (↑(List.length a1.2.2.2.2.1):Int)) then q8 (Option.bind (idx a1.2.2.2.2.1 s192) fun (y193:Ty.El yW)=>Option.bind (zBm (y193.1,())) fun (y194:Bool)=>bif !y194 then some (Sum.inr (Sum.inr (Sum.inr (3:Int)))) else q8 (zN (fun (s195:Int)=>bif decide (s195<s192) then Option.bind (idx a1.2.2.2.2.1 s195) fun (y196:Ty.El yW)=>Option.bind (idx a1.2.2.2.2.1 s192) fun (y197:Ty.El yW)=>bif y196.1==y197.1 then some (Sum.inr (Sum.inr (Sum.inr (Sum.inr (Sum.inr (4:Int)))))) else some (Sum.inl (IntKind.wrap IntKind.i64 (s195+(1:Int)))) else some (Sum.inr (Sum.inl ()))) (0:Int)) fun (s198:Unit)=>Option.bind (idx a1.2.2.2.2.1 s192) fun (y199:Ty.El yW)=>bif (↑(List.length y199.2.1):Int)==(0:Int) then some (Sum.inr (Sum.inr (Sum.inr (1:Int)))) else Option.bind (idx a1.2.2.2.2.1 s192) fun (y200:Ty.El yW)=>bif decide ((↑(List.length y200.2.1):Int)>(8:Int)) then some (Sum.inr (Sum.inr (Sum.inr (7:Int)))) else zN (fun (s201:Int)=>Option.bind (idx a1.2.2.2.2.1 s192) fun (y202:Ty.El yW)=>bif decide (s201< (↑(List.length y202.2.1):Int)) then Option.bind (idx a1.2.2.2.2.1 s192) fun (y203:Ty.El yW)=>Option.bind (idx y203.2.1 s201) fun (y204:Ty.El kN)=>Option.bind (bif y204.2.1 != { data:= #[] } then Option.bind (vM (a1,y204.2.1,())) fun (y205:Int)=>some (decide (y205< (0:Int))) else some false) fun (s206:Bool)=>bif s206 then some (Sum.inr (Sum.inr (Sum.inr (Sum.inr (5:Int))))) else Option.bind (Option.bind (zX (y204.2.2.1,(-1:Int),(65535:Int),())) fun (y207:Bool)=>bif !y207 then some true else Option.bind (zX (y204.2.2.2.2.1,(-1:Int),(65535:Int),())) fun (y208:Bool)=>bif !y208 then some true else Option.bind (zX (y204.2.2.2.1,(-1:Int),(16777215:Int),())) fun (y209:Bool)=>bif !y209 then some true else Option.bind (zX (y204.2.2.2.2.2.1,(-1:Int),(1000000:Int),())) fun (y210:Bool)=>bif !y210 then some true else Option.bind (zX (y204.2.2.2.2.2.2.1,(0:Int),(8:Int),())) fun (y211:Bool)=>some !y211) fun (s212:Bool)=>bif s212 then some (Sum.inr (Sum.inr (Sum.inr (Sum.inr (1:Int))))) else some (Sum.inl (IntKind.wrap IntKind.i64 (s201+(1:Int)))) else some (Sum.inr (Sum.inl ()))) (0:Int)) fun (s213:Unit)=>some (Sum.inl (IntKind.wrap IntKind.i64 (s192+(1:Int)))) else some (Sum.inr (Sum.inl ()))) (0:Int)) fun (s214:Unit)=>some (0:Int)
noncomputable def zDD:ElS [zO]→Option (RTy.El (.p .bool)):=fun x=>match x with|(a1,())=>Option.bind (bif decide ((0:Int)≤a1.1) then bif decide (a1.1≤a1.2.1) then some (decide (a1.2.1≤(65535:Int))) else some false else some false) fun (s0:Bool)=>some s0
noncomputable def zGL:ElS [zO]→Option (RTy.El (.p .bool)):=fun x=>match x with|(a1,())=>some (a1.1==(0:Int)&&(a1.2.1==(65535:Int)&&true))
noncomputable def zBJ:ElS [zRP]→Option (RTy.El (.p .bool)):=fun x=>match x with|(a1,())=>Option.bind (Option.bind (zX (a1.2.1,(-1:Int),(255:Int),())) fun (y3:Bool)=>bif !y3 then some true else bif IntKind.wrap IntKind.u32 (↑(BitVec.toNat (BitVec.ofInt (IntKind.bits IntKind.u32) a1.2.2.1.1&&&BitVec.ofInt (IntKind.bits IntKind.u32) a1.2.2.1.2.1)):Int) !=(0:Int) then some true else bif IntKind.wrap IntKind.u32 (↑(BitVec.toNat (BitVec.ofInt (IntKind.bits IntKind.u32) a1.2.2.2.1.1&&&BitVec.ofInt (IntKind.bits IntKind.u32) a1.2.2.2.1.2.1)):Int) !=(0:Int) then some true else Option.bind (zDD (a1.2.2.2.2.1,())) fun (y4:Bool)=>bif !y4 then some true else Option.bind (zDD (a1.2.2.2.2.2.1,())) fun (y5:Bool)=>some !y5) fun (s6:Bool)=>bif s6 then some false else Option.bind (bif a1.2.1==(6:Int) then some true else bif a1.2.1==(17:Int) then some true else Option.bind (zGL (a1.2.2.2.2.1,())) fun (y9:Bool)=>bif y9 then Option.bind (zGL (a1.2.2.2.2.2.1,())) fun (y10:Bool)=>some y10 else some false) fun (s11:Bool)=>some s11
noncomputable def yF:ElS [(.sl zK2)]→Option (RTy.El (.p tI)):=fun x=>match x with|(a1,())=>bif decide ((↑(List.length a1):Int)>(8:Int)) then some (7:Int) else q8 (zN (fun (s56:Int)=>bif decide (s56< (↑(List.length a1):Int)) then q8 (Option.bind (idx a1 s56) fun (y57:Ty.El zK2)=>Option.bind (zBm (y57.1,())) fun (y58:Bool)=>bif !y58 then some (Sum.inr (Sum.inr (Sum.inr (3:Int)))) else q8 (zN (fun (s59:Int)=>bif decide (s59<s56) then Option.bind (idx a1 s59) fun (y60:Ty.El zK2)=>Option.bind (idx a1 s56) fun (y61:Ty.El zK2)=>bif y60.1==y61.1 then some (Sum.inr (Sum.inr (Sum.inr (Sum.inr (Sum.inr (4:Int)))))) else some (Sum.inl (IntKind.wrap IntKind.i64 (s59+(1:Int)))) else some (Sum.inr (Sum.inl ()))) (0:Int)) fun (s62:Unit)=>Option.bind (idx a1 s56) fun (y63:Ty.El zK2)=>bif (↑(List.length y63.2.1):Int)==(0:Int) then some (Sum.inr (Sum.inr (Sum.inr (1:Int)))) else Option.bind (idx a1 s56) fun (y64:Ty.El zK2)=>bif decide ((↑(List.length y64.2.1):Int)>(16:Int)) then some (Sum.inr (Sum.inr (Sum.inr (7:Int)))) else zN (fun (s65:Int)=>Option.bind (idx a1 s56) fun (y66:Ty.El zK2)=>bif decide (s65< (↑(List.length y66.2.1):Int)) then Option.bind (idx a1 s56) fun (y67:Ty.El zK2)=>Option.bind (idx y67.2.1 s65) fun (y68:Ty.El zRP)=>Option.bind (zBJ (y68,())) fun (y69:Bool)=>bif !y69 then some (Sum.inr (Sum.inr (Sum.inr (Sum.inr (1:Int))))) else some (Sum.inl (IntKind.wrap IntKind.i64 (s65+(1:Int)))) else some (Sum.inr (Sum.inl ()))) (0:Int)) fun (s70:Unit)=>some (Sum.inl (IntKind.wrap IntKind.i64 (s56+(1:Int)))) else some (Sum.inr (Sum.inl ()))) (0:Int)) fun (s71:Unit)=>some (0:Int)
noncomputable def zDE:ElS [zF, .str]→Option (RTy.El (.p tI)):=fun x=>match x with|(a1,a2,())=>q8 (zN (fun (s4:Int)=>bif decide (s4< (↑(List.length a1.2.2.2.2.2.1):Int)) then Option.bind (idx a1.2.2.2.2.2.1 s4) fun (y5:Ty.El zK2)=>bif y5.1==a2 then some (Sum.inr (Sum.inr s4)) else some (Sum.inl (IntKind.wrap IntKind.i64 (s4+(1:Int)))) else some (Sum.inr (Sum.inl ()))) (0:Int)) fun (s6:Unit)=>some (-1:Int)
noncomputable def kZ:ElS [zF]→Option (RTy.El (.p tI)):=fun x=>match x with|(a1,())=>bif decide ((↑(List.length a1.2.2.2.2.2.2.1):Int)>(8:Int)) then some (7:Int) else q8 (zN (fun (s60:Int)=>bif decide (s60< (↑(List.length a1.2.2.2.2.2.2.1):Int)) then Option.bind (idx a1.2.2.2.2.2.2.1 s60) fun (y61:Ty.El qAZ)=>Option.bind (bif y61.1==(1:Int) then Option.bind (bif y61.2.1 !=(0:Int) then bif y61.2.2.1 !=(0:Int) then some (y61.1==y61.1&&(y61.2.1==y61.2.1&&(y61.2.2.1==y61.2.2.1&&(y61.2.2.2.1==(0:Int)&&(y61.2.2.2.2.1==(0:Int)&&(y61.2.2.2.2.2.1==(0:Int)&&(y61.2.2.2.2.2.2.1== { data:= #[] } &&(y61.2.2.2.2.2.2.2.1==(0:Int)&&(y61.2.2.2.2.2.2.2.2.1==(0:Int)&&true))))))))) else some false else some false) fun (s62:Bool)=>some s62 else bif y61.1==(2:Int) then Option.bind (bif y61.2.2.2.2.2.2.2.1 !=(0:Int) then bif decide (y61.2.2.2.2.2.2.2.1≤y61.2.2.2.2.2.2.2.2.1) then bif decide (IntKind.wrap IntKind.u32 (y61.2.2.2.2.2.2.2.2.1-y61.2.2.2.2.2.2.2.1)< (8:Int)) then some (y61.1==y61.1&&(y61.2.1==(0:Int)&&(y61.2.2.1==(0:Int)&&(y61.2.2.2.1==(0:Int)&&(y61.2.2.2.2.1==(0:Int)&&(y61.2.2.2.2.2.1==(0:Int)&&(y61.2.2.2.2.2.2.1==y61.2.2.2.2.2.2.1&&(y61.2.2.2.2.2.2.2.1==y61.2.2.2.2.2.2.2.1&&(y61.2.2.2.2.2.2.2.2.1==y61.2.2.2.2.2.2.2.2.1&&true))))))))) else some false else some false else some false) fun (s63:Bool)=>some s63 else bif y61.1==(3:Int) then Option.bind (bif y61.2.1 !=(0:Int) then bif y61.2.2.1 !=(0:Int) then bif y61.2.2.2.1==(6:Int) then Option.bind (zX (y61.2.2.2.2.1,(0:Int),(65535:Int),())) fun (y64:Bool)=>bif y64 then Option.bind (zX (y61.2.2.2.2.2.1,(0:Int),(65535:Int),())) fun (y65:Bool)=>bif y65 then bif y61.2.2.2.2.2.2.1== { data:= #[] } then bif y61.2.2.2.2.2.2.2.1==(0:Int) then some (y61.2.2.2.2.2.2.2.2.1==(0:Int)) else some false else some false else some false else some false else bif y61.2.2.2.1==(17:Int) then Option.bind (zX (y61.2.2.2.2.1,(0:Int),(65535:Int),())) fun (y66:Bool)=>bif y66 then Option.bind (zX (y61.2.2.2.2.2.1,(0:Int),(65535:Int),())) fun (y67:Bool)=>bif y67 then bif y61.2.2.2.2.2.2.1== { data:= #[] } then bif y61.2.2.2.2.2.2.2.1==(0:Int) then some (y61.2.2.2.2.2.2.2.2.1==(0:Int)) else some false else some false else some false else some false else some false else some false else some false) fun (s68:Bool)=>some s68 else some false) fun (s69:Bool)=>bif !s69 then some (Sum.inr (Sum.inr (1:Int))) else Option.bind (bif y61.1==(2:Int) then Option.bind (zDE (a1,y61.2.2.2.2.2.2.1,())) fun (y70:Int)=>some (decide (y70< (0:Int))) else some false) fun (s71:Bool)=>bif s71 then some (Sum.inr (Sum.inr (5:Int))) else some (Sum.inl (IntKind.wrap IntKind.i64 (s60+(1:Int)))) else some (Sum.inr (Sum.inl ()))) (0:Int)) fun (s72:Unit)=>some (0:Int)
noncomputable def zBI:ElS [zF]→Option (RTy.El (.p tI)):=fun x=>match x with|(a1,())=>q8 (zN (fun (s24:Int)=>bif decide (s24< (↑(List.length a1.2.2.1):Int)) then Option.bind (idx a1.2.2.1 s24) fun (y25:Ty.El qG)=>Option.bind (bif y25.2.2.2.2.2.2.2.2.2.1 != { data:= #[] } then Option.bind (zDE (a1,y25.2.2.2.2.2.2.2.2.2.1,())) fun (y26:Int)=>bif decide (y26< (0:Int)) then some true else bif y25.2.2.2.2.2.2.2.2.2.2.1 != { data:= #[] } then Option.bind (zDE (a1,y25.2.2.2.2.2.2.2.2.2.2.1,())) fun (y27:Int)=>some (decide (y27< (0:Int))) else some false else bif y25.2.2.2.2.2.2.2.2.2.2.1 != { data:= #[] } then Option.bind (zDE (a1,y25.2.2.2.2.2.2.2.2.2.2.1,())) fun (y28:Int)=>some (decide (y28< (0:Int))) else some false) fun (s29:Bool)=>bif s29 then some (Sum.inr (Sum.inr (5:Int))) else some (Sum.inl (IntKind.wrap IntKind.i64 (s24+(1:Int)))) else some (Sum.inr (Sum.inl ()))) (0:Int)) fun (s30:Unit)=>some (0:Int)
noncomputable def xD:ElS [zF,tU]→Option (RTy.El (.p tI)):=fun x=>match x with|(a1,a2,())=>q8 (zN (fun (s10:Int)=>bif decide (s10< (↑(List.length a1.2.2.1):Int)) then Option.bind (Option.bind (idx a1.2.2.1 s10) fun (y11:Ty.El qG)=>bif y11.2.2.1 !=(0:Int) then Option.bind (idx a1.2.2.1 s10) fun (y12:Ty.El qG)=>some (y12.2.1==a2) else some false) fun (s13:Bool)=>bif s13 then some (Sum.inr (Sum.inr s10)) else some (Sum.inl (IntKind.wrap IntKind.i64 (s10+(1:Int)))) else some (Sum.inr (Sum.inl ()))) (0:Int)) fun (s14:Unit)=>some (-1:Int)
noncomputable def yG:ElS [zF, .str]→Option (RTy.El (.p tI)):=fun x=>match x with|(a1,a2,())=>q8 (zN (fun (s4:Int)=>bif decide (s4< (↑(List.length a1.2.2.1):Int)) then Option.bind (idx a1.2.2.1 s4) fun (y5:Ty.El qG)=>bif y5.1==a2 then some (Sum.inr (Sum.inr s4)) else some (Sum.inl (IntKind.wrap IntKind.i64 (s4+(1:Int)))) else some (Sum.inr (Sum.inl ()))) (0:Int)) fun (s6:Unit)=>some (-1:Int)
noncomputable def zAz:ElS [zF]→Option (RTy.El (.p tI)):=fun x=>match x with|(a1,())=>bif decide ((↑(List.length a1.2.2.2.2.2.2.2.1):Int)>(16:Int)) then some (7:Int) else q8 (zN (fun (s126:Int)=>bif decide (s126< (↑(List.length a1.2.2.2.2.2.2.2.1):Int)) then q8 (Option.bind (idx a1.2.2.2.2.2.2.2.1 s126) fun (y127:Ty.El zFd)=>Option.bind (bif y127.2.1 !=(0:Int) then some (IntKind.wrap IntKind.i64 ((0:Int)+(1:Int))) else some (0:Int)) fun (s128:Int)=>Option.bind (bif y127.2.2.1 != { data:= #[] } then some (IntKind.wrap IntKind.i64 (s128+(1:Int))) else some s128) fun (s129:Int)=>Option.bind (bif y127.2.2.2.1 then some (IntKind.wrap IntKind.i64 (s129+(1:Int))) else some s129) fun (s130:Int)=>Option.bind (Option.bind (w4 (y127.1,())) fun (y131:Bool)=>bif !y131 then some true else bif s130 !=(1:Int) then some true else bif y127.2.1 !=(0:Int) then Option.bind (xD (a1,y127.2.1,())) fun (y132:Int)=>bif decide (y132≥(0:Int)) then some true else Option.bind (zX (y127.2.2.2.2.1,(1:Int),(255:Int),())) fun (y133:Bool)=>bif !y133 then some true else Option.bind (zX (y127.2.2.2.2.2.1,(0:Int),(65535:Int),())) fun (y134:Bool)=>some !y134 else Option.bind (zX (y127.2.2.2.2.1,(1:Int),(255:Int),())) fun (y135:Bool)=>bif !y135 then some true else Option.bind (zX (y127.2.2.2.2.2.1,(0:Int),(65535:Int),())) fun (y136:Bool)=>some !y136) fun (s137:Bool)=>bif s137 then some (Sum.inr (Sum.inr (Sum.inr (1:Int)))) else q8 (bif y127.2.2.1 != { data:= #[] } then Option.bind (yG (a1,y127.2.2.1,())) fun (y138:Int)=>bif decide (y138< (0:Int)) then some (Sum.inr (Sum.inr (Sum.inr (Sum.inr (5:Int))))) else Option.bind (idx a1.2.2.1 y138) fun (y139:Ty.El qG)=>bif y139.2.2.1==(0:Int) then some (Sum.inr (Sum.inr (Sum.inr (Sum.inr (1:Int))))) else some (Sum.inl ()) else some (Sum.inl ())) fun (s140:Unit)=>zN (fun (s141:Int)=>bif decide (s141<s126) then Option.bind (Option.bind (idx a1.2.2.2.2.2.2.2.1 s141) fun (y142:Ty.El zFd)=>bif y142.1.1==y127.1.1&&(y142.1.2.1==y127.1.2.1&&true) then Option.bind (idx a1.2.2.2.2.2.2.2.1 s141) fun (y143:Ty.El zFd)=>some (y143.2.2.2.2.1==y127.2.2.2.2.1) else some false) fun (s144:Bool)=>bif s144 then some (Sum.inr (Sum.inr (Sum.inr (Sum.inr (6:Int))))) else some (Sum.inl (IntKind.wrap IntKind.i64 (s141+(1:Int)))) else some (Sum.inr (Sum.inl ()))) (0:Int)) fun (s145:Unit)=>some (Sum.inl (IntKind.wrap IntKind.i64 (s126+(1:Int)))) else some (Sum.inr (Sum.inl ()))) (0:Int)) fun (s146:Unit)=>some (0:Int)
noncomputable def v7:ElS [zF, .str]→Option (RTy.El (.p tI)):=fun x=>match x with|(a1,a2,())=>q8 (zN (fun (s4:Int)=>bif decide (s4< (↑(List.length a1.2.2.2.2.1):Int)) then Option.bind (idx a1.2.2.2.2.1 s4) fun (y5:Ty.El yW)=>bif y5.1==a2 then some (Sum.inr (Sum.inr s4)) else some (Sum.inl (IntKind.wrap IntKind.i64 (s4+(1:Int)))) else some (Sum.inr (Sum.inl ()))) (0:Int)) fun (s6:Unit)=>some (-1:Int)
noncomputable def jA:ElS [zF,(.sl qT),tI,tI,tI]→Option (RTy.El (.p tI)):=fun x=>match x with|(a1,a2,a3,a4,a5,())=>bif decide ((↑(List.length a2):Int)>(4:Int)) then some (7:Int) else q8 (zN (fun (s69:Int)=>bif decide (s69< (↑(List.length a2):Int)) then q8 (Option.bind (idx a2 s69) fun (y70:Ty.El qT)=>Option.bind (Option.bind (zX (y70.1,(1:Int),(5:Int),())) fun (y71:Bool)=>bif !y71 then some true else bif y70.1==a3 then some true else Option.bind (zX (y70.2.1,a4,a5,())) fun (y72:Bool)=>bif !y72 then some true else Option.bind (zX (y70.2.2.1,(0:Int),(65535:Int),())) fun (y73:Bool)=>some !y73) fun (s74:Bool)=>bif s74 then some (Sum.inr (Sum.inr (Sum.inr (1:Int)))) else Option.bind (bif a3==(3:Int) then bif y70.2.2.2.2.1 !=(1:Int) then bif y70.2.2.2.2.1 !=(2:Int) then some true else bif a3 !=(3:Int) then some (y70.2.2.2.2.1 !=(0:Int)) else some false else bif a3 !=(3:Int) then some (y70.2.2.2.2.1 !=(0:Int)) else some false else bif a3 !=(3:Int) then some (y70.2.2.2.2.1 !=(0:Int)) else some false) fun (s75:Bool)=>bif s75 then some (Sum.inr (Sum.inr (Sum.inr (1:Int)))) else Option.bind (bif y70.2.2.2.1 != { data:= #[] } then Option.bind (v7 (a1,y70.2.2.2.1,())) fun (y76:Int)=>some (decide (y76< (0:Int))) else some false) fun (s77:Bool)=>bif s77 then some (Sum.inr (Sum.inr (Sum.inr (5:Int)))) else zN (fun (s78:Int)=>bif decide (s78<s69) then Option.bind (idx a2 s78) fun (y79:Ty.El qT)=>bif y79.1==y70.1 then some (Sum.inr (Sum.inr (Sum.inr (Sum.inr (4:Int))))) else some (Sum.inl (IntKind.wrap IntKind.i64 (s78+(1:Int)))) else some (Sum.inr (Sum.inl ()))) (0:Int)) fun (s80:Unit)=>some (Sum.inl (IntKind.wrap IntKind.i64 (s69+(1:Int)))) else some (Sum.inr (Sum.inl ()))) (0:Int)) fun (s81:Unit)=>some (0:Int)
noncomputable def zAd:ElS [zF]→Option (RTy.El (.p tI)):=fun x=>match x with|(a1,())=>bif !a1.2.2.2.2.2.2.2.2.1.1 then Option.bind (bif a1.2.2.2.2.2.2.2.2.1.2.1 !=(0:Int) then some true else bif decide ((↑(List.length a1.2.2.2.2.2.2.2.2.1.2.2.1):Int)>(0:Int)) then some true else some (decide ((↑(List.length a1.2.2.2.2.2.2.2.2.1.2.2.2.1):Int)>(0:Int)))) fun (s0:Bool)=>bif s0 then some (1:Int) else some (0:Int) else Option.bind (zX (a1.2.2.2.2.2.2.2.2.1.2.1,(1:Int),(255:Int),())) fun (y1:Bool)=>bif !y1 then some (1:Int) else bif decide ((↑(List.length a1.2.2.2.2.2.2.2.2.1.2.2.1):Int)>(4:Int)) then some (7:Int) else q8 (zN (fun (s63:Int)=>bif decide (s63< (↑(List.length a1.2.2.2.2.2.2.2.2.1.2.2.1):Int)) then q8 (Option.bind (Option.bind (idx a1.2.2.2.2.2.2.2.2.1.2.2.1 s63) fun (y64:Ty.El zFe)=>Option.bind (zX (y64.1,(0:Int),(255:Int),())) fun (y65:Bool)=>bif !y65 then some true else Option.bind (idx a1.2.2.2.2.2.2.2.2.1.2.2.1 s63) fun (y66:Ty.El zFe)=>Option.bind (w4 (y66.2.1,())) fun (y67:Bool)=>some !y67) fun (s68:Bool)=>bif s68 then some (Sum.inr (Sum.inr (Sum.inr (1:Int)))) else zN (fun (s69:Int)=>bif decide (s69<s63) then Option.bind (Option.bind (idx a1.2.2.2.2.2.2.2.2.1.2.2.1 s69) fun (y70:Ty.El zFe)=>Option.bind (idx a1.2.2.2.2.2.2.2.2.1.2.2.1 s63) fun (y71:Ty.El zFe)=>bif y70.1==y71.1 then Option.bind (idx a1.2.2.2.2.2.2.2.2.1.2.2.1 s69) fun (y72:Ty.El zFe)=>Option.bind (idx a1.2.2.2.2.2.2.2.2.1.2.2.1 s63) fun (y73:Ty.El zFe)=>Option.bind (uK (y72.2.1,y73.2.1,())) fun (y74:Bool)=>some y74 else some false) fun (s75:Bool)=>bif s75 then some (Sum.inr (Sum.inr (Sum.inr (Sum.inr (6:Int))))) else some (Sum.inl (IntKind.wrap IntKind.i64 (s69+(1:Int)))) else some (Sum.inr (Sum.inl ()))) (0:Int)) fun (s76:Unit)=>some (Sum.inl (IntKind.wrap IntKind.i64 (s63+(1:Int)))) else some (Sum.inr (Sum.inl ()))) (0:Int)) fun (s77:Unit)=>Option.bind (jA (a1,a1.2.2.2.2.2.2.2.2.1.2.2.2.1,(3:Int),(0:Int),(16777215:Int),())) fun (y78:Int)=>some y78
noncomputable def zAV:ElS [zF]→Option (RTy.El (.p tI)):=fun x=>match x with|(a1,())=>bif !a1.2.2.2.2.2.2.2.2.2.1.1 then Option.bind (bif a1.2.2.2.2.2.2.2.2.2.1.2.1 !=(0:Int) then some true else bif a1.2.2.2.2.2.2.2.2.2.1.2.2.1 != { data:= #[] } then some true else bif a1.2.2.2.2.2.2.2.2.2.1.2.2.2.1 != { data:= #[] } then some true else some (decide ((↑(List.length a1.2.2.2.2.2.2.2.2.2.1.2.2.2.2.1):Int)>(0:Int)))) fun (s0:Bool)=>bif s0 then some (1:Int) else some (0:Int) else Option.bind (zX (a1.2.2.2.2.2.2.2.2.2.1.2.1,(1:Int),(255:Int),())) fun (y1:Bool)=>bif !y1 then some (1:Int) else Option.bind (bif a1.2.2.2.2.2.2.2.2.2.1.2.2.1 != { data:= #[] } then Option.bind (vM (a1,a1.2.2.2.2.2.2.2.2.2.1.2.2.1,())) fun (y5:Int)=>bif decide (y5< (0:Int)) then some true else bif a1.2.2.2.2.2.2.2.2.2.1.2.2.2.1 != { data:= #[] } then Option.bind (vM (a1,a1.2.2.2.2.2.2.2.2.2.1.2.2.2.1,())) fun (y6:Int)=>some (decide (y6< (0:Int))) else some false else bif a1.2.2.2.2.2.2.2.2.2.1.2.2.2.1 != { data:= #[] } then Option.bind (vM (a1,a1.2.2.2.2.2.2.2.2.2.1.2.2.2.1,())) fun (y7:Int)=>some (decide (y7< (0:Int))) else some false) fun (s8:Bool)=>bif s8 then some (5:Int) else Option.bind (jA (a1,a1.2.2.2.2.2.2.2.2.2.1.2.2.2.2.1,(4:Int),(1:Int),(15:Int),())) fun (y9:Int)=>some y9
noncomputable def yE:ElS [zF]→Option (RTy.El (.p tI)):=fun x=>match x with|(a1,())=>bif decide ((↑(List.length a1.2.2.2.2.2.2.2.2.2.2.1.2.2.2.1):Int)>(8:Int)) then some (7:Int) else q8 (zN (fun (s81:Int)=>bif decide (s81< (↑(List.length a1.2.2.2.2.2.2.2.2.2.2.1.2.2.2.1):Int)) then q8 (Option.bind (Option.bind (idx a1.2.2.2.2.2.2.2.2.2.2.1.2.2.2.1 s81) fun (y82:Ty.El z6)=>bif y82.1==(0:Int) then some true else Option.bind (idx a1.2.2.2.2.2.2.2.2.2.2.1.2.2.2.1 s81) fun (y83:Ty.El z6)=>Option.bind (zX (y83.2.1,(1:Int),(65535:Int),())) fun (y84:Bool)=>some !y84) fun (s85:Bool)=>bif s85 then some (Sum.inr (Sum.inr (Sum.inr (1:Int)))) else Option.bind (Option.bind (idx a1.2.2.2.2.2.2.2.2.2.2.1.2.2.2.1 s81) fun (y86:Ty.El z6)=>bif y86.2.2.1 != { data:= #[] } then Option.bind (idx a1.2.2.2.2.2.2.2.2.2.2.1.2.2.2.1 s81) fun (y87:Ty.El z6)=>Option.bind (v7 (a1,y87.2.2.1,())) fun (y88:Int)=>bif decide (y88< (0:Int)) then some true else Option.bind (idx a1.2.2.2.2.2.2.2.2.2.2.1.2.2.2.1 s81) fun (y89:Ty.El z6)=>bif y89.2.2.2.1 != { data:= #[] } then Option.bind (idx a1.2.2.2.2.2.2.2.2.2.2.1.2.2.2.1 s81) fun (y90:Ty.El z6)=>Option.bind (v7 (a1,y90.2.2.2.1,())) fun (y91:Int)=>some (decide (y91< (0:Int))) else some false else Option.bind (idx a1.2.2.2.2.2.2.2.2.2.2.1.2.2.2.1 s81) fun (y92:Ty.El z6)=>bif y92.2.2.2.1 != { data:= #[] } then Option.bind (idx a1.2.2.2.2.2.2.2.2.2.2.1.2.2.2.1 s81) fun (y93:Ty.El z6)=>Option.bind (v7 (a1,y93.2.2.2.1,())) fun (y94:Int)=>some (decide (y94< (0:Int))) else some false) fun (s95:Bool)=>bif s95 then some (Sum.inr (Sum.inr (Sum.inr (5:Int)))) else zN (fun (s96:Int)=>bif decide (s96<s81) then Option.bind (idx a1.2.2.2.2.2.2.2.2.2.2.1.2.2.2.1 s96) fun (y97:Ty.El z6)=>Option.bind (idx a1.2.2.2.2.2.2.2.2.2.2.1.2.2.2.1 s81) fun (y98:Ty.El z6)=>bif y97.1==y98.1 then some (Sum.inr (Sum.inr (Sum.inr (Sum.inr (4:Int))))) else some (Sum.inl (IntKind.wrap IntKind.i64 (s96+(1:Int)))) else some (Sum.inr (Sum.inl ()))) (0:Int)) fun (s99:Unit)=>some (Sum.inl (IntKind.wrap IntKind.i64 (s81+(1:Int)))) else some (Sum.inr (Sum.inl ()))) (0:Int)) fun (s100:Unit)=>some (0:Int)
noncomputable def vH:ElS [tPV]→Option (RTy.El (.p tI)):=fun x=>match x with|(a1,())=>bif decide ((↑(List.length a1.2.2.2.2.1):Int)>(8:Int)) then some (7:Int) else q8 (zN (fun (s24:Int)=>bif decide (s24< (↑(List.length a1.2.2.2.2.1):Int)) then q8 (Option.bind (idx a1.2.2.2.2.1 s24) fun (y25:Ty.El zH)=>Option.bind (w4 (y25,())) fun (y26:Bool)=>bif !y26 then some (Sum.inr (Sum.inr (Sum.inr (1:Int)))) else zN (fun (s27:Int)=>bif decide (s27<s24) then Option.bind (idx a1.2.2.2.2.1 s27) fun (y28:Ty.El zH)=>Option.bind (idx a1.2.2.2.2.1 s24) fun (y29:Ty.El zH)=>bif y28.1==y29.1&&(y28.2.1==y29.2.1&&true) then some (Sum.inr (Sum.inr (Sum.inr (Sum.inr (4:Int))))) else some (Sum.inl (IntKind.wrap IntKind.i64 (s27+(1:Int)))) else some (Sum.inr (Sum.inl ()))) (0:Int)) fun (s30:Unit)=>some (Sum.inl (IntKind.wrap IntKind.i64 (s24+(1:Int)))) else some (Sum.inr (Sum.inl ()))) (0:Int)) fun (s31:Unit)=>bif decide ((↑(List.length a1.2.2.2.2.2.1):Int)>(8:Int)) then some (7:Int) else q8 (zN (fun (s56:Int)=>bif decide (s56< (↑(List.length a1.2.2.2.2.2.1):Int)) then q8 (Option.bind (idx a1.2.2.2.2.2.1 s56) fun (y57:Ty.El jQ)=>Option.bind (w4 (y57.1,())) fun (y58:Bool)=>bif !y58 then some (Sum.inr (Sum.inr (Sum.inr (1:Int)))) else zN (fun (s59:Int)=>bif decide (s59<s56) then Option.bind (idx a1.2.2.2.2.2.1 s59) fun (y60:Ty.El jQ)=>Option.bind (idx a1.2.2.2.2.2.1 s56) fun (y61:Ty.El jQ)=>bif y60.1.1==y61.1.1&&(y60.1.2.1==y61.1.2.1&&true) then some (Sum.inr (Sum.inr (Sum.inr (Sum.inr (4:Int))))) else some (Sum.inl (IntKind.wrap IntKind.i64 (s59+(1:Int)))) else some (Sum.inr (Sum.inl ()))) (0:Int)) fun (s62:Unit)=>some (Sum.inl (IntKind.wrap IntKind.i64 (s56+(1:Int)))) else some (Sum.inr (Sum.inl ()))) (0:Int)) fun (s63:Unit)=>bif decide ((↑(List.length a1.2.2.2.2.2.2.1):Int)>(8:Int)) then some (7:Int) else q8 (zN (fun (s109:Int)=>bif decide (s109< (↑(List.length a1.2.2.2.2.2.2.1):Int)) then q8 (Option.bind (idx a1.2.2.2.2.2.2.1 s109) fun (y110:Ty.El zBb)=>Option.bind (Option.bind (w4 (y110.1,())) fun (y111:Bool)=>bif !y111 then some true else Option.bind (w4 (y110.2.1,())) fun (y112:Bool)=>some !y112) fun (s113:Bool)=>bif s113 then some (Sum.inr (Sum.inr (Sum.inr (1:Int)))) else bif y110.1.1==y110.2.1.1&&(y110.1.2.1==y110.2.1.2.1&&true) then some (Sum.inr (Sum.inr (Sum.inr (6:Int)))) else zN (fun (s114:Int)=>bif decide (s114<s109) then Option.bind (idx a1.2.2.2.2.2.2.1 s114) fun (y115:Ty.El zBb)=>bif y115.1.1==y110.1.1&&(y115.1.2.1==y110.1.2.1&&true) then some (Sum.inr (Sum.inr (Sum.inr (Sum.inr (4:Int))))) else some (Sum.inl (IntKind.wrap IntKind.i64 (s114+(1:Int)))) else some (Sum.inr (Sum.inl ()))) (0:Int)) fun (s116:Unit)=>some (Sum.inl (IntKind.wrap IntKind.i64 (s109+(1:Int)))) else some (Sum.inr (Sum.inl ()))) (0:Int)) fun (s117:Unit)=>some (0:Int)
noncomputable def j9:ElS [zF]→Option (RTy.El (.p tI)):=fun x=>match x with|(a1,())=>bif !a1.2.2.2.2.2.2.2.2.2.2.1.1 then Option.bind (bif a1.2.2.2.2.2.2.2.2.2.2.1.2.1 !=(0:Int) then some true else bif a1.2.2.2.2.2.2.2.2.2.2.1.2.2.1 !=(0:Int) then some true else some (decide (IntKind.wrap IntKind.i64 (IntKind.wrap IntKind.i64 (IntKind.wrap IntKind.i64 (IntKind.wrap IntKind.i64 ((↑(List.length a1.2.2.2.2.2.2.2.2.2.2.1.2.2.2.1):Int)+(↑(List.length a1.2.2.2.2.2.2.2.2.2.2.1.2.2.2.2.1):Int))+(↑(List.length a1.2.2.2.2.2.2.2.2.2.2.1.2.2.2.2.2.1):Int))+(↑(List.length a1.2.2.2.2.2.2.2.2.2.2.1.2.2.2.2.2.2.1):Int))+(↑(List.length a1.2.2.2.2.2.2.2.2.2.2.1.2.2.2.2.2.2.2.1):Int))>(0:Int)))) fun (s0:Bool)=>bif s0 then some (1:Int) else some (0:Int) else Option.bind (bif a1.2.1==(0:Int) then some true else Option.bind (zX (a1.2.2.2.2.2.2.2.2.2.2.1.2.1,(1:Int),(255:Int),())) fun (y3:Bool)=>bif !y3 then some true else Option.bind (zX (a1.2.2.2.2.2.2.2.2.2.2.1.2.2.1,(1:Int),(255:Int),())) fun (y4:Bool)=>some !y4) fun (s5:Bool)=>bif s5 then some (1:Int) else Option.bind (yE (a1,())) fun (y6:Int)=>bif y6 !=(0:Int) then some y6 else Option.bind (vH (a1.2.2.2.2.2.2.2.2.2.2.1,())) fun (y7:Int)=>bif y7 !=(0:Int) then some y7 else Option.bind (jA (a1,a1.2.2.2.2.2.2.2.2.2.2.1.2.2.2.2.2.2.2.1,(5:Int),(0:Int),(16777215:Int),())) fun (y8:Int)=>some y8
noncomputable def kC:ElS [zF]→Option (RTy.El (.p tI)):=fun x=>match x with|(a1,())=>Option.bind (zBm (a1.1,())) fun (y0:Bool)=>bif !y0 then some (3:Int) else Option.bind (zX (a1.2.1,(0:Int),(65535:Int),())) fun (y1:Bool)=>bif !y1 then some (1:Int) else Option.bind (kU (a1.2.2.1,())) fun (y12:Int)=>Option.bind (yD (a1.2.2.2.1,())) fun (y13:Int)=>Option.bind (kI (a1,())) fun (y14:Int)=>Option.bind (yF (a1.2.2.2.2.2.1,())) fun (y15:Int)=>Option.bind (kZ (a1,())) fun (y16:Int)=>Option.bind (zBI (a1,())) fun (y17:Int)=>Option.bind (zAz (a1,())) fun (y18:Int)=>Option.bind (zAd (a1,())) fun (y19:Int)=>Option.bind (zAV (a1,())) fun (y20:Int)=>Option.bind (j9 (a1,())) fun (y21:Int)=>q8 (zN (fun (s28:Int)=>bif decide (s28< (↑(List.length [y12,y13,y14,y15,y16,y17,y18,y19,y20,y21]):Int)) then Option.bind (idx [y12,y13,y14,y15,y16,y17,y18,y19,y20,y21] s28) fun (y29:Int)=>bif y29 !=(0:Int) then Option.bind (idx [y12,y13,y14,y15,y16,y17,y18,y19,y20,y21] s28) fun (y30:Int)=>some (Sum.inr (Sum.inr y30)) else some (Sum.inl (IntKind.wrap IntKind.i64 (s28+(1:Int)))) else some (Sum.inr (Sum.inl ()))) (0:Int)) fun (s31:Unit)=>some (0:Int)
noncomputable def uJ:ElS [zQ]→Option (RTy.El (.p tI)):=fun x=>match x with|(a1,())=>bif decide ((↑(List.length a1.1):Int)>(8:Int)) then some (7:Int) else q8 (zN (fun (s181:Int)=>bif decide (s181< (↑(List.length a1.1):Int)) then q8 (Option.bind (idx a1.1 s181) fun (y182:Ty.El zF)=>Option.bind (kC (y182,())) fun (y183:Int)=>bif y183 !=(0:Int) then some (Sum.inr (Sum.inr (Sum.inr y183))) else q8 (zN (fun (s184:Int)=>bif decide (s184<s181) then Option.bind (idx a1.1 s184) fun (y185:Ty.El zF)=>Option.bind (idx a1.1 s181) fun (y186:Ty.El zF)=>bif y185.1==y186.1 then some (Sum.inr (Sum.inr (Sum.inr (Sum.inr (Sum.inr (4:Int)))))) else some (Sum.inl (IntKind.wrap IntKind.i64 (s184+(1:Int)))) else some (Sum.inr (Sum.inl ()))) (0:Int)) fun (s187:Unit)=>zN (fun (s188:Int)=>Option.bind (idx a1.1 s181) fun (y189:Ty.El zF)=>bif decide (s188< (↑(List.length y189.2.2.1):Int)) then q8 (Option.bind (idx a1.1 s181) fun (y190:Ty.El zF)=>Option.bind (idx y190.2.2.1 s188) fun (y191:Ty.El qG)=>zN (fun (s192:Int)=>bif decide (s192<s181) then Option.bind (bif y191.2.2.1 !=(0:Int) then Option.bind (idx a1.1 s192) fun (y193:Ty.El zF)=>Option.bind (xD (y193,y191.2.1,())) fun (y194:Int)=>some (decide (y194≥(0:Int))) else some false) fun (s195:Bool)=>bif s195 then some (Sum.inr (Sum.inr (Sum.inr (Sum.inr (Sum.inr (Sum.inr (4:Int))))))) else some (Sum.inl (IntKind.wrap IntKind.i64 (s192+(1:Int)))) else some (Sum.inr (Sum.inl ()))) (0:Int)) fun (s196:Unit)=>some (Sum.inl (IntKind.wrap IntKind.i64 (s188+(1:Int)))) else some (Sum.inr (Sum.inl ()))) (0:Int)) fun (s197:Unit)=>some (Sum.inl (IntKind.wrap IntKind.i64 (s181+(1:Int)))) else some (Sum.inr (Sum.inl ()))) (0:Int)) fun (s198:Unit)=>some (0:Int)
end Go.Ve

namespace Go.Ve
open Go
def zNt (n:Nat) (t:Ty) (xs:List t.El) (ds:List V):List T:= .ot jK t xs::(ds.map .p++List.replicate (n- (ds.length+1)) (.p (.val undef)))
def zIK {St:Type} (n:Nat) (s:St) (t:Ty) (xs:List t.El) (ds:List V):Env St:= { tm:=zNt n t xs ds,vars:=List.replicate n none,st:=s }
def zUa {St:Type} (e:Env St) (t:Ty):Option (List t.El):=
 match e.get 0 with
 | .ot id t' ys=>match Nat.beq id jK with
  |true=>zC9 t' t ys
  |false=>none
 |_=>none
def RTy.getP:(R:RTy)→RV→Option R.El
 | .p ty, .p d=>ty.dec d
 | .tu tys, .p (.tup ds)=>zEy tys ds
 |_,_=>none
section
variable {Γ:Sig} {P:Program} {G:Nat→Option (List V)}
noncomputable def qAH (L:jE) (G:Nat→Option (List V)) (S:zM Γ) (A:Nat→Option JA) (fn:Func) (c:Code) (t:Ty) (R:RTy) (s:Γ.St) (xs:List t.El) (ds:List V):Option (List t.El×R.El):=
 zDh (zIK fn.ntmps s t xs ds) (fun e=>exC L G S A c (List t.El×R.El) (fun k e1 _=>match k with
  | .exit _=>none
  |_=>match zUa e1 t with
   |some ys=>match zCc L e1 fn with
    |some r=>match R.getP r with
     |some y=>zKj (Nat.beq ys.length xs.length) (some (ys,y))
     |none=>none
    |none=>none
   |none=>none) e 0)
theorem zMc (t:Ty) (x:t.El) (h:t.flat=true): ∃u,(t.enc x).toVal1=some u:=by
 have hp:=zOj t [x] h
 simp only [RV.plain,List.map_cons,List.map_nil,List.all_cons,List.all_nil,Bool.and_true] at hp
 exact Option.isSome_iff_exists.1 hp
theorem zVI {d:V} {u:Value} (h:d.toVal1=some u): ∃u',d.toVal=some u':=by
 cases d<;>first|exact ⟨u,h⟩|(simp [V.toVal1] at h)
theorem zP9: ∀ (ts:List Ty) (x:ElS ts),ts.all Ty.flat=true→(kQ ts x).all (fun d=>d.toVal1.isSome)=true
 |[],_,_=>rfl
 |t::ts,x,h=>by
  simp only [List.all_cons,Bool.and_eq_true] at h
  simp only [kQ,List.all_cons,Bool.and_eq_true]
  obtain ⟨u,hu⟩:=zMc t x.1 h.1
  exact ⟨by rw [hu];rfl,zP9 ts x.2 h.2⟩
theorem zRE {R:RTy} (h:R.pl=true) (hno: ∀ty,R≠ .o ty) (y:R.El): ∃u,(R.val y).toVal=some u:=by
 cases R with
 |p ty=>obtain ⟨u,hu⟩:=zMc ty y h;exact zVI hu
 |o ty=>exact absurd rfl (hno ty)
 |tu tys=>
  have:=zP9 tys y h
  exact ⟨_,by simp only [RTy.val,V.toVal];rw [if_pos this]⟩
theorem zOf {w:World} {F:Blk→Prop} {v:Value} {R:RTy} {d:V} {y:R.El} (h:R.getP (.p d)=some y) (hr:Rd w F v d):Rd w F v (R.val y):=by
 cases R with
 |p ty=>exact kW (t:=ty) (x:=y) h _ _ _ hr
 |o ty=>simp [RTy.getP] at h
 |tu tys=>
  cases d with
  |tup ds=>exact WkV.tup (uP _ _ _ h) _ _ _ hr
  |_=>simp [RTy.getP] at h
theorem zQc {w0:World} {F0:Blk→Prop} {O0:yT} {a:Act} {w:World} {e:Env Γ.St} (hi:Inv Γ G w0 F0 O0 a w e) {fn:Func} {d:V} (h:zCc P e fn=some (.p d)):
  ∃v F',(results fn a.tmps).run P w= .ok v w∧Rd w F' v d:=by
 obtain ⟨F,O,β,hc,hG,hsz,hdf,ht,hv⟩:=hi
 have hvars: ∀s cs,e.var s=some cs→zS e (.v s)→jD w F β (zS e) (β.vb s) cs:=fun s cs hcs _=>hv s cs hcs
 have hrun: ∀us,(fn.results.toList.mapM (zPO a.tmps)).run P w= .ok us w→
   (results fn a.tmps).run P w= .ok (if h:us.length=1 then us[0] else .tuple us.toArray) w:=by
  intro us hus
  rw [zND,Array.mapM_eq_mapM_toList]
  simp only [Sem.run_bind,Sem.run_map,hus,Result.andThen_ok,Sem.run_pure]
  rfl
 have hone: ∀r0,fn.results.toList=[r0]→ ∀d,zXp P e r0=some d→ ∃v F',(results fn a.tmps).run P w= .ok v w∧Rd w F' v d:=by
  intro r0 hr d hd
  obtain ⟨us,h1,h2,h3⟩:=zHu (P:=P) hvars ht [r0] [d] (by simp [zEL,hd])
  cases us with
  |nil=>simp at h2
  |cons u us=>
   cases us with
   |cons _ _=>simp at h2
   |nil=>
    have:=hrun [u] (by rw [hr];exact h1)
    exact ⟨u,_,by simpa using this,h3 0 u d rfl rfl⟩
 unfold zCc at h
 split at h
 ·rename_i t hres
  split at h
  ·cases h
  ·rename_i id k hx
   have hT:=ht t
   rw [hx] at hT
   obtain ⟨ha,cap,hvv,hrow⟩:=hT
   simp only [Option.some.injEq,RV.p.injEq] at h;subst h
   have hrun1:(results fn a.tmps).run P w= .ok (a.tmps.getD t undef) w:=by
    have:=hrun [a.tmps.getD t undef] (by rw [hres];rfl)
    simpa using this
   exact ⟨_,F,hrun1,by rw [hvv];exact .slemp _ _⟩
  ·cases h
  ·cases h
  ·simp only [Option.map_eq_some_iff] at h
   obtain ⟨d',hd,heq⟩:=h
   cases heq
   exact hone _ hres d hd
 ·rename_i r0 _ hres
  simp only [Option.map_eq_some_iff] at h
  obtain ⟨d',hd,heq⟩:=h
  cases heq
  exact hone _ hres d hd
 ·rename_i hn1 hn2
  simp only [Option.map_eq_some_iff] at h
  obtain ⟨ds,hds,heq⟩:=h
  cases heq
  obtain ⟨us,h1,h2,h3⟩:=zHu (P:=P) hvars ht _ ds hds
  have hrun2:=hrun us h1
  have hne:us.length≠1:=by
   intro hl
   have hlen: ∀ (l:List ResultVar) (ds:List V),zEL P e l=some ds→ds.length=l.length:=by
    intro l
    induction l with
    |nil=>intro ds h;simp [zEL] at h;subst h;rfl
    |cons r l ih=>
     intro ds h
     simp only [zEL] at h
     split at h
     ·rename_i d ds' hd hds
      simp only [Option.some.injEq] at h;subst h
      simp [ih ds' hds]
     ·cases h
   have:=hlen _ ds hds
   match hl':fn.results.toList with
   |[]=>rw [hl'] at this;simp only [List.length_nil] at this;omega
   |[r0]=>exact hn2 r0 hl'
   |_::_::_=>rw [hl'] at this;simp only [List.length_cons] at this;omega
  rw [dif_neg hne] at hrun2
  exact ⟨_,_,hrun2, .tup _ ds (by simpa using h2) (fun i x d hi hd=>h3 i x d (by simpa using hi) hd)⟩
theorem zX5 [hsub:Subsingleton Γ.St] {S:zM Γ} {A:Nat→Option JA} (hmix:P.follows .mixedOrders=true) (hS:qH Γ P G S.toS) {f:FuncId} {fn:Func} {c:Code} (hf:P.funcs[f]? =some fn) (hb:fn.body=some c)
  {t:Ty} {X:Type} {dec:List V→Option X} {enc:X→List V} (hdec: ∀ds x,dec ds=some x→wW ds (enc x)) (hnb: ∀ds x,dec ds=some x→zCn ds=none) {R:RTy} (hpl:R.pl=true) (hno: ∀ty,R≠ .o ty) {g:List t.El→X→Option (List t.El×R.El)}
  (h: ∀s xs x,qAH (Γ:=Γ) P G S A fn c t R s xs (enc x)=g xs x):zBt Γ P G f t dec R g:=by
 intro s xs r x ys y hx hy
 refine zBu.of (hnb r x hx) ?_
 intro w F O b v0 args hsig hG hF hown hb0 hsize ha0 hrd
 have hwk:=hdec r x hx
 have hlen':args.size=(enc x).length+1:=hsize.trans (by rw [hwk.len])
 have hrd': ∀ (i:Nat) (u:Value) (d:V),args[i+1]? =some u→(enc x)[i]? =some d→Rd w F u d:=by
  intro i u d hu hd
  have hlt:i<r.length:=by rw [hwk.len];exact (List.getElem?_eq_some_iff.1 hd).1
  exact hwk.get i r[i] d (by simp [hlt]) hd w F u (hrd i u r[i] hu (by simp [hlt]))
 have hex:=h s xs x
 rw [hy] at hex
 unfold qAH at hex
 rw [uB] at hex
 obtain ⟨k,e',d,hok,_,hend⟩:=zHG (fun _ _ _=> .inl hsub) hmix hS c _ _ _ _ _ hex
 have hk:(k= .normal∨k= .ret)∧(match zUa e' t with
   |some ys=>match zCc (jE.of P) e' fn with
    |some r=>match R.getP r with
     |some y=>zKj (Nat.beq ys.length xs.length) (some (ys,y))
     |none=>none
    |none=>none
   |none=>none)=some (ys,y):=by
  cases k with
  |normal=>exact ⟨.inl rfl,hend⟩
  |ret=>exact ⟨.inr rfl,hend⟩
  |exit id=>cases hend
 obtain ⟨hk,hend⟩:=hk
 split at hend
 ·rename_i ys' hys
  split at hend
  ·rename_i rv hrv
   split at hend
   ·rename_i y' hy'
    obtain ⟨hlen0,hend⟩:=yM.1 hend
    have hlen0:=Nat.eq_of_beq_eq_true hlen0
    simp only [Option.some.injEq,Prod.mk.injEq] at hend
    obtain ⟨rfl,rfl⟩:=hend
    refine calls_of_wp hf hb ?_
    have hcap: ∃cap,xs≠[]→v0= .slice (some ⟨b,0,none⟩) xs.length cap∧xs.length≤cap∧ ∃ (c:Array Value) (et:TypeId) (fl:Nat×Nat),w.heap[b]? =some (.cells c et fl)∧c.size=cap*t.size:=by
     rcases hown with ⟨h1,_⟩|⟨h1,_,cap,h2,c,et,h3,h4,h5,_⟩
     ·exact ⟨0,fun h=>absurd (by simpa using h1) h⟩
     ·exact ⟨cap,fun _=>⟨by simpa using h2,by simpa using h5,c,et,(0,0),h3,h4⟩⟩
    obtain ⟨cap,hcap⟩:=hcap
    let β:Lay:=⟨fun _=>0,fun _=>b⟩
    let al:j6→Prop:=fun q=>q= .o jK∧xs≠[]
    let O0:yT:=⟨O,if xs=[] then none else some (b,cap*t.size)⟩
    have h0T:zU w F β al v0 (.ot jK t xs):=by
     rcases hown with ⟨h1,h2⟩|⟨h1,_,h2⟩
     ·exact .inl ⟨h1,h2⟩
     ·exact .inr ⟨h1,⟨rfl,fun hh=>h1 (by rw [hh];rfl)⟩,h2⟩
    have q7: ∀q,zU w F β al ((args++Array.replicate (fn.ntmps-args.size) undef).getD q undef) ((zIK fn.ntmps s t xs (enc x)).get q):=by
     intro q
     simp only [zIK,zNt,Env.get,List.getD_eq_getElem?_getD,Array.getD_eq_getD_getElem?]
     cases q with
     |zero=>
      rw [Array.getElem?_append_left (by omega),ha0]
      exact h0T
     |succ q=>
      rw [List.getElem?_cons_succ]
      by_cases ht:q< (enc x).length
      ·rw [List.getElem?_append_left (by simpa using ht),Array.getElem?_append_left (by omega)]
       rw [List.getElem?_map,List.getElem?_eq_getElem ht,Array.getElem?_eq_getElem (by omega)]
       exact hrd' q _ _ (by simp [show q+1<args.size by omega]) (by simp [ht])
      ·rw [List.getElem?_append_right (by simpa using Nat.le_of_not_lt ht),Array.getElem?_append_right (by omega),hlen']
       simp only [List.length_map]
       by_cases h2:q- (enc x).length<fn.ntmps- ((enc x).length+1)
       ·rw [List.getElem?_replicate,if_pos h2,Array.getElem?_replicate,if_pos (by omega)]
        exact Rd.val _
       ·rw [List.getElem?_replicate,if_neg h2]
        trivial
    have hnovar: ∀s0,(zIK fn.ntmps s t xs (enc x)).var s0=none:=by
     intro s0
     simp only [zIK,Env.var,List.getElem?_replicate]
     split<;>rfl
    have hl:xs≠[]→O0.l=some (b,cap*t.size):=fun hh=>by simp [O0,hh]
    have hinv:Inv Γ G w F O0 { tmps:=args++Array.replicate (fn.ntmps-args.size) undef,defers:=[] } w (zIK fn.ntmps s t xs (enc x)):=by
     refine Inv.of (F:=F) (O:=O) (β:=β) (al:=al) ⟨zC1.refl _ w,hsig,fun b hb=> .inl hb,fun b hb=>⟨.inl hb,hF b hb⟩,fun b hb=>hb,?_,?_,?_⟩ hG ?_ rfl q7 ?_ ?_
     ·rintro q ⟨rfl,hne⟩
      exact ⟨.inr ⟨rfl,_,hl hne⟩,hb0 hne⟩
     ·rintro q q' ⟨rfl,_⟩ ⟨rfl,_⟩ _;rfl
     ·intro b' n hb'
      by_cases hx0:xs=[]
      ·simp [O0,hx0] at hb'
      ·rw [hl hx0] at hb'
       simp only [Option.some.injEq,Prod.mk.injEq] at hb'
       obtain ⟨rfl,rfl⟩:=hb'
       obtain ⟨_,_,c,et,fl,h1,h2⟩:=hcap hx0
       exact ⟨(hb0 hx0).1,(hb0 hx0).2.2,(hb0 hx0).2.1,c,et,fl,h1,h2⟩
     ·simp [zIK,zNt,hlen'];omega
     ·intro s0 cs hcs;rw [hnovar] at hcs;cases hcs
     ·rintro s0 ⟨hh,_⟩;cases hh
    refine wp_mono (hok w F O0 _ w hinv) ?_
    rintro ex a' w' ⟨rfl,hi'⟩
    have hdf:a'.defers=[]:=by obtain ⟨_,_,_,_,_,_,hdf,_⟩:=hi';exact hdf
    have hpd: ∃d0,rv= .p d0:=by
     cases rv with
     |p d0=>exact ⟨d0,rfl⟩
     |own es=>cases R<;>simp [RTy.getP] at hy'
     |ownT t0 xs0=>cases R<;>simp [RTy.getP] at hy'
    obtain ⟨d0,rfl⟩:=hpd
    obtain ⟨v,F1,h1,h2⟩:=zQc hi' hrv
    have h3:=zOf hy' h2
    obtain ⟨u,hu⟩:=zRE hpl hno y'
    obtain ⟨F',O',β',hc',hG',hsz',_,ht',hv'⟩:=hi'
    have hrow:=ht' 0
    have hkeep:zC1 (fun c=>O c∨(xs≠[]∧c=b)) w w':=by
     refine ⟨hc'.keep.os,hc'.keep.tape,hc'.keep.output,hc'.keep.size,fun c hc ho=>hc'.keep.block c hc ?_,hc'.keep.drawn⟩
     rintro (hh|⟨n,hh⟩)
     ·exact ho (.inl hh)
     ·by_cases hx0:xs=[]
      ·simp [O0,hx0] at hh
      ·rw [hl hx0] at hh
       simp only [Option.some.injEq,Prod.mk.injEq] at hh
       exact ho (.inr ⟨hx0,hh.1.symm⟩)
    have hrow':zO1 w' F' ⟨fun _=>b,fun _=>b⟩ (fun _=>True) v0 0 t.size (ys'.map t.enc):=by
     unfold zUa at hys
     split at hys
     ·rename_i id t' zs hg
      split at hys
      ·rename_i hid
       have hid:=Nat.eq_of_beq_eq_true hid
       subst hid
       obtain ⟨htt,hz⟩:=uL (uG hys)
       subst htt
       subst hz
       rw [hg] at hrow
       by_cases hx0:xs=[]
       ·subst hx0
        have hz:zs=[]:=List.eq_nil_of_length_eq_zero hlen0
        subst hz
        rcases hown with ⟨_,h2⟩|⟨h1,_⟩
        ·exact .inl ⟨rfl,h2⟩
        ·exact absurd rfl h1
       ·have hne:zs≠[]:=fun hh=>hx0 (List.eq_nil_of_length_eq_zero (by rw [←hlen0,hh];rfl))
        rcases hrow with ⟨h1,_⟩|⟨h1,hal,cap',_,c1,et1,q1,q2,q3,q4,q5⟩
        ·exact absurd (by simpa using h1) hne
        ·rcases (hc'.place _ hal).1 with ⟨hh,_⟩|⟨_,n,hh⟩
         ·exact absurd rfl hh
         ·rw [hl hx0] at hh
          simp only [Option.some.injEq,Prod.mk.injEq] at hh
          have hbb:β'.ob jK=b:=hh.1.symm
          rw [hbb] at q1
          obtain ⟨_,_,_,c2,et2,fl2,k1,k2⟩:=hc'.lent b _ (hl hx0)
          rw [q1] at k1
          simp only [Option.some.injEq,Obj.cells.injEq] at k1
          obtain ⟨rfl,_,_⟩:=k1
          obtain ⟨hv0,hle,_⟩:=hcap hx0
          refine .inr ⟨h1,trivial,cap,by rw [hv0];simp [hlen0],c1,et1,q1,k2,by rw [List.length_map,hlen0];exact hle,q4,q5⟩
      ·cases hys
     ·cases hys
    have hst:e'.st=s:=Subsingleton.elim _ _
    rcases hk with rfl|rfl
    ·exact ⟨hdf,v,h1,v,F',O',rfl,by rw [←hst];exact hc'.sig,hkeep,hc'.oin,hc'.f0,hc'.fin,zFY.of hrow' (h3.of_flat hu)⟩
    ·exact ⟨hdf,v,h1,v,F',O',rfl,by rw [←hst];exact hc'.sig,hkeep,hc'.oin,hc'.f0,hc'.fin,zFY.of hrow' (h3.of_flat hu)⟩
   ·cases hend
  ·cases hend
 ·cases hend
theorem zYu: ∀ (ts:List ATy) (ds:List V) (x:ElA ts),uF ts ds=some x→zCn ds=none
 |_,[],_,_=>rfl
 |[],_::_,_,h=>by simp [uF] at h
 |t::ts,d::ds,x,h=>by
  refine zGO ?_
  rintro r hr
  simp only [List.cons.injEq] at hr
  obtain ⟨rfl,_⟩:=hr
  have hb:t.dec .bot=none:=by
   cases t with
   |d ty=>cases ty<;>rfl
   |pp ty=>rfl
   |clo f caps=>rfl
  simp only [uF,hb] at h
  cases h
def zNs (n:Nat) (t:Ty) (k:Nat) (y:t.El) (ds:List V):List T:=
 (ds.take k).map .p++ .oet jK t [y] 0 0::((ds.drop k).map .p++List.replicate (n- (ds.length+1)) (.p (.val undef)))
def zIJ {St:Type} (n:Nat) (s:St) (t:Ty) (k:Nat) (y:t.El) (ds:List V):Env St:= { tm:=zNs n t k y ds,vars:=List.replicate n none,st:=s }
def zXy {St:Type} (e:Env St) (k:Nat) (t:Ty):Option t.El:=
 match e.get k with
 | .oet id t' ys 0 0=>match Nat.beq id jK with
  |true=>match zC9 t' t ys with
   |some [z]=>some z
   |_=>none
  |false=>none
 |_=>none
noncomputable def qAG (L:jE) (G:Nat→Option (List V)) (S:zM Γ) (A:Nat→Option JA) (fn:Func) (c:Code) (t:Ty) (R:RTy) (p:Nat) (s:Γ.St) (y:t.El) (ds:List V):Option (t.El×R.El):=
 zDh (zIJ fn.ntmps s t p y ds) (fun e=>exC L G S A c (t.El×R.El) (fun k e1 _=>match k with
  | .exit _=>none
  |_=>match zXy e1 p t with
   |some z=>match zCc L e1 fn with
    |some r=>match R.getP r with
     |some u=>some (z,u)
     |none=>none
    |none=>none
   |none=>none) e 0)
def zTx (Γ:Sig) (P:Program) (G:Nat→Option (List V)) (f:FuncId) (t:Ty) (p:Nat) {X:Type} (dec:List V→Option X) (R:RTy) (g:t.El→X→Option (t.El×R.El)):Prop:=
 ∀ (s:Γ.St) (y:t.El) (r:List V) (x:X) (z:t.El) (u:R.El),dec r=some x→g y x=some (z,u)→zYK Γ P G f s t p [y] r s [z] (R.val u)
def zQy (t:Ty) (p:Nat) {X:Type} (dec:List V→Option X) (R:RTy) (g:t.El→X→Option (t.El×R.El)):Γ.St→List V→Option (zDb Γ.St):=fun s ds=>
 match ds with
 | .tl t' xs::r=>match zC9 t' t xs with
  |some [y]=>match zCn r with
   |some (k,r')=>match Nat.beq k p with
    |true=>match dec r' with
     |some x=>some ⟨t.El×R.El,g y x,fun _=>s,fun u=> .p (.tup [.tl t [u.1],R.val u.2]),false⟩
     |none=>none
    |false=>none
   |none=>none
  |_=>none
 |_=>none
theorem zRO {S:zM Γ} (hS:qH Γ P G S.toS) {f:FuncId} {sp:Γ.St→List V→Option (zDb Γ.St)} (hi:zG3 P f=true)
  (h: ∀ (s:Γ.St) (t:Ty) (xs:List t.El) (r:List V) (cx:zDb Γ.St) (u:cx.ρ) (ys:List t.El) (d:V),sp s (.tl t xs::r)=some cx→cx.m=some u→cx.res u= .p (.tup [.tl t ys,d])→zBu Γ P G f s t xs r (cx.st u) ys d):
  qH Γ P G (S.addB f sp).toS:=by
 have e0: ∀s ds,zCN ds=false→(S.addB f sp).toS f s ds=S.toS f s ds:=by
  intro s ds hb
  simp only [zM.toS,zM.addB,Nat.beq_refl]
  cases ds with
  |nil=>rfl
  |cons d r=>cases d<;>first|rfl|cases hb
 have e1: ∀s r,(S.addB f sp).toS f s (.bot::r)=match sp s r with
   |some c=>c.m.map (fun y=>(c.st y,c.res y))
   |none=>S.toS f s (.bot::r):=by
  intro s r
  simp only [zM.toS,zM.addB,Nat.beq_refl]
  cases sp s r<;>rfl
 have e2: ∀g',g'≠f→(S.addB f sp).toS g'=S.toS g':=by
  intro g' hg
  funext s ds
  have:Nat.beq g' f=false:=by
   cases hb:Nat.beq g' f with
   |false=>rfl
   |true=>exact absurd (Nat.eq_of_beq_eq_true hb) hg
  simp only [zM.toS,zM.addB,this]
 have hnf: ∀k,P.funcs[k]? =none→k≠f:=by
  rintro k hk rfl
  simp [zG3,hk] at hi
 have hisf : ∃ fn, P.funcs[f]? = some fn ∧ fn.body.isSome = true ∧ (fn.name == "runtime.NumGoroutine") = false := by
  unfold zG3 at hi
  split at hi
  ·rename_i fn hfn
   simp only [Bool.and_eq_true,Bool.not_eq_true'] at hi
   exact ⟨fn,hfn,hi.1,hi.2⟩
  ·cases hi
 refine ⟨?_,?_,fun hno st q t ys bytes st' d h=>hS.app hno st q t ys bytes st' d (by rw [←e2 _ (hnf _ hno)];exact h),?_⟩
 ·intro g'
  by_cases hg:g'=f
  ·subst hg
   intro w F O s args ds s' r a1 a2 a3 a4 a5 a6
   cases hb:zCN ds with
   |false=>
    rw [e0 s ds hb] at a6
    exact hS.ok g' w F O s args ds s' r a1 a2 a3 a4 a5 a6
   |true=>
    exfalso
    cases ds with
    |nil=>cases hb
    |cons d ds=>
     cases d with
     |bot=>
      have h0:0<args.size:=by rw [a4];simp
      have hnb: ∀u:Value, ¬Rd w F u .bot:=fun u h=>by cases h
      exact hnb _ (a5 0 args[0] .bot (by simp [h0]) rfl)
     |_=>cases hb
  ·rw [e2 g' hg];exact hS.ok g'
 ·intro g' s ds r hr hbot
  by_cases hg:g'=f
  ·subst hg;exact hisf
  ·rw [e2 g' hg] at hr;exact hS.is g' s ds r hr hbot
 ·intro g' st t0 xs ds st' ys d h0
  by_cases hg:g'=f
  ·subst hg
   rw [e1] at h0
   split at h0
   ·rename_i cx hc
    refine ⟨?_,hisf⟩
    simp only [Option.map_eq_some_iff,Prod.mk.injEq] at h0
    obtain ⟨u,hu,h1,h2⟩:=h0
    rw [←h1]
    exact h st t0 xs ds cx u ys d hc hu h2
   ·exact hS.bor g' st t0 xs ds st' ys d h0
  ·rw [e2 g' hg] at h0;exact hS.bor g' st t0 xs ds st' ys d h0
theorem zRM {S:zM Γ} (hS:qH Γ P G S.toS) {f:FuncId} {t:Ty} {p:Nat} {X:Type} {dec:List V→Option X} {R:RTy} {g:t.El→X→Option (t.El×R.El)} (hi:zG3 P f=true)
  (h:zTx Γ P G f t p dec R g):qH Γ P G (S.addB f (zQy t p dec R g)).toS:=by
 refine zRO hS hi ?_
 intro s t0 xs r cx u ys d hc hu hres
 simp only [zQy] at hc
 cases hzs:zC9 t0 t xs with
 |none=>rw [hzs] at hc;cases hc
 |some zs=>
  rw [hzs] at hc
  rcases zs with _|⟨y,_|⟨y2,zs⟩⟩
  ·cases hc
  ·obtain ⟨ht,hz⟩:=uL (uG hzs)
   subst ht
   have hz:xs=[y]:=hz
   subst hz
   simp only at hc
   cases hpp:zCn r with
   |none=>rw [hpp] at hc;cases hc
   |some q=>
    obtain ⟨k,r'⟩:=q
    rw [hpp] at hc
    simp only at hc
    cases hk:Nat.beq k p with
    |false=>rw [hk] at hc;cases hc
    |true=>
     rw [hk] at hc
     simp only at hc
     have hk:=Nat.eq_of_beq_eq_true hk
     subst hk
     cases hx:dec r' with
     |none=>rw [hx] at hc;cases hc
     |some x=>
      rw [hx] at hc
      simp only [Option.some.injEq] at hc
      subst hc
      simp only [RV.p.injEq,V.tup.injEq,List.cons.injEq,and_true,V.tl.injEq,true_and] at hres
      obtain ⟨h2,h3⟩:=hres
      have h2:=eq_of_heq h2
      subst h2
      subst h3
      unfold zBu
      rw [hpp]
      exact h s y r' x u.1 u.2 hx hu
  ·cases hc
theorem zX3 [hsub:Subsingleton Γ.St] {S:zM Γ} {A:Nat→Option JA} (hmix:P.follows .mixedOrders=true) (hS:qH Γ P G S.toS) {f:FuncId} {fn:Func} {c:Code} (hf:P.funcs[f]? =some fn) (hb:fn.body=some c)
  {t:Ty} {p:Nat} {X:Type} {dec:List V→Option X} {enc:X→List V} (hdec: ∀ds x,dec ds=some x→wW ds (enc x)) {R:RTy} (hpl:R.pl=true) (hno: ∀ty,R≠ .o ty) {g:t.El→X→Option (t.El×R.El)}
  (h: ∀s y x,qAG (Γ:=Γ) P G S A fn c t R p s y (enc x)=g y x):zTx Γ P G f t p dec R g:=by
 intro s y r x z u0 hx hy w F O b args hsig hG hF hrow0 _ hb0 hsize hk ha0 hrd
 have hwk:=hdec r x hx
 have hlen':args.size=(enc x).length+1:=hsize.trans (by rw [hwk.len])
 have hk':p≤(enc x).length:=by rw [←hwk.len];exact hk
 have hrd': ∀ (i:Nat) (u:Value) (d:V),args[if i<p then i else i+1]? =some u→(enc x)[i]? =some d→Rd w F u d:=by
  intro i u d hu hd
  have hlt:i<r.length:=by rw [hwk.len];exact (List.getElem?_eq_some_iff.1 hd).1
  exact hwk.get i r[i] d (by simp [hlt]) hd w F u (hrd i u r[i] hu (by simp [hlt]))
 have hex:=h s y x
 rw [hy] at hex
 unfold qAG at hex
 rw [uB] at hex
 obtain ⟨k,e',d,hok,_,hend⟩:=zHG (fun _ _ _=> .inl hsub) hmix hS c _ _ _ _ _ hex
 have hk:(k= .normal∨k= .ret)∧(match zXy e' p t with
   |some z=>match zCc (jE.of P) e' fn with
    |some r=>match R.getP r with
     |some u=>some (z,u)
     |none=>none
    |none=>none
   |none=>none)=some (z,u0):=by
  cases k with
  |normal=>exact ⟨.inl rfl,hend⟩
  |ret=>exact ⟨.inr rfl,hend⟩
  |exit id=>cases hend
 obtain ⟨hk,hend⟩:=hk
 split at hend
 ·rename_i z' hz'
  split at hend
  ·rename_i rv hrv
   split at hend
   ·rename_i y' hy'
    simp only [Option.some.injEq,Prod.mk.injEq] at hend
    obtain ⟨rfl,rfl⟩:=hend
    refine calls_of_wp hf hb ?_
    have hcap: ∃ (c:Array Value) (et:TypeId) (fl:Nat×Nat),w.heap[b]? =some (.cells c et fl)∧c.size=1*t.size:=by
     obtain ⟨c,et,h3,h4,_⟩:=hrow0
     exact ⟨c,et,(0,0),h3,h4⟩
    let β:Lay:=⟨fun _=>0,fun _=>b⟩
    let al:j6→Prop:=fun q=>q= .o jK
    let O0:yT:=⟨O,some (b,1*t.size)⟩
    have h0T:zU w F β al (.pointer (some ⟨b,0,none⟩)) (.oet jK t [y] 0 0):=⟨rfl,by simp,1,by simp [β],hrow0⟩
    have q7: ∀q,zU w F β al ((args++Array.replicate (fn.ntmps-args.size) undef).getD q undef) ((zIJ fn.ntmps s t p y (enc x)).get q):=by
     intro q
     simp only [zIJ,zNs,Env.get,List.getD_eq_getElem?_getD,Array.getD_eq_getD_getElem?]
     have hl1:(((enc x).take p).map T.p).length=p:=by simp [hk']
     rcases Nat.lt_trichotomy q p with hq|hq|hq
     ·rw [List.getElem?_append_left (by omega),Array.getElem?_append_left (by omega)]
      rw [List.getElem?_map,List.getElem?_take,if_pos hq,List.getElem?_eq_getElem (by omega),Array.getElem?_eq_getElem (by omega)]
      exact hrd' q _ _ (by rw [if_pos hq];simp [show q<args.size by omega]) (by simp [show q< (enc x).length by omega])
     ·subst hq
      rw [List.getElem?_append_right (by omega),hl1,Nat.sub_self,Array.getElem?_append_left (by omega),ha0]
      exact h0T
     ·rw [List.getElem?_append_right (by omega),hl1]
      obtain ⟨m,rfl⟩: ∃m,q=p+m+1:=⟨q-p-1,by omega⟩
      rw [show p+m+1-p=m+1 by omega,List.getElem?_cons_succ]
      by_cases ht:p+m< (enc x).length
      ·rw [List.getElem?_append_left (by simp;omega),Array.getElem?_append_left (by omega)]
       rw [List.getElem?_map,List.getElem?_drop,List.getElem?_eq_getElem ht,Array.getElem?_eq_getElem (by omega)]
       exact hrd' (p+m) _ _ (by rw [if_neg (by omega)];simp [show p+m+1<args.size by omega]) (by simp [ht])
      ·rw [List.getElem?_append_right (by simp;omega),Array.getElem?_append_right (by omega),hlen']
       simp only [List.length_map,List.length_drop]
       by_cases h2:m- ((enc x).length-p)<fn.ntmps- ((enc x).length+1)
       ·rw [List.getElem?_replicate,if_pos h2,Array.getElem?_replicate,if_pos (by omega)]
        exact Rd.val _
       ·rw [List.getElem?_replicate,if_neg h2]
        trivial
    have hnovar: ∀s0,(zIJ fn.ntmps s t p y (enc x)).var s0=none:=by
     intro s0
     simp only [zIJ,Env.var,List.getElem?_replicate]
     split<;>rfl
    have hinv:Inv Γ G w F O0 { tmps:=args++Array.replicate (fn.ntmps-args.size) undef,defers:=[] } w (zIJ fn.ntmps s t p y (enc x)):=by
     refine Inv.of (F:=F) (O:=O) (β:=β) (al:=al) ⟨zC1.refl _ w,hsig,fun b hb=> .inl hb,fun b hb=>⟨.inl hb,hF b hb⟩,fun b hb=>hb,?_,?_,?_⟩ hG ?_ rfl q7 ?_ ?_
     ·rintro q rfl
      exact ⟨.inr ⟨rfl,_,rfl⟩,hb0⟩
     ·rintro q q' rfl rfl _;rfl
     ·intro b' n hb'
      simp only [O0,Option.some.injEq,Prod.mk.injEq] at hb'
      obtain ⟨rfl,rfl⟩:=hb'
      obtain ⟨c,et,fl,h1,h2⟩:=hcap
      exact ⟨hb0.1,hb0.2.2,hb0.2.1,c,et,fl,h1,h2⟩
     ·simp [zIJ,zNs,hlen',Nat.min_eq_left hk'];omega
     ·intro s0 cs hcs;rw [hnovar] at hcs;cases hcs
     ·rintro s0 hh;cases hh
    refine wp_mono (hok w F O0 _ w hinv) ?_
    rintro ex a' w' ⟨rfl,hi'⟩
    have hdf:a'.defers=[]:=by obtain ⟨_,_,_,_,_,_,hdf,_⟩:=hi';exact hdf
    have hpd: ∃d0,rv= .p d0:=by
     cases rv with
     |p d0=>exact ⟨d0,rfl⟩
     |own es=>cases R<;>simp [RTy.getP] at hy'
     |ownT t0 xs0=>cases R<;>simp [RTy.getP] at hy'
    obtain ⟨d0,rfl⟩:=hpd
    obtain ⟨v,F1,h1,h2⟩:=zQc hi' hrv
    have h3:=zOf hy' h2
    obtain ⟨u,hu⟩:=zRE hpl hno y'
    obtain ⟨F',O',β',hc',hG',hsz',_,ht',hv'⟩:=hi'
    have hrow:=ht' p
    have hkeep:zC1 (fun c=>O c∨c=b) w w':=by
     refine ⟨hc'.keep.os,hc'.keep.tape,hc'.keep.output,hc'.keep.size,fun c hc ho=>hc'.keep.block c hc ?_,hc'.keep.drawn⟩
     rintro (hh|⟨n,hh⟩)
     ·exact ho (.inl hh)
     ·simp only [O0,Option.some.injEq,Prod.mk.injEq] at hh
      exact ho (.inr hh.1.symm)
    have hrow':qL w' F' b t.size 1 ([z'].map t.enc):=by
     unfold zXy at hz'
     split at hz'
     ·rename_i id t' zs hg
      split at hz'
      ·rename_i hid
       have hid:=Nat.eq_of_beq_eq_true hid
       subst hid
       split at hz'
       ·rename_i z1 hcast
        simp only [Option.some.injEq] at hz'
        subst hz'
        obtain ⟨htt,hz⟩:=uL (uG hcast)
        subst htt
        subst hz
        rw [hg] at hrow
        obtain ⟨hal,_,cap',_,c1,et1,q1,q2,q3,q4,q5⟩:=hrow
        rcases (hc'.place _ hal).1 with ⟨hh,_⟩|⟨_,n,hh⟩
        ·exact absurd rfl hh
        ·simp only [O0,Option.some.injEq,Prod.mk.injEq] at hh
         have hbb:β'.ob jK=b:=hh.1.symm
         rw [hbb] at q1
         obtain ⟨_,_,_,c2,et2,fl2,k1,k2⟩:=hc'.lent b _ rfl
         rw [q1] at k1
         simp only [Option.some.injEq,Obj.cells.injEq] at k1
         obtain ⟨rfl,_,_⟩:=k1
         exact ⟨c1,et1,q1,k2,by simp,q4,q5⟩
       ·cases hz'
      ·cases hz'
     ·cases hz'
    have hst:e'.st=s:=Subsingleton.elim _ _
    rcases hk with rfl|rfl
    ·exact ⟨hdf,v,h1,v,F',O',rfl,by rw [←hst];exact hc'.sig,hkeep,hc'.oin,hc'.f0,hc'.fin,hrow',rfl,h3.of_flat hu⟩
    ·exact ⟨hdf,v,h1,v,F',O',rfl,by rw [←hst];exact hc'.sig,hkeep,hc'.oin,hc'.f0,hc'.fin,hrow',rfl,h3.of_flat hu⟩
   ·cases hend
  ·cases hend
 ·cases hend
end
end Go.Ve

/-
  Functions out of code, part 5: soundness; contracts of functions.
  The shapes of the program's data.
  Functions out of code: the checks of a network.
  Functions out of code, part 6: contracts of functions to which a list is lent.
  Functions out of code, part 7: slices that go by a number: a state of lists; append.
-/
import Derived.Test.YtcnlcmbchljpgaaGreatQb9
import Derived.Test.YtcnlcmbchljpgaaGreatQb2
set_option linter.unusedVariables false
namespace Go.Ve
open Go
section
variable {Γ:Sig} {P:Program} {G:Nat→Option (List V)} {e e1 e2:Env Γ.St}
def zM7 (G:Nat→Option (List V)) (e e2:Env Γ.St):Prop:=
 ∀ (w0:World) (F0:Blk→Prop) (O0:kU) (a:Act) (w:World),Inv Γ G w0 F0 O0 a w e→Inv Γ G w0 F0 O0 a w e2
theorem zV7 (hl:e2.tm.length=e.tm.length) (hst:e2.st=e.st) (ht2: ∀t,WkT (e.get t) (e2.get t))
  (hv2: ∀s cs2,e2.var s=some cs2→ ∃cs,e.var s=some cs∧xA cs cs2) (hlp: ∀t,zEo e2 (e2.get t)=true)
  (hlv: ∀s cs2 x,e2.var s=some cs2→x∈cs2→zEo e2 x=true):zM7 G e e2:=by
 intro w0 F0 O0 a w h
 obtain ⟨F,O,β,hc,hG,hsz,hdf,ht,hv⟩:=h
 let al':jQ→Prop:=fun x=>zL e x∧ ∀s,x= .v s→ ∃cs,e2.var s=some cs
 have hon: ∀v x,zP w F β (zL e) v x→zEo e2 x=true→zP w F β al' v x:=by
  intro v x hx hl
  refine hx.on ?_
  have hs:=hx.sites
  cases x with
  |ow i k es=>exact ⟨hs,fun s h=>by cases h⟩
  |oe i k es j off=>exact ⟨hs,fun s h=>by cases h⟩
  |mp i es ck=>exact ⟨hs,fun s h=>by cases h⟩
  |ot i t xs=>exact fun h0=>⟨hs h0,fun s h=>by cases h⟩
  |oet i t xs j off=>exact ⟨hs,fun s h=>by cases h⟩
  |ov i t xs lo hi=>exact fun h0=>⟨hs h0,fun s h=>by cases h⟩
  |on n=>exact ⟨⟨hs.1,fun s h=>by cases h⟩,⟨hs.2,fun s h=>by cases h⟩⟩
  |lp s off=>
   refine ⟨hs,fun s' h=> ?_⟩
   simp only [jQ.v.injEq] at h
   subst h
   exact Option.isSome_iff_exists.1 hl
  |_=>trivial
 refine Inv.of (al:=al') (by rw [hst];exact hc.anti (fun x hx=>hx.1)) hG (by rw [hl];exact hsz) hdf ?_ ?_ ?_
 ·intro t
  exact hon _ _ (ht2 t _ _ _ _ _ (ht t)) (hlp t)
 ·intro s cs2 hcs2
  obtain ⟨cs,h1,h3⟩:=hv2 s cs2 hcs2
  obtain ⟨c,et,g1,g2,g3⟩:=hv s cs h1
  refine ⟨⟨⟨cs,h1⟩,fun s' h=>by simp only [jQ.v.injEq] at h;subst h;exact ⟨cs2,hcs2⟩⟩,c,et,g1,g2.trans h3.len,?_⟩
  intro i x y hx hy
  have hlt:i<cs.length:=by rw [h3.len];exact (List.getElem?_eq_some_iff.1 hy).1
  exact hon _ _ (h3.get i cs[i] y (by simp [hlt]) hy _ _ _ _ _ (g3 i x cs[i] hx (by simp [hlt]))) (hlv s cs2 y hcs2 (List.mem_of_getElem? hy))
 ·rintro s ⟨_,hs⟩
  exact hs s rfl
theorem zM9 {c:Cell} {x:c.El} : ∀y,y∈zII c x→zEo e y=true:=by
 intro y hy
 cases c with
 |p ty=>
  simp only [zII,List.mem_map] at hy
  obtain ⟨d,_,rfl⟩:=hy
  rfl
 |o id ty=>
  simp only [zII,List.mem_singleton] at hy
  subst hy
  rfl
theorem zKT: ∀ {cs:List Cell} {x:zNY cs}, ∀y,y∈zFw cs x→zEo e y=true
 |[],_,y,h=>by simp [zFw] at h
 |[c],x,y,h=>zM9 (c:=c) (x:=x) y h
 |c::c'::r,x,y,h=>by
  simp only [zFw,List.mem_append] at h
  rcases h with h|h
  ·exact zM9 y h
  ·exact zKT y h
theorem zO8 {s:zAr} {x:s.El Γ.St} {i:Nat} {cs:List T} (h:(i,cs)∈zC3 s x): ∀y,y∈cs→zEo e y=true:=by
 intro y hy
 cases s<;>simp only [zC3,List.mem_singleton,Prod.mk.injEq,List.not_mem_nil] at h
 obtain ⟨_,rfl⟩:=h
 exact zKT y hy
theorem zWp: ∀ {l:List zAr} {x:wN Γ.St l} {i:Nat} {cs:List T},(i,cs)∈vS l x→ ∀y,y∈cs→zEo e y=true
 |[],_,_,_,h=>by simp [vS] at h
 |[s],x,_,_,h=>zO8 (s:=s) (x:=x) h
 |s::s'::r,x,_,_,h=>by
  simp only [vS,List.mem_append] at h
  rcases h with h|h
  ·exact zO8 h
  ·exact zWp h
theorem zNe {s:zAr} {x:s.El Γ.St} {i:Nat} {y:T} (h:(i,y)∈zB3 s x):zEo e y=true:=by
 cases s<;>simp only [zB3,List.mem_singleton,Prod.mk.injEq,List.not_mem_nil] at h
 all_goals
  obtain ⟨_,rfl⟩:=h
  rfl
theorem zTX: ∀ {l:List zAr} {x:wN Γ.St l} {i:Nat} {y:T},(i,y)∈tmS l x→zEo e y=true
 |[],_,_,_,h=>by simp [tmS] at h
 |[s],x,_,_,h=>zNe (s:=s) (x:=x) h
 |s::s'::r,x,_,_,h=>by
  simp only [tmS,List.mem_append] at h
  rcases h with h|h
  ·exact zNe h
  ·exact zTX h
theorem zQA {j:JA} {i:Nat} (h:j.bits.testBit i=false):(zH8 j.lps).testBit i=false∧(vF j.sl).testBit i=false:=by
 simp only [JA.bits,w8] at h
 exact h.2
theorem zFK {j:JA} (hst:Subsingleton Γ.St∨zDm j.sl=true) {s:wN Γ.St j.sl} (hA:zS j.bits e e1) (hr:rdJ j e1=some s):zM7 G e1 (jM j e s):=by
 have hchk:zVe e1 j.lps=true∧rdS e1 j.sl=some s:=by
  unfold rdJ at hr
  split at hr
  ·rename_i h;exact ⟨h,hr⟩
  ·cases hr
 obtain ⟨hL,hS⟩:=hchk
 have hv: ∀i cs2,(jM j e s).var i=some cs2→ ∃cs,e1.var i=some cs∧xA cs cs2:=by
  intro i cs2 h
  rcases zNz h with h|⟨h1,h2,h3,ds,rfl⟩
  ·exact zWs hS i cs2 h
  ·exact ⟨_,hA.v i ds h2 h3 h1,xA.refl _⟩
 have hlp1: ∀s' off,zLQ (jM j e s).vars s'=true→zEo (jM j e s) (.lp s' off)=true:=by
  intro s' off h
  obtain ⟨cs,hcs⟩:=zI6.1 h
  simp only [zEo,hcs,Option.isSome_some]
 have qR: ∀t,WkT (e1.get t) ((jM j e s).get t)∧zEo (jM j e s) ((jM j e s).get t)=true:=by
  intro t
  rcases Nat.lt_or_ge t e.tm.length with hlt|hge
  ·rcases zTj (j:=j) (s:=s) hlt with ⟨y,hy,h1⟩|h1|⟨hb,h1⟩
   ·rw [h1]
    rw [List.mem_append] at hy
    rcases hy with hy|hy
    ·obtain ⟨s',off,h2,rfl⟩:=zLH hy
     have h3:=zQw hL t s' off h2
     rcases zTf (jM j e s).vars s' off with h4|⟨h4,h5⟩
     ·rw [h4];exact ⟨.dead _,rfl⟩
     ·rw [h4,h3];exact ⟨.refl _,hlp1 s' off h5⟩
    ·exact ⟨zUm hS t y hy,zTX hy⟩
   ·rw [h1];exact ⟨.dead _,rfl⟩
   ·rw [h1]
    cases hx:e.get t with
    |p d=>rw [hA.p t d hb hx];exact ⟨.refl _,rfl⟩
    |lp s' off=>
     simp only [zNx]
     split
     ·rename_i hk
      simp only [Bool.and_eq_true,Bool.not_eq_true'] at hk
      rw [hA.lp t s' off hb hk.1 hx]
      exact ⟨.refl _,hlp1 s' off hk.2⟩
     ·exact ⟨.dead _,rfl⟩
    |_=>exact ⟨.dead _,rfl⟩
  ·rw [zUN (e:=jM j e s) (by rw [zFL.1];exact hge)]
   exact ⟨.dead _,rfl⟩
 have hst':(jM j e s).st=e1.st:=by
  rcases hst with hsub|hst
  ·exact Subsingleton.elim _ _
  ·obtain ⟨y,hy⟩:=zPl s hst
   have:=zUn hS y hy
   show zXt (stS j.sl s) e.st=e1.st
   rw [hy];exact this
 refine zV7 (by rw [zFL.1,hA.tl]) hst' (fun t=>(qR t).1) hv (fun t=>(qR t).2) ?_
 intro i cs2 x h hx
 rcases zNz h with h|⟨_,_,_,ds,rfl⟩
 ·exact zWp h x hx
 ·simp only [List.mem_map] at hx
  obtain ⟨d,_,rfl⟩:=hx
  rfl
theorem zPO {j:JA} : ∀ (l:List T) (n:Nat),zRl j e n l=true→ ∀i s off,l[i]? =some (.lp s off)→j.bits.testBit (2*(n+i))=false→j.bits.testBit (2*s)=false→
  (yM j.sl s=true∧(e.vars[s]?).isSome=true)∨(zLN j.bits s (e.var s)).isSome=true
 |[],_,_,i,s,off,h,_,_=>by simp at h
 |x::r,n,hk,i,s,off,h,h1,h2=>by
  have hr:zRl j e (n+1) r=true:=by
   cases x<;>simp only [zRl,Bool.and_eq_true] at hk<;>first|exact hk|exact hk.2
  cases i with
  |zero=>
   simp only [List.getElem?_cons_zero,Option.some.injEq] at h
   subst h
   simp only [zRl,Bool.and_eq_true,Bool.or_eq_true] at hk
   rw [Nat.add_zero] at h1
   rw [h1,h2] at hk
   rcases hk.1 with ((h3|h3)|h3)|h3
   ·cases h3
   ·cases h3
   ·exact .inl h3
   ·exact .inr h3
  |succ i=>
   simp only [List.getElem?_cons_succ] at h
   exact zPO r (n+1) hr i s off h (by rw [show n+1+i=n+(i+1) by omega];exact h1) h2
theorem zDX {j:JA} {s:wN Γ.St j.sl} (hok:okJ j e=true):zS j.bits e (jM j e s):=by
 have hlook: ∀t,j.bits.testBit (2*t)=false→ ∀y,(t,y) ∉ zOv (jM j e s).vars j.lps++tmS j.sl s:=by
  intro t ht y hy
  obtain ⟨h1,h2⟩:=zQA ht
  rw [List.mem_append] at hy
  rcases hy with hy|hy
  ·obtain ⟨s',off,h3,_⟩:=zLH hy
   rw [zQB h3] at h1;cases h1
  ·rw [zSM hy] at h2;cases h2
 have qR: ∀t,j.bits.testBit (2*t)=false→t<e.tm.length→(jM j e s).get t=zNx j.bits (jM j e s).vars (e.get t):=by
  intro t ht hlt
  have h1:(jM j e s).tm[t]? =_:=zG0 j.bits (zOv (jM j e s).vars j.lps++tmS j.sl s) (jM j e s).vars e.tm 0 t
  rw [List.getElem?_eq_getElem hlt,Option.map_some,Nat.zero_add] at h1
  have hg:(jM j e s).get t=((jM j e s).tm[t]?).getD .dead:=by simp [Env.get,List.getD_eq_getElem?_getD]
  have he:e.get t=e.tm[t]:=by simp [Env.get,hlt]
  rw [hg,h1,he]
  simp only [Option.getD_some]
  split
  ·rename_i y hy
   exact absurd (zDl hy) (hlook t ht y)
  ·rw [ht]
 have hvar: ∀i (ds:List V),j.bits.testBit (2*i)=false→j.bits.testBit (2*i+1)=false→e.var i=some (ds.map T.p)→(jM j e s).var i=some (ds.map T.p):=by
  intro i ds h1 h2 h3
  apply zDy
  show (uI _ _ _ _)[i]? =_
  rw [zBU,zG1 h3,Option.map_some,Nat.zero_add]
  congr 1
  split
  ·rename_i y hy
   have:=zVh (zDl hy)
   rw [(zQA h2).2] at this;cases this
  ·have hall: ∀l:List V,zHi (l.map T.p)=true:=by
    intro l
    induction l with
    |nil=>rfl
    |cons x l ih=>simpa [zHi] using ih
   simp [zLN,h1,h2,hall]
 have hlt: ∀t x,e.get t=x→x≠ .dead→t<e.tm.length:=by
  intro t x hx hne
  rcases Nat.lt_or_ge t e.tm.length with h|h
  ·exact h
  ·rw [zUN h] at hx;exact absurd hx.symm hne
 refine ⟨zFL.1,zFL.2,?_,?_,hvar⟩
 ·intro t d ht hx
  rw [qR t ht (hlt t _ hx (by simp)),hx];rfl
 ·intro t s' off ht hs' hx
  have hl:=hlt t _ hx (by simp)
  rw [qR t ht hl,hx]
  have hg:e.tm[t]? =some (.lp s' off):=by
   rw [List.getElem?_eq_getElem hl]
   simp only [Env.get,List.getD_eq_getElem?_getD,List.getElem?_eq_getElem hl,Option.getD_some] at hx
   rw [hx]
  have h3:zLQ (jM j e s).vars s'=true:=by
   rcases zPO e.tm 0 hok t s' off hg (by rw [Nat.zero_add];exact ht) hs' with ⟨h4,h5⟩|h4
   ·obtain ⟨cs,hcs⟩:=zN9 (x:=s) h4
    obtain ⟨y,hy⟩:=Option.isSome_iff_exists.1 h5
    rw [zI6]
    refine ⟨cs,zDy ?_⟩
    show (uI _ _ _ _)[s']? =_
    rw [zBU,hy,Option.map_some,Nat.zero_add,hcs]
   ·obtain ⟨cs,hcs⟩:=Option.isSome_iff_exists.1 h4
    obtain ⟨h5,h6,h7,ds,rfl⟩:=zLM hcs
    rw [zI6]
    exact ⟨_,hvar s' ds h6 h7 h5⟩
  simp [zNx,hs',h3]
theorem zM7.code {c:Code} {k:X} (h:jE P G c e k e1) (hf:zM7 G e1 e2):jE P G c e k e2:=by
 intro w0 F0 O0 a w hi
 refine wp_mono (h w0 F0 O0 a w hi) ?_
 rintro ex a' w' ⟨rfl,hi'⟩
 exact ⟨rfl,hf _ _ _ _ _ hi'⟩
theorem zM7.loop {c:Code} {k:X} (hf:zM7 G e e1) (h:zBd P G c e1 k e2):zBd P G c e k e2:=
 fun w0 F0 O0 a w hi=>h w0 F0 O0 a w (hf _ _ _ _ _ hi)
theorem zJi {j:JA} {lg:Nat} {s:wN Γ.St j.sl} (h:zOK j e lg=some s):rdJ j e=some s∧ ∀t,j.bits.testBit t=false→lg.testBit t=false:=by
 unfold zOK at h
 split at h
 ·rename_i hb
  have hb:=Nat.eq_of_beq_eq_true hb
  refine ⟨h,fun t ht=> ?_⟩
  rw [←hb,w8] at ht
  exact ht.1
 ·cases h
theorem zNw {A:Nat→Option JA} {t:Nat} {c:Code} {j:JA} (h:zVZ A t c=some j): ∃k,A k=some j:=by
 unfold zVZ at h
 split at h
 ·exact ⟨_,h⟩
 ·cases h
theorem zJc {S:zQ Γ} {A:Nat→Option JA} (hst: ∀k j,A k=some j→Subsingleton Γ.St∨zDm j.sl=true) (hmix:P.follows .mixedOrders=true) (hS:z7 Γ P G S.toS): ∀ (c:Code) (ρ:Type) (K:X→Env Γ.St→Nat→Option ρ) (e:Env Γ.St) (lg:Nat) (v:ρ),
  exC P G S A c ρ K e lg=some v→ ∃k e1 d,jE P G c e k e1∧zS d e e1∧K k e1 (lg|||d)=some v:=by
 intro c
 induction c with
 |skip=>intro ρ K e lg v h;exact ⟨_,_,0, .skip e,zS.refl e,by rw [Nat.or_zero];exact h⟩
 |exit id=>intro ρ K e lg v h;exact ⟨_,_,0, .exit id e,zS.refl e,by rw [Nat.or_zero];exact h⟩
 |ret=>intro ρ K e lg v h;exact ⟨_,_,0, .ret e,zS.refl e,by rw [Nat.or_zero];exact h⟩
 |seq x y ihx ihy=>
  intro ρ K e lg v h
  simp only [exC] at h
  split at h
  ·rename_i j hj0
   obtain ⟨jk,hj⟩:=zNw hj0
   have hjs:=hst jk j hj
   have fin: ∀ (k:X) (e1:Env Γ.St) (d:Nat) (s:wN Γ.St j.sl),jE P G x e .normal e1→zS d e e1→zOK j e1 (0|||d)=some s→okJ j e=true→zCe (jM j e s) (fun e1=>exC P G S A y ρ K e1 (lg|||j.bits))=some v→
     ∃k e1 d,jE P G (.seq x y) e k e1∧zS d e e1∧K k e1 (lg|||d)=some v:=by
    intro k e1 d s h1 h2 h3 hok h4
    rw [v7] at h4
    obtain ⟨h5,h6⟩:=zJi h3
    have hA:zS j.bits e e1:=h2.mono (fun t ht=>by have:=h6 t ht;rw [Nat.zero_or] at this;exact this)
    obtain ⟨k2,e2,d2,h7,h8,h9⟩:=ihy ρ K _ _ v h4
    exact ⟨k2,e2,j.bits|||d2,(zM7.code h1 (zFK hjs hA h5)).seqN h7,(zDX hok).trans h8,by rw [←Nat.or_assoc];exact h9⟩
   split at h
   ·obtain ⟨hok,h⟩:=wZ.1 h
    obtain ⟨s,h1,h2⟩:=bind_some h
    obtain ⟨k,e1,d,h3,h4,h5⟩:=ihx _ _ _ _ _ h1
    cases k with
    |normal=>exact fin .normal e1 d s h3 h4 h5 hok h2
    |exit id=>cases h5
    |ret=>cases h5
   ·obtain ⟨hok,h⟩:=wZ.1 h
    have h0: ∃o,exC P G S A x (wN Γ.St j.sl ⊕ ρ) (fun k e1 lg1=>match k with
     | .normal=>(zOK j e1 lg1).map .inl
     |k=>(K k e1 (lg|||lg1)).map .inr) e 0=some o∧match o with
     | .inl s=>zCe (jM j e s) (fun e1=>exC P G S A y ρ K e1 (lg|||j.bits))=some v
     | .inr r=>r=v:=by
     unfold jP at h
     split at h
     ·cases h
     ·rename_i s hs;exact ⟨_,hs,h⟩
     ·rename_i r hr;exact ⟨_,hr,by simpa using h⟩
    obtain ⟨o,h1,h2⟩:=h0
    obtain ⟨k,e1,d,h3,h4,h5⟩:=ihx _ _ _ _ _ h1
    have other:k≠ .normal→(K k e1 (lg|||(0|||d))).map (Sum.inr (α:=wN Γ.St j.sl))=some o→ ∃k e1 d,jE P G (.seq x y) e k e1∧zS d e e1∧K k e1 (lg|||d)=some v:=by
     intro hk hm
     rw [Option.map_eq_some_iff] at hm
     obtain ⟨r,hr,rfl⟩:=hm
     simp only at h2
     subst h2
     exact ⟨k,e1,d,h3.seqX hk,h4,by rw [Nat.zero_or] at hr;exact hr⟩
    cases k with
    |normal=>
     simp only [Option.map_eq_some_iff] at h5
     obtain ⟨s,hs,rfl⟩:=h5
     exact fin .normal e1 d s h3 h4 hs hok h2
    |exit id=>exact other (by simp) h5
    |ret=>exact other (by simp) h5
  ·obtain ⟨k,e1,d,h1,h2,h3⟩:=ihx _ _ _ _ _ h
   cases k with
   |normal=>
    obtain ⟨k2,e2,d2,h4,h5,h6⟩:=ihy _ _ _ _ _ h3
    exact ⟨k2,e2,d|||d2,h1.seqN h4,h2.trans h5,by rw [←Nat.or_assoc];exact h6⟩
   |exit id=>exact ⟨_,e1,d,h1.seqX (by simp),h2,h3⟩
   |ret=>exact ⟨_,e1,d,h1.seqX (by simp),h2,h3⟩
 |cond c x y ihx ihy=>
  intro ρ K e lg v h
  simp only [exC] at h
  split at h
  ·rename_i b hb
   cases b with
   |true=>
    obtain ⟨k,e1,d,h1,h2,h3⟩:=ihx _ _ _ _ _ h
    exact ⟨k,e1,d,jE.condB hb h1,h2,h3⟩
   |false=>
    obtain ⟨k,e1,d,h1,h2,h3⟩:=ihy _ _ _ _ _ h
    exact ⟨k,e1,d,jE.condB hb h1,h2,h3⟩
  ·cases h
 |block id c ih=>
  intro ρ K e lg v h
  simp only [exC] at h
  obtain ⟨k,e1,d,h1,h2,h3⟩:=ih _ _ _ _ _ h
  exact ⟨_,e1,d,h1.block,h2,h3⟩
 |loop c ih=>
  intro ρ K e lg v h
  simp only [exC] at h
  split at h
  ·rename_i j hj0
   obtain ⟨jk,hj⟩:=zNw hj0
   have hjs:=hst jk j hj
   obtain ⟨hok,h⟩:=wZ.1 h
   obtain ⟨s0,h1,h2⟩:=bind_some h
   simp only [v7] at h2
   rw [zFI] at h2
   obtain ⟨n,hn⟩:=h2
   have key: ∀ (n:Nat) (s:wN Γ.St j.sl),zCf (fun s=>exC P G S A c (wN Γ.St j.sl ⊕ ρ) (fun k e1 lg1=>match k with
    | .normal=>(zOK j e1 lg1).map .inl
    |k=>(K k e1 (lg|||(j.bits|||lg1))).map .inr) (jM j e s) 0) n s=some v→ ∃k e1 d,zBd P G c (jM j e s) k e1∧zS (j.bits|||d) e e1∧K k e1 (lg|||(j.bits|||d))=some v:=by
    intro n
    induction n with
    |zero=>intro s hs;simp [zCf] at hs
    |succ n ihn=>
     intro s hs
     simp only [zCf] at hs
     have other: ∀ (o:wN Γ.St j.sl ⊕ ρ) (k:X) (e1:Env Γ.St) (d:Nat),k≠ .normal→jE P G c (jM j e s) k e1→zS d (jM j e s) e1→(K k e1 (lg|||(j.bits|||(0|||d)))).map (Sum.inr (α:=wN Γ.St j.sl))=some o→
       (∃r,o= .inr r∧K k e1 (lg|||(j.bits|||d))=some r)∧zBd P G c (jM j e s) k e1∧zS (j.bits|||d) e e1:=by
      intro o k e1 d hk h3 h4 hm
      rw [Option.map_eq_some_iff] at hm
      obtain ⟨r,hr,rfl⟩:=hm
      rw [Nat.zero_or] at hr
      exact ⟨⟨r,rfl,hr⟩, .last h3 hk,(zDX hok).trans h4⟩
     split at hs
     ·cases hs
     ·rename_i s' hs'
      obtain ⟨k,e1,d,h3,h4,h5⟩:=ih _ _ _ _ _ hs'
      cases k with
      |normal=>
       simp only [Option.map_eq_some_iff] at h5
       obtain ⟨s1,hs1,heq⟩:=h5
       simp only [Sum.inl.injEq] at heq
       subst heq
       obtain ⟨h6,h7⟩:=zJi hs1
       have hA:zS j.bits e e1:=(zDX hok).same (h4.mono (fun t ht=>by have:=h7 t ht;rw [Nat.zero_or] at this;exact this))
       obtain ⟨k2,e2,d2,h8,h9,h10⟩:=ihn _ hs
       exact ⟨k2,e2,d2,zBd.step (zM7.code h3 (zFK hjs hA h6)) h8,h9,h10⟩
      |exit id=>obtain ⟨⟨r,hr,_⟩,_⟩:=other _ _ _ _ (by simp) h3 h4 h5;cases hr
      |ret=>obtain ⟨⟨r,hr,_⟩,_⟩:=other _ _ _ _ (by simp) h3 h4 h5;cases hr
     ·rename_i r hs'
      simp only [Option.some.injEq] at hs
      subst hs
      obtain ⟨k,e1,d,h3,h4,h5⟩:=ih _ _ _ _ _ hs'
      cases k with
      |normal=>
       simp only [Option.map_eq_some_iff] at h5
       obtain ⟨s1,hs1,heq⟩:=h5
       cases heq
      |exit id=>
       obtain ⟨⟨r',hr,hK⟩,hL,hA⟩:=other _ _ _ _ (by simp) h3 h4 h5
       simp only [Sum.inr.injEq] at hr
       subst hr
       exact ⟨_,e1,d,hL,hA,hK⟩
      |ret=>
       obtain ⟨⟨r',hr,hK⟩,hL,hA⟩:=other _ _ _ _ (by simp) h3 h4 h5
       simp only [Sum.inr.injEq] at hr
       subst hr
       exact ⟨_,e1,d,hL,hA,hK⟩
   obtain ⟨k,e1,d,h3,h4,h5⟩:=key n s0 hn
   exact ⟨k,e1,_,jE.loop (zM7.loop (zFK hjs ((zS.refl e).mono (fun t _=>by simp)) h1) h3),h4,h5⟩
  ·have key: ∀ (n:Nat) (e:Env Γ.St) (lg:Nat),zHr (exC P G S A c ρ) K n e lg=some v→ ∃k e1 d,zBd P G c e k e1∧zS d e e1∧K k e1 (lg|||d)=some v:=by
    intro n
    induction n with
    |zero=>intro e lg h;simp [zHr] at h
    |succ n ihn=>
     intro e lg h
     simp only [zHr] at h
     obtain ⟨k,e1,d,h5,h6,h7⟩:=ih _ _ _ _ _ h
     cases k with
     |normal=>
      obtain ⟨k2,e2,d2,h8,h9,h10⟩:=ihn e1 _ h7
      exact ⟨k2,e2,d|||d2,zBd.step h5 h8,h6.trans h9,by rw [←Nat.or_assoc];exact h10⟩
     |exit id=>exact ⟨_,e1,d, .last h5 (by simp),h6,h7⟩
     |ret=>exact ⟨_,e1,d, .last h5 (by simp),h6,h7⟩
   obtain ⟨k,e1,d,h4,h5,h6⟩:=key _ e lg h
   exact ⟨k,e1,d,jE.loop h4,h5,h6⟩
 |region id ops draw=>
  intro ρ K e lg v h
  simp only [exC] at h
  split at h
  ·rename_i j hj
   have hjs:=hst _ j hj
   obtain ⟨hok,h⟩:=wZ.1 h
   obtain ⟨s,h1,h2⟩:=bind_some h
   obtain ⟨e1,n,h3,h4,h5⟩:=zLg hmix hS (id:=id) h1
   rw [v7] at h2
   obtain ⟨h6,h7⟩:=zJi h5
   have hA:zS j.bits e e1:=h4.mono (fun t ht=>by have:=h7 t ht;rw [Nat.zero_or] at this;exact this)
   exact ⟨.normal,jM j e s,j.bits,zM7.code h3 (zFK hjs hA h6),zDX hok,h2⟩
  ·obtain ⟨e1,n,h3,h4,h5⟩:=zLg hmix hS (id:=id) h
   exact ⟨.normal,e1,n,h3,h4,h5⟩
 |_=>intro ρ K e lg v h;simp [exC] at h
inductive RTy where
 |p (ty:Ty)
 |o (ty:Ty)
 |tu (tys:List Ty)
@[reducible] def RTy.El:RTy→Type
 | .p ty=>ty.El
 | .o ty=>List ty.El
 | .tu tys=>ElS tys
def RTy.get:(R:RTy)→RV→Option R.El
 | .p ty, .p d=>ty.dec d
 | .p (.sl ty), .ownT t' xs=>zDs t' ty xs
 | .p ty, .own []=>ty.dec (.sl [])
 | .p _,_=>none
 | .o ty, .ownT t' xs=>zDs t' ty xs
 | .o _, .p (.val (.slice none 0 0))=>some []
 | .o _, .own []=>some []
 | .o _,_=>none
 | .tu tys, .p (.tup ds)=>zCu tys ds
 | .tu _,_=>none
def RTy.res:(R:RTy)→R.El→RV
 | .p ty,x=> .p (ty.enc x)
 | .o ty,xs=> .ownT ty xs
 | .tu tys,x=> .p (.tup (vA tys x))
def RTy.pl:RTy→Bool
 | .p ty=>ty.flat
 | .o ty=>ty.flat
 | .tu tys=>tys.all Ty.flat
theorem RTy.get_sound {N:Nat} {w:World} {F:Blk→Prop} {O:Nat→Prop} {v:Value} {R:RTy} {r:RV} {y:R.El} (h:R.get r=some y) (hr:uO N w F O v r):
  ∃F':Blk→Prop,(∀b,F b→F' b)∧(∀id a n c,F' (.h id a n c)↔F (.h id a n c))∧(∀b:Nat,F' b→F b∨(N≤b∧b<w.heap.size∧ ¬O b))∧uO N w F' O v (R.res y):=by
 have same:uO N w F O v (R.res y)→ ∃F':Blk→Prop,(∀b,F b→F' b)∧(∀id a n c,F' (.h id a n c)↔F (.h id a n c))∧(∀b:Nat,F' b→F b∨(N≤b∧b<w.heap.size∧ ¬O b))∧uO N w F' O v (R.res y):=
  fun h=>⟨F,fun _ h=>h,fun _ _ _ _=>Iff.rfl,fun _ h=> .inl h,h⟩
 unfold RTy.get at h
 split at h
 ·exact same (vE h _ _ _ hr)
 ·rename_i ty t' xs
  exact zJS (r:= .ownT t' xs) (r':= .p (.tl ty y)) (yL h) hr
 ·rename_i ty _
  refine same ?_
  rcases hr with ⟨_,a0,rfl⟩|⟨h',_⟩
  ·exact vE h _ _ _ (.slemp a0 0)
  ·exact absurd rfl h'
 ·cases h
 ·rename_i ty t' xs
  exact zJS (r:= .ownT t' xs) (r':= .ownT ty y) (yL h) hr
 ·simp only [Option.some.injEq] at h;subst h
  exact same (.inl ⟨rfl,none,Rd.eq_val hr⟩)
 ·simp only [Option.some.injEq] at h;subst h
  exact same hr
 ·cases h
 ·exact same (WkV.tup (w6 _ _ _ h) _ _ _ hr)
 ·cases h
noncomputable def exF (L:jG) (G:Nat→Option (List V)) (S:zQ Γ) (A:Nat→Option JA) (fn:Func) (c:Code) (R:RTy) (s:Γ.St) (ds:List V):Option R.El:=
 zCe (start fn.ntmps s ds) (fun e=>exC L G S A c R.El (fun k e1 _=>match k with
  | .exit _=>none
  |_=>match zBK L e1 fn with
   |some r=>R.get r
   |none=>none) e 0)
def wF {X:Type} (dec:List V→Option X) (R:RTy) (g:X→Option R.El):Γ.St→List V→Option (zDx Γ.St):=fun s ds=>
 match dec ds with
 |some x=>some ⟨R.El,g x,fun _=>s,R.res,R.pl⟩
 |none=>none
def jV (ts:List Ty) (R:RTy) (g:ElS ts→Option R.El):Γ.St→List V→Option (zDx Γ.St):=wF (zCu ts) R g
inductive ATy where
 |d (ty:Ty)
 |pp (ty:Ty)
 |clo (f:Nat) (caps:List (Bool×Ty))
@[reducible] def zVt:List (Bool×Ty)→Type
 |[]=>Unit
 |c::r=>c.2.El×zVt r
@[reducible] def ATy.El:ATy→Type
 | .d ty=>ty.El
 | .pp ty=>ty.El
 | .clo _ caps=>zVt caps
@[reducible] def ElA:List ATy→Type
 |[]=>Unit
 |t::ts=>t.El×ElA ts
def zRP:(l:List (Bool×Ty))→zVt l→List V
 |[],_=>[]
 |(b,t)::r,x=>(match b with
  |true=> .pp (t.cells x.1)
  |false=>t.enc x.1)::zRP r x.2
def ATy.enc:(t:ATy)→t.El→V
 | .d ty,x=>ty.enc x
 | .pp ty,x=> .pp (ty.cells x)
 | .clo f caps,x=> .clo f (zRP caps x)
def zTA:(ts:List ATy)→ElA ts→List V
 |[],_=>[]
 |t::ts,x=>t.enc x.1::zTA ts x.2
def zSJ (t:Ty):V→Option t.El
 | .pp cs=>match t.uncells cs with
  |some (x,[])=>some x
  |_=>none
 |_=>none
def zHe:(l:List (Bool×Ty))→List V→Option (zVt l)
 |[],[]=>some ()
 |(b,t)::r,d::ds=>match b with
  |true=>match zSJ t d with
   |some x=>match zHe r ds with
    |some xs=>some (x,xs)
    |none=>none
   |none=>none
  |false=>match t.dec d with
   |some x=>match zHe r ds with
    |some xs=>some (x,xs)
    |none=>none
   |none=>none
 |_,_=>none
def ATy.dec:(t:ATy)→V→Option t.El
 | .d ty,v=>ty.dec v
 | .pp ty,v=>zSJ ty v
 | .clo f caps, .clo g ds=>match Nat.beq g f with
  |true=>zHe caps ds
  |false=>none
 | .clo _ _,_=>none
def vX:(ts:List ATy)→List V→Option (ElA ts)
 |[],[]=>some ()
 |t::ts,d::ds=>match t.dec d with
  |some x=>match vX ts ds with
   |some xs=>some (x,xs)
   |none=>none
  |none=>none
 |_,_=>none
def zT5 (ts:List ATy) (R:RTy) (g:ElA ts→Option R.El):Γ.St→List V→Option (zDx Γ.St):=wF (vX ts) R g
def zQ.none (Γ:Sig):zQ Γ:=fun _ _ _=>Option.none
def zQ.add (S:zQ Γ) (f:FuncId) (sp:Γ.St→List V→Option (zDx Γ.St)):zQ Γ:=fun g s ds=>
 match Nat.beq g f with
 |true=>match zCg ds with
  |true=>S g s ds
  |false=>match sp s ds with
   | .some c=>some c
   | .none=>S g s ds
 |false=>S g s ds
def qG (sp:Γ.St→List V→Option (zDx Γ.St)):Γ.St→List V→Option (Γ.St×RV):=fun s ds=>
 match sp s ds with
 |some c=>c.m.map (fun y=>(c.st y,c.res y))
 |none=>none
theorem qC:z7 Γ P G (zQ.none Γ).toS:=by
 have:(zQ.none Γ).toS=zKI Γ:=by funext f s ds;rfl
 rw [this];exact zGH
theorem qU {S:zQ Γ} (hS:z7 Γ P G S.toS) {f:FuncId} {sp:Γ.St→List V→Option (zDx Γ.St)} (hi:zKp P f=true) (h:j7 Γ P G f (qG sp)):z7 Γ P G (S.add f sp).toS:=by
 have e0: ∀s ds,zCg ds=true→(S.add f sp).toS f s ds=S.toS f s ds:=by
  intro s ds hb
  simp only [zQ.toS,zQ.add,Nat.beq_refl,hb]
 have e1: ∀s ds,zCg ds=false→(S.add f sp).toS f s ds=if (sp s ds).isSome then qG sp s ds else S.toS f s ds:=by
  intro s ds hb
  simp only [zQ.toS,zQ.add,qG,Nat.beq_refl,hb]
  cases sp s ds<;>rfl
 have e2: ∀g,g≠f→(S.add f sp).toS g=S.toS g:=by
  intro g hg
  funext s ds
  have:Nat.beq g f=false:=by
   cases hb:Nat.beq g f with
   |false=>rfl
   |true=>exact absurd (Nat.eq_of_beq_eq_true hb) hg
  simp only [zQ.toS,zQ.add,this]
 have hnf: ∀k,P.funcs[k]? =none→k≠f:=by
  rintro k hk rfl
  simp [zKp,hk] at hi
 refine ⟨?_,?_,fun hno st q t ys bytes st' d h=>hS.app hno st q t ys bytes st' d (by rw [←e2 _ (hnf _ hno)];exact h),?_⟩
 ·intro g
  by_cases hg:g=f
  ·subst hg
   intro w F O s args ds s' r a1 a2 a3 a4 a5 a6
   cases hb:zCg ds with
   |true=>
    rw [e0 s ds hb] at a6
    exact hS.ok g w F O s args ds s' r a1 a2 a3 a4 a5 a6
   |false=>
    rw [e1 s ds hb] at a6
    split at a6
    ·exact h w F O s args ds s' r a1 a2 a3 a4 a5 a6
    ·exact hS.ok g w F O s args ds s' r a1 a2 a3 a4 a5 a6
  ·rw [e2 g hg];exact hS.ok g
 ·intro g s ds r hr hbot
  by_cases hg:g=f
  ·subst hg
   unfold zKp at hi
   split at hi
   ·rename_i fn hfn
    simp only [Bool.and_eq_true,Bool.not_eq_true'] at hi
    exact ⟨fn,hfn,hi.1,hi.2⟩
   ·cases hi
  ·rw [e2 g hg] at hr;exact hS.is g s ds r hr hbot
 ·intro g st t xs ds st' ys d h
  by_cases hg:g=f
  ·subst hg;rw [e0 _ _ rfl] at h;exact hS.bor g st t xs ds st' ys d h
  ·rw [e2 g hg] at h;exact hS.bor g st t xs ds st' ys d h
def zQ.addB (S:zQ Γ) (f:FuncId) (sp:Γ.St→List V→Option (zDx Γ.St)):zQ Γ:=fun g s ds=>
 match Nat.beq g f with
 |true=>match ds with
  | .bot::r=>match sp s r with
   | .some c=>some c
   | .none=>S g s ds
  |_=>S g s ds
 |false=>S g s ds
def RTy.val:(R:RTy)→R.El→V
 | .p ty,x=>ty.enc x
 | .o ty,xs=> .tl ty xs
 | .tu tys,x=> .tup (vA tys x)
def wH (t:Ty) {X:Type} (dec:List V→Option X) (R:RTy) (g:List t.El→X→Option (List t.El×R.El)):Γ.St→List V→Option (zDx Γ.St):=fun s ds=>
 match ds with
 | .tl t' xs::r=>match zDs t' t xs with
  |some ys=>match dec r with
   |some x=>some ⟨List t.El×R.El,g ys x,fun _=>s,fun y=> .p (.tup [.tl t y.1,R.val y.2]),false⟩
   |none=>none
  |none=>none
 |_=>none
def zAp (Γ:Sig) (P:Program) (G:Nat→Option (List V)) (f:FuncId) (t:Ty) {X:Type} (dec:List V→Option X) (R:RTy) (g:List t.El→X→Option (List t.El×R.El)):Prop:=
 ∀ (s:Γ.St) (xs:List t.El) (r:List V) (x:X) (ys:List t.El) (y:R.El),dec r=some x→g xs x=some (ys,y)→zAZ Γ P G f s t xs r s ys (R.val y)
theorem jW {S:zQ Γ} (hS:z7 Γ P G S.toS) {f:FuncId} {t:Ty} {X:Type} {dec:List V→Option X} {R:RTy} {g:List t.El→X→Option (List t.El×R.El)} (hi:zKp P f=true)
  (h:zAp Γ P G f t dec R g):z7 Γ P G (S.addB f (wH t dec R g)).toS:=by
 have e0: ∀s ds,zCg ds=false→(S.addB f (wH t dec R g)).toS f s ds=S.toS f s ds:=by
  intro s ds hb
  simp only [zQ.toS,zQ.addB,Nat.beq_refl]
  cases ds with
  |nil=>rfl
  |cons d r=>cases d<;>first|rfl|cases hb
 have e1: ∀s r,(S.addB f (wH t dec R g)).toS f s (.bot::r)=match wH (Γ:=Γ) t dec R g s r with
   |some c=>c.m.map (fun y=>(c.st y,c.res y))
   |none=>S.toS f s (.bot::r):=by
  intro s r
  simp only [zQ.toS,zQ.addB,Nat.beq_refl]
  cases wH (Γ:=Γ) t dec R g s r<;>rfl
 have e2: ∀g',g'≠f→(S.addB f (wH t dec R g)).toS g'=S.toS g':=by
  intro g' hg
  funext s ds
  have:Nat.beq g' f=false:=by
   cases hb:Nat.beq g' f with
   |false=>rfl
   |true=>exact absurd (Nat.eq_of_beq_eq_true hb) hg
  simp only [zQ.toS,zQ.addB,this]
 have hnf: ∀k,P.funcs[k]? =none→k≠f:=by
  rintro k hk rfl
  simp [zKp,hk] at hi
 have hisf : ∃ fn, P.funcs[f]? = some fn ∧ fn.body.isSome = true ∧ (fn.name == "runtime.NumGoroutine") = false := by
  unfold zKp at hi
  split at hi
  ·rename_i fn hfn
   simp only [Bool.and_eq_true,Bool.not_eq_true'] at hi
   exact ⟨fn,hfn,hi.1,hi.2⟩
  ·cases hi
 refine ⟨?_,?_,fun hno st q t ys bytes st' d h=>hS.app hno st q t ys bytes st' d (by rw [←e2 _ (hnf _ hno)];exact h),?_⟩
 ·intro g'
  by_cases hg:g'=f
  ·subst hg
   intro w F O s args ds s' r a1 a2 a3 a4 a5 a6
   cases hb:zCg ds with
   |false=>
    rw [e0 s ds hb] at a6
    exact hS.ok g' w F O s args ds s' r a1 a2 a3 a4 a5 a6
   |true=>
    exfalso
    cases ds with
    |nil=>cases hb
    |cons d ds=>
     cases d with
     |bot=>
      have h0:0<args.size:=by rw [a4];simp
      have hnb: ∀u:Value, ¬Rd w F u .bot:=fun u h=>by cases h
      exact hnb _ (a5 0 args[0] .bot (by simp [h0]) rfl)
     |_=>cases hb
  ·rw [e2 g' hg];exact hS.ok g'
 ·intro g' s ds r hr hbot
  by_cases hg:g'=f
  ·subst hg;exact hisf
  ·rw [e2 g' hg] at hr;exact hS.is g' s ds r hr hbot
 ·intro g' st t0 xs ds st' ys d h0
  by_cases hg:g'=f
  ·subst hg
   rw [e1] at h0
   split at h0
   ·rename_i cx hc
    refine ⟨?_,hisf⟩
    simp only [wH] at hc
    cases hzs:zDs t0 t xs with
    |none=>rw [hzs] at hc;cases hc
    |some zs=>
     rw [hzs] at hc
     obtain ⟨ht,hz⟩:=yG (yL hzs)
     subst ht
     subst hz
     cases hx:dec ds with
     |none=>rw [hx] at hc;cases hc
     |some x=>
      rw [hx] at hc
      simp only [Option.some.injEq] at hc
      rw [←hc] at h0
      simp only [Option.map_eq_some_iff,Prod.mk.injEq,RV.p.injEq,V.tup.injEq,List.cons.injEq,and_true,V.tl.injEq,true_and] at h0
      obtain ⟨⟨ys',y⟩,h1,rfl,h2,h3⟩:=h0
      have h2:=eq_of_heq h2
      subst h2
      subst h3
      exact h _ _ _ x _ _ hx h1
   ·exact hS.bor g' st t0 xs ds st' ys d h0
  ·rw [e2 g' hg] at h0;exact hS.bor g' st t0 xs ds st' ys d h0
def zCA (t:Ty) {X:Type} (dec:List V→Option X) (g:List t.El→X→Option (List t.El)):Γ.St→List V→Option (zDx Γ.St):=fun s ds=>
 match ds with
 | .tl t' xs::r=>match zDs t' t xs with
  |some ys=>match dec r with
   |some x=>some ⟨List t.El,g ys x,fun _=>s,fun y=> .p (.tup [.tl t y, .bot]),true⟩
   |none=>none
  |none=>none
 |_=>none
def zSR (Γ:Sig) (P:Program) (G:Nat→Option (List V)) (f:FuncId) (t:Ty) {X:Type} (dec:List V→Option X) (g:List t.El→X→Option (List t.El)):Prop:=
 ∀ (s:Γ.St) (xs:List t.El) (r:List V) (x:X) (ys:List t.El),dec r=some x→g xs x=some ys→zAZ Γ P G f s t xs r s ys .bot
theorem zPe {S:zQ Γ} (hS:z7 Γ P G S.toS) {f:FuncId} {t:Ty} {X:Type} {dec:List V→Option X} {g:List t.El→X→Option (List t.El)} (hi:zKp P f=true)
  (h:zSR Γ P G f t dec g):z7 Γ P G (S.addB f (zCA t dec g)).toS:=by
 have e0: ∀s ds,zCg ds=false→(S.addB f (zCA t dec g)).toS f s ds=S.toS f s ds:=by
  intro s ds hb
  simp only [zQ.toS,zQ.addB,Nat.beq_refl]
  cases ds with
  |nil=>rfl
  |cons d r=>cases d<;>first|rfl|cases hb
 have e1: ∀s r,(S.addB f (zCA t dec g)).toS f s (.bot::r)=match zCA (Γ:=Γ) t dec g s r with
   |some c=>c.m.map (fun y=>(c.st y,c.res y))
   |none=>S.toS f s (.bot::r):=by
  intro s r
  simp only [zQ.toS,zQ.addB,Nat.beq_refl]
  cases zCA (Γ:=Γ) t dec g s r<;>rfl
 have e2: ∀g',g'≠f→(S.addB f (zCA t dec g)).toS g'=S.toS g':=by
  intro g' hg
  funext s ds
  have:Nat.beq g' f=false:=by
   cases hb:Nat.beq g' f with
   |false=>rfl
   |true=>exact absurd (Nat.eq_of_beq_eq_true hb) hg
  simp only [zQ.toS,zQ.addB,this]
 have hnf: ∀k,P.funcs[k]? =none→k≠f:=by
  rintro k hk rfl
  simp [zKp,hk] at hi
 have hisf : ∃ fn, P.funcs[f]? = some fn ∧ fn.body.isSome = true ∧ (fn.name == "runtime.NumGoroutine") = false := by
  unfold zKp at hi
  split at hi
  ·rename_i fn hfn
   simp only [Bool.and_eq_true,Bool.not_eq_true'] at hi
   exact ⟨fn,hfn,hi.1,hi.2⟩
  ·cases hi
 refine ⟨?_,?_,fun hno st q t ys bytes st' d h=>hS.app hno st q t ys bytes st' d (by rw [←e2 _ (hnf _ hno)];exact h),?_⟩
 ·intro g'
  by_cases hg:g'=f
  ·subst hg
   intro w F O s args ds s' r a1 a2 a3 a4 a5 a6
   cases hb:zCg ds with
   |false=>
    rw [e0 s ds hb] at a6
    exact hS.ok g' w F O s args ds s' r a1 a2 a3 a4 a5 a6
   |true=>
    exfalso
    cases ds with
    |nil=>cases hb
    |cons d ds=>
     cases d with
     |bot=>
      have h0:0<args.size:=by rw [a4];simp
      have hnb: ∀u:Value, ¬Rd w F u .bot:=fun u h=>by cases h
      exact hnb _ (a5 0 args[0] .bot (by simp [h0]) rfl)
     |_=>cases hb
  ·rw [e2 g' hg];exact hS.ok g'
 ·intro g' s ds r hr hbot
  by_cases hg:g'=f
  ·subst hg;exact hisf
  ·rw [e2 g' hg] at hr;exact hS.is g' s ds r hr hbot
 ·intro g' st t0 xs ds st' ys d h0
  by_cases hg:g'=f
  ·subst hg
   rw [e1] at h0
   split at h0
   ·rename_i cx hc
    refine ⟨?_,hisf⟩
    simp only [zCA] at hc
    cases hzs:zDs t0 t xs with
    |none=>rw [hzs] at hc;cases hc
    |some zs=>
     rw [hzs] at hc
     obtain ⟨ht,hz⟩:=yG (yL hzs)
     subst ht
     subst hz
     cases hx:dec ds with
     |none=>rw [hx] at hc;cases hc
     |some x=>
      rw [hx] at hc
      simp only [Option.some.injEq] at hc
      rw [←hc] at h0
      simp only [Option.map_eq_some_iff,Prod.mk.injEq,RV.p.injEq,V.tup.injEq,List.cons.injEq,and_true,V.tl.injEq,true_and] at h0
      obtain ⟨ys',h1,rfl,h2,h3⟩:=h0
      have h2:=eq_of_heq h2
      subst h2
      subst h3
      exact h _ _ _ x _ hx h1
   ·exact hS.bor g' st t0 xs ds st' ys d h0
  ·rw [e2 g' hg] at h0;exact hS.bor g' st t0 xs ds st' ys d h0
theorem WkV.pp {xs ys:List V} (h:j5 xs ys):WkV (.pp xs) (.pp ys):=by
 intro w F v hr
 cases hr with
 |pp b off cs g hF hg hr0=>
  refine .pp b off ys g hF (fun m hm=>hg m (by rw [h.len];exact hm)) ?_
  intro m d hd
  have hlt:m<xs.length:=by rw [h.len];exact (List.getElem?_eq_some_iff.1 hd).1
  exact h.get m xs[m] d (by simp [hlt]) hd w F _ (hr0 m xs[m] (by simp [hlt]))
theorem WkV.clo {f:FuncId} {xs ys:List V} (h:j5 xs ys):WkV (.clo f xs) (.clo f ys):=by
 intro w F v hr
 cases hr with
 |clo _ cs ds hl h0=>
  refine .clo f cs ys (hl.trans h.len) ?_
  intro i x d hi hd
  have hlt:i<xs.length:=by rw [h.len];exact (List.getElem?_eq_some_iff.1 hd).1
  exact h.get i xs[i] d (by simp [hlt]) hd w F x (h0 i x xs[i] hi (by simp [hlt]))
theorem zJX {t:Ty} {d:V} {x:t.El} (h:zSJ t d=some x):WkV d (.pp (t.cells x)):=by
 unfold zSJ at h
 split at h
 ·rename_i cs
  split at h
  ·rename_i y hy
   simp only [Option.some.injEq] at h
   subst h
   obtain ⟨c1,h1,h2⟩:=jF t cs y [] hy
   simp only [List.append_nil] at h1
   subst h1
   exact WkV.pp h2
  ·cases h
 ·cases h
theorem zD8: ∀ (l:List (Bool×Ty)) (ds:List V) (x:zVt l),zHe l ds=some x→j5 ds (zRP l x)
 |[],[],_,_=>trivial
 |[],_::_,_,h=>by simp [zHe] at h
 |_::_,[],_,h=>by simp [zHe] at h
 |(b,t)::r,d::ds,x,h=>by
  simp only [zHe] at h
  split at h
  ·split at h
   ·rename_i y hy
    split at h
    ·rename_i ys hys
     simp only [Option.some.injEq] at h
     subst h
     exact ⟨zJX hy,zD8 r ds ys hys⟩
    ·cases h
   ·cases h
  ·split at h
   ·rename_i y hy
    split at h
    ·rename_i ys hys
     simp only [Option.some.injEq] at h
     subst h
     exact ⟨vE hy,zD8 r ds ys hys⟩
    ·cases h
   ·cases h
theorem zHf: ∀ (ts:List ATy) (ds:List V) (x:ElA ts),vX ts ds=some x→j5 ds (zTA ts x)
 |[],[],_,_=>trivial
 |[],_::_,_,h=>by simp [vX] at h
 |_::_,[],_,h=>by simp [vX] at h
 |t::ts,d::ds,x,h=>by
  simp only [vX] at h
  split at h
  ·rename_i y hy
   split at h
   ·rename_i ys hys
    simp only [Option.some.injEq] at h
    subst h
    refine ⟨?_,zHf ts ds ys hys⟩
    cases t with
    |d ty=>exact vE (t:=ty) (x:=y) hy
    |pp ty=>exact zJX (t:=ty) (x:=y) hy
    |clo f caps=>
     cases d with
     |clo g ds0=>
      simp only [ATy.dec] at hy
      split at hy
      ·rename_i hb
       have hb:=Nat.eq_of_beq_eq_true hb
       subst hb
       exact WkV.clo (zD8 _ _ _ hy)
      ·cases hy
     |_=>simp [ATy.dec] at hy
   ·cases h
  ·cases h
theorem zLT [hsub:Subsingleton Γ.St] {S:zQ Γ} {A:Nat→Option JA} (hmix:P.follows .mixedOrders=true) (hS:z7 Γ P G S.toS) {f:FuncId} {fn:Func} {c:Code} (hf:P.funcs[f]? =some fn) (hb:fn.body=some c)
  {X:Type} {dec:List V→Option X} {enc:X→List V} (hdec: ∀ds x,dec ds=some x→j5 ds (enc x)) {R:RTy} {g:X→Option R.El} (h: ∀s x,exF (Γ:=Γ) P G S A fn c R s (enc x)=g x):j7 Γ P G f (qG (wF dec R g)):=by
 intro w F O s args ds s' r hsig hG hF hlen hrd hspec
 simp only [qG,wF] at hspec
 split at hspec
 ·rename_i cx hcx
  split at hcx
  ·rename_i x hx
   simp only [Option.some.injEq] at hcx
   subst hcx
   simp only [Option.map_eq_some_iff] at hspec
   obtain ⟨y,hy,hsr⟩:=hspec
   simp only [Prod.mk.injEq] at hsr
   obtain ⟨rfl,rfl⟩:=hsr
   have hwk:=hdec ds x hx
   have hlen':args.size=(enc x).length:=hlen.trans hwk.len
   have hrd': ∀ (i:Nat) (u:Value) (d:V),args[i]? =some u→(enc x)[i]? =some d→Rd w F u d:=by
    intro i u d hu hd
    have hlt:i<ds.length:=by rw [hwk.len];exact (List.getElem?_eq_some_iff.1 hd).1
    exact hwk.get i ds[i] d (by simp [hlt]) hd w F u (hrd i u ds[i] hu (by simp [hlt]))
   have hex:=h s x
   rw [hy] at hex
   unfold exF at hex
   rw [v7] at hex
   obtain ⟨k,e',d,hok,_,hend⟩:=zJc (fun _ _ _=> .inl hsub) hmix hS c _ _ _ _ _ hex
   have hk:(k= .normal∨k= .ret)∧(match zBK (jG.of P) e' fn with
    |some r=>R.get r
    |none=>none)=some y:=by
    cases k with
    |normal=>exact ⟨.inl rfl,hend⟩
    |ret=>exact ⟨.inr rfl,hend⟩
    |exit id=>cases hend
   obtain ⟨hk,hend⟩:=hk
   split at hend
   ·rename_i r' hr'
    refine calls_of_wp hf hb ?_
    have qR: ∀t,zP w F ⟨fun _=>0,fun _=>0⟩ (fun _=>False) ((args++Array.replicate (fn.ntmps-args.size) undef).getD t undef) ((start fn.ntmps s (enc x)).get t):=by
     intro t
     simp only [start,zDG,Env.get,List.getD_eq_getElem?_getD,Array.getD_eq_getD_getElem?]
     by_cases ht:t< (enc x).length
     ·rw [List.getElem?_append_left (by simpa using ht),Array.getElem?_append_left (by omega)]
      rw [List.getElem?_map,List.getElem?_eq_getElem ht,Array.getElem?_eq_getElem (by omega)]
      exact hrd' t _ _ (by simp [show t<args.size by omega]) (by simp [ht])
     ·rw [List.getElem?_append_right (by simpa using Nat.le_of_not_lt ht),Array.getElem?_append_right (by omega),hlen']
      simp only [List.length_map]
      by_cases h2:t- (enc x).length<fn.ntmps- (enc x).length
      ·rw [List.getElem?_replicate,if_pos h2,Array.getElem?_replicate,if_pos h2]
       exact Rd.val _
      ·rw [List.getElem?_replicate,if_neg h2]
       trivial
    have hnovar: ∀s0,(start fn.ntmps s (enc x)).var s0=none:=by
     intro s0
     simp only [start,Env.var,List.getElem?_replicate]
     split<;>rfl
    have hinv:Inv Γ G w F O { tmps:=args++Array.replicate (fn.ntmps-args.size) undef,defers:=[] } w (start fn.ntmps s (enc x)):=by
     refine Inv.of (F:=F) (O:=O) (β:=⟨fun _=>0,fun _=>0⟩) (al:=fun _=>False) ⟨zBX.refl _ w,hsig,fun b hb=> .inl hb,fun b hb=>⟨.inl hb,hF b hb⟩,fun b hb=>hb,fun x hx=>hx.elim,fun x y hx=>hx.elim,fun b n h=>by cases h⟩ hG ?_ rfl qR ?_ (fun s h=>h.elim)
     ·simp [start,zDG,hlen']
     ·intro s0 cs hcs;rw [hnovar] at hcs;cases hcs
    refine wp_mono (hok w F O _ w hinv) ?_
    rintro ex a' w' ⟨rfl,hi'⟩
    obtain ⟨v,F',O',h1,h2,h3,h4,h5,h6,h7⟩:=zJd rfl hi' hr'
    have hdf:a'.defers=[]:=by obtain ⟨_,_,_,_,_,_,hdf,_⟩:=hi';exact hdf
    rw [Subsingleton.elim e'.st s] at h2
    obtain ⟨F'',g1,gh,g2,g3⟩:=RTy.get_sound hend h7
    have h2:=Γ.mono h2 gh (fun _ _=>rfl)
    have hF'': ∀b:Nat,F'' b→(F b∨w.heap.size≤b)∧b<w'.heap.size∧ ¬O' b:=by
     intro b hb
     rcases g2 b hb with hb|⟨h1,h2,h3⟩
     ·exact h6 b hb
     ·exact ⟨.inr h1,h2,h3⟩
    rcases hk with rfl|rfl
    ·exact ⟨hdf,v,h1,v,F'',O',rfl,h2,h3,h4,fun b hb=>g1 b (h5 b hb),hF'',g3⟩
    ·exact ⟨hdf,v,h1,v,F'',O',rfl,h2,h3,h4,fun b hb=>g1 b (h5 b hb),hF'',g3⟩
   ·cases hend
  ·cases hcx
 ·cases hspec
theorem zUT [hsub:Subsingleton Γ.St] {S:zQ Γ} {A:Nat→Option JA} (hmix:P.follows .mixedOrders=true) (hS:z7 Γ P G S.toS) {f:FuncId} {fn:Func} {c:Code} (hf:P.funcs[f]? =some fn) (hb:fn.body=some c)
  {ts:List Ty} {R:RTy} {g:ElS ts→Option R.El} (h: ∀s x,exF (Γ:=Γ) P G S A fn c R s (vA ts x)=g x):j7 Γ P G f (qG (jV ts R g)):=by
 have:=zLT hmix hS hf hb (w6 ts) h
 exact this
theorem zUV [hsub:Subsingleton Γ.St] {S:zQ Γ} {A:Nat→Option JA} (hmix:P.follows .mixedOrders=true) (hS:z7 Γ P G S.toS) {f:FuncId} {fn:Func} {c:Code} (hf:P.funcs[f]? =some fn) (hb:fn.body=some c)
  {ts:List ATy} {R:RTy} {g:ElA ts→Option R.El} (h: ∀s x,exF (Γ:=Γ) P G S A fn c R s (zTA ts x)=g x):j7 Γ P G f (qG (zT5 ts R g)):=
 zLT hmix hS hf hb (zHf ts) h
end
end Go.Ve

namespace Go.Ve
open Go
@[reducible] def Ty.st:List Ty→Ty
 |[]=> .unit
 |t::ts=> .pair t (Ty.st ts)
abbrev tI:Ty:= .int .i64
abbrev tU:Ty:= .int .u32
abbrev zF:Ty:= .st [tU,tI]
abbrev jJ:Ty:= .st [tI,tU]
abbrev zA:Ty:= .st [zF,tI,tI,tI,tI,tI,tI,tI, .sl tI,tU,tU, .sl jJ, .bool]
abbrev qQ:Ty:= .st [.str,tU,tI,tI, .bool, .bool,tI,tI, .bool, .str, .str,tI]
abbrev zBy:Ty:= .st [.bool,zF,tI,tI]
abbrev wE:Ty:= .st [.str, .sl zBy]
abbrev zSl:Ty:= .st [.bool, .str,tI,tI,tI,tI,tI]
abbrev zGh:Ty:= .st [.str, .sl zSl]
abbrev zWr:Ty:= .st [tU,tU]
abbrev zO:Ty:= .st [tI,tI]
abbrev zPf:Ty:= .st [.bool,tI,zWr,zWr,zO,zO]
abbrev zIN:Ty:= .st [.str, .sl zPf]
abbrev zXk:Ty:= .st [tI,tU,tU,tI,tI,tI, .str,tU,tU]
abbrev zHB:Ty:= .st [zF,tU, .str, .bool,tI,tI]
abbrev zCx:Ty:= .st [tI,tI,tI, .str,tI]
abbrev zDF:Ty:= .st [tI,zF]
abbrev tLS:Ty:= .st [.bool,tI, .sl zDF, .sl zCx]
abbrev tDV:Ty:= .st [.bool,tI, .str, .str, .sl zCx]
abbrev kD:Ty:= .st [tU,tI, .str, .str]
abbrev zDE:Ty:= .st [zF, .bool]
abbrev zGI:Ty:= .st [zF,zF, .bool]
abbrev tPV:Ty:= .st [.bool,tI,tI, .sl kD, .sl zF, .sl zDE, .sl zGI, .sl zCx]
abbrev zG:Ty:= .st [.str,tI, .sl qQ, .sl wE, .sl zGh, .sl zIN, .sl zXk, .sl zHB,tLS,tDV,tPV]
abbrev zV:Ty:= .st [.sl zG]
abbrev zAu:Ty:= .st [zF,tI, .sl zO]
abbrev zM:Ty:= .st [zF,tI, .rf]
abbrev zEU:Ty:= .st [.sl zM, .sl tI]
abbrev zHA:Ty:= .st [.sl zAu, .sl tI]
abbrev zXI:Ty:= .st [zV,zEU, .sl tI]
abbrev z6:Ty:= .st [zV,zHA, .sl tI]
abbrev zSk:Ty:= .st [tU,tU,tI,tI,tI]
abbrev zXW:Ty:= .st [tI,tI,tI,jJ]
abbrev zXi:Ty:= .st [tI,tI,tI,tI, .bool]
abbrev zVD:Ty:= .st [.sl zA, .sl zA, .sl zA, .sl zA]
abbrev zXG:Ty:= .st [tI,tI,tI, .sl zVD]
abbrev zWE:Ty:= .st [tI,tI,zF]
abbrev zXK:Ty:= .st [zWE,zA,tI, .sl tI]
abbrev zXl:Ty:= .st [zF, .sl jJ, .bool]
abbrev zXV:Ty:= .st [tI,zO,zSk]
abbrev zXJ:Ty:= .st [zO,zSk]
abbrev zXj:Ty:= .st [tI,zO]
end Go.Ve

namespace Go.Ve
open Go
set_option maxRecDepth 1000000
noncomputable def zBm:ElS [(.int .u8)]→Option (RTy.El (.p .bool)):=fun x=>match x with|(a1,())=>Option.bind (bif decide (a1≥(97:Int)) then bif decide (a1≤(122:Int)) then some true else bif decide (a1≥(65:Int)) then some (decide (a1≤(90:Int))) else some false else bif decide (a1≥(65:Int)) then some (decide (a1≤(90:Int))) else some false) fun (s0:Bool)=>some s0
noncomputable def zAg:ElS [.str]→Option (RTy.El (.p .bool)):=fun x=>match x with|(a1,())=>Option.bind (bif decide ((↑(ByteArray.size a1):Int)< (1:Int)) then some true else bif decide ((↑(ByteArray.size a1):Int)>(15:Int)) then some true else Option.bind (zJy a1 (0:Int)) fun (y2:Int)=>Option.bind (zBm (y2,())) fun (y3:Bool)=>some !y3) fun (s4:Bool)=>bif s4 then some false else jP (zR (fun (s14:Int)=>bif decide (s14< (↑(ByteArray.size a1):Int)) then Option.bind (zJy a1 s14) fun (y15:Int)=>Option.bind (Option.bind (zBm (y15,())) fun (y16:Bool)=>bif !y16 then bif decide (y15≥(48:Int)) then bif !decide (y15≤(57:Int)) then bif y15 !=(45:Int) then bif y15 !=(95:Int) then bif y15 !=(47:Int) then some (y15 !=(46:Int)) else some false else some false else some false else some false else bif y15 !=(45:Int) then bif y15 !=(95:Int) then bif y15 !=(47:Int) then some (y15 !=(46:Int)) else some false else some false else some false else some false) fun (s17:Bool)=>bif s17 then some (Sum.inr (Sum.inr false)) else some (Sum.inl (IntKind.wrap IntKind.i64 (s14+(1:Int)))) else some (Sum.inr (Sum.inl ()))) (1:Int)) fun (s18:Unit)=>some true
noncomputable def zU:ElS [tI,tI,tI]→Option (RTy.El (.p .bool)):=fun x=>match x with|(a1,a2,a3,())=>Option.bind (bif decide (a2≤a1) then some (decide (a1≤a3)) else some false) fun (s0:Bool)=>some s0
noncomputable def zAh:ElS [tI]→Option (RTy.El (.p tU)):=fun x=>match x with|(a1,())=>Option.bind (zR (fun (s4:Int×Int)=>bif decide (s4.1< (32:Int)) then Option.bind (bif decide (s4.1<a1) then bif decide ((0:Int)≤IntKind.wrap IntKind.u64 (IntKind.wrap IntKind.i64 ((31:Int) -s4.1))) then some (IntKind.wrap IntKind.u32 (↑(BitVec.toNat (BitVec.ofInt (IntKind.bits IntKind.u32) s4.2|||BitVec.ofInt (IntKind.bits IntKind.u32) (IntKind.wrap IntKind.u32 ((1:Int)*(2:Int)^min (Int.toNat (IntKind.wrap IntKind.u64 (IntKind.wrap IntKind.i64 ((31:Int) -s4.1)))) (IntKind.bits IntKind.u32))))):Int)) else none else some s4.2) fun (s5:Int)=>some (Sum.inl (IntKind.wrap IntKind.i64 (s4.1+(1:Int)),s5)) else some (Sum.inr s4.2)) ((0:Int),(0:Int))) fun (s6:Int)=>some s6
noncomputable def vI:ElS [tU,tI]→Option (RTy.El (.p zF)):=fun x=>match x with|(a1,a2,())=>Option.bind (zAh (if (0:Int)>if (32:Int)<a2 then (32:Int) else a2 then (0:Int) else if (32:Int)<a2 then (32:Int) else a2,())) fun (y0:Int)=>some (IntKind.wrap IntKind.u32 (↑(BitVec.toNat (BitVec.ofInt (IntKind.bits IntKind.u32) a1&&&BitVec.ofInt (IntKind.bits IntKind.u32) y0)):Int),if (0:Int)>if (32:Int)<a2 then (32:Int) else a2 then (0:Int) else if (32:Int)<a2 then (32:Int) else a2,())
noncomputable def zBh:ElS [zF,tU]→Option (RTy.El (.p .bool)):=fun x=>match x with|(a1,a2,())=>Option.bind (zAh (a1.2.1,())) fun (y1:Int)=>some (IntKind.wrap IntKind.u32 (↑(BitVec.toNat (BitVec.ofInt (IntKind.bits IntKind.u32) a2&&&BitVec.ofInt (IntKind.bits IntKind.u32) y1)):Int)==a1.1)
noncomputable def zBn:ElS [zF,zF]→Option (RTy.El (.p .bool)):=fun x=>match x with|(a1,a2,())=>Option.bind (bif decide (a1.2.1≤a2.2.1) then Option.bind (zBh (a1,a2.1,())) fun (y1:Bool)=>some y1 else some false) fun (s2:Bool)=>some s2
noncomputable def xK:ElS [zF,zF]→Option (RTy.El (.p .bool)):=fun x=>match x with|(a1,a2,())=>Option.bind (Option.bind (zBn (a1,a2,())) fun (y2:Bool)=>bif y2 then some true else Option.bind (zBn (a2,a1,())) fun (y3:Bool)=>some y3) fun (s4:Bool)=>some s4
noncomputable def x3:ElS [(.sl qQ)]→Option (RTy.El (.p tI)):=fun x=>match x with|(a1,())=>bif decide ((↑(List.length a1):Int)>(8:Int)) then some (7:Int) else jP (zR (fun (s164:Int)=>bif decide (s164< (↑(List.length a1):Int)) then jP (Option.bind (idx a1 s164) fun (y165:Ty.El qQ)=>Option.bind (zAg (y165.1,())) fun (y166:Bool)=>bif !y166 then some (Sum.inr (Sum.inr (Sum.inr (3:Int)))) else jP (zR (fun (s167:Int)=>bif decide (s167<s164) then Option.bind (idx a1 s167) fun (y168:Ty.El qQ)=>bif y168.1==y165.1 then some (Sum.inr (Sum.inr (Sum.inr (Sum.inr (Sum.inr (4:Int)))))) else some (Sum.inl (IntKind.wrap IntKind.i64 (s167+(1:Int)))) else some (Sum.inr (Sum.inl ()))) (0:Int)) fun (s169:Unit)=>Option.bind (Option.bind (zU (y165.2.2.1,(0:Int),(32:Int),())) fun (y170:Bool)=>bif !y170 then some true else Option.bind (zU (y165.2.2.2.1,(0:Int),(4094:Int),())) fun (y171:Bool)=>bif !y171 then some true else Option.bind (zU (y165.2.2.2.2.2.2.2.2.2.2.2.1,(0:Int),(2:Int),())) fun (y172:Bool)=>some !y172) fun (s173:Bool)=>bif s173 then some (Sum.inr (Sum.inr (Sum.inr (1:Int)))) else Option.bind (bif y165.2.2.1==(0:Int) then bif y165.2.1 !=(0:Int) then some true else bif y165.2.2.2.1 !=(0:Int) then some true else bif y165.2.2.2.2.2.2.2.2.2.2.2.1 !=(0:Int) then some true else bif y165.2.2.2.2.2.1 then some true else bif y165.2.2.2.2.2.2.2.2.1 then some true else bif y165.2.2.2.2.2.2.2.2.2.1 != { data:= #[] } then some true else bif y165.2.2.2.2.2.2.2.2.2.2.1 != { data:= #[] } then some true else bif y165.2.2.1 !=(0:Int) then some (y165.2.1==(0:Int)) else some false else bif y165.2.2.1 !=(0:Int) then some (y165.2.1==(0:Int)) else some false) fun (s174:Bool)=>bif s174 then some (Sum.inr (Sum.inr (Sum.inr (1:Int)))) else Option.bind (bif y165.2.2.2.2.2.1 then Option.bind (zU (y165.2.2.2.2.2.2.1,(0:Int),(255:Int),())) fun (y175:Bool)=>bif !y175 then some true else Option.bind (zU (y165.2.2.2.2.2.2.2.1,(1:Int),(65535:Int),())) fun (y176:Bool)=>bif !y176 then some true else bif !y165.2.2.2.2.2.1 then bif y165.2.2.2.2.2.2.1 !=(0:Int) then some true else some (y165.2.2.2.2.2.2.2.1 !=(0:Int)) else some false else bif !y165.2.2.2.2.2.1 then bif y165.2.2.2.2.2.2.1 !=(0:Int) then some true else some (y165.2.2.2.2.2.2.2.1 !=(0:Int)) else some false) fun (s177:Bool)=>bif s177 then some (Sum.inr (Sum.inr (Sum.inr (1:Int)))) else zR (fun (s178:Int)=>bif decide (s178<s164) then Option.bind (bif y165.2.2.1 !=(0:Int) then Option.bind (idx a1 s178) fun (y179:Ty.El qQ)=>bif y179.2.2.1 !=(0:Int) then Option.bind (vI (y165.2.1,y165.2.2.1,())) fun (y180:Int×Int×Unit)=>Option.bind (idx a1 s178) fun (y181:Ty.El qQ)=>Option.bind (idx a1 s178) fun (y182:Ty.El qQ)=>Option.bind (vI (y181.2.1,y182.2.2.1,())) fun (y183:Int×Int×Unit)=>Option.bind (xK (y180,y183,())) fun (y184:Bool)=>some y184 else some false else some false) fun (s185:Bool)=>bif s185 then some (Sum.inr (Sum.inr (Sum.inr (Sum.inr (6:Int))))) else some (Sum.inl (IntKind.wrap IntKind.i64 (s178+(1:Int)))) else some (Sum.inr (Sum.inl ()))) (0:Int)) fun (s186:Unit)=>some (Sum.inl (IntKind.wrap IntKind.i64 (s164+(1:Int)))) else some (Sum.inr (Sum.inl ()))) (0:Int)) fun (s187:Unit)=>some (0:Int)
noncomputable def j9:ElS [zF]→Option (RTy.El (.p .bool)):=fun x=>match x with|(a1,())=>Option.bind (bif decide (a1.2.1≥(0:Int)) then bif decide (a1.2.1≤(32:Int)) then Option.bind (zAh (a1.2.1,())) fun (y2:Int)=>some (IntKind.wrap IntKind.u32 (↑(BitVec.toNat (BitVec.ofInt (IntKind.bits IntKind.u32) a1.1&&& ~~~BitVec.ofInt (IntKind.bits IntKind.u32) y2)):Int)==(0:Int)) else some false else some false) fun (s3:Bool)=>some s3
noncomputable def vH:ElS [zBy]→Option (RTy.El (.p .bool)):=fun x=>match x with|(a1,())=>Option.bind (Option.bind (j9 (a1.2.1,())) fun (y1:Bool)=>bif y1 then bif decide (a1.2.1.2.1≤a1.2.2.1) then bif decide (a1.2.2.1≤a1.2.2.2.1) then some (decide (a1.2.2.2.1≤(32:Int))) else some false else some false else some false) fun (s2:Bool)=>some s2
noncomputable def yP:ElS [(.sl wE)]→Option (RTy.El (.p tI)):=fun x=>match x with|(a1,())=>bif decide ((↑(List.length a1):Int)>(8:Int)) then some (7:Int) else jP (zR (fun (s56:Int)=>bif decide (s56< (↑(List.length a1):Int)) then jP (Option.bind (idx a1 s56) fun (y57:Ty.El wE)=>Option.bind (zAg (y57.1,())) fun (y58:Bool)=>bif !y58 then some (Sum.inr (Sum.inr (Sum.inr (3:Int)))) else jP (zR (fun (s59:Int)=>bif decide (s59<s56) then Option.bind (idx a1 s59) fun (y60:Ty.El wE)=>Option.bind (idx a1 s56) fun (y61:Ty.El wE)=>bif y60.1==y61.1 then some (Sum.inr (Sum.inr (Sum.inr (Sum.inr (Sum.inr (4:Int)))))) else some (Sum.inl (IntKind.wrap IntKind.i64 (s59+(1:Int)))) else some (Sum.inr (Sum.inl ()))) (0:Int)) fun (s62:Unit)=>Option.bind (idx a1 s56) fun (y63:Ty.El wE)=>bif (↑(List.length y63.2.1):Int)==(0:Int) then some (Sum.inr (Sum.inr (Sum.inr (1:Int)))) else Option.bind (idx a1 s56) fun (y64:Ty.El wE)=>bif decide ((↑(List.length y64.2.1):Int)>(16:Int)) then some (Sum.inr (Sum.inr (Sum.inr (7:Int)))) else zR (fun (s65:Int)=>Option.bind (idx a1 s56) fun (y66:Ty.El wE)=>bif decide (s65< (↑(List.length y66.2.1):Int)) then Option.bind (idx a1 s56) fun (y67:Ty.El wE)=>Option.bind (idx y67.2.1 s65) fun (y68:Ty.El zBy)=>Option.bind (vH (y68,())) fun (y69:Bool)=>bif !y69 then some (Sum.inr (Sum.inr (Sum.inr (Sum.inr (1:Int))))) else some (Sum.inl (IntKind.wrap IntKind.i64 (s65+(1:Int)))) else some (Sum.inr (Sum.inl ()))) (0:Int)) fun (s70:Unit)=>some (Sum.inl (IntKind.wrap IntKind.i64 (s56+(1:Int)))) else some (Sum.inr (Sum.inl ()))) (0:Int)) fun (s71:Unit)=>some (0:Int)
noncomputable def wJ:ElS [zG, .str]→Option (RTy.El (.p tI)):=fun x=>match x with|(a1,a2,())=>jP (zR (fun (s4:Int)=>bif decide (s4< (↑(List.length a1.2.2.2.1):Int)) then Option.bind (idx a1.2.2.2.1 s4) fun (y5:Ty.El wE)=>bif y5.1==a2 then some (Sum.inr (Sum.inr s4)) else some (Sum.inl (IntKind.wrap IntKind.i64 (s4+(1:Int)))) else some (Sum.inr (Sum.inl ()))) (0:Int)) fun (s6:Unit)=>some (-1:Int)
noncomputable def zAA:ElS [zG]→Option (RTy.El (.p tI)):=fun x=>match x with|(a1,())=>bif decide ((↑(List.length a1.2.2.2.2.1):Int)>(8:Int)) then some (7:Int) else jP (zR (fun (s192:Int)=>bif decide (s192< (↑(List.length a1.2.2.2.2.1):Int)) then jP (Option.bind (idx a1.2.2.2.2.1 s192) fun (y193:Ty.El zGh)=>Option.bind (zAg (y193.1,())) fun (y194:Bool)=>bif !y194 then some (Sum.inr (Sum.inr (Sum.inr (3:Int)))) else jP (zR (fun (s195:Int)=>bif decide (s195<s192) then Option.bind (idx a1.2.2.2.2.1 s195) fun (y196:Ty.El zGh)=>Option.bind (idx a1.2.2.2.2.1 s192) fun (y197:Ty.El zGh)=>bif y196.1==y197.1 then some (Sum.inr (Sum.inr (Sum.inr (Sum.inr (Sum.inr (4:Int)))))) else some (Sum.inl (IntKind.wrap IntKind.i64 (s195+(1:Int)))) else some (Sum.inr (Sum.inl ()))) (0:Int)) fun (s198:Unit)=>Option.bind (idx a1.2.2.2.2.1 s192) fun (y199:Ty.El zGh)=>bif (↑(List.length y199.2.1):Int)==(0:Int) then some (Sum.inr (Sum.inr (Sum.inr (1:Int)))) else Option.bind (idx a1.2.2.2.2.1 s192) fun (y200:Ty.El zGh)=>bif decide ((↑(List.length y200.2.1):Int)>(8:Int)) then some (Sum.inr (Sum.inr (Sum.inr (7:Int)))) else zR (fun (s201:Int)=>Option.bind (idx a1.2.2.2.2.1 s192) fun (y202:Ty.El zGh)=>bif decide (s201< (↑(List.length y202.2.1):Int)) then Option.bind (idx a1.2.2.2.2.1 s192) fun (y203:Ty.El zGh)=>Option.bind (idx y203.2.1 s201) fun (y204:Ty.El zSl)=>Option.bind (bif y204.2.1 != { data:= #[] } then Option.bind (wJ (a1,y204.2.1,())) fun (y205:Int)=>some (decide (y205< (0:Int))) else some false) fun (s206:Bool)=>bif s206 then some (Sum.inr (Sum.inr (Sum.inr (Sum.inr (5:Int))))) else Option.bind (Option.bind (zU (y204.2.2.1,(-1:Int),(65535:Int),())) fun (y207:Bool)=>bif !y207 then some true else Option.bind (zU (y204.2.2.2.2.1,(-1:Int),(65535:Int),())) fun (y208:Bool)=>bif !y208 then some true else Option.bind (zU (y204.2.2.2.1,(-1:Int),(16777215:Int),())) fun (y209:Bool)=>bif !y209 then some true else Option.bind (zU (y204.2.2.2.2.2.1,(-1:Int),(1000000:Int),())) fun (y210:Bool)=>bif !y210 then some true else Option.bind (zU (y204.2.2.2.2.2.2.1,(0:Int),(8:Int),())) fun (y211:Bool)=>some !y211) fun (s212:Bool)=>bif s212 then some (Sum.inr (Sum.inr (Sum.inr (Sum.inr (1:Int))))) else some (Sum.inl (IntKind.wrap IntKind.i64 (s201+(1:Int)))) else some (Sum.inr (Sum.inl ()))) (0:Int)) fun (s213:Unit)=>some (Sum.inl (IntKind.wrap IntKind.i64 (s192+(1:Int)))) else some (Sum.inr (Sum.inl ()))) (0:Int)) fun (s214:Unit)=>some (0:Int)
noncomputable def zB9:ElS [zO]→Option (RTy.El (.p .bool)):=fun x=>match x with|(a1,())=>Option.bind (bif decide ((0:Int)≤a1.1) then bif decide (a1.1≤a1.2.1) then some (decide (a1.2.1≤(65535:Int))) else some false else some false) fun (s0:Bool)=>some s0
noncomputable def zE0:ElS [zO]→Option (RTy.El (.p .bool)):=fun x=>match x with|(a1,())=>some (a1.1==(0:Int)&&(a1.2.1==(65535:Int)&&true))
noncomputable def zAD:ElS [zPf]→Option (RTy.El (.p .bool)):=fun x=>match x with|(a1,())=>Option.bind (Option.bind (zU (a1.2.1,(-1:Int),(255:Int),())) fun (y3:Bool)=>bif !y3 then some true else bif IntKind.wrap IntKind.u32 (↑(BitVec.toNat (BitVec.ofInt (IntKind.bits IntKind.u32) a1.2.2.1.1&&&BitVec.ofInt (IntKind.bits IntKind.u32) a1.2.2.1.2.1)):Int) !=(0:Int) then some true else bif IntKind.wrap IntKind.u32 (↑(BitVec.toNat (BitVec.ofInt (IntKind.bits IntKind.u32) a1.2.2.2.1.1&&&BitVec.ofInt (IntKind.bits IntKind.u32) a1.2.2.2.1.2.1)):Int) !=(0:Int) then some true else Option.bind (zB9 (a1.2.2.2.2.1,())) fun (y4:Bool)=>bif !y4 then some true else Option.bind (zB9 (a1.2.2.2.2.2.1,())) fun (y5:Bool)=>some !y5) fun (s6:Bool)=>bif s6 then some false else Option.bind (bif a1.2.1==(6:Int) then some true else bif a1.2.1==(17:Int) then some true else Option.bind (zE0 (a1.2.2.2.2.1,())) fun (y9:Bool)=>bif y9 then Option.bind (zE0 (a1.2.2.2.2.2.1,())) fun (y10:Bool)=>some y10 else some false) fun (s11:Bool)=>some s11
noncomputable def yQ:ElS [(.sl zIN)]→Option (RTy.El (.p tI)):=fun x=>match x with|(a1,())=>bif decide ((↑(List.length a1):Int)>(8:Int)) then some (7:Int) else jP (zR (fun (s56:Int)=>bif decide (s56< (↑(List.length a1):Int)) then jP (Option.bind (idx a1 s56) fun (y57:Ty.El zIN)=>Option.bind (zAg (y57.1,())) fun (y58:Bool)=>bif !y58 then some (Sum.inr (Sum.inr (Sum.inr (3:Int)))) else jP (zR (fun (s59:Int)=>bif decide (s59<s56) then Option.bind (idx a1 s59) fun (y60:Ty.El zIN)=>Option.bind (idx a1 s56) fun (y61:Ty.El zIN)=>bif y60.1==y61.1 then some (Sum.inr (Sum.inr (Sum.inr (Sum.inr (Sum.inr (4:Int)))))) else some (Sum.inl (IntKind.wrap IntKind.i64 (s59+(1:Int)))) else some (Sum.inr (Sum.inl ()))) (0:Int)) fun (s62:Unit)=>Option.bind (idx a1 s56) fun (y63:Ty.El zIN)=>bif (↑(List.length y63.2.1):Int)==(0:Int) then some (Sum.inr (Sum.inr (Sum.inr (1:Int)))) else Option.bind (idx a1 s56) fun (y64:Ty.El zIN)=>bif decide ((↑(List.length y64.2.1):Int)>(16:Int)) then some (Sum.inr (Sum.inr (Sum.inr (7:Int)))) else zR (fun (s65:Int)=>Option.bind (idx a1 s56) fun (y66:Ty.El zIN)=>bif decide (s65< (↑(List.length y66.2.1):Int)) then Option.bind (idx a1 s56) fun (y67:Ty.El zIN)=>Option.bind (idx y67.2.1 s65) fun (y68:Ty.El zPf)=>Option.bind (zAD (y68,())) fun (y69:Bool)=>bif !y69 then some (Sum.inr (Sum.inr (Sum.inr (Sum.inr (1:Int))))) else some (Sum.inl (IntKind.wrap IntKind.i64 (s65+(1:Int)))) else some (Sum.inr (Sum.inl ()))) (0:Int)) fun (s70:Unit)=>some (Sum.inl (IntKind.wrap IntKind.i64 (s56+(1:Int)))) else some (Sum.inr (Sum.inl ()))) (0:Int)) fun (s71:Unit)=>some (0:Int)
noncomputable def zCa:ElS [zG, .str]→Option (RTy.El (.p tI)):=fun x=>match x with|(a1,a2,())=>jP (zR (fun (s4:Int)=>bif decide (s4< (↑(List.length a1.2.2.2.2.2.1):Int)) then Option.bind (idx a1.2.2.2.2.2.1 s4) fun (y5:Ty.El zIN)=>bif y5.1==a2 then some (Sum.inr (Sum.inr s4)) else some (Sum.inl (IntKind.wrap IntKind.i64 (s4+(1:Int)))) else some (Sum.inr (Sum.inl ()))) (0:Int)) fun (s6:Unit)=>some (-1:Int)
noncomputable def uT:ElS [zG]→Option (RTy.El (.p tI)):=fun x=>match x with|(a1,())=>bif decide ((↑(List.length a1.2.2.2.2.2.2.1):Int)>(8:Int)) then some (7:Int) else jP (zR (fun (s60:Int)=>bif decide (s60< (↑(List.length a1.2.2.2.2.2.2.1):Int)) then Option.bind (idx a1.2.2.2.2.2.2.1 s60) fun (y61:Ty.El zXk)=>Option.bind (bif y61.1==(1:Int) then Option.bind (bif y61.2.1 !=(0:Int) then bif y61.2.2.1 !=(0:Int) then some (y61.1==y61.1&&(y61.2.1==y61.2.1&&(y61.2.2.1==y61.2.2.1&&(y61.2.2.2.1==(0:Int)&&(y61.2.2.2.2.1==(0:Int)&&(y61.2.2.2.2.2.1==(0:Int)&&(y61.2.2.2.2.2.2.1== { data:= #[] } &&(y61.2.2.2.2.2.2.2.1==(0:Int)&&(y61.2.2.2.2.2.2.2.2.1==(0:Int)&&true))))))))) else some false else some false) fun (s62:Bool)=>some s62 else bif y61.1==(2:Int) then Option.bind (bif y61.2.2.2.2.2.2.2.1 !=(0:Int) then bif decide (y61.2.2.2.2.2.2.2.1≤y61.2.2.2.2.2.2.2.2.1) then bif decide (IntKind.wrap IntKind.u32 (y61.2.2.2.2.2.2.2.2.1-y61.2.2.2.2.2.2.2.1)< (8:Int)) then some (y61.1==y61.1&&(y61.2.1==(0:Int)&&(y61.2.2.1==(0:Int)&&(y61.2.2.2.1==(0:Int)&&(y61.2.2.2.2.1==(0:Int)&&(y61.2.2.2.2.2.1==(0:Int)&&(y61.2.2.2.2.2.2.1==y61.2.2.2.2.2.2.1&&(y61.2.2.2.2.2.2.2.1==y61.2.2.2.2.2.2.2.1&&(y61.2.2.2.2.2.2.2.2.1==y61.2.2.2.2.2.2.2.2.1&&true))))))))) else some false else some false else some false) fun (s63:Bool)=>some s63 else bif y61.1==(3:Int) then Option.bind (bif y61.2.1 !=(0:Int) then bif y61.2.2.1 !=(0:Int) then bif y61.2.2.2.1==(6:Int) then Option.bind (zU (y61.2.2.2.2.1,(0:Int),(65535:Int),())) fun (y64:Bool)=>bif y64 then Option.bind (zU (y61.2.2.2.2.2.1,(0:Int),(65535:Int),())) fun (y65:Bool)=>bif y65 then bif y61.2.2.2.2.2.2.1== { data:= #[] } then bif y61.2.2.2.2.2.2.2.1==(0:Int) then some (y61.2.2.2.2.2.2.2.2.1==(0:Int)) else some false else some false else some false else some false else bif y61.2.2.2.1==(17:Int) then Option.bind (zU (y61.2.2.2.2.1,(0:Int),(65535:Int),())) fun (y66:Bool)=>bif y66 then Option.bind (zU (y61.2.2.2.2.2.1,(0:Int),(65535:Int),())) fun (y67:Bool)=>bif y67 then bif y61.2.2.2.2.2.2.1== { data:= #[] } then bif y61.2.2.2.2.2.2.2.1==(0:Int) then some (y61.2.2.2.2.2.2.2.2.1==(0:Int)) else some false else some false else some false else some false else some false else some false else some false) fun (s68:Bool)=>some s68 else some false) fun (s69:Bool)=>bif !s69 then some (Sum.inr (Sum.inr (1:Int))) else Option.bind (bif y61.1==(2:Int) then Option.bind (zCa (a1,y61.2.2.2.2.2.2.1,())) fun (y70:Int)=>some (decide (y70< (0:Int))) else some false) fun (s71:Bool)=>bif s71 then some (Sum.inr (Sum.inr (5:Int))) else some (Sum.inl (IntKind.wrap IntKind.i64 (s60+(1:Int)))) else some (Sum.inr (Sum.inl ()))) (0:Int)) fun (s72:Unit)=>some (0:Int)
noncomputable def zBN:ElS [zG]→Option (RTy.El (.p tI)):=fun x=>match x with|(a1,())=>jP (zR (fun (s24:Int)=>bif decide (s24< (↑(List.length a1.2.2.1):Int)) then Option.bind (idx a1.2.2.1 s24) fun (y25:Ty.El qQ)=>Option.bind (bif y25.2.2.2.2.2.2.2.2.2.1 != { data:= #[] } then Option.bind (zCa (a1,y25.2.2.2.2.2.2.2.2.2.1,())) fun (y26:Int)=>bif decide (y26< (0:Int)) then some true else bif y25.2.2.2.2.2.2.2.2.2.2.1 != { data:= #[] } then Option.bind (zCa (a1,y25.2.2.2.2.2.2.2.2.2.2.1,())) fun (y27:Int)=>some (decide (y27< (0:Int))) else some false else bif y25.2.2.2.2.2.2.2.2.2.2.1 != { data:= #[] } then Option.bind (zCa (a1,y25.2.2.2.2.2.2.2.2.2.2.1,())) fun (y28:Int)=>some (decide (y28< (0:Int))) else some false) fun (s29:Bool)=>bif s29 then some (Sum.inr (Sum.inr (5:Int))) else some (Sum.inl (IntKind.wrap IntKind.i64 (s24+(1:Int)))) else some (Sum.inr (Sum.inl ()))) (0:Int)) fun (s30:Unit)=>some (0:Int)
noncomputable def zAF:ElS [zG,tU]→Option (RTy.El (.p tI)):=fun x=>match x with|(a1,a2,())=>jP (zR (fun (s10:Int)=>bif decide (s10< (↑(List.length a1.2.2.1):Int)) then Option.bind (Option.bind (idx a1.2.2.1 s10) fun (y11:Ty.El qQ)=>bif y11.2.2.1 !=(0:Int) then Option.bind (idx a1.2.2.1 s10) fun (y12:Ty.El qQ)=>some (y12.2.1==a2) else some false) fun (s13:Bool)=>bif s13 then some (Sum.inr (Sum.inr s10)) else some (Sum.inl (IntKind.wrap IntKind.i64 (s10+(1:Int)))) else some (Sum.inr (Sum.inl ()))) (0:Int)) fun (s14:Unit)=>some (-1:Int)
noncomputable def zAE:ElS [zG, .str]→Option (RTy.El (.p tI)):=fun x=>match x with|(a1,a2,())=>jP (zR (fun (s4:Int)=>bif decide (s4< (↑(List.length a1.2.2.1):Int)) then Option.bind (idx a1.2.2.1 s4) fun (y5:Ty.El qQ)=>bif y5.1==a2 then some (Sum.inr (Sum.inr s4)) else some (Sum.inl (IntKind.wrap IntKind.i64 (s4+(1:Int)))) else some (Sum.inr (Sum.inl ()))) (0:Int)) fun (s6:Unit)=>some (-1:Int)
noncomputable def zBM:ElS [zG]→Option (RTy.El (.p tI)):=fun x=>match x with|(a1,())=>bif decide ((↑(List.length a1.2.2.2.2.2.2.2.1):Int)>(16:Int)) then some (7:Int) else jP (zR (fun (s126:Int)=>bif decide (s126< (↑(List.length a1.2.2.2.2.2.2.2.1):Int)) then jP (Option.bind (idx a1.2.2.2.2.2.2.2.1 s126) fun (y127:Ty.El zHB)=>Option.bind (bif y127.2.1 !=(0:Int) then some (IntKind.wrap IntKind.i64 ((0:Int)+(1:Int))) else some (0:Int)) fun (s128:Int)=>Option.bind (bif y127.2.2.1 != { data:= #[] } then some (IntKind.wrap IntKind.i64 (s128+(1:Int))) else some s128) fun (s129:Int)=>Option.bind (bif y127.2.2.2.1 then some (IntKind.wrap IntKind.i64 (s129+(1:Int))) else some s129) fun (s130:Int)=>Option.bind (Option.bind (j9 (y127.1,())) fun (y131:Bool)=>bif !y131 then some true else bif s130 !=(1:Int) then some true else bif y127.2.1 !=(0:Int) then Option.bind (zAF (a1,y127.2.1,())) fun (y132:Int)=>bif decide (y132≥(0:Int)) then some true else Option.bind (zU (y127.2.2.2.2.1,(1:Int),(255:Int),())) fun (y133:Bool)=>bif !y133 then some true else Option.bind (zU (y127.2.2.2.2.2.1,(0:Int),(65535:Int),())) fun (y134:Bool)=>some !y134 else Option.bind (zU (y127.2.2.2.2.1,(1:Int),(255:Int),())) fun (y135:Bool)=>bif !y135 then some true else Option.bind (zU (y127.2.2.2.2.2.1,(0:Int),(65535:Int),())) fun (y136:Bool)=>some !y136) fun (s137:Bool)=>bif s137 then some (Sum.inr (Sum.inr (Sum.inr (1:Int)))) else jP (bif y127.2.2.1 != { data:= #[] } then Option.bind (zAE (a1,y127.2.2.1,())) fun (y138:Int)=>bif decide (y138< (0:Int)) then some (Sum.inr (Sum.inr (Sum.inr (Sum.inr (5:Int))))) else Option.bind (idx a1.2.2.1 y138) fun (y139:Ty.El qQ)=>bif y139.2.2.1==(0:Int) then some (Sum.inr (Sum.inr (Sum.inr (Sum.inr (1:Int))))) else some (Sum.inl ()) else some (Sum.inl ())) fun (s140:Unit)=>zR (fun (s141:Int)=>bif decide (s141<s126) then Option.bind (Option.bind (idx a1.2.2.2.2.2.2.2.1 s141) fun (y142:Ty.El zHB)=>bif y142.1.1==y127.1.1&&(y142.1.2.1==y127.1.2.1&&true) then Option.bind (idx a1.2.2.2.2.2.2.2.1 s141) fun (y143:Ty.El zHB)=>some (y143.2.2.2.2.1==y127.2.2.2.2.1) else some false) fun (s144:Bool)=>bif s144 then some (Sum.inr (Sum.inr (Sum.inr (Sum.inr (6:Int))))) else some (Sum.inl (IntKind.wrap IntKind.i64 (s141+(1:Int)))) else some (Sum.inr (Sum.inl ()))) (0:Int)) fun (s145:Unit)=>some (Sum.inl (IntKind.wrap IntKind.i64 (s126+(1:Int)))) else some (Sum.inr (Sum.inl ()))) (0:Int)) fun (s146:Unit)=>some (0:Int)
noncomputable def vQ:ElS [zG, .str]→Option (RTy.El (.p tI)):=fun x=>match x with|(a1,a2,())=>jP (zR (fun (s4:Int)=>bif decide (s4< (↑(List.length a1.2.2.2.2.1):Int)) then Option.bind (idx a1.2.2.2.2.1 s4) fun (y5:Ty.El zGh)=>bif y5.1==a2 then some (Sum.inr (Sum.inr s4)) else some (Sum.inl (IntKind.wrap IntKind.i64 (s4+(1:Int)))) else some (Sum.inr (Sum.inl ()))) (0:Int)) fun (s6:Unit)=>some (-1:Int)
noncomputable def jX:ElS [zG,(.sl zCx),tI,tI,tI]→Option (RTy.El (.p tI)):=fun x=>match x with|(a1,a2,a3,a4,a5,())=>bif decide ((↑(List.length a2):Int)>(4:Int)) then some (7:Int) else jP (zR (fun (s69:Int)=>bif decide (s69< (↑(List.length a2):Int)) then jP (Option.bind (idx a2 s69) fun (y70:Ty.El zCx)=>Option.bind (Option.bind (zU (y70.1,(1:Int),(5:Int),())) fun (y71:Bool)=>bif !y71 then some true else bif y70.1==a3 then some true else Option.bind (zU (y70.2.1,a4,a5,())) fun (y72:Bool)=>bif !y72 then some true else Option.bind (zU (y70.2.2.1,(0:Int),(65535:Int),())) fun (y73:Bool)=>some !y73) fun (s74:Bool)=>bif s74 then some (Sum.inr (Sum.inr (Sum.inr (1:Int)))) else Option.bind (bif a3==(3:Int) then bif y70.2.2.2.2.1 !=(1:Int) then bif y70.2.2.2.2.1 !=(2:Int) then some true else bif a3 !=(3:Int) then some (y70.2.2.2.2.1 !=(0:Int)) else some false else bif a3 !=(3:Int) then some (y70.2.2.2.2.1 !=(0:Int)) else some false else bif a3 !=(3:Int) then some (y70.2.2.2.2.1 !=(0:Int)) else some false) fun (s75:Bool)=>bif s75 then some (Sum.inr (Sum.inr (Sum.inr (1:Int)))) else Option.bind (bif y70.2.2.2.1 != { data:= #[] } then Option.bind (vQ (a1,y70.2.2.2.1,())) fun (y76:Int)=>some (decide (y76< (0:Int))) else some false) fun (s77:Bool)=>bif s77 then some (Sum.inr (Sum.inr (Sum.inr (5:Int)))) else zR (fun (s78:Int)=>bif decide (s78<s69) then Option.bind (idx a2 s78) fun (y79:Ty.El zCx)=>bif y79.1==y70.1 then some (Sum.inr (Sum.inr (Sum.inr (Sum.inr (4:Int))))) else some (Sum.inl (IntKind.wrap IntKind.i64 (s78+(1:Int)))) else some (Sum.inr (Sum.inl ()))) (0:Int)) fun (s80:Unit)=>some (Sum.inl (IntKind.wrap IntKind.i64 (s69+(1:Int)))) else some (Sum.inr (Sum.inl ()))) (0:Int)) fun (s81:Unit)=>some (0:Int)
noncomputable def zAC:ElS [zG]→Option (RTy.El (.p tI)):=fun x=>match x with|(a1,())=>bif !a1.2.2.2.2.2.2.2.2.1.1 then Option.bind (bif a1.2.2.2.2.2.2.2.2.1.2.1 !=(0:Int) then some true else bif decide ((↑(List.length a1.2.2.2.2.2.2.2.2.1.2.2.1):Int)>(0:Int)) then some true else some (decide ((↑(List.length a1.2.2.2.2.2.2.2.2.1.2.2.2.1):Int)>(0:Int)))) fun (s0:Bool)=>bif s0 then some (1:Int) else some (0:Int) else Option.bind (zU (a1.2.2.2.2.2.2.2.2.1.2.1,(1:Int),(255:Int),())) fun (y1:Bool)=>bif !y1 then some (1:Int) else bif decide ((↑(List.length a1.2.2.2.2.2.2.2.2.1.2.2.1):Int)>(4:Int)) then some (7:Int) else jP (zR (fun (s63:Int)=>bif decide (s63< (↑(List.length a1.2.2.2.2.2.2.2.2.1.2.2.1):Int)) then jP (Option.bind (Option.bind (idx a1.2.2.2.2.2.2.2.2.1.2.2.1 s63) fun (y64:Ty.El zDF)=>Option.bind (zU (y64.1,(0:Int),(255:Int),())) fun (y65:Bool)=>bif !y65 then some true else Option.bind (idx a1.2.2.2.2.2.2.2.2.1.2.2.1 s63) fun (y66:Ty.El zDF)=>Option.bind (j9 (y66.2.1,())) fun (y67:Bool)=>some !y67) fun (s68:Bool)=>bif s68 then some (Sum.inr (Sum.inr (Sum.inr (1:Int)))) else zR (fun (s69:Int)=>bif decide (s69<s63) then Option.bind (Option.bind (idx a1.2.2.2.2.2.2.2.2.1.2.2.1 s69) fun (y70:Ty.El zDF)=>Option.bind (idx a1.2.2.2.2.2.2.2.2.1.2.2.1 s63) fun (y71:Ty.El zDF)=>bif y70.1==y71.1 then Option.bind (idx a1.2.2.2.2.2.2.2.2.1.2.2.1 s69) fun (y72:Ty.El zDF)=>Option.bind (idx a1.2.2.2.2.2.2.2.2.1.2.2.1 s63) fun (y73:Ty.El zDF)=>Option.bind (xK (y72.2.1,y73.2.1,())) fun (y74:Bool)=>some y74 else some false) fun (s75:Bool)=>bif s75 then some (Sum.inr (Sum.inr (Sum.inr (Sum.inr (6:Int))))) else some (Sum.inl (IntKind.wrap IntKind.i64 (s69+(1:Int)))) else some (Sum.inr (Sum.inl ()))) (0:Int)) fun (s76:Unit)=>some (Sum.inl (IntKind.wrap IntKind.i64 (s63+(1:Int)))) else some (Sum.inr (Sum.inl ()))) (0:Int)) fun (s77:Unit)=>Option.bind (jX (a1,a1.2.2.2.2.2.2.2.2.1.2.2.2.1,(3:Int),(0:Int),(16777215:Int),())) fun (y78:Int)=>some y78
noncomputable def zBg:ElS [zG]→Option (RTy.El (.p tI)):=fun x=>match x with|(a1,())=>bif !a1.2.2.2.2.2.2.2.2.2.1.1 then Option.bind (bif a1.2.2.2.2.2.2.2.2.2.1.2.1 !=(0:Int) then some true else bif a1.2.2.2.2.2.2.2.2.2.1.2.2.1 != { data:= #[] } then some true else bif a1.2.2.2.2.2.2.2.2.2.1.2.2.2.1 != { data:= #[] } then some true else some (decide ((↑(List.length a1.2.2.2.2.2.2.2.2.2.1.2.2.2.2.1):Int)>(0:Int)))) fun (s0:Bool)=>bif s0 then some (1:Int) else some (0:Int) else Option.bind (zU (a1.2.2.2.2.2.2.2.2.2.1.2.1,(1:Int),(255:Int),())) fun (y1:Bool)=>bif !y1 then some (1:Int) else Option.bind (bif a1.2.2.2.2.2.2.2.2.2.1.2.2.1 != { data:= #[] } then Option.bind (wJ (a1,a1.2.2.2.2.2.2.2.2.2.1.2.2.1,())) fun (y5:Int)=>bif decide (y5< (0:Int)) then some true else bif a1.2.2.2.2.2.2.2.2.2.1.2.2.2.1 != { data:= #[] } then Option.bind (wJ (a1,a1.2.2.2.2.2.2.2.2.2.1.2.2.2.1,())) fun (y6:Int)=>some (decide (y6< (0:Int))) else some false else bif a1.2.2.2.2.2.2.2.2.2.1.2.2.2.1 != { data:= #[] } then Option.bind (wJ (a1,a1.2.2.2.2.2.2.2.2.2.1.2.2.2.1,())) fun (y7:Int)=>some (decide (y7< (0:Int))) else some false) fun (s8:Bool)=>bif s8 then some (5:Int) else Option.bind (jX (a1,a1.2.2.2.2.2.2.2.2.2.1.2.2.2.2.1,(4:Int),(1:Int),(15:Int),())) fun (y9:Int)=>some y9
noncomputable def zAB:ElS [zG]→Option (RTy.El (.p tI)):=fun x=>match x with|(a1,())=>bif decide ((↑(List.length a1.2.2.2.2.2.2.2.2.2.2.1.2.2.2.1):Int)>(8:Int)) then some (7:Int) else jP (zR (fun (s81:Int)=>bif decide (s81< (↑(List.length a1.2.2.2.2.2.2.2.2.2.2.1.2.2.2.1):Int)) then jP (Option.bind (Option.bind (idx a1.2.2.2.2.2.2.2.2.2.2.1.2.2.2.1 s81) fun (y82:Ty.El kD)=>bif y82.1==(0:Int) then some true else Option.bind (idx a1.2.2.2.2.2.2.2.2.2.2.1.2.2.2.1 s81) fun (y83:Ty.El kD)=>Option.bind (zU (y83.2.1,(1:Int),(65535:Int),())) fun (y84:Bool)=>some !y84) fun (s85:Bool)=>bif s85 then some (Sum.inr (Sum.inr (Sum.inr (1:Int)))) else Option.bind (Option.bind (idx a1.2.2.2.2.2.2.2.2.2.2.1.2.2.2.1 s81) fun (y86:Ty.El kD)=>bif y86.2.2.1 != { data:= #[] } then Option.bind (idx a1.2.2.2.2.2.2.2.2.2.2.1.2.2.2.1 s81) fun (y87:Ty.El kD)=>Option.bind (vQ (a1,y87.2.2.1,())) fun (y88:Int)=>bif decide (y88< (0:Int)) then some true else Option.bind (idx a1.2.2.2.2.2.2.2.2.2.2.1.2.2.2.1 s81) fun (y89:Ty.El kD)=>bif y89.2.2.2.1 != { data:= #[] } then Option.bind (idx a1.2.2.2.2.2.2.2.2.2.2.1.2.2.2.1 s81) fun (y90:Ty.El kD)=>Option.bind (vQ (a1,y90.2.2.2.1,())) fun (y91:Int)=>some (decide (y91< (0:Int))) else some false else Option.bind (idx a1.2.2.2.2.2.2.2.2.2.2.1.2.2.2.1 s81) fun (y92:Ty.El kD)=>bif y92.2.2.2.1 != { data:= #[] } then Option.bind (idx a1.2.2.2.2.2.2.2.2.2.2.1.2.2.2.1 s81) fun (y93:Ty.El kD)=>Option.bind (vQ (a1,y93.2.2.2.1,())) fun (y94:Int)=>some (decide (y94< (0:Int))) else some false) fun (s95:Bool)=>bif s95 then some (Sum.inr (Sum.inr (Sum.inr (5:Int)))) else zR (fun (s96:Int)=>bif decide (s96<s81) then Option.bind (idx a1.2.2.2.2.2.2.2.2.2.2.1.2.2.2.1 s96) fun (y97:Ty.El kD)=>Option.bind (idx a1.2.2.2.2.2.2.2.2.2.2.1.2.2.2.1 s81) fun (y98:Ty.El kD)=>bif y97.1==y98.1 then some (Sum.inr (Sum.inr (Sum.inr (Sum.inr (4:Int))))) else some (Sum.inl (IntKind.wrap IntKind.i64 (s96+(1:Int)))) else some (Sum.inr (Sum.inl ()))) (0:Int)) fun (s99:Unit)=>some (Sum.inl (IntKind.wrap IntKind.i64 (s81+(1:Int)))) else some (Sum.inr (Sum.inl ()))) (0:Int)) fun (s100:Unit)=>some (0:Int)
noncomputable def uU:ElS [tPV]→Option (RTy.El (.p tI)):=fun x=>match x with|(a1,())=>bif decide ((↑(List.length a1.2.2.2.2.1):Int)>(8:Int)) then some (7:Int) else jP (zR (fun (s24:Int)=>bif decide (s24< (↑(List.length a1.2.2.2.2.1):Int)) then jP (Option.bind (idx a1.2.2.2.2.1 s24) fun (y25:Ty.El zF)=>Option.bind (j9 (y25,())) fun (y26:Bool)=>bif !y26 then some (Sum.inr (Sum.inr (Sum.inr (1:Int)))) else zR (fun (s27:Int)=>bif decide (s27<s24) then Option.bind (idx a1.2.2.2.2.1 s27) fun (y28:Ty.El zF)=>Option.bind (idx a1.2.2.2.2.1 s24) fun (y29:Ty.El zF)=>bif y28.1==y29.1&&(y28.2.1==y29.2.1&&true) then some (Sum.inr (Sum.inr (Sum.inr (Sum.inr (4:Int))))) else some (Sum.inl (IntKind.wrap IntKind.i64 (s27+(1:Int)))) else some (Sum.inr (Sum.inl ()))) (0:Int)) fun (s30:Unit)=>some (Sum.inl (IntKind.wrap IntKind.i64 (s24+(1:Int)))) else some (Sum.inr (Sum.inl ()))) (0:Int)) fun (s31:Unit)=>bif decide ((↑(List.length a1.2.2.2.2.2.1):Int)>(8:Int)) then some (7:Int) else jP (zR (fun (s56:Int)=>bif decide (s56< (↑(List.length a1.2.2.2.2.2.1):Int)) then jP (Option.bind (idx a1.2.2.2.2.2.1 s56) fun (y57:Ty.El zDE)=>Option.bind (j9 (y57.1,())) fun (y58:Bool)=>bif !y58 then some (Sum.inr (Sum.inr (Sum.inr (1:Int)))) else zR (fun (s59:Int)=>bif decide (s59<s56) then Option.bind (idx a1.2.2.2.2.2.1 s59) fun (y60:Ty.El zDE)=>Option.bind (idx a1.2.2.2.2.2.1 s56) fun (y61:Ty.El zDE)=>bif y60.1.1==y61.1.1&&(y60.1.2.1==y61.1.2.1&&true) then some (Sum.inr (Sum.inr (Sum.inr (Sum.inr (4:Int))))) else some (Sum.inl (IntKind.wrap IntKind.i64 (s59+(1:Int)))) else some (Sum.inr (Sum.inl ()))) (0:Int)) fun (s62:Unit)=>some (Sum.inl (IntKind.wrap IntKind.i64 (s56+(1:Int)))) else some (Sum.inr (Sum.inl ()))) (0:Int)) fun (s63:Unit)=>bif decide ((↑(List.length a1.2.2.2.2.2.2.1):Int)>(8:Int)) then some (7:Int) else jP (zR (fun (s109:Int)=>bif decide (s109< (↑(List.length a1.2.2.2.2.2.2.1):Int)) then jP (Option.bind (idx a1.2.2.2.2.2.2.1 s109) fun (y110:Ty.El zGI)=>Option.bind (Option.bind (j9 (y110.1,())) fun (y111:Bool)=>bif !y111 then some true else Option.bind (j9 (y110.2.1,())) fun (y112:Bool)=>some !y112) fun (s113:Bool)=>bif s113 then some (Sum.inr (Sum.inr (Sum.inr (1:Int)))) else bif y110.1.1==y110.2.1.1&&(y110.1.2.1==y110.2.1.2.1&&true) then some (Sum.inr (Sum.inr (Sum.inr (6:Int)))) else zR (fun (s114:Int)=>bif decide (s114<s109) then Option.bind (idx a1.2.2.2.2.2.2.1 s114) fun (y115:Ty.El zGI)=>bif y115.1.1==y110.1.1&&(y115.1.2.1==y110.1.2.1&&true) then some (Sum.inr (Sum.inr (Sum.inr (Sum.inr (4:Int))))) else some (Sum.inl (IntKind.wrap IntKind.i64 (s114+(1:Int)))) else some (Sum.inr (Sum.inl ()))) (0:Int)) fun (s116:Unit)=>some (Sum.inl (IntKind.wrap IntKind.i64 (s109+(1:Int)))) else some (Sum.inr (Sum.inl ()))) (0:Int)) fun (s117:Unit)=>some (0:Int)
noncomputable def xZ:ElS [zG]→Option (RTy.El (.p tI)):=fun x=>match x with|(a1,())=>bif !a1.2.2.2.2.2.2.2.2.2.2.1.1 then Option.bind (bif a1.2.2.2.2.2.2.2.2.2.2.1.2.1 !=(0:Int) then some true else bif a1.2.2.2.2.2.2.2.2.2.2.1.2.2.1 !=(0:Int) then some true else some (decide (IntKind.wrap IntKind.i64 (IntKind.wrap IntKind.i64 (IntKind.wrap IntKind.i64 (IntKind.wrap IntKind.i64 ((↑(List.length a1.2.2.2.2.2.2.2.2.2.2.1.2.2.2.1):Int)+(↑(List.length a1.2.2.2.2.2.2.2.2.2.2.1.2.2.2.2.1):Int))+(↑(List.length a1.2.2.2.2.2.2.2.2.2.2.1.2.2.2.2.2.1):Int))+(↑(List.length a1.2.2.2.2.2.2.2.2.2.2.1.2.2.2.2.2.2.1):Int))+(↑(List.length a1.2.2.2.2.2.2.2.2.2.2.1.2.2.2.2.2.2.2.1):Int))>(0:Int)))) fun (s0:Bool)=>bif s0 then some (1:Int) else some (0:Int) else Option.bind (bif a1.2.1==(0:Int) then some true else Option.bind (zU (a1.2.2.2.2.2.2.2.2.2.2.1.2.1,(1:Int),(255:Int),())) fun (y3:Bool)=>bif !y3 then some true else Option.bind (zU (a1.2.2.2.2.2.2.2.2.2.2.1.2.2.1,(1:Int),(255:Int),())) fun (y4:Bool)=>some !y4) fun (s5:Bool)=>bif s5 then some (1:Int) else Option.bind (zAB (a1,())) fun (y6:Int)=>bif y6 !=(0:Int) then some y6 else Option.bind (uU (a1.2.2.2.2.2.2.2.2.2.2.1,())) fun (y7:Int)=>bif y7 !=(0:Int) then some y7 else Option.bind (jX (a1,a1.2.2.2.2.2.2.2.2.2.2.1.2.2.2.2.2.2.2.1,(5:Int),(0:Int),(16777215:Int),())) fun (y8:Int)=>some y8
noncomputable def yR:ElS [zG]→Option (RTy.El (.p tI)):=fun x=>match x with|(a1,())=>Option.bind (zAg (a1.1,())) fun (y0:Bool)=>bif !y0 then some (3:Int) else Option.bind (zU (a1.2.1,(0:Int),(65535:Int),())) fun (y1:Bool)=>bif !y1 then some (1:Int) else Option.bind (x3 (a1.2.2.1,())) fun (y12:Int)=>Option.bind (yP (a1.2.2.2.1,())) fun (y13:Int)=>Option.bind (zAA (a1,())) fun (y14:Int)=>Option.bind (yQ (a1.2.2.2.2.2.1,())) fun (y15:Int)=>Option.bind (uT (a1,())) fun (y16:Int)=>Option.bind (zBN (a1,())) fun (y17:Int)=>Option.bind (zBM (a1,())) fun (y18:Int)=>Option.bind (zAC (a1,())) fun (y19:Int)=>Option.bind (zBg (a1,())) fun (y20:Int)=>Option.bind (xZ (a1,())) fun (y21:Int)=>jP (zR (fun (s28:Int)=>bif decide (s28< (↑(List.length [y12,y13,y14,y15,y16,y17,y18,y19,y20,y21]):Int)) then Option.bind (idx [y12,y13,y14,y15,y16,y17,y18,y19,y20,y21] s28) fun (y29:Int)=>bif y29 !=(0:Int) then Option.bind (idx [y12,y13,y14,y15,y16,y17,y18,y19,y20,y21] s28) fun (y30:Int)=>some (Sum.inr (Sum.inr y30)) else some (Sum.inl (IntKind.wrap IntKind.i64 (s28+(1:Int)))) else some (Sum.inr (Sum.inl ()))) (0:Int)) fun (s31:Unit)=>some (0:Int)
noncomputable def u7:ElS [zV]→Option (RTy.El (.p tI)):=fun x=>match x with|(a1,())=>bif decide ((↑(List.length a1.1):Int)>(8:Int)) then some (7:Int) else jP (zR (fun (s181:Int)=>bif decide (s181< (↑(List.length a1.1):Int)) then jP (Option.bind (idx a1.1 s181) fun (y182:Ty.El zG)=>Option.bind (yR (y182,())) fun (y183:Int)=>bif y183 !=(0:Int) then some (Sum.inr (Sum.inr (Sum.inr y183))) else jP (zR (fun (s184:Int)=>bif decide (s184<s181) then Option.bind (idx a1.1 s184) fun (y185:Ty.El zG)=>Option.bind (idx a1.1 s181) fun (y186:Ty.El zG)=>bif y185.1==y186.1 then some (Sum.inr (Sum.inr (Sum.inr (Sum.inr (Sum.inr (4:Int)))))) else some (Sum.inl (IntKind.wrap IntKind.i64 (s184+(1:Int)))) else some (Sum.inr (Sum.inl ()))) (0:Int)) fun (s187:Unit)=>zR (fun (s188:Int)=>Option.bind (idx a1.1 s181) fun (y189:Ty.El zG)=>bif decide (s188< (↑(List.length y189.2.2.1):Int)) then jP (Option.bind (idx a1.1 s181) fun (y190:Ty.El zG)=>Option.bind (idx y190.2.2.1 s188) fun (y191:Ty.El qQ)=>zR (fun (s192:Int)=>bif decide (s192<s181) then Option.bind (bif y191.2.2.1 !=(0:Int) then Option.bind (idx a1.1 s192) fun (y193:Ty.El zG)=>Option.bind (zAF (y193,y191.2.1,())) fun (y194:Int)=>some (decide (y194≥(0:Int))) else some false) fun (s195:Bool)=>bif s195 then some (Sum.inr (Sum.inr (Sum.inr (Sum.inr (Sum.inr (Sum.inr (4:Int))))))) else some (Sum.inl (IntKind.wrap IntKind.i64 (s192+(1:Int)))) else some (Sum.inr (Sum.inl ()))) (0:Int)) fun (s196:Unit)=>some (Sum.inl (IntKind.wrap IntKind.i64 (s188+(1:Int)))) else some (Sum.inr (Sum.inl ()))) (0:Int)) fun (s197:Unit)=>some (Sum.inl (IntKind.wrap IntKind.i64 (s181+(1:Int)))) else some (Sum.inr (Sum.inl ()))) (0:Int)) fun (s198:Unit)=>some (0:Int)
end Go.Ve

namespace Go.Ve
open Go
def zK6 (n:Nat) (t:Ty) (xs:List t.El) (ds:List V):List T:= .ot jB t xs::(ds.map .p++List.replicate (n- (ds.length+1)) (.p (.val undef)))
def zGJ {St:Type} (n:Nat) (s:St) (t:Ty) (xs:List t.El) (ds:List V):Env St:= { tm:=zK6 n t xs ds,vars:=List.replicate n none,st:=s }
def zRp {St:Type} (e:Env St) (t:Ty):Option (List t.El):=
 match e.get 0 with
 | .ot id t' ys=>match Nat.beq id jB with
  |true=>zDs t' t ys
  |false=>none
 |_=>none
def RTy.getP:(R:RTy)→RV→Option R.El
 | .p ty, .p d=>ty.dec d
 | .tu tys, .p (.tup ds)=>zCu tys ds
 |_,_=>none
section
variable {Γ:Sig} {P:Program} {G:Nat→Option (List V)}
noncomputable def zW3 (L:jG) (G:Nat→Option (List V)) (S:zQ Γ) (A:Nat→Option JA) (fn:Func) (c:Code) (t:Ty) (R:RTy) (s:Γ.St) (xs:List t.El) (ds:List V):Option (List t.El×R.El):=
 zCe (zGJ fn.ntmps s t xs ds) (fun e=>exC L G S A c (List t.El×R.El) (fun k e1 _=>match k with
  | .exit _=>none
  |_=>match zRp e1 t with
   |some ys=>match zBK L e1 fn with
    |some r=>match R.getP r with
     |some y=>zGa (Nat.beq ys.length xs.length) (some (ys,y))
     |none=>none
    |none=>none
   |none=>none) e 0)
theorem zJR (t:Ty) (x:t.El) (h:t.flat=true): ∃u,(t.enc x).toVal1=some u:=by
 have hp:=zLV t [x] h
 simp only [RV.plain,List.map_cons,List.map_nil,List.all_cons,List.all_nil,Bool.and_true] at hp
 exact Option.isSome_iff_exists.1 hp
theorem zSV {d:V} {u:Value} (h:d.toVal1=some u): ∃u',d.toVal=some u':=by
 cases d<;>first|exact ⟨u,h⟩|(simp [V.toVal1] at h)
theorem zNG: ∀ (ts:List Ty) (x:ElS ts),ts.all Ty.flat=true→(vA ts x).all (fun d=>d.toVal1.isSome)=true
 |[],_,_=>rfl
 |t::ts,x,h=>by
  simp only [List.all_cons,Bool.and_eq_true] at h
  simp only [vA,List.all_cons,Bool.and_eq_true]
  obtain ⟨u,hu⟩:=zJR t x.1 h.1
  exact ⟨by rw [hu];rfl,zNG ts x.2 h.2⟩
theorem zTS {R:RTy} (h:R.pl=true) (hno: ∀ty,R≠ .o ty) (y:R.El): ∃u,(R.val y).toVal=some u:=by
 cases R with
 |p ty=>obtain ⟨u,hu⟩:=zJR ty y h;exact zSV hu
 |o ty=>exact absurd rfl (hno ty)
 |tu tys=>
  have:=zNG tys y h
  exact ⟨_,by simp only [RTy.val,V.toVal];rw [if_pos this]⟩
theorem zRv {w:World} {F:Blk→Prop} {v:Value} {R:RTy} {d:V} {y:R.El} (h:R.getP (.p d)=some y) (hr:Rd w F v d):Rd w F v (R.val y):=by
 cases R with
 |p ty=>exact vE (t:=ty) (x:=y) h _ _ _ hr
 |o ty=>simp [RTy.getP] at h
 |tu tys=>
  cases d with
  |tup ds=>exact WkV.tup (w6 _ _ _ h) _ _ _ hr
  |_=>simp [RTy.getP] at h
theorem zTv {w0:World} {F0:Blk→Prop} {O0:kU} {a:Act} {w:World} {e:Env Γ.St} (hi:Inv Γ G w0 F0 O0 a w e) {fn:Func} {d:V} (h:zBK P e fn=some (.p d)):
  ∃v F',(results fn a.tmps).run P w= .ok v w∧Rd w F' v d:=by
 obtain ⟨F,O,β,hc,hG,hsz,hdf,ht,hv⟩:=hi
 have hvars: ∀s cs,e.var s=some cs→zL e (.v s)→qY w F β (zL e) (β.vb s) cs:=fun s cs hcs _=>hv s cs hcs
 have hrun: ∀us,(fn.results.toList.mapM (zNl a.tmps)).run P w= .ok us w→
   (results fn a.tmps).run P w= .ok (if h:us.length=1 then us[0] else .tuple us.toArray) w:=by
  intro us hus
  rw [zLf,Array.mapM_eq_mapM_toList]
  simp only [Sem.run_bind,Sem.run_map,hus,Result.andThen_ok,Sem.run_pure]
  rfl
 have hone: ∀r0,fn.results.toList=[r0]→ ∀d,zUl P e r0=some d→ ∃v F',(results fn a.tmps).run P w= .ok v w∧Rd w F' v d:=by
  intro r0 hr d hd
  obtain ⟨us,h1,h2,h3⟩:=zFB (P:=P) hvars ht [r0] [d] (by simp [zDb,hd])
  cases us with
  |nil=>simp at h2
  |cons u us=>
   cases us with
   |cons _ _=>simp at h2
   |nil=>
    have:=hrun [u] (by rw [hr];exact h1)
    exact ⟨u,_,by simpa using this,h3 0 u d rfl rfl⟩
 unfold zBK at h
 split at h
 ·rename_i t hres
  split at h
  ·cases h
  ·rename_i id k hx
   have hT:=ht t
   rw [hx] at hT
   obtain ⟨ha,cap,hvv,hrow⟩:=hT
   simp only [Option.some.injEq,RV.p.injEq] at h;subst h
   have hrun1:(results fn a.tmps).run P w= .ok (a.tmps.getD t undef) w:=by
    have:=hrun [a.tmps.getD t undef] (by rw [hres];rfl)
    simpa using this
   exact ⟨_,F,hrun1,by rw [hvv];exact .slemp _ _⟩
  ·cases h
  ·cases h
  ·simp only [Option.map_eq_some_iff] at h
   obtain ⟨d',hd,heq⟩:=h
   cases heq
   exact hone _ hres d hd
 ·rename_i r0 _ hres
  simp only [Option.map_eq_some_iff] at h
  obtain ⟨d',hd,heq⟩:=h
  cases heq
  exact hone _ hres d hd
 ·rename_i hn1 hn2
  simp only [Option.map_eq_some_iff] at h
  obtain ⟨ds,hds,heq⟩:=h
  cases heq
  obtain ⟨us,h1,h2,h3⟩:=zFB (P:=P) hvars ht _ ds hds
  have hrun2:=hrun us h1
  have hne:us.length≠1:=by
   intro hl
   have hlen: ∀ (l:List ResultVar) (ds:List V),zDb P e l=some ds→ds.length=l.length:=by
    intro l
    induction l with
    |nil=>intro ds h;simp [zDb] at h;subst h;rfl
    |cons r l ih=>
     intro ds h
     simp only [zDb] at h
     split at h
     ·rename_i d ds' hd hds
      simp only [Option.some.injEq] at h;subst h
      simp [ih ds' hds]
     ·cases h
   have:=hlen _ ds hds
   match hl':fn.results.toList with
   |[]=>rw [hl'] at this;simp only [List.length_nil] at this;omega
   |[r0]=>exact hn2 r0 hl'
   |_::_::_=>rw [hl'] at this;simp only [List.length_cons] at this;omega
  rw [dif_neg hne] at hrun2
  exact ⟨_,_,hrun2, .tup _ ds (by simpa using h2) (fun i x d hi hd=>h3 i x d (by simpa using hi) hd)⟩
theorem zUU [hsub:Subsingleton Γ.St] {S:zQ Γ} {A:Nat→Option JA} (hmix:P.follows .mixedOrders=true) (hS:z7 Γ P G S.toS) {f:FuncId} {fn:Func} {c:Code} (hf:P.funcs[f]? =some fn) (hb:fn.body=some c)
  {t:Ty} {X:Type} {dec:List V→Option X} {enc:X→List V} (hdec: ∀ds x,dec ds=some x→j5 ds (enc x)) (hnb: ∀ds x,dec ds=some x→zCc ds=none) {R:RTy} (hpl:R.pl=true) (hno: ∀ty,R≠ .o ty) {g:List t.El→X→Option (List t.El×R.El)}
  (h: ∀s xs x,zW3 (Γ:=Γ) P G S A fn c t R s xs (enc x)=g xs x):zAp Γ P G f t dec R g:=by
 intro s xs r x ys y hx hy
 refine zAZ.of (hnb r x hx) ?_
 intro w F O b v0 args hsig hG hF hown hb0 hsize ha0 hrd
 have hwk:=hdec r x hx
 have hlen':args.size=(enc x).length+1:=hsize.trans (by rw [hwk.len])
 have hrd': ∀ (i:Nat) (u:Value) (d:V),args[i+1]? =some u→(enc x)[i]? =some d→Rd w F u d:=by
  intro i u d hu hd
  have hlt:i<r.length:=by rw [hwk.len];exact (List.getElem?_eq_some_iff.1 hd).1
  exact hwk.get i r[i] d (by simp [hlt]) hd w F u (hrd i u r[i] hu (by simp [hlt]))
 have hex:=h s xs x
 rw [hy] at hex
 unfold zW3 at hex
 rw [v7] at hex
 obtain ⟨k,e',d,hok,_,hend⟩:=zJc (fun _ _ _=> .inl hsub) hmix hS c _ _ _ _ _ hex
 have hk:(k= .normal∨k= .ret)∧(match zRp e' t with
   |some ys=>match zBK (jG.of P) e' fn with
    |some r=>match R.getP r with
     |some y=>zGa (Nat.beq ys.length xs.length) (some (ys,y))
     |none=>none
    |none=>none
   |none=>none)=some (ys,y):=by
  cases k with
  |normal=>exact ⟨.inl rfl,hend⟩
  |ret=>exact ⟨.inr rfl,hend⟩
  |exit id=>cases hend
 obtain ⟨hk,hend⟩:=hk
 split at hend
 ·rename_i ys' hys
  split at hend
  ·rename_i rv hrv
   split at hend
   ·rename_i y' hy'
    obtain ⟨hlen0,hend⟩:=wZ.1 hend
    have hlen0:=Nat.eq_of_beq_eq_true hlen0
    simp only [Option.some.injEq,Prod.mk.injEq] at hend
    obtain ⟨rfl,rfl⟩:=hend
    refine calls_of_wp hf hb ?_
    have hcap: ∃cap,xs≠[]→v0= .slice (some ⟨b,0,none⟩) xs.length cap∧xs.length≤cap∧ ∃ (c:Array Value) (et:TypeId) (fl:Nat×Nat),w.heap[b]? =some (.cells c et fl)∧c.size=cap*t.size:=by
     rcases hown with ⟨h1,_⟩|⟨h1,_,cap,h2,c,et,h3,h4,h5,_⟩
     ·exact ⟨0,fun h=>absurd (by simpa using h1) h⟩
     ·exact ⟨cap,fun _=>⟨by simpa using h2,by simpa using h5,c,et,(0,0),h3,h4⟩⟩
    obtain ⟨cap,hcap⟩:=hcap
    let β:Lay:=⟨fun _=>0,fun _=>b⟩
    let al:jQ→Prop:=fun q=>q= .o jB∧xs≠[]
    let O0:kU:=⟨O,if xs=[] then none else some (b,cap*t.size)⟩
    have h0T:zP w F β al v0 (.ot jB t xs):=by
     rcases hown with ⟨h1,h2⟩|⟨h1,_,h2⟩
     ·exact .inl ⟨h1,h2⟩
     ·exact .inr ⟨h1,⟨rfl,fun hh=>h1 (by rw [hh];rfl)⟩,h2⟩
    have qR: ∀q,zP w F β al ((args++Array.replicate (fn.ntmps-args.size) undef).getD q undef) ((zGJ fn.ntmps s t xs (enc x)).get q):=by
     intro q
     simp only [zGJ,zK6,Env.get,List.getD_eq_getElem?_getD,Array.getD_eq_getD_getElem?]
     cases q with
     |zero=>
      rw [Array.getElem?_append_left (by omega),ha0]
      exact h0T
     |succ q=>
      rw [List.getElem?_cons_succ]
      by_cases ht:q< (enc x).length
      ·rw [List.getElem?_append_left (by simpa using ht),Array.getElem?_append_left (by omega)]
       rw [List.getElem?_map,List.getElem?_eq_getElem ht,Array.getElem?_eq_getElem (by omega)]
       exact hrd' q _ _ (by simp [show q+1<args.size by omega]) (by simp [ht])
      ·rw [List.getElem?_append_right (by simpa using Nat.le_of_not_lt ht),Array.getElem?_append_right (by omega),hlen']
       simp only [List.length_map]
       by_cases h2:q- (enc x).length<fn.ntmps- ((enc x).length+1)
       ·rw [List.getElem?_replicate,if_pos h2,Array.getElem?_replicate,if_pos (by omega)]
        exact Rd.val _
       ·rw [List.getElem?_replicate,if_neg h2]
        trivial
    have hnovar: ∀s0,(zGJ fn.ntmps s t xs (enc x)).var s0=none:=by
     intro s0
     simp only [zGJ,Env.var,List.getElem?_replicate]
     split<;>rfl
    have hl:xs≠[]→O0.l=some (b,cap*t.size):=fun hh=>by simp [O0,hh]
    have hinv:Inv Γ G w F O0 { tmps:=args++Array.replicate (fn.ntmps-args.size) undef,defers:=[] } w (zGJ fn.ntmps s t xs (enc x)):=by
     refine Inv.of (F:=F) (O:=O) (β:=β) (al:=al) ⟨zBX.refl _ w,hsig,fun b hb=> .inl hb,fun b hb=>⟨.inl hb,hF b hb⟩,fun b hb=>hb,?_,?_,?_⟩ hG ?_ rfl qR ?_ ?_
     ·rintro q ⟨rfl,hne⟩
      exact ⟨.inr ⟨rfl,_,hl hne⟩,hb0 hne⟩
     ·rintro q q' ⟨rfl,_⟩ ⟨rfl,_⟩ _;rfl
     ·intro b' n hb'
      by_cases hx0:xs=[]
      ·simp [O0,hx0] at hb'
      ·rw [hl hx0] at hb'
       simp only [Option.some.injEq,Prod.mk.injEq] at hb'
       obtain ⟨rfl,rfl⟩:=hb'
       obtain ⟨_,_,c,et,fl,h1,h2⟩:=hcap hx0
       exact ⟨(hb0 hx0).1,(hb0 hx0).2.2,(hb0 hx0).2.1,c,et,fl,h1,h2⟩
     ·simp [zGJ,zK6,hlen'];omega
     ·intro s0 cs hcs;rw [hnovar] at hcs;cases hcs
     ·rintro s0 ⟨hh,_⟩;cases hh
    refine wp_mono (hok w F O0 _ w hinv) ?_
    rintro ex a' w' ⟨rfl,hi'⟩
    have hdf:a'.defers=[]:=by obtain ⟨_,_,_,_,_,_,hdf,_⟩:=hi';exact hdf
    have hpd: ∃d0,rv= .p d0:=by
     cases rv with
     |p d0=>exact ⟨d0,rfl⟩
     |own es=>cases R<;>simp [RTy.getP] at hy'
     |ownT t0 xs0=>cases R<;>simp [RTy.getP] at hy'
    obtain ⟨d0,rfl⟩:=hpd
    obtain ⟨v,F1,h1,h2⟩:=zTv hi' hrv
    have h3:=zRv hy' h2
    obtain ⟨u,hu⟩:=zTS hpl hno y'
    obtain ⟨F',O',β',hc',hG',hsz',_,ht',hv'⟩:=hi'
    have hrow:=ht' 0
    have hkeep:zBX (fun c=>O c∨(xs≠[]∧c=b)) w w':=by
     refine ⟨hc'.keep.os,hc'.keep.tape,hc'.keep.output,hc'.keep.size,fun c hc ho=>hc'.keep.block c hc ?_,hc'.keep.drawn⟩
     rintro (hh|⟨n,hh⟩)
     ·exact ho (.inl hh)
     ·by_cases hx0:xs=[]
      ·simp [O0,hx0] at hh
      ·rw [hl hx0] at hh
       simp only [Option.some.injEq,Prod.mk.injEq] at hh
       exact ho (.inr ⟨hx0,hh.1.symm⟩)
    have hrow':zMw w' F' ⟨fun _=>b,fun _=>b⟩ (fun _=>True) v0 0 t.size (ys'.map t.enc):=by
     unfold zRp at hys
     split at hys
     ·rename_i id t' zs hg
      split at hys
      ·rename_i hid
       have hid:=Nat.eq_of_beq_eq_true hid
       subst hid
       obtain ⟨htt,hz⟩:=yG (yL hys)
       subst htt
       subst hz
       rw [hg] at hrow
       by_cases hx0:xs=[]
       ·subst hx0
        have hz:zs=[]:=List.eq_nil_of_length_eq_zero hlen0
        subst hz
        rcases hown with ⟨_,h2⟩|⟨h1,_⟩
        ·exact .inl ⟨rfl,h2⟩
        ·exact absurd rfl h1
       ·have hne:zs≠[]:=fun hh=>hx0 (List.eq_nil_of_length_eq_zero (by rw [←hlen0,hh];rfl))
        rcases hrow with ⟨h1,_⟩|⟨h1,hal,cap',_,c1,et1,q1,q2,q3,q4,q5⟩
        ·exact absurd (by simpa using h1) hne
        ·rcases (hc'.place _ hal).1 with ⟨hh,_⟩|⟨_,n,hh⟩
         ·exact absurd rfl hh
         ·rw [hl hx0] at hh
          simp only [Option.some.injEq,Prod.mk.injEq] at hh
          have hbb:β'.ob jB=b:=hh.1.symm
          rw [hbb] at q1
          obtain ⟨_,_,_,c2,et2,fl2,k1,k2⟩:=hc'.lent b _ (hl hx0)
          rw [q1] at k1
          simp only [Option.some.injEq,Obj.cells.injEq] at k1
          obtain ⟨rfl,_,_⟩:=k1
          obtain ⟨hv0,hle,_⟩:=hcap hx0
          refine .inr ⟨h1,trivial,cap,by rw [hv0];simp [hlen0],c1,et1,q1,k2,by rw [List.length_map,hlen0];exact hle,q4,q5⟩
      ·cases hys
     ·cases hys
    have hst:e'.st=s:=Subsingleton.elim _ _
    rcases hk with rfl|rfl
    ·exact ⟨hdf,v,h1,v,F',O',rfl,by rw [←hst];exact hc'.sig,hkeep,hc'.oin,hc'.f0,hc'.fin,zEf.of hrow' (h3.of_flat hu)⟩
    ·exact ⟨hdf,v,h1,v,F',O',rfl,by rw [←hst];exact hc'.sig,hkeep,hc'.oin,hc'.f0,hc'.fin,zEf.of hrow' (h3.of_flat hu)⟩
   ·cases hend
  ·cases hend
 ·cases hend
theorem zVc: ∀ (ts:List ATy) (ds:List V) (x:ElA ts),vX ts ds=some x→zCc ds=none
 |_,[],_,_=>rfl
 |[],_::_,_,h=>by simp [vX] at h
 |t::ts,d::ds,x,h=>by
  refine zE2 ?_
  rintro r hr
  simp only [List.cons.injEq] at hr
  obtain ⟨rfl,_⟩:=hr
  have hb:t.dec .bot=none:=by
   cases t with
   |d ty=>cases ty<;>rfl
   |pp ty=>rfl
   |clo f caps=>rfl
  simp only [vX,hb] at h
  cases h
end
end Go.Ve

namespace Go.Ve
open Go
abbrev HSt (t:Ty):=List (Option (List t.El))
structure zSd (t:Ty) (st:HSt t) (F:Blk→Prop) (O:Nat→Prop) (w:World) (hb hc:Nat→Nat):Prop where
 hdl: ∀id xs,st[id]? =some (some xs)→ ∀a n c,F (.h id a n c)↔(a=some ⟨hb id,0,none⟩∧n=xs.length∧c=hc id)
 out: ∀id,st.length≤id→ ∀a n c, ¬F (.h id a n c)
 row: ∀id xs,st[id]? =some (some xs)→xs≠[]∧O (hb id)∧z2 w (fun _=>False) (hb id) t.size (hc id) (xs.map t.enc)
 dist: ∀id id' xs xs',st[id]? =some (some xs)→st[id']? =some (some xs')→hb id=hb id'→id=id'
 own: ∀b,O b→ ∃id xs,st[id]? =some (some xs)∧hb id=b
theorem z2.same {w w':World} {F:Blk→Prop} {b k cap:Nat} {es:List V} (h:z2 w (fun _=>False) b k cap es) (hw:w'.heap[b]? =w.heap[b]?):z2 w' F b k cap es:=by
 obtain ⟨c,et,h1,h2,h3,h4,h5⟩:=h
 exact ⟨c,et,hw.trans h1,h2,h3,h4,fun i j e d x a1 a2 a3=>(h5 i j e d x a1 a2 a3).mono (fun _ h=>h.elim) (fun _ h=>h.elim)⟩
def jU (t:Ty):Sig where
 St:=HSt t
 R:=fun st F O w=> ∃hb hc,zSd t st F O w hb hc
 mono:=by
  rintro s F F' O w w' ⟨hb,hc,h⟩ hF hO
  refine ⟨hb,hc,?_,?_,?_,h.dist,h.own⟩
  ·intro id xs hx a n c;rw [hF];exact h.hdl id xs hx a n c
  ·intro id hx a n c hh;exact h.out id hx a n c ((hF id a n c).1 hh)
  ·intro id xs hx
   obtain ⟨h1,h2,h3⟩:=h.row id xs hx
   exact ⟨h1,h2,h3.same (hO _ h2)⟩
 inb:=by
  rintro s F O w ⟨hb,hc,h⟩ b hO
  obtain ⟨id,xs,h1,rfl⟩:=h.own b hO
  obtain ⟨_,_,c,et,h3,_⟩:=h.row id xs h1
  exact (Array.getElem?_eq_some_iff.1 h3).1
def zMU {t:Ty} (bytes:Nat) (st:HSt t) (q:Option (Nat×Nat)) (ys:List t.El):Option (HSt t×Option (Nat×Nat)):=
 match ys with
 |[]=>none
 |y::r=>match q with
  |none=>if (2*(y::r).length+1024)*bytes≤140737488355328 then some (st++[some (y::r)],some (st.length,(y::r).length)) else none
  |some (id,_)=>match st[id]? with
   |some (some xs)=>if (2*(xs.length+(y::r).length)+1024)*bytes≤140737488355328 then some (st.set id none++[some (xs++y::r)],some (st.length,(xs++y::r).length)) else none
   |_=>none
theorem zB0 {t:Ty} (h:t.flat=true) {x:t.El} {d:V} (hd:d∈(t.enc x).cells) {w w':World} {F F':Blk→Prop} {v:Value} (hr:Rd w F v d):Rd w' F' v d:=by
 rw [qL] at hd
 have:=xQ (zNF t x h d hd)
 rw [this] at hr ⊢
 rw [Rd.eq_val hr]
 exact .val _
theorem zUf {t:Ty} (h:t.flat=true) {w:World} {F F':Blk→Prop} {b k cap:Nat} {xs:List t.El} (hr:z2 w F b k cap (xs.map t.enc)):z2 w F' b k cap (xs.map t.enc):=by
 obtain ⟨c,et,h1,h2,h3,h4,h5⟩:=hr
 refine ⟨c,et,h1,h2,h3,h4,fun i j e d x a1 a2 a3=> ?_⟩
 simp only [List.getElem?_map,Option.map_eq_some_iff] at a1
 obtain ⟨y,hy,rfl⟩:=a1
 exact zB0 h (List.mem_of_getElem? a2) (h5 i j (t.enc y) d x (by simp [hy]) a2 a3)
theorem qR {α:Type} {st:List (Option α)} {id j:Nat} {z:α} {xs:α} (h:(st.set id none++[some z])[j]? =some (some xs)):(j=st.length∧xs=z)∨(j≠id∧j<st.length∧st[j]? =some (some xs)):=by
 by_cases hj:j<st.length
 ·rw [List.getElem?_append_left (by simpa using hj)] at h
  by_cases hid:id=j
  ·subst hid;rw [List.getElem?_set_self hj] at h;cases h
  ·rw [List.getElem?_set_ne hid] at h;exact .inr ⟨Ne.symm hid,hj,h⟩
 ·rw [List.getElem?_append_right (by simp;omega)] at h
  simp only [List.length_set] at h
  have h0:j-st.length=0:=by
   rcases Nat.eq_zero_or_pos (j-st.length) with h0|h0
   ·exact h0
   ·rw [List.getElem?_eq_none (by simp;omega)] at h;cases h
  rw [h0] at h
  simp at h
  exact .inl ⟨by omega,h.symm⟩
section
variable {t:Ty} {P:Program}
theorem zGy (hfl:t.flat=true) {st:HSt t} {F:Blk→Prop} {O:Nat→Prop} {w w':World} {hb hc:Nat→Nat} (h:zSd t st F O w hb hc) (hF: ∀b:Nat,F b→b<w.heap.size∧ ¬O b)
  {id:Nat} {zs:List t.El} (hz:zs≠[]) {blk cap:Nat} {O':Nat→Prop} (hk:zBX O w w') (hO1: ∀b,O' b↔(b=blk∨(O b∧ ∀xs,st[id]? =some (some xs)→b≠hb id)))
  (hblk:O blk∨w.heap.size≤blk) (hblt:blk<w'.heap.size) (hrow:z2 w' F blk t.size cap (zs.map t.enc))
  (hold: ∀j xs,j≠id→st[j]? =some (some xs)→hb j≠blk∧w'.heap[hb j]? =w.heap[hb j]?) (hid:id<st.length→ ∃xs,st[id]? =some (some xs)):
  zSa (jU t) w F O (.slice (some ⟨blk,0,none⟩) zs.length cap) w' (st.set id none++[some zs]) (.rf (some (st.length,zs.length))):=by
 let F':Blk→Prop:=fun b=>F b∨b= .h st.length (some ⟨blk,0,none⟩) zs.length cap
 have hOO: ∀b,O' b→O b∨w.heap.size≤b:=fun b hb0=>by
  rcases (hO1 b).1 hb0 with rfl|h1
  ·exact hblk
  ·exact .inl h1.1
 refine ⟨F',O',⟨fun j=>if j=st.length then blk else hb j,fun j=>if j=st.length then cap else hc j,?_,?_,?_,?_,?_⟩,hk,hOO,fun b hb=> .inl hb,?_, .rf _ _ _ _ (.inr rfl)⟩
 ·intro j xs hj a n c
  rcases qR hj with ⟨rfl,rfl⟩|⟨hne,hlt,hj⟩
  ·simp only [if_true,F']
   constructor
   ·rintro (hh|hh)
    ·exact absurd hh (h.out _ (Nat.le_refl _) _ _ _)
    ·cases hh;exact ⟨rfl,rfl,rfl⟩
   ·rintro ⟨rfl,rfl,rfl⟩;exact .inr rfl
  ·have hne':j≠st.length:=by omega
   simp only [if_neg hne',F']
   rw [←h.hdl j xs hj]
   constructor
   ·rintro (hh|hh)
    ·exact hh
    ·cases hh;exact absurd rfl hne'
   ·exact .inl
 ·intro j hj a n c
  simp only [List.length_append,List.length_set,List.length_singleton] at hj
  rintro (hh|hh)
  ·exact h.out j (by omega) _ _ _ hh
  ·cases hh;omega
 ·intro j xs hj
  rcases qR hj with ⟨rfl,rfl⟩|⟨hne,hlt,hj⟩
  ·simp only [if_true]
   exact ⟨hz,(hO1 _).2 (.inl rfl),zUf hfl hrow⟩
  ·have hne':j≠st.length:=by omega
   simp only [if_neg hne']
   obtain ⟨h1,h2,h3⟩:=h.row j xs hj
   refine ⟨h1,(hO1 _).2 (.inr ⟨h2,fun ys hy hh=>hne (h.dist j id xs ys hj hy hh)⟩),h3.same (hold j xs hne hj).2⟩
 ·intro j j' xs xs' hj hj' hh
  rcases qR hj with ⟨rfl,rfl⟩|⟨hne,hlt,hj1⟩<;>rcases qR hj' with ⟨rfl,rfl⟩|⟨hne',hlt',hj1'⟩
  ·rfl
  ·have h1:j'≠st.length:=by omega
   simp only [if_true,if_neg h1] at hh
   exact absurd hh.symm (hold j' xs' hne' hj1').1
  ·have h1:j≠st.length:=by omega
   simp only [if_true,if_neg h1] at hh
   exact absurd hh (hold j xs hne hj1).1
  ·have h1:j≠st.length:=by omega
   have h2:j'≠st.length:=by omega
   simp only [if_neg h1,if_neg h2] at hh
   exact h.dist j j' xs xs' hj1 hj1' hh
 ·intro b hb0
  rcases (hO1 b).1 hb0 with rfl|⟨h1,h2⟩
  ·refine ⟨st.length,zs,?_,by simp⟩
   rw [List.getElem?_append_right (by simp)];simp
  ·obtain ⟨j,xs,hj,rfl⟩:=h.own b h1
   have hlt:=(List.getElem?_eq_some_iff.1 hj).1
   have hji:j≠id:=by
    rintro rfl
    exact h2 xs hj rfl
   refine ⟨j,xs,?_,by simp [show j≠st.length by omega]⟩
   rw [List.getElem?_append_left (by simpa using hlt),List.getElem?_set_ne (Ne.symm hji)]
   exact hj
 ·intro b hb0
  rcases hb0 with hb0|hb0
  ·obtain ⟨h1,h2⟩:=hF b hb0
   refine ⟨.inl hb0,Nat.lt_of_lt_of_le h1 hk.size,fun ho=> ?_⟩
   rcases hOO b ho with ho|ho
   ·exact h2 ho
   ·omega
  ·cases hb0
theorem zV5 (hfl:t.flat=true) {bytes:Nat} {st st':HSt t} {q q':Option (Nat×Nat)} {ys:List t.El} (h:zMU bytes st q ys=some (st',q')):
  zWA (jU t) P st (.rf q) t ys bytes st' (.rf q'):=by
 intro ts ty t0 t1 el el1 info z w F O v0 v1 hts0 hts1 hu0 hu1 hinfo hz hsz hby hzc hbytes hR hF
 intro (hr0:Rd w F v0 (.rf q)) hr1
 subst hbytes
 obtain ⟨hb,hc,hR⟩:=hR
 have hk2: ∀q,q∈ys.map t.enc→q.cells.length=info.size:=by
  intro q hq
  simp only [List.mem_map] at hq
  obtain ⟨y,_,rfl⟩:=hq
  rw [jO];exact hsz
 have ho2: ∀q,q∈ys.map t.enc→q.cells.all V.one=true:=by
  intro q hq
  simp only [List.mem_map] at hq
  obtain ⟨y,_,rfl⟩:=hq
  rw [qL];exact zFS t y
 obtain ⟨a1,cap1,cells,hv1,hcap1,hl2,hrun2,hr2⟩:=zHD (P:=P) (β:=⟨id,id⟩) (al:=fun _=>False) (x:= .p (.sl (ys.map t.enc))) hr1.untl rfl hk2
 simp only [List.length_map] at hv1 hcap1 hl2 hrun2
 have hs:jA P el=some info.size:=zAx hinfo
 have hrest: ∀m,(Builtin.zeroCells z.cells m).size=m*info.size:=by
  intro m;simp only [Builtin.zeroCells,Array.size_map,Array.size_range];rw [hzc]
 unfold zMU at h
 split at h
 ·cases h
 ·rename_i y r
  have hl2':cells.length=((y::r).map t.enc).length*info.size:=by simpa using hl2
  split at h
  ·-- nil
   split at h
   ·rename_i hbound
    simp only [Option.some.injEq,Prod.mk.injEq] at h
    obtain ⟨rfl,rfl⟩:=h
    cases hr0 with
    |rfn=>
     obtain ⟨newCap,hnc,hrun⟩:=xY (P:=P) (w:=w) (ts:=ts) (ty:=ty) (len:=0) (cap:=0) (n:=(y::r).length) (cap1:=cap1) (a0:=none) (a1:=a1) (cells:=cells) (old:=[]) hts0 hts1 hu0 hu1 hinfo hz
      (by rw [←hv1];exact hrun2 w.drew rfl) (by simp [Builtin.firstCells]) (by simp) hby (by simpa using hbound)
     rw [←hv1] at hrun
     simp only [Nat.zero_add] at hnc hrun
     refine ⟨_,_,hrun,?_⟩
     have hrow:=zHL (w':=w.drew.alloc (.cells (([]:List Value).toArray++(cells.toArray++Builtin.zeroCells z.cells (newCap- (y::r).length))) el)) (F:=F) (b:=w.heap.size) (k:=info.size) (cap:=newCap) (es:=[]) (es2:=(y::r).map t.enc) (et:=el) (old:=[]) (cells:=cells)
      (by simp) hk2 (by simp) hl2' (fun i j q y hi hj=>by simp at hi) (fun i j e d hi hj=>by
       obtain ⟨x,hx,hrx⟩:=hr2 i j e d hi hj
       simp only [List.getElem?_map,Option.map_eq_some_iff] at hi
       obtain ⟨y0,_,rfl⟩:=hi
       exact ⟨x,hx,zB0 hfl (List.mem_of_getElem? hj) hrx⟩) (by simpa using hnc) (by simpa using hrest _) (xM (w:=w.drew))
     rw [List.nil_append, ←hsz] at hrow
     have hset:st.set st.length none=st:=List.set_eq_of_length_le (Nat.le_refl _)
     have:=zGy (w':=w.drew.alloc (.cells (([]:List Value).toArray++(cells.toArray++Builtin.zeroCells z.cells (newCap- (y::r).length))) el)) (O':=fun b=>b=w.heap.size∨O b) (id:=st.length) hfl hR hF (zs:=y::r) (by simp) (blk:=w.heap.size) (cap:=newCap)
      ⟨rfl,rfl,rfl,by simp,fun b hb _=>wG (w:=w.drew) hb,Nat.le_succ _⟩ (fun b=>by
       constructor
       ·rintro (rfl|hh)
        ·exact .inl rfl
        ·exact .inr ⟨hh,fun xs hx=>by simp at hx⟩
       ·rintro (rfl|hh)
        ·exact .inl rfl
        ·exact .inr hh.1) (.inr (Nat.le_refl _)) (by simp) hrow (fun j xs _ hj=>by
       have hlt:=(jU t).inb (⟨hb,hc,hR⟩:(jU t).R st F O w) _ (hR.row j xs hj).2.1
       exact ⟨by omega,wG (w:=w.drew) hlt⟩) (fun hh=>by omega)
     rw [hset] at this
     exact this
   ·cases h
  ·rename_i id n0
   split at h
   ·rename_i xs hst
    split at h
    ·rename_i hbound
     simp only [Option.some.injEq,Prod.mk.injEq] at h
     obtain ⟨rfl,rfl⟩:=h
     obtain ⟨hxne,hOid,hrow0⟩:=hR.row id xs hst
     cases hr0 with
     |rf _ a n c hh=>
      obtain ⟨rfl,rfl,rfl⟩:=(hR.hdl id xs hst _ _ _).1 hh
      obtain ⟨cc,et,g1,g2,g3,g4,g5⟩:=hrow0
      simp only [List.length_map] at g3
      rw [hsz] at g2 g4 g5
      by_cases hroom:xs.length+(y::r).length≤hc id
      ·have hfit:xs.length*info.size+(y::r).length*info.size≤cc.size:=by rw [←Nat.add_mul,g2];exact Nat.mul_le_mul_right _ hroom
       have hrun:=zEj (P:=P) (w:=w) (ts:=ts) (ty:=ty) (b:=hb id) (off:=0) (len:=xs.length) (cap:=hc id) (n:=(y::r).length) (cap1:=cap1) (a1:=a1) (cells:=cells) (c:=cc) (et:=et) hts0 hts1 hu0 hu1 hs
        (by rw [←hv1];exact hrun2 w rfl) hl2 g1 (by omega) (zN6 hl2' hk2 ho2 hr2) hroom
       rw [←hv1] at hrun
       simp only [Nat.zero_add] at hrun
       refine ⟨_,_,hrun,?_⟩
       have hlt:hb id<w.heap.size:=(Array.getElem?_eq_some_iff.1 g1).1
       have hrow:=zPy (w':=setBlk w (hb id) (.cells (qP cc (xs.length*info.size) cells) et (0,0))) (F:=F) (b:=hb id) (k:=info.size) (cap:=hc id) (es:=xs.map t.enc) (es2:=(y::r).map t.enc) (c:=cc) (et:=et) (cells:=cells)
        (by simpa using g2) g4 (fun i j e d x hi hj hx=>by
         simp only [List.getElem?_map,Option.map_eq_some_iff] at hi
         obtain ⟨y0,hy0,rfl⟩:=hi
         exact zB0 hfl (List.mem_of_getElem? hj) (g5 i j _ d x (by simp [hy0]) hj hx)) hk2 hl2' (fun i j e d hi hj=>by
         obtain ⟨x,hx,hrx⟩:=hr2 i j e d hi hj
         simp only [List.getElem?_map,Option.map_eq_some_iff] at hi
         obtain ⟨y0,_,rfl⟩:=hi
         exact ⟨x,hx,zB0 hfl (List.mem_of_getElem? hj) hrx⟩) (by simpa using hroom) (by simpa using zAf hlt)
       rw [←List.map_append, ←hsz] at hrow
       have:=zGy (w':=setBlk w (hb id) (.cells (qP cc (xs.length*info.size) cells) et (0,0))) (O':=O) (id:=id) hfl hR hF (zs:=xs++y::r) (by simp) (blk:=hb id) (cap:=hc id)
        ⟨rfl,rfl,rfl,by rw [zBl];exact Nat.le_refl _,fun b hb0 hno=>qD (fun hh=>hno (by rw [hh];exact hOid)),Nat.le_refl _⟩ (fun b=>by
         constructor
         ·intro hh
          by_cases hbb:b=hb id
          ·exact .inl hbb
          ·exact .inr ⟨hh,fun _ _=>hbb⟩
         ·rintro (rfl|hh)
          ·exact hOid
          ·exact hh.1) (.inl hOid) (by rw [zBl];exact hlt) (by rw [hsz] at hrow ⊢;exact hrow) (fun j xs' hne hj=>by
         have h1:hb j≠hb id:=fun hh=>hne (hR.dist j id xs' xs hj hst hh)
         exact ⟨h1,qD h1⟩) (fun _=>⟨xs,hst⟩)
       simpa using this
      ·obtain ⟨a0,cap0,old,hv0',hcap0,hl1,hrun1,hr1⟩:=zHD (P:=P) (w:=w) (F:=F) (β:=⟨fun _=>hb id,fun _=>hb id⟩) (al:=fun _=>True) (x:= .ow 0 info.size (xs.map t.enc)) (v:= .slice (some ⟨hb id,0,none⟩) xs.length (hc id)) (k:=info.size)
        ⟨trivial,hc id,by simp,cc,et,g1,g2,by simpa using g3,g4,fun i j e d x hi hj hx=>(g5 i j e d x hi hj hx).mono (fun _ h=>h.elim) (fun _ h=>h.elim)⟩ rfl g4
       simp only [List.length_map] at hv0' hcap0 hl1 hrun1
       have hcc:cap0=hc id:=by simp at hv0';exact hv0'.2.symm
       have haa:a0=some ⟨hb id,0,none⟩:=by simp at hv0';exact hv0'.1.symm
       subst hcc haa
       obtain ⟨newCap,hnc,hrun⟩:=xY (P:=P) (w:=w) (ts:=ts) (ty:=ty) (len:=xs.length) (cap:=hc id) (n:=(y::r).length) (cap1:=cap1) (a0:=some ⟨hb id,0,none⟩) (a1:=a1) (cells:=cells) (old:=old) hts0 hts1 hu0 hu1 hinfo hz
        (by rw [←hv1];exact hrun2 w.drew rfl) (hrun1 w.drew rfl) hroom hby hbound
       rw [←hv1] at hrun
       refine ⟨_,_,hrun,?_⟩
       have hrow:=zHL (w':=w.drew.alloc (.cells (old.toArray++(cells.toArray++Builtin.zeroCells z.cells (newCap- (xs.length+(y::r).length)))) el)) (F:=F) (b:=w.heap.size) (k:=info.size) (cap:=newCap) (es:=xs.map t.enc) (es2:=(y::r).map t.enc) (et:=el) (old:=old) (cells:=cells) (rest:=Builtin.zeroCells z.cells (newCap- (xs.length+(y::r).length)))
        g4 hk2 (by simpa using hl1) hl2' (fun i j e d hi hj=>by
         obtain ⟨x,hx,hrx⟩:=hr1 i j e d hi hj
         simp only [List.getElem?_map,Option.map_eq_some_iff] at hi
         obtain ⟨y0,_,rfl⟩:=hi
         exact ⟨x,hx,zB0 hfl (List.mem_of_getElem? hj) hrx⟩) (fun i j e d hi hj=>by
         obtain ⟨x,hx,hrx⟩:=hr2 i j e d hi hj
         simp only [List.getElem?_map,Option.map_eq_some_iff] at hi
         obtain ⟨y0,_,rfl⟩:=hi
         exact ⟨x,hx,zB0 hfl (List.mem_of_getElem? hj) hrx⟩) (by simpa using hnc) (by simpa using hrest _) (xM (w:=w.drew))
       rw [←List.map_append, ←hsz] at hrow
       have:=zGy (w':=w.drew.alloc (.cells (old.toArray++(cells.toArray++Builtin.zeroCells z.cells (newCap- (xs.length+(y::r).length)))) el)) (O':=fun b=>b=w.heap.size∨(O b∧b≠hb id)) (id:=id) hfl hR hF (zs:=xs++y::r) (by simp) (blk:=w.heap.size) (cap:=newCap)
        ⟨rfl,rfl,rfl,by simp,fun b hb _=>wG (w:=w.drew) hb,Nat.le_succ _⟩ (fun b=>by
         constructor
         ·rintro (rfl|hh)
          ·exact .inl rfl
          ·exact .inr ⟨hh.1,fun _ _=>hh.2⟩
         ·rintro (rfl|hh)
          ·exact .inl rfl
          ·exact .inr ⟨hh.1,hh.2 xs hst⟩) (.inr (Nat.le_refl _)) (by simp) (by rw [hsz] at hrow ⊢;exact hrow) (fun j xs' _ hj=>by
         have hlt:=(jU t).inb (⟨hb,hc,hR⟩:(jU t).R st F O w) _ (hR.row j xs' hj).2.1
         exact ⟨by omega,wG (w:=w.drew) hlt⟩) (fun _=>⟨xs,hst⟩)
       simpa using this
    ·cases h
   ·cases h
end
end Go.Ve

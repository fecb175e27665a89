/-
  Plain laws: stable sorting, for any elements and any comparison that goes by a key.
  Plain laws: merging by prefix, as the program does it: what merging depends on.
  Plain laws: a sorted list without its repetitions.
  Plain laws of distance-vector routing: the neighbors of an interface.
  Plain laws of distance-vector routing: a router has one interface in a domain.
  Plain laws of distance-vector routing: what a prefix list permits.
  Plain laws of distance-vector routing: who takes part, what is made of a neighbor's table.
  Plain laws of distance-vector routing: what a router receives.
  Plain laws: what a table is.
  Plain laws of distance-vector routing: tables of neighbors, finding a prefix.
  Plain laws of distance-vector routing: the owner of an address.
  Plain laws of distance-vector routing: Owner finds the neighbor with an address.
  Plain laws of distance-vector routing: where a received route comes from.
  Plain laws of distance-vector routing: the index of a prefix in a table.
  Plain laws: valid routes.
  The law as a function: law17_DistFilters.
  The sorting of routes is the one that is proved for any elements.
  Plain laws: the reference's active routes; tables compared.
  Functions out of code, part 10: typed data out of data without types, lists too.
  Contracts at one point: what a function answers at given data.
  slices.Clone: the contract over typed lists, out of three that tell nil, empty and the rest apart.
-/
import Derived.Test.YtcnlcmbchljpgaaGreatPc12
import Derived.Test.YtcnlcmbchljpgaaGreatPc11
import Derived.Test.YtcnlcmbchljpgaaGreatPc10
set_option linter.unusedVariables false
namespace Go.Ve
open Go
set_option maxRecDepth 1000000
set_option maxHeartbeats 4000000
section
variable {α κ:Type} {cmp:α×α×Unit→Option Int} {lt:α→α→Prop} {key:α→κ}
def zLu (lt:α→α→Prop) (lo i j:Nat) (xs:List α):Prop:= ∀p q x y,lo≤p→p<q→q≤i→q≠j→xs[p]? =some x→xs[q]? =some y→ ¬lt y x
theorem zSM {lo i:Nat} {xs:List α} (h:w6 lt lo i xs):zLu lt lo i i xs:=fun p q x y h0 h1 h2 h3 hx hy=>h p q x y h0 h1 (by omega) hx hy
theorem zUv (ho:Ord lt) {lo i j:Nat} {xs:List α} (h:zLu lt lo i j xs) (hj:j≤i) (hlo:lo≤j) (he:j=lo∨ ∀x y,xs[j]? =some x→xs[j-1]? =some y→ ¬lt x y):w6 lt lo (i+1) xs:=by
 intro p q x y hp0 hpq hq hx hy
 by_cases hqj:q=j
 ·subst hqj
  rcases he with he|he
  ·omega
  ·by_cases hp:p=q-1
   ·subst hp
    exact he y x hy hx
   ·have hl:=(List.getElem?_eq_some_iff.1 hy).1
    have hz:xs[q-1]? =some (xs[q-1]'(by omega)):=by simp
    exact ho.tr _ _ _ (h p (q-1) x _ hp0 (by omega) (by omega) (by omega) hx hz) (he y _ hy hz)
 ·exact h p q x y hp0 hpq (by omega) hqj hx hy
theorem zUu (ho:Ord lt) {lo i j:Nat} {xs:List α} (h:zLu lt lo i j xs) (hj:lo<j) (hji:j≤i) (hi:i<xs.length) (hlt:lt (xs[j]'(by omega)) (xs[j-1]'(by omega))):
  zLu lt lo i (j-1) ((xs.set j (xs[j-1]'(by omega))).set (j-1) (xs[j]'(by omega))):=by
 have hjl:j<xs.length:=by omega
 have a1:xs[j]? =some xs[j]:=by simp
 have a2:xs[j-1]? =some (xs[j-1]'(by omega)):=by simp
 have at': ∀m z,((xs.set j (xs[j-1]'(by omega))).set (j-1) (xs[j]'(by omega)))[m]? =some z→(m=j-1∧z=xs[j])∨(m=j∧z=xs[j-1]'(by omega))∨(m≠j∧m≠j-1∧xs[m]? =some z):=by
  intro m z hm
  by_cases e1:m=j-1
  ·subst e1
   rw [List.getElem?_set_self (by rw [List.length_set];omega)] at hm
   cases hm
   exact .inl ⟨rfl,rfl⟩
  ·rw [List.getElem?_set_ne (by omega)] at hm
   by_cases e2:m=j
   ·subst e2
    rw [List.getElem?_set_self (by omega)] at hm
    cases hm
    exact .inr (.inl ⟨rfl,rfl⟩)
   ·rw [List.getElem?_set_ne (by omega)] at hm
    exact .inr (.inr ⟨e2,e1,hm⟩)
 intro p q x y hp0 hpq hq hqj hx hy
 rcases at' q y hy with ⟨g,_⟩|⟨rfl,rfl⟩|⟨g1,g2,hy2⟩
 ·omega
 ·rcases at' p x hx with ⟨rfl,rfl⟩|⟨g,_⟩|⟨g3,g4,hx⟩
  ·exact ho.asym _ _ hlt
  ·omega
  ·exact h p (q-1) x _ hp0 (by omega) (by omega) (by omega) hx a2
 ·rcases at' p x hx with ⟨rfl,rfl⟩|⟨rfl,rfl⟩|⟨g3,g4,hx⟩
  ·exact h j q _ y (by omega) (by omega) hq g1 a1 hy2
  ·exact h (p-1) q _ y (by omega) (by omega) hq g1 a2 hy2
  ·exact h p q x y hp0 hpq hq g1 hx hy2
theorem zWk (hk:zMY lt key) {j:Nat} {xs:List α} (hj:0<j) (hjl:j<xs.length) (hlt:lt xs[j] (xs[j-1]'(by omega))):
  yZ key (j-1) (j+1) xs ((xs.set j (xs[j-1]'(by omega))).set (j-1) xs[j]):=by
 have h1:=vN hjl
 have h2:=vN (xs:=xs) (i:=j-1) (by omega)
 refine zKq hk (m:=j) (by omega) (by omega) (by omega) (by simp) (zQE (m:=j) (k:=j) hj (Nat.le_refl _) hjl rfl (fun k=>(zSV k).symm) h1 h2) ?_
 intro q r x y g1 g2 g3 g4 hx hy
 have e1:q=j-1:=by omega
 have e2:r=j:=by omega
 subst e1 e2
 rw [h2] at hx;rw [h1] at hy
 cases hx;cases hy
 exact hlt
theorem zC0 (hk:zMY lt key) (hcmp: ∀x y,Wp (cmp (x,y,())) (fun c=>c<0↔lt x y)) (xs:List α) (a b:Nat) (hab:a≤b) (hb:b≤xs.length) (hl:xs.length<1099511627776):
  Wp (x7 cmp xs ((a:Int),(b:Int),(),())) (fun r=>yZ key a b xs r.1∧w6 lt a b r.1):=by
 have ho:=hk.ord
 unfold x7
 dsimp only
 rw [zH (by omega) (by omega)]
 refine j4 (fun s:Int×List α=>yZ key a b xs s.2∧ ∃i:Nat,s.1=(i:Int)∧a+1≤i∧(i≤b∨i=a+1)∧w6 lt a i s.2) (fun s=>((b:Int) -s.1).toNat)
  ⟨yZ.refl _ _ _,a+1,by simp only;omega,Nat.le_refl _, .inr rfl,zWn⟩ ?_
 rintro ⟨s,zs⟩ ⟨hst,i,hi,hi1,hi2,hso⟩
 simp only at hi hst hso
 subst hi
 have hlen:zs.length=xs.length:=hst.len
 refine zI (fun hlt=> ?_) (fun hge=> ?_)
 ·have hlt:(i:Int)< (b:Int):=hlt
  refine zC ((show Wp _ (fun ys:List α=>yZ key a b zs ys∧w6 lt a (i+1) ys) from ?_).mono (fun ys hys=>zB (e2l ⟨⟨hst.trans hys.1,i+1,?_,by omega, .inl (by omega),hys.2⟩,?_⟩)))
  ·refine j4 (fun s:Int×List α=>yZ key a b zs s.2∧ ∃j:Nat,s.1=(j:Int)∧a≤j∧j≤i∧zLu lt a i j s.2) (fun s=>s.1.toNat) ⟨yZ.refl _ _ _,i,rfl,by omega,Nat.le_refl _,zSM hso⟩ ?_
   rintro ⟨s,ys⟩ ⟨hyst,j,hj,hja,hji,hex⟩
   simp only at hj hyst hex
   subst hj
   have hyl:ys.length=xs.length:=hyst.len.trans hlen
   refine zC ((show Wp _ (fun c:Bool×List α=>c.2=ys∧(c.1=true→a<j∧ ∀x y,ys[j]? =some x→ys[j-1]? =some y→lt x y)∧(c.1=false→j=a∨ ∀x y,ys[j]? =some x→ys[j-1]? =some y→ ¬lt x y)) from ?_).mono ?_)
   ·refine zI (fun hj0=> ?_) (fun hj0=>zB ⟨rfl,(fun h=>by cases h),fun _=> .inl ?_⟩)
    ·have hj0:(j:Int)>(a:Int):=hj0
     have hy1:=vN (xs:=ys) (i:=j) (by omega)
     have hy2:=vN (xs:=ys) (i:=j-1) (by omega)
     dsimp only
     rw [zH (by omega) (by omega),show ((j:Int) -1)=((j-1:Nat):Int) by omega]
     simp only [zJ hy1,zJ hy2,Int.toNat_natCast,vO hy1,vO hy2,Option.bind_some]
     refine zC ((hcmp _ _).mono (fun c hc=>zB ⟨rfl,(fun h=>⟨by omega,?_⟩),fun h=> .inr ?_⟩))
     ·intro x y hx hy
      rw [hy1] at hx;rw [hy2] at hy
      cases hx;cases hy
      exact hc.1 (of_decide_eq_true h)
     ·intro x y hx hy
      rw [hy1] at hx;rw [hy2] at hy
      cases hx;cases hy
      exact fun hh=>(of_decide_eq_false h) (hc.2 hh)
    ·have hj0: ¬(j:Int)>(a:Int):=hj0
     omega
   ·rintro ⟨c,ws⟩ ⟨hw,ht,hf⟩
    simp only at hw ht hf
    subst hw
    refine zF (fun hb'=> ?_) (fun hb'=>zB (e2r ⟨hyst,zUv ho hex hji hja (hf hb')⟩))
    obtain ⟨hj0,hlt2⟩:=ht hb'
    have hy1:=vN (xs:=ws) (i:=j) (by omega)
    have hy2:=vN (xs:=ws) (i:=j-1) (by omega)
    have hy3:(ws.set j (ws[j-1]'(by omega)))[j-1]? =some (ws[j-1]'(by omega)):=by
     rw [List.getElem?_set_ne (by omega)];exact hy2
    dsimp only
    rw [zH (by omega) (by omega),show ((j:Int) -1)=((j-1:Nat):Int) by omega]
    simp only [zJ hy1,zJ hy2,Int.toNat_natCast,vO hy1,vO hy2,Option.bind_some,zJ hy3,vO hy3]
    refine zB (e2l ⟨⟨hyst.trans ((zWk hk (by omega) (by omega) (hlt2 _ _ hy1 hy2)).mono (by omega) (by omega)),j-1,rfl,by omega,by omega,zUu ho hex hj0 hji (by omega) (hlt2 _ _ hy1 hy2)⟩,?_⟩)
    simp only;omega
  ·simp only;rw [zH (by omega) (by omega)];omega
  ·simp only;rw [zH (by omega) (by omega)];omega
 ·have hge: ¬(i:Int)< (b:Int):=hge
  exact zAD (zF (fun _=>zB (e2r ⟨hst,hso.sub (Nat.le_refl _) (by omega)⟩)) (fun h=>absurd h (by rw [zF8 hlen];decide)))
def zSm (lt:α→α→Prop) (bs n:Nat) (xs:List α):Prop:= ∀j,w6 lt (j*bs) (min ((j+1)*bs) n) xs
theorem zRn (hk:zMY lt key) (hcmp: ∀x y,Wp (cmp (x,y,())) (fun c=>c<0↔lt x y)) (xs:List α) (hl:xs.length≤1048576):
  Wp (zKe cmp xs ((xs.length:Int),(),())) (fun r=>yZ key 0 xs.length xs r.1∧w6 lt 0 xs.length r.1):=by
 unfold zKe
 dsimp only
 generalize hn:xs.length=n at hl
 refine zC ((show Wp _ (fun s:List α×Int=>yZ key 0 n xs s.1∧ ∃t:Nat,s.2=((20*t:Nat):Int)∧20*t≤n∧n<20*t+20∧ ∀j,j<t→w6 lt (j*20) ((j+1)*20) s.1) from ?_).mono ?_)
 ·refine j4 (fun s:Int×List α×Int=>yZ key 0 n xs s.2.1∧ ∃t:Nat,s.1=((20*t+20:Nat):Int)∧s.2.2=((20*t:Nat):Int)∧20*t≤n∧ ∀j,j<t→w6 lt (j*20) ((j+1)*20) s.2.1) (fun s=>((n:Int)+20-s.1).toNat)
   ⟨yZ.refl _ _ _,0,rfl,rfl,Nat.zero_le _,fun j hj=>by omega⟩ ?_
  rintro ⟨sb,zs,sa⟩ ⟨hst,t,hsb,hsa,htn,hbl⟩
  simp only at hsb hsa hst hbl
  subst hsb hsa
  have hzl:=hst.len
  refine zI (fun h=> ?_) (fun h=>zB (e2r ⟨hst,t,rfl,htn,?_,hbl⟩))
  ·have h:((20*t+20:Nat):Int)≤(n:Int):=h
   refine zF (fun _=> ?_) (fun h=>absurd h (by rw [Nat.beq_refl];decide))
   refine zC ((zC0 hk hcmp zs (20*t) (20*t+20) (by omega) (by omega) (by omega)).mono (fun y hy=>zB (e2l ⟨⟨hst.trans (hy.1.mono (by omega) (by omega)),t+1,?_,?_,by omega,?_⟩,?_⟩)))
   ·simp only;rw [zH (by omega) (by omega)];omega
   ·simp only;omega
   ·intro j hj
    by_cases e:j=t
    ·subst e
     rw [show j*20=20*j by omega,show (j+1)*20=20*j+20 by omega]
     exact hy.2
    ·exact (hbl j (by omega)).out hy.1 (.inl (by omega))
   ·simp only;rw [zH (by omega) (by omega)];omega
  ·have h: ¬((20*t+20:Nat):Int)≤(n:Int):=h
   omega
 rintro ⟨zs,sa⟩ ⟨hst,t,hsa,htn,htn2,hbl⟩
 simp only at hsa hst hbl
 subst hsa
 have hzl:=hst.len
 refine zF (fun _=> ?_) (fun h=>absurd h (by rw [Nat.beq_refl];decide))
 refine zC ((zC0 hk hcmp zs (20*t) n htn (by omega) (by omega)).mono (fun y hy=> ?_))
 have hB:zSm lt 20 n y.1:=by
  intro j
  by_cases e:j<t
  ·rw [Nat.min_eq_left (by omega)]
   exact (hbl j e).out hy.1 (.inl (by omega))
  ·by_cases e2:j=t
   ·subst e2
    refine hy.2.sub (by omega) (Nat.min_le_right _ _)
   ·intro p q x y' h1 h2 h3
    omega
 have hst2:yZ key 0 n xs y.1:=hst.trans (hy.1.mono (by omega) (Nat.le_refl _))
 refine j4 (fun s:Int×List α=>yZ key 0 n xs s.2∧ ∃bs:Nat,s.1=(bs:Int)∧20≤bs∧bs≤2097152∧zSm lt bs n s.2) (fun s=>((n:Int) -s.1).toNat) ⟨hst2,20,rfl,Nat.le_refl _,by omega,hB⟩ ?_
 rintro ⟨sbs,ws⟩ ⟨hw,bs,hbs,hbs1,hbs2,hbl2⟩
 simp only at hbs hw hbl2
 subst hbs
 have hwl:=hw.len
 refine zI (fun h=> ?_) (fun h=> ?_)
 ·have h:(bs:Int)< (n:Int):=h
  dsimp only
  rw [zH (x:=(2:Int)*(bs:Int)) (by omega) (by omega)]
  refine zC ((show Wp _ (fun s:Int×List α=>yZ key 0 n ws s.2∧ ∃t:Nat,s.1=((t*(2*bs):Nat):Int)∧t*(2*bs)≤n∧n< (t+1)*(2*bs)∧(∀j,j<t→w6 lt (j*(2*bs)) ((j+1)*(2*bs)) s.2)∧ ∀j,2*t≤j→w6 lt (j*bs) (min ((j+1)*bs) n) s.2) from ?_).mono ?_)
  ·refine j4 (fun s:Int×List α×Int=>yZ key 0 n ws s.2.1∧ ∃t:Nat,s.1=(((t+1)*(2*bs):Nat):Int)∧s.2.2=((t*(2*bs):Nat):Int)∧t*(2*bs)≤n∧(∀j,j<t→w6 lt (j*(2*bs)) ((j+1)*(2*bs)) s.2.1)∧ ∀j,2*t≤j→w6 lt (j*bs) (min ((j+1)*bs) n) s.2.1) (fun s=>((n:Int)+2*(bs:Int) -s.1).toNat)
    ⟨yZ.refl _ _ _,0,by simp only;omega,by simp,by omega,fun j hj=>by omega,fun j _=>hbl2 j⟩ ?_
   rintro ⟨sb,vs,sa⟩ ⟨hv,t,hsb,hsa,htn',hb1,hb2⟩
   simp only at hsb hsa hv hb1 hb2
   subst hsb hsa
   have hvl:vs.length=n:=by rw [hv.len,hwl,hn]
   have eT:(t+1)*(2*bs)=t*(2*bs)+2*bs:=Nat.succ_mul _ _
   have eA:2*t*bs=t*(2*bs):=by rw [Nat.mul_comm 2 t,Nat.mul_assoc]
   have eB:(2*t+1)*bs=t*(2*bs)+bs:=by rw [Nat.succ_mul,eA]
   have eC:(2*t+2)*bs=t*(2*bs)+2*bs:=by rw [show 2*t+2=(2*t+1)+1 from rfl,Nat.succ_mul,eB];omega
   generalize hA:t*(2*bs)=A at*
   refine zI (fun h2=> ?_) (fun h2=>zB (e2r ⟨hv,t,by rw [hA],by rw [hA];exact htn',?_,hb1,hb2⟩))
   ·have h2:(((t+1)*(2*bs):Nat):Int)≤(n:Int):=h2
    rw [eT] at h2 ⊢
    refine zF (fun _=> ?_) (fun h=>absurd h (by rw [Nat.beq_refl];decide))
    dsimp only
    rw [zH (x:=(A:Int)+(bs:Int)) (by omega) (by omega),show ((A:Int)+(bs:Int))=((A+bs:Nat):Int) by omega]
    have s1:=hb2 (2*t) (Nat.le_refl _)
    have s2:=hb2 (2*t+1) (by omega)
    rw [show 2*t+1+1=2*t+2 from rfl,eC,eB,Nat.min_eq_left (by omega)] at s2
    rw [eB,eA,Nat.min_eq_left (by omega)] at s1
    unfold zET
    refine zC ((zEU hk hcmp 1048576 vs A (A+bs) (A+2*bs) (by omega) (by omega) (by omega) (by omega) (by omega) s1 s2).mono (fun y hy=>zB (e2l ⟨⟨hv.trans (hy.1.mono (by omega) (by omega)),t+1,?_,?_,?_,?_,?_⟩,?_⟩)))
    ·simp only
     rw [zH (by omega) (by omega),show (t+1+1)*(2*bs)=A+2*bs+2*bs by rw [Nat.succ_mul,eT]]
     omega
    ·simp only;rw [eT]
    ·rw [eT];omega
    ·intro j hj
     by_cases e:j=t
     ·subst e
      rw [hA,eT]
      exact hy.2
     ·refine (hb1 j (by omega)).out hy.1 (.inl ?_)
      have:(j+1)*(2*bs)≤t*(2*bs):=Nat.mul_le_mul_right _ (by omega)
      omega
    ·intro j hj
     refine (hb2 j (by omega)).out hy.1 (.inr ?_)
     have:(2*t+2)*bs≤j*bs:=Nat.mul_le_mul_right _ (by omega)
     omega
    ·simp only
     rw [zH (by omega) (by omega)]
     omega
   ·have h2: ¬(((t+1)*(2*bs):Nat):Int)≤(n:Int):=h2
    omega
  rintro ⟨sa,vs⟩ ⟨hv,t,hsa,ht1,ht2,hb1,hb2⟩
  simp only at hsa hv hb1 hb2
  subst hsa
  have hvl:vs.length=n:=by rw [hv.len,hwl,hn]
  have eT:(t+1)*(2*bs)=t*(2*bs)+2*bs:=Nat.succ_mul _ _
  have eA:2*t*bs=t*(2*bs):=by rw [Nat.mul_comm 2 t,Nat.mul_assoc]
  have eB:(2*t+1)*bs=t*(2*bs)+bs:=by rw [Nat.succ_mul,eA]
  have eC:(2*t+2)*bs=t*(2*bs)+2*bs:=by rw [show 2*t+2=(2*t+1)+1 from rfl,Nat.succ_mul,eB];omega
  have s1:=hb2 (2*t) (Nat.le_refl _)
  have s2:=hb2 (2*t+1) (by omega)
  rw [show 2*t+1+1=2*t+2 from rfl,eC,eB,Nat.min_eq_right (by omega)] at s2
  rw [eB,eA] at s1
  have hbelow: ∀j,j<t→(j+1)*(2*bs)≤t*(2*bs):=fun j hj=>Nat.mul_le_mul_right _ (by omega)
  have habove: ∀j,t<j→t*(2*bs)+2*bs≤j*(2*bs):=fun j hj=>by rw [←eT];exact Nat.mul_le_mul_right _ (by omega)
  generalize hA:t*(2*bs)=A at*
  have fin: ∀us,yZ key A n vs us→w6 lt A n us→yZ key 0 n xs us∧zSm lt (bs*2) n us:=by
   intro us hu1 hu2
   refine ⟨(hw.trans hv).trans (hu1.mono (by omega) (Nat.le_refl _)),?_⟩
   intro j
   rw [show bs*2=2*bs by omega]
   by_cases e:j<t
   ·have:=hbelow j e
    rw [Nat.min_eq_left (by omega)]
    exact (hb1 j e).out hu1 (.inl this)
   ·by_cases e2:j=t
    ·subst e2
     rw [hA,eT,Nat.min_eq_right (by omega)]
     exact hu2
    ·have:=habove j (by omega)
     intro p q x y' h1 h2 h3
     omega
  dsimp only
  rw [zH (x:=(A:Int)+(bs:Int)) (by omega) (by omega),show ((A:Int)+(bs:Int))=((A+bs:Nat):Int) by omega]
  refine zC ((show Wp _ (fun us:List α=>yZ key 0 n xs us∧zSm lt (bs*2) n us) from ?_).mono (fun us hus=>zB (e2l ⟨⟨hus.1,bs*2,?_,by omega,by omega,hus.2⟩,?_⟩)))
  ·refine zI (fun h2=> ?_) (fun h2=>zB (fin vs (yZ.refl _ _ _) ?_))
   ·have h2:((A+bs:Nat):Int)< (n:Int):=h2
    rw [Nat.min_eq_left (by omega)] at s1
    refine zF (fun _=> ?_) (fun h=>absurd h (by rw [Nat.beq_refl];decide))
    unfold zET
    exact zC ((zEU hk hcmp 1048576 vs A (A+bs) n (by omega) (by omega) (by omega) (by omega) (by omega) s1 s2).mono (fun y hy=>zB (fin _ hy.1 hy.2)))
   ·have h2: ¬((A+bs:Nat):Int)< (n:Int):=h2
    rw [Nat.min_eq_right (by omega)] at s1
    exact s1
  ·simp only;rw [zH (by omega) (by omega)];omega
  ·simp only;rw [zH (by omega) (by omega)];omega
 ·have h: ¬(bs:Int)< (n:Int):=h
  refine zAD (zF (fun _=>zB (e2r ⟨hw,?_⟩)) (fun h=>absurd h (by simp only;rw [hwl,hn,Nat.beq_refl];decide)))
  have:=hbl2 0
  rw [Nat.zero_mul,Nat.zero_add,Nat.one_mul,Nat.min_eq_right (by omega)] at this
  exact this
theorem zLC (hk:zMY lt key) (hcmp: ∀x y,Wp (cmp (x,y,())) (fun c=>c<0↔lt x y)) (xs:List α) (hl:xs.length≤1048576):
  Wp (zEh cmp xs ((),())) (fun r=>r.1.length=xs.length∧zGr key xs r.1∧r.1.Pairwise (fun x y=> ¬lt y x)):=by
 unfold zEh
 dsimp only
 refine zF (fun _=> ?_) (fun h=>absurd h (by rw [Nat.beq_refl];decide))
 refine zC ((zRn hk hcmp xs hl).mono (fun y hy=> ?_))
 refine zF (fun _=>zB ⟨hy.1.len,hy.1.same,?_⟩) (fun h=>absurd h (by rw [zF8 hy.1.len];decide))
 rw [List.pairwise_iff_getElem]
 intro p q hp hq hpq
 have:=hy.1.len
 have hq:q<y.1.length:=hq
 exact hy.2 p q _ _ (Nat.zero_le _) hpq (by omega) (by simp) (by simp)
end
end Go.Ve

namespace Go.Ve
open Go
set_option maxRecDepth 1000000
set_option maxHeartbeats 4000000
theorem zHI: ∀ (more acc:List (Ty.El qS)),acc.Pairwise hlt→(more.foldl zGc acc).Pairwise hlt∧ ∀h,h∈more.foldl zGc acc↔h∈acc∨h∈more
 |[],acc,hp=>⟨hp,fun h=>by simp⟩
 |x::more,acc,hp=>by
  have heq: ∀a b:Ty.El qS,zQf a b=true↔a=b:=fun a b=>⟨fun h=>zFF h,fun h=>by subst h;simp [zQf]⟩
  have h1:(zGc acc x).Pairwise hlt:=zHm zKZ (fun _ _=>zYq) heq (fun a b h1 h2=>zYp h1 (fun e=>h2 e.symm)) hp
  obtain ⟨h2,h3⟩:=zHI more (zGc acc x) h1
  refine ⟨h2,fun h=> ?_⟩
  rw [List.foldl_cons,h3 h,show (h∈zGc acc x↔h∈acc∨h=x) from zKW heq,List.mem_cons,or_assoc]
theorem zKX {p:Ty.El zG} {b:Ty.El zA} : ∀ (l:List (Ty.El zA)) (acc:List (Ty.El qS)),acc.Pairwise hlt→
  (l.foldl (x8 p b) acc).Pairwise hlt∧ ∀h,h∈l.foldl (x8 p b) acc↔h∈acc∨ ∃x,x∈l∧x.1=p∧zB7 x b=0∧h∈x.2.2.2.2.2.2.2.2.2.2.2.1
 |[],acc,hp=>⟨hp,fun h=>by simp⟩
 |x::l,acc,hp=>by
  cases hc:j6 x.1 p&&(zB7 x b==0) with
  |true=>
   have hs:x8 p b acc x=x.2.2.2.2.2.2.2.2.2.2.2.1.foldl zGc acc:=by unfold x8;rw [hc];rfl
   have hc2:x.1=p∧zB7 x b=0:=by
    rw [Bool.and_eq_true] at hc
    exact ⟨zDK.1 hc.1,by simpa using hc.2⟩
   obtain ⟨h1,h2⟩:=zHI x.2.2.2.2.2.2.2.2.2.2.2.1 acc hp
   rw [←hs] at h1 h2
   obtain ⟨h3,h4⟩:=zKX l (x8 p b acc x) h1
   refine ⟨h3,fun h=> ?_⟩
   rw [List.foldl_cons,h4 h,h2 h]
   constructor
   ·rintro ((h|h)|⟨y,hy,g⟩)
    ·exact .inl h
    ·exact .inr ⟨x,by simp,hc2.1,hc2.2,h⟩
    ·exact .inr ⟨y,List.mem_cons_of_mem _ hy,g⟩
   ·rintro (h|⟨y,hy,g⟩)
    ·exact .inl (.inl h)
    ·rcases List.mem_cons.1 hy with rfl|hy
     ·exact .inl (.inr g.2.2)
     ·exact .inr ⟨y,hy,g⟩
  |false=>
   have hs:x8 p b acc x=acc:=by unfold x8;rw [hc];rfl
   have hc2: ¬(x.1=p∧zB7 x b=0):=by
    rintro ⟨h1,h2⟩
    rw [zDK.2 h1,h2] at hc
    cases hc
   obtain ⟨h3,h4⟩:=zKX l acc hp
   rw [List.foldl_cons,hs]
   refine ⟨h3,fun h=> ?_⟩
   rw [h4 h]
   constructor
   ·rintro (h|⟨y,hy,g⟩)
    ·exact .inl h
    ·exact .inr ⟨y,List.mem_cons_of_mem _ hy,g⟩
   ·rintro (h|⟨y,hy,g⟩)
    ·exact .inl h
    ·rcases List.mem_cons.1 hy with rfl|hy
     ·exact absurd ⟨g.1,g.2.1⟩ hc2
     ·exact .inr ⟨y,hy,g⟩
theorem zAU (l:List (Ty.El zA)) (p:Ty.El zG) (b:Ty.El zA):(zEI l p b).Pairwise hlt:=(zKX l [] List.Pairwise.nil).1
theorem zDP (l:List (Ty.El zA)) (p:Ty.El zG) (b:Ty.El zA) (h:Ty.El qS):h∈zEI l p b↔ ∃x,x∈l∧x.1=p∧zB7 x b=0∧h∈x.2.2.2.2.2.2.2.2.2.2.2.1:=by
 have:=(zKX (p:=p) (b:=b) l [] List.Pairwise.nil).2 h
 rw [show zEI l p b=l.foldl (x8 p b) [] from rfl,this]
 simp
noncomputable def zAz (p:Ty.El zG) (l:List (Ty.El zA)):List (Ty.El zA):=zL3 (fun x:Ty.El zA=>x.1) p l
theorem zUK (p:Ty.El zG) (x:Ty.El zA) (l:List (Ty.El zA)):zAz p (x::l)=if x.1=p then x::zAz p l else zAz p l:=by
 unfold zAz zL3
 rw [List.filter_cons]
 by_cases h:x.1=p
 ·simp [h]
 ·simp [h]
theorem zDm {p:Ty.El zG} {x:Ty.El zA} {l:List (Ty.El zA)} :x∈zAz p l↔x∈l∧x.1=p:=by
 unfold zAz zL3
 rw [List.mem_filter]
 simp
def zLo (c:Option (Ty.El zA)) (l:List (Ty.El zA)):Option (Ty.El zA):=l.foldl (fun c x=>bif zVp x c then some x else c) c
theorem zDY {p:Ty.El zG} : ∀ (l:List (Ty.El zA)) (c:Option (Ty.El zA)),l.foldl (zMV p) c=zLo c (zAz p l)
 |[],c=>rfl
 |x::l,c=>by
  rw [List.foldl_cons,zUK]
  by_cases h:x.1=p
  ·rw [if_pos h]
   have hb:zMV p c x=bif zVp x c then some x else c:=by unfold zMV;rw [zDK.2 h];rfl
   rw [hb,zDY l]
   rfl
  ·rw [if_neg h]
   have hp:j6 x.1 p=false:=by
    rw [Bool.eq_false_iff]
    exact fun hh=>h (zDK.1 hh)
   have hb:zMV p c x=c:=by unfold zMV;rw [hp];rfl
   rw [hb,zDY l]
theorem zDZ (l:List (Ty.El zA)) (p:Ty.El zG):zD0 l p=zLo none (zAz p l):=zDY l none
theorem zTd {l l':List (Ty.El zA)} (h:zGr (fun x:Ty.El zA=>x.1) l l'):zBa l=zBa l':=by
 have hm: ∀x,x∈l↔x∈l':=by
  intro x
  have h1:= @zDm x.1 x l
  have h2:= @zDm x.1 x l'
  have h3:zAz x.1 l=zAz x.1 l':=h x.1
  rw [h3] at h1
  constructor
  ·intro hx;exact (h2.1 (h1.2 ⟨hx,rfl⟩)).1
  ·intro hx;exact (h1.1 (h2.2 ⟨hx,rfl⟩)).1
 have hP:zS1 l=zS1 l':=zDj zHX (zG8 l) (zG8 l') (fun p=>by
  rw [zKy,zKy]
  exact ⟨fun ⟨x,hx,e⟩=>⟨x,(hm x).1 hx,e⟩,fun ⟨x,hx,e⟩=>⟨x,(hm x).2 hx,e⟩⟩)
 unfold zBa
 rw [hP]
 congr 1
 funext p
 unfold mrg
 have hb:zD0 l p=zD0 l' p:=by
  rw [zDZ,zDZ]
  exact congrArg (zLo none) (h p)
 rw [hb]
 cases zD0 l' p with
 |none=>rfl
 |some b=>
  have hh:zEI l p b=zEI l' p b:=zDj zKZ (zAU _ _ _) (zAU _ _ _) (fun h'=>by
   rw [zDP,zDP]
   exact ⟨fun ⟨x,hx,e⟩=>⟨x,(hm x).1 hx,e⟩,fun ⟨x,hx,e⟩=>⟨x,(hm x).2 hx,e⟩⟩)
  rw [Option.map_some,Option.map_some,hh]
end Go.Ve

namespace Go.Ve
open Go
def vJ {α:Type} (eq:α→α→Bool):List α→List α
 |[]=>[]
 |[x]=>[x]
 |x::y::r=>bif eq x y then vJ eq (y::r) else x::vJ eq (y::r)
theorem zDh {α:Type} {eq:α→α→Bool} (he: ∀x y,eq x y=true↔x=y) (z:α): ∀ (l:List α),z∈vJ eq l↔z∈l
 |[]=>Iff.rfl
 |[x]=>Iff.rfl
 |x::y::r=>by
  simp only [vJ]
  cases h:eq x y with
  |true=>
   rw [cond_true,zDh he z (y::r),(he x y).1 h]
   simp
  |false=>
   rw [cond_false,List.mem_cons,zDh he z (y::r),List.mem_cons (a:=z) (b:=x)]
theorem zGq {α:Type} {eq:α→α→Bool} {R:α→α→Prop} (he: ∀x y,eq x y=true↔x=y) (ho:Ord R) (htot: ∀x y, ¬R y x→x≠y→R x y): ∀ (l:List α),l.Pairwise (fun x y=> ¬R y x)→(vJ eq l).Pairwise R
 |[],_=>List.Pairwise.nil
 |[x],_=>List.pairwise_singleton _ _
 |x::y::r,hp=>by
  have hp2:=hp
  rw [List.pairwise_cons] at hp
  have ih:=zGq he ho htot (y::r) hp.2
  simp only [vJ]
  cases h:eq x y with
  |true=>exact ih
  |false=>
   rw [cond_false,List.pairwise_cons]
   refine ⟨fun z hz=> ?_,ih⟩
   have hne:x≠y:=fun e=>by rw [(he x y).2 e] at h;cases h
   have hxy:R x y:=htot x y (hp.1 y (by simp)) hne
   have hz2:=(zDh he z (y::r)).1 hz
   rcases List.mem_cons.1 hz2 with rfl|hz3
   ·exact hxy
   ·have hyz: ¬R z y:=by
     have:=hp.2
     rw [List.pairwise_cons] at this
     exact this.1 z hz3
    exact Classical.byContradiction (fun hn=>ho.tr y z x hyz hn hxy)
theorem zOZ (a b:Ty.El qS):zQf a b=true↔a=b:=⟨fun h=>zFF h,fun h=>by subst h;simp [zQf]⟩
theorem zRQ {l:List (Ty.El zA)} {p:Ty.El zG} {b:Ty.El zA} {hs:List (Ty.El qS)} (hp:hs.Pairwise (fun x y=> ¬hlt y x)) (hm: ∀h,h∈hs↔ ∃x,x∈l∧x.1=p∧zB7 x b=0∧h∈x.2.2.2.2.2.2.2.2.2.2.2.1):
  vJ zQf hs=zEI l p b:=
 zDj zKZ (zGq zOZ zKZ (fun _ _ h1 h2=>zYp h1 h2) hs hp) (zAU l p b) (fun h=>by rw [zDh zOZ,hm,zDP])
end Go.Ve

namespace Go.Ve
open Go
theorem zTv {α:Type} {p:α→Bool} {xs:List α} {i:Nat} {x:α} (h:xs[i]? =some x):(xs.take (i+1)).filter p=(xs.take i).filter p++(if p x then [x] else []):=by
 obtain ⟨hi,he⟩:=List.getElem?_eq_some_iff.1 h
 rw [List.take_add_one,h,List.filter_append]
 simp only [Option.toList_some,List.filter_cons,List.filter_nil]
theorem zNt {α:Type} {p:α→Bool} {xs:List α} (i:Nat):((xs.take i).filter p).length≤xs.length:=
 Nat.le_trans (List.length_filter_le _ _) (List.length_take_le' _ _)
def zCU (v:Ty.El zO) (r i:Int):List (Ty.El zQ):=match v.2.1.1[(yI v r i).toNat]? with
 |some d=>d.2.2.1
 |none=>[]
def zNq (v:Ty.El zO) (r i:Int) (p:Ty.El zQ→Bool):List (Ty.El zQ):=bif upB v r i then (zCU v r i).filter p else []
theorem zTL {v:Ty.El zO} {r i:Int} (h:upB v r i=true): ∃d,v.2.1.1[(yI v r i).toNat]? =some d∧0≤yI v r i∧zCU v r i=d.2.2.1:=by
 unfold upB at h
 simp only [Bool.and_eq_true,decide_eq_true_eq] at h
 obtain ⟨d,hd,_⟩:=zFY (p:=fun d:Ty.El zAg=>d.2.2.1.any (zHt (r,i,()))) (xs:=v.2.1.1) h.1
 refine ⟨d,hd,h.1,?_⟩
 unfold zCU
 have hd':v.2.1.1[(yI v r i).toNat]? =some d:=hd
 rw [hd']
theorem zTF {v:Ty.El zO} (hv:zAC v) (r i:Int):(zCU v r i).length≤360:=by
 unfold zCU
 split
 ·rename_i d hd
  exact hv.ends d (List.mem_of_getElem? hd)
 ·exact Nat.zero_le _
theorem zIg (v:Ty.El zO) (r i:Int) (hv:zAC v):Wp (zBt (v,r,i,())) (fun l=>l=zNq v r i (fun e=>e.1 !=r||e.2.1 !=i)):=by
 unfold zBt zNq
 dsimp only
 refine zC ((zFv v r i hv).mono (fun b hb=> ?_))
 subst hb
 refine zF (fun h=>zB ?_) (fun h=> ?_)
 ·have h:upB v r i=false:=by simpa using h
  rw [h];rfl
 ·have h:upB v r i=true:=by simpa using h
  rw [h]
  obtain ⟨d,hd,h0,he⟩:=zTL h
  have hl:d.2.2.1.length≤360:=by rw [←he];exact zTF hv r i
  refine zC (zC ((zCg v r i hv).mono (fun k hk=> ?_)))
  subst hk
  simp only [j1 hd h0,Option.bind_some]
  refine wM (xs:=d.2.2.1) (by omega) (fun j (g:List (Ty.El zQ))=>g=(d.2.2.1.take j).filter (fun e=>e.1 !=r||e.2.1 !=i)) (by simp) ?_ (fun g hg=>zB ?_)
  ·intro j x g hx hg
   have hgl:g.length≤360:=by rw [hg];exact Nat.le_trans (zNt j) hl
   simp only [zJ hx,Option.bind_some]
   rw [zTv hx, ←hg]
   refine zC ((show Wp _ (fun s:Bool×List (Ty.El zQ)=>s.1=(x.1 !=r||x.2.1 !=i)∧s.2=g) from ?_).mono (fun s hs=> ?_))
   ·refine zF (fun h=>zB ⟨?_,rfl⟩) (fun h=>zB ⟨?_,rfl⟩)
    ·rw [h];rfl
    ·rw [h];rfl
   ·obtain ⟨s1,s2⟩:=s
    obtain ⟨h1,h2⟩:=hs
    simp only at h1 h2
    subst h2
    refine zF (fun h=>zC (j9 (by simp only [List.length_singleton];omega) (zB ?_))) (fun h=>zB ?_)
    ·have h:s1=true:=h
     rw [←h1,if_pos h]
    ·have h:s1=false:=h
     rw [←h1,if_neg (by rw [h];decide),List.append_nil]
  ·rw [hg,List.take_length,he];rfl
end Go.Ve



namespace Go.Ve
open Go
def prB (x:Ty.El xK) (p:Ty.El zG):Bool:=(decide (x.2.1.2.1≤p.2.1)&&zCd x.2.1 p.1)&&(decide (x.2.2.1≤p.2.1)&&decide (p.2.1≤x.2.2.2.1))
theorem zEY (p q:Ty.El zG):zBm (p,q,())=some (decide (p.2.1≤q.2.1)&&zCd p q.1):=by
 unfold zBm
 dsimp only
 rw [show wJ (p,q.1,())=some (zCd p q.1) from zDB p q.1]
 cases decide (p.2.1≤q.2.1)<;>rfl
theorem zIl (x:Ty.El xK) (p:Ty.El zG):x6 (x,p,())=some (prB x p):=by
 unfold x6 prB
 dsimp only
 rw [show zBm (x.2.1,p,())=some (decide (x.2.1.2.1≤p.2.1)&&zCd x.2.1 p.1) from zEY x.2.1 p]
 simp only [Option.bind_some]
 cases (decide (x.2.1.2.1≤p.2.1)&&zCd x.2.1 p.1)<;>cases decide (x.2.2.1≤p.2.1)<;>rfl
theorem zEW (x:Ty.El xK) (p:Ty.El zG):v2 (x,p,())=some (prB x p):=by
 unfold v2 prB
 dsimp only
 rw [show vQ (x.2.1,p,())=some (decide (x.2.1.2.1≤p.2.1)&&zCd x.2.1 p.1) from zAi x.2.1 p]
 simp only [Option.bind_some]
 cases (decide (x.2.1.2.1≤p.2.1)&&zCd x.2.1 p.1)<;>cases decide (x.2.2.1≤p.2.1)<;>rfl
theorem zKj (l:Ty.El jV) (p:Ty.El zG) (hl:l.2.1.length≤20):Wp (zDd (l,p,())) (fun k=>k=uM (fun x=>prB x p) l.2.1):=by
 unfold zDd
 dsimp only
 refine kG (p:=fun x:Ty.El xK=>prB x p) (by omega) ?_ rfl
 intro i x hx
 simp only [zJ hx,Option.bind_some]
 rw [show x6 (x,p,())=some (prB x p) from zIl x p]
 cases prB x p<;>rfl
theorem zGx (l:Ty.El jV) (p:Ty.El zG) (hl:l.2.1.length≤20):Wp (zAo (l,p,())) (fun k=>k=uM (fun x=>prB x p) l.2.1):=by
 unfold zAo
 dsimp only
 refine kG (p:=fun x:Ty.El xK=>prB x p) (by omega) ?_ rfl
 intro i x hx
 simp only [zJ hx,Option.bind_some]
 rw [show v2 (x,p,())=some (prB x p) from zEW x p]
 cases prB x p<;>rfl
def zEp (r:Ty.El zD) (nm:Ty.El .str):Int:=uM (fun x:Ty.El jV=>x.1==nm) r.2.2.2.1
theorem zGz (r:Ty.El zD) (nm:Ty.El .str) (hr:SmR r):Wp (zAq (r,nm,())) (fun k=>k=zEp r nm):=by
 unfold zAq wW zAH
 dsimp only
 have:=hr.i2
 refine zC (kG (p:=fun x:Ty.El jV=>x.1==nm) (by omega) ?_ (zB rfl))
 intro i x hx
 simp only [zJ hx,Option.bind_some]
 cases x.1==nm<;>rfl
theorem zGY (r:Ty.El zD) (nm:Ty.El .str) (hr:SmR r):Wp (jS (r,nm,())) (fun k=>k=zEp r nm):=by
 unfold jS
 dsimp only
 have:=hr.i2
 refine kG (p:=fun x:Ty.El jV=>x.1==nm) (by omega) ?_ rfl
 intro i x hx
 simp only [zJ hx,Option.bind_some]
 cases x.1==nm<;>rfl
def zQJ (r:Ty.El zD) (nm:Ty.El .str) (p:Ty.El zG):Bool:=
 bif nm==({ data:= #[] } :ByteArray) then true else
 bif decide (zEp r nm<0) then false else
 match r.2.2.2.1[(zEp r nm).toNat]? with
 |some l=>bif decide (uM (fun x=>prB x p) l.2.1≥0) then (match l.2.1[(uM (fun x=>prB x p) l.2.1).toNat]? with
  |some z=>z.1
  |none=>false) else false
 |none=>false
theorem zIk (r:Ty.El zD) (nm:Ty.El .str) (p:Ty.El zG) (hr:SmR r):Wp (zBJ (r,nm,p,())) (fun b=>b=zQJ r nm p):=by
 unfold zBJ zQJ
 dsimp only
 refine zF (fun h=>zB (by rw [h];rfl)) (fun h=> ?_)
 rw [h]
 refine zC ((zGz r nm hr).mono (fun k hk=> ?_))
 subst hk
 refine zI (fun h1=>zB ?_) (fun h1=> ?_)
 ·have h1:zEp r nm<0:=h1
  simp [h1]
 ·have h1: ¬zEp r nm<0:=h1
  obtain ⟨l,hl,_⟩:=zFY (p:=fun x:Ty.El jV=>x.1==nm) (xs:=r.2.2.2.1) (show 0≤zEp r nm by omega)
  have hl:r.2.2.2.1[(zEp r nm).toNat]? =some l:=hl
  simp only [j1 hl (show 0≤zEp r nm by omega),Option.bind_some]
  refine zC ((zKj l p (hr.n1 l (List.mem_of_getElem? hl))).mono (fun k hk=> ?_))
  subst hk
  rw [hl]
  simp only [decide_eq_false h1,cond_false]
  refine zC (zI (fun h2=> ?_) (fun h2=>zB (zB ?_)))
  ·have h2:uM (fun x=>prB x p) l.2.1≥0:=h2
   obtain ⟨z,hz,_⟩:=zFY h2
   simp only [j1 hz h2,Option.bind_some]
   refine zB (zB ?_)
   simp only [hz,decide_eq_true h2,cond_true]
  ·have h2: ¬uM (fun x=>prB x p) l.2.1≥0:=h2
   simp only [decide_eq_false h2,cond_false]
theorem zEV (r:Ty.El zD) (nm:Ty.El .str) (p:Ty.El zG) (hr:SmR r):Wp (yU (r,nm,p,())) (fun b=>b=zQJ r nm p):=by
 unfold yU zQJ
 dsimp only
 refine zF (fun h=>zB (by rw [h];rfl)) (fun h=> ?_)
 rw [h]
 refine zC ((zGY r nm hr).mono (fun k hk=> ?_))
 subst hk
 refine zI (fun h1=>zB ?_) (fun h1=> ?_)
 ·have h1:zEp r nm<0:=h1
  simp [h1]
 ·have h1: ¬zEp r nm<0:=h1
  obtain ⟨l,hl,_⟩:=zFY (p:=fun x:Ty.El jV=>x.1==nm) (xs:=r.2.2.2.1) (show 0≤zEp r nm by omega)
  have hl:r.2.2.2.1[(zEp r nm).toNat]? =some l:=hl
  simp only [j1 hl (show 0≤zEp r nm by omega),Option.bind_some]
  refine zC ((zGx l p (hr.n1 l (List.mem_of_getElem? hl))).mono (fun k hk=> ?_))
  subst hk
  rw [hl]
  simp only [decide_eq_false h1,cond_false]
  refine zC (zI (fun h2=> ?_) (fun h2=>zB (zB ?_)))
  ·have h2:uM (fun x=>prB x p) l.2.1≥0:=h2
   obtain ⟨z,hz,_⟩:=zFY h2
   simp only [j1 hz h2,Option.bind_some]
   refine zB (zB ?_)
   simp only [hz,decide_eq_true h2,cond_true]
  ·have h2: ¬uM (fun x=>prB x p) l.2.1≥0:=h2
   simp only [decide_eq_false h2,cond_false]
end Go.Ve



namespace Go.Ve
open Go
theorem kW {α β:Type} {f:α→List β} {k:Nat} : ∀ {xs:List α},(∀x,x∈xs→(f x).length≤k)→(xs.flatMap f).length≤xs.length*k
 |[],_=>by simp
 |x::xs,h=>by
  have h1:=h x (by simp)
  have h2:=kW (xs:=xs) (fun y hy=>h y (List.mem_cons_of_mem _ hy))
  simp only [List.flatMap_cons,List.length_append,List.length_cons,Nat.succ_mul]
  omega
theorem zFX {α β:Type} {f:α→List β} {xs:List α} {i:Nat} {x:α} (h:xs[i]? =some x):(xs.take (i+1)).flatMap f=(xs.take i).flatMap f++f x:=by
 rw [List.take_add_one,h,List.flatMap_append]
 simp
theorem zTa {v:Ty.El zO} (hv:zAC v) (r i:Int) (p:Ty.El zQ→Bool):(zNq v r i p).length≤360:=by
 unfold zNq
 cases upB v r i
 ·exact Nat.zero_le _
 ·exact Nat.le_trans (List.length_filter_le _ _) (zTF hv r i)
end Go.Ve

namespace Go.Ve
open Go
set_option maxRecDepth 1000000
set_option maxHeartbeats 4000000
structure k6 (l:List (Ty.El zA)) (proto:Int):Prop where
 val: ∀x,x∈l→yO (x,())=some true
 pr:proto≠0→ ∀x,x∈l→x.2.1=proto
 so: ∀i x y,l[i]? =some x→l[i+1]? =some y→rlt x y
theorem zIb (l:List (Ty.El zA)) (proto:Int) (hl:l.length≤1048576) (hs: ∀y,y∈l→RtS y):Wp (x4 (l,proto,())) (fun b=>b=true→k6 l proto):=by
 unfold x4
 dsimp only
 refine uN (by omega) (fun i=> ∀m x,m<i→l[m]? =some x→yO (x,())=some true∧(proto≠0→x.2.1=proto)∧(∀j y,m=j+1→l[j]? =some y→rlt y x)) (fun m x hm=>by omega) ?_ (fun hj=>zB (fun _=> ?_))
 ·intro i x hx hj
  have hi:=(List.getElem?_eq_some_iff.1 hx).1
  simp only [zJ hx,Option.bind_some]
  have hcmp:(i:Int)>0→Wp (Option.bind (idx l (IntKind.wrap IntKind.i64 ((i:Int) - (1:Int)))) fun (y44:Ty.El zA)=>Option.bind (kM (y44.1,x.1,())) fun (y46:Int)=>some (decide (y46≥(0:Int)))) (fun s=>s=false→ ∀j y,i=j+1→l[j]? =some y→rlt y x):=by
   intro h0
   rw [zH (by omega) (by omega),show ((i:Int) -1)=((i-1:Nat):Int) by omega]
   obtain ⟨yy,hy⟩: ∃yy,l[i-1]? =some yy:=⟨l[i-1]'(by omega),by simp⟩
   refine zC (qE (zJ hy) (zC (qE (zEd _ _) (zB ?_))))
   intro h j y hji hyj
   rw [show i-1=j by omega] at hy
   rw [hy] at hyj
   cases hyj
   have h:=of_decide_eq_false h
   exact zLl.1 (Int.not_le.1 h)
  refine zC ((show Wp _ (fun s:Bool=>s=false→yO (x,())=some true∧(proto≠0→x.2.1=proto)∧(∀j y,i=j+1→l[j]? =some y→rlt y x)) from ?_).mono (fun s hs'=> ?_))
  ·refine xV ((zM1 x (hs x (List.mem_of_getElem? hx))).mono (fun _ _=>trivial)) (fun b hb=>zF (fun _=>zB (fun h=>by cases h)) (fun hb'=> ?_))
   have hv:yO (x,())=some true:=by
    rw [hb]
    have h:(!b)=false:=hb'
    cases b
    ·cases h
    ·rfl
   refine zF (fun hp=>zF (fun _=>zB (fun h=>by cases h)) (fun hpe=> ?_)) (fun hp=> ?_)
   ·have hpe:x.2.1=proto:=by simpa using hpe
    refine zI (fun h=>(hcmp h).mono (fun s h2 h3=>⟨hv,fun _=>hpe,h2 h3⟩)) (fun h=>zB (fun _=>⟨hv,fun _=>hpe,fun j y hj'=> ?_⟩))
    omega
   ·have hp:proto=0:=by simpa using hp
    refine zI (fun h=>(hcmp h).mono (fun s h2 h3=>⟨hv,fun hh=>absurd hp hh,h2 h3⟩)) (fun h=>zB (fun _=>⟨hv,fun hh=>absurd hp hh,fun j y hj'=> ?_⟩))
    omega
  ·refine zF (fun _=>zB (fun h=>by cases h)) (fun h=>zB (e2l ⟨rfl,?_⟩))
   intro m z hm hz
   rcases Nat.lt_or_ge m i with h'|h'
   ·exact hj m z h' hz
   ·have:m=i:=by omega
    subst this
    rw [hx] at hz
    cases hz
    exact hs' h
 ·have hall: ∀m x,l[m]? =some x→_:=fun m x hx=>hj m x (List.getElem?_eq_some_iff.1 hx).1 hx
  refine ⟨fun x hx=> ?_,fun hp x hx=> ?_,fun i x y hx hy=>(hall (i+1) y hy).2.2 i x rfl hx⟩
  ·obtain ⟨m,hm,rfl⟩:=List.getElem_of_mem hx
   exact (hall m _ (by simp [hm])).1
  ·obtain ⟨m,hm,rfl⟩:=List.getElem_of_mem hx
   exact (hall m _ (by simp [hm])).2.1 hp
structure DvR (x:Ty.El zA):Prop where
 pre:zAE x.1=true
 tag:0≤x.2.2.2.2.2.2.1∧x.2.2.2.2.2.2.1≤65535
 met:1≤x.2.2.2.2.1∧x.2.2.2.2.1≤15
 path:x.2.2.2.2.2.2.2.2.1=[]
end Go.Ve

namespace Go.Ve
open Go
theorem zCS (t:List (Ty.El zA)) (p:Ty.El zG) (hl:t.length<4611686018427387904):Wp (zCj (t,p,())) (fun k=>k=uM (fun x=>j6 x.1 p) t):=by
 unfold zCj
 dsimp only
 refine kG (p:=fun x:Ty.El zA=>j6 x.1 p) hl ?_ rfl
 intro i x hx
 simp only [zJ hx,Option.bind_some]
 show (bif j6 x.1 p then _ else _)=_
 cases j6 x.1 p<;>rfl
end Go.Ve









namespace Go.Ve
open Go
set_option maxRecDepth 1000000
set_option maxHeartbeats 4000000
theorem tt {α:Type} {c:Bool} {x y:Option α} {Q:α→Prop} (hc:c=true) (h:Wp x Q):Wp (bif c then x else y) Q:=by rw [hc];exact h
theorem ff {α:Type} {c:Bool} {x y:Option α} {Q:α→Prop} (hc:c=false) (h:Wp y Q):Wp (bif c then x else y) Q:=by rw [hc];exact h
end Go.Ve



namespace Go.Ve
open Go
set_option maxRecDepth 100000
theorem zRP:qA=x7 zL:=rfl
theorem zRl: ∀n,z8 n=zBf zL n:=by
 intro n
 induction n with
 |zero=>rfl
 |succ n ih=>
  show uY (z8 n)=zGU zL (zBf zL n)
  rw [ih]
  rfl
theorem zSF:qJ=zET zL:=zRl 1048576
theorem zWm:qQ=zKe zL:=by
 unfold qQ zKe
 rw [zSF,zRP]
theorem zPO:qT=zEh zL:=by
 unfold qT zEh
 rw [zWm]
theorem zWM:zMY rlt (fun x:Ty.El zA=>x.1) where
 ord:=zVQ
 ne:=fun x y h e=>by
  unfold rlt at h
  rw [e] at h
  exact zHX.asym _ _ h h
theorem qA7 (x y:Ty.El zA):Wp (zL (x,y,())) (fun c=>c<0↔rlt x y):=by
 unfold zL
 dsimp only
 exact zC (qE (zKl _ _) (zB zLl))
theorem zM4 (l:List (Ty.El zA)) (hl:l.length≤1048576):
  Wp (qT l ((),())) (fun r=>r.1.length=l.length∧zGr (fun x:Ty.El zA=>x.1) l r.1∧r.1.Pairwise (fun x y=> ¬rlt y x)):=by
 rw [zPO]
 exact zLC zWM qA7 l hl
end Go.Ve

namespace Go.Ve
open Go
set_option maxRecDepth 1000000
set_option maxHeartbeats 4000000
theorem zKi (v:Ty.El zO) (t:List (Ty.El zA)) (r:Nat) (rt:Ty.El zD) (hv:zAC v) (hr:v.1.1[r]? =some rt) (ht:t.length≤1048576) (hok:zUc rt):
  Wp (zDa (v,t,(r:Int),())) (fun out=>out=rt.2.2.2.2.2.2.2.1.filterMap (act v t r rt)):=by
 unfold zDa
 dsimp only
 have hrl:=(List.getElem?_eq_some_iff.1 hr).1
 have hsm:=hv.sm rt (List.mem_of_getElem? hr)
 have hst:=hsm.i6
 refine zC (qE (zEe v r hrl) (zF (fun h=>by cases h) (fun _=> ?_)))
 simp only [zJ hr,Option.bind_some]
 refine zC ((wM (xs:=rt.2.2.2.2.2.2.2.1) (by omega) (fun i (g:List (Ty.El zA))=>g=(rt.2.2.2.2.2.2.2.1.take i).filterMap (act v t r rt)) rfl ?_ (Q:=fun g=>g=rt.2.2.2.2.2.2.2.1.filterMap (act v t r rt)) (fun g hg=>by rw [hg,List.take_length])).mono (fun g hg=>zB hg))
 intro i x g hx hg
 have hi:=(List.getElem?_eq_some_iff.1 hx).1
 have hx1:=hok x (List.mem_of_getElem? hx)
 have hgl:g.length≤i:=by
  rw [hg]
  refine Nat.le_trans (List.length_filterMap_le _ _) ?_
  rw [List.length_take]
  omega
 simp only [zJ hx,Option.bind_some]
 rw [jF hx, ←hg]
 have take: ∀y,act v t r rt x=some y→Wp (Option.bind (app (136:Nat) g [y]) fun y68=>some y68) (fun g'=>g'=g++(act v t r rt x).toList):=by
  intro y h
  rw [h]
  exact zC (j9 (by simp only [List.length_singleton];omega) (zB rfl))
 rcases hx1.one with ⟨c1,c2,c3⟩|⟨c1,c2,c3⟩|⟨c1,c2,c3⟩
 ·have h1:(x.2.1 !=(0:Int))=true:=by simpa using c1
  have h2:(x.2.2.1 != { data:= #[] })=false:=by rw [c2];simp
  refine zVG (fun o:List (Ty.El zA)=>o=g∧act v t r rt x=some (x.1,(2:Int),(0:Int),x.2.2.2.2.1,(0:Int),(0:Int),x.2.2.2.2.2.1,(0:Int),[],(0:Int),x.2.1,[],false,())) ?_ ?_
  ·refine tt h1 (zC ((zIi t x.1 x.2.1 (by omega)).mono (fun k hk=> ?_)))
   have skip:act v t r rt x=none→g=g++(act v t r rt x).toList:=by
    intro h;rw [h];exact (List.append_nil g).symm
   rcases hk with ⟨hk,hn⟩|⟨m,y,rfl,hm,hy⟩
   ·refine zC (zI (fun _=>zB (zB (e2r (skip ?_)))) (fun h=>absurd hk h))
    unfold act
    rw [h1,cond_true,hn]
   ·refine zC (zI (fun h=>absurd h (by omega)) (fun _=> ?_))
    simp only [zJ hm,Option.bind_some]
    refine zB (zF (fun h=>zB (e2r (skip ?_))) (fun h=>zB (e2l ⟨rfl,?_⟩)))
    ·unfold act
     rw [h1,cond_true,hy]
     simp only
     have h:y.2.2.2.2.2.2.2.2.2.2.2.2.1=true:=h
     rw [h];rfl
    ·unfold act
     rw [h1,cond_true,hy]
     simp only
     have h:y.2.2.2.2.2.2.2.2.2.2.2.2.1=false:=h
     rw [h];rfl
  ·rintro o ⟨rfl,ha⟩
   refine z6 (ff h2 (zB (e2l ?_)))
   refine take _ ?_
   rw [ha,c3]
 ·have h1:(x.2.1 !=(0:Int))=false:=by rw [c1];rfl
  have h2:(x.2.2.1 != { data:= #[] })=true:=by simpa using c2
  refine z6 (ff h1 (zB (e2l (z6 (tt h2 (zC ((zCZ rt x.2.2.1 hsm).mono (fun k hk=> ?_))))))))
  subst hk
  refine zC ((zIM v r _ hv).mono (fun b hb=> ?_))
  subst hb
  refine zF (fun h=>zB (e2r ?_)) (fun h=>zB (e2l (take _ ?_)))
  ·have h:(!upB v r (zHn rt x.2.2.1))=true:=h
   have h:upB v r (zHn rt x.2.2.1)=false:=by simpa using h
   have ha:act v t r rt x=none:=by
    unfold act
    rw [h1,cond_false,h2,cond_true,h];rfl
   rw [ha];exact (List.append_nil g).symm
  ·have h:(!upB v r (zHn rt x.2.2.1))=false:=h
   have h:upB v r (zHn rt x.2.2.1)=true:=by simpa using h
   unfold act
   rw [h1,cond_false,h2,cond_true,h,c1,c3];rfl
 ·have h1:(x.2.1 !=(0:Int))=false:=by rw [c1];rfl
  have h2:(x.2.2.1 != { data:= #[] })=false:=by rw [c2];simp
  refine z6 (ff h1 (zB (e2l (z6 (ff h2 (zB (e2l (take _ ?_))))))))
  unfold act
  rw [h1,cond_false,h2,cond_false,c1,c3];rfl
theorem zPQ (l:List (Ty.El zA)) (hl:l.length≤1048576) (hs: ∀y,y∈l→RtB y):zAM (l,l,())=some true:=by
 refine wK ?_
 unfold zAM
 dsimp only
 refine ff (by simp) ?_
 refine zBs (P:=fun _=>True) (by omega) ?_ (fun _=>zB rfl)
 intro i x hx
 simp only [zJ hx,Option.bind_some]
 refine zC ((zWs x x (hs x (List.mem_of_getElem? hx))).mono (fun b hb=> ?_))
 rw [hb.2 rfl]
 exact zB (e2l ⟨rfl,trivial⟩)
theorem zRu (l:List (Ty.El zA)) (hl:l.length≤1048576) (hs: ∀y,y∈l→RtS y):zAM (l,l,())=some true:=zPQ l hl (fun y hy=>(hs y hy).b)
end Go.Ve

namespace Go.Ve
open Go
def zYW {α:Type} (f:List V→Option (α×List V)):List V→Option (List α)
 |[]=>some []
 |e::r=>match f e.cells with
  |some (x,[])=>match zYW f r with
   |some xs=>some (x::xs)
   |none=>none
  |_=>none
def Ty.unc:(t:Ty)→List V→Option (t.El×List V)
 | .pair a b,cs=>match a.unc cs with
  |some (x,r)=>match b.unc r with
   |some (y,r)=>some ((x,y),r)
   |none=>none
  |none=>none
 | .sl t,cs=>match cs with
  | .sl es::r=>match zYW t.unc es with
   |some xs=>some (xs,r)
   |none=>none
  |cs=>zI7 t cs
 | .int k,cs=>zFq k cs
 | .bool,cs=>zDv cs
 | .str,cs=>zFp cs
 | .unit,cs=>some ((),cs)
 | .rf,cs=>zI8 cs
theorem zTM {α:Type} {f:List V→Option (α×List V)} : ∀ {es:List V} {xs:List α},zYW f es=some xs→es.length=xs.length∧ ∀ (i:Nat) (x:α),xs[i]? =some x→ ∃e,es[i]? =some e∧f e.cells=some (x,[])
 |[],xs,h=>by simp only [zYW,Option.some.injEq] at h;subst h;exact ⟨rfl,fun i x h=>by simp at h⟩
 |e::r,xs,h=>by
  simp only [zYW] at h
  split at h
  ·rename_i x hx
   split at h
   ·rename_i xs' hxs
    simp only [Option.some.injEq] at h
    subst h
    obtain ⟨h1,h2⟩:=zTM hxs
    refine ⟨by simp [h1],fun i y hy=> ?_⟩
    cases i with
    |zero=>simp only [List.getElem?_cons_zero,Option.some.injEq] at hy;subst hy;exact ⟨e,rfl,hx⟩
    |succ i=>exact h2 i y (by simpa using hy)
   ·cases h
  ·cases h
theorem zZo {t:Ty} {es:List V} {xs:List t.El} (hl:es.length=xs.length) (h: ∀ (i:Nat) (e:V) (x:t.El),es[i]? =some e→xs[i]? =some x→wT e.cells (t.cells x)):WkV (.sl es) (.tl t xs):=by
 intro w F v hr
 refine .tl t xs v ?_
 cases hr with
 |slemp a cap=>
  have:xs=[]:=List.eq_nil_of_length_eq_zero hl.symm
  subst this
  exact .slemp a cap
 |sl b off cap k _ g hFb hcap hk hg hr=>
  have hel:es.length=(xs.map t.enc).length:=by simpa using hl
  rw [hel] at hg hcap ⊢
  refine .sl b off cap k _ g hFb hcap ?_ hg ?_
  ·intro e he
   simp only [List.mem_map] at he
   obtain ⟨x,hx,rfl⟩:=he
   obtain ⟨j,hj⟩:=List.getElem?_of_mem hx
   have hjl:j<es.length:=by rw [hl];exact (List.getElem?_eq_some_iff.1 hj).1
   have h1:=(h j es[j] x (by simp [hjl]) hj).len
   rw [qU, ←h1]
   exact hk _ (List.getElem_mem hjl)
  ·intro i j e d hi hj
   simp only [List.getElem?_map,Option.map_eq_some_iff] at hi
   obtain ⟨x,hx,rfl⟩:=hi
   rw [qU] at hj
   have hil:i<es.length:=by rw [hl];exact (List.getElem?_eq_some_iff.1 hx).1
   have h1:=h i es[i] x (by simp [hil]) hx
   have hjl:j< (es[i]).cells.length:=by rw [h1.len];exact (List.getElem?_eq_some_iff.1 hj).1
   exact h1.get j _ d (List.getElem?_eq_getElem hjl) hj w F _ (hr i j es[i] _ (by simp [hil]) (List.getElem?_eq_getElem hjl))
theorem zQz: ∀ (t:Ty) (cs:List V) (x:t.El) (r:List V),t.unc cs=some (x,r)→ ∃cs1,cs=cs1++r∧wT cs1 (t.cells x):=by
 intro t
 induction t with
 |int k=>exact fun cs x r h=>jH (.int k) cs x r h
 |bool=>exact fun cs x r h=>jH .bool cs x r h
 |str=>exact fun cs x r h=>jH .str cs x r h
 |unit=>exact fun cs x r h=>jH .unit cs x r h
 |rf=>exact fun cs x r h=>jH .rf cs x r h
 |pair a b iha ihb=>
  intro cs x r h
  simp only [Ty.unc] at h
  split at h
  ·rename_i xa r1 h1
   split at h
   ·rename_i xb r2 h2
    simp only [Option.some.injEq,Prod.mk.injEq] at h
    obtain ⟨rfl,rfl⟩:=h
    obtain ⟨c1,rfl,k1⟩:=iha cs xa r1 h1
    obtain ⟨c2,rfl,k2⟩:=ihb r1 xb r2 h2
    exact ⟨c1++c2,by rw [List.append_assoc],k1.append k2⟩
   ·cases h
  ·cases h
 |sl t ih=>
  intro cs x r h
  simp only [Ty.unc] at h
  split at h
  ·rename_i es r'
   split at h
   ·rename_i xs hxs
    simp only [Option.some.injEq,Prod.mk.injEq] at h
    obtain ⟨rfl,rfl⟩:=h
    obtain ⟨h1,h2⟩:=zTM hxs
    refine ⟨[.sl es],rfl,zZo h1 ?_,trivial⟩
    intro i e y he hy
    obtain ⟨e',he',hf⟩:=h2 i y hy
    rw [he] at he'
    simp only [Option.some.injEq] at he'
    subst he'
    obtain ⟨c1,hc,hw⟩:=ih e.cells y [] hf
    rw [List.append_nil] at hc
    rw [hc];exact hw
   ·cases h
  ·exact jH (.sl t) _ x r h
def Ty.decW (t:Ty) (d:V):Option t.El:=
 match t with
 | .pair a b=>match d with
  | .agg cs=>match (Ty.pair a b).unc cs with
   |some (x,[])=>some x
   |_=>none
  |_=>none
 | .unit=>none
 | .sl t=>match (Ty.sl t).unc [d] with
  |some (x,[])=>some x
  |_=>none
 | .int k=>(Ty.int k).dec d
 | .bool=>Ty.bool.dec d
 | .str=>Ty.str.dec d
 | .rf=>Ty.rf.dec d
theorem zVh {t:Ty} {d:V} {x:t.El} (h:t.decW d=some x):WkV d (t.enc x):=by
 cases t with
 |pair a b=>
  simp only [Ty.decW] at h
  split at h
  ·rename_i cs
   split at h
   ·rename_i x' hx
    simp only [Option.some.injEq] at h
    subst h
    obtain ⟨c1,h1,h2⟩:=zQz (.pair a b) cs x' [] hx
    simp only [List.append_nil] at h1
    subst h1
    exact WkV.agg h2
   ·cases h
  ·cases h
 |unit=>simp [Ty.decW] at h
 |sl t=>
  simp only [Ty.decW] at h
  split at h
  ·rename_i x' hx
   simp only [Option.some.injEq] at h
   subst h
   obtain ⟨c1,h1,h2⟩:=zQz (.sl t) [d] x' [] hx
   rw [List.append_nil] at h1
   subst h1
   exact h2.1
  ·cases h
 |int k=>exact kF h
 |bool=>exact kF h
 |str=>exact kF h
 |rf=>exact kF h
def zFh:(ts:List Ty)→List V→Option (ElS ts)
 |[],[]=>some ()
 |t::ts,d::ds=>match t.decW d with
  |some x=>match zFh ts ds with
   |some xs=>some (x,xs)
   |none=>none
  |none=>none
 |_,_=>none
theorem zMR: ∀ (ts:List Ty) (ds:List V) (x:ElS ts),zFh ts ds=some x→wT ds (kB ts x)
 |[],[],_,_=>trivial
 |[],_::_,_,h=>by simp [zFh] at h
 |_::_,[],_,h=>by simp [zFh] at h
 |t::ts,d::ds,x,h=>by
  simp only [zFh] at h
  split at h
  ·rename_i y hy
   split at h
   ·rename_i ys hys
    simp only [Option.some.injEq] at h
    subst h
    exact ⟨zVh hy,zMR ts ds ys hys⟩
   ·cases h
  ·cases h
theorem zQY {Γ:Sig} {P:Program} {G:Nat→Option (List V)} {f:FuncId} {ts:List Ty} {R:RTy} {g:ElS ts→Option R.El} (h:wV Γ P G f (qP (wB ts R g))):wV Γ P G f (qP (w8 (zFh ts) R g)):=by
 intro w F O s args ds s' r hsig hG hF hlen hrd hspec
 simp only [qP,w8] at hspec
 cases hx:zFh ts ds with
 |none=>rw [hx] at hspec;cases hspec
 |some x=>
  rw [hx] at hspec
  have hwk:=zMR ts ds x hx
  refine h w F O s args (kB ts x) s' r hsig hG hF (hlen.trans hwk.len) ?_ ?_
  ·intro i u d hu hd
   have hlt:i<ds.length:=by rw [hwk.len];exact (List.getElem?_eq_some_iff.1 hd).1
   exact hwk.get i ds[i] d (by simp [hlt]) hd w F u (hrd i u ds[i] hu (by simp [hlt]))
  ·simp only [qP,wB,w8,zDW];exact hspec
end Go.Ve

namespace Go.Ve
open Go
def zTg {α:Type} (f:α→α→Bool):List α→List α→Bool
 |[],[]=>true
 |x::xs,y::ys=>f x y&&zTg f xs ys
 |_,_=>false
theorem zHj {α:Type} {f:α→α→Bool} (hf: ∀x y,f x y=true→x=y): ∀ {xs ys:List α},zTg f xs ys=true→xs=ys
 |[],[],_=>rfl
 |x::xs,y::ys,h=>by
  simp only [zTg,Bool.and_eq_true] at h
  rw [hf x y h.1,zHj hf h.2]
 |[],_::_,h=>by cases h
 |_::_,[],h=>by cases h
def Ty.eqb:(t:Ty)→t.El→t.El→Bool
 | .int _,a,b=>decide (a=b)
 | .bool,a,b=>match a,b with
  |true,true=>true
  |false,false=>true
  |_,_=>false
 | .str,a,b=>zTg (fun (x y:UInt8)=>Nat.beq x.toNat y.toNat) a.data.toList b.data.toList
 | .unit,_,_=>true
 | .pair s t,a,b=>s.eqb a.1 b.1&&t.eqb a.2 b.2
 | .sl t,a,b=>zTg t.eqb a b
 | .rf,_,_=>false
theorem zW2: ∀ (t:Ty) (a b:t.El),t.eqb a b=true→a=b:=by
 intro t
 induction t with
 |int k=>exact fun a b h=>of_decide_eq_true h
 |bool=>
  intro a b h
  cases a<;>cases b<;>first|rfl|cases h
 |str=>
  intro a b h
  have h:=zHj (fun (x y:UInt8) h=>UInt8.toNat_inj.1 (Nat.eq_of_beq_eq_true h)) h
  cases a;cases b
  simp only at h
  rw [Array.toList_inj.1 h]
 |unit=>exact fun _ _ _=>rfl
 |pair s t ihs iht=>
  intro a b h
  simp only [Ty.eqb,Bool.and_eq_true] at h
  exact Prod.ext (ihs _ _ h.1) (iht _ _ h.2)
 |sl t ih=>exact fun a b h=>zHj ih h
 |rf=>exact fun _ _ h=>by cases h
def eqS:(ts:List Ty)→ElS ts→ElS ts→Bool
 |[],_,_=>true
 |t::ts,a,b=>t.eqb a.1 b.1&&eqS ts a.2 b.2
theorem zQ7: ∀ (ts:List Ty) (a b:ElS ts),eqS ts a b=true→a=b
 |[],_,_,_=>rfl
 |t::ts,a,b,h=>by
  simp only [eqS,Bool.and_eq_true] at h
  exact Prod.ext (zW2 t _ _ h.1) (zQ7 ts _ _ h.2)
def atP (ts:List Ty) {α:Type} (x0:ElS ts) (y0:α) (f:ElS ts→Option α):ElS ts→Option α:=fun x=>bif eqS ts x x0 then some y0 else f x
def noF {X α:Type} :X→Option α:=fun _=>none
theorem zRS {Γ:Sig} {P:Program} {G:Nat→Option (List V)} {f:FuncId} {ts:List Ty} {R:RTy} {g h:ElS ts→Option R.El} (hg:wV Γ P G f (qP (wB ts R g))) (hh: ∀x y,h x=some y→g x=some y):
  wV Γ P G f (qP (w8 (zFh ts) R h)):=by
 refine zTp (zQY hg) ?_
 intro s ds r hr
 simp only [qP,w8] at hr ⊢
 cases hx:zFh ts ds with
 |none=>rw [hx] at hr;cases hr
 |some x=>
  rw [hx] at hr
  simp only [Option.map_eq_some_iff] at hr ⊢
  obtain ⟨y,hy,e⟩:=hr
  exact ⟨y,hh x y hy,e⟩
theorem zPC {ts:List Ty} {α:Type} {x0:ElS ts} {y0:α} {f g:ElS ts→Option α} (h0:g x0=some y0) (hf: ∀x y,f x=some y→g x=some y): ∀x y,atP ts x0 y0 f x=some y→g x=some y:=by
 intro x y h
 unfold atP at h
 cases he:eqS ts x x0 with
 |false=>rw [he] at h;exact hf x y h
 |true=>
  rw [he] at h
  rw [zQ7 ts x x0 he,h0]
  exact h
theorem zSg {X α:Type} {g:X→Option α} : ∀x y,noF (X:=X) (α:=α) x=some y→g x=some y:=fun _ _ h=>by cases h
end Go.Ve

namespace Go.Ve
open Go
def zMT (t:Ty) (ds:List V):Option (t.El×List t.El):=
 match zEL [.sl t] ds with
 |some (y::r,_)=>some (y,r)
 |_=>none
theorem zEv {t:Ty} {ds:List V} {q:t.El×List t.El} (h:zMT t ds=some q):wT ds [.tl t (q.1::q.2)]:=by
 unfold zMT at h
 split at h
 ·rename_i y r u hd
  simp only [Option.some.injEq] at h
  subst h
  exact uI [.sl t] ds (y::r,u) hd
 ·cases h
open Classical in
noncomputable def zGp (v:Value) (ds:List V):Option Unit:=if ds=[.val v] then some () else none
theorem yP {v:Value} {ds:List V} {q:Unit} (h:zGp v ds=some q):wT ds [.val v]:=by
 unfold zGp at h
 split at h
 ·rename_i hd
  subst hd
  exact ⟨.refl _,trivial⟩
 ·cases h
theorem zSZ {w:World} {F:Blk→Prop} {v:Value} {t:Ty} (h:Rd w F v (.tl t [])): ∃a c,v= .slice a 0 c:=by
 have h2:=Rd.untl h
 simp only [List.map_nil] at h2
 generalize hd:V.sl []=d at h2
 cases h2 with
 |slemp a c=>exact ⟨a,c,rfl⟩
 |sl b off cap k es g hF hcap hk hg hr=>
  simp only [V.sl.injEq] at hd
  subst hd
  exact ⟨_,_,rfl⟩
 |_=>cases hd
theorem zJH {P:Program} {G:Nat→Option (List V)} {f:FuncId} {t:Ty} {bytes:Nat}
  (h1:wV jO P G f (qP (w8 (zMT t) (.p (.sl t)) (fun q=>Option.bind (app bytes [] (q.1::q.2)) fun z=>some z))))
  (h2: ∀c,wV jO P G f (qP (w8 (zGp (.slice none 0 c)) (.p (.sl t)) (fun _=>some []))))
  (h3: ∀a c,wV jO P G f (qP (w8 (zGp (.slice (some a) 0 c)) (.p (.sl t)) (fun _=>some [])))):
  wV jO P G f (qP (wB [.sl t] (.p (.sl t)) (fun x=>Option.bind (app bytes [] x.1) fun z=>some z))):=by
 intro w F O s args ds s' r hsig hG hF hlen hrd hspec
 simp only [qP,wB,w8] at hspec
 cases hx:zEL [.sl t] ds with
 |none=>rw [hx] at hspec;cases hspec
 |some x=>
  rw [hx] at hspec
  have hwk:=uI [.sl t] ds x hx
  have hdl:ds.length=1:=hwk.len
  have hal:args.size=1:=hlen.trans hdl
  obtain ⟨xs,u⟩:=x
  have hv:Rd w F args[0] (.tl t xs):=hwk.get 0 (ds[0]'(by omega)) (.tl t xs) (by simp) rfl w F _ (hrd 0 _ _ (by simp) (by simp))
  cases xs with
  |cons y r0=>
   refine h1 w F O s args [.tl t (y::r0)] s' r hsig hG hF (by simpa using hal) ?_ ?_
   ·intro i v d hi hd
    match i with
    |0=>
     simp at hd
     subst hd
     have:v=args[0]:=by
      rw [Array.getElem?_eq_getElem (by omega)] at hi
      exact (Option.some.inj hi).symm
     rw [this];exact hv
    |i+1=>simp at hd
   ·have hde:zMT t [.tl t (y::r0)]=some (y,r0):=by
     unfold zMT
     rw [show zEL [.sl t] [.tl t (y::r0)]=some (y::r0,()) from zDW [.sl t] (y::r0,())]
    simp only [qP,w8,hde]
    exact hspec
  |nil=>
   obtain ⟨a,c,ha⟩:=zSZ hv
   have hres:some (s',r)=some (s,(RTy.p (.sl t)).res []):=by
    have:(app bytes ([]:List t.El) [])=some []∨app bytes ([]:List t.El) []=none:=by
     unfold app;split
     ·exact .inl rfl
     ·exact .inr rfl
    rcases this with h|h
    ·simp only [h,Option.bind_some,Option.map_some] at hspec
     exact hspec.symm
    ·simp only [h,Option.bind_none,Option.map_none] at hspec
     cases hspec
   simp only [Option.some.injEq,Prod.mk.injEq] at hres
   obtain ⟨rfl,rfl⟩:=hres
   have go: ∀v,args[0]=v→wV jO P G f (qP (w8 (zGp v) (.p (.sl t)) (fun _=>some [])))→Calls P f args w fun e w'=> ∃ (v:Value) (F':Blk→Prop) (O':Nat→Prop),e= .returned v∧jO.R s' F' O' w'∧zCW O w w'∧
     (∀b,O' b→O b∨w.heap.size≤b)∧(∀b,F b→F' b)∧(∀b:Nat,F' b→(F b∨w.heap.size≤b)∧b<w'.heap.size∧ ¬O' b)∧xO w.heap.size w' F' O' v ((RTy.p (.sl t)).res []):=by
    intro v hv0 h
    refine h w F O s' args [.val v] s' _ hsig hG hF (by simpa using hal) ?_ ?_
    ·intro i u d hi hd
     match i with
     |0=>
      simp at hd
      subst hd
      have:u=args[0]:=by
       rw [Array.getElem?_eq_getElem (by omega)] at hi
       exact (Option.some.inj hi).symm
      rw [this,hv0];exact .val _
     |i+1=>simp at hd
    ·have hde:zGp v [.val v]=some ():=by unfold zGp;rw [if_pos rfl]
     simp only [qP,w8,hde]
     rfl
   cases a with
   |none=>exact go _ ha (h2 c)
   |some a=>exact go _ ha (h3 a c)
theorem zTq {P:Program} {G:Nat→Option (List V)} {f:FuncId} {t:Ty} {bytes:Nat}
  (h1:wV jO P G f (qP (w8 (zMT t) (.o t) (fun q=>Option.bind (app bytes [] (q.1::q.2)) fun z=>some z))))
  (h2: ∀c,wV jO P G f (qP (w8 (zGp (.slice none 0 c)) (.o t) (fun _=>some []))))
  (h3: ∀a c,wV jO P G f (qP (w8 (zGp (.slice (some a) 0 c)) (.o t) (fun _=>some [])))):
  wV jO P G f (qP (wB [.sl t] (.o t) (fun x=>Option.bind (app bytes [] x.1) fun z=>some z))):=by
 intro w F O s args ds s' r hsig hG hF hlen hrd hspec
 simp only [qP,wB,w8] at hspec
 cases hx:zEL [.sl t] ds with
 |none=>rw [hx] at hspec;cases hspec
 |some x=>
  rw [hx] at hspec
  have hwk:=uI [.sl t] ds x hx
  have hdl:ds.length=1:=hwk.len
  have hal:args.size=1:=hlen.trans hdl
  obtain ⟨xs,u⟩:=x
  have hv:Rd w F args[0] (.tl t xs):=hwk.get 0 (ds[0]'(by omega)) (.tl t xs) (by simp) rfl w F _ (hrd 0 _ _ (by simp) (by simp))
  cases xs with
  |cons y r0=>
   refine h1 w F O s args [.tl t (y::r0)] s' r hsig hG hF (by simpa using hal) ?_ ?_
   ·intro i v d hi hd
    match i with
    |0=>
     simp at hd
     subst hd
     have:v=args[0]:=by
      rw [Array.getElem?_eq_getElem (by omega)] at hi
      exact (Option.some.inj hi).symm
     rw [this];exact hv
    |i+1=>simp at hd
   ·have hde:zMT t [.tl t (y::r0)]=some (y,r0):=by
     unfold zMT
     rw [show zEL [.sl t] [.tl t (y::r0)]=some (y::r0,()) from zDW [.sl t] (y::r0,())]
    simp only [qP,w8,hde]
    exact hspec
  |nil=>
   obtain ⟨a,c,ha⟩:=zSZ hv
   have hres:some (s',r)=some (s,(RTy.o t).res []):=by
    have:(app bytes ([]:List t.El) [])=some []∨app bytes ([]:List t.El) []=none:=by
     unfold app;split
     ·exact .inl rfl
     ·exact .inr rfl
    rcases this with h|h
    ·simp only [h,Option.bind_some,Option.map_some] at hspec
     exact hspec.symm
    ·simp only [h,Option.bind_none,Option.map_none] at hspec
     cases hspec
   simp only [Option.some.injEq,Prod.mk.injEq] at hres
   obtain ⟨rfl,rfl⟩:=hres
   have go: ∀v,args[0]=v→wV jO P G f (qP (w8 (zGp v) (.o t) (fun _=>some [])))→Calls P f args w fun e w'=> ∃ (v:Value) (F':Blk→Prop) (O':Nat→Prop),e= .returned v∧jO.R s' F' O' w'∧zCW O w w'∧
     (∀b,O' b→O b∨w.heap.size≤b)∧(∀b,F b→F' b)∧(∀b:Nat,F' b→(F b∨w.heap.size≤b)∧b<w'.heap.size∧ ¬O' b)∧xO w.heap.size w' F' O' v ((RTy.o t).res []):=by
    intro v hv0 h
    refine h w F O s' args [.val v] s' _ hsig hG hF (by simpa using hal) ?_ ?_
    ·intro i u d hi hd
     match i with
     |0=>
      simp at hd
      subst hd
      have:u=args[0]:=by
       rw [Array.getElem?_eq_getElem (by omega)] at hi
       exact (Option.some.inj hi).symm
      rw [this,hv0];exact .val _
     |i+1=>simp at hd
    ·have hde:zGp v [.val v]=some ():=by unfold zGp;rw [if_pos rfl]
     simp only [qP,w8,hde]
     rfl
   cases a with
   |none=>exact go _ ha (h2 c)
   |some a=>exact go _ ha (h3 a c)
theorem qAa {P:Program} {G:Nat→Option (List V)} {f:FuncId} {t:Ty} {ds:List V} (hnb:zCl ds=none) (h: ∀a:Option Addr, ∃S,wV jO P G f S∧S () (.val (.slice a 0 0)::ds)=some ((), .p (.tup []))):
  zBo jO P G f () t [] ds () [] (.tup []):=by
 refine zBo.of hnb ?_
 intro w F O b v0 args hR hG hF hown _ hsz ha0 hrest
 have hv: ∃a,v0= .slice a 0 0:=by
  rcases hown with ⟨_,h⟩|⟨h,_⟩
  ·exact h
  ·exact absurd rfl h
 obtain ⟨a,rfl⟩:=hv
 obtain ⟨S,hS,hs⟩:=h a
 have hcall:=hS w F O () args (.val (.slice a 0 0)::ds) () (.p (.tup [])) hR hG hF (by simpa using hsz) (by
  intro i v d hi hd
  match i with
  |0=>
   simp at hd
   subst hd
   rw [ha0] at hi
   cases hi
   exact .val _
  |i+1=>exact hrest i v d hi (by simpa using hd)) hs
 refine hcall.mono ?_
 rintro e w' ⟨v,F',O',rfl,h1,h2,h3,h4,h5,h6⟩
 exact ⟨v,F',O',rfl,h1,⟨h2.os,h2.tape,h2.output,h2.size,fun c hc ho=>h2.block c hc (fun hh=>ho (.inl hh)),h2.drawn⟩,h3,h4,h5,zGd.of (.inl ⟨rfl,a,rfl⟩) h6⟩
end Go.Ve

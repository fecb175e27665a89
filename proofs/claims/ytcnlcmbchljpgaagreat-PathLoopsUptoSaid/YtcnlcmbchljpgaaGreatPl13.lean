/-
  Plain laws: stable merging in place: the walk.
  Plain laws: stable sorting, for any elements and any comparison that goes by a key.
  Plain laws: merging by prefix, as the program does it: what merging depends on.
  Plain laws: a sorted list without its repetitions.
  The sorting of routes is the one that is proved for any elements.
  Functions out of code, part 10: typed data out of data without types, lists too.
  Contracts at one point: what a function answers at given data.
  slices.Clone: the contract over typed lists, out of three that tell nil, empty and the rest apart.
  Plain laws: the reference's active routes; tables compared.
-/
import Derived.Test.YtcnlcmbchljpgaaGreatPl12
import Derived.Test.YtcnlcmbchljpgaaGreatPl10
set_option linter.unusedVariables false
namespace Go.Ve
open Go
set_option maxRecDepth 1000000
set_option maxHeartbeats 4000000
theorem zUI {σ ρ:Type} {m:Option (σ ⊕ ρ)} {K:σ→Option ρ} {Q:ρ→Prop} (P:σ→Prop) (h:Wp m (w8 P Q)) (hK: ∀s,P s→Wp (K s) Q):Wp (qT m K) Q:=by
 refine qD (h.mono ?_)
 intro o ho
 cases o with
 |inl s=>exact hK s ho
 |inr r=>exact ho
theorem zId {β:Type} {z:β} {i0 j0:Nat} {P:Nat→Prop} {T:Int×Int×β→Option ((Int×Int×β) ⊕ (Int×β))} (hij:i0≤j0)
  (step: ∀i j:Nat,i0≤i→i<j→j≤j0→Wp (T ((i:Int),(j:Int),z)) (fun o=>(o=Sum.inl ((((i+j) / 2+1:Nat):Int),(j:Int),z)∧P ((i+j) / 2))∨(o=Sum.inl ((i:Int),(((i+j) / 2:Nat):Int),z)∧ ¬P ((i+j) / 2)))):
  Wp (zO (fun s:Int×Int×β=>bif decide (s.1<s.2.1) then T s else some (Sum.inr (s.1,s.2.2))) ((i0:Int),(j0:Int),z)) (fun s=>s.2=z∧ ∃i:Nat,s.1=(i:Int)∧i0≤i∧i≤j0∧(i0<i→P (i-1))∧(i<j0→ ¬P i)):=by
 refine jY (fun s:Int×Int×β=>s.2.2=z∧ ∃i j:Nat,s.1=(i:Int)∧s.2.1=(j:Int)∧i0≤i∧i≤j∧j≤j0∧(i0<i→P (i-1))∧(j<j0→ ¬P j)) (fun s=>(s.2.1-s.1).toNat)
  ⟨rfl,i0,j0,rfl,rfl,Nat.le_refl _,hij,Nat.le_refl _,fun h=>by omega,fun h=>by omega⟩ ?_
 rintro ⟨si,sj,y⟩ ⟨hy,i,j,hi,hj,h1,h2,h3,h4,h5⟩
 simp only at hi hj hy
 subst hi hj hy
 refine zI (fun h=> ?_) (fun h=>zB (e2r ⟨rfl,i,rfl,h1,by omega,h4,?_⟩))
 ·have h:(i:Int)< (j:Int):=h
  refine (step i j h1 (by omega) h3).mono ?_
  rintro o (⟨rfl,hp⟩|⟨rfl,hp⟩)
  ·refine ⟨⟨rfl,(i+j) / 2+1,j,rfl,rfl,by omega,by omega,h3,fun _=>by rw [Nat.add_sub_cancel];exact hp,h5⟩,?_⟩
   simp only;omega
  ·refine ⟨⟨rfl,i,(i+j) / 2,rfl,rfl,h1,by omega,by omega,h4,fun _=>hp⟩,?_⟩
   simp only;omega
 ·have h: ¬(i:Int)< (j:Int):=h
  have:i=j:=by omega
  subst this
  exact h5
section
variable {α κ:Type} {cmp:α×α×Unit→Option Int} {lt:α→α→Prop} {key:α→κ}
theorem vK {xs:List α} {i:Nat} (h:i<xs.length):xs[i]? =some xs[i]:=by simp [h]
theorem zEy (hk:zMd lt key) (hcmp: ∀x y,Wp (cmp (x,y,())) (fun c=>c<0↔lt x y)): ∀ (n:Nat) (xs:List α) (a m b:Nat),a<m→m<b→b≤xs.length→xs.length<1099511627776→b-a≤n→wS lt a m xs→wS lt m b xs→
  Wp (zA3 cmp n xs ((a:Int),(m:Int),(b:Int),(),())) (fun r=>yS key a b xs r.1∧wS lt a b r.1):=by
 have ho:=hk.ord
 have tr1: ∀x y z, ¬lt y x→lt y z→lt x z:=fun x y z h1 h2=>Classical.byContradiction (fun h3=>ho.tr z x y h3 h1 h2)
 have tr2: ∀x y z,lt x y→ ¬lt z y→lt x z:=fun x y z h1 h2=>Classical.byContradiction (fun h3=>ho.tr y z x h2 h3 h1)
 intro n
 induction n with
 |zero=>intro xs a m b h1 h2 _ _ h3;omega
 |succ n ih=>
  intro xs a m b ham hmb hb hl hn hs1 hs2
  have ha? :=vK (xs:=xs) (i:=a) (by omega)
  have hm? :=vK (xs:=xs) (i:=m) (by omega)
  simp only [zA3]
  unfold zGq
  dsimp only
  rw [zF (x:=(m:Int) - (a:Int)) (by omega) (by omega),zF (x:=(b:Int) - (m:Int)) (by omega) (by omega)]
  refine zUI (fun s:List α=>s=xs∧m≠a+1) ?_ ?_
  ·refine zG (fun h=> ?_) (fun h=>zB (e2l ⟨rfl,?_⟩))
   ·have h:(m:Int) - (a:Int)=1:=by simpa using h
    have hma:m=a+1:=by omega
    subst hma
    refine zC ((zId (z:=xs) (i0:=a+1) (j0:=b) (P:=fun q=> ∀y,xs[q]? =some y→lt y xs[a]) (by omega) ?_).mono ?_)
    ·intro i j hi hij hj
     have hh:=vK (xs:=xs) (i:=(i+j) / 2) (by omega)
     dsimp only
     rw [zQF i j (by omega)]
     simp only [zJ hh,Int.toNat_natCast,vL hh,zJ ha?,vL ha?,Option.bind_some]
     refine zC ((hcmp _ _).mono (fun c hc=>zI (fun h1=>zB (.inl ⟨?_,fun y hy=> ?_⟩)) (fun h1=>zB (.inr ⟨rfl,fun h2=>h1 (hc.2 (h2 _ hh))⟩))))
     ·rw [zF (by omega) (by omega)];congr 1
     ·rw [hh] at hy;cases hy;exact hc.1 h1
    ·rintro ⟨s,zs⟩ ⟨hz,i,hi,hi1,hi2,hP,hN⟩
     simp only at hz hi
     subst hz hi
     have hall1: ∀q y,a+1≤q→q<i→zs[q]? =some y→lt y zs[a]:=by
      intro q y hq1 hq2 hy
      have hp:=hP (by omega) _ (vK (by omega))
      by_cases e:q=i-1
      ·subst e;rw [vK (by omega)] at hy;cases hy;exact hp
      ·exact tr1 _ _ _ (hs2 q (i-1) y _ hq1 (by omega) (by omega) hy (vK (by omega))) hp
     have hall2: ∀q y,i≤q→q<b→zs[q]? =some y→ ¬lt y zs[a]:=by
      intro q y hq1 hq2 hy hlt
      have hnp:=hN (by omega)
      apply hnp
      intro w hw
      by_cases e:q=i
      ·subst e;rw [hw] at hy;cases hy;exact hlt
      ·exact tr1 _ _ _ (hs2 i q w y hi1 (by omega) hq2 hw hy) hlt
     dsimp only
     rw [zF (x:=(i:Int) -1) (by omega) (by omega)]
     refine jY (fun s:Int×List α=> ∃k:Nat,s.1=(k:Int)∧a≤k∧k+1≤i∧s.2.length=zs.length∧ ∀j,s.2[j]? =yG a (a+1) (k+1) zs j) (fun s=>((i:Int) -s.1).toNat) ⟨a,rfl,Nat.le_refl _,hi1,rfl,fun j=>(zWS j).symm⟩ ?_
     rintro ⟨s,ws⟩ ⟨k,hk',hka,hki,hwl,hw⟩
     simp only at hk' hwl hw
     subst hk'
     refine zI (fun hlt=> ?_) (fun hge=> ?_)
     ·have hlt:(k:Int)< (i:Int) -1:=hlt
      have hx:=vK (xs:=ws) (i:=k) (by omega)
      have hy:=vK (xs:=ws) (i:=k+1) (by omega)
      have hy2:(ws.set k (ws[k+1]'(by omega)))[k+1]? =some (ws[k+1]'(by omega)):=by rw [List.getElem?_set_ne (by omega)];exact hy
      dsimp only
      rw [zF (x:=(k:Int)+1) (by omega) (by omega),show ((k:Int)+1)=((k+1:Nat):Int) by omega]
      simp only [zJ hx,zJ hy,Int.toNat_natCast,vL hx,vL hy,Option.bind_some,zJ hy2,vL hy2]
      refine zB (e2l ⟨⟨k+1,rfl,by omega,by omega,by simp only [List.length_set];exact hwl,zYD hka (by omega) hwl hw hx hy⟩,?_⟩)
      simp only;omega
     ·have hge: ¬(k:Int)< (i:Int) -1:=hge
      have hki':k+1=i:=by omega
      subst hki'
      refine zAp (zAp (zG (fun _=>zB (e2r (e2r ?_))) (fun h=>absurd h (by rw [zFG hwl];decide))))
      have hst:yS key a (k+1) zs ws:=zJF hk (m:=a+1) (by omega) (by omega) (by omega) hwl hw (fun q r x y h1 h2 h3 h4 hx hy=>by
       have:q=a:=by omega
       subst this
       rw [ha?] at hx;cases hx
       exact hall1 r y h3 h4 hy)
      refine ⟨hst.mono (Nat.le_refl _) (by omega),?_⟩
      have qY: ∀q y,a≤q→q<b→ws[q]? =some y→(q<k∧zs[q+1]? =some y)∨(q=k∧y=zs[a])∨(k<q∧zs[q]? =some y):=by
       intro q y h1 h2 hy
       rw [hw] at hy
       unfold yG at hy
       split at hy
       ·exact .inl ⟨by omega,by rw [←hy];exact zAu (by omega)⟩
       ·split at hy
        ·refine .inr (.inl ⟨by omega,?_⟩)
         rw [show q- (k+1- (a+1))=a by omega,ha?] at hy
         cases hy;rfl
        ·exact .inr (.inr ⟨by omega,hy⟩)
      intro p q x y h1 h2 h3 hx hy
      rcases qY p x h1 (by omega) hx with ⟨g1,hx'⟩|⟨g1,rfl⟩|⟨g1,hx'⟩
      ·rcases qY q y (by omega) h3 hy with ⟨g2,hy'⟩|⟨g2,rfl⟩|⟨g2,hy'⟩
       ·exact hs2 (p+1) (q+1) x y (by omega) (by omega) (by omega) hx' hy'
       ·exact ho.asym _ _ (hall1 (p+1) x (by omega) (by omega) hx')
       ·exact hs2 (p+1) q x y (by omega) (by omega) h3 hx' hy'
      ·rcases qY q y (by omega) h3 hy with ⟨g2,hy'⟩|⟨g2,rfl⟩|⟨g2,hy'⟩
       ·omega
       ·omega
       ·exact hall2 q y (by omega) h3 hy'
      ·rcases qY q y (by omega) h3 hy with ⟨g2,hy'⟩|⟨g2,rfl⟩|⟨g2,hy'⟩
       ·omega
       ·omega
       ·exact hs2 p q x y (by omega) h2 h3 hx' hy'
   ·have h: ¬(m:Int) - (a:Int)=1:=by simpa using h
    omega
  rintro s ⟨rfl,hma⟩
  refine zUI (fun s':List α=>s'=s∧b≠m+1) ?_ ?_
  ·refine zG (fun h=> ?_) (fun h=>zB (e2l ⟨rfl,?_⟩))
   ·have h:(b:Int) - (m:Int)=1:=by simpa using h
    have hbm:b=m+1:=by omega
    subst hbm
    refine zC ((zId (z:=s) (i0:=a) (j0:=m) (P:=fun q=> ∀y,s[q]? =some y→ ¬lt s[m] y) (by omega) ?_).mono ?_)
    ·intro i j hi hij hj
     have hh:=vK (xs:=s) (i:=(i+j) / 2) (by omega)
     dsimp only
     rw [zQF i j (by omega)]
     simp only [zJ hh,Int.toNat_natCast,vL hh,zJ hm?,vL hm?,Option.bind_some]
     refine zC ((hcmp _ _).mono (fun c hc=>jZ (fun h1=>zB (.inl ⟨?_,fun y hy=> ?_⟩)) (fun h1=>zB (.inr ⟨rfl,fun h2=>h2 _ hh (hc.1 h1)⟩))))
     ·rw [zF (by omega) (by omega)];congr 1
     ·rw [hh] at hy;cases hy;exact fun h2=>h1 (hc.2 h2)
    ·rintro ⟨s0,zs⟩ ⟨hz,i,hi,hi1,hi2,hP,hN⟩
     simp only at hz hi
     subst hz hi
     have hall1: ∀q y,a≤q→q<i→zs[q]? =some y→ ¬lt zs[m] y:=by
      intro q y hq1 hq2 hy
      have hp:=hP (by omega) _ (vK (by omega))
      by_cases e:q=i-1
      ·subst e;rw [vK (by omega)] at hy;cases hy;exact hp
      ·exact ho.tr _ _ _ (hs1 q (i-1) y _ hq1 (by omega) (by omega) hy (vK (by omega))) hp
     have hall2: ∀q y,i≤q→q<m→zs[q]? =some y→lt zs[m] y:=by
      intro q y hq1 hq2 hy
      refine Classical.byContradiction (fun hnlt=> ?_)
      have hnp:=hN (by omega)
      apply hnp
      intro w hw
      by_cases e:q=i
      ·subst e;rw [hw] at hy;cases hy;exact hnlt
      ·exact ho.tr _ _ _ (hs1 i q w y hi1 (by omega) hq2 hw hy) hnlt
     dsimp only
     refine jY (fun s:Int×List α=> ∃k:Nat,s.1=(k:Int)∧i≤k∧k≤m∧s.2.length=zs.length∧ ∀j,s.2[j]? =yG k m (m+1) zs j) (fun s=>s.1.toNat) ⟨m,rfl,hi2,Nat.le_refl _,rfl,fun j=>(zRS j).symm⟩ ?_
     rintro ⟨s0,ws⟩ ⟨k,hk',hki,hkm,hwl,hw⟩
     simp only at hk' hwl hw
     subst hk'
     refine zI (fun hgt=> ?_) (fun hge=> ?_)
     ·have hgt:(k:Int)>(i:Int):=hgt
      have hx:=vK (xs:=ws) (i:=k) (by omega)
      have hy:=vK (xs:=ws) (i:=k-1) (by omega)
      have hy2:(ws.set k (ws[k-1]'(by omega)))[k-1]? =some (ws[k-1]'(by omega)):=by rw [List.getElem?_set_ne (by omega)];exact hy
      dsimp only
      rw [zF (x:=(k:Int) -1) (by omega) (by omega),show ((k:Int) -1)=((k-1:Nat):Int) by omega]
      simp only [zJ hx,zJ hy,Int.toNat_natCast,vL hx,vL hy,Option.bind_some,zJ hy2,vL hy2]
      refine zB (e2l ⟨⟨k-1,rfl,by omega,by omega,by simp only [List.length_set];exact hwl,zPD (by omega) hkm (by omega) hwl hw hx hy⟩,?_⟩)
      simp only;omega
     ·have hge: ¬(k:Int)>(i:Int):=hge
      have hki':k=i:=by omega
      subst hki'
      refine zAp (zAp (zG (fun _=>zB (e2r (e2r ?_))) (fun h=>absurd h (by rw [zFG hwl];decide))))
      have hst:yS key k (m+1) zs ws:=zJF hk (m:=m) (by omega) (by omega) (by omega) hwl hw (fun q r x y h1 h2 h3 h4 hx hy=>by
       have:r=m:=by omega
       subst this
       rw [hm?] at hy;cases hy
       exact hall2 q x h1 h2 hx)
      refine ⟨hst.mono hi1 (Nat.le_refl _),?_⟩
      have qY: ∀q y,a≤q→q<m+1→ws[q]? =some y→(q<k∧zs[q]? =some y)∨(q=k∧y=zs[m])∨(k<q∧zs[q-1]? =some y):=by
       intro q y h1 h2 hy
       rw [hw] at hy
       unfold yG at hy
       split at hy
       ·refine .inr (.inl ⟨by omega,?_⟩)
        rw [show q+(m-k)=m by omega,hm?] at hy
        cases hy;rfl
       ·split at hy
        ·exact .inr (.inr ⟨by omega,by rw [←hy];exact zAu (by omega)⟩)
        ·exact .inl ⟨by omega,hy⟩
      intro p q x y h1 h2 h3 hx hy
      rcases qY p x h1 (by omega) hx with ⟨g1,hx'⟩|⟨g1,rfl⟩|⟨g1,hx'⟩
      ·rcases qY q y (by omega) h3 hy with ⟨g2,hy'⟩|⟨g2,rfl⟩|⟨g2,hy'⟩
       ·exact hs1 p q x y h1 h2 (by omega) hx' hy'
       ·exact hall1 p x h1 g1 hx'
       ·exact hs1 p (q-1) x y h1 (by omega) (by omega) hx' hy'
      ·rcases qY q y (by omega) h3 hy with ⟨g2,hy'⟩|⟨g2,rfl⟩|⟨g2,hy'⟩
       ·omega
       ·omega
       ·exact ho.asym _ _ (hall2 (q-1) y (by omega) (by omega) hy')
      ·rcases qY q y (by omega) h3 hy with ⟨g2,hy'⟩|⟨g2,rfl⟩|⟨g2,hy'⟩
       ·omega
       ·omega
       ·exact hs1 (p-1) (q-1) x y (by omega) (by omega) (by omega) hx' hy'
   ·have h: ¬(b:Int) - (m:Int)=1:=by simpa using h
    omega
  rintro s' ⟨rfl,hbm⟩
  clear ha? hm?
  rw [zQF a b (by omega)]
  have hM1:2*((a+b) / 2)≤a+b:=by omega
  have hM2:a+b<2*((a+b) / 2)+2:=by omega
  generalize (a+b) / 2=M at hM1 hM2
  rw [zF (x:=(M:Int)+(m:Int)) (by omega) (by omega),zF (x:=(M:Int)+(m:Int) -1) (by omega) (by omega)]
  refine zC ((show Wp _ (fun s:Int×Int×List α=> ∃st r:Nat,s=((st:Int),(r:Int),s')∧((M<m∧st+b=M+m∧r=M)∨(m≤M∧st=a∧r=m))) from ?_).mono ?_)
  ·refine zI (fun h=>zB ⟨M+m-b,M,?_, .inl ⟨?_,?_,rfl⟩⟩) (fun h=>zB ⟨a,m,rfl, .inr ⟨?_,rfl,rfl⟩⟩)
   ·have h:(m:Int)>(M:Int):=h
    rw [zF (by omega) (by omega),show ((M:Int)+(m:Int) - (b:Int))=((M+m-b:Nat):Int) by omega]
   ·have h:(m:Int)>(M:Int):=h
    omega
   ·have h:(m:Int)>(M:Int):=h
    omega
   ·have h: ¬(m:Int)>(M:Int):=h
    omega
  rintro _ ⟨st,r,rfl,hst⟩
  refine zC ((zId (z:=s') (i0:=st) (j0:=r) (P:=fun c=> ∀x y,s'[M+m-1-c]? =some x→s'[c]? =some y→ ¬lt x y) (by omega) ?_).mono ?_)
  ·intro i j hi hij hj
   have hh:=vK (xs:=s') (i:=(i+j) / 2) (by omega)
   have hh2:=vK (xs:=s') (i:=M+m-1- (i+j) / 2) (by omega)
   dsimp only
   rw [zQF i j (by omega),zF (x:=(M:Int)+(m:Int) -1- (((i+j) / 2:Nat):Int)) (by omega) (by omega),show ((M:Int)+(m:Int) -1- (((i+j) / 2:Nat):Int))=((M+m-1- (i+j) / 2:Nat):Int) by omega]
   simp only [zJ hh,zJ hh2,Int.toNat_natCast,vL hh,vL hh2,Option.bind_some]
   refine zC ((hcmp _ _).mono (fun c hc=>jZ (fun h1=>zB (.inl ⟨?_,fun x y hx hy=> ?_⟩)) (fun h1=>zB (.inr ⟨rfl,fun h2=>h2 _ _ hh2 hh (hc.1 h1)⟩))))
   ·rw [zF (by omega) (by omega)];congr 1
   ·rw [hh2] at hx;rw [hh] at hy;cases hx;cases hy;exact fun h2=>h1 (hc.2 h2)
  rintro ⟨s0,zs0⟩ ⟨hz0,start,hs0,hst1,hst2,hP,hN⟩
  simp only at hz0 hs0
  subst hz0 hs0
  dsimp only
  rw [zF (x:=(M:Int)+(m:Int) - (start:Int)) (by omega) (by omega),show ((M:Int)+(m:Int) - (start:Int))=((M+m-start:Nat):Int) by omega]
  have he1:m≤M+m-start:=by omega
  have he2:M+m-start≤b:=by omega
  have he3:start+(M+m-start-m)=M:=by omega
  have hst3:a≤start:=by omega
  have hst4:start≤m:=by omega
  have hl2: ∀q r' x y,start≤q→q<m→m≤r'→r'<M+m-start→zs0[q]? =some x→zs0[r']? =some y→lt y x:=by
   intro q r' x y h1 h2 h3 h4 hx hy
   have hlt:start<r:=by omega
   refine Classical.byContradiction (fun hnl=>hN hlt ?_)
   intro u w hu hw hlt2
   apply hnl
   have k1:lt y w:=by
    by_cases e:r'=M+m-1-start
    ·subst e;rw [hu] at hy;cases hy;exact hlt2
    ·exact tr1 _ _ _ (hs2 r' (M+m-1-start) y u h3 (by omega) (by omega) hy hu) hlt2
   by_cases e:q=start
   ·subst e;rw [hw] at hx;cases hx;exact k1
   ·exact tr2 _ _ _ k1 (hs1 start q w x hst3 (by omega) (by omega) hw hx)
  have hl1: ∀q r' x y,a≤q→q<start→M+m-start≤r'→r'<b→zs0[q]? =some x→zs0[r']? =some y→ ¬lt y x:=by
   intro q r' x y h1 h2 h3 h4 hx hy
   have hlt:st<start:=by omega
   have g1:=vK (xs:=zs0) (i:=start-1) (by omega)
   have g2:=vK (xs:=zs0) (i:=M+m-1- (start-1)) (by omega)
   have hp:=hP hlt _ _ g2 g1
   have k1: ¬lt (zs0[M+m-1- (start-1)]'(by omega)) x:=by
    by_cases e:q=start-1
    ·subst e;rw [g1] at hx;cases hx;exact hp
    ·exact ho.tr _ _ _ (hs1 q (start-1) x _ h1 (by omega) (by omega) hx g1) hp
   by_cases e:r'=M+m-1- (start-1)
   ·subst e;rw [g2] at hy;cases hy;exact k1
   ·exact ho.tr _ _ _ k1 (hs2 (M+m-1- (start-1)) r' _ y (by omega) (by omega) h4 g2 hy)
  generalize he:M+m-start=e at he1 he2 he3 hl1 hl2
  refine zC ((show Wp _ (fun zs:List α=>zs.length=zs0.length∧ ∀k,zs[k]? =yG start m e zs0 k) from ?_).mono ?_)
  ·refine zC ((show Wp _ (fun c:Bool×List α=>c.2=zs0∧(c.1=true→start<m∧m<e)∧(c.1=false→start=m∨m=e)) from ?_).mono ?_)
   ·refine zI (fun h=>zB ⟨rfl,(fun h2=> ?_),fun h2=> ?_⟩) (fun h=>zB ⟨rfl,(fun h2=>by cases h2),fun _=> ?_⟩)
    ·have h:(start:Int)< (m:Int):=h
     have h2:(m:Int)< (e:Int):=of_decide_eq_true h2
     omega
    ·have h2: ¬(m:Int)< (e:Int):=of_decide_eq_false h2
     omega
    ·have h: ¬(start:Int)< (m:Int):=h
     omega
   ·rintro ⟨c,zs⟩ ⟨hz,ht,hf⟩
    simp only at hz ht hf
    subst hz
    refine zG (fun h=> ?_) (fun h=>zB ⟨rfl,fun k=> ?_⟩)
    ·obtain ⟨g1,g2⟩:=ht h
     refine zG (fun _=>zC ((zQl zs start m e g1 g2 (by omega) (by omega)).mono (fun y hy=>zB hy))) (fun h=>absurd h (by rw [Nat.beq_refl];decide))
    ·have:=hf h
     unfold yG
     repeat' split
     all_goals first
      |rfl
      |exact zAu (by omega)
      |(exfalso;omega)
  intro zs hzz
  obtain ⟨hzl,hz⟩:=hzz
  have yX:=zJF hk hst4 he1 (by omega) hzl hz hl2
  have qY: ∀q y,a≤q→q<b→zs[q]? =some y→(q<start∧zs0[q]? =some y)∨(start≤q∧q<M∧zs0[q+(m-start)]? =some y)∨(M≤q∧q<e∧zs0[q- (e-m)]? =some y)∨(e≤q∧zs0[q]? =some y):=by
   intro q y h1 h2 hy
   rw [hz] at hy
   unfold yG at hy
   split at hy
   ·exact .inr (.inl ⟨by omega,by omega,hy⟩)
   ·split at hy
    ·exact .inr (.inr (.inl ⟨by omega,by omega,hy⟩))
    ·by_cases c:q<start
     ·exact .inl ⟨c,hy⟩
     ·exact .inr (.inr (.inr ⟨by omega,hy⟩))
  have r1:wS lt a start zs:=by
   intro p q x y h1 h2 h3 hx hy
   rw [yX.out p (by omega)] at hx
   rw [yX.out q (by omega)] at hy
   exact hs1 p q x y h1 h2 (by omega) hx hy
  have r2:wS lt start M zs:=by
   intro p q x y h1 h2 h3 hx hy
   rw [hz] at hx hy
   unfold yG at hx hy
   rw [if_pos (by omega)] at hx hy
   exact hs2 _ _ x y (by omega) (by omega) (by omega) hx hy
  have r3:wS lt M e zs:=by
   intro p q x y h1 h2 h3 hx hy
   rw [hz] at hx hy
   unfold yG at hx hy
   rw [if_neg (by omega),if_pos (by omega)] at hx hy
   exact hs1 _ _ x y (by omega) (by omega) (by omega) hx hy
  have r4:wS lt e b zs:=by
   intro p q x y h1 h2 h3 hx hy
   rw [yX.out p (by omega)] at hx
   rw [yX.out q (by omega)] at hy
   exact hs2 p q x y (by omega) h2 h3 hx hy
  have rc: ∀q r' x y,a≤q→q<M→M≤r'→r'<b→zs[q]? =some x→zs[r']? =some y→ ¬lt y x:=by
   intro q r' x y h1 h2 h3 h4 hx hy
   rcases qY q x h1 (by omega) hx with ⟨g1,hx'⟩|⟨g1,g2,hx'⟩|⟨g1,g2,hx'⟩|⟨g1,hx'⟩
   ·rcases qY r' y (by omega) h4 hy with ⟨g3,hy'⟩|⟨g3,g4,hy'⟩|⟨g3,g4,hy'⟩|⟨g3,hy'⟩
    ·omega
    ·omega
    ·exact hs1 q _ x y h1 (by omega) (by omega) hx' hy'
    ·exact hl1 q r' x y h1 g1 g3 h4 hx' hy'
   ·rcases qY r' y (by omega) h4 hy with ⟨g3,hy'⟩|⟨g3,g4,hy'⟩|⟨g3,g4,hy'⟩|⟨g3,hy'⟩
    ·omega
    ·omega
    ·exact ho.asym _ _ (hl2 _ _ y x (by omega) (by omega) (by omega) (by omega) hy' hx')
    ·exact hs2 _ r' x y (by omega) (by omega) h4 hx' hy'
   ·omega
   ·omega
  refine zC ((show Wp _ (fun ws:List α=>yS key a M zs ws∧wS lt a M ws) from ?_).mono ?_)
  ·refine zC ((show Wp _ (fun c:Bool×List α=>c.2=zs∧(c.1=true→a<start∧start<M)∧(c.1=false→a=start∨start=M)) from ?_).mono ?_)
   ·refine zI (fun h=>zB ⟨rfl,(fun h2=> ?_),fun h2=> ?_⟩) (fun h=>zB ⟨rfl,(fun h2=>by cases h2),fun _=> ?_⟩)
    ·have h:(a:Int)< (start:Int):=h
     have h2:(start:Int)< (M:Int):=of_decide_eq_true h2
     omega
    ·have h2: ¬(start:Int)< (M:Int):=of_decide_eq_false h2
     omega
    ·have h: ¬(a:Int)< (start:Int):=h
     omega
   ·rintro ⟨c,vs⟩ ⟨hv,ht,hf⟩
    simp only at hv ht hf
    subst hv
    refine zG (fun h=> ?_) (fun h=>zB ⟨yS.refl _ _ _,?_⟩)
    ·obtain ⟨g1,g2⟩:=ht h
     exact zG (fun _=>zC ((ih vs a start M g1 g2 (by omega) (by omega) (by omega) r1 r2).mono (fun y hy=>zB hy))) (fun h=>absurd h (by rw [Nat.beq_refl];decide))
    ·exact zIz r1 r2 (fun q r' x y h1 h2 h3 h4 hx hy=>by have:=hf h;omega)
  intro ws hws
  obtain ⟨hw1,hw2⟩:=hws
  have hwl:ws.length=zs0.length:=hw1.len.trans hzl
  have fin: ∀us,yS key M b ws us→wS lt M b us→yS key a b zs0 us∧wS lt a b us:=by
   intro us hu1 hu2
   refine ⟨((yX.mono hst3 he2).trans (hw1.mono (Nat.le_refl _) (by omega))).trans (hu1.mono (by omega) (Nat.le_refl _)),zIz (hw2.out hu1 (.inl (Nat.le_refl _))) hu2 ?_⟩
   intro q r' x y h1 h2 h3 h4 hx hy
   rw [hu1.out q (by omega)] at hx
   obtain ⟨q',k1,k2,hx'⟩:=hw1.ins q x h1 h2 hx
   obtain ⟨r2,k3,k4,hy'⟩:=hu1.ins r' y h3 h4 hy
   rw [hw1.out r2 (by omega)] at hy'
   exact rc q' r2 x y k1 k2 k3 k4 hx' hy'
  have q3:wS lt M e ws:=r3.out hw1 (.inr (Nat.le_refl _))
  have q4:wS lt e b ws:=r4.out hw1 (.inr (by omega))
  refine zC ((show Wp _ (fun c:Bool×List α=>c.2=ws∧(c.1=true→M<e∧e<b)∧(c.1=false→M=e∨e=b)) from ?_).mono ?_)
  ·refine zI (fun h=>zB ⟨rfl,(fun h2=> ?_),fun h2=> ?_⟩) (fun h=>zB ⟨rfl,(fun h2=>by cases h2),fun _=> ?_⟩)
   ·have h:(M:Int)< (e:Int):=h
    have h2:(e:Int)< (b:Int):=of_decide_eq_true h2
    omega
   ·have h2: ¬(e:Int)< (b:Int):=of_decide_eq_false h2
    omega
   ·have h: ¬(M:Int)< (e:Int):=h
    omega
  ·rintro ⟨c,vs⟩ ⟨hv,ht,hf⟩
   simp only at hv ht hf
   subst hv
   refine zG (fun h=> ?_) (fun h=> ?_)
   ·obtain ⟨g1,g2⟩:=ht h
    refine zG (fun _=>zC ((ih vs M e b g1 g2 (by omega) (by omega) (by omega) q3 q4).mono (fun y hy=> ?_))) (fun h=>absurd h (by rw [Nat.beq_refl];decide))
    exact zG (fun _=>zB (fin _ hy.1 hy.2)) (fun h=>absurd h (by rw [zFG (hy.1.len.trans hwl)];decide))
   ·refine zG (fun _=>zB (fin _ (yS.refl _ _ _) ?_)) (fun h=>absurd h (by rw [zFG hwl];decide))
    exact zIz q3 q4 (fun q r' x y h1 h2 h3 h4 hx hy=>by have:=hf h;omega)
end
end Go.Ve

namespace Go.Ve
open Go
set_option maxRecDepth 1000000
set_option maxHeartbeats 4000000
section
variable {α κ:Type} {cmp:α×α×Unit→Option Int} {lt:α→α→Prop} {key:α→κ}
def zKL (lt:α→α→Prop) (lo i j:Nat) (xs:List α):Prop:= ∀p q x y,lo≤p→p<q→q≤i→q≠j→xs[p]? =some x→xs[q]? =some y→ ¬lt y x
theorem zRJ {lo i:Nat} {xs:List α} (h:wS lt lo i xs):zKL lt lo i i xs:=fun p q x y h0 h1 h2 h3 hx hy=>h p q x y h0 h1 (by omega) hx hy
theorem zTr (ho:Ord lt) {lo i j:Nat} {xs:List α} (h:zKL lt lo i j xs) (hj:j≤i) (hlo:lo≤j) (he:j=lo∨ ∀x y,xs[j]? =some x→xs[j-1]? =some y→ ¬lt x y):wS lt lo (i+1) xs:=by
 intro p q x y hp0 hpq hq hx hy
 by_cases hqj:q=j
 ·subst hqj
  rcases he with he|he
  ·omega
  ·by_cases hp:p=q-1
   ·subst hp
    exact he y x hy hx
   ·have hl:=(List.getElem?_eq_some_iff.1 hy).1
    have hz:xs[q-1]? =some (xs[q-1]'(by omega)):=by simp
    exact ho.tr _ _ _ (h p (q-1) x _ hp0 (by omega) (by omega) (by omega) hx hz) (he y _ hy hz)
 ·exact h p q x y hp0 hpq (by omega) hqj hx hy
theorem zTq (ho:Ord lt) {lo i j:Nat} {xs:List α} (h:zKL lt lo i j xs) (hj:lo<j) (hji:j≤i) (hi:i<xs.length) (hlt:lt (xs[j]'(by omega)) (xs[j-1]'(by omega))):
  zKL lt lo i (j-1) ((xs.set j (xs[j-1]'(by omega))).set (j-1) (xs[j]'(by omega))):=by
 have hjl:j<xs.length:=by omega
 have a1:xs[j]? =some xs[j]:=by simp
 have a2:xs[j-1]? =some (xs[j-1]'(by omega)):=by simp
 have at': ∀m z,((xs.set j (xs[j-1]'(by omega))).set (j-1) (xs[j]'(by omega)))[m]? =some z→(m=j-1∧z=xs[j])∨(m=j∧z=xs[j-1]'(by omega))∨(m≠j∧m≠j-1∧xs[m]? =some z):=by
  intro m z hm
  by_cases e1:m=j-1
  ·subst e1
   rw [List.getElem?_set_self (by rw [List.length_set];omega)] at hm
   cases hm
   exact .inl ⟨rfl,rfl⟩
  ·rw [List.getElem?_set_ne (by omega)] at hm
   by_cases e2:m=j
   ·subst e2
    rw [List.getElem?_set_self (by omega)] at hm
    cases hm
    exact .inr (.inl ⟨rfl,rfl⟩)
   ·rw [List.getElem?_set_ne (by omega)] at hm
    exact .inr (.inr ⟨e2,e1,hm⟩)
 intro p q x y hp0 hpq hq hqj hx hy
 rcases at' q y hy with ⟨g,_⟩|⟨rfl,rfl⟩|⟨g1,g2,hy2⟩
 ·omega
 ·rcases at' p x hx with ⟨rfl,rfl⟩|⟨g,_⟩|⟨g3,g4,hx⟩
  ·exact ho.asym _ _ hlt
  ·omega
  ·exact h p (q-1) x _ hp0 (by omega) (by omega) (by omega) hx a2
 ·rcases at' p x hx with ⟨rfl,rfl⟩|⟨rfl,rfl⟩|⟨g3,g4,hx⟩
  ·exact h j q _ y (by omega) (by omega) hq g1 a1 hy2
  ·exact h (p-1) q _ y (by omega) (by omega) hq g1 a2 hy2
  ·exact h p q x y hp0 hpq hq g1 hx hy2
theorem zVk (hk:zMd lt key) {j:Nat} {xs:List α} (hj:0<j) (hjl:j<xs.length) (hlt:lt xs[j] (xs[j-1]'(by omega))):
  yS key (j-1) (j+1) xs ((xs.set j (xs[j-1]'(by omega))).set (j-1) xs[j]):=by
 have h1:=vK hjl
 have h2:=vK (xs:=xs) (i:=j-1) (by omega)
 refine zJF hk (m:=j) (by omega) (by omega) (by omega) (by simp) (zPD (m:=j) (k:=j) hj (Nat.le_refl _) hjl rfl (fun k=>(zRS k).symm) h1 h2) ?_
 intro q r x y g1 g2 g3 g4 hx hy
 have e1:q=j-1:=by omega
 have e2:r=j:=by omega
 subst e1 e2
 rw [h2] at hx;rw [h1] at hy
 cases hx;cases hy
 exact hlt
theorem zCM (hk:zMd lt key) (hcmp: ∀x y,Wp (cmp (x,y,())) (fun c=>c<0↔lt x y)) (xs:List α) (a b:Nat) (hab:a≤b) (hb:b≤xs.length) (hl:xs.length<1099511627776):
  Wp (xT cmp xs ((a:Int),(b:Int),(),())) (fun r=>yS key a b xs r.1∧wS lt a b r.1):=by
 have ho:=hk.ord
 unfold xT
 dsimp only
 rw [zF (by omega) (by omega)]
 refine jY (fun s:Int×List α=>yS key a b xs s.2∧ ∃i:Nat,s.1=(i:Int)∧a+1≤i∧(i≤b∨i=a+1)∧wS lt a i s.2) (fun s=>((b:Int) -s.1).toNat)
  ⟨yS.refl _ _ _,a+1,by simp only;omega,Nat.le_refl _, .inr rfl,zVn⟩ ?_
 rintro ⟨s,zs⟩ ⟨hst,i,hi,hi1,hi2,hso⟩
 simp only at hi hst hso
 subst hi
 have hlen:zs.length=xs.length:=hst.len
 refine zI (fun hlt=> ?_) (fun hge=> ?_)
 ·have hlt:(i:Int)< (b:Int):=hlt
  refine zC ((show Wp _ (fun ys:List α=>yS key a b zs ys∧wS lt a (i+1) ys) from ?_).mono (fun ys hys=>zB (e2l ⟨⟨hst.trans hys.1,i+1,?_,by omega, .inl (by omega),hys.2⟩,?_⟩)))
  ·refine jY (fun s:Int×List α=>yS key a b zs s.2∧ ∃j:Nat,s.1=(j:Int)∧a≤j∧j≤i∧zKL lt a i j s.2) (fun s=>s.1.toNat) ⟨yS.refl _ _ _,i,rfl,by omega,Nat.le_refl _,zRJ hso⟩ ?_
   rintro ⟨s,ys⟩ ⟨hyst,j,hj,hja,hji,hex⟩
   simp only at hj hyst hex
   subst hj
   have hyl:ys.length=xs.length:=hyst.len.trans hlen
   refine zC ((show Wp _ (fun c:Bool×List α=>c.2=ys∧(c.1=true→a<j∧ ∀x y,ys[j]? =some x→ys[j-1]? =some y→lt x y)∧(c.1=false→j=a∨ ∀x y,ys[j]? =some x→ys[j-1]? =some y→ ¬lt x y)) from ?_).mono ?_)
   ·refine zI (fun hj0=> ?_) (fun hj0=>zB ⟨rfl,(fun h=>by cases h),fun _=> .inl ?_⟩)
    ·have hj0:(j:Int)>(a:Int):=hj0
     have hy1:=vK (xs:=ys) (i:=j) (by omega)
     have hy2:=vK (xs:=ys) (i:=j-1) (by omega)
     dsimp only
     rw [zF (by omega) (by omega),show ((j:Int) -1)=((j-1:Nat):Int) by omega]
     simp only [zJ hy1,zJ hy2,Int.toNat_natCast,vL hy1,vL hy2,Option.bind_some]
     refine zC ((hcmp _ _).mono (fun c hc=>zB ⟨rfl,(fun h=>⟨by omega,?_⟩),fun h=> .inr ?_⟩))
     ·intro x y hx hy
      rw [hy1] at hx;rw [hy2] at hy
      cases hx;cases hy
      exact hc.1 (of_decide_eq_true h)
     ·intro x y hx hy
      rw [hy1] at hx;rw [hy2] at hy
      cases hx;cases hy
      exact fun hh=>(of_decide_eq_false h) (hc.2 hh)
    ·have hj0: ¬(j:Int)>(a:Int):=hj0
     omega
   ·rintro ⟨c,ws⟩ ⟨hw,ht,hf⟩
    simp only at hw ht hf
    subst hw
    refine zG (fun hb'=> ?_) (fun hb'=>zB (e2r ⟨hyst,zTr ho hex hji hja (hf hb')⟩))
    obtain ⟨hj0,hlt2⟩:=ht hb'
    have hy1:=vK (xs:=ws) (i:=j) (by omega)
    have hy2:=vK (xs:=ws) (i:=j-1) (by omega)
    have hy3:(ws.set j (ws[j-1]'(by omega)))[j-1]? =some (ws[j-1]'(by omega)):=by
     rw [List.getElem?_set_ne (by omega)];exact hy2
    dsimp only
    rw [zF (by omega) (by omega),show ((j:Int) -1)=((j-1:Nat):Int) by omega]
    simp only [zJ hy1,zJ hy2,Int.toNat_natCast,vL hy1,vL hy2,Option.bind_some,zJ hy3,vL hy3]
    refine zB (e2l ⟨⟨hyst.trans ((zVk hk (by omega) (by omega) (hlt2 _ _ hy1 hy2)).mono (by omega) (by omega)),j-1,rfl,by omega,by omega,zTq ho hex hj0 hji (by omega) (hlt2 _ _ hy1 hy2)⟩,?_⟩)
    simp only;omega
  ·simp only;rw [zF (by omega) (by omega)];omega
  ·simp only;rw [zF (by omega) (by omega)];omega
 ·have hge: ¬(i:Int)< (b:Int):=hge
  exact zAp (zG (fun _=>zB (e2r ⟨hst,hso.sub (Nat.le_refl _) (by omega)⟩)) (fun h=>absurd h (by rw [zFG hlen];decide)))
def zRi (lt:α→α→Prop) (bs n:Nat) (xs:List α):Prop:= ∀j,wS lt (j*bs) (min ((j+1)*bs) n) xs
theorem zQk (hk:zMd lt key) (hcmp: ∀x y,Wp (cmp (x,y,())) (fun c=>c<0↔lt x y)) (xs:List α) (hl:xs.length≤1048576):
  Wp (zJt cmp xs ((xs.length:Int),(),())) (fun r=>yS key 0 xs.length xs r.1∧wS lt 0 xs.length r.1):=by
 unfold zJt
 dsimp only
 generalize hn:xs.length=n at hl
 refine zC ((show Wp _ (fun s:List α×Int=>yS key 0 n xs s.1∧ ∃t:Nat,s.2=((20*t:Nat):Int)∧20*t≤n∧n<20*t+20∧ ∀j,j<t→wS lt (j*20) ((j+1)*20) s.1) from ?_).mono ?_)
 ·refine jY (fun s:Int×List α×Int=>yS key 0 n xs s.2.1∧ ∃t:Nat,s.1=((20*t+20:Nat):Int)∧s.2.2=((20*t:Nat):Int)∧20*t≤n∧ ∀j,j<t→wS lt (j*20) ((j+1)*20) s.2.1) (fun s=>((n:Int)+20-s.1).toNat)
   ⟨yS.refl _ _ _,0,rfl,rfl,Nat.zero_le _,fun j hj=>by omega⟩ ?_
  rintro ⟨sb,zs,sa⟩ ⟨hst,t,hsb,hsa,htn,hbl⟩
  simp only at hsb hsa hst hbl
  subst hsb hsa
  have hzl:=hst.len
  refine zI (fun h=> ?_) (fun h=>zB (e2r ⟨hst,t,rfl,htn,?_,hbl⟩))
  ·have h:((20*t+20:Nat):Int)≤(n:Int):=h
   refine zG (fun _=> ?_) (fun h=>absurd h (by rw [Nat.beq_refl];decide))
   refine zC ((zCM hk hcmp zs (20*t) (20*t+20) (by omega) (by omega) (by omega)).mono (fun y hy=>zB (e2l ⟨⟨hst.trans (hy.1.mono (by omega) (by omega)),t+1,?_,?_,by omega,?_⟩,?_⟩)))
   ·simp only;rw [zF (by omega) (by omega)];omega
   ·simp only;omega
   ·intro j hj
    by_cases e:j=t
    ·subst e
     rw [show j*20=20*j by omega,show (j+1)*20=20*j+20 by omega]
     exact hy.2
    ·exact (hbl j (by omega)).out hy.1 (.inl (by omega))
   ·simp only;rw [zF (by omega) (by omega)];omega
  ·have h: ¬((20*t+20:Nat):Int)≤(n:Int):=h
   omega
 rintro ⟨zs,sa⟩ ⟨hst,t,hsa,htn,htn2,hbl⟩
 simp only at hsa hst hbl
 subst hsa
 have hzl:=hst.len
 refine zG (fun _=> ?_) (fun h=>absurd h (by rw [Nat.beq_refl];decide))
 refine zC ((zCM hk hcmp zs (20*t) n htn (by omega) (by omega)).mono (fun y hy=> ?_))
 have hB:zRi lt 20 n y.1:=by
  intro j
  by_cases e:j<t
  ·rw [Nat.min_eq_left (by omega)]
   exact (hbl j e).out hy.1 (.inl (by omega))
  ·by_cases e2:j=t
   ·subst e2
    refine hy.2.sub (by omega) (Nat.min_le_right _ _)
   ·intro p q x y' h1 h2 h3
    omega
 have hst2:yS key 0 n xs y.1:=hst.trans (hy.1.mono (by omega) (Nat.le_refl _))
 refine jY (fun s:Int×List α=>yS key 0 n xs s.2∧ ∃bs:Nat,s.1=(bs:Int)∧20≤bs∧bs≤2097152∧zRi lt bs n s.2) (fun s=>((n:Int) -s.1).toNat) ⟨hst2,20,rfl,Nat.le_refl _,by omega,hB⟩ ?_
 rintro ⟨sbs,ws⟩ ⟨hw,bs,hbs,hbs1,hbs2,hbl2⟩
 simp only at hbs hw hbl2
 subst hbs
 have hwl:=hw.len
 refine zI (fun h=> ?_) (fun h=> ?_)
 ·have h:(bs:Int)< (n:Int):=h
  dsimp only
  rw [zF (x:=(2:Int)*(bs:Int)) (by omega) (by omega)]
  refine zC ((show Wp _ (fun s:Int×List α=>yS key 0 n ws s.2∧ ∃t:Nat,s.1=((t*(2*bs):Nat):Int)∧t*(2*bs)≤n∧n< (t+1)*(2*bs)∧(∀j,j<t→wS lt (j*(2*bs)) ((j+1)*(2*bs)) s.2)∧ ∀j,2*t≤j→wS lt (j*bs) (min ((j+1)*bs) n) s.2) from ?_).mono ?_)
  ·refine jY (fun s:Int×List α×Int=>yS key 0 n ws s.2.1∧ ∃t:Nat,s.1=(((t+1)*(2*bs):Nat):Int)∧s.2.2=((t*(2*bs):Nat):Int)∧t*(2*bs)≤n∧(∀j,j<t→wS lt (j*(2*bs)) ((j+1)*(2*bs)) s.2.1)∧ ∀j,2*t≤j→wS lt (j*bs) (min ((j+1)*bs) n) s.2.1) (fun s=>((n:Int)+2*(bs:Int) -s.1).toNat)
    ⟨yS.refl _ _ _,0,by simp only;omega,by simp,by omega,fun j hj=>by omega,fun j _=>hbl2 j⟩ ?_
   rintro ⟨sb,vs,sa⟩ ⟨hv,t,hsb,hsa,htn',hb1,hb2⟩
   simp only at hsb hsa hv hb1 hb2
   subst hsb hsa
   have hvl:vs.length=n:=by rw [hv.len,hwl,hn]
   have eT:(t+1)*(2*bs)=t*(2*bs)+2*bs:=Nat.succ_mul _ _
   have eA:2*t*bs=t*(2*bs):=by rw [Nat.mul_comm 2 t,Nat.mul_assoc]
   have eB:(2*t+1)*bs=t*(2*bs)+bs:=by rw [Nat.succ_mul,eA]
   have eC:(2*t+2)*bs=t*(2*bs)+2*bs:=by rw [show 2*t+2=(2*t+1)+1 from rfl,Nat.succ_mul,eB];omega
   generalize hA:t*(2*bs)=A at*
   refine zI (fun h2=> ?_) (fun h2=>zB (e2r ⟨hv,t,by rw [hA],by rw [hA];exact htn',?_,hb1,hb2⟩))
   ·have h2:(((t+1)*(2*bs):Nat):Int)≤(n:Int):=h2
    rw [eT] at h2 ⊢
    refine zG (fun _=> ?_) (fun h=>absurd h (by rw [Nat.beq_refl];decide))
    dsimp only
    rw [zF (x:=(A:Int)+(bs:Int)) (by omega) (by omega),show ((A:Int)+(bs:Int))=((A+bs:Nat):Int) by omega]
    have s1:=hb2 (2*t) (Nat.le_refl _)
    have s2:=hb2 (2*t+1) (by omega)
    rw [show 2*t+1+1=2*t+2 from rfl,eC,eB,Nat.min_eq_left (by omega)] at s2
    rw [eB,eA,Nat.min_eq_left (by omega)] at s1
    unfold zEx
    refine zC ((zEy hk hcmp 1048576 vs A (A+bs) (A+2*bs) (by omega) (by omega) (by omega) (by omega) (by omega) s1 s2).mono (fun y hy=>zB (e2l ⟨⟨hv.trans (hy.1.mono (by omega) (by omega)),t+1,?_,?_,?_,?_,?_⟩,?_⟩)))
    ·simp only
     rw [zF (by omega) (by omega),show (t+1+1)*(2*bs)=A+2*bs+2*bs by rw [Nat.succ_mul,eT]]
     omega
    ·simp only;rw [eT]
    ·rw [eT];omega
    ·intro j hj
     by_cases e:j=t
     ·subst e
      rw [hA,eT]
      exact hy.2
     ·refine (hb1 j (by omega)).out hy.1 (.inl ?_)
      have:(j+1)*(2*bs)≤t*(2*bs):=Nat.mul_le_mul_right _ (by omega)
      omega
    ·intro j hj
     refine (hb2 j (by omega)).out hy.1 (.inr ?_)
     have:(2*t+2)*bs≤j*bs:=Nat.mul_le_mul_right _ (by omega)
     omega
    ·simp only
     rw [zF (by omega) (by omega)]
     omega
   ·have h2: ¬(((t+1)*(2*bs):Nat):Int)≤(n:Int):=h2
    omega
  rintro ⟨sa,vs⟩ ⟨hv,t,hsa,ht1,ht2,hb1,hb2⟩
  simp only at hsa hv hb1 hb2
  subst hsa
  have hvl:vs.length=n:=by rw [hv.len,hwl,hn]
  have eT:(t+1)*(2*bs)=t*(2*bs)+2*bs:=Nat.succ_mul _ _
  have eA:2*t*bs=t*(2*bs):=by rw [Nat.mul_comm 2 t,Nat.mul_assoc]
  have eB:(2*t+1)*bs=t*(2*bs)+bs:=by rw [Nat.succ_mul,eA]
  have eC:(2*t+2)*bs=t*(2*bs)+2*bs:=by rw [show 2*t+2=(2*t+1)+1 from rfl,Nat.succ_mul,eB];omega
  have s1:=hb2 (2*t) (Nat.le_refl _)
  have s2:=hb2 (2*t+1) (by omega)
  rw [show 2*t+1+1=2*t+2 from rfl,eC,eB,Nat.min_eq_right (by omega)] at s2
  rw [eB,eA] at s1
  have hbelow: ∀j,j<t→(j+1)*(2*bs)≤t*(2*bs):=fun j hj=>Nat.mul_le_mul_right _ (by omega)
  have habove: ∀j,t<j→t*(2*bs)+2*bs≤j*(2*bs):=fun j hj=>by rw [←eT];exact Nat.mul_le_mul_right _ (by omega)
  generalize hA:t*(2*bs)=A at*
  have fin: ∀us,yS key A n vs us→wS lt A n us→yS key 0 n xs us∧zRi lt (bs*2) n us:=by
   intro us hu1 hu2
   refine ⟨(hw.trans hv).trans (hu1.mono (by omega) (Nat.le_refl _)),?_⟩
   intro j
   rw [show bs*2=2*bs by omega]
   by_cases e:j<t
   ·have:=hbelow j e
    rw [Nat.min_eq_left (by omega)]
    exact (hb1 j e).out hu1 (.inl this)
   ·by_cases e2:j=t
    ·subst e2
     rw [hA,eT,Nat.min_eq_right (by omega)]
     exact hu2
    ·have:=habove j (by omega)
     intro p q x y' h1 h2 h3
     omega
  dsimp only
  rw [zF (x:=(A:Int)+(bs:Int)) (by omega) (by omega),show ((A:Int)+(bs:Int))=((A+bs:Nat):Int) by omega]
  refine zC ((show Wp _ (fun us:List α=>yS key 0 n xs us∧zRi lt (bs*2) n us) from ?_).mono (fun us hus=>zB (e2l ⟨⟨hus.1,bs*2,?_,by omega,by omega,hus.2⟩,?_⟩)))
  ·refine zI (fun h2=> ?_) (fun h2=>zB (fin vs (yS.refl _ _ _) ?_))
   ·have h2:((A+bs:Nat):Int)< (n:Int):=h2
    rw [Nat.min_eq_left (by omega)] at s1
    refine zG (fun _=> ?_) (fun h=>absurd h (by rw [Nat.beq_refl];decide))
    unfold zEx
    exact zC ((zEy hk hcmp 1048576 vs A (A+bs) n (by omega) (by omega) (by omega) (by omega) (by omega) s1 s2).mono (fun y hy=>zB (fin _ hy.1 hy.2)))
   ·have h2: ¬((A+bs:Nat):Int)< (n:Int):=h2
    rw [Nat.min_eq_right (by omega)] at s1
    exact s1
  ·simp only;rw [zF (by omega) (by omega)];omega
  ·simp only;rw [zF (by omega) (by omega)];omega
 ·have h: ¬(bs:Int)< (n:Int):=h
  refine zAp (zG (fun _=>zB (e2r ⟨hw,?_⟩)) (fun h=>absurd h (by simp only;rw [hwl,hn,Nat.beq_refl];decide)))
  have:=hbl2 0
  rw [Nat.zero_mul,Nat.zero_add,Nat.one_mul,Nat.min_eq_right (by omega)] at this
  exact this
theorem zKU (hk:zMd lt key) (hcmp: ∀x y,Wp (cmp (x,y,())) (fun c=>c<0↔lt x y)) (xs:List α) (hl:xs.length≤1048576):
  Wp (zDX cmp xs ((),())) (fun r=>r.1.length=xs.length∧zF0 key xs r.1∧r.1.Pairwise (fun x y=> ¬lt y x)):=by
 unfold zDX
 dsimp only
 refine zG (fun _=> ?_) (fun h=>absurd h (by rw [Nat.beq_refl];decide))
 refine zC ((zQk hk hcmp xs hl).mono (fun y hy=> ?_))
 refine zG (fun _=>zB ⟨hy.1.len,hy.1.same,?_⟩) (fun h=>absurd h (by rw [zFG hy.1.len];decide))
 rw [List.pairwise_iff_getElem]
 intro p q hp hq hpq
 have:=hy.1.len
 have hq:q<y.1.length:=hq
 exact hy.2 p q _ _ (Nat.zero_le _) hpq (by omega) (by simp) (by simp)
end
end Go.Ve

namespace Go.Ve
open Go
set_option maxRecDepth 1000000
set_option maxHeartbeats 4000000
theorem zG5: ∀ (more acc:List (Ty.El qQ)),acc.Pairwise hlt→(more.foldl zFK acc).Pairwise hlt∧ ∀h,h∈more.foldl zFK acc↔h∈acc∨h∈more
 |[],acc,hp=>⟨hp,fun h=>by simp⟩
 |x::more,acc,hp=>by
  have heq: ∀a b:Ty.El qQ,zPh a b=true↔a=b:=fun a b=>⟨fun h=>zGE h,fun h=>by subst h;simp [zPh]⟩
  have h1:(zFK acc x).Pairwise hlt:=zGS zKh (fun _ _=>zXq) heq (fun a b h1 h2=>zXp h1 (fun e=>h2 e.symm)) hp
  obtain ⟨h2,h3⟩:=zG5 more (zFK acc x) h1
  refine ⟨h2,fun h=> ?_⟩
  rw [List.foldl_cons,h3 h,show (h∈zFK acc x↔h∈acc∨h=x) from zKe heq,List.mem_cons,or_assoc]
theorem zKf {p:Ty.El zH} {b:Ty.El zA} : ∀ (l:List (Ty.El zA)) (acc:List (Ty.El qQ)),acc.Pairwise hlt→
  (l.foldl (yX p b) acc).Pairwise hlt∧ ∀h,h∈l.foldl (yX p b) acc↔h∈acc∨ ∃x,x∈l∧x.1=p∧zBY x b=0∧h∈x.2.2.2.2.2.2.2.2.2.2.2.1
 |[],acc,hp=>⟨hp,fun h=>by simp⟩
 |x::l,acc,hp=>by
  cases hc:v8 x.1 p&&(zBY x b==0) with
  |true=>
   have hs:yX p b acc x=x.2.2.2.2.2.2.2.2.2.2.2.1.foldl zFK acc:=by unfold yX;rw [hc];rfl
   have hc2:x.1=p∧zBY x b=0:=by
    rw [Bool.and_eq_true] at hc
    exact ⟨zDv.1 hc.1,by simpa using hc.2⟩
   obtain ⟨h1,h2⟩:=zG5 x.2.2.2.2.2.2.2.2.2.2.2.1 acc hp
   rw [←hs] at h1 h2
   obtain ⟨h3,h4⟩:=zKf l (yX p b acc x) h1
   refine ⟨h3,fun h=> ?_⟩
   rw [List.foldl_cons,h4 h,h2 h]
   constructor
   ·rintro ((h|h)|⟨y,hy,g⟩)
    ·exact .inl h
    ·exact .inr ⟨x,by simp,hc2.1,hc2.2,h⟩
    ·exact .inr ⟨y,List.mem_cons_of_mem _ hy,g⟩
   ·rintro (h|⟨y,hy,g⟩)
    ·exact .inl (.inl h)
    ·rcases List.mem_cons.1 hy with rfl|hy
     ·exact .inl (.inr g.2.2)
     ·exact .inr ⟨y,hy,g⟩
  |false=>
   have hs:yX p b acc x=acc:=by unfold yX;rw [hc];rfl
   have hc2: ¬(x.1=p∧zBY x b=0):=by
    rintro ⟨h1,h2⟩
    rw [zDv.2 h1,h2] at hc
    cases hc
   obtain ⟨h3,h4⟩:=zKf l acc hp
   rw [List.foldl_cons,hs]
   refine ⟨h3,fun h=> ?_⟩
   rw [h4 h]
   constructor
   ·rintro (h|⟨y,hy,g⟩)
    ·exact .inl h
    ·exact .inr ⟨y,List.mem_cons_of_mem _ hy,g⟩
   ·rintro (h|⟨y,hy,g⟩)
    ·exact .inl h
    ·rcases List.mem_cons.1 hy with rfl|hy
     ·exact absurd ⟨g.1,g.2.1⟩ hc2
     ·exact .inr ⟨y,hy,g⟩
theorem zAG (l:List (Ty.El zA)) (p:Ty.El zH) (b:Ty.El zA):(zEo l p b).Pairwise hlt:=(zKf l [] List.Pairwise.nil).1
theorem zDz (l:List (Ty.El zA)) (p:Ty.El zH) (b:Ty.El zA) (h:Ty.El qQ):h∈zEo l p b↔ ∃x,x∈l∧x.1=p∧zBY x b=0∧h∈x.2.2.2.2.2.2.2.2.2.2.2.1:=by
 have:=(zKf (p:=p) (b:=b) l [] List.Pairwise.nil).2 h
 rw [show zEo l p b=l.foldl (yX p b) [] from rfl,this]
 simp
noncomputable def zAm (p:Ty.El zH) (l:List (Ty.El zA)):List (Ty.El zA):=zLh (fun x:Ty.El zA=>x.1) p l
theorem zTG (p:Ty.El zH) (x:Ty.El zA) (l:List (Ty.El zA)):zAm p (x::l)=if x.1=p then x::zAm p l else zAm p l:=by
 unfold zAm zLh
 rw [List.filter_cons]
 by_cases h:x.1=p
 ·simp [h]
 ·simp [h]
theorem zDa {p:Ty.El zH} {x:Ty.El zA} {l:List (Ty.El zA)} :x∈zAm p l↔x∈l∧x.1=p:=by
 unfold zAm zLh
 rw [List.mem_filter]
 simp
def zKF (c:Option (Ty.El zA)) (l:List (Ty.El zA)):Option (Ty.El zA):=l.foldl (fun c x=>bif zUq x c then some x else c) c
theorem zDJ {p:Ty.El zH} : ∀ (l:List (Ty.El zA)) (c:Option (Ty.El zA)),l.foldl (zL9 p) c=zKF c (zAm p l)
 |[],c=>rfl
 |x::l,c=>by
  rw [List.foldl_cons,zTG]
  by_cases h:x.1=p
  ·rw [if_pos h]
   have hb:zL9 p c x=bif zUq x c then some x else c:=by unfold zL9;rw [zDv.2 h];rfl
   rw [hb,zDJ l]
   rfl
  ·rw [if_neg h]
   have hp:v8 x.1 p=false:=by
    rw [Bool.eq_false_iff]
    exact fun hh=>h (zDv.1 hh)
   have hb:zL9 p c x=c:=by unfold zL9;rw [hp];rfl
   rw [hb,zDJ l]
theorem zDK (l:List (Ty.El zA)) (p:Ty.El zH):zDL l p=zKF none (zAm p l):=zDJ l none
theorem zSd {l l':List (Ty.El zA)} (h:zF0 (fun x:Ty.El zA=>x.1) l l'):zAX l=zAX l':=by
 have hm: ∀x,x∈l↔x∈l':=by
  intro x
  have h1:= @zDa x.1 x l
  have h2:= @zDa x.1 x l'
  have h3:zAm x.1 l=zAm x.1 l':=h x.1
  rw [h3] at h1
  constructor
  ·intro hx;exact (h2.1 (h1.2 ⟨hx,rfl⟩)).1
  ·intro hx;exact (h1.1 (h2.2 ⟨hx,rfl⟩)).1
 have hP:zR0 l=zR0 l':=zC7 zHh (zGF l) (zGF l') (fun p=>by
  rw [zJO,zJO]
  exact ⟨fun ⟨x,hx,e⟩=>⟨x,(hm x).1 hx,e⟩,fun ⟨x,hx,e⟩=>⟨x,(hm x).2 hx,e⟩⟩)
 unfold zAX
 rw [hP]
 congr 1
 funext p
 unfold mrg
 have hb:zDL l p=zDL l' p:=by
  rw [zDK,zDK]
  exact congrArg (zKF none) (h p)
 rw [hb]
 cases zDL l' p with
 |none=>rfl
 |some b=>
  have hh:zEo l p b=zEo l' p b:=zC7 zKh (zAG _ _ _) (zAG _ _ _) (fun h'=>by
   rw [zDz,zDz]
   exact ⟨fun ⟨x,hx,e⟩=>⟨x,(hm x).1 hx,e⟩,fun ⟨x,hx,e⟩=>⟨x,(hm x).2 hx,e⟩⟩)
  rw [Option.map_some,Option.map_some,hh]
end Go.Ve

namespace Go.Ve
open Go
def vG {α:Type} (eq:α→α→Bool):List α→List α
 |[]=>[]
 |[x]=>[x]
 |x::y::r=>bif eq x y then vG eq (y::r) else x::vG eq (y::r)
theorem zC5 {α:Type} {eq:α→α→Bool} (he: ∀x y,eq x y=true↔x=y) (z:α): ∀ (l:List α),z∈vG eq l↔z∈l
 |[]=>Iff.rfl
 |[x]=>Iff.rfl
 |x::y::r=>by
  simp only [vG]
  cases h:eq x y with
  |true=>
   rw [cond_true,zC5 he z (y::r),(he x y).1 h]
   simp
  |false=>
   rw [cond_false,List.mem_cons,zC5 he z (y::r),List.mem_cons (a:=z) (b:=x)]
theorem zFZ {α:Type} {eq:α→α→Bool} {R:α→α→Prop} (he: ∀x y,eq x y=true↔x=y) (ho:Ord R) (htot: ∀x y, ¬R y x→x≠y→R x y): ∀ (l:List α),l.Pairwise (fun x y=> ¬R y x)→(vG eq l).Pairwise R
 |[],_=>List.Pairwise.nil
 |[x],_=>List.pairwise_singleton _ _
 |x::y::r,hp=>by
  have hp2:=hp
  rw [List.pairwise_cons] at hp
  have ih:=zFZ he ho htot (y::r) hp.2
  simp only [vG]
  cases h:eq x y with
  |true=>exact ih
  |false=>
   rw [cond_false,List.pairwise_cons]
   refine ⟨fun z hz=> ?_,ih⟩
   have hne:x≠y:=fun e=>by rw [(he x y).2 e] at h;cases h
   have hxy:R x y:=htot x y (hp.1 y (by simp)) hne
   have hz2:=(zC5 he z (y::r)).1 hz
   rcases List.mem_cons.1 hz2 with rfl|hz3
   ·exact hxy
   ·have hyz: ¬R z y:=by
     have:=hp.2
     rw [List.pairwise_cons] at this
     exact this.1 z hz3
    exact Classical.byContradiction (fun hn=>ho.tr y z x hyz hn hxy)
theorem zN3 (a b:Ty.El qQ):zPh a b=true↔a=b:=⟨fun h=>zGE h,fun h=>by subst h;simp [zPh]⟩
theorem zQN {l:List (Ty.El zA)} {p:Ty.El zH} {b:Ty.El zA} {hs:List (Ty.El qQ)} (hp:hs.Pairwise (fun x y=> ¬hlt y x)) (hm: ∀h,h∈hs↔ ∃x,x∈l∧x.1=p∧zBY x b=0∧h∈x.2.2.2.2.2.2.2.2.2.2.2.1):
  vG zPh hs=zEo l p b:=
 zC7 zKh (zFZ zN3 zKh (fun _ _ h1 h2=>zXp h1 h2) hs hp) (zAG l p b) (fun h=>by rw [zC5 zN3,hm,zDz])
end Go.Ve

namespace Go.Ve
open Go
set_option maxRecDepth 100000
theorem zQL:z8=xT zM:=rfl
theorem zQi: ∀n,z2 n=zA3 zM n:=by
 intro n
 induction n with
 |zero=>rfl
 |succ n ih=>
  show uS (z2 n)=zGq zM (zA3 zM n)
  rw [ih]
  rfl
theorem zRB:qH=zEx zM:=zQi 1048576
theorem zVm:qO=zJt zM:=by
 unfold qO zJt
 rw [zRB,zQL]
theorem zOT:qR=zDX zM:=by
 unfold qR zDX
 rw [zVm]
theorem zVP:zMd rlt (fun x:Ty.El zA=>x.1) where
 ord:=zUS
 ne:=fun x y h e=>by
  unfold rlt at h
  rw [e] at h
  exact zHh.asym _ _ h h
theorem qAa (x y:Ty.El zA):Wp (zM (x,y,())) (fun c=>c<0↔rlt x y):=by
 unfold zM
 dsimp only
 exact zC (qJ (zJA _ _) (zB zM4))
theorem zMj (l:List (Ty.El zA)) (hl:l.length≤1048576):
  Wp (qR l ((),())) (fun r=>r.1.length=l.length∧zF0 (fun x:Ty.El zA=>x.1) l r.1∧r.1.Pairwise (fun x y=> ¬rlt y x)):=by
 rw [zOT]
 exact zKU zVP qAa l hl
end Go.Ve

namespace Go.Ve
open Go
def zXV {α:Type} (f:List V→Option (α×List V)):List V→Option (List α)
 |[]=>some []
 |e::r=>match f e.cells with
  |some (x,[])=>match zXV f r with
   |some xs=>some (x::xs)
   |none=>none
  |_=>none
def Ty.unc:(t:Ty)→List V→Option (t.El×List V)
 | .pair a b,cs=>match a.unc cs with
  |some (x,r)=>match b.unc r with
   |some (y,r)=>some ((x,y),r)
   |none=>none
  |none=>none
 | .sl t,cs=>match cs with
  | .sl es::r=>match zXV t.unc es with
   |some xs=>some (xs,r)
   |none=>none
  |cs=>zIl t cs
 | .int k,cs=>zE3 k cs
 | .bool,cs=>zDj cs
 | .str,cs=>zE2 cs
 | .unit,cs=>some ((),cs)
 | .rf,cs=>zIm cs
theorem zSJ {α:Type} {f:List V→Option (α×List V)} : ∀ {es:List V} {xs:List α},zXV f es=some xs→es.length=xs.length∧ ∀ (i:Nat) (x:α),xs[i]? =some x→ ∃e,es[i]? =some e∧f e.cells=some (x,[])
 |[],xs,h=>by simp only [zXV,Option.some.injEq] at h;subst h;exact ⟨rfl,fun i x h=>by simp at h⟩
 |e::r,xs,h=>by
  simp only [zXV] at h
  split at h
  ·rename_i x hx
   split at h
   ·rename_i xs' hxs
    simp only [Option.some.injEq] at h
    subst h
    obtain ⟨h1,h2⟩:=zSJ hxs
    refine ⟨by simp [h1],fun i y hy=> ?_⟩
    cases i with
    |zero=>simp only [List.getElem?_cons_zero,Option.some.injEq] at hy;subst hy;exact ⟨e,rfl,hx⟩
    |succ i=>exact h2 i y (by simpa using hy)
   ·cases h
  ·cases h
theorem zYp {t:Ty} {es:List V} {xs:List t.El} (hl:es.length=xs.length) (h: ∀ (i:Nat) (e:V) (x:t.El),es[i]? =some e→xs[i]? =some x→wK e.cells (t.cells x)):WkV (.sl es) (.tl t xs):=by
 intro w F v hr
 refine .tl t xs v ?_
 cases hr with
 |slemp a cap=>
  have:xs=[]:=List.eq_nil_of_length_eq_zero hl.symm
  subst this
  exact .slemp a cap
 |sl b off cap k _ g hFb hcap hk hg hr=>
  have hel:es.length=(xs.map t.enc).length:=by simpa using hl
  rw [hel] at hg hcap ⊢
  refine .sl b off cap k _ g hFb hcap ?_ hg ?_
  ·intro e he
   simp only [List.mem_map] at he
   obtain ⟨x,hx,rfl⟩:=he
   obtain ⟨j,hj⟩:=List.getElem?_of_mem hx
   have hjl:j<es.length:=by rw [hl];exact (List.getElem?_eq_some_iff.1 hj).1
   have h1:=(h j es[j] x (by simp [hjl]) hj).len
   rw [qS, ←h1]
   exact hk _ (List.getElem_mem hjl)
  ·intro i j e d hi hj
   simp only [List.getElem?_map,Option.map_eq_some_iff] at hi
   obtain ⟨x,hx,rfl⟩:=hi
   rw [qS] at hj
   have hil:i<es.length:=by rw [hl];exact (List.getElem?_eq_some_iff.1 hx).1
   have h1:=h i es[i] x (by simp [hil]) hx
   have hjl:j< (es[i]).cells.length:=by rw [h1.len];exact (List.getElem?_eq_some_iff.1 hj).1
   exact h1.get j _ d (List.getElem?_eq_getElem hjl) hj w F _ (hr i j es[i] _ (by simp [hil]) (List.getElem?_eq_getElem hjl))
theorem zPy: ∀ (t:Ty) (cs:List V) (x:t.El) (r:List V),t.unc cs=some (x,r)→ ∃cs1,cs=cs1++r∧wK cs1 (t.cells x):=by
 intro t
 induction t with
 |int k=>exact fun cs x r h=>jF (.int k) cs x r h
 |bool=>exact fun cs x r h=>jF .bool cs x r h
 |str=>exact fun cs x r h=>jF .str cs x r h
 |unit=>exact fun cs x r h=>jF .unit cs x r h
 |rf=>exact fun cs x r h=>jF .rf cs x r h
 |pair a b iha ihb=>
  intro cs x r h
  simp only [Ty.unc] at h
  split at h
  ·rename_i xa r1 h1
   split at h
   ·rename_i xb r2 h2
    simp only [Option.some.injEq,Prod.mk.injEq] at h
    obtain ⟨rfl,rfl⟩:=h
    obtain ⟨c1,rfl,k1⟩:=iha cs xa r1 h1
    obtain ⟨c2,rfl,k2⟩:=ihb r1 xb r2 h2
    exact ⟨c1++c2,by rw [List.append_assoc],k1.append k2⟩
   ·cases h
  ·cases h
 |sl t ih=>
  intro cs x r h
  simp only [Ty.unc] at h
  split at h
  ·rename_i es r'
   split at h
   ·rename_i xs hxs
    simp only [Option.some.injEq,Prod.mk.injEq] at h
    obtain ⟨rfl,rfl⟩:=h
    obtain ⟨h1,h2⟩:=zSJ hxs
    refine ⟨[.sl es],rfl,zYp h1 ?_,trivial⟩
    intro i e y he hy
    obtain ⟨e',he',hf⟩:=h2 i y hy
    rw [he] at he'
    simp only [Option.some.injEq] at he'
    subst he'
    obtain ⟨c1,hc,hw⟩:=ih e.cells y [] hf
    rw [List.append_nil] at hc
    rw [hc];exact hw
   ·cases h
  ·exact jF (.sl t) _ x r h
def Ty.decW (t:Ty) (d:V):Option t.El:=
 match t with
 | .pair a b=>match d with
  | .agg cs=>match (Ty.pair a b).unc cs with
   |some (x,[])=>some x
   |_=>none
  |_=>none
 | .unit=>none
 | .sl t=>match (Ty.sl t).unc [d] with
  |some (x,[])=>some x
  |_=>none
 | .int k=>(Ty.int k).dec d
 | .bool=>Ty.bool.dec d
 | .str=>Ty.str.dec d
 | .rf=>Ty.rf.dec d
theorem zUi {t:Ty} {d:V} {x:t.El} (h:t.decW d=some x):WkV d (t.enc x):=by
 cases t with
 |pair a b=>
  simp only [Ty.decW] at h
  split at h
  ·rename_i cs
   split at h
   ·rename_i x' hx
    simp only [Option.some.injEq] at h
    subst h
    obtain ⟨c1,h1,h2⟩:=zPy (.pair a b) cs x' [] hx
    simp only [List.append_nil] at h1
    subst h1
    exact WkV.agg h2
   ·cases h
  ·cases h
 |unit=>simp [Ty.decW] at h
 |sl t=>
  simp only [Ty.decW] at h
  split at h
  ·rename_i x' hx
   simp only [Option.some.injEq] at h
   subst h
   obtain ⟨c1,h1,h2⟩:=zPy (.sl t) [d] x' [] hx
   rw [List.append_nil] at h1
   subst h1
   exact h2.1
  ·cases h
 |int k=>exact kD h
 |bool=>exact kD h
 |str=>exact kD h
 |rf=>exact kD h
def zET:(ts:List Ty)→List V→Option (ElS ts)
 |[],[]=>some ()
 |t::ts,d::ds=>match t.decW d with
  |some x=>match zET ts ds with
   |some xs=>some (x,xs)
   |none=>none
  |none=>none
 |_,_=>none
theorem zL5: ∀ (ts:List Ty) (ds:List V) (x:ElS ts),zET ts ds=some x→wK ds (kA ts x)
 |[],[],_,_=>trivial
 |[],_::_,_,h=>by simp [zET] at h
 |_::_,[],_,h=>by simp [zET] at h
 |t::ts,d::ds,x,h=>by
  simp only [zET] at h
  split at h
  ·rename_i y hy
   split at h
   ·rename_i ys hys
    simp only [Option.some.injEq] at h
    subst h
    exact ⟨zUi hy,zL5 ts ds ys hys⟩
   ·cases h
  ·cases h
theorem zPW {Γ:Sig} {P:Program} {G:Nat→Option (List V)} {f:FuncId} {ts:List Ty} {R:RTy} {g:ElS ts→Option R.El} (h:wL Γ P G f (qN (j4 ts R g))):wL Γ P G f (qN (wY (zET ts) R g)):=by
 intro w F O s args ds s' r hsig hG hF hlen hrd hspec
 simp only [qN,wY] at hspec
 cases hx:zET ts ds with
 |none=>rw [hx] at hspec;cases hspec
 |some x=>
  rw [hx] at hspec
  have hwk:=zL5 ts ds x hx
  refine h w F O s args (kA ts x) s' r hsig hG hF (hlen.trans hwk.len) ?_ ?_
  ·intro i u d hu hd
   have hlt:i<ds.length:=by rw [hwk.len];exact (List.getElem?_eq_some_iff.1 hd).1
   exact hwk.get i ds[i] d (by simp [hlt]) hd w F u (hrd i u ds[i] hu (by simp [hlt]))
  ·simp only [qN,j4,wY,zDG];exact hspec
end Go.Ve

namespace Go.Ve
open Go
def zSg {α:Type} (f:α→α→Bool):List α→List α→Bool
 |[],[]=>true
 |x::xs,y::ys=>f x y&&zSg f xs ys
 |_,_=>false
theorem zGP {α:Type} {f:α→α→Bool} (hf: ∀x y,f x y=true→x=y): ∀ {xs ys:List α},zSg f xs ys=true→xs=ys
 |[],[],_=>rfl
 |x::xs,y::ys,h=>by
  simp only [zSg,Bool.and_eq_true] at h
  rw [hf x y h.1,zGP hf h.2]
 |[],_::_,h=>by cases h
 |_::_,[],h=>by cases h
def Ty.eqb:(t:Ty)→t.El→t.El→Bool
 | .int _,a,b=>decide (a=b)
 | .bool,a,b=>match a,b with
  |true,true=>true
  |false,false=>true
  |_,_=>false
 | .str,a,b=>zSg (fun (x y:UInt8)=>Nat.beq x.toNat y.toNat) a.data.toList b.data.toList
 | .unit,_,_=>true
 | .pair s t,a,b=>s.eqb a.1 b.1&&t.eqb a.2 b.2
 | .sl t,a,b=>zSg t.eqb a b
 | .rf,_,_=>false
theorem zV5: ∀ (t:Ty) (a b:t.El),t.eqb a b=true→a=b:=by
 intro t
 induction t with
 |int k=>exact fun a b h=>of_decide_eq_true h
 |bool=>
  intro a b h
  cases a<;>cases b<;>first|rfl|cases h
 |str=>
  intro a b h
  have h:=zGP (fun (x y:UInt8) h=>UInt8.toNat_inj.1 (Nat.eq_of_beq_eq_true h)) h
  cases a;cases b
  simp only at h
  rw [Array.toList_inj.1 h]
 |unit=>exact fun _ _ _=>rfl
 |pair s t ihs iht=>
  intro a b h
  simp only [Ty.eqb,Bool.and_eq_true] at h
  exact Prod.ext (ihs _ _ h.1) (iht _ _ h.2)
 |sl t ih=>exact fun a b h=>zGP ih h
 |rf=>exact fun _ _ h=>by cases h
def eqS:(ts:List Ty)→ElS ts→ElS ts→Bool
 |[],_,_=>true
 |t::ts,a,b=>t.eqb a.1 b.1&&eqS ts a.2 b.2
theorem zP5: ∀ (ts:List Ty) (a b:ElS ts),eqS ts a b=true→a=b
 |[],_,_,_=>rfl
 |t::ts,a,b,h=>by
  simp only [eqS,Bool.and_eq_true] at h
  exact Prod.ext (zV5 t _ _ h.1) (zP5 ts _ _ h.2)
def atP (ts:List Ty) {α:Type} (x0:ElS ts) (y0:α) (f:ElS ts→Option α):ElS ts→Option α:=fun x=>bif eqS ts x x0 then some y0 else f x
def noF {X α:Type} :X→Option α:=fun _=>none
theorem zQO {Γ:Sig} {P:Program} {G:Nat→Option (List V)} {f:FuncId} {ts:List Ty} {R:RTy} {g h:ElS ts→Option R.El} (hg:wL Γ P G f (qN (j4 ts R g))) (hh: ∀x y,h x=some y→g x=some y):
  wL Γ P G f (qN (wY (zET ts) R h)):=by
 refine zSp (zPW hg) ?_
 intro s ds r hr
 simp only [qN,wY] at hr ⊢
 cases hx:zET ts ds with
 |none=>rw [hx] at hr;cases hr
 |some x=>
  rw [hx] at hr
  simp only [Option.map_eq_some_iff] at hr ⊢
  obtain ⟨y,hy,e⟩:=hr
  exact ⟨y,hh x y hy,e⟩
theorem zOG {ts:List Ty} {α:Type} {x0:ElS ts} {y0:α} {f g:ElS ts→Option α} (h0:g x0=some y0) (hf: ∀x y,f x=some y→g x=some y): ∀x y,atP ts x0 y0 f x=some y→g x=some y:=by
 intro x y h
 unfold atP at h
 cases he:eqS ts x x0 with
 |false=>rw [he] at h;exact hf x y h
 |true=>
  rw [he] at h
  rw [zP5 ts x x0 he,h0]
  exact h
theorem zRc {X α:Type} {g:X→Option α} : ∀x y,noF (X:=X) (α:=α) x=some y→g x=some y:=fun _ _ h=>by cases h
end Go.Ve

namespace Go.Ve
open Go
def zL7 (t:Ty) (ds:List V):Option (t.El×List t.El):=
 match zEq [.sl t] ds with
 |some (y::r,_)=>some (y,r)
 |_=>none
theorem zD9 {t:Ty} {ds:List V} {q:t.El×List t.El} (h:zL7 t ds=some q):wK ds [.tl t (q.1::q.2)]:=by
 unfold zL7 at h
 split at h
 ·rename_i y r u hd
  simp only [Option.some.injEq] at h
  subst h
  exact uD [.sl t] ds (y::r,u) hd
 ·cases h
open Classical in
noncomputable def zFY (v:Value) (ds:List V):Option Unit:=if ds=[.val v] then some () else none
theorem yK {v:Value} {ds:List V} {q:Unit} (h:zFY v ds=some q):wK ds [.val v]:=by
 unfold zFY at h
 split at h
 ·rename_i hd
  subst hd
  exact ⟨.refl _,trivial⟩
 ·cases h
theorem zRY {w:World} {F:Blk→Prop} {v:Value} {t:Ty} (h:Rd w F v (.tl t [])): ∃a c,v= .slice a 0 c:=by
 have h2:=Rd.untl h
 simp only [List.map_nil] at h2
 generalize hd:V.sl []=d at h2
 cases h2 with
 |slemp a c=>exact ⟨a,c,rfl⟩
 |sl b off cap k es g hF hcap hk hg hr=>
  simp only [V.sl.injEq] at hd
  subst hd
  exact ⟨_,_,rfl⟩
 |_=>cases hd
theorem zIW {P:Program} {G:Nat→Option (List V)} {f:FuncId} {t:Ty} {bytes:Nat}
  (h1:wL jL P G f (qN (wY (zL7 t) (.p (.sl t)) (fun q=>Option.bind (app bytes [] (q.1::q.2)) fun z=>some z))))
  (h2: ∀c,wL jL P G f (qN (wY (zFY (.slice none 0 c)) (.p (.sl t)) (fun _=>some []))))
  (h3: ∀a c,wL jL P G f (qN (wY (zFY (.slice (some a) 0 c)) (.p (.sl t)) (fun _=>some [])))):
  wL jL P G f (qN (j4 [.sl t] (.p (.sl t)) (fun x=>Option.bind (app bytes [] x.1) fun z=>some z))):=by
 intro w F O s args ds s' r hsig hG hF hlen hrd hspec
 simp only [qN,j4,wY] at hspec
 cases hx:zEq [.sl t] ds with
 |none=>rw [hx] at hspec;cases hspec
 |some x=>
  rw [hx] at hspec
  have hwk:=uD [.sl t] ds x hx
  have hdl:ds.length=1:=hwk.len
  have hal:args.size=1:=hlen.trans hdl
  obtain ⟨xs,u⟩:=x
  have hv:Rd w F args[0] (.tl t xs):=hwk.get 0 (ds[0]'(by omega)) (.tl t xs) (by simp) rfl w F _ (hrd 0 _ _ (by simp) (by simp))
  cases xs with
  |cons y r0=>
   refine h1 w F O s args [.tl t (y::r0)] s' r hsig hG hF (by simpa using hal) ?_ ?_
   ·intro i v d hi hd
    match i with
    |0=>
     simp at hd
     subst hd
     have:v=args[0]:=by
      rw [Array.getElem?_eq_getElem (by omega)] at hi
      exact (Option.some.inj hi).symm
     rw [this];exact hv
    |i+1=>simp at hd
   ·have hde:zL7 t [.tl t (y::r0)]=some (y,r0):=by
     unfold zL7
     rw [show zEq [.sl t] [.tl t (y::r0)]=some (y::r0,()) from zDG [.sl t] (y::r0,())]
    simp only [qN,wY,hde]
    exact hspec
  |nil=>
   obtain ⟨a,c,ha⟩:=zRY hv
   have hres:some (s',r)=some (s,(RTy.p (.sl t)).res []):=by
    have:(app bytes ([]:List t.El) [])=some []∨app bytes ([]:List t.El) []=none:=by
     unfold app;split
     ·exact .inl rfl
     ·exact .inr rfl
    rcases this with h|h
    ·simp only [h,Option.bind_some,Option.map_some] at hspec
     exact hspec.symm
    ·simp only [h,Option.bind_none,Option.map_none] at hspec
     cases hspec
   simp only [Option.some.injEq,Prod.mk.injEq] at hres
   obtain ⟨rfl,rfl⟩:=hres
   have go: ∀v,args[0]=v→wL jL P G f (qN (wY (zFY v) (.p (.sl t)) (fun _=>some [])))→Calls P f args w fun e w'=> ∃ (v:Value) (F':Blk→Prop) (O':Nat→Prop),e= .returned v∧jL.R s' F' O' w'∧zCK O w w'∧
     (∀b,O' b→O b∨w.heap.size≤b)∧(∀b,F b→F' b)∧(∀b:Nat,F' b→(F b∨w.heap.size≤b)∧b<w'.heap.size∧ ¬O' b)∧xG w.heap.size w' F' O' v ((RTy.p (.sl t)).res []):=by
    intro v hv0 h
    refine h w F O s' args [.val v] s' _ hsig hG hF (by simpa using hal) ?_ ?_
    ·intro i u d hi hd
     match i with
     |0=>
      simp at hd
      subst hd
      have:u=args[0]:=by
       rw [Array.getElem?_eq_getElem (by omega)] at hi
       exact (Option.some.inj hi).symm
      rw [this,hv0];exact .val _
     |i+1=>simp at hd
    ·have hde:zFY v [.val v]=some ():=by unfold zFY;rw [if_pos rfl]
     simp only [qN,wY,hde]
     rfl
   cases a with
   |none=>exact go _ ha (h2 c)
   |some a=>exact go _ ha (h3 a c)
theorem zSq {P:Program} {G:Nat→Option (List V)} {f:FuncId} {t:Ty} {bytes:Nat}
  (h1:wL jL P G f (qN (wY (zL7 t) (.o t) (fun q=>Option.bind (app bytes [] (q.1::q.2)) fun z=>some z))))
  (h2: ∀c,wL jL P G f (qN (wY (zFY (.slice none 0 c)) (.o t) (fun _=>some []))))
  (h3: ∀a c,wL jL P G f (qN (wY (zFY (.slice (some a) 0 c)) (.o t) (fun _=>some [])))):
  wL jL P G f (qN (j4 [.sl t] (.o t) (fun x=>Option.bind (app bytes [] x.1) fun z=>some z))):=by
 intro w F O s args ds s' r hsig hG hF hlen hrd hspec
 simp only [qN,j4,wY] at hspec
 cases hx:zEq [.sl t] ds with
 |none=>rw [hx] at hspec;cases hspec
 |some x=>
  rw [hx] at hspec
  have hwk:=uD [.sl t] ds x hx
  have hdl:ds.length=1:=hwk.len
  have hal:args.size=1:=hlen.trans hdl
  obtain ⟨xs,u⟩:=x
  have hv:Rd w F args[0] (.tl t xs):=hwk.get 0 (ds[0]'(by omega)) (.tl t xs) (by simp) rfl w F _ (hrd 0 _ _ (by simp) (by simp))
  cases xs with
  |cons y r0=>
   refine h1 w F O s args [.tl t (y::r0)] s' r hsig hG hF (by simpa using hal) ?_ ?_
   ·intro i v d hi hd
    match i with
    |0=>
     simp at hd
     subst hd
     have:v=args[0]:=by
      rw [Array.getElem?_eq_getElem (by omega)] at hi
      exact (Option.some.inj hi).symm
     rw [this];exact hv
    |i+1=>simp at hd
   ·have hde:zL7 t [.tl t (y::r0)]=some (y,r0):=by
     unfold zL7
     rw [show zEq [.sl t] [.tl t (y::r0)]=some (y::r0,()) from zDG [.sl t] (y::r0,())]
    simp only [qN,wY,hde]
    exact hspec
  |nil=>
   obtain ⟨a,c,ha⟩:=zRY hv
   have hres:some (s',r)=some (s,(RTy.o t).res []):=by
    have:(app bytes ([]:List t.El) [])=some []∨app bytes ([]:List t.El) []=none:=by
     unfold app;split
     ·exact .inl rfl
     ·exact .inr rfl
    rcases this with h|h
    ·simp only [h,Option.bind_some,Option.map_some] at hspec
     exact hspec.symm
    ·simp only [h,Option.bind_none,Option.map_none] at hspec
     cases hspec
   simp only [Option.some.injEq,Prod.mk.injEq] at hres
   obtain ⟨rfl,rfl⟩:=hres
   have go: ∀v,args[0]=v→wL jL P G f (qN (wY (zFY v) (.o t) (fun _=>some [])))→Calls P f args w fun e w'=> ∃ (v:Value) (F':Blk→Prop) (O':Nat→Prop),e= .returned v∧jL.R s' F' O' w'∧zCK O w w'∧
     (∀b,O' b→O b∨w.heap.size≤b)∧(∀b,F b→F' b)∧(∀b:Nat,F' b→(F b∨w.heap.size≤b)∧b<w'.heap.size∧ ¬O' b)∧xG w.heap.size w' F' O' v ((RTy.o t).res []):=by
    intro v hv0 h
    refine h w F O s' args [.val v] s' _ hsig hG hF (by simpa using hal) ?_ ?_
    ·intro i u d hi hd
     match i with
     |0=>
      simp at hd
      subst hd
      have:u=args[0]:=by
       rw [Array.getElem?_eq_getElem (by omega)] at hi
       exact (Option.some.inj hi).symm
      rw [this,hv0];exact .val _
     |i+1=>simp at hd
    ·have hde:zFY v [.val v]=some ():=by unfold zFY;rw [if_pos rfl]
     simp only [qN,wY,hde]
     rfl
   cases a with
   |none=>exact go _ ha (h2 c)
   |some a=>exact go _ ha (h3 a c)
theorem zZe {P:Program} {G:Nat→Option (List V)} {f:FuncId} {t:Ty} {ds:List V} (hnb:zCb ds=none) (h: ∀a:Option Addr, ∃S,wL jL P G f S∧S () (.val (.slice a 0 0)::ds)=some ((), .p (.tup []))):
  zBd jL P G f () t [] ds () [] (.tup []):=by
 refine zBd.of hnb ?_
 intro w F O b v0 args hR hG hF hown _ hsz ha0 hrest
 have hv: ∃a,v0= .slice a 0 0:=by
  rcases hown with ⟨_,h⟩|⟨h,_⟩
  ·exact h
  ·exact absurd rfl h
 obtain ⟨a,rfl⟩:=hv
 obtain ⟨S,hS,hs⟩:=h a
 have hcall:=hS w F O () args (.val (.slice a 0 0)::ds) () (.p (.tup [])) hR hG hF (by simpa using hsz) (by
  intro i v d hi hd
  match i with
  |0=>
   simp at hd
   subst hd
   rw [ha0] at hi
   cases hi
   exact .val _
  |i+1=>exact hrest i v d hi (by simpa using hd)) hs
 refine hcall.mono ?_
 rintro e w' ⟨v,F',O',rfl,h1,h2,h3,h4,h5,h6⟩
 exact ⟨v,F',O',rfl,h1,⟨h2.os,h2.tape,h2.output,h2.size,fun c hc ho=>h2.block c hc (fun hh=>ho (.inl hh)),h2.drawn⟩,h3,h4,h5,zFL.of (.inl ⟨rfl,a,rfl⟩) h6⟩
end Go.Ve



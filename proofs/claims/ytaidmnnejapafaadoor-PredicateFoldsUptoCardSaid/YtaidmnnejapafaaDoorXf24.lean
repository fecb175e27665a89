/-
  law31, plain: ranges and rules as sets.
  law31, plain: packets as assignments, and what a set says of them.
  law31, plain: the checks of a router always answer.
  law31, plain: what a checked router's access lists are.
  law31, plain: which packets a rule matches; which rules cover which.
  law31, plain: the longest match of a table as a set.
  law31, plain: the sets of entries, hops and decisions; forwarding tables.
  law31, plain: how many nodes a chain of tests has; the fixed sanity check.
  law31, plain: the sanity check holds; PredicatePartition.
  law31, plain: PredicateTables.
  law31, plain: PredicateRules and PredicateCovers.
-/
import Derived.Test.YtaidmnnejapafaaDoorXf23
set_option linter.unusedVariables false
namespace Go.Ve
open Go Go.Proofs Go.Bd Go.Proofs.Bw
set_option maxRecDepth 1000000
set_option maxHeartbeats 4000000
theorem zQL (x:Nat) {k:Nat} (hk:k<32):bt (x:Int) k=decide (x / 2^k%2=1):=by
 rw [zSb _ hk,decide_eq_decide]
 have h2:((x:Int) / 2^k)%2=((x / 2^k%2:Nat):Int):=by
  rw [Int.natCast_emod,Int.natCast_ediv,Int.natCast_pow];rfl
 rw [h2]
 omega
theorem zP4 (b:Bool) (l:List Bool):num (b::l)=b.toNat*2^l.length+num l:=by
 have:=zE8 [b] l
 rw [List.singleton_append] at this
 rw [this]
 congr 1
 cases b<;>simp [num]
theorem zNT (lo m x:Nat) (b:Bool) (hx:x<2^m):decide (lo%2^(m+1)≤b.toNat*2^m+x)=if lo / 2^m%2=1 then (b&&decide (lo%2^m≤x)) else (b||decide (lo%2^m≤x)):=by
 have hm:lo%2^m<2^m:=Nat.mod_lt _ (Nat.two_pow_pos m)
 rw [Nat.mod_pow_succ]
 have h2:lo / 2^m%2=0∨lo / 2^m%2=1:=by omega
 generalize lo%2^m=y at*
 generalize lo / 2^m%2=c at*
 generalize 2^m=M at*
 rcases h2 with rfl|rfl<;>cases b<;>simp<;>omega
theorem zNX (hi m x:Nat) (b:Bool) (hx:x<2^m):decide (b.toNat*2^m+x≤hi%2^(m+1))=if hi / 2^m%2=1 then (!b||decide (x≤hi%2^m)) else (!b&&decide (x≤hi%2^m)):=by
 have hm:hi%2^m<2^m:=Nat.mod_lt _ (Nat.two_pow_pos m)
 rw [Nat.mod_pow_succ]
 have h2:hi / 2^m%2=0∨hi / 2^m%2=1:=by omega
 generalize hi%2^m=y at*
 generalize hi / 2^m%2=c at*
 generalize 2^m=M at*
 rcases h2 with rfl|rfl<;>cases b<;>simp<;>omega
def rF (k lo hi:Nat) (a:Nat→Bool):Bool:=decide (lo≤num (Bd.bits (fv k) (wdF k) a)∧num (Bd.bits (fv k) (wdF k) a)≤hi)
theorem zNE (k lo hi:Nat):Wb 4 (fv k 0) (fv k (wdF k)) (rF k lo hi):=
 zH3 (p:=fv k) (fun i i' h h'=>by unfold fv;omega) (fun i hi=>by unfold fv;omega) (fun i hi=>by unfold fv;omega) (by unfold fv;omega)
abbrev shB (k j w:Nat) (a:Nat→Bool):List Bool:=Bd.bits (fun i=>fv k (i+j)) (w-j) a
theorem zRZ (k j w lo:Nat):Wd 4 (fun a=>decide (lo≤num (shB k j w a))):=by
 have h:=(zH3 (c:=0) (d:=fv k (w+1)) (w:=w-j) (lo:=lo) (hi:=2^(w-j)) (p:=fun i=>fv k (i+j)) (fun i i' h h'=>by unfold fv;omega) (fun i hi=>by omega) (fun i hi=>by unfold fv;omega) (by omega)).wd
 have e:(fun a=>decide (lo≤num (Bd.bits (fun i=>fv k (i+j)) (w-j) a)∧num (Bd.bits (fun i=>fv k (i+j)) (w-j) a)≤2^(w-j)))=fun a=>decide (lo≤num (shB k j w a)):=by
  funext a
  have:=zGM (shB k j w a)
  rw [kG] at this
  rw [decide_eq_decide]
  exact ⟨fun h=>h.1,fun h=>⟨h,Nat.le_of_lt this⟩⟩
 rw [←e];exact h
theorem zR0 (k j w hi:Nat):Wd 4 (fun a=>decide (num (shB k j w a)≤hi)):=by
 have h:=(zH3 (c:=0) (d:=fv k (w+1)) (w:=w-j) (lo:=0) (hi:=hi) (p:=fun i=>fv k (i+j)) (fun i i' h h'=>by unfold fv;omega) (fun i hi=>by omega) (fun i hi=>by unfold fv;omega) (by omega)).wd
 have e:(fun a=>decide (0≤num (Bd.bits (fun i=>fv k (i+j)) (w-j) a)∧num (Bd.bits (fun i=>fv k (i+j)) (w-j) a)≤hi))=fun a=>decide (num (shB k j w a)≤hi):=by
  funext a
  rw [decide_eq_decide]
  exact ⟨fun h=>h.2,fun h=>⟨Nat.zero_le _,h⟩⟩
 rw [←e];exact h
theorem zRn: ∀k,2≤k→k<5→IntKind.wrap IntKind.u32 (IntKind.wrap IntKind.u32 ((1:Int)*(2:Int)^min (Int.toNat ((wdF k:Nat):Int)) (IntKind.bits IntKind.u32)) - (1:Int))=((2^wdF k-1:Nat):Int):=by
 intro k h1 h2
 have:k=2∨k=3∨k=4:=by omega
 rcases this with rfl|rfl|rfl<;>decide
theorem zMv {p:Pub} {nx i:Nat} (hp:POk p) (hi:i+1=nx) {k:Nat} (h2:2≤k) (h5:k<5) (lo h:Nat) (hlh:lo≤h) (hh:h<2^wdF k) (hr:p.S.ns.length+100000≤lim):
  Wp (xE (nx,some p) (i,(k:Int),false,(lo:Int),(h:Int),())) (Mk p nx 100000 (rF k lo h)):=by
 have hlim:p.S.ns.length+100000≤5864062014000:=hr
 have hw16:8≤wdF k∧wdF k≤16:=by
  have:k=2∨k=3∨k=4:=by omega
  rcases this with rfl|rfl|rfl<;>decide
 unfold xE
 dsimp only
 refine zB (vJ (zKY h5) ?_)
 rw [zRn k h2 h5]
 refine zH (fun he=> ?_) (fun _=> ?_)
 ·exfalso
  have he:((wdF k:Nat):Int)=0:=by simpa using he
  omega
 refine zJ (fun _=> ?_) (fun hn=>absurd (by omega) hn)
 refine zB (Wp.mono (Q:=fun s=>s=(false,(nx,some p))) ?_ ?_)
 ·refine zJ (fun hc=> ?_) (fun hc=>zA ?_)
  ·exfalso
   have hc:(lo:Int)>(h:Int):=hc
   omega
  ·have hle: ¬((lo:Int)>((2^wdF k-1:Nat):Int)):=by
    have:=Nat.two_pow_pos (wdF k)
    omega
   rw [decide_eq_false hle]
 rintro _ rfl
 simp only [cond_false]
 have hif:(if ((2^wdF k-1:Nat):Int)< (h:Int) then ((2^wdF k-1:Nat):Int) else (h:Int))=(h:Int):=if_neg (by
  have:=Nat.two_pow_pos (wdF k)
  omega)
 simp only [hif]
 generalize hW:wdF k=w at*
 rw [wrap_i64 (x:=(w:Int) -1) (by omega) (by omega)]
 have key: ∀j:Nat,j<w→IntKind.wrap IntKind.i64 ((w:Int) -1- (j:Int))=((w-1-j:Nat):Int):=by
  intro j hj
  rw [wrap_i64 (by omega) (by omega)]
  omega
 refine zB (Wp.mono (zKa (n:=w) (by omega) (fun j (s:Int×Int×MSt)=> ∃p',s.2.2=(nx,some p')∧Stp p ((w-j)*3000) p'∧Rp p' s.1 (fun a=>decide (lo%2^(w-j)≤num (shB k j w a)))∧Rp p' s.2.1 (fun a=>decide (num (shB k j w a)≤h%2^(w-j))))
  ⟨p,rfl,(Stp.refl hp).mono (Nat.zero_le _),(Rp.f1 hp).congr (fun a=> ?_),(Rp.f1 hp).congr (fun a=> ?_)⟩ ?_ (Q:=fun s=> ∃p',s.2.2=(nx,some p')∧Stp p (w*3000) p'∧Rp p' s.1 (fun a=>decide (lo≤num (shB k 0 w a)))∧Rp p' s.2.1 (fun a=>decide (num (shB k 0 w a)≤h))) ?_) ?_)
 ·simp only [shB,Nat.sub_self,Nat.pow_zero,Nat.mod_one]
  simp
 ·simp only [shB,Nat.sub_self,Nat.pow_zero,Nat.mod_one,Bd.bits,List.range_zero,List.map_nil]
  simp [num]
 ·rintro j ⟨ab,be,st⟩ hj ⟨p',hst,hs,ha,hb⟩
  simp only at hst ha hb
  subst hst
  dsimp only
  have hc:=hs.cnt
  have hm:w-j=(w- (j+1))+1:=by omega
  have hj1:(w- (j+1))*3000≤15*3000:=Nat.mul_le_mul_right _ (by omega)
  have hcons: ∀a,num (shB k j w a)=(a (fv k j)).toNat*2^(w- (j+1))+num (shB k (j+1) w a):=by
   intro a
   simp only [shB]
   rw [hm,zG4,zP4,kG]
   simp only [Nat.zero_add,show ∀x,x+1+j=x+(j+1) from fun x=>by omega]
  have hlt: ∀a,num (shB k (j+1) w a)<2^(w- (j+1)):=fun a=>by
   have:=zGM (shB k (j+1) w a)
   rwa [kG] at this
  refine zB (vJ (zPn h5 (by rw [hW];exact hj)) ?_)
  refine zB (zPe hs.ok hi (zR6 k h5 j (by rw [hW];exact hj)) (by show _≤5864062014000;omega) ?_)
  intro p1 y1 hs1 hy1
  have hc1:=hs1.cnt
  have ha1:=ha.step hs.ok hs1
  have hb1:=hb.step hs.ok hs1
  dsimp only
  rw [key j hj,show w-1-j=w- (j+1) by omega]
  have hmm:w- (j+1)<32:=by omega
  refine zB (Wp.mono (Q:=fun s:Int×MSt=> ∃p2,s.2=(nx,some p2)∧Stp p1 880 p2∧Rp p2 s.1 (fun a=>decide (lo%2^(w-j)≤num (shB k j w a)))) ?_ ?_)
  ·refine zJ (fun _=> ?_) (fun hn=>absurd (by omega) hn)
   simp only [Int.toNat_natCast,zKN (lo:Int) hmm,zQL lo hmm]
   refine zH (fun hbit=> ?_) (fun hbit=> ?_)
   ·have hbit:lo / 2^(w- (j+1))%2=1:=by
     by_cases hd:lo / 2^(w- (j+1))%2=1
     ·exact hd
     ·simp [hd] at hbit
    have hfun:(fun a=>a (fv k j)&&decide (lo%2^(w- (j+1))≤num (shB k (j+1) w a)))=fun a=>decide (lo%2^(w-j)≤num (shB k j w a)):=by
     funext a
     rw [hcons,hm,zNT _ _ _ _ (hlt a),if_pos hbit]
    refine zB (zBF hs1.ok hi hy1 ha1 4 (by rw [hfun];exact zRZ _ _ _ _) (by show _≤5864062014000;omega) ?_)
    intro p2 y2 hs2 hy2
    rw [hfun] at hy2
    exact zA ⟨p2,rfl,hs2,hy2⟩
   ·have hbit: ¬lo / 2^(w- (j+1))%2=1:=by
     intro hd
     simp [hd] at hbit
    have hfun:(fun a=>a (fv k j)||decide (lo%2^(w- (j+1))≤num (shB k (j+1) w a)))=fun a=>decide (lo%2^(w-j)≤num (shB k j w a)):=by
     funext a
     rw [hcons,hm,zNT _ _ _ _ (hlt a),if_neg hbit]
    refine zB (zNy hs1.ok hi hy1 ha1 4 (by rw [hfun];exact zRZ _ _ _ _) (by show _≤5864062014000;omega) ?_)
    intro p2 y2 hs2 hy2
    rw [hfun] at hy2
    exact zA ⟨p2,rfl,hs2,hy2⟩
  ·rintro ⟨y2,st2⟩ ⟨p2,hst2,hs2,hy2⟩
   simp only at hst2 hy2
   subst hst2
   have hc2:=hs2.cnt
   have hb2:=hb1.step hs1.ok hs2
   have hv2:=hy1.step hs1.ok hs2
   dsimp only
   refine zJ (fun _=> ?_) (fun hn=>absurd (by omega) hn)
   simp only [Int.toNat_natCast,zKN (h:Int) hmm,zQL h hmm]
   refine zH (fun hbit=> ?_) (fun hbit=> ?_)
   ·have hbit:h / 2^(w- (j+1))%2=1:=by
     by_cases hd:h / 2^(w- (j+1))%2=1
     ·exact hd
     ·simp [hd] at hbit
    have hfun:(fun a=> !(a (fv k j))||decide (num (shB k (j+1) w a)≤h%2^(w- (j+1))))=fun a=>decide (num (shB k j w a)≤h%2^(w-j)):=by
     funext a
     rw [hcons,hm,zNX _ _ _ _ (hlt a),if_pos hbit]
    refine zB (zH2 hs2.ok hi hv2 2 ((Wd.var _).comp not) (by show _≤5864062014000;omega) ?_)
    intro p3 y3 hs3 hy3
    have hc3:=hs3.cnt
    refine zB (zNy hs3.ok hi hy3 (hb2.step hs2.ok hs3) 4 (by rw [hfun];exact zR0 _ _ _ _) (by show _≤5864062014000;omega) ?_)
    intro p4 y4 hs4 hy4
    rw [hfun] at hy4
    exact zA ⟨p4,rfl,((((hs.trans hs1).trans hs2).trans hs3).trans hs4).mono (by rw [hm,Nat.succ_mul];omega),(hy2.step hs2.ok hs3).step hs3.ok hs4,hy4⟩
   ·have hbit: ¬h / 2^(w- (j+1))%2=1:=by
     intro hd
     simp [hd] at hbit
    have hfun:(fun a=> !(a (fv k j))&&decide (num (shB k (j+1) w a)≤h%2^(w- (j+1))))=fun a=>decide (num (shB k j w a)≤h%2^(w-j)):=by
     funext a
     rw [hcons,hm,zNX _ _ _ _ (hlt a),if_neg hbit]
    refine zB (zH2 hs2.ok hi hv2 2 ((Wd.var _).comp not) (by show _≤5864062014000;omega) ?_)
    intro p3 y3 hs3 hy3
    have hc3:=hs3.cnt
    refine zB (zBF hs3.ok hi hy3 (hb2.step hs2.ok hs3) 4 (by rw [hfun];exact zR0 _ _ _ _) (by show _≤5864062014000;omega) ?_)
    intro p4 y4 hs4 hy4
    rw [hfun] at hy4
    exact zA ⟨p4,rfl,((((hs.trans hs1).trans hs2).trans hs3).trans hs4).mono (by rw [hm,Nat.succ_mul];omega),(hy2.step hs2.ok hs3).step hs3.ok hs4,hy4⟩
 ·rintro ⟨ab,be,st⟩ ⟨p',hst,hs,ha,hb⟩
  simp only [Nat.sub_zero] at hst hs ha hb
  simp only [Nat.mod_eq_of_lt (Nat.lt_of_le_of_lt hlh hh)] at ha
  simp only [Nat.mod_eq_of_lt hh] at hb
  exact ⟨p',hst,hs,ha,hb⟩
 ·rintro ⟨ab,be,st⟩ ⟨p',hst,hs,ha,hb⟩
  simp only at hst ha hb
  subst hst
  have hc:=hs.cnt
  have hw3:w*3000≤48000:=by omega
  have hfun:(fun a=>decide (lo≤num (shB k 0 w a))&&decide (num (shB k 0 w a)≤h))=rF k lo h:=by
   funext a
   rw [rF,hW, ←Bool.decide_and]
   rfl
  refine zB (zBF hs.ok hi ha hb 4 (by rw [hfun];exact (zNE k lo h).wd) (by show _≤5864062014000;omega) ?_)
  intro p2 y2 hs2 hy2
  rw [hfun] at hy2
  exact zA ⟨p2,rfl,(hs.trans hs2).mono (by omega),hy2⟩
theorem zDt {p:Pub} {nx i:Nat} (hp:POk p) (hi:i+1=nx) {k:Nat} (h2:2≤k) (h5:k<5) (lo h:Nat) (hlh:lo≤h) (hh:h<2^wdF k) (hr:p.S.ns.length+100000≤lim):
  Wp (jE (nx,some p) (i,(k:Int),(lo:Int),(h:Int),())) (Mk p nx 100000 (rF k lo h)):=by
 have h16:h<65536:=by
  have:wdF k≤16:=by
   have:k=2∨k=3∨k=4:=by omega
   rcases this with rfl|rfl|rfl<;>decide
  exact Nat.lt_of_lt_of_le hh (Nat.pow_le_pow_right (by omega) this)
 unfold jE
 dsimp only
 rw [if_neg (show ¬(0:Int)>(lo:Int) by omega),if_neg (show ¬(65535:Int)< (h:Int) by omega),wrap_u32 (by omega) (by omega),wrap_u32 (by omega) (by omega)]
 refine zJ (fun hc=>absurd hc (by omega)) (fun _=> ?_)
 exact zB ((zMv hp hi h2 h5 lo h hlh hh hr).mono (fun r hr=>zA hr))
structure zBd (x:Ty.El qT):Prop where
 p0:(-1:Int)≤x.2.1
 p1: @LE.le Int _ x.2.1 255
 s0:(0:Int)≤x.2.2.2.2.1.1
 s1: @LE.le Int _ x.2.2.2.2.1.1 x.2.2.2.2.1.2.1
 s2: @LE.le Int _ x.2.2.2.2.1.2.1 65535
 d0:(0:Int)≤x.2.2.2.2.2.1.1
 d1: @LE.le Int _ x.2.2.2.2.2.1.1 x.2.2.2.2.2.1.2.1
 d2: @LE.le Int _ x.2.2.2.2.2.1.2.1 65535
def zJB (x:Ty.El qT) (a:Nat→Bool):Bool:=
 yS 0 x.2.2.1.1 x.2.2.1.2.1 a&&yS 1 x.2.2.2.1.1 x.2.2.2.1.2.1 a&&(x.2.1== -1||rF 2 x.2.1.toNat x.2.1.toNat a)&&rF 3 x.2.2.2.2.1.1.toNat x.2.2.2.2.1.2.1.toNat a&&rF 4 x.2.2.2.2.2.1.1.toNat x.2.2.2.2.2.1.2.1.toNat a
theorem zNC (k:Nat) (A M:Int):Wb 4 (fv k 0) (fv k 32) (yS k A M):=
 (zNF (c:=fv k 0) (d:=fv k 32) (wq A M) (fun i i' h h'=>by unfold fv;omega) (fun i hi=>by unfold fv;omega) (fun i hi=>by unfold fv;omega) (by unfold fv;omega)).mono (by omega)
theorem zEO (A M B N:Int):Wb 4 (fv 0 0) (fv 1 32) (fun a=>yS 0 A M a&&yS 1 B N a):=(zNC 0 A M).and (zNC 1 B N) (by decide)
theorem zPj (x:Ty.El qT): ∃d,d≤fv 3 0∧Wb 4 (fv 0 0) d (fun a=>yS 0 x.2.2.1.1 x.2.2.1.2.1 a&&yS 1 x.2.2.2.1.1 x.2.2.2.1.2.1 a&&(x.2.1== -1||rF 2 x.2.1.toNat x.2.1.toNat a)):=by
 cases h:x.2.1== -1 with
 |true=>exact ⟨fv 1 32,by decide,by simpa using zEO _ _ _ _⟩
 |false=>exact ⟨fv 2 (wdF 2),by decide,by simpa using (zEO x.2.2.1.1 x.2.2.1.2.1 x.2.2.2.1.1 x.2.2.2.1.2.1).and (zNE 2 x.2.1.toNat x.2.1.toNat) (by decide)⟩
theorem zKZ (x:Ty.El qT):Wb 4 (fv 0 0) (fv 3 16) (fun a=>yS 0 x.2.2.1.1 x.2.2.1.2.1 a&&yS 1 x.2.2.2.1.1 x.2.2.2.1.2.1 a&&(x.2.1== -1||rF 2 x.2.1.toNat x.2.1.toNat a)&&rF 3 x.2.2.2.2.1.1.toNat x.2.2.2.2.1.2.1.toNat a):=by
 obtain ⟨d,hd,h⟩:=zPj x
 exact h.and (zNE 3 _ _) hd
theorem zND (x:Ty.El qT):Wb 4 (fv 0 0) (fv 4 16) (zJB x):=(zKZ x).and (zNE 4 _ _) (by decide)
abbrev cR:Nat:=400000
theorem zGA {p:Pub} {nx i:Nat} (hp:POk p) (hi:i+1=nx) (x:Ty.El qT) (hx:zBd x) (hr:p.S.ns.length+cR≤lim):
  Wp (jF (nx,some p) (i,x,())) (Mk p nx cR (zJB x)):=by
 have hlim:p.S.ns.length+400000≤5864062014000:=hr
 obtain ⟨pm,pr,⟨sA,sM,⟨⟩⟩,⟨dA,dM,⟨⟩⟩,⟨sl,sh,⟨⟩⟩,⟨dl,dh,⟨⟩⟩,⟨⟩⟩:=x
 obtain ⟨p0,p1,s0,s1,s2,d0,d1,d2⟩:=hx
 simp only at p0 p1 s0 s1 s2 d0 d1 d2
 have w3:=zPj (pm,pr,(sA,sM,()),(dA,dM,()),(sl,sh,()),(dl,dh,()),())
 have w4:=zKZ (pm,pr,(sA,sM,()),(dA,dM,()),(sl,sh,()),(dl,dh,()),())
 have w5:=zND (pm,pr,(sA,sM,()),(dA,dM,()),(sl,sh,()),(dl,dh,()),())
 unfold zJB at w5 ⊢
 simp only at w3 w4 w5 ⊢
 obtain ⟨sl,rfl⟩:=Int.eq_ofNat_of_zero_le s0
 obtain ⟨sh,rfl⟩:=Int.eq_ofNat_of_zero_le (Int.le_trans s0 s1)
 obtain ⟨dl,rfl⟩:=Int.eq_ofNat_of_zero_le d0
 obtain ⟨dh,rfl⟩:=Int.eq_ofNat_of_zero_le (Int.le_trans d0 d1)
 simp only [Int.toNat_natCast] at w3 w4 w5 ⊢
 have e3:(2:Nat)^wdF 3=65536:=by decide
 have e4:(2:Nat)^wdF 4=65536:=by decide
 have e2:(2:Nat)^wdF 2=256:=by decide
 unfold jF
 dsimp only
 refine zB ((zBN (k:=0) hp hi (by omega) sA sM (by show _≤5864062014000;omega)).mono ?_)
 rintro ⟨st1,f1⟩ ⟨q1,hst1,hs1,h1⟩
 simp only at hst1 h1
 subst hst1
 have c1:=hs1.cnt
 refine zB ((zBN (k:=1) hs1.ok hi (by omega) dA dM (by show _≤5864062014000;omega)).mono ?_)
 rintro ⟨st2,f2⟩ ⟨q2,hst2,hs2,h2⟩
 simp only at hst2 h2
 subst hst2
 have c2:=hs2.cnt
 refine zB (zBF hs2.ok hi (h1.step hs1.ok hs2) h2 4 (zEO _ _ _ _).wd (by show _≤5864062014000;omega) ?_)
 intro q3 f3 hs3 h3
 have c3:=hs3.cnt
 dsimp only
 refine zB (Wp.mono (Q:=fun s:Int×MSt=> ∃q4,s.2=(nx,some q4)∧Stp q3 100880 q4∧Rp q4 s.1 (fun a=>yS 0 sA sM a&&yS 1 dA dM a&&(pr== -1||rF 2 pr.toNat pr.toNat a))) ?_ ?_)
 ·refine zH (fun hn=> ?_) (fun hn=>zA ⟨q3,rfl,(Stp.refl hs3.ok).mono (by omega),h3.congr (fun a=> ?_)⟩)
  ·have hn: ¬(@Eq Int pr (-1)):=by simpa [bne] using hn
   have hb:(pr== -1)=false:=by simpa using hn
   obtain ⟨pr,rfl⟩:=Int.eq_ofNat_of_zero_le (show (0:Int)≤pr by omega)
   refine zB ((zDt (k:=2) hs3.ok hi (by omega) (by omega) pr pr (Nat.le_refl _) (by omega) (by show _≤5864062014000;omega)).mono ?_)
   rintro ⟨st4,f4⟩ ⟨q4,hst4,hs4,h4⟩
   simp only at hst4 h4
   subst hst4
   have c4:=hs4.cnt
   have hfun:(fun a=>(yS 0 sA sM a&&yS 1 dA dM a)&&rF 2 pr pr a)=fun a=>yS 0 sA sM a&&yS 1 dA dM a&&(((pr:Nat):Int)== -1||rF 2 (((pr:Nat):Int)).toNat (((pr:Nat):Int)).toNat a):=by
    funext a
    rw [hb,Bool.false_or,Int.toNat_natCast]
   refine zB (zBF hs4.ok hi (h3.step hs3.ok hs4) h4 4 (by rw [hfun];obtain ⟨d,_,h⟩:=w3;exact h.wd) (by show _≤5864062014000;omega) ?_)
   intro q5 f5 hs5 h5
   rw [hfun] at h5
   exact zA ⟨q5,rfl,(hs4.trans hs5).mono (by omega),h5⟩
  ·have hn:pr= -1:=by simpa [bne] using hn
   subst hn
   simp
 ·rintro ⟨f4,st4⟩ ⟨q4,hst4,hs4,h4⟩
  simp only at hst4 h4
  subst hst4
  have c4:=hs4.cnt
  refine zB ((zDt (k:=3) hs4.ok hi (by omega) (by omega) sl sh (by omega) (by omega) (by show _≤5864062014000;omega)).mono ?_)
  rintro ⟨st5,f5⟩ ⟨q5,hst5,hs5,h5⟩
  simp only at hst5 h5
  subst hst5
  have c5:=hs5.cnt
  refine zB (zBF hs5.ok hi (h4.step hs4.ok hs5) h5 4 w4.wd (by show _≤5864062014000;omega) ?_)
  intro q6 f6 hs6 h6
  have c6:=hs6.cnt
  refine zB ((zDt (k:=4) hs6.ok hi (by omega) (by omega) dl dh (by omega) (by omega) (by show _≤5864062014000;omega)).mono ?_)
  rintro ⟨st7,f7⟩ ⟨q7,hst7,hs7,h7⟩
  simp only at hst7 h7
  subst hst7
  have c7:=hs7.cnt
  refine zB (zBF hs7.ok hi (h6.step hs6.ok hs7) h7 4 w5.wd (by show _≤5864062014000;omega) ?_)
  intro q8 f8 hs8 h8
  refine zA ⟨q8,rfl,(((((((hs1.trans hs2).trans hs3).trans hs4).trans hs5).trans hs6).trans hs7).trans hs8).mono (by show _≤400000;omega),h8⟩
end Go.Ve



namespace Go.Ve
open Go
set_option maxRecDepth 1000000
set_option maxHeartbeats 4000000
theorem zS {α:Type} {xs:List α} {i:Int} {Q:α→Prop} {B:α→Prop} (hB: ∀y,y∈xs→B y) (h0:0≤i) (h1:i<xs.length) (h: ∀y,xs[i.toNat]? =some y→B y→Q y):Wp (idx xs i) Q:=
 jB h0 h1 (fun y hm hy=>h y hy (hB y hm))
structure SmL (r:Ty.El zD):Prop where
 i1:List.length r.2.2.1≤1048576
 i2:List.length r.2.2.2.1≤1048576
 i3:List.length r.2.2.2.2.1≤1048576
 i4:List.length r.2.2.2.2.2.1≤1048576
 i5:List.length r.2.2.2.2.2.2.1≤1048576
 i6:List.length r.2.2.2.2.2.2.2.1≤1048576
 i7:List.length r.2.2.2.2.2.2.2.2.1.2.2.1≤1048576
 i8:List.length r.2.2.2.2.2.2.2.2.1.2.2.2.1≤1048576
 i9:List.length r.2.2.2.2.2.2.2.2.2.1.2.2.2.2.1≤1048576
 i10:List.length r.2.2.2.2.2.2.2.2.2.2.1.2.2.2.1≤1048576
 i11:List.length r.2.2.2.2.2.2.2.2.2.2.1.2.2.2.2.1≤1048576
 i12:List.length r.2.2.2.2.2.2.2.2.2.2.1.2.2.2.2.2.1≤1048576
 i13:List.length r.2.2.2.2.2.2.2.2.2.2.1.2.2.2.2.2.2.1≤1048576
 i14:List.length r.2.2.2.2.2.2.2.2.2.2.1.2.2.2.2.2.2.2.1≤1048576
 n1: ∀y,y∈r.2.2.2.1→List.length y.2.1≤1048576
 n2: ∀y,y∈r.2.2.2.2.1→List.length y.2.1≤1048576
 n3: ∀y,y∈r.2.2.2.2.2.1→List.length y.2.1≤1048576
structure zTq (r:Ty.El tPV):Prop where
 i10:List.length r.2.2.2.1≤1048576
 i11:List.length r.2.2.2.2.1≤1048576
 i12:List.length r.2.2.2.2.2.1≤1048576
 i13:List.length r.2.2.2.2.2.2.1≤1048576
 i14:List.length r.2.2.2.2.2.2.2.1≤1048576
theorem zJb (a1:Int):Wp (yP (a1,())) (fun _=>True):=vJ (yW a1) trivial
theorem yT (a1:Ty.El zI):Wp (jQ (a1,())) (fun _=>True):=vJ (zC7 a1) trivial
theorem zFE (a1:Ty.El zI) (a2:Int):Wp (uZ (a1,a2,())) (fun _=>True):=vJ (zEV a1 a2) trivial
theorem zH8 (a1:Int):Wp (zBb (a1,())) (fun _=>True):=zA trivial
theorem jI {α:Type} {xs:List α} {a b:Int} {Q:List α→Prop} (h0:0≤a) (h1:a≤b) (h2:b≤(xs.length:Int)) (h: ∀ys:List α,ys.length≤xs.length→(∀y,y∈ys→y∈xs)→Q ys):Wp (sub xs a b) Q:=by
 refine ⟨(xs.take b.toNat).drop a.toNat,?_,h _ ?_ (fun y hy=>List.mem_of_mem_take (List.mem_of_mem_drop hy))⟩
 ·unfold sub
  rw [if_pos (by omega)]
 ·rw [List.length_drop,List.length_take];omega
theorem zDH {α:Type} (p:α→Bool) (xs:List α): -1≤zBo p xs∧zBo p xs< (xs.length:Int):=by
 rcases zFg p xs with ⟨h,_⟩|⟨i,x,h,hx,_⟩
 ·rw [h];exact ⟨by omega,by omega⟩
 ·have:=(List.getElem?_eq_some_iff.1 hx).1
  rw [h];exact ⟨by omega,by omega⟩
theorem zDu (r:Ty.El zD) (s:ByteArray) (h:r.2.2.1.length≤1048576):Wp (wM (r,s,())) (fun k=>k=zBo (fun x:Ty.El wK=>x.1==s) r.2.2.1):=by
 unfold wM qY
 refine zB (zFA (p:=fun x:Ty.El wK=>x.1==s) (Nat.lt_of_le_of_lt h (by omega)) (fun i x hx=> ?_) (zA rfl))
 rw [uB hx,Option.bind_some]
 unfold yC
 dsimp only
 rw [Option.bind_some]
 cases x.1==s<;>rfl
theorem zAF (a1:Ty.El zD) (a2:Ty.El .str) (h0:SmL a1):Wp (wM (a1,a2,())) (fun (r:Int)=> -1≤r∧r< (List.length a1.2.2.1:Int)):=by
 refine (zDu a1 a2 (by cases h0;assumption)).mono ?_
 rintro _ rfl
 exact zDH _ _
theorem zDi (r:Ty.El zD) (s:ByteArray) (h:r.2.2.2.1.length≤1048576):Wp (qK (r,s,())) (fun k=>k=zBo (fun x:Ty.El zCx=>x.1==s) r.2.2.2.1):=by
 unfold qK qS
 refine zB (zFA (p:=fun x:Ty.El zCx=>x.1==s) (Nat.lt_of_le_of_lt h (by omega)) (fun i x hx=> ?_) (zA rfl))
 rw [uB hx,Option.bind_some]
 unfold uN
 dsimp only
 rw [Option.bind_some]
 cases x.1==s<;>rfl
theorem kQ (a1:Ty.El zD) (a2:Ty.El .str) (h0:SmL a1):Wp (qK (a1,a2,())) (fun (r:Int)=> -1≤r∧r< (List.length a1.2.2.2.1:Int)):=by
 refine (zDi a1 a2 (by cases h0;assumption)).mono ?_
 rintro _ rfl
 exact zDH _ _
theorem zEu (r:Ty.El zD) (s:ByteArray) (h:r.2.2.2.2.1.length≤1048576):Wp (qZ (r,s,())) (fun k=>k=zBo (fun x:Ty.El zFG=>x.1==s) r.2.2.2.2.1):=by
 unfold qZ jC
 refine zB (zFA (p:=fun x:Ty.El zFG=>x.1==s) (Nat.lt_of_le_of_lt h (by omega)) (fun i x hx=> ?_) (zA rfl))
 rw [uB hx,Option.bind_some]
 unfold xD
 dsimp only
 rw [Option.bind_some]
 cases x.1==s<;>rfl
theorem u9 (a1:Ty.El zD) (a2:Ty.El .str) (h0:SmL a1):Wp (qZ (a1,a2,())) (fun (r:Int)=> -1≤r∧r< (List.length a1.2.2.2.2.1:Int)):=by
 refine (zEu a1 a2 (by cases h0;assumption)).mono ?_
 rintro _ rfl
 exact zDH _ _
theorem zA2 (r:Ty.El zD) (s:ByteArray) (h:r.2.2.2.2.2.1.length≤1048576):Wp (vQ (r,s,())) (fun k=>k=zBo (fun x:Ty.El yA=>x.1==s) r.2.2.2.2.2.1):=by
 unfold vQ wA
 refine zB (zFA (p:=fun x:Ty.El yA=>x.1==s) (Nat.lt_of_le_of_lt h (by omega)) (fun i x hx=> ?_) (zA rfl))
 rw [uB hx,Option.bind_some]
 unfold zCI
 dsimp only
 rw [Option.bind_some]
 cases x.1==s<;>rfl
theorem zEE (a1:Ty.El zD) (a2:Ty.El .str) (h0:SmL a1):Wp (vQ (a1,a2,())) (fun (r:Int)=> -1≤r∧r< (List.length a1.2.2.2.2.2.1:Int)):=by
 refine (zA2 a1 a2 (by cases h0;assumption)).mono ?_
 rintro _ rfl
 exact zDH _ _
theorem zFD (a1:Ty.El zD) (a2:Ty.El tU) (h0:SmL a1):Wp (zAi (a1,a2,())) (fun (r:Int)=> -1≤r∧r< (List.length a1.2.2.1:Int)):=by
 unfold zAi qW
 refine zB (zFA (p:=fun x:Ty.El wK=>(vP (x,a2,())).getD false) (Nat.lt_of_le_of_lt h0.i1 (by omega)) (fun i x hx=> ?_) (zA (zDH _ _)))
 rw [uB hx,Option.bind_some]
 have hc:Wp (vP (x,a2,())) (fun _=>True):=by
  unfold vP
  exact zB (zH (fun _=>zA (zA trivial)) (fun _=>zA (zA trivial)))
 obtain ⟨b,hb,_⟩:=hc
 rw [hb,Option.bind_some,Option.getD_some]
 cases b<;>rfl
theorem zHt (a1:Ty.El (.int .u8))  :Wp (zAn (a1,())) (fun _=>True):=by
 unfold zAn
 try dsimp only
 repeat' (first
  |with_reducible exact trivial
  |assumption
  |contradiction
  |with_reducible refine zA ?_
  |with_reducible refine zP ?_ ?_ (fun y _ _=> ?_)
  |with_reducible refine jI ?_ ?_ ?_ (fun ys _ _=> ?_)
  |with_reducible refine jB ?_ ?_ (fun y _ _=> ?_)
  |with_reducible refine wp_bifn (fun _=> ?_) (fun _=> ?_)
  |with_reducible refine zJ (fun _=> ?_) (fun _=> ?_)
  |with_reducible refine zH (fun _=> ?_) (fun _=> ?_)
  |with_reducible refine qC ?_
  |with_reducible refine jJ (fun s _ _=> ?_) (fun s _ _=> ?_)
  |simp only [idx_of ‹_[_]? =some _›,Option.bind_some]
  |with_reducible refine wp_map ?_
  |with_reducible refine zB ?_
  |with_reducible refine e2l ?_
  |with_reducible refine e2r ?_
  |exact wrap_i64 (by omega) (by omega)
  |omega
  |(rw [wrap_i64 (by omega) (by omega)];omega)
  |(simp only [beq_iff_eq] at*;omega)
  |(simp only [List.length_cons,List.length_nil] at*;exact wrap_i64 (by omega) (by omega)))
theorem zH7 (a1:Ty.El (.int .u8))  :Wp (scan_digit (a1,())) (fun _=>True):=by
 unfold scan_digit
 try dsimp only
 repeat' (first
  |with_reducible exact trivial
  |assumption
  |contradiction
  |with_reducible refine zA ?_
  |with_reducible refine zP ?_ ?_ (fun y _ _=> ?_)
  |with_reducible refine jI ?_ ?_ ?_ (fun ys _ _=> ?_)
  |with_reducible refine jB ?_ ?_ (fun y _ _=> ?_)
  |with_reducible refine wp_bifn (fun _=> ?_) (fun _=> ?_)
  |with_reducible refine zJ (fun _=> ?_) (fun _=> ?_)
  |with_reducible refine zH (fun _=> ?_) (fun _=> ?_)
  |with_reducible refine qC ?_
  |with_reducible refine jJ (fun s _ _=> ?_) (fun s _ _=> ?_)
  |simp only [idx_of ‹_[_]? =some _›,Option.bind_some]
  |with_reducible refine wp_map ?_
  |with_reducible refine zB ?_
  |with_reducible refine e2l ?_
  |with_reducible refine e2r ?_
  |exact wrap_i64 (by omega) (by omega)
  |omega
  |(rw [wrap_i64 (by omega) (by omega)];omega)
  |(simp only [beq_iff_eq] at*;omega)
  |(simp only [List.length_cons,List.length_nil] at*;exact wrap_i64 (by omega) (by omega)))
theorem zAh (a1:Ty.El (.str))  :Wp (j6 (a1,())) (fun _=>True):=by
 unfold j6
 try dsimp only
 repeat' (first
  |with_reducible exact trivial
  |assumption
  |contradiction
  |with_reducible refine zA ?_
  |with_reducible refine (zHt _).mono (fun r _=> ?_)
  |with_reducible refine (zH7 _).mono (fun r _=> ?_)
  |with_reducible refine zP ?_ ?_ (fun y _ _=> ?_)
  |with_reducible refine jI ?_ ?_ ?_ (fun ys _ _=> ?_)
  |with_reducible refine jB ?_ ?_ (fun y _ _=> ?_)
  |with_reducible refine wp_bifn (fun _=> ?_) (fun _=> ?_)
  |with_reducible refine zJ (fun _=> ?_) (fun _=> ?_)
  |with_reducible refine zH (fun _=> ?_) (fun _=> ?_)
  |with_reducible refine qC ?_
  |with_reducible refine jJ (fun s _ _=> ?_) (fun s _ _=> ?_)
  |simp only [idx_of ‹_[_]? =some _›,Option.bind_some]
  |with_reducible refine wp_map ?_
  |with_reducible refine zB ?_
  |with_reducible refine e2l ?_
  |with_reducible refine e2r ?_
  |exact wrap_i64 (by omega) (by omega)
  |omega
  |(rw [wrap_i64 (by omega) (by omega)];omega)
  |(simp only [beq_iff_eq] at*;omega)
  |(simp only [List.length_cons,List.length_nil] at*;exact wrap_i64 (by omega) (by omega)))
theorem qJ (a1:Ty.El (tI)) (a2:Ty.El (tI)) (a3:Ty.El (tI))  :Wp (zF (a1,a2,a3,())) (fun _=>True):=by
 unfold zF
 try dsimp only
 repeat' (first
  |with_reducible exact trivial
  |assumption
  |contradiction
  |with_reducible refine zA ?_
  |with_reducible refine zP ?_ ?_ (fun y _ _=> ?_)
  |with_reducible refine jI ?_ ?_ ?_ (fun ys _ _=> ?_)
  |with_reducible refine jB ?_ ?_ (fun y _ _=> ?_)
  |with_reducible refine wp_bifn (fun _=> ?_) (fun _=> ?_)
  |with_reducible refine zJ (fun _=> ?_) (fun _=> ?_)
  |with_reducible refine zH (fun _=> ?_) (fun _=> ?_)
  |with_reducible refine qC ?_
  |with_reducible refine jJ (fun s _ _=> ?_) (fun s _ _=> ?_)
  |simp only [idx_of ‹_[_]? =some _›,Option.bind_some]
  |with_reducible refine wp_map ?_
  |with_reducible refine zB ?_
  |with_reducible refine e2l ?_
  |with_reducible refine e2r ?_
  |exact wrap_i64 (by omega) (by omega)
  |omega
  |(rw [wrap_i64 (by omega) (by omega)];omega)
  |(simp only [beq_iff_eq] at*;omega)
  |(simp only [List.length_cons,List.length_nil] at*;exact wrap_i64 (by omega) (by omega)))
theorem zBJ (a1:Ty.El (wK))  :Wp (wP (a1,())) (fun _=>True):=by
 unfold wP
 try dsimp only
 repeat' (first
  |with_reducible exact trivial
  |assumption
  |contradiction
  |with_reducible refine zA ?_
  |with_reducible refine (qJ _ _ _).mono (fun r _=> ?_)
  |with_reducible refine zP ?_ ?_ (fun y _ _=> ?_)
  |with_reducible refine jI ?_ ?_ ?_ (fun ys _ _=> ?_)
  |with_reducible refine jB ?_ ?_ (fun y _ _=> ?_)
  |with_reducible refine wp_bifn (fun _=> ?_) (fun _=> ?_)
  |with_reducible refine zJ (fun _=> ?_) (fun _=> ?_)
  |with_reducible refine zH (fun _=> ?_) (fun _=> ?_)
  |with_reducible refine qC ?_
  |with_reducible refine jJ (fun s _ _=> ?_) (fun s _ _=> ?_)
  |simp only [idx_of ‹_[_]? =some _›,Option.bind_some]
  |with_reducible refine wp_map ?_
  |with_reducible refine zB ?_
  |with_reducible refine e2l ?_
  |with_reducible refine e2r ?_
  |exact wrap_i64 (by omega) (by omega)
  |omega
  |(rw [wrap_i64 (by omega) (by omega)];omega)
  |(simp only [beq_iff_eq] at*;omega)
  |(simp only [List.length_cons,List.length_nil] at*;exact wrap_i64 (by omega) (by omega)))
theorem zGu (a1:Ty.El (tU)) (a2:Ty.El (tI))  :Wp (xO (a1,a2,())) (fun _=>True):=by
 unfold xO
 try dsimp only
 repeat' (first
  |with_reducible exact trivial
  |assumption
  |contradiction
  |with_reducible refine zA ?_
  |with_reducible refine (zJb _).mono (fun r _=> ?_)
  |with_reducible refine (zH8 _).mono (fun r _=> ?_)
  |with_reducible refine zP ?_ ?_ (fun y _ _=> ?_)
  |with_reducible refine jI ?_ ?_ ?_ (fun ys _ _=> ?_)
  |with_reducible refine jB ?_ ?_ (fun y _ _=> ?_)
  |with_reducible refine wp_bifn (fun _=> ?_) (fun _=> ?_)
  |with_reducible refine zJ (fun _=> ?_) (fun _=> ?_)
  |with_reducible refine zH (fun _=> ?_) (fun _=> ?_)
  |with_reducible refine qC ?_
  |with_reducible refine jJ (fun s _ _=> ?_) (fun s _ _=> ?_)
  |simp only [idx_of ‹_[_]? =some _›,Option.bind_some]
  |with_reducible refine wp_map ?_
  |with_reducible refine zB ?_
  |with_reducible refine e2l ?_
  |with_reducible refine e2r ?_
  |exact wrap_i64 (by omega) (by omega)
  |omega
  |(rw [wrap_i64 (by omega) (by omega)];omega)
  |(simp only [beq_iff_eq] at*;omega)
  |(simp only [List.length_cons,List.length_nil] at*;exact wrap_i64 (by omega) (by omega)))
theorem zHu (a1:Ty.El (zI)) (a2:Ty.El (zI))  :Wp (zAu (a1,a2,())) (fun _=>True):=by
 unfold zAu
 try dsimp only
 repeat' (first
  |with_reducible exact trivial
  |assumption
  |contradiction
  |with_reducible refine zA ?_
  |with_reducible refine (zFE _ _).mono (fun r _=> ?_)
  |with_reducible refine zP ?_ ?_ (fun y _ _=> ?_)
  |with_reducible refine jI ?_ ?_ ?_ (fun ys _ _=> ?_)
  |with_reducible refine jB ?_ ?_ (fun y _ _=> ?_)
  |with_reducible refine wp_bifn (fun _=> ?_) (fun _=> ?_)
  |with_reducible refine zJ (fun _=> ?_) (fun _=> ?_)
  |with_reducible refine zH (fun _=> ?_) (fun _=> ?_)
  |with_reducible refine qC ?_
  |with_reducible refine jJ (fun s _ _=> ?_) (fun s _ _=> ?_)
  |simp only [idx_of ‹_[_]? =some _›,Option.bind_some]
  |with_reducible refine wp_map ?_
  |with_reducible refine zB ?_
  |with_reducible refine e2l ?_
  |with_reducible refine e2r ?_
  |exact wrap_i64 (by omega) (by omega)
  |omega
  |(rw [wrap_i64 (by omega) (by omega)];omega)
  |(simp only [beq_iff_eq] at*;omega)
  |(simp only [List.length_cons,List.length_nil] at*;exact wrap_i64 (by omega) (by omega)))
theorem zBt (a1:Ty.El (zI)) (a2:Ty.El (zI))  :Wp (uY (a1,a2,())) (fun _=>True):=by
 unfold uY
 try dsimp only
 repeat' (first
  |with_reducible exact trivial
  |assumption
  |contradiction
  |with_reducible refine zA ?_
  |with_reducible refine (zHu _ _).mono (fun r _=> ?_)
  |with_reducible refine zP ?_ ?_ (fun y _ _=> ?_)
  |with_reducible refine jI ?_ ?_ ?_ (fun ys _ _=> ?_)
  |with_reducible refine jB ?_ ?_ (fun y _ _=> ?_)
  |with_reducible refine wp_bifn (fun _=> ?_) (fun _=> ?_)
  |with_reducible refine zJ (fun _=> ?_) (fun _=> ?_)
  |with_reducible refine zH (fun _=> ?_) (fun _=> ?_)
  |with_reducible refine qC ?_
  |with_reducible refine jJ (fun s _ _=> ?_) (fun s _ _=> ?_)
  |simp only [idx_of ‹_[_]? =some _›,Option.bind_some]
  |with_reducible refine wp_map ?_
  |with_reducible refine zB ?_
  |with_reducible refine e2l ?_
  |with_reducible refine e2r ?_
  |exact wrap_i64 (by omega) (by omega)
  |omega
  |(rw [wrap_i64 (by omega) (by omega)];omega)
  |(simp only [beq_iff_eq] at*;omega)
  |(simp only [List.length_cons,List.length_nil] at*;exact wrap_i64 (by omega) (by omega)))
theorem zBf (a1:Ty.El (zD)) (h0:SmL a1):Wp (wI (a1,())) (fun _=>True):=by
 have hh0:=h0
 obtain ⟨i1,i2,i3,i4,i5,i6,i7,i8,i9,i10,i11,i12,i13,i14,n1,n2,n3⟩:=hh0
 unfold wI
 try dsimp only
 repeat' (first
  |with_reducible exact trivial
  |exact ⟨i10,i11,i12,i13,i14⟩
  |assumption
  |contradiction
  |with_reducible refine zA ?_
  |with_reducible refine (zAh _).mono (fun r _=> ?_)
  |with_reducible refine (zAF _ _ ?_).mono (fun r _=> ?_)
  |with_reducible refine (zBJ _).mono (fun r _=> ?_)
  |with_reducible refine (zGu _ _).mono (fun r _=> ?_)
  |with_reducible refine (zBt _ _).mono (fun r _=> ?_)
  |with_reducible refine zP ?_ ?_ (fun y _ _=> ?_)
  |with_reducible refine zS n1 ?_ ?_ (fun y _ _=> ?_)
  |with_reducible refine zS n2 ?_ ?_ (fun y _ _=> ?_)
  |with_reducible refine zS n3 ?_ ?_ (fun y _ _=> ?_)
  |with_reducible refine jI ?_ ?_ ?_ (fun ys _ _=> ?_)
  |with_reducible refine jB ?_ ?_ (fun y _ _=> ?_)
  |with_reducible refine wp_bifn (fun _=> ?_) (fun _=> ?_)
  |with_reducible refine zJ (fun _=> ?_) (fun _=> ?_)
  |with_reducible refine zH (fun _=> ?_) (fun _=> ?_)
  |with_reducible refine qC ?_
  |with_reducible refine jJ (fun s _ _=> ?_) (fun s _ _=> ?_)
  |simp only [idx_of ‹_[_]? =some _›,Option.bind_some]
  |with_reducible refine wp_map ?_
  |with_reducible refine zB ?_
  |with_reducible refine e2l ?_
  |with_reducible refine e2r ?_
  |exact wrap_i64 (by omega) (by omega)
  |omega
  |(rw [wrap_i64 (by omega) (by omega)];omega)
  |(simp only [beq_iff_eq] at*;omega)
  |(simp only [List.length_cons,List.length_nil] at*;exact wrap_i64 (by omega) (by omega)))
theorem zAE (a1:Ty.El (tI)) (a2:Ty.El (tI)) (a3:Ty.El (.str)) (a4:Ty.El (tI)) (a5:Ty.El (tI))  :Wp (jP (a1,a2,a3,a4,a5,())) (fun _=>True):=by
 unfold jP
 try dsimp only
 repeat' (first
  |with_reducible exact trivial
  |assumption
  |contradiction
  |with_reducible refine zA ?_
  |with_reducible refine (zAh _).mono (fun r _=> ?_)
  |with_reducible refine zP ?_ ?_ (fun y _ _=> ?_)
  |with_reducible refine jI ?_ ?_ ?_ (fun ys _ _=> ?_)
  |with_reducible refine jB ?_ ?_ (fun y _ _=> ?_)
  |with_reducible refine wp_bifn (fun _=> ?_) (fun _=> ?_)
  |with_reducible refine zJ (fun _=> ?_) (fun _=> ?_)
  |with_reducible refine zH (fun _=> ?_) (fun _=> ?_)
  |with_reducible refine qC ?_
  |with_reducible refine jJ (fun s _ _=> ?_) (fun s _ _=> ?_)
  |simp only [idx_of ‹_[_]? =some _›,Option.bind_some]
  |with_reducible refine wp_map ?_
  |with_reducible refine zB ?_
  |with_reducible refine e2l ?_
  |with_reducible refine e2r ?_
  |exact wrap_i64 (by omega) (by omega)
  |omega
  |(rw [wrap_i64 (by omega) (by omega)];omega)
  |(simp only [beq_iff_eq] at*;omega)
  |(simp only [List.length_cons,List.length_nil] at*;exact wrap_i64 (by omega) (by omega)))
theorem zA0 (a1:Ty.El (zD)) (h0:SmL a1):Wp (jY (a1,())) (fun _=>True):=by
 have hh0:=h0
 obtain ⟨i1,i2,i3,i4,i5,i6,i7,i8,i9,i10,i11,i12,i13,i14,n1,n2,n3⟩:=hh0
 unfold jY
 try dsimp only
 repeat' (first
  |with_reducible exact trivial
  |exact ⟨i10,i11,i12,i13,i14⟩
  |assumption
  |contradiction
  |with_reducible refine zA ?_
  |with_reducible refine (kQ _ _ ?_).mono (fun r _=> ?_)
  |with_reducible refine (zAE _ _ _ _ _).mono (fun r _=> ?_)
  |with_reducible refine (yT _).mono (fun r _=> ?_)
  |with_reducible refine zP ?_ ?_ (fun y _ _=> ?_)
  |with_reducible refine zS n1 ?_ ?_ (fun y _ _=> ?_)
  |with_reducible refine zS n2 ?_ ?_ (fun y _ _=> ?_)
  |with_reducible refine zS n3 ?_ ?_ (fun y _ _=> ?_)
  |with_reducible refine jI ?_ ?_ ?_ (fun ys _ _=> ?_)
  |with_reducible refine jB ?_ ?_ (fun y _ _=> ?_)
  |with_reducible refine wp_bifn (fun _=> ?_) (fun _=> ?_)
  |with_reducible refine zJ (fun _=> ?_) (fun _=> ?_)
  |with_reducible refine zH (fun _=> ?_) (fun _=> ?_)
  |with_reducible refine qC ?_
  |with_reducible refine jJ (fun s _ _=> ?_) (fun s _ _=> ?_)
  |simp only [idx_of ‹_[_]? =some _›,Option.bind_some]
  |with_reducible refine wp_map ?_
  |with_reducible refine zB ?_
  |with_reducible refine e2l ?_
  |with_reducible refine e2r ?_
  |exact wrap_i64 (by omega) (by omega)
  |omega
  |(rw [wrap_i64 (by omega) (by omega)];omega)
  |(simp only [beq_iff_eq] at*;omega)
  |(simp only [List.length_cons,List.length_nil] at*;exact wrap_i64 (by omega) (by omega)))
theorem zDh (a1:Ty.El (zFH))  :Wp (kN (a1,())) (fun _=>True):=by
 unfold kN
 try dsimp only
 repeat' (first
  |with_reducible exact trivial
  |assumption
  |contradiction
  |with_reducible refine zA ?_
  |with_reducible refine (qJ _ _ _).mono (fun r _=> ?_)
  |with_reducible refine zP ?_ ?_ (fun y _ _=> ?_)
  |with_reducible refine jI ?_ ?_ ?_ (fun ys _ _=> ?_)
  |with_reducible refine jB ?_ ?_ (fun y _ _=> ?_)
  |with_reducible refine wp_bifn (fun _=> ?_) (fun _=> ?_)
  |with_reducible refine zJ (fun _=> ?_) (fun _=> ?_)
  |with_reducible refine zH (fun _=> ?_) (fun _=> ?_)
  |with_reducible refine qC ?_
  |with_reducible refine jJ (fun s _ _=> ?_) (fun s _ _=> ?_)
  |simp only [idx_of ‹_[_]? =some _›,Option.bind_some]
  |with_reducible refine wp_map ?_
  |with_reducible refine zB ?_
  |with_reducible refine e2l ?_
  |with_reducible refine e2r ?_
  |exact wrap_i64 (by omega) (by omega)
  |omega
  |(rw [wrap_i64 (by omega) (by omega)];omega)
  |(simp only [beq_iff_eq] at*;omega)
  |(simp only [List.length_cons,List.length_nil] at*;exact wrap_i64 (by omega) (by omega)))
theorem zBK (a1:Ty.El (zD)) (h0:SmL a1):Wp (wQ (a1,())) (fun _=>True):=by
 have hh0:=h0
 obtain ⟨i1,i2,i3,i4,i5,i6,i7,i8,i9,i10,i11,i12,i13,i14,n1,n2,n3⟩:=hh0
 unfold wQ
 try dsimp only
 repeat' (first
  |with_reducible exact trivial
  |exact ⟨i10,i11,i12,i13,i14⟩
  |assumption
  |contradiction
  |with_reducible refine zA ?_
  |with_reducible refine (u9 _ _ ?_).mono (fun r _=> ?_)
  |with_reducible refine (zAE _ _ _ _ _).mono (fun r _=> ?_)
  |with_reducible refine (kQ _ _ ?_).mono (fun r _=> ?_)
  |with_reducible refine (zDh _).mono (fun r _=> ?_)
  |with_reducible refine zP ?_ ?_ (fun y _ _=> ?_)
  |with_reducible refine zS n1 ?_ ?_ (fun y _ _=> ?_)
  |with_reducible refine zS n2 ?_ ?_ (fun y _ _=> ?_)
  |with_reducible refine zS n3 ?_ ?_ (fun y _ _=> ?_)
  |with_reducible refine jI ?_ ?_ ?_ (fun ys _ _=> ?_)
  |with_reducible refine jB ?_ ?_ (fun y _ _=> ?_)
  |with_reducible refine wp_bifn (fun _=> ?_) (fun _=> ?_)
  |with_reducible refine zJ (fun _=> ?_) (fun _=> ?_)
  |with_reducible refine zH (fun _=> ?_) (fun _=> ?_)
  |with_reducible refine qC ?_
  |with_reducible refine jJ (fun s _ _=> ?_) (fun s _ _=> ?_)
  |simp only [idx_of ‹_[_]? =some _›,Option.bind_some]
  |with_reducible refine wp_map ?_
  |with_reducible refine zB ?_
  |with_reducible refine e2l ?_
  |with_reducible refine e2r ?_
  |exact wrap_i64 (by omega) (by omega)
  |omega
  |(rw [wrap_i64 (by omega) (by omega)];omega)
  |(simp only [beq_iff_eq] at*;omega)
  |(simp only [List.length_cons,List.length_nil] at*;exact wrap_i64 (by omega) (by omega)))
theorem zAZ (a1:Ty.El (zPv))  :Wp (jX (a1,())) (fun _=>True):=by
 unfold jX
 try dsimp only
 repeat' (first
  |with_reducible exact trivial
  |assumption
  |contradiction
  |with_reducible refine zA ?_
  |with_reducible refine (qJ _ _ _).mono (fun r _=> ?_)
  |with_reducible refine zP ?_ ?_ (fun y _ _=> ?_)
  |with_reducible refine jI ?_ ?_ ?_ (fun ys _ _=> ?_)
  |with_reducible refine jB ?_ ?_ (fun y _ _=> ?_)
  |with_reducible refine wp_bifn (fun _=> ?_) (fun _=> ?_)
  |with_reducible refine zJ (fun _=> ?_) (fun _=> ?_)
  |with_reducible refine zH (fun _=> ?_) (fun _=> ?_)
  |with_reducible refine qC ?_
  |with_reducible refine jJ (fun s _ _=> ?_) (fun s _ _=> ?_)
  |simp only [idx_of ‹_[_]? =some _›,Option.bind_some]
  |with_reducible refine wp_map ?_
  |with_reducible refine zB ?_
  |with_reducible refine e2l ?_
  |with_reducible refine e2r ?_
  |exact wrap_i64 (by omega) (by omega)
  |omega
  |(rw [wrap_i64 (by omega) (by omega)];omega)
  |(simp only [beq_iff_eq] at*;omega)
  |(simp only [List.length_cons,List.length_nil] at*;exact wrap_i64 (by omega) (by omega)))
theorem zER (a1:Ty.El (zD)) (h0:SmL a1):Wp (xC (a1,())) (fun _=>True):=by
 have hh0:=h0
 obtain ⟨i1,i2,i3,i4,i5,i6,i7,i8,i9,i10,i11,i12,i13,i14,n1,n2,n3⟩:=hh0
 unfold xC
 try dsimp only
 repeat' (first
  |with_reducible exact trivial
  |exact ⟨i10,i11,i12,i13,i14⟩
  |assumption
  |contradiction
  |with_reducible refine zA ?_
  |with_reducible refine (zAZ _).mono (fun r _=> ?_)
  |with_reducible refine (zEE _ _ ?_).mono (fun r _=> ?_)
  |with_reducible refine zP ?_ ?_ (fun y _ _=> ?_)
  |with_reducible refine zS n1 ?_ ?_ (fun y _ _=> ?_)
  |with_reducible refine zS n2 ?_ ?_ (fun y _ _=> ?_)
  |with_reducible refine zS n3 ?_ ?_ (fun y _ _=> ?_)
  |with_reducible refine jI ?_ ?_ ?_ (fun ys _ _=> ?_)
  |with_reducible refine jB ?_ ?_ (fun y _ _=> ?_)
  |with_reducible refine wp_bifn (fun _=> ?_) (fun _=> ?_)
  |with_reducible refine zJ (fun _=> ?_) (fun _=> ?_)
  |with_reducible refine zH (fun _=> ?_) (fun _=> ?_)
  |with_reducible refine qC ?_
  |with_reducible refine jJ (fun s _ _=> ?_) (fun s _ _=> ?_)
  |simp only [idx_of ‹_[_]? =some _›,Option.bind_some]
  |with_reducible refine wp_map ?_
  |with_reducible refine zB ?_
  |with_reducible refine e2l ?_
  |with_reducible refine e2r ?_
  |exact wrap_i64 (by omega) (by omega)
  |omega
  |(rw [wrap_i64 (by omega) (by omega)];omega)
  |(simp only [beq_iff_eq] at*;omega)
  |(simp only [List.length_cons,List.length_nil] at*;exact wrap_i64 (by omega) (by omega)))
theorem zCu (a1:Ty.El (zD)) (h0:SmL a1):Wp (kA (a1,())) (fun _=>True):=by
 have hh0:=h0
 obtain ⟨i1,i2,i3,i4,i5,i6,i7,i8,i9,i10,i11,i12,i13,i14,n1,n2,n3⟩:=hh0
 unfold kA
 try dsimp only
 repeat' (first
  |with_reducible exact trivial
  |exact ⟨i10,i11,i12,i13,i14⟩
  |assumption
  |contradiction
  |with_reducible refine zA ?_
  |with_reducible refine (zEE _ _ ?_).mono (fun r _=> ?_)
  |with_reducible refine zP ?_ ?_ (fun y _ _=> ?_)
  |with_reducible refine zS n1 ?_ ?_ (fun y _ _=> ?_)
  |with_reducible refine zS n2 ?_ ?_ (fun y _ _=> ?_)
  |with_reducible refine zS n3 ?_ ?_ (fun y _ _=> ?_)
  |with_reducible refine jI ?_ ?_ ?_ (fun ys _ _=> ?_)
  |with_reducible refine jB ?_ ?_ (fun y _ _=> ?_)
  |with_reducible refine wp_bifn (fun _=> ?_) (fun _=> ?_)
  |with_reducible refine zJ (fun _=> ?_) (fun _=> ?_)
  |with_reducible refine zH (fun _=> ?_) (fun _=> ?_)
  |with_reducible refine qC ?_
  |with_reducible refine jJ (fun s _ _=> ?_) (fun s _ _=> ?_)
  |simp only [idx_of ‹_[_]? =some _›,Option.bind_some]
  |with_reducible refine wp_map ?_
  |with_reducible refine zB ?_
  |with_reducible refine e2l ?_
  |with_reducible refine e2r ?_
  |exact wrap_i64 (by omega) (by omega)
  |omega
  |(rw [wrap_i64 (by omega) (by omega)];omega)
  |(simp only [beq_iff_eq] at*;omega)
  |(simp only [List.length_cons,List.length_nil] at*;exact wrap_i64 (by omega) (by omega)))
theorem zDg (a1:Ty.El (zD)) (a2:Ty.El (zCw)) (h0:SmL a1):Wp (kM (a1,a2,())) (fun _=>True):=by
 have hh0:=h0
 obtain ⟨i1,i2,i3,i4,i5,i6,i7,i8,i9,i10,i11,i12,i13,i14,n1,n2,n3⟩:=hh0
 unfold kM
 try dsimp only
 refine zB (zNz (by simp) (fun _ _=>True) trivial (fun i x g hx _=>zB (vJ (uB hx) (zH (fun _=>zA trivial) (fun _=>zA trivial)))) (fun g _=> ?_))
 repeat' (first
  |with_reducible exact trivial
  |exact ⟨i10,i11,i12,i13,i14⟩
  |assumption
  |contradiction
  |with_reducible refine zA ?_
  |with_reducible refine (yT _).mono (fun r _=> ?_)
  |with_reducible refine (zFD _ _ ?_).mono (fun r _=> ?_)
  |with_reducible refine (qJ _ _ _).mono (fun r _=> ?_)
  |with_reducible refine zP ?_ ?_ (fun y _ _=> ?_)
  |with_reducible refine zS n1 ?_ ?_ (fun y _ _=> ?_)
  |with_reducible refine zS n2 ?_ ?_ (fun y _ _=> ?_)
  |with_reducible refine zS n3 ?_ ?_ (fun y _ _=> ?_)
  |with_reducible refine jI ?_ ?_ ?_ (fun ys _ _=> ?_)
  |with_reducible refine jB ?_ ?_ (fun y _ _=> ?_)
  |with_reducible refine wp_bifn (fun _=> ?_) (fun _=> ?_)
  |with_reducible refine zJ (fun _=> ?_) (fun _=> ?_)
  |with_reducible refine zH (fun _=> ?_) (fun _=> ?_)
  |with_reducible refine qC ?_
  |with_reducible refine jJ (fun s _ _=> ?_) (fun s _ _=> ?_)
  |simp only [idx_of ‹_[_]? =some _›,Option.bind_some]
  |with_reducible refine wp_map ?_
  |with_reducible refine zB ?_
  |with_reducible refine e2l ?_
  |with_reducible refine e2r ?_
  |exact wrap_i64 (by omega) (by omega)
  |omega
  |(rw [wrap_i64 (by omega) (by omega)];omega)
  |(simp only [beq_iff_eq] at*;omega)
  |(simp only [List.length_cons,List.length_nil] at*;exact wrap_i64 (by omega) (by omega)))
theorem zCs (a1:Ty.El (zD)) (h0:SmL a1):Wp (vZ (a1,())) (fun _=>True):=by
 have hh0:=h0
 obtain ⟨i1,i2,i3,i4,i5,i6,i7,i8,i9,i10,i11,i12,i13,i14,n1,n2,n3⟩:=hh0
 unfold vZ
 try dsimp only
 repeat' (first
  |with_reducible exact trivial
  |exact ⟨i10,i11,i12,i13,i14⟩
  |assumption
  |contradiction
  |with_reducible refine zA ?_
  |with_reducible refine (zDg _ _ ?_).mono (fun r _=> ?_)
  |with_reducible refine (zAF _ _ ?_).mono (fun r _=> ?_)
  |with_reducible refine zP ?_ ?_ (fun y _ _=> ?_)
  |with_reducible refine zS n1 ?_ ?_ (fun y _ _=> ?_)
  |with_reducible refine zS n2 ?_ ?_ (fun y _ _=> ?_)
  |with_reducible refine zS n3 ?_ ?_ (fun y _ _=> ?_)
  |with_reducible refine jI ?_ ?_ ?_ (fun ys _ _=> ?_)
  |with_reducible refine jB ?_ ?_ (fun y _ _=> ?_)
  |with_reducible refine wp_bifn (fun _=> ?_) (fun _=> ?_)
  |with_reducible refine zJ (fun _=> ?_) (fun _=> ?_)
  |with_reducible refine zH (fun _=> ?_) (fun _=> ?_)
  |with_reducible refine qC ?_
  |with_reducible refine jJ (fun s _ _=> ?_) (fun s _ _=> ?_)
  |simp only [idx_of ‹_[_]? =some _›,Option.bind_some]
  |with_reducible refine wp_map ?_
  |with_reducible refine zB ?_
  |with_reducible refine e2l ?_
  |with_reducible refine e2r ?_
  |exact wrap_i64 (by omega) (by omega)
  |omega
  |(rw [wrap_i64 (by omega) (by omega)];omega)
  |(simp only [beq_iff_eq] at*;omega)
  |(simp only [List.length_cons,List.length_nil] at*;exact wrap_i64 (by omega) (by omega)))
theorem kJ (a1:Ty.El (zD)) (a2:Ty.El (.sl zAM)) (a3:Ty.El (tI)) (a4:Ty.El (tI)) (a5:Ty.El (tI)) (a6:Ty.El (tI)) (h0:SmL a1) (h1:List.length a2≤1048576):Wp (jN (a1,a2,a3,a4,a5,a6,())) (fun _=>True):=by
 have hh0:=h0
 obtain ⟨i1,i2,i3,i4,i5,i6,i7,i8,i9,i10,i11,i12,i13,i14,n1,n2,n3⟩:=hh0
 unfold jN
 try dsimp only
 repeat' (first
  |with_reducible exact trivial
  |exact ⟨i10,i11,i12,i13,i14⟩
  |assumption
  |contradiction
  |with_reducible refine zA ?_
  |with_reducible refine (qJ _ _ _).mono (fun r _=> ?_)
  |with_reducible refine (u9 _ _ ?_).mono (fun r _=> ?_)
  |with_reducible refine zP ?_ ?_ (fun y _ _=> ?_)
  |with_reducible refine zS n1 ?_ ?_ (fun y _ _=> ?_)
  |with_reducible refine zS n2 ?_ ?_ (fun y _ _=> ?_)
  |with_reducible refine zS n3 ?_ ?_ (fun y _ _=> ?_)
  |with_reducible refine jI ?_ ?_ ?_ (fun ys _ _=> ?_)
  |with_reducible refine jB ?_ ?_ (fun y _ _=> ?_)
  |with_reducible refine wp_bifn (fun _=> ?_) (fun _=> ?_)
  |with_reducible refine zJ (fun _=> ?_) (fun _=> ?_)
  |with_reducible refine zH (fun _=> ?_) (fun _=> ?_)
  |with_reducible refine qC ?_
  |with_reducible refine jJ (fun s _ _=> ?_) (fun s _ _=> ?_)
  |simp only [idx_of ‹_[_]? =some _›,Option.bind_some]
  |with_reducible refine wp_map ?_
  |with_reducible refine zB ?_
  |with_reducible refine e2l ?_
  |with_reducible refine e2r ?_
  |exact wrap_i64 (by omega) (by omega)
  |omega
  |(rw [wrap_i64 (by omega) (by omega)];omega)
  |(simp only [beq_iff_eq] at*;omega)
  |(simp only [List.length_cons,List.length_nil] at*;exact wrap_i64 (by omega) (by omega)))
theorem zBM (a1:Ty.El (zD)) (h0:SmL a1):Wp (wS (a1,())) (fun _=>True):=by
 have hh0:=h0
 obtain ⟨i1,i2,i3,i4,i5,i6,i7,i8,i9,i10,i11,i12,i13,i14,n1,n2,n3⟩:=hh0
 unfold wS
 try dsimp only
 repeat' (first
  |with_reducible exact trivial
  |exact ⟨i10,i11,i12,i13,i14⟩
  |assumption
  |contradiction
  |with_reducible refine zA ?_
  |with_reducible refine (qJ _ _ _).mono (fun r _=> ?_)
  |with_reducible refine (yT _).mono (fun r _=> ?_)
  |with_reducible refine (zBt _ _).mono (fun r _=> ?_)
  |with_reducible refine (kJ _ _ _ _ _ _ ?_ ?_).mono (fun r _=> ?_)
  |with_reducible refine zP ?_ ?_ (fun y _ _=> ?_)
  |with_reducible refine zS n1 ?_ ?_ (fun y _ _=> ?_)
  |with_reducible refine zS n2 ?_ ?_ (fun y _ _=> ?_)
  |with_reducible refine zS n3 ?_ ?_ (fun y _ _=> ?_)
  |with_reducible refine jI ?_ ?_ ?_ (fun ys _ _=> ?_)
  |with_reducible refine jB ?_ ?_ (fun y _ _=> ?_)
  |with_reducible refine wp_bifn (fun _=> ?_) (fun _=> ?_)
  |with_reducible refine zJ (fun _=> ?_) (fun _=> ?_)
  |with_reducible refine zH (fun _=> ?_) (fun _=> ?_)
  |with_reducible refine qC ?_
  |with_reducible refine jJ (fun s _ _=> ?_) (fun s _ _=> ?_)
  |simp only [idx_of ‹_[_]? =some _›,Option.bind_some]
  |with_reducible refine wp_map ?_
  |with_reducible refine zB ?_
  |with_reducible refine e2l ?_
  |with_reducible refine e2r ?_
  |exact wrap_i64 (by omega) (by omega)
  |omega
  |(rw [wrap_i64 (by omega) (by omega)];omega)
  |(simp only [beq_iff_eq] at*;omega)
  |(simp only [List.length_cons,List.length_nil] at*;exact wrap_i64 (by omega) (by omega)))
theorem zAm (a1:Ty.El (zD)) (h0:SmL a1):Wp (jD (a1,())) (fun _=>True):=by
 have hh0:=h0
 obtain ⟨i1,i2,i3,i4,i5,i6,i7,i8,i9,i10,i11,i12,i13,i14,n1,n2,n3⟩:=hh0
 unfold jD
 try dsimp only
 repeat' (first
  |with_reducible exact trivial
  |exact ⟨i10,i11,i12,i13,i14⟩
  |assumption
  |contradiction
  |with_reducible refine zA ?_
  |with_reducible refine (qJ _ _ _).mono (fun r _=> ?_)
  |with_reducible refine (kQ _ _ ?_).mono (fun r _=> ?_)
  |with_reducible refine (kJ _ _ _ _ _ _ ?_ ?_).mono (fun r _=> ?_)
  |with_reducible refine zP ?_ ?_ (fun y _ _=> ?_)
  |with_reducible refine zS n1 ?_ ?_ (fun y _ _=> ?_)
  |with_reducible refine zS n2 ?_ ?_ (fun y _ _=> ?_)
  |with_reducible refine zS n3 ?_ ?_ (fun y _ _=> ?_)
  |with_reducible refine jI ?_ ?_ ?_ (fun ys _ _=> ?_)
  |with_reducible refine jB ?_ ?_ (fun y _ _=> ?_)
  |with_reducible refine wp_bifn (fun _=> ?_) (fun _=> ?_)
  |with_reducible refine zJ (fun _=> ?_) (fun _=> ?_)
  |with_reducible refine zH (fun _=> ?_) (fun _=> ?_)
  |with_reducible refine qC ?_
  |with_reducible refine jJ (fun s _ _=> ?_) (fun s _ _=> ?_)
  |simp only [idx_of ‹_[_]? =some _›,Option.bind_some]
  |with_reducible refine wp_map ?_
  |with_reducible refine zB ?_
  |with_reducible refine e2l ?_
  |with_reducible refine e2r ?_
  |exact wrap_i64 (by omega) (by omega)
  |omega
  |(rw [wrap_i64 (by omega) (by omega)];omega)
  |(simp only [beq_iff_eq] at*;omega)
  |(simp only [List.length_cons,List.length_nil] at*;exact wrap_i64 (by omega) (by omega)))
theorem zBL (a1:Ty.El (zD)) (h0:SmL a1):Wp (wR (a1,())) (fun _=>True):=by
 have hh0:=h0
 obtain ⟨i1,i2,i3,i4,i5,i6,i7,i8,i9,i10,i11,i12,i13,i14,n1,n2,n3⟩:=hh0
 unfold wR
 try dsimp only
 repeat' (first
  |with_reducible exact trivial
  |exact ⟨i10,i11,i12,i13,i14⟩
  |assumption
  |contradiction
  |with_reducible refine zA ?_
  |with_reducible refine (qJ _ _ _).mono (fun r _=> ?_)
  |with_reducible refine (u9 _ _ ?_).mono (fun r _=> ?_)
  |with_reducible refine zP ?_ ?_ (fun y _ _=> ?_)
  |with_reducible refine zS n1 ?_ ?_ (fun y _ _=> ?_)
  |with_reducible refine zS n2 ?_ ?_ (fun y _ _=> ?_)
  |with_reducible refine zS n3 ?_ ?_ (fun y _ _=> ?_)
  |with_reducible refine jI ?_ ?_ ?_ (fun ys _ _=> ?_)
  |with_reducible refine jB ?_ ?_ (fun y _ _=> ?_)
  |with_reducible refine wp_bifn (fun _=> ?_) (fun _=> ?_)
  |with_reducible refine zJ (fun _=> ?_) (fun _=> ?_)
  |with_reducible refine zH (fun _=> ?_) (fun _=> ?_)
  |with_reducible refine qC ?_
  |with_reducible refine jJ (fun s _ _=> ?_) (fun s _ _=> ?_)
  |simp only [idx_of ‹_[_]? =some _›,Option.bind_some]
  |with_reducible refine wp_map ?_
  |with_reducible refine zB ?_
  |with_reducible refine e2l ?_
  |with_reducible refine e2r ?_
  |exact wrap_i64 (by omega) (by omega)
  |omega
  |(rw [wrap_i64 (by omega) (by omega)];omega)
  |(simp only [beq_iff_eq] at*;omega)
  |(simp only [List.length_cons,List.length_nil] at*;exact wrap_i64 (by omega) (by omega)))
theorem zBZ (a1:Ty.El (.sl zI)) (a2:Ty.El (zI)) (h0:List.length a1≤1048576):Wp (vF (a1,a2,())) (fun _=>True):=by
 unfold vF
 try dsimp only
 repeat' (first
  |with_reducible exact trivial
  |assumption
  |contradiction
  |with_reducible refine zA ?_
  |with_reducible refine zP ?_ ?_ (fun y _ _=> ?_)
  |with_reducible refine jI ?_ ?_ ?_ (fun ys _ _=> ?_)
  |with_reducible refine jB ?_ ?_ (fun y _ _=> ?_)
  |with_reducible refine wp_bifn (fun _=> ?_) (fun _=> ?_)
  |with_reducible refine zJ (fun _=> ?_) (fun _=> ?_)
  |with_reducible refine zH (fun _=> ?_) (fun _=> ?_)
  |with_reducible refine qC ?_
  |with_reducible refine jJ (fun s _ _=> ?_) (fun s _ _=> ?_)
  |simp only [idx_of ‹_[_]? =some _›,Option.bind_some]
  |with_reducible refine wp_map ?_
  |with_reducible refine zB ?_
  |with_reducible refine e2l ?_
  |with_reducible refine e2r ?_
  |exact wrap_i64 (by omega) (by omega)
  |omega
  |(rw [wrap_i64 (by omega) (by omega)];omega)
  |(simp only [beq_iff_eq] at*;omega)
  |(simp only [List.length_cons,List.length_nil] at*;exact wrap_i64 (by omega) (by omega)))
theorem zAY (a1:Ty.El (.sl zI)) (a2:Ty.El (zI)) (h0:List.length a1≤1048576):Wp (jV (a1,a2,())) (fun _=>True):=by
 unfold jV
 try dsimp only
 repeat' (first
  |with_reducible exact trivial
  |assumption
  |contradiction
  |with_reducible refine zA ?_
  |with_reducible refine (zBZ _ _ ?_).mono (fun r _=> ?_)
  |with_reducible refine zP ?_ ?_ (fun y _ _=> ?_)
  |with_reducible refine jI ?_ ?_ ?_ (fun ys _ _=> ?_)
  |with_reducible refine jB ?_ ?_ (fun y _ _=> ?_)
  |with_reducible refine wp_bifn (fun _=> ?_) (fun _=> ?_)
  |with_reducible refine zJ (fun _=> ?_) (fun _=> ?_)
  |with_reducible refine zH (fun _=> ?_) (fun _=> ?_)
  |with_reducible refine qC ?_
  |with_reducible refine jJ (fun s _ _=> ?_) (fun s _ _=> ?_)
  |simp only [idx_of ‹_[_]? =some _›,Option.bind_some]
  |with_reducible refine wp_map ?_
  |with_reducible refine zB ?_
  |with_reducible refine e2l ?_
  |with_reducible refine e2r ?_
  |exact wrap_i64 (by omega) (by omega)
  |omega
  |(rw [wrap_i64 (by omega) (by omega)];omega)
  |(simp only [beq_iff_eq] at*;omega)
  |(simp only [List.length_cons,List.length_nil] at*;exact wrap_i64 (by omega) (by omega)))
theorem zCt (a1:Ty.El (tPV)) (h0:zTq a1):Wp (v8 (a1,())) (fun _=>True):=by
 have hh0:=h0
 obtain ⟨i10,i11,i12,i13,i14⟩:=hh0
 unfold v8
 try dsimp only
 repeat' (first
  |with_reducible exact trivial
  |assumption
  |contradiction
  |with_reducible refine zA ?_
  |with_reducible refine (yT _).mono (fun r _=> ?_)
  |with_reducible refine (zAY _ _ ?_).mono (fun r _=> ?_)
  |with_reducible refine zP ?_ ?_ (fun y _ _=> ?_)
  |with_reducible refine jI ?_ ?_ ?_ (fun ys _ _=> ?_)
  |with_reducible refine jB ?_ ?_ (fun y _ _=> ?_)
  |with_reducible refine wp_bifn (fun _=> ?_) (fun _=> ?_)
  |with_reducible refine zJ (fun _=> ?_) (fun _=> ?_)
  |with_reducible refine zH (fun _=> ?_) (fun _=> ?_)
  |with_reducible refine qC ?_
  |with_reducible refine jJ (fun s _ _=> ?_) (fun s _ _=> ?_)
  |simp only [idx_of ‹_[_]? =some _›,Option.bind_some]
  |with_reducible refine wp_map ?_
  |with_reducible refine zB ?_
  |with_reducible refine e2l ?_
  |with_reducible refine e2r ?_
  |exact wrap_i64 (by omega) (by omega)
  |omega
  |(rw [wrap_i64 (by omega) (by omega)];omega)
  |(simp only [beq_iff_eq] at*;omega)
  |(simp only [List.length_cons,List.length_nil] at*;exact wrap_i64 (by omega) (by omega)))
theorem zBe (a1:Ty.El (zD)) (h0:SmL a1):Wp (wH (a1,())) (fun _=>True):=by
 have hh0:=h0
 obtain ⟨i1,i2,i3,i4,i5,i6,i7,i8,i9,i10,i11,i12,i13,i14,n1,n2,n3⟩:=hh0
 unfold wH
 try dsimp only
 repeat' (first
  |with_reducible exact trivial
  |exact ⟨i10,i11,i12,i13,i14⟩
  |assumption
  |contradiction
  |with_reducible refine zA ?_
  |with_reducible refine (qJ _ _ _).mono (fun r _=> ?_)
  |with_reducible refine (zBL _ ?_).mono (fun r _=> ?_)
  |with_reducible refine (zCt _ ?_).mono (fun r _=> ?_)
  |with_reducible refine (kJ _ _ _ _ _ _ ?_ ?_).mono (fun r _=> ?_)
  |with_reducible refine zP ?_ ?_ (fun y _ _=> ?_)
  |with_reducible refine zS n1 ?_ ?_ (fun y _ _=> ?_)
  |with_reducible refine zS n2 ?_ ?_ (fun y _ _=> ?_)
  |with_reducible refine zS n3 ?_ ?_ (fun y _ _=> ?_)
  |with_reducible refine jI ?_ ?_ ?_ (fun ys _ _=> ?_)
  |with_reducible refine jB ?_ ?_ (fun y _ _=> ?_)
  |with_reducible refine wp_bifn (fun _=> ?_) (fun _=> ?_)
  |with_reducible refine zJ (fun _=> ?_) (fun _=> ?_)
  |with_reducible refine zH (fun _=> ?_) (fun _=> ?_)
  |with_reducible refine qC ?_
  |with_reducible refine jJ (fun s _ _=> ?_) (fun s _ _=> ?_)
  |simp only [idx_of ‹_[_]? =some _›,Option.bind_some]
  |with_reducible refine wp_map ?_
  |with_reducible refine zB ?_
  |with_reducible refine e2l ?_
  |with_reducible refine e2r ?_
  |exact wrap_i64 (by omega) (by omega)
  |omega
  |(rw [wrap_i64 (by omega) (by omega)];omega)
  |(simp only [beq_iff_eq] at*;omega)
  |(simp only [List.length_cons,List.length_nil] at*;exact wrap_i64 (by omega) (by omega)))
end Go.Ve

namespace Go.Ve
open Go Go.Proofs Go.Bd Go.Proofs.Bw
set_option maxRecDepth 1000000
set_option maxHeartbeats 4000000
theorem zJr (n lo hi:Int):zF (n,lo,hi,())=some (decide (lo≤n)&&decide (n≤hi)):=by
 unfold zF
 dsimp only
 by_cases h:lo≤n<;>simp [h]
theorem zLs (x:Ty.El zET):vO (x,())=some (decide ((0:Int)≤x.1)&&(decide (x.1≤x.2.1)&&decide (x.2.1≤(65535:Int)))):=by
 refine zJ8 ?_
 unfold vO
 dsimp only
 refine zB (zH (fun h=>zH (fun h'=>zA (zA ?_)) (fun h'=>zA (zA ?_))) (fun h=>zA (zA ?_)))
 ·rw [h,h'];rfl
 ·rw [h,h'];rfl
 ·rw [h];rfl
theorem zId (x:Ty.El qT):Wp (u4 (x,())) (fun b=>b=true→zBd x):=by
 unfold u4
 dsimp only
 refine zB (Wp.mono (Q:=fun b:Bool=>b=false→(-1:Int)≤x.2.1∧ @LE.le Int _ x.2.1 255) ?_ ?_)
 ·refine zB (vJ (zJr _ _ _) ?_)
  refine zH (fun _=>zA (fun h=>by cases h)) (fun h=> ?_)
  have h:(-1:Int)≤x.2.1∧ @LE.le Int _ x.2.1 255:=by
   have:(decide ((-1:Int)≤x.2.1)&&decide (@LE.le Int _ x.2.1 255))=true:=by
    revert h
    cases (decide ((-1:Int)≤x.2.1)&&decide (@LE.le Int _ x.2.1 255))<;>simp
   simpa using this
  exact zH (fun _=>zA (fun h=>by cases h)) (fun _=>zA (fun _=>h))
 ·intro b hb
  refine zH (fun _=>zA (fun h=>by cases h)) (fun hb0=> ?_)
  obtain ⟨p0,p1⟩:=hb hb0
  refine zB (Wp.mono (Q:=fun b:Bool=>b=false→((0:Int)≤x.2.2.2.2.1.1∧ @LE.le Int _ x.2.2.2.2.1.1 x.2.2.2.2.1.2.1∧ @LE.le Int _ x.2.2.2.2.1.2.1 65535)∧(0:Int)≤x.2.2.2.2.2.1.1∧ @LE.le Int _ x.2.2.2.2.2.1.1 x.2.2.2.2.2.1.2.1∧ @LE.le Int _ x.2.2.2.2.2.1.2.1 65535) ?_ ?_)
  ·refine zB (vJ (zLs _) ?_)
   refine zH (fun _=>zA (fun h=>by cases h)) (fun h=> ?_)
   have h1:(0:Int)≤x.2.2.2.2.1.1∧ @LE.le Int _ x.2.2.2.2.1.1 x.2.2.2.2.1.2.1∧ @LE.le Int _ x.2.2.2.2.1.2.1 65535:=by
    have:(decide ((0:Int)≤x.2.2.2.2.1.1)&&(decide (@LE.le Int _ x.2.2.2.2.1.1 x.2.2.2.2.1.2.1)&&decide (@LE.le Int _ x.2.2.2.2.1.2.1 65535)))=true:=by
     revert h
     cases (decide ((0:Int)≤x.2.2.2.2.1.1)&&(decide (@LE.le Int _ x.2.2.2.2.1.1 x.2.2.2.2.1.2.1)&&decide (@LE.le Int _ x.2.2.2.2.1.2.1 65535)))<;>simp
    simpa using this
   refine zB (vJ (zLs _) (zA (fun h=>⟨h1,?_⟩)))
   have:(decide ((0:Int)≤x.2.2.2.2.2.1.1)&&(decide (@LE.le Int _ x.2.2.2.2.2.1.1 x.2.2.2.2.2.1.2.1)&&decide (@LE.le Int _ x.2.2.2.2.2.1.2.1 65535)))=true:=by
    revert h
    cases (decide ((0:Int)≤x.2.2.2.2.2.1.1)&&(decide (@LE.le Int _ x.2.2.2.2.2.1.1 x.2.2.2.2.2.1.2.1)&&decide (@LE.le Int _ x.2.2.2.2.2.1.2.1 65535)))<;>simp
   simpa using this
  ·intro b2 hb2
   refine zH (fun _=>zA (fun h=>by cases h)) (fun hb0=> ?_)
   obtain ⟨⟨s0,s1,s2⟩,d0,d1,d2⟩:=hb2 hb0
   have H:zBd x:=⟨p0,p1,s0,s1,s2,d0,d1,d2⟩
   refine zB (Wp.mono (Q:=fun _=>True) ?_ (fun b _=>zA (fun _=>H)))
   exact zH (fun _=>zA trivial) (fun _=>zH (fun _=>zA trivial) (fun _=>zH (fun _=>zA trivial) (fun _=>zA trivial)))
structure zOd (r:Ty.El zD) (i:Nat) (l:Ty.El yA):Prop where
 name:Wp (j6 (l.1,())) (fun b=>b=true)
 first:(i:Int)≤zBo (fun x:Ty.El yA=>x.1==l.1) r.2.2.2.2.2.1
 len:l.2.1.length≤16
 rules: ∀x,x∈l.2.1→zBd x
theorem zIe (r:Ty.El zD) (h:SmL r):Wp (u5 (r,())) (fun (c:Int)=>c=0→ ∀ (i:Nat) l,r.2.2.2.2.2.1[i]? =some l→zOd r i l):=by
 have hl:=h.i5
 unfold u5
 dsimp only
 refine zJ (fun _=>zA (fun h=>by cases h)) (fun h8=> ?_)
 refine zJ9 (Nat.lt_of_le_of_lt h.i4 (by omega)) (fun i=> ∀j l,j<i→r.2.2.2.2.2.1[j]? =some l→zOd r j l) (fun j l hj=>by omega) ?_ (fun hJ=>zA (fun _ i l hi=>hJ i l (List.getElem?_eq_some_iff.1 hi).1 hi))
 intro i l hl hJ
 have hn:=h.n3 l (List.mem_of_getElem? hl)
 refine qC ?_
 refine zB (vJ (uB hl) ?_)
 refine zB ((zA2 r l.1 h.i4).mono ?_)
 rintro _ rfl
 refine zB (Wp.mono (Q:=fun (c:Int)=>c=0→Wp (j6 (l.1,())) (fun b=>b=true)∧(i:Int)≤zBo (fun x:Ty.El yA=>x.1==l.1) r.2.2.2.2.2.1∧l.2.1.length≤16) ?_ ?_)
 ·unfold jP
  dsimp only
  obtain ⟨b,hb,_⟩:=zAh l.1
  refine zB (vJ hb ?_)
  refine zH (fun _=>zA (fun h=>by cases h)) (fun hbn=> ?_)
  have hbt:b=true:=by simpa using hbn
  refine zJ (fun _=>zA (fun h=>by cases h)) (fun hf=> ?_)
  refine zH (fun _=>zA (fun h=>by cases h)) (fun _=> ?_)
  refine zJ (fun _=>zA (fun h=>by cases h)) (fun h16=>zA (fun _=>⟨⟨b,hb,hbt⟩,?_,?_⟩))
  ·exact Int.not_lt.1 hf
  ·have h16: ¬((l.2.1.length:Int)>16):=h16
   omega
 ·intro c hc
  refine zH (fun h0=>zA (e2r (e2r (e2r (fun h=> ?_))))) (fun h0=> ?_)
  ·have h0: ¬(@Eq Int c 0):=by simpa [bne] using h0
   exact absurd h h0
  ·have h0: @Eq Int c 0:=by simpa [bne] using h0
   obtain ⟨a1,a2,a3⟩:=hc h0
   refine zQ2 (P:=fun x=>zBd x) (Nat.lt_of_le_of_lt hn (by omega)) (fun j x hx=> ?_) (fun hall=>e2l ?_)
   ·refine zB (vJ (uB hx) ?_)
    refine zB ((zId x).mono ?_)
    intro b hb
    refine zH (fun _=>zA (e2r ⟨(fun u h=>by cases h),e2r (e2r (e2r (fun h=>by cases h)))⟩)) (fun hbn=>zA (e2l ⟨rfl,hb (by simpa using hbn)⟩))
   ·refine zA (e2l ⟨rfl,?_⟩)
    intro j l' hj hl'
    rcases Nat.lt_or_ge j i with h'|h'
    ·exact hJ j l' h' hl'
    ·have:j=i:=by omega
     subst this
     rw [hl] at hl'
     cases hl'
     exact ⟨a1,a2,a3,hall⟩
theorem zGB (r:Ty.El zD) (h:SmL r):Wp (kP (r,())) (fun (c:Int)=>c=0→ ∀ (i:Nat) l,r.2.2.2.2.2.1[i]? =some l→zOd r i l):=by
 unfold kP
 dsimp only
 refine zB ((zAh _).mono (fun b _=> ?_))
 refine zH (fun _=>zA (fun h=>by cases h)) (fun _=> ?_)
 refine zB (vJ (zJr _ _ _) ?_)
 refine zH (fun _=>zA (fun h=>by cases h)) (fun _=> ?_)
 refine qC ?_
 have no: ∀ (c:Int) (P:Prop),(c !=0)=true→(c=0→P):=fun c P h1 h2=>by subst h2;simp at h1
 refine zB ((zBf r h).mono (fun c1 _=> ?_))
 refine zH (fun hc=>zA (e2r (no _ _ hc))) (fun _=> ?_)
 refine zB ((zA0 r h).mono (fun c2 _=> ?_))
 refine zH (fun hc=>zA (e2r (no _ _ hc))) (fun _=> ?_)
 refine zB ((zBK r h).mono (fun c3 _=> ?_))
 refine zH (fun hc=>zA (e2r (no _ _ hc))) (fun _=> ?_)
 refine zB ((zIe r h).mono (fun c4 hA=> ?_))
 refine zH (fun hc=>zA (e2r (no _ _ hc))) (fun hc4=> ?_)
 have hA:=hA (by simpa [bne] using hc4)
 refine zB ((zER r h).mono (fun c5 _=> ?_))
 refine zH (fun hc=>zA (e2r (no _ _ hc))) (fun _=> ?_)
 refine zB ((zCu r h).mono (fun c6 _=> ?_))
 refine zH (fun hc=>zA (e2r (no _ _ hc))) (fun _=> ?_)
 refine zB ((zCs r h).mono (fun c7 _=> ?_))
 refine zH (fun hc=>zA (e2r (no _ _ hc))) (fun _=> ?_)
 refine zB ((zBM r h).mono (fun c8 _=> ?_))
 refine zH (fun hc=>zA (e2r (no _ _ hc))) (fun _=> ?_)
 refine zB ((zAm r h).mono (fun c9 _=> ?_))
 refine zH (fun hc=>zA (e2r (no _ _ hc))) (fun _=> ?_)
 refine zB ((zBe r h).mono (fun c10 _=> ?_))
 refine zH (fun hc=>zA (e2r (no _ _ hc))) (fun _=>zA (e2l ?_))
 exact zA (fun _=>hA)
end Go.Ve

namespace Go.Ve
open Go Go.Proofs Go.Bd Go.Proofs.Bw
set_option maxRecDepth 1000000
set_option maxHeartbeats 4000000
abbrev Rul:=Ty.El qT
end Go.Ve

namespace Go.Ve
open Go Go.Proofs Go.Bd Go.Proofs.Bw
set_option maxRecDepth 1000000
set_option maxHeartbeats 4000000
noncomputable def zLD (pick:Int→Option Bool) (st0:MSt) (a1:Nat) (a2:List (Ty.El zG)):Option (MSt×Int×Int×Unit):=
  Option.bind
   (zO
    (fun (s55:Int×Int×Int×MSt)=>
     bif decide (s55.1≥(0:Int)) then
      Option.bind
       (zO
        (fun (s56:Int×Int×Int×MSt)=>
         bif decide (s56.1< (↑(List.length a2):Int)) then
          Option.bind
           (Option.bind (idx a2 s56.1) fun (y57:Ty.El zG)=>
            bif y57.1.2.1 !=s55.1 then some s56.2
            else
             Option.bind (jA s56.2.2.2 (a1,(1:Int),false,y57.1,())) fun (y58:MSt×Int)=>
              Option.bind
               (Option.bind (pick s56.1) fun (y59:Bool)=>
                bif y59 then
                 Option.bind (qG y58.1 (a1,s56.2.2.1,y58.2,())) fun (y60:MSt×Int)=>
                  Option.bind (uX y60.1 (a1,s56.2.1,y60.2,())) fun (y61:MSt×Int)=>some (y61.2,y61.1)
                else some (s56.2.1,y58.1))
               fun (s62:Int×MSt)=>
               Option.bind (vV s62.2 (a1,y58.2,())) fun (y63:MSt×Int)=>
                Option.bind (qG y63.1 (a1,s56.2.2.1,y63.2,())) fun (y64:MSt×Int)=>some (s62.1,y64.2,y64.1))
           fun (s65:Int×Int×MSt)=>some (Sum.inl (IntKind.wrap IntKind.i64 (s56.1+(1:Int)),s65))
         else some (Sum.inr s56.2))
        ((0:Int),s55.2))
       fun (s66:Int×Int×MSt)=>some (Sum.inl (IntKind.wrap IntKind.i64 (s55.1- (1:Int)),s66))
     else some (Sum.inr s55.2))
    ((32:Int),(0:Int),(1:Int),st0))
   fun (s67:Int×Int×MSt)=>some (s67.2.2,s67.1,s67.2.1,())
theorem zSA (st:MSt) (h:Nat) (t t':List (Ty.El zG)):w7 st (h,t,(t',()),())=zLD (fun j=>jW (j,t',())) st h t:=rfl
theorem zSz (st:MSt) (h:Nat) (t t':List (Ty.El zG)):w6 st (h,t,(t',()),())=zLD (fun j=>wF (j,t',())) st h t:=rfl
theorem zSy (st:MSt) (h:Nat) (t t':List (Ty.El zG)) (x:Ty.El zAx):wZ st (h,t,(t',x,()),())=zLD (fun j=>vH (j,t',x,())) st h t:=rfl
def vec (t:List (Ty.El zG)) (a:Nat→Bool):List Bool:=t.map (fun x=>zE1 x.1 a)
theorem zPi: ∀t:List (Ty.El zG),Wd (2^t.length) (vec t)
 |[]=>Wd.const _
 |x::t=>by
  have h1:Wd 2 (zE1 x.1):=zNB _ 1 0 32
  have h2:=(h1.prod (zPi t)).comp (fun q=>q.1::q.2)
  rw [List.length_cons,Nat.pow_succ,Nat.mul_comm]
  exact h2
theorem zGt {t:List (Ty.El zG)} (ht:t.length≤12) (g:List Bool→Bool):Wd 4096 (fun a=>g (vec t a)):=
 ((zPi t).comp g).mono (Nat.pow_le_pow_right (n:=2) (by omega) ht)
def zAG (L:List Nat) (v:List Bool):Bool:=(L.find? (fun j=>v.getD j false)).isNone
def zC9 (L:List Nat) (pk:Nat→Bool) (v:List Bool):Bool:=match L.find? (fun j=>v.getD j false) with
 |some j=>pk j
 |none=>false
theorem zMC (L:List Nat) (i:Nat) (v:List Bool):zAG (L++[i]) v=(zAG L v&& !v.getD i false):=by
 unfold zAG
 rw [List.find?_append]
 cases h:L.find? (fun j=>v.getD j false) with
 |some j=>rfl
 |none=>
  cases h2:v.getD i false<;>simp only [List.find?,h2,Option.none_or]<;>rfl
theorem zIr (L:List Nat) (pk:Nat→Bool) (i:Nat) (v:List Bool):zC9 (L++[i]) pk v=(zC9 L pk v||(pk i&&(zAG L v&&v.getD i false))):=by
 unfold zC9 zAG
 rw [List.find?_append]
 cases h:L.find? (fun j=>v.getD j false) with
 |some j=>simp
 |none=>
  cases h2:v.getD i false<;>simp only [List.find?,h2,Option.none_or]<;>cases pk i<;>rfl
def zLB (t:List (Ty.El zG)) (n k:Nat):List Nat:=(List.range k).filter (fun i=>match t[i]? with
 |some x=>x.1.2.1==(n:Int)
 |none=>false)
theorem zOz (t:List (Ty.El zG)) (n k:Nat) {x:Ty.El zG} (hx:t[k]? =some x):zLB t n (k+1)=zLB t n k++(if (x.1.2.1==(n:Int))=true then [k] else []):=by
 unfold zLB
 rw [List.range_succ,List.filter_append]
 congr 1
 simp only [List.filter_cons,List.filter_nil,hx]
def zFz (t:List (Ty.El zG)):Nat→List Nat
 |0=>[]
 |m+1=>zFz t m++zLB t (32-m) t.length
theorem zPm (t:List (Ty.El zG)) {i:Nat} {x:Ty.El zG} (hx:t[i]? =some x) (a:Nat→Bool):(vec t a).getD i false=zE1 x.1 a:=by
 simp only [vec,List.getD_eq_getElem?_getD,List.getElem?_map,hx,Option.map_some,Option.getD_some]
abbrev cL:Nat:=1465200000
def AtL (p:Pub) (nx:Nat) (t:List (Ty.El zG)) (pk:Nat→Bool) (c:Nat) (L:List Nat) (g:Int×Int×MSt):Prop:=
 ∃p',g.2.2=(nx,some p')∧Stp p c p'∧Rp p' g.1 (fun a=>zC9 L pk (vec t a))∧Rp p' g.2.1 (fun a=>zAG L (vec t a))
theorem zGz {p:Pub} {nx i:Nat} (hp:POk p) (hi:i+1=nx) (t:List (Ty.El zG)) (ht: ∀x,x∈t→zH5 x.1=true) (hl:t.length≤12) (pick:Int→Option Bool) (pk:Nat→Bool)
  (hpk: ∀ (j:Nat) (x:Ty.El zG),t[j]? =some x→pick j=some (pk j)) (hr:p.S.ns.length+cL≤lim):
  Wp (zLD pick (nx,some p) i t) (fun r=> ∃p',r.1=(nx,some p')∧Stp p cL p'∧Rp p' r.2.1 (fun a=>zC9 (zFz t 33) pk (vec t a))∧Rp p' r.2.2.1 (fun a=>zAG (zFz t 33) (vec t a))):=by
 have hlim:p.S.ns.length+1465200000≤5864062014000:=hr
 obtain ⟨C,hC⟩: ∃C,C=3700000:=⟨_,rfl⟩
 unfold zLD
 have e0:((32:Int),(0:Int),(1:Int),((nx,some p):MSt))=(((33:Nat):Int) -1,(0:Int),(1:Int),((nx,some p):MSt)):=rfl
 rw [e0]
 refine zB (Wp.mono (zKa (n:=33) (by omega) (fun j (g:Int×Int×MSt)=>AtL p nx t pk ((33-j)*12*C) (zFz t (33-j)) g)
  ⟨p,rfl,(Stp.refl hp).mono (Nat.zero_le _),(Rp.f0 hp).congr (fun a=>by rw [Nat.sub_self];rfl),(Rp.f1 hp).congr (fun a=>by rw [Nat.sub_self];rfl)⟩ ?_ (Q:=AtL p nx t pk cL (zFz t 33)) ?_) ?_)
 ·rintro j g hj hJ
  have e1:33-j=(33- (j+1))+1:=by omega
  have e2:32- (33- (j+1))=j:=by omega
  obtain ⟨pj,hst,hs,h1,h2⟩:=hJ
  have hcnt:=hs.cnt
  refine Wp.mono (zNz (xs:=t) (by omega) (fun k (g:Int×Int×MSt)=>AtL p nx t pk ((33- (j+1))*12*C+k*C) (zFz t (33- (j+1))++zLB t j k) g)
   ⟨pj,hst,hs.mono (Nat.le_add_right _ _),h1.congr (fun a=>by simp [zLB]),h2.congr (fun a=>by simp [zLB])⟩ ?_ (Q:=AtL p nx t pk ((33-j)*12*C) (zFz t (33-j))) ?_) (fun g h=>h)
  ·rintro k x ⟨f,r,st⟩ hx ⟨p',hst',hs',hf,hrr⟩
   have hxm:=List.mem_of_getElem? hx
   have hk:k<t.length:=(List.getElem?_eq_some_iff.1 hx).1
   simp only at hst' hf hrr
   subst hst'
   have hc':=hs'.cnt
   have hb:(33- (j+1))*12*C+(k+1)*C≤1465200000:=by
    have h1:(33- (j+1))*12*C≤32*12*C:=Nat.mul_le_mul_right _ (Nat.mul_le_mul_right _ (by omega))
    have h2:(k+1)*C≤12*C:=Nat.mul_le_mul_right _ (by omega)
    generalize (33- (j+1))*12*C=x1 at*
    generalize (k+1)*C=x2 at*
    omega
   have hb':(33- (j+1))*12*C+k*C+C=(33- (j+1))*12*C+(k+1)*C:=by rw [Nat.succ_mul];omega
   have hroom:p'.S.ns.length+3700000≤5864062014000:=by
    generalize (33- (j+1))*12*C=x1 at*
    generalize (k+1)*C=x2 at*
    generalize k*C=x3 at*
    omega
   refine zB (vJ (uB hx) ?_)
   dsimp only
   rw [zOz t j k hx]
   refine zH (fun h=>zA ?_) (fun h=> ?_)
   ·have hne:(x.1.2.1==(j:Int))=false:=by
     revert h;cases hh:x.1.2.1==(j:Int)<;>simp [bne,hh]
    rw [hne]
    exact ⟨p',rfl,hs'.mono (by rw [←hb'];exact Nat.le_add_right _ _),by simpa using hf,by simpa using hrr⟩
   ·have heq:(x.1.2.1==(j:Int))=true:=by
     revert h;cases hh:x.1.2.1==(j:Int)<;>simp [bne,hh]
    rw [heq,if_pos rfl, ←List.append_assoc]
    generalize hLL:zFz t (33- (j+1))++zLB t j k=L at hf hrr ⊢
    refine zB ((zLg hs'.ok hi x.1 (ht x hxm) (by show _≤5864062014000;omega)).mono ?_)
    rintro ⟨st1,hit⟩ ⟨p1,hst1,hs1,hh1⟩
    simp only at hst1 hh1
    subst hst1
    have hc1:=hs1.cnt
    have hh1:Rp p1 hit (fun a=>(vec t a).getD k false):=hh1.congr (fun a=>(zPm t hx a).symm)
    have hf1:=hf.step hs'.ok hs1
    have hr1:=hrr.step hs'.ok hs1
    refine zB (Wp.mono (Q:=fun s:Int×MSt=> ∃p2,s.2=(nx,some p2)∧Stp p1 (2*(220*4096)) p2∧Rp p2 s.1 (fun a=>zC9 (L++[k]) pk (vec t a))) ?_ ?_)
    ·refine zB (vJ (hpk k x hx) ?_)
     refine zH (fun hk1=> ?_) (fun hk1=> ?_)
     ·refine zB (zBF hs1.ok hi hr1 hh1 4096 (zGt hl (fun v=>zAG L v&&v.getD k false)) (by show _≤5864062014000;omega) ?_)
      intro p2 y2 hs2 hy2
      have hc2:=hs2.cnt
      have hfun:(fun a=>zC9 L pk (vec t a)||(zAG L (vec t a)&&(vec t a).getD k false))=fun a=>zC9 (L++[k]) pk (vec t a):=by
       funext a;rw [zIr,hk1,Bool.true_and]
      refine zB (zNy hs2.ok hi (hf1.step hs1.ok hs2) hy2 4096 (zGt hl (fun v=>zC9 L pk v||(zAG L v&&v.getD k false))) (by show _≤5864062014000;omega) ?_)
      intro p3 y3 hs3 hy3
      rw [hfun] at hy3
      exact zA ⟨p3,rfl,(hs2.trans hs3).mono (by omega),hy3⟩
     ·exact zA ⟨p1,rfl,(Stp.refl hs1.ok).mono (by omega),hf1.congr (fun a=>by rw [zIr,hk1,Bool.false_and,Bool.or_false])⟩
    ·rintro ⟨f2,st2⟩ ⟨p2,hst2,hs2,hf2⟩
     simp only at hst2 hf2
     subst hst2
     have hc2:=hs2.cnt
     dsimp only
     refine zB (zH2 hs2.ok hi (hh1.step hs1.ok hs2) 4096 (zGt hl (fun v=> !v.getD k false)) (by show _≤5864062014000;omega) ?_)
     intro p3 y3 hs3 hy3
     have hc3:=hs3.cnt
     have hfun:(fun a=>zAG L (vec t a)&& !(vec t a).getD k false)=fun a=>zAG (L++[k]) (vec t a):=by
      funext a;rw [zMC]
     refine zB (zBF hs3.ok hi ((hr1.step hs1.ok hs2).step hs2.ok hs3) hy3 4096 (zGt hl (fun v=>zAG L v&& !v.getD k false)) (by show _≤5864062014000;omega) ?_)
     intro p4 y4 hs4 hy4
     rw [hfun] at hy4
     refine zA ⟨p4,rfl,((((hs'.trans hs1).trans hs2).trans hs3).trans hs4).mono ?_,(hf2.step hs2.ok hs3).step hs3.ok hs4,hy4⟩
     rw [←hb']
     generalize (33- (j+1))*12*C+k*C=x1 at*
     omega
  ·rintro g ⟨p',hst',hs',hf,hrr⟩
   refine ⟨p',hst',hs'.mono ?_,?_,?_⟩
   ·rw [e1]
    have:t.length*C≤12*C:=Nat.mul_le_mul_right _ hl
    rw [Nat.succ_mul,Nat.add_mul]
    exact Nat.add_le_add_left this _
   ·rw [e1,zFz,e2];exact hf
   ·rw [e1,zFz,e2];exact hrr
 ·rintro g ⟨p',hst,hs,hf,hrr⟩
  rw [Nat.sub_zero] at hs hf hrr
  refine ⟨p',hst,hs.mono ?_,hf,hrr⟩
  rw [hC];show 33*12*3700000≤1465200000
  omega
 ·rintro ⟨f,r,st⟩ ⟨p',hst,hs,hf,hrr⟩
  exact zA ⟨p',hst,hs,hf,hrr⟩
end Go.Ve

namespace Go.Ve
open Go Go.Proofs Go.Bd Go.Proofs.Bw
set_option maxRecDepth 1000000
set_option maxHeartbeats 4000000
abbrev Fwd:=Ty.El zG
def zP0 (t:List Fwd) (pk:Nat→Bool) (a:Nat→Bool):Bool:=zC9 (zFz t 33) pk (vec t a)
def zSn (t:List Fwd) (a:Nat→Bool):Bool:=zAG (zFz t 33) (vec t a)
def zII (l:List (Ty.El zAx)) (h:Ty.El zAx):Bool:=l.any (fun y=>h.1==y.1&&(h.2.1==y.2.1&&true))
def atE (t:List Fwd) (q:Fwd→Bool) (j:Nat):Bool:=match t[j]? with
 |some x=>q x
 |none=>false
theorem zI1 {t:List Fwd} {q:Fwd→Bool} {j:Nat} {x:Fwd} (h:t[j]? =some x):atE t q j=q x:=by simp [atE,h]
abbrev qD (x:Fwd):Bool:=x.2.2.1
abbrev qU (x:Fwd):Bool:= !x.2.2.1&&x.2.1.isEmpty
abbrev qR (h:Ty.El zAx) (x:Fwd):Bool:= !x.2.2.1&&zII x.2.1 h
theorem zIf (l:List (Ty.El zAx)) (h:Ty.El zAx) (hl:l.length<4611686018427387904):Wp (kZ (l,h,())) (fun r=>decide (r≥0)=zII l h):=by
 unfold kZ
 dsimp only
 refine zJ9 hl (fun i=> ∀j y,j<i→l[j]? =some y→(h.1==y.1&&(h.2.1==y.2.1&&true))=false) (fun j y hj=>by omega) ?_ ?_
 ·intro i x hx hJ
  refine zB (vJ (uB hx) ?_)
  refine zH (fun hc=>zA (e2r (e2r ?_))) (fun hc=>zA (e2l ⟨rfl,?_⟩))
  ·have:zII l h=true:=List.any_eq_true.2 ⟨x,List.mem_of_getElem? hx,hc⟩
   rw [this,decide_eq_true_eq]
   show (i:Int)≥0
   omega
  ·intro j y hj hy
   rcases Nat.lt_or_ge j i with h'|h'
   ·exact hJ j y h' hy
   ·have:j=i:=by omega
    subst this
    rw [hx] at hy
    cases hy
    exact hc
 ·intro hJ
  refine zA ?_
  have:zII l h=false:=by
   rw [zII,List.any_eq_false]
   intro x hx
   obtain ⟨j,hj,rfl⟩:=List.getElem_of_mem hx
   rw [hJ j _ hj (by simp [hj])]
   simp
  rw [this]
  rfl
theorem zFK (l:List (Ty.El zAx)) (h:Ty.El zAx) (hl:l.length<4611686018427387904):vG (l,h,())=some (zII l h):=by
 refine zJ8 ?_
 unfold vG
 refine zB ((zIf l h hl).mono (fun r hr=>zA hr))
structure zOb (t:List Fwd):Prop where
 len:t.length≤12
 val: ∀x,x∈t→zH5 x.1=true
 hops: ∀x,x∈t→x.2.1.length≤4
 so: ∀ (i:Nat) (x y:Fwd),t[i]? =some x→t[i+1]? =some y→plt x.1 y.1
section
variable {p:Pub} {nx i:Nat} {t:List Fwd} {Q:MSt×Int→Prop}
abbrev cD:Nat:=1467000000
theorem zQ3 (hp:POk p) (hi:i+1=nx) (T:zOb t) (hr:p.S.ns.length+cD≤lim)
  (hq: ∀p' y,Stp p cD p'→Rp p' y (zP0 t (atE t qD))→Q ((nx,some p'),y)):Wp (wG (nx,some p) (i,t,())) Q:=by
 have hr':p.S.ns.length+1467000000≤5864062014000:=hr
 unfold wG
 dsimp only
 rw [zSA]
 refine zB ((zGz hp hi t T.val T.len _ (atE t qD) (fun j x hx=> ?_) (by show _+1465200000≤5864062014000;omega)).mono ?_)
 ·unfold jW
  dsimp only
  rw [uB hx,Option.bind_some,zI1 hx]
 rintro ⟨st,y,z,u⟩ ⟨p',hst,hs,hy,_⟩
 simp only at hst
 subst hst
 exact zA (hq p' y (hs.mono (by show 1465200000≤1467000000;omega)) hy)
theorem zOe (hp:POk p) (hi:i+1=nx) (T:zOb t) (h:Ty.El zAx) (hr:p.S.ns.length+cD≤lim)
  (hq: ∀p' y,Stp p cD p'→Rp p' y (zP0 t (atE t (qR h)))→Q ((nx,some p'),y)):Wp (vY (nx,some p) (i,t,h,())) Q:=by
 have hr':p.S.ns.length+1467000000≤5864062014000:=hr
 unfold vY
 dsimp only
 rw [zSy]
 refine zB ((zGz hp hi t T.val T.len _ (atE t (qR h)) (fun j x hx=> ?_) (by show _+1465200000≤5864062014000;omega)).mono ?_)
 ·unfold vH
  dsimp only
  have h4:=T.hops x (List.mem_of_getElem? hx)
  simp only [uB hx,Option.bind_some,zI1 hx,zFK x.2.1 h (by omega)]
  show Option.bind (bif !x.2.2.1 then some (zII x.2.1 h) else some false) _=_
  simp only [qR]
  cases x.2.2.1<;>rfl
 rintro ⟨st,y,z,u⟩ ⟨p',hst,hs,hy,_⟩
 simp only at hst
 subst hst
 exact zA (hq p' y (hs.mono (by show 1465200000≤1467000000;omega)) hy)
theorem zSg (hp:POk p) (hi:i+1=nx) (T:zOb t) (hr:p.S.ns.length+cD≤lim)
  (hq: ∀p' y,Stp p cD p'→Rp p' y (fun a=>zP0 t (atE t qU) a||zSn t a)→Q ((nx,some p'),y)):Wp (wO (nx,some p) (i,t,())) Q:=by
 have hr':p.S.ns.length+1467000000≤5864062014000:=hr
 unfold wO
 dsimp only
 rw [zSz]
 refine zB ((zGz hp hi t T.val T.len _ (atE t qU) (fun j x hx=> ?_) (by show _+1465200000≤5864062014000;omega)).mono ?_)
 ·unfold wF
  dsimp only
  have h4:=T.hops x (List.mem_of_getElem? hx)
  simp only [uB hx,Option.bind_some,zI1 hx]
  show Option.bind (bif !x.2.2.1 then some ((x.2.1.length:Int)==0) else some false) _=_
  have e:((x.2.1.length:Int)==0)=x.2.1.isEmpty:=by
   cases x.2.1 with
   |nil=>rfl
   |cons z l=>
    rw [List.length_cons,List.isEmpty_cons,beq_eq_false_iff_ne]
    omega
  rw [e]
  simp only [qU]
  cases x.2.2.1<;>rfl
 rintro ⟨st,y,z,u⟩ ⟨p',hst,hs,hy,hz⟩
 simp only at hst hy hz
 subst hst
 have hc:=hs.cnt
 refine zB (zNy hs.ok hi hy hz 4096 (zGt T.len (fun v=>zC9 (zFz t 33) (atE t qU) v||zAG (zFz t 33) v)) (by show _≤5864062014000;have:cL=1465200000:=rfl;omega) ?_)
 intro p2 y2 hs2 hy2
 refine zA (hq p2 y2 ((hs.trans hs2).mono (by show 1465200000+220*4096≤1467000000;omega)) hy2)
end
theorem zLh {s:MSt} :xF s ()=some ((s.1+1,some zF0),s.1):=by
 unfold xF
 show Option.bind (zJy 220 s 220) _=_
 rw [zJy,if_pos ⟨rfl,by omega,by omega⟩]
 rfl
end Go.Ve

namespace Go.Ve
open Go Go.Proofs Go.Bd Go.Proofs.Bw
set_option maxRecDepth 1000000
set_option maxHeartbeats 4000000
def chF:List (Nat×Bool)→(Nat→Bool)→Bool
 |[],_=>true
 |(v,c)::l,a=>(a v==c)&&chF l a
def Inc:Nat→List (Nat×Bool)→Prop
 |_,[]=>True
 |u,(v,_)::l=>u≤v∧v<220∧Inc (v+1) l
theorem zGg: ∀ {l:List (Nat×Bool)} {u:Nat},Inc u l→ ∀a b:Nat→Bool,(∀v,u≤v→a v=b v)→chF l a=chF l b
 |[],_,_,_,_,_=>rfl
 |(v,c)::l,u,h,a,b,hab=>by
  obtain ⟨h1,_,h2⟩:=h
  simp only [chF]
  rw [hab v h1,zGg h2 a b (fun w hw=>hab w (by omega))]
theorem zN7: ∀ {l:List (Nat×Bool)} {u:Nat},Inc u l→ ∃a,chF l a=true
 |[],_,_=>⟨fun _=>false,rfl⟩
 |(v,c)::l,u,h=>by
  obtain ⟨_,_,h2⟩:=h
  obtain ⟨a,ha⟩:=zN7 h2
  refine ⟨upd a v c,?_⟩
  simp only [chF,upd_same,beq_self_eq_true,Bool.true_and]
  rw [zGg h2 (upd a v c) a (fun w hw=>upd_ne a c (by omega))]
  exact ha
theorem zFq {ns:List Nd} (W:Wf 220 ns): ∀ (l:List (Nat×Bool)) (u:Nat),Inc u l→ ∀ (r:Nat),r<ns.length+2→(∀a,den ns r a=chF l a)→ ∀ (k:Nat),r<k→ ∀seen:List Nat,(∀s,s∈seen→r<s)→
  (wkF ns k r seen).length=seen.length+l.length
 |[],_,_,r,hr,hd,k,hk,seen,hs=>by
  have:r=1:=W.canon hr (by omega) (fun a=>by rw [hd,vI (by omega)];rfl)
  subst this
  obtain ⟨k,rfl⟩: ∃j,k=j+1:=⟨k-1,by omega⟩
  simp [wkF]
 |(v,c)::l,u,hI,r,hr,hd,k,hk,seen,hs=>by
  obtain ⟨h1,h220,h2⟩:=hI
  obtain ⟨k,rfl⟩: ∃j,k=j+1:=⟨k-1,by omega⟩
  obtain ⟨a0,ha0⟩:=zN7 h2
  have hdep: ∀b,chF l (upd a0 v b)=true:=fun b=>by rw [zGg h2 (upd a0 v b) a0 (fun w hw=>upd_ne a0 b (by omega))];exact ha0
  have hv1: ∀b,den ns r (upd a0 v b)=(b==c):=fun b=>by rw [hd,chF,upd_same,hdep,Bool.and_true]
  rcases jM ns hr with hlow|⟨i,x,rfl,hx⟩
  ·exfalso
   have e1:=hv1 c
   have e2:=hv1 (!c)
   rw [vI hlow] at e1 e2
   rw [e1] at e2
   revert e2;cases c<;>simp
  ·have hi:=(List.getElem?_eq_some_iff.1 hx).1
   have hlo:=W.lo hx
   have hhi:=W.hi hx
   have hle:v≤x.1:=by
    have:=zKv W hr (u:=v) (by omega) (fun w hw a b=>by
     rw [hd,hd]
     refine zGg (l:=(v,c)::l) (u:=v) ⟨Nat.le_refl _,h220,h2⟩ _ _ (fun z hz=>upd_ne a b (by omega)))
    rwa [wB hx] at this
   have hv:x.1=v:=by
    rcases Nat.lt_or_ge v x.1 with hlt|hge
    ·exfalso
     have e1:=hv1 c
     have e2:=hv1 (!c)
     rw [uG W hr (by rw [wB hx];exact hlt)] at e1 e2
     rw [e1] at e2
     revert e2;cases c<;>simp
    ·omega
   subst hv
   have hhalf: ∀b a,den ns (if b then x.2.2 else x.2.1) a=((b==c)&&chF l a):=fun b a=>by
    rw [←xK W hx b a,hd,chF,upd_same,zGg h2 (upd a x.1 b) a (fun w hw=>upd_ne a b (by omega))]
   have hwk:wkF ns (k+1) (i+2) seen=wkF ns k x.2.2 (wkF ns k x.2.1 (seen++[i+2])):=by
    simp only [wkF]
    rw [if_neg (by omega),if_neg (fun hm=>by have:=hs _ hm;omega),show i+2-2=i by omega,hx]
   have hseen: ∀s,s∈seen++[i+2]→i+2≤s:=fun s hm=>by
    rcases List.mem_append.1 hm with hm|hm
    ·have:=hs s hm;omega
    ·rw [List.mem_singleton] at hm;omega
   rw [hwk]
   cases c with
   |true=>
    have l0:x.2.1=0:=W.canon (by omega) (by omega) (fun a=>by
     have:=hhalf false a
     simp only [Bool.false_eq_true,if_false] at this
     rw [this,vI (by omega)];rfl)
    have w0:wkF ns k x.2.1 (seen++[i+2])=seen++[i+2]:=by
     rw [l0]
     cases k with
     |zero=>rfl
     |succ k=>simp [wkF]
    rw [w0,zFq W l (x.1+1) h2 x.2.2 (by omega) (fun a=>by
     have:=hhalf true a
     simp only [if_true] at this
     rw [this];rfl) k (by omega) _ (fun s hm=>by have:=hseen s hm;omega)]
    simp only [List.length_append,List.length_cons,List.length_nil]
    omega
   |false=>
    have l0:x.2.2=0:=W.canon (by omega) (by omega) (fun a=>by
     have:=hhalf true a
     simp only [if_true] at this
     rw [this,vI (by omega)];rfl)
    have w0: ∀sn,wkF ns k x.2.2 sn=sn:=fun sn=>by
     rw [l0]
     cases k with
     |zero=>rfl
     |succ k=>simp [wkF]
    rw [w0,zFq W l (x.1+1) h2 x.2.1 (by omega) (fun a=>by
     have:=hhalf false a
     simp only [Bool.false_eq_true,if_false] at this
     rw [this];rfl) k (by omega) _ (fun s hm=>by have:=hseen s hm;omega)]
    simp only [List.length_append,List.length_cons,List.length_nil]
    omega
theorem zNA {p:Pub} {nx i:Nat} {f:Int} {l:List (Nat×Bool)} {Q:MSt×Int→Prop} (hp:POk p) (hi:i+1=nx) (hI:Inc 0 l) (hl:l.length≤1000) (hf:Rp p f (chF l)) (hq:Q ((nx,some p),(l.length:Int))):
  Wp (zCZ (nx,some p) (i,f,())) Q:=by
 have hv:=hf.val
 obtain ⟨k,rfl,h1,h2⟩:=hf
 have hw:=zFq hp.ok.ok.wf l 0 hI k (hp.lt h1) h2 (k+1) (by omega) [] (fun s hs=>by cases hs)
 rw [List.length_nil,Nat.zero_add] at hw
 refine ⟨_,?_,hq⟩
 show zIc (nx,some p) i (k:Int)=_
 simp only [zIc,hi,hv,Int.toNat_natCast,hw,decide_true,Bool.true_and,decide_eq_true_eq]
 rw [if_pos (by omega)]
theorem zHf (x:Ty.El zI) (a:Nat→Bool):zE1 x a=fits (wq x.1 ((BitVec.allOnes 32^^^zAH (kK x.2.1)).toNat:Int)) (Bd.bits (fv 1) 32 a):=rfl
theorem zGR (q:Nat→Option Bool) (l:List Bool) (h: ∀i,i<l.length→q i=none):fits q l=true:=by
 rw [fits,List.all_eq_true]
 intro i hi
 rw [List.mem_range] at hi
 rw [h i hi]
theorem zFf: ∀ (m j:Nat) (p:Nat→Nat) (q:Nat→Option Bool) (c:Nat→Bool) (w:Nat) (a:Nat→Bool),m≤w→(∀i,i<m→q i=some (c i))→(∀i,m≤i→i<w→q i=none)→
  fits q (Bd.bits p w a)=chF ((List.range m).map (fun i=>(p i,c i))) a
 |0,j,p,q,c,w,a,hm,h1,h2=>by
  rw [zGR q _ (fun i hi=>h2 i (Nat.zero_le _) (by rwa [kG] at hi))]
  rfl
 |m+1,j,p,q,c,w,a,hm,h1,h2=>by
  obtain ⟨w,rfl⟩: ∃z,w=z+1:=⟨w-1,by omega⟩
  rw [zG4,zJT,List.range_succ_eq_map,List.map_cons,List.map_map,chF,h1 0 (by omega)]
  rw [zFf m j (fun i=>p (i+1)) (fun i=>q (i+1)) (fun i=>c (i+1)) w a (by omega) (fun i hi=>h1 (i+1) (by omega)) (fun i hi hi'=>h2 (i+1) (by omega) (by omega))]
  rfl
abbrev awT:List Fwd:=[(((0:Int),(0:Int),()),[],true,()),(((167772160:Int),(8:Int),()),[((0:Int),(0:Int),())],false,())]
theorem zNk:zOb awT where
 len:=by decide
 val x hx:=by
  rcases List.mem_cons.1 hx with rfl|hx
  ·decide+kernel
  ·rcases List.mem_cons.1 hx with rfl|hx
   ·decide+kernel
   ·cases hx
 hops x hx:=by
  rcases List.mem_cons.1 hx with rfl|hx
  ·decide
  ·rcases List.mem_cons.1 hx with rfl|hx
   ·decide
   ·cases hx
 so i x y hx hy:=by
  cases i with
  |zero=>cases hx;cases hy;exact .inl (by decide)
  |succ i=>cases i with
   |zero=>cases hy
   |succ i=>cases hx
abbrev zPY:Ty.El zI:=((0:Int),(0:Int),())
abbrev zIq:Ty.El zI:=((167772160:Int),(8:Int),())
theorem zLr (a:Nat→Bool):zE1 zPY a=true:=by
 rw [zHf]
 refine zGR _ _ (fun i hi=> ?_)
 rw [kG] at hi
 have: ∀i,i<32→wq zPY.1 ((BitVec.allOnes 32^^^zAH (kK zPY.2.1)).toNat:Int) i=none:=by decide+kernel
 exact this i hi
abbrev ch8:List (Nat×Bool):=(List.range 8).map (fun i=>(fv 1 i,(10:Nat).testBit (7-i)))
theorem zE2 (a:Nat→Bool):zE1 zIq a=chF ch8 a:=by
 rw [zHf]
 have h1: ∀i,i<8→wq zIq.1 ((BitVec.allOnes 32^^^zAH (kK zIq.2.1)).toNat:Int) i=some ((10:Nat).testBit (7-i)):=by decide+kernel
 have h2: ∀i,i<32→8≤i→wq zIq.1 ((BitVec.allOnes 32^^^zAH (kK zIq.2.1)).toNat:Int) i=none:=by decide+kernel
 exact zFf 8 0 (fv 1) _ (fun i=>(10:Nat).testBit (7-i)) 32 a (by omega) h1 (fun i hi hi'=>h2 i hi' hi)
theorem zRK:Inc 0 ch8:=by
 simp only [ch8,show List.range 8=[0,1,2,3,4,5,6,7] from rfl,List.map_cons,List.map_nil,Inc]
 decide
abbrev awR:Ty.El qT:=(true,(6:Int),((0:Int),(4294967295:Int),()),((0:Int),(4294967295:Int),()),((0:Int),(65535:Int),()),((0:Int),(65535:Int),()),())
theorem zSR:zBd awR:=⟨by decide,by decide,by decide,by decide,by decide,by decide,by decide,by decide⟩
abbrev ch6:List (Nat×Bool):=(List.range 8).map (fun i=>(fv 2 i,(6:Nat).testBit (7-i)))
theorem zRL:Inc 0 ch6:=by
 simp only [ch6,show List.range 8=[0,1,2,3,4,5,6,7] from rfl,List.map_cons,List.map_nil,Inc]
 decide
theorem zPh (k:Nat) (a:Nat→Bool):yS k 0 4294967295 a=true:=by
 refine zGR _ _ (fun i hi=> ?_)
 rw [kG] at hi
 have: ∀i,i<32→wq 0 4294967295 i=none:=by decide+kernel
 exact this i hi
theorem zPT {k:Nat} (hk:wdF k=16) (a:Nat→Bool):rF k 0 65535 a=true:=by
 have:=zGM (Bd.bits (fv k) (wdF k) a)
 rw [kG,hk] at this
 rw [rF,decide_eq_true_eq,hk]
 exact ⟨Nat.zero_le _,by omega⟩
theorem zTl: ∀l:List Bool,l.length=8→decide (6≤num l∧num l≤6)=fits (fun i=>some ((6:Nat).testBit (7-i))) l:=by
 intro l hl
 match l,hl with
 |[b0,b1,b2,b3,b4,b5,b6,b7],_=>revert b0 b1 b2 b3 b4 b5 b6 b7;decide
theorem zO9 (a:Nat→Bool):zJB awR a=chF ch6 a:=by
 unfold zJB
 simp only [zPh]
 have e3:rF 3 (Int.toNat 0) (Int.toNat 65535) a=true:=zPT rfl a
 have e4:rF 4 (Int.toNat 0) (Int.toNat 65535) a=true:=zPT rfl a
 rw [e3,e4]
 have e2:rF 2 (Int.toNat 6) (Int.toNat 6) a=chF ch6 a:=by
  show decide (6≤num (Bd.bits (fv 2) 8 a)∧num (Bd.bits (fv 2) 8 a)≤6)=_
  rw [zTl _ (kG _ _ _)]
  exact zFf 8 0 (fv 2) _ (fun i=>(6:Nat).testBit (7-i)) 8 a (by omega) (fun i hi=>rfl) (fun i hi hi'=>by omega)
 rw [e2]
 simp
end Go.Ve

namespace Go.Ve
open Go Go.Proofs Go.Bd Go.Proofs.Bw
set_option maxRecDepth 1000000
set_option maxHeartbeats 4000000
theorem zOa:zFz awT 33=[1,0]:=by decide+kernel
theorem zIt (pk:Nat→Bool) (a:Nat→Bool):zP0 awT pk a=if zE1 zIq a then pk 1 else pk 0:=by
 unfold zP0 zC9
 rw [zOa]
 have e:vec awT a=[zE1 zPY a,zE1 zIq a]:=rfl
 rw [e,zLr]
 cases h:zE1 zIq a<;>simp [List.find?]
theorem zPS (a:Nat→Bool):zSn awT a=false:=by
 unfold zSn zAG
 rw [zOa]
 have e:vec awT a=[zE1 zPY a,zE1 zIq a]:=rfl
 rw [e,zLr]
 cases h:zE1 zIq a<;>simp [List.find?]
theorem zL7:Wp (zAk (0,none) ()) (fun r=>r.2=true∧r.1.1=1):=by
 unfold zAk
 refine zB (vJ zLh ?_)
 dsimp only
 rw [show zBz ()=some ((0:Int),(4294967295:Int),()) from rfl,show zEf ()=some ((0:Int),(65535:Int),()) from rfl]
 simp only [Option.bind_some,Nat.zero_add]
 refine zB ((zGA (i:=0) zFZ rfl awR zSR (by decide)).mono ?_)
 rintro ⟨st1,f1⟩ ⟨q1,hst1,hs1,h1⟩
 simp only at hst1 h1
 subst hst1
 have c1:=hs1.cnt
 have z:zF0.S.ns.length=0:=rfl
 have hcR:cR=400000:=rfl
 have hcD:cD=1467000000:=rfl
 have h1:Rp q1 f1 (chF ch6):=h1.congr zO9
 refine zB (zOe hs1.ok rfl zNk _ (by show _≤5864062014000;omega) ?_)
 intro q2 f2 hs2 h2
 have c2:=hs2.cnt
 have h2:Rp q2 f2 (chF ch8):=h2.congr (fun a=>by
  rw [zIt,zE2]
  have e1:atE awT (qR ((0:Int),(0:Int),())) 1=true:=by decide
  have e0:atE awT (qR ((0:Int),(0:Int),())) 0=false:=by decide
  rw [e1,e0]
  cases chF ch8 a<;>rfl)
 refine zB (Wp.mono (Q:=fun s:Bool×MSt=>s.1=true∧s.2.1=1) ?_ (fun s hs=>zA ⟨hs.1,hs.2⟩))
 refine zB (zNA hs2.ok rfl zRL (by decide) (h1.step hs1.ok hs2) ?_)
 dsimp only
 refine zH (fun _=> ?_) (fun hc=>absurd hc (by decide))
 refine zB (zNA hs2.ok rfl zRK (by decide) h2 ?_)
 dsimp only
 refine zH (fun _=> ?_) (fun hc=>absurd hc (by decide))
 refine zB (zQ3 hs2.ok rfl zNk (by show _≤5864062014000;omega) ?_)
 intro q3 f3 hs3 h3
 have c3:=hs3.cnt
 dsimp only
 refine zB (zH2 hs3.ok rfl (h2.step hs2.ok hs3) 4096 (by
  have:=zGt (t:=awT) (by decide) (fun v=> !v.getD 1 false)
  refine cast ?_ this
  congr 1
  funext a
  rw [←zE2]
  rfl) (by show _≤5864062014000;omega) ?_)
 intro q4 f4 hs4 h4
 have c4:=hs4.cnt
 dsimp only
 have h34:f3=f4:=(Rp.eq hs4.ok (h3.step hs3.ok hs4) h4).2 (fun a=>by
  rw [zIt,zE2]
  have e1:atE awT qD 1=false:=by decide
  have e0:atE awT qD 0=true:=by decide
  rw [e1,e0]
  cases chF ch8 a<;>rfl)
 refine zH (fun _=> ?_) (fun hc=>by rw [h34] at hc;simp at hc)
 refine zB (zSg hs4.ok rfl zNk (by show _≤5864062014000;omega) ?_)
 intro q5 f5 hs5 h5
 have h50:f5=0:=(Rp.eq hs5.ok h5 (Rp.f0 hs5.ok)).2 (fun a=>by
  rw [zIt,zPS]
  have e1:atE awT qU 1=false:=by decide
  have e0:atE awT qU 0=false:=by decide
  rw [e1,e0]
  cases zE1 zIq a<;>rfl)
 refine zA ⟨?_,rfl⟩
 dsimp only
 rw [h50]
 rfl
end Go.Ve





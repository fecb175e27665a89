/-
  law31, plain: ranges and rules as sets.
  law31, plain: how many nodes a chain of tests has; the fixed sanity check.
  law31, plain: the sanity check holds; PredicatePartition.
  law31, plain: packets as assignments, and what a set says of them.
  law31, plain: PredicateTables.
  law31, plain: PredicateTables.
-/
import Derived.Test.YtaidmnnejapafaaDoorXu19
set_option linter.unusedVariables false
namespace Go.Ve
open Go Go.Proofs Go.Bd Go.Proofs.Bw
set_option maxRecDepth 1000000
set_option maxHeartbeats 4000000
theorem zPp (x:Nat) {k:Nat} (hk:k<32):bt (x:Int) k=decide (x / 2^k%2=1):=by
 rw [zT1 _ hk,decide_eq_decide]
 have h2:((x:Int) / 2^k)%2=((x / 2^k%2:Nat):Int):=by
  rw [Int.natCast_emod,Int.natCast_ediv,Int.natCast_pow];rfl
 rw [h2]
 omega
theorem zRZ (b:Bool) (l:List Bool):num (b::l)=b.toNat*2^l.length+num l:=by
 have:=zDI [b] l
 rw [List.singleton_append] at this
 rw [this]
 congr 1
 cases b<;>simp [num]
theorem zPX (lo m x:Nat) (b:Bool) (hx:x<2^m):decide (lo%2^(m+1)≤b.toNat*2^m+x)=if lo / 2^m%2=1 then (b&&decide (lo%2^m≤x)) else (b||decide (lo%2^m≤x)):=by
 have hm:lo%2^m<2^m:=Nat.mod_lt _ (Nat.two_pow_pos m)
 rw [Nat.mod_pow_succ]
 have h2:lo / 2^m%2=0∨lo / 2^m%2=1:=by omega
 generalize lo%2^m=y at*
 generalize lo / 2^m%2=c at*
 generalize 2^m=M at*
 rcases h2 with rfl|rfl<;>cases b<;>simp<;>omega
theorem zP0 (hi m x:Nat) (b:Bool) (hx:x<2^m):decide (b.toNat*2^m+x≤hi%2^(m+1))=if hi / 2^m%2=1 then (!b||decide (x≤hi%2^m)) else (!b&&decide (x≤hi%2^m)):=by
 have hm:hi%2^m<2^m:=Nat.mod_lt _ (Nat.two_pow_pos m)
 rw [Nat.mod_pow_succ]
 have h2:hi / 2^m%2=0∨hi / 2^m%2=1:=by omega
 generalize hi%2^m=y at*
 generalize hi / 2^m%2=c at*
 generalize 2^m=M at*
 rcases h2 with rfl|rfl<;>cases b<;>simp<;>omega
def rF (k lo hi:Nat) (a:Nat→Bool):Bool:=decide (lo≤num (Bd.bits (fv k) (wdF k) a)∧num (Bd.bits (fv k) (wdF k) a)≤hi)
theorem zPI (k lo hi:Nat):Wb 4 (fv k 0) (fv k (wdF k)) (rF k lo hi):=
 zJI (p:=fv k) (fun i i' h h'=>by unfold fv;omega) (fun i hi=>by unfold fv;omega) (fun i hi=>by unfold fv;omega) (by unfold fv;omega)
abbrev shB (k j w:Nat) (a:Nat→Bool):List Bool:=Bd.bits (fun i=>fv k (i+j)) (w-j) a
theorem zTR (k j w lo:Nat):Wd 4 (fun a=>decide (lo≤num (shB k j w a))):=by
 have h:=(zJI (c:=0) (d:=fv k (w+1)) (w:=w-j) (lo:=lo) (hi:=2^(w-j)) (p:=fun i=>fv k (i+j)) (fun i i' h h'=>by unfold fv;omega) (fun i hi=>by omega) (fun i hi=>by unfold fv;omega) (by omega)).wd
 have e:(fun a=>decide (lo≤num (Bd.bits (fun i=>fv k (i+j)) (w-j) a)∧num (Bd.bits (fun i=>fv k (i+j)) (w-j) a)≤2^(w-j)))=fun a=>decide (lo≤num (shB k j w a)):=by
  funext a
  have:=zIo (shB k j w a)
  rw [kU] at this
  rw [decide_eq_decide]
  exact ⟨fun h=>h.1,fun h=>⟨h,Nat.le_of_lt this⟩⟩
 rw [←e];exact h
theorem zTS (k j w hi:Nat):Wd 4 (fun a=>decide (num (shB k j w a)≤hi)):=by
 have h:=(zJI (c:=0) (d:=fv k (w+1)) (w:=w-j) (lo:=0) (hi:=hi) (p:=fun i=>fv k (i+j)) (fun i i' h h'=>by unfold fv;omega) (fun i hi=>by omega) (fun i hi=>by unfold fv;omega) (by omega)).wd
 have e:(fun a=>decide (0≤num (Bd.bits (fun i=>fv k (i+j)) (w-j) a)∧num (Bd.bits (fun i=>fv k (i+j)) (w-j) a)≤hi))=fun a=>decide (num (shB k j w a)≤hi):=by
  funext a
  rw [decide_eq_decide]
  exact ⟨fun h=>h.2,fun h=>⟨Nat.zero_le _,h⟩⟩
 rw [←e];exact h
theorem zTh: ∀k,2≤k→k<5→IntKind.wrap IntKind.u32 (IntKind.wrap IntKind.u32 ((1:Int)*(2:Int)^min (Int.toNat ((wdF k:Nat):Int)) (IntKind.bits IntKind.u32)) - (1:Int))=((2^wdF k-1:Nat):Int):=by
 intro k h1 h2
 have:k=2∨k=3∨k=4:=by omega
 rcases this with rfl|rfl|rfl<;>decide
theorem zOB {p:Pub} {nx i:Nat} (hp:POk p) (hi:i+1=nx) {k:Nat} (h2:2≤k) (h5:k<5) (lo h:Nat) (hlh:lo≤h) (hh:h<2^wdF k) (hr:p.S.ns.length+100000≤lim):
  Wp (zAl (nx,some p) (i,(k:Int),false,(lo:Int),(h:Int),())) (Mk p nx 100000 (rF k lo h)):=by
 have hlim:p.S.ns.length+100000≤5864062014000:=hr
 have hw16:8≤wdF k∧wdF k≤16:=by
  have:k=2∨k=3∨k=4:=by omega
  rcases this with rfl|rfl|rfl<;>decide
 unfold zAl
 dsimp only
 refine zA (zT (zG5 h5) ?_)
 rw [zTh k h2 h5]
 refine zE (fun he=> ?_) (fun _=> ?_)
 ·exfalso
  have he:((wdF k:Nat):Int)=0:=by simpa using he
  omega
 refine zI (fun _=> ?_) (fun hn=>absurd (by omega) hn)
 refine zA (Wp.mono (Q:=fun s=>s=(false,(nx,some p))) ?_ ?_)
 ·refine zI (fun hc=> ?_) (fun hc=>zB ?_)
  ·exfalso
   have hc:(lo:Int)>(h:Int):=hc
   omega
  ·have hle: ¬((lo:Int)>((2^wdF k-1:Nat):Int)):=by
    have:=Nat.two_pow_pos (wdF k)
    omega
   rw [decide_eq_false hle]
 rintro _ rfl
 simp only [cond_false]
 have hif:(if ((2^wdF k-1:Nat):Int)< (h:Int) then ((2^wdF k-1:Nat):Int) else (h:Int))=(h:Int):=if_neg (by
  have:=Nat.two_pow_pos (wdF k)
  omega)
 simp only [hif]
 generalize hW:wdF k=w at*
 rw [wrap_i64 (x:=(w:Int) -1) (by omega) (by omega)]
 have key: ∀j:Nat,j<w→IntKind.wrap IntKind.i64 ((w:Int) -1- (j:Int))=((w-1-j:Nat):Int):=by
  intro j hj
  rw [wrap_i64 (by omega) (by omega)]
  omega
 refine zA (Wp.mono (zLY (n:=w) (by omega) (fun j (s:Int×Int×MSt)=> ∃p',s.2.2=(nx,some p')∧Stp p ((w-j)*3000) p'∧Rp p' s.1 (fun a=>decide (lo%2^(w-j)≤num (shB k j w a)))∧Rp p' s.2.1 (fun a=>decide (num (shB k j w a)≤h%2^(w-j))))
  ⟨p,rfl,(Stp.refl hp).mono (Nat.zero_le _),(Rp.f1 hp).congr (fun a=> ?_),(Rp.f1 hp).congr (fun a=> ?_)⟩ ?_ (Q:=fun s=> ∃p',s.2.2=(nx,some p')∧Stp p (w*3000) p'∧Rp p' s.1 (fun a=>decide (lo≤num (shB k 0 w a)))∧Rp p' s.2.1 (fun a=>decide (num (shB k 0 w a)≤h))) ?_) ?_)
 ·simp only [shB,Nat.sub_self,Nat.pow_zero,Nat.mod_one]
  simp
 ·simp only [shB,Nat.sub_self,Nat.pow_zero,Nat.mod_one,Bd.bits,List.range_zero,List.map_nil]
  simp [num]
 ·rintro j ⟨ab,be,st⟩ hj ⟨p',hst,hs,ha,hb⟩
  simp only at hst ha hb
  subst hst
  dsimp only
  have hc:=hs.cnt
  have hm:w-j=(w- (j+1))+1:=by omega
  have hj1:(w- (j+1))*3000≤15*3000:=Nat.mul_le_mul_right _ (by omega)
  have hcons: ∀a,num (shB k j w a)=(a (fv k j)).toNat*2^(w- (j+1))+num (shB k (j+1) w a):=by
   intro a
   simp only [shB]
   rw [hm,zIJ,zRZ,kU]
   simp only [Nat.zero_add,show ∀x,x+1+j=x+(j+1) from fun x=>by omega]
  have hlt: ∀a,num (shB k (j+1) w a)<2^(w- (j+1)):=fun a=>by
   have:=zIo (shB k (j+1) w a)
   rwa [kU] at this
  refine zA (zT (zRl h5 (by rw [hW];exact hj)) ?_)
  refine zA (zRb hs.ok hi (zTX k h5 j (by rw [hW];exact hj)) (by show _≤5864062014000;omega) ?_)
  intro p1 y1 hs1 hy1
  have hc1:=hs1.cnt
  have ha1:=ha.step hs.ok hs1
  have hb1:=hb.step hs.ok hs1
  dsimp only
  rw [key j hj,show w-1-j=w- (j+1) by omega]
  have hmm:w- (j+1)<32:=by omega
  refine zA (Wp.mono (Q:=fun s:Int×MSt=> ∃p2,s.2=(nx,some p2)∧Stp p1 880 p2∧Rp p2 s.1 (fun a=>decide (lo%2^(w-j)≤num (shB k j w a)))) ?_ ?_)
  ·refine zI (fun _=> ?_) (fun hn=>absurd (by omega) hn)
   simp only [Int.toNat_natCast,zKM (lo:Int) hmm,zPp lo hmm]
   refine zE (fun hbit=> ?_) (fun hbit=> ?_)
   ·have hbit:lo / 2^(w- (j+1))%2=1:=by
     by_cases hd:lo / 2^(w- (j+1))%2=1
     ·exact hd
     ·simp [hd] at hbit
    have hfun:(fun a=>a (fv k j)&&decide (lo%2^(w- (j+1))≤num (shB k (j+1) w a)))=fun a=>decide (lo%2^(w-j)≤num (shB k j w a)):=by
     funext a
     rw [hcons,hm,zPX _ _ _ _ (hlt a),if_pos hbit]
    refine zA (xB hs1.ok hi hy1 ha1 4 (by rw [hfun];exact zTR _ _ _ _) (by show _≤5864062014000;omega) ?_)
    intro p2 y2 hs2 hy2
    rw [hfun] at hy2
    exact zB ⟨p2,rfl,hs2,hy2⟩
   ·have hbit: ¬lo / 2^(w- (j+1))%2=1:=by
     intro hd
     simp [hd] at hbit
    have hfun:(fun a=>a (fv k j)||decide (lo%2^(w- (j+1))≤num (shB k (j+1) w a)))=fun a=>decide (lo%2^(w-j)≤num (shB k j w a)):=by
     funext a
     rw [hcons,hm,zPX _ _ _ _ (hlt a),if_neg hbit]
    refine zA (zIO hs1.ok hi hy1 ha1 4 (by rw [hfun];exact zTR _ _ _ _) (by show _≤5864062014000;omega) ?_)
    intro p2 y2 hs2 hy2
    rw [hfun] at hy2
    exact zB ⟨p2,rfl,hs2,hy2⟩
  ·rintro ⟨y2,st2⟩ ⟨p2,hst2,hs2,hy2⟩
   simp only at hst2 hy2
   subst hst2
   have hc2:=hs2.cnt
   have hb2:=hb1.step hs1.ok hs2
   have hv2:=hy1.step hs1.ok hs2
   dsimp only
   refine zI (fun _=> ?_) (fun hn=>absurd (by omega) hn)
   simp only [Int.toNat_natCast,zKM (h:Int) hmm,zPp h hmm]
   refine zE (fun hbit=> ?_) (fun hbit=> ?_)
   ·have hbit:h / 2^(w- (j+1))%2=1:=by
     by_cases hd:h / 2^(w- (j+1))%2=1
     ·exact hd
     ·simp [hd] at hbit
    have hfun:(fun a=> !(a (fv k j))||decide (num (shB k (j+1) w a)≤h%2^(w- (j+1))))=fun a=>decide (num (shB k j w a)≤h%2^(w-j)):=by
     funext a
     rw [hcons,hm,zP0 _ _ _ _ (hlt a),if_pos hbit]
    refine zA (zH2 hs2.ok hi hv2 2 ((Wd.var _).comp not) (by show _≤5864062014000;omega) ?_)
    intro p3 y3 hs3 hy3
    have hc3:=hs3.cnt
    refine zA (zIO hs3.ok hi hy3 (hb2.step hs2.ok hs3) 4 (by rw [hfun];exact zTS _ _ _ _) (by show _≤5864062014000;omega) ?_)
    intro p4 y4 hs4 hy4
    rw [hfun] at hy4
    exact zB ⟨p4,rfl,((((hs.trans hs1).trans hs2).trans hs3).trans hs4).mono (by rw [hm,Nat.succ_mul];omega),(hy2.step hs2.ok hs3).step hs3.ok hs4,hy4⟩
   ·have hbit: ¬h / 2^(w- (j+1))%2=1:=by
     intro hd
     simp [hd] at hbit
    have hfun:(fun a=> !(a (fv k j))&&decide (num (shB k (j+1) w a)≤h%2^(w- (j+1))))=fun a=>decide (num (shB k j w a)≤h%2^(w-j)):=by
     funext a
     rw [hcons,hm,zP0 _ _ _ _ (hlt a),if_neg hbit]
    refine zA (zH2 hs2.ok hi hv2 2 ((Wd.var _).comp not) (by show _≤5864062014000;omega) ?_)
    intro p3 y3 hs3 hy3
    have hc3:=hs3.cnt
    refine zA (xB hs3.ok hi hy3 (hb2.step hs2.ok hs3) 4 (by rw [hfun];exact zTS _ _ _ _) (by show _≤5864062014000;omega) ?_)
    intro p4 y4 hs4 hy4
    rw [hfun] at hy4
    exact zB ⟨p4,rfl,((((hs.trans hs1).trans hs2).trans hs3).trans hs4).mono (by rw [hm,Nat.succ_mul];omega),(hy2.step hs2.ok hs3).step hs3.ok hs4,hy4⟩
 ·rintro ⟨ab,be,st⟩ ⟨p',hst,hs,ha,hb⟩
  simp only [Nat.sub_zero] at hst hs ha hb
  simp only [Nat.mod_eq_of_lt (Nat.lt_of_le_of_lt hlh hh)] at ha
  simp only [Nat.mod_eq_of_lt hh] at hb
  exact ⟨p',hst,hs,ha,hb⟩
 ·rintro ⟨ab,be,st⟩ ⟨p',hst,hs,ha,hb⟩
  simp only at hst ha hb
  subst hst
  have hc:=hs.cnt
  have hw3:w*3000≤48000:=by omega
  have hfun:(fun a=>decide (lo≤num (shB k 0 w a))&&decide (num (shB k 0 w a)≤h))=rF k lo h:=by
   funext a
   rw [rF,hW, ←Bool.decide_and]
   rfl
  refine zA (xB hs.ok hi ha hb 4 (by rw [hfun];exact (zPI k lo h).wd) (by show _≤5864062014000;omega) ?_)
  intro p2 y2 hs2 hy2
  rw [hfun] at hy2
  exact zB ⟨p2,rfl,(hs.trans hs2).mono (by omega),hy2⟩
theorem zEC {p:Pub} {nx i:Nat} (hp:POk p) (hi:i+1=nx) {k:Nat} (h2:2≤k) (h5:k<5) (lo h:Nat) (hlh:lo≤h) (hh:h<2^wdF k) (hr:p.S.ns.length+100000≤lim):
  Wp (jS (nx,some p) (i,(k:Int),(lo:Int),(h:Int),())) (Mk p nx 100000 (rF k lo h)):=by
 have h16:h<65536:=by
  have:wdF k≤16:=by
   have:k=2∨k=3∨k=4:=by omega
   rcases this with rfl|rfl|rfl<;>decide
  exact Nat.lt_of_lt_of_le hh (Nat.pow_le_pow_right (by omega) this)
 unfold jS
 dsimp only
 rw [if_neg (show ¬(0:Int)>(lo:Int) by omega),if_neg (show ¬(65535:Int)< (h:Int) by omega),wrap_u32 (by omega) (by omega),wrap_u32 (by omega) (by omega)]
 refine zI (fun hc=>absurd hc (by omega)) (fun _=> ?_)
 exact zA ((zOB hp hi h2 h5 lo h hlh hh hr).mono (fun r hr=>zB hr))
structure xJ (x:Ty.El qV):Prop where
 p0:(-1:Int)≤x.2.1
 p1: @LE.le Int _ x.2.1 255
 s0:(0:Int)≤x.2.2.2.2.1.1
 s1: @LE.le Int _ x.2.2.2.2.1.1 x.2.2.2.2.1.2.1
 s2: @LE.le Int _ x.2.2.2.2.1.2.1 65535
 d0:(0:Int)≤x.2.2.2.2.2.1.1
 d1: @LE.le Int _ x.2.2.2.2.2.1.1 x.2.2.2.2.2.1.2.1
 d2: @LE.le Int _ x.2.2.2.2.2.1.2.1 65535
def zCY (x:Ty.El qV) (a:Nat→Bool):Bool:=
 uF 0 x.2.2.1.1 x.2.2.1.2.1 a&&uF 1 x.2.2.2.1.1 x.2.2.2.1.2.1 a&&(x.2.1== -1||rF 2 x.2.1.toNat x.2.1.toNat a)&&rF 3 x.2.2.2.2.1.1.toNat x.2.2.2.2.1.2.1.toNat a&&rF 4 x.2.2.2.2.2.1.1.toNat x.2.2.2.2.2.1.2.1.toNat a
theorem zPH (k:Nat) (A M:Int):Wb 4 (fv k 0) (fv k 32) (uF k A M):=
 (zPJ (c:=fv k 0) (d:=fv k 32) (wq A M) (fun i i' h h'=>by unfold fv;omega) (fun i hi=>by unfold fv;omega) (fun i hi=>by unfold fv;omega) (by unfold fv;omega)).mono (by omega)
theorem zGe (A M B N:Int):Wb 4 (fv 0 0) (fv 1 32) (fun a=>uF 0 A M a&&uF 1 B N a):=(zPH 0 A M).and (zPH 1 B N) (by decide)
theorem zRf (x:Ty.El qV): ∃d,d≤fv 3 0∧Wb 4 (fv 0 0) d (fun a=>uF 0 x.2.2.1.1 x.2.2.1.2.1 a&&uF 1 x.2.2.2.1.1 x.2.2.2.1.2.1 a&&(x.2.1== -1||rF 2 x.2.1.toNat x.2.1.toNat a)):=by
 cases h:x.2.1== -1 with
 |true=>exact ⟨fv 1 32,by decide,by simpa using zGe _ _ _ _⟩
 |false=>exact ⟨fv 2 (wdF 2),by decide,by simpa using (zGe x.2.2.1.1 x.2.2.1.2.1 x.2.2.2.1.1 x.2.2.2.1.2.1).and (zPI 2 x.2.1.toNat x.2.1.toNat) (by decide)⟩
theorem zMV (x:Ty.El qV):Wb 4 (fv 0 0) (fv 3 16) (fun a=>uF 0 x.2.2.1.1 x.2.2.1.2.1 a&&uF 1 x.2.2.2.1.1 x.2.2.2.1.2.1 a&&(x.2.1== -1||rF 2 x.2.1.toNat x.2.1.toNat a)&&rF 3 x.2.2.2.2.1.1.toNat x.2.2.2.2.1.2.1.toNat a):=by
 obtain ⟨d,hd,h⟩:=zRf x
 exact h.and (zPI 3 _ _) hd
theorem zJs (x:Ty.El qV):Wb 4 (fv 0 0) (fv 4 16) (zCY x):=(zMV x).and (zPI 4 _ _) (by decide)
abbrev cR:Nat:=400000
theorem zFo {p:Pub} {nx i:Nat} (hp:POk p) (hi:i+1=nx) (x:Ty.El qV) (hx:xJ x) (hr:p.S.ns.length+cR≤lim):
  Wp (jT (nx,some p) (i,x,())) (Mk p nx cR (zCY x)):=by
 have hlim:p.S.ns.length+400000≤5864062014000:=hr
 obtain ⟨pm,pr,⟨sA,sM,⟨⟩⟩,⟨dA,dM,⟨⟩⟩,⟨sl,sh,⟨⟩⟩,⟨dl,dh,⟨⟩⟩,⟨⟩⟩:=x
 obtain ⟨p0,p1,s0,s1,s2,d0,d1,d2⟩:=hx
 simp only at p0 p1 s0 s1 s2 d0 d1 d2
 have w3:=zRf (pm,pr,(sA,sM,()),(dA,dM,()),(sl,sh,()),(dl,dh,()),())
 have w4:=zMV (pm,pr,(sA,sM,()),(dA,dM,()),(sl,sh,()),(dl,dh,()),())
 have w5:=zJs (pm,pr,(sA,sM,()),(dA,dM,()),(sl,sh,()),(dl,dh,()),())
 unfold zCY at w5 ⊢
 simp only at w3 w4 w5 ⊢
 obtain ⟨sl,rfl⟩:=Int.eq_ofNat_of_zero_le s0
 obtain ⟨sh,rfl⟩:=Int.eq_ofNat_of_zero_le (Int.le_trans s0 s1)
 obtain ⟨dl,rfl⟩:=Int.eq_ofNat_of_zero_le d0
 obtain ⟨dh,rfl⟩:=Int.eq_ofNat_of_zero_le (Int.le_trans d0 d1)
 simp only [Int.toNat_natCast] at w3 w4 w5 ⊢
 have e3:(2:Nat)^wdF 3=65536:=by decide
 have e4:(2:Nat)^wdF 4=65536:=by decide
 have e2:(2:Nat)^wdF 2=256:=by decide
 unfold jT
 dsimp only
 refine zA ((zCF (k:=0) hp hi (by omega) sA sM (by show _≤5864062014000;omega)).mono ?_)
 rintro ⟨st1,f1⟩ ⟨q1,hst1,hs1,h1⟩
 simp only at hst1 h1
 subst hst1
 have c1:=hs1.cnt
 refine zA ((zCF (k:=1) hs1.ok hi (by omega) dA dM (by show _≤5864062014000;omega)).mono ?_)
 rintro ⟨st2,f2⟩ ⟨q2,hst2,hs2,h2⟩
 simp only at hst2 h2
 subst hst2
 have c2:=hs2.cnt
 refine zA (xB hs2.ok hi (h1.step hs1.ok hs2) h2 4 (zGe _ _ _ _).wd (by show _≤5864062014000;omega) ?_)
 intro q3 f3 hs3 h3
 have c3:=hs3.cnt
 dsimp only
 refine zA (Wp.mono (Q:=fun s:Int×MSt=> ∃q4,s.2=(nx,some q4)∧Stp q3 100880 q4∧Rp q4 s.1 (fun a=>uF 0 sA sM a&&uF 1 dA dM a&&(pr== -1||rF 2 pr.toNat pr.toNat a))) ?_ ?_)
 ·refine zE (fun hn=> ?_) (fun hn=>zB ⟨q3,rfl,(Stp.refl hs3.ok).mono (by omega),h3.congr (fun a=> ?_)⟩)
  ·have hn: ¬(@Eq Int pr (-1)):=by simpa [bne] using hn
   have hb:(pr== -1)=false:=by simpa using hn
   obtain ⟨pr,rfl⟩:=Int.eq_ofNat_of_zero_le (show (0:Int)≤pr by omega)
   refine zA ((zEC (k:=2) hs3.ok hi (by omega) (by omega) pr pr (Nat.le_refl _) (by omega) (by show _≤5864062014000;omega)).mono ?_)
   rintro ⟨st4,f4⟩ ⟨q4,hst4,hs4,h4⟩
   simp only at hst4 h4
   subst hst4
   have c4:=hs4.cnt
   have hfun:(fun a=>(uF 0 sA sM a&&uF 1 dA dM a)&&rF 2 pr pr a)=fun a=>uF 0 sA sM a&&uF 1 dA dM a&&(((pr:Nat):Int)== -1||rF 2 (((pr:Nat):Int)).toNat (((pr:Nat):Int)).toNat a):=by
    funext a
    rw [hb,Bool.false_or,Int.toNat_natCast]
   refine zA (xB hs4.ok hi (h3.step hs3.ok hs4) h4 4 (by rw [hfun];obtain ⟨d,_,h⟩:=w3;exact h.wd) (by show _≤5864062014000;omega) ?_)
   intro q5 f5 hs5 h5
   rw [hfun] at h5
   exact zB ⟨q5,rfl,(hs4.trans hs5).mono (by omega),h5⟩
  ·have hn:pr= -1:=by simpa [bne] using hn
   subst hn
   simp
 ·rintro ⟨f4,st4⟩ ⟨q4,hst4,hs4,h4⟩
  simp only at hst4 h4
  subst hst4
  have c4:=hs4.cnt
  refine zA ((zEC (k:=3) hs4.ok hi (by omega) (by omega) sl sh (by omega) (by omega) (by show _≤5864062014000;omega)).mono ?_)
  rintro ⟨st5,f5⟩ ⟨q5,hst5,hs5,h5⟩
  simp only at hst5 h5
  subst hst5
  have c5:=hs5.cnt
  refine zA (xB hs5.ok hi (h4.step hs4.ok hs5) h5 4 w4.wd (by show _≤5864062014000;omega) ?_)
  intro q6 f6 hs6 h6
  have c6:=hs6.cnt
  refine zA ((zEC (k:=4) hs6.ok hi (by omega) (by omega) dl dh (by omega) (by omega) (by show _≤5864062014000;omega)).mono ?_)
  rintro ⟨st7,f7⟩ ⟨q7,hst7,hs7,h7⟩
  simp only at hst7 h7
  subst hst7
  have c7:=hs7.cnt
  refine zA (xB hs7.ok hi (h6.step hs6.ok hs7) h7 4 w5.wd (by show _≤5864062014000;omega) ?_)
  intro q8 f8 hs8 h8
  refine zB ⟨q8,rfl,(((((((hs1.trans hs2).trans hs3).trans hs4).trans hs5).trans hs6).trans hs7).trans hs8).mono (by show _≤400000;omega),h8⟩
end Go.Ve

namespace Go.Ve
open Go Go.Proofs Go.Bd Go.Proofs.Bw
set_option maxRecDepth 1000000
set_option maxHeartbeats 4000000
def chF:List (Nat×Bool)→(Nat→Bool)→Bool
 |[],_=>true
 |(v,c)::l,a=>(a v==c)&&chF l a
def Inc:Nat→List (Nat×Bool)→Prop
 |_,[]=>True
 |u,(v,_)::l=>u≤v∧v<220∧Inc (v+1) l
theorem zHR: ∀ {l:List (Nat×Bool)} {u:Nat},Inc u l→ ∀a b:Nat→Bool,(∀v,u≤v→a v=b v)→chF l a=chF l b
 |[],_,_,_,_,_=>rfl
 |(v,c)::l,u,h,a,b,hab=>by
  obtain ⟨h1,_,h2⟩:=h
  simp only [chF]
  rw [hab v h1,zHR h2 a b (fun w hw=>hab w (by omega))]
theorem zP9: ∀ {l:List (Nat×Bool)} {u:Nat},Inc u l→ ∃a,chF l a=true
 |[],_,_=>⟨fun _=>false,rfl⟩
 |(v,c)::l,u,h=>by
  obtain ⟨_,_,h2⟩:=h
  obtain ⟨a,ha⟩:=zP9 h2
  refine ⟨upd a v c,?_⟩
  simp only [chF,upd_same,beq_self_eq_true,Bool.true_and]
  rw [zHR h2 (upd a v c) a (fun w hw=>upd_ne a c (by omega))]
  exact ha
theorem zGS {ns:List Nd} (W:Wf 220 ns): ∀ (l:List (Nat×Bool)) (u:Nat),Inc u l→ ∀ (r:Nat),r<ns.length+2→(∀a,den ns r a=chF l a)→ ∀ (k:Nat),r<k→ ∀seen:List Nat,(∀s,s∈seen→r<s)→
  (wkF ns k r seen).length=seen.length+l.length
 |[],_,_,r,hr,hd,k,hk,seen,hs=>by
  have:r=1:=W.canon hr (by omega) (fun a=>by rw [hd,vH (by omega)];rfl)
  subst this
  obtain ⟨k,rfl⟩: ∃j,k=j+1:=⟨k-1,by omega⟩
  simp [wkF]
 |(v,c)::l,u,hI,r,hr,hd,k,hk,seen,hs=>by
  obtain ⟨h1,h220,h2⟩:=hI
  obtain ⟨k,rfl⟩: ∃j,k=j+1:=⟨k-1,by omega⟩
  obtain ⟨a0,ha0⟩:=zP9 h2
  have hdep: ∀b,chF l (upd a0 v b)=true:=fun b=>by rw [zHR h2 (upd a0 v b) a0 (fun w hw=>upd_ne a0 b (by omega))];exact ha0
  have hv1: ∀b,den ns r (upd a0 v b)=(b==c):=fun b=>by rw [hd,chF,upd_same,hdep,Bool.and_true]
  rcases jV ns hr with hlow|⟨i,x,rfl,hx⟩
  ·exfalso
   have e1:=hv1 c
   have e2:=hv1 (!c)
   rw [vH hlow] at e1 e2
   rw [e1] at e2
   revert e2;cases c<;>simp
  ·have hi:=(List.getElem?_eq_some_iff.1 hx).1
   have hlo:=W.lo hx
   have hhi:=W.hi hx
   have hle:v≤x.1:=by
    have:=zMn W hr (u:=v) (by omega) (fun w hw a b=>by
     rw [hd,hd]
     refine zHR (l:=(v,c)::l) (u:=v) ⟨Nat.le_refl _,h220,h2⟩ _ _ (fun z hz=>upd_ne a b (by omega)))
    rwa [w8 hx] at this
   have hv:x.1=v:=by
    rcases Nat.lt_or_ge v x.1 with hlt|hge
    ·exfalso
     have e1:=hv1 c
     have e2:=hv1 (!c)
     rw [yC W hr (by rw [w8 hx];exact hlt)] at e1 e2
     rw [e1] at e2
     revert e2;cases c<;>simp
    ·omega
   subst hv
   have hhalf: ∀b a,den ns (if b then x.2.2 else x.2.1) a=((b==c)&&chF l a):=fun b a=>by
    rw [←zAs W hx b a,hd,chF,upd_same,zHR h2 (upd a x.1 b) a (fun w hw=>upd_ne a b (by omega))]
   have hwk:wkF ns (k+1) (i+2) seen=wkF ns k x.2.2 (wkF ns k x.2.1 (seen++[i+2])):=by
    simp only [wkF]
    rw [if_neg (by omega),if_neg (fun hm=>by have:=hs _ hm;omega),show i+2-2=i by omega,hx]
   have hseen: ∀s,s∈seen++[i+2]→i+2≤s:=fun s hm=>by
    rcases List.mem_append.1 hm with hm|hm
    ·have:=hs s hm;omega
    ·rw [List.mem_singleton] at hm;omega
   rw [hwk]
   cases c with
   |true=>
    have l0:x.2.1=0:=W.canon (by omega) (by omega) (fun a=>by
     have:=hhalf false a
     simp only [Bool.false_eq_true,if_false] at this
     rw [this,vH (by omega)];rfl)
    have w0:wkF ns k x.2.1 (seen++[i+2])=seen++[i+2]:=by
     rw [l0]
     cases k with
     |zero=>rfl
     |succ k=>simp [wkF]
    rw [w0,zGS W l (x.1+1) h2 x.2.2 (by omega) (fun a=>by
     have:=hhalf true a
     simp only [if_true] at this
     rw [this];rfl) k (by omega) _ (fun s hm=>by have:=hseen s hm;omega)]
    simp only [List.length_append,List.length_cons,List.length_nil]
    omega
   |false=>
    have l0:x.2.2=0:=W.canon (by omega) (by omega) (fun a=>by
     have:=hhalf true a
     simp only [if_true] at this
     rw [this,vH (by omega)];rfl)
    have w0: ∀sn,wkF ns k x.2.2 sn=sn:=fun sn=>by
     rw [l0]
     cases k with
     |zero=>rfl
     |succ k=>simp [wkF]
    rw [w0,zGS W l (x.1+1) h2 x.2.1 (by omega) (fun a=>by
     have:=hhalf false a
     simp only [Bool.false_eq_true,if_false] at this
     rw [this];rfl) k (by omega) _ (fun s hm=>by have:=hseen s hm;omega)]
    simp only [List.length_append,List.length_cons,List.length_nil]
    omega
theorem zPF {p:Pub} {nx i:Nat} {f:Int} {l:List (Nat×Bool)} {Q:MSt×Int→Prop} (hp:POk p) (hi:i+1=nx) (hI:Inc 0 l) (hl:l.length≤1000) (hf:Rp p f (chF l)) (hq:Q ((nx,some p),(l.length:Int))):
  Wp (zD3 (nx,some p) (i,f,())) Q:=by
 have hv:=hf.val
 obtain ⟨k,rfl,h1,h2⟩:=hf
 have hw:=zGS hp.ok.ok.wf l 0 hI k (hp.lt h1) h2 (k+1) (by omega) [] (fun s hs=>by cases hs)
 rw [List.length_nil,Nat.zero_add] at hw
 refine ⟨_,?_,hq⟩
 show zJT (nx,some p) i (k:Int)=_
 simp only [zJT,hi,hv,Int.toNat_natCast,hw,decide_true,Bool.true_and,decide_eq_true_eq]
 rw [if_pos (by omega)]
theorem zIS (x:Ty.El zJ) (a:Nat→Bool):zEL x a=fits (wq x.1 ((BitVec.allOnes 32^^^uT (wK x.2.1)).toNat:Int)) (Bd.bits (fv 1) 32 a):=rfl
theorem zIu (q:Nat→Option Bool) (l:List Bool) (h: ∀i,i<l.length→q i=none):fits q l=true:=by
 rw [fits,List.all_eq_true]
 intro i hi
 rw [List.mem_range] at hi
 rw [h i hi]
theorem zGJ: ∀ (m j:Nat) (p:Nat→Nat) (q:Nat→Option Bool) (c:Nat→Bool) (w:Nat) (a:Nat→Bool),m≤w→(∀i,i<m→q i=some (c i))→(∀i,m≤i→i<w→q i=none)→
  fits q (Bd.bits p w a)=chF ((List.range m).map (fun i=>(p i,c i))) a
 |0,j,p,q,c,w,a,hm,h1,h2=>by
  rw [zIu q _ (fun i hi=>h2 i (Nat.zero_le _) (by rwa [kU] at hi))]
  rfl
 |m+1,j,p,q,c,w,a,hm,h1,h2=>by
  obtain ⟨w,rfl⟩: ∃z,w=z+1:=⟨w-1,by omega⟩
  rw [zIJ,zLM,List.range_succ_eq_map,List.map_cons,List.map_map,chF,h1 0 (by omega)]
  rw [zGJ m j (fun i=>p (i+1)) (fun i=>q (i+1)) (fun i=>c (i+1)) w a (by omega) (fun i hi=>h1 (i+1) (by omega)) (fun i hi hi'=>h2 (i+1) (by omega) (by omega))]
  rfl
abbrev awT:List Fwd:=[(((0:Int),(0:Int),()),[],true,()),(((167772160:Int),(8:Int),()),[((0:Int),(0:Int),())],false,())]
theorem zPr:zEi awT where
 len:=by decide
 val x hx:=by
  rcases List.mem_cons.1 hx with rfl|hx
  ·decide+kernel
  ·rcases List.mem_cons.1 hx with rfl|hx
   ·decide+kernel
   ·cases hx
 hops x hx:=by
  rcases List.mem_cons.1 hx with rfl|hx
  ·decide
  ·rcases List.mem_cons.1 hx with rfl|hx
   ·decide
   ·cases hx
 so i x y hx hy:=by
  cases i with
  |zero=>cases hx;cases hy;exact .inl (by decide)
  |succ i=>cases i with
   |zero=>cases hy
   |succ i=>cases hx
abbrev zRU:Ty.El zJ:=((0:Int),(0:Int),())
abbrev zJ7:Ty.El zJ:=((167772160:Int),(8:Int),())
theorem zNv (a:Nat→Bool):zEL zRU a=true:=by
 rw [zIS]
 refine zIu _ _ (fun i hi=> ?_)
 rw [kU] at hi
 have: ∀i,i<32→wq zRU.1 ((BitVec.allOnes 32^^^uT (wK zRU.2.1)).toNat:Int) i=none:=by decide+kernel
 exact this i hi
abbrev ch8:List (Nat×Bool):=(List.range 8).map (fun i=>(fv 1 i,(10:Nat).testBit (7-i)))
theorem zGq (a:Nat→Bool):zEL zJ7 a=chF ch8 a:=by
 rw [zIS]
 have h1: ∀i,i<8→wq zJ7.1 ((BitVec.allOnes 32^^^uT (wK zJ7.2.1)).toNat:Int) i=some ((10:Nat).testBit (7-i)):=by decide+kernel
 have h2: ∀i,i<32→8≤i→wq zJ7.1 ((BitVec.allOnes 32^^^uT (wK zJ7.2.1)).toNat:Int) i=none:=by decide+kernel
 exact zGJ 8 0 (fv 1) _ (fun i=>(10:Nat).testBit (7-i)) 32 a (by omega) h1 (fun i hi hi'=>h2 i hi' hi)
theorem zTI:Inc 0 ch8:=by
 simp only [ch8,show List.range 8=[0,1,2,3,4,5,6,7] from rfl,List.map_cons,List.map_nil,Inc]
 decide
abbrev awR:Ty.El qV:=(true,(6:Int),((0:Int),(4294967295:Int),()),((0:Int),(4294967295:Int),()),((0:Int),(65535:Int),()),((0:Int),(65535:Int),()),())
theorem zUB:xJ awR:=⟨by decide,by decide,by decide,by decide,by decide,by decide,by decide,by decide⟩
abbrev ch6:List (Nat×Bool):=(List.range 8).map (fun i=>(fv 2 i,(6:Nat).testBit (7-i)))
theorem zTJ:Inc 0 ch6:=by
 simp only [ch6,show List.range 8=[0,1,2,3,4,5,6,7] from rfl,List.map_cons,List.map_nil,Inc]
 decide
theorem zRd (k:Nat) (a:Nat→Bool):uF k 0 4294967295 a=true:=by
 refine zIu _ _ (fun i hi=> ?_)
 rw [kU] at hi
 have: ∀i,i<32→wq 0 4294967295 i=none:=by decide+kernel
 exact this i hi
theorem zRO {k:Nat} (hk:wdF k=16) (a:Nat→Bool):rF k 0 65535 a=true:=by
 have:=zIo (Bd.bits (fv k) (wdF k) a)
 rw [kU,hk] at this
 rw [rF,decide_eq_true_eq,hk]
 exact ⟨Nat.zero_le _,by omega⟩
theorem zUY: ∀l:List Bool,l.length=8→decide (6≤num l∧num l≤6)=fits (fun i=>some ((6:Nat).testBit (7-i))) l:=by
 intro l hl
 match l,hl with
 |[b0,b1,b2,b3,b4,b5,b6,b7],_=>revert b0 b1 b2 b3 b4 b5 b6 b7;decide
theorem zQ6 (a:Nat→Bool):zCY awR a=chF ch6 a:=by
 unfold zCY
 simp only [zRd]
 have e3:rF 3 (Int.toNat 0) (Int.toNat 65535) a=true:=zRO rfl a
 have e4:rF 4 (Int.toNat 0) (Int.toNat 65535) a=true:=zRO rfl a
 rw [e3,e4]
 have e2:rF 2 (Int.toNat 6) (Int.toNat 6) a=chF ch6 a:=by
  show decide (6≤num (Bd.bits (fv 2) 8 a)∧num (Bd.bits (fv 2) 8 a)≤6)=_
  rw [zUY _ (kU _ _ _)]
  exact zGJ 8 0 (fv 2) _ (fun i=>(6:Nat).testBit (7-i)) 8 a (by omega) (fun i hi=>rfl) (fun i hi hi'=>by omega)
 rw [e2]
 simp
end Go.Ve

namespace Go.Ve
open Go Go.Proofs Go.Bd Go.Proofs.Bw
set_option maxRecDepth 1000000
set_option maxHeartbeats 4000000
theorem zQd:jE awT 33=[1,0]:=by decide+kernel
theorem zKa (pk:Nat→Bool) (a:Nat→Bool):zEM awT pk a=if zEL zJ7 a then pk 1 else pk 0:=by
 unfold zEM zO
 rw [zQd]
 have e:vec awT a=[zEL zRU a,zEL zJ7 a]:=rfl
 rw [e,zNv]
 cases h:zEL zJ7 a<;>simp [List.find?]
theorem zRN (a:Nat→Bool):zQr awT a=false:=by
 unfold zQr vN
 rw [zQd]
 have e:vec awT a=[zEL zRU a,zEL zJ7 a]:=rfl
 rw [e,zNv]
 cases h:zEL zJ7 a<;>simp [List.find?]
theorem zCx:Wp (v8 (0,none) ()) (fun r=>r.2=true∧r.1.1=1):=by
 unfold v8
 refine zA (zT zEF ?_)
 dsimp only
 rw [show zCq ()=some ((0:Int),(4294967295:Int),()) from rfl,show zFy ()=some ((0:Int),(65535:Int),()) from rfl]
 simp only [Option.bind_some,Nat.zero_add]
 refine zA ((zFo (i:=0) zES rfl awR zUB (by decide)).mono ?_)
 rintro ⟨st1,f1⟩ ⟨q1,hst1,hs1,h1⟩
 simp only at hst1 h1
 subst hst1
 have c1:=hs1.cnt
 have z:zC7.S.ns.length=0:=rfl
 have hcR:cR=400000:=rfl
 have hcD:cD=1467000000:=rfl
 have h1:Rp q1 f1 (chF ch6):=h1.congr zQ6
 refine zA (zH3 hs1.ok rfl zPr _ (by show _≤5864062014000;omega) ?_)
 intro q2 f2 hs2 h2
 have c2:=hs2.cnt
 have h2:Rp q2 f2 (chF ch8):=h2.congr (fun a=>by
  rw [zKa,zGq]
  have e1:atE awT (qR ((0:Int),(0:Int),())) 1=true:=by decide
  have e0:atE awT (qR ((0:Int),(0:Int),())) 0=false:=by decide
  rw [e1,e0]
  cases chF ch8 a<;>rfl)
 refine zA (Wp.mono (Q:=fun s:Bool×MSt=>s.1=true∧s.2.1=1) ?_ (fun s hs=>zB ⟨hs.1,hs.2⟩))
 refine zA (zPF hs2.ok rfl zTJ (by decide) (h1.step hs1.ok hs2) ?_)
 dsimp only
 refine zE (fun _=> ?_) (fun hc=>absurd hc (by decide))
 refine zA (zPF hs2.ok rfl zTI (by decide) h2 ?_)
 dsimp only
 refine zE (fun _=> ?_) (fun hc=>absurd hc (by decide))
 refine zA (zLZ hs2.ok rfl zPr (by show _≤5864062014000;omega) ?_)
 intro q3 f3 hs3 h3
 have c3:=hs3.cnt
 dsimp only
 refine zA (zH2 hs3.ok rfl (h2.step hs2.ok hs3) 4096 (by
  have:=zAa (t:=awT) (by decide) (fun v=> !v.getD 1 false)
  refine cast ?_ this
  congr 1
  funext a
  rw [←zGq]
  rfl) (by show _≤5864062014000;omega) ?_)
 intro q4 f4 hs4 h4
 have c4:=hs4.cnt
 dsimp only
 have h34:f3=f4:=(Rp.eq hs4.ok (h3.step hs3.ok hs4) h4).2 (fun a=>by
  rw [zKa,zGq]
  have e1:atE awT qD 1=false:=by decide
  have e0:atE awT qD 0=true:=by decide
  rw [e1,e0]
  cases chF ch8 a<;>rfl)
 refine zE (fun _=> ?_) (fun hc=>by rw [h34] at hc;simp at hc)
 refine zA (zOo hs4.ok rfl zPr (by show _≤5864062014000;omega) ?_)
 intro q5 f5 hs5 h5
 have h50:f5=0:=(Rp.eq hs5.ok h5 (Rp.f0 hs5.ok)).2 (fun a=>by
  rw [zKa,zRN]
  have e1:atE awT qU 1=false:=by decide
  have e0:atE awT qU 0=false:=by decide
  rw [e1,e0]
  cases zEL zJ7 a<;>rfl)
 refine zB ⟨?_,rfl⟩
 dsimp only
 rw [h50]
 rfl
theorem zHs (L:List Nat) (p q:Nat→Bool) (v:List Bool):(zO L p v&&zO L q v)=zO L (fun j=>p j&&q j) v:=by
 unfold zO
 cases L.find? (fun j=>v.getD j false)<;>rfl
theorem zJw (L:List Nat) (p q:Nat→Bool) (v:List Bool):(zO L p v||zO L q v)=zO L (fun j=>p j||q j) v:=by
 unfold zO
 cases L.find? (fun j=>v.getD j false)<;>rfl
theorem zLw (L:List Nat) (p:Nat→Bool) (v:List Bool):(zO L p v&&vN L v)=false:=by
 unfold zO vN
 cases L.find? (fun j=>v.getD j false) with
 |some j=>simp
 |none=>rfl
theorem xM (L:List Nat) (p:Nat→Bool) (v:List Bool) (h: ∀j,p j=false):zO L p v=false:=by
 unfold zO
 cases L.find? (fun j=>v.getD j false) with
 |some j=>exact h j
 |none=>rfl
theorem zMN (t:List Fwd): ∀m j,j∈jE t m→j<t.length
 |0,j,h=>by cases h
 |m+1,j,h=>by
  rw [jE,List.mem_append] at h
  rcases h with h|h
  ·exact zMN t m j h
  ·rw [zIq,List.mem_filter,List.mem_range] at h
   exact h.1
theorem zNx (t:List Fwd) (p q:Nat→Bool) (v:List Bool) (h: ∀j,j<t.length→p j=q j):zO (jE t 33) p v=zO (jE t 33) q v:=by
 unfold zO
 cases hf:(jE t 33).find? (fun j=>v.getD j false) with
 |some j=>exact h j (zMN t 33 j (List.mem_of_find?_eq_some hf))
 |none=>rfl
theorem zOI (t:List Fwd) (p:Nat→Bool) (v:List Bool) (h: ∀j,j<t.length→p j=true):(zO (jE t 33) p v||vN (jE t 33) v)=true:=by
 unfold zO vN
 cases hf:(jE t 33).find? (fun j=>v.getD j false) with
 |some j=>simp [h j (zMN t 33 j (List.mem_of_find?_eq_some hf))]
 |none=>rfl
theorem zRV (t:List Fwd) (pk:Nat→Bool) (hpk: ∀j x,t[j]? =some x→x.2.2.1=false→x.2.1≠[]→pk j=true) (a:Nat→Bool):
  ((zEM t (atE t qD) a||(zEM t (atE t qU) a||zQr t a))||zEM t pk a)=true:=by
 have h:=zOI t (fun j=>(atE t qD j||atE t qU j)||pk j) (vec t a) (fun j hj=>by
  have hx:t[j]? =some t[j]:=by simp [hj]
  rw [zAw hx,zAw hx]
  cases hd:t[j].2.2.1 with
  |true=>simp [qD,hd]
  |false=>
   cases hh:t[j].2.1 with
   |nil=>simp [qD,qU,hd,hh]
   |cons y l=>rw [hpk j _ hx hd (by rw [hh];simp),Bool.or_true])
 rw [←zJw, ←zJw] at h
 show ((zO (jE t 33) (atE t qD) (vec t a)||(zO (jE t 33) (atE t qU) (vec t a)||vN (jE t 33) (vec t a)))||zO (jE t 33) pk (vec t a))=true
 revert h
 cases zO (jE t 33) (atE t qD) (vec t a)<;>cases zO (jE t 33) (atE t qU) (vec t a)<;>cases zO (jE t 33) pk (vec t a)<;>cases vN (jE t 33) (vec t a)<;>simp
theorem zQC {l:List (Ty.El vL)} {k:Nat} {h:Ty.El vL} (hk:l[k]? =some h):zDc l h=true:=
 List.any_eq_true.2 ⟨h,List.mem_of_getElem? hk,by simp⟩
theorem zLk (k B X:Nat) (h:X≤B):k*B+X≤(k+1)*B:=by rw [Nat.succ_mul];omega
theorem zI9 (t:List Fwd) (hl:t.length<4611686018427387904):Wp (jM (0,none) (t,())) (fun r=>r.2=true):=by
 unfold jM
 dsimp only
 refine zA (zCx.mono ?_)
 rintro ⟨⟨n1,q0⟩,b⟩ ⟨hb,hn⟩
 simp only at hb hn
 subst hb hn
 refine zE (fun hc=>by cases hc) (fun _=> ?_)
 refine zA ((zJV t hl).mono ?_)
 intro b hb
 refine zE (fun _=>zB rfl) (fun hnb=> ?_)
 have T:zEi t:=hb (by simpa using hnb)
 refine zA (zT zEF ?_)
 dsimp only
 have z:zC7.S.ns.length=0:=rfl
 refine zA (zLZ (i:=1) zES rfl T (by decide) ?_)
 intro q1 d hs1 hd
 have c1:q1.S.ns.length≤0+1467000000:=hs1.cnt
 dsimp only
 refine zA (zOo hs1.ok rfl T (by show _+1467000000≤5864062014000;omega) ?_)
 intro q2 u hs2 hu
 have c2:q2.S.ns.length≤q1.S.ns.length+1467000000:=hs2.cnt
 dsimp only
 have hd2:=hd.step hs1.ok hs2
 have hL12:=T.len
 refine z9 (Wp.mono (Q:=xA (fun s:Int×MSt=> ∃q3 pk,s.2=(2,some q3)∧Stp q2 (12*8000000000) q3∧Rp q3 s.1 (zEM t pk)∧ ∀j x,t[j]? =some x→x.2.2.1=false→x.2.1≠[]→pk j=true) (fun r:MSt×Bool=>r.2=true)) ?_ ?_)
 ·refine wp_loop (fun s : Int × Int × Int × MSt => ∃ (i : Nat) (q : Pub) (pk : Nat → Bool), s.1 = (i : Int) ∧ i ≤ t.length ∧ s.2.2.2 = (2, some q) ∧ Stp q2 (i * 8000000000) q ∧ Rp q s.2.1 (zEM t (fun j => decide (j < i))) ∧ Rp q s.2.2.1 (zEM t pk) ∧
    ∀j x,j<i→t[j]? =some x→x.2.2.1=false→x.2.1≠[]→pk j=true) (fun s=>((t.length:Int) -s.1).toNat)
   ⟨0,q2,fun _=>false,rfl,Nat.zero_le _,rfl,(Stp.refl hs2.ok).mono (Nat.zero_le _),(Rp.f0 hs2.ok).congr (fun a=>(xM _ _ _ (fun j=>by simp)).symm),(Rp.f0 hs2.ok).congr (fun a=>(xM _ _ _ (fun j=>rfl)).symm),fun j x hj=>by omega⟩ ?_
  rintro ⟨si,en,ro,st⟩ ⟨i,q,pk,hi,hile,hst,hs,hen,hro,hpk⟩
  simp only at hi hst hen hro
  subst hi hst
  refine zI (fun hlt=> ?_) (fun hge=> ?_)
  rotate_left
  ·have:i=t.length:=by
    have hge: ¬(i:Int)< (t.length:Int):=hge
    omega
   subst this
   refine zB (e2r (e2l ⟨q,pk,rfl,hs.mono (Nat.mul_le_mul_right _ hL12),hro,fun j x hx=>hpk j x (List.getElem?_eq_some_iff.1 hx).1 hx⟩))
  have hlt:i<t.length:=by
   have hlt:(i:Int)< (t.length:Int):=hlt
   omega
  have hx:t[i]? =some t[i]:=by simp [hlt]
  generalize t[i]=x at hx
  have hh4:=T.hops x (List.mem_of_getElem? hx)
  have ci:q.S.ns.length≤q2.S.ns.length+i*8000000000:=hs.cnt
  have ci2:i*8000000000≤11*8000000000:=Nat.mul_le_mul_right _ (by omega)
  refine z9 ?_
  dsimp only
  refine zA (zEz hs.ok rfl T i (by show _+1467000000≤5864062014000;omega) ?_)
  intro q3 e hs3 he
  have c3:q3.S.ns.length≤q.S.ns.length+1467000000:=hs3.cnt
  dsimp only
  have hen3:=hen.step hs.ok hs3
  refine zA (xB hs3.ok rfl he hen3 4096 (zAa T.len (fun v=>zO (jE t 33) (fun j=>(j:Int)==(i:Int)) v&&zO (jE t 33) (fun j=>decide (j<i)) v)) (by show _≤5864062014000;omega) ?_)
  intro q4 y4 hs4 hy4
  have c4:=hs4.cnt
  have h40:y4=0:=(Rp.eq hs4.ok hy4 (Rp.f0 hs4.ok)).2 (fun a=>by
   show (zO _ _ _&&zO _ _ _)=false
   rw [zHs]
   refine xM _ _ _ (fun j=> ?_)
   by_cases hji:j=i
   ·subst hji;simp
   ·have:((j:Int)==(i:Int))=false:=by
     rw [beq_eq_false_iff_ne];omega
    rw [this,Bool.false_and])
  refine zE (fun hc=>by rw [h40] at hc;simp at hc) (fun _=> ?_)
  refine zA (zIO hs4.ok rfl (hen3.step hs3.ok hs4) (he.step hs3.ok hs4) 4096 (zAa T.len (fun v=>zO (jE t 33) (fun j=>decide (j<i)) v||zO (jE t 33) (fun j=>(j:Int)==(i:Int)) v)) (by show _≤5864062014000;omega) ?_)
  intro q5 y5 hs5 hy5
  have c5:=hs5.cnt
  have hy5:Rp q5 y5 (zEM t (fun j=>decide (j<i+1))):=hy5.congr (fun a=>by
   show (zO _ _ _||zO _ _ _)=zO _ _ _
   rw [zJw]
   refine zNx t _ _ _ (fun j hj=> ?_)
   rw [Bool.eq_iff_iff]
   simp only [Bool.or_eq_true,decide_eq_true_eq,beq_iff_eq]
   omega)
  dsimp only
  have hst5:=((hs3.trans hs4).trans hs5)
  have hro5:=((hro.step hs.ok hs3).step hs3.ok hs4).step hs4.ok hs5
  have hd5:=(((hd2.step hs2.ok hs).step hs.ok hs3).step hs3.ok hs4).step hs4.ok hs5
  have hu5:=(((hu.step hs2.ok hs).step hs.ok hs3).step hs3.ok hs4).step hs4.ok hs5
  refine Wp.mono (wp_loop (fun s:Int×Int×MSt=> ∃ (k:Nat) (q:Pub) (pk:Nat→Bool),s.1=(k:Int)∧k≤x.2.1.length∧s.2.2=(2,some q)∧Stp q5 (k*1500000000) q∧Rp q s.2.1 (zEM t pk)∧
    (∀j x,j<i→t[j]? =some x→x.2.2.1=false→x.2.1≠[]→pk j=true)∧(0<k→x.2.2.1=false→pk i=true)) (fun s=>((x.2.1.length:Int) -s.1).toNat)
   (Q:=fun o=>xA (fun s:Int×Int×MSt=> ∃ (q:Pub) (pk:Nat→Bool),s.1=y5∧s.2.2=(2,some q)∧Stp q5 (4*1500000000) q∧Rp q s.2.1 (zEM t pk)∧ ∀j x,j<i+1→t[j]? =some x→x.2.2.1=false→x.2.1≠[]→pk j=true) (fun _=>False) o)
   ⟨0,q5,pk,rfl,Nat.zero_le _,rfl,(Stp.refl hs5.ok).mono (Nat.zero_le _),hro5,hpk,fun h=>absurd h (by omega)⟩ ?_) ?_
  ·rintro ⟨sk,ro6,st6⟩ ⟨k,q6,pk6,hk,hkle,hst6,hs6,hro6,hpk6,hpi6⟩
   simp only at hk hst6 hro6
   subst hk hst6
   refine zA (zT (jB hx) ?_)
   dsimp only
   refine zI (fun hklt=> ?_) (fun hkge=> ?_)
   rotate_left
   ·have:k=x.2.1.length:=by
     have hkge: ¬(k:Int)< (x.2.1.length:Int):=hkge
     omega
    subst this
    refine zB (e2r (e2l ⟨q6,pk6,rfl,rfl,hs6.mono (Nat.mul_le_mul_right _ hh4),hro6,fun j z hj hz hzd hzh=> ?_⟩))
    rcases Nat.lt_or_ge j i with h'|h'
    ·exact hpk6 j z h' hz hzd hzh
    ·have:j=i:=by omega
     subst this
     rw [hx] at hz
     cases hz
     refine hpi6 (List.length_pos_iff.2 hzh) hzd
   have hklt:k<x.2.1.length:=by
    have hklt:(k:Int)< (x.2.1.length:Int):=hklt
    omega
   have hh:x.2.1[k]? =some x.2.1[k]:=by simp [hklt]
   generalize x.2.1[k]=h at hh
   have c6:q6.S.ns.length≤q5.S.ns.length+k*1500000000:=hs6.cnt
   have c62:k*1500000000≤3*1500000000:=Nat.mul_le_mul_right _ (by omega)
   have hd6:=hd5.step hs5.ok hs6
   have hu6:=hu5.step hs5.ok hs6
   refine zA (zT (jB hx) ?_)
   refine zA (zT (jB hh) ?_)
   refine zA (zH3 hs6.ok rfl T h (by show _+1467000000≤5864062014000;omega) ?_)
   intro q7 f hs7 hf
   have c7:q7.S.ns.length≤q6.S.ns.length+1467000000:=hs7.cnt
   have hd7:=hd6.step hs6.ok hs7
   have hu7:=hu6.step hs6.ok hs7
   have hro7:=hro6.step hs6.ok hs7
   dsimp only
   refine zA (Wp.mono (Q:=fun s:Bool×MSt=>s.1=false∧ ∃q8,s.2=(2,some q8)∧Stp q7 (2*(220*4096)) q8) ?_ ?_)
   ·refine zA (xB hs7.ok rfl hf hd7 4096 (zAa T.len (fun v=>zO (jE t 33) (atE t (qR h)) v&&zO (jE t 33) (atE t qD) v)) (by show _≤5864062014000;omega) ?_)
    intro q8 y8 hs8 hy8
    have c8:=hs8.cnt
    have h80:y8=0:=(Rp.eq hs8.ok hy8 (Rp.f0 hs8.ok)).2 (fun a=>by
     show (zO _ _ _&&zO _ _ _)=false
     rw [zHs]
     refine xM _ _ _ (fun j=> ?_)
     simp only [atE]
     cases t[j]? with
     |none=>rfl
     |some z=>simp only [qR,qD];cases z.2.2.1<;>simp)
    refine zE (fun hc=>by rw [h80] at hc;simp at hc) (fun _=> ?_)
    refine zA (xB hs8.ok rfl (hf.step hs7.ok hs8) (hu7.step hs7.ok hs8) 4096 (zAa T.len (fun v=>zO (jE t 33) (atE t (qR h)) v&&(zO (jE t 33) (atE t qU) v||vN (jE t 33) v))) (by show _≤5864062014000;omega) ?_)
    intro q9 y9 hs9 hy9
    have h90:y9=0:=(Rp.eq hs9.ok hy9 (Rp.f0 hs9.ok)).2 (fun a=>by
     show (zO _ _ _&&(zO _ _ _||vN _ _))=false
     rw [Bool.and_or_distrib_left,zLw,Bool.or_false,zHs]
     refine xM _ _ _ (fun j=> ?_)
     simp only [atE]
     cases t[j]? with
     |none=>rfl
     |some z=>
      simp only [qR,qU]
      cases z.2.2.1<;>cases z.2.1<;>simp [zDc])
    refine zB ⟨?_,q9,rfl,(hs8.trans hs9).mono (by omega)⟩
    rw [h90]
    rfl
   ·rintro ⟨b8,st8⟩ ⟨hb8,q8,hst8,hs8⟩
    simp only at hb8 hst8
    subst hb8 hst8
    have c8:=hs8.cnt
    dsimp only
    refine zE (fun hc=>by cases hc) (fun _=> ?_)
    refine zA (zIO hs8.ok rfl (hro7.step hs7.ok hs8) (hf.step hs7.ok hs8) 4096 (zAa T.len (fun v=>zO (jE t 33) pk6 v||zO (jE t 33) (atE t (qR h)) v)) (by show _≤5864062014000;omega) ?_)
    intro q9 y9 hs9 hy9
    refine zB (e2l ⟨⟨k+1,q9,fun j=>pk6 j||atE t (qR h) j,?_,by omega,rfl,(hs6.trans ((hs7.trans hs8).trans hs9)).mono (zLk k 1500000000 _ (by show 1467000000+2*(220*4096)+220*4096≤_;omega)),hy9.congr (fun a=>zJw _ _ _ _),fun j z hj hz hzd hzh=> ?_,fun _ hxd=> ?_⟩,?_⟩)
    ·dsimp only;rw [wrap_i64 (by omega) (by omega)];omega
    ·show (pk6 j||_)=true
     rw [hpk6 j z hj hz hzd hzh,Bool.true_or]
    ·show (pk6 i||atE t (qR h) i)=true
     rw [zAw hx,qR,hxd,zQC hh];simp
    ·dsimp only;rw [wrap_i64 (by omega) (by omega)];omega
  ·intro o ho
   cases o with
   |inr r=>exact ho.elim
   |inl s=>
    obtain ⟨q6,pk6,he6,hst6,hs6,hro6,hpk6⟩:=ho
    obtain ⟨en6,ro6,st6⟩:=s
    simp only at he6 hst6 hro6
    subst he6 hst6
    refine zB (e2l ⟨⟨i+1,q6,pk6,?_,hlt,rfl,(hs.trans (hst5.trans hs6)).mono (zLk i 8000000000 _ (by show 1467000000+220*4096+220*4096+4*1500000000≤_;omega)),hy5.step hs5.ok hs6,hro6,hpk6⟩,?_⟩)
    ·dsimp only;rw [wrap_i64 (by omega) (by omega)];omega
    ·dsimp only;rw [wrap_i64 (by omega) (by omega)];omega
 ·intro o ho
  cases o with
  |inr r=>exact ho
  |inl s=>
   obtain ⟨q3,pk,hst,hs3,hro,hpk⟩:=ho
   obtain ⟨ro,st⟩:=s
   simp only at hst hro
   subst hst
   have c3:q3.S.ns.length≤q2.S.ns.length+12*8000000000:=hs3.cnt
   have hd3:=hd2.step hs2.ok hs3
   have hu3:=hu.step hs2.ok hs3
   refine zA (Wp.mono (Q:=fun s:Bool×MSt=>s.1=true) ?_ (fun s hs=>zB hs))
   dsimp only
   refine zA (xB hs3.ok rfl hd3 hu3 4096 (zAa T.len (fun v=>zO (jE t 33) (atE t qD) v&&(zO (jE t 33) (atE t qU) v||vN (jE t 33) v))) (by show _≤5864062014000;omega) ?_)
   intro q4 y4 hs4 hy4
   have c4:=hs4.cnt
   have h40:y4=0:=(Rp.eq hs4.ok hy4 (Rp.f0 hs4.ok)).2 (fun a=>by
    show (zO _ _ _&&(zO _ _ _||vN _ _))=false
    rw [Bool.and_or_distrib_left,zLw,Bool.or_false,zHs]
    refine xM _ _ _ (fun j=> ?_)
    simp only [atE]
    cases t[j]? with
    |none=>rfl
    |some z=>simp only [qD,qU];cases z.2.2.1<;>simp)
   refine zE (fun _=> ?_) (fun hc=>by rw [h40] at hc;simp at hc)
   refine zA (zIO hs4.ok rfl (hd3.step hs3.ok hs4) (hu3.step hs3.ok hs4) 4096 (zAa T.len (fun v=>zO (jE t 33) (atE t qD) v||(zO (jE t 33) (atE t qU) v||vN (jE t 33) v))) (by show _≤5864062014000;omega) ?_)
   intro q5 y5 hs5 hy5
   have c5:=hs5.cnt
   dsimp only
   refine zA (zIO hs5.ok rfl hy5 ((hro.step hs3.ok hs4).step hs4.ok hs5) 4096 (zAa T.len (fun v=>(zO (jE t 33) (atE t qD) v||(zO (jE t 33) (atE t qU) v||vN (jE t 33) v))||zO (jE t 33) pk v)) (by show _≤5864062014000;omega) ?_)
   intro q6 y6 hs6 hy6
   have c6:=hs6.cnt
   have h61:y6=1:=(Rp.eq hs6.ok hy6 (Rp.f1 hs6.ok)).2 (fun a=>zRV t pk hpk a)
   refine zE (fun _=> ?_) (fun hc=>by rw [h61] at hc;simp at hc)
   refine zA (zEz hs6.ok rfl T (-1) (by show _+1467000000≤5864062014000;omega) ?_)
   intro q7 y7 hs7 hy7
   have c7:q7.S.ns.length≤q6.S.ns.length+1467000000:=hs7.cnt
   have h70:y7=0:=(Rp.eq hs7.ok hy7 (Rp.f0 hs7.ok)).2 (fun a=>xM _ _ _ (fun j=>by
    rw [beq_eq_false_iff_ne];omega))
   refine zE (fun _=> ?_) (fun hc=>by rw [h70] at hc;simp at hc)
   refine zA (zEz hs7.ok rfl T (t.length:Int) (by show _+1467000000≤5864062014000;omega) ?_)
   intro q8 y8 hs8 hy8
   have h80:y8=0:=(Rp.eq hs8.ok hy8 (Rp.f0 hs8.ok)).2 (fun a=>by
    show zO _ _ _=false
    rw [zNx t _ (fun _=>false) _ (fun j hj=>by rw [beq_eq_false_iff_ne];omega)]
    exact xM _ _ _ (fun _=>rfl))
   refine zB ?_
   rw [h80]
   rfl
end Go.Ve

namespace Go.Ve
open Go Go.Proofs Go.Bd Go.Proofs.Bw
set_option maxRecDepth 1000000
set_option maxHeartbeats 4000000
abbrev Pkt:=Ty.El qG
def zEk (p:Pkt) (k:Nat):Int:=match k with
 |0=>p.1
 |1=>p.2.1
 |2=>IntKind.wrap IntKind.u32 p.2.2.1
 |3=>IntKind.wrap IntKind.u32 p.2.2.2.1
 |_=>IntKind.wrap IntKind.u32 p.2.2.2.2.1
noncomputable def wrL (K x:Int) (n:Bool) (a0:List Bool):Option (List Bool):=
 Option.bind (zN (K, ())) fun (y12 : Int) =>
     zK
      (fun (s13:Int×List Bool)=>
       bif decide (s13.1<y12) then
        Option.bind (wJ (K,s13.1,n,())) fun (y14:Int)=>
         Option.bind (zN (K,())) fun (y15:Int)=>
          bif decide ((0:Int)≤IntKind.wrap IntKind.i64 (IntKind.wrap IntKind.i64 (y15- (1:Int)) -s13.1)) then
           Option.bind (idx s13.2 y14) fun (y16:Bool)=>
            Option.bind (atN s13.2 (Int.toNat y14)) fun (y17:Bool)=>
             some
              (Sum.inl
               (IntKind.wrap IntKind.i64 (s13.1+(1:Int)),
                List.set s13.2 (Int.toNat y14)
                 (IntKind.wrap IntKind.u32
                   (↑(BitVec.toNat
                      (BitVec.ofInt (IntKind.bits IntKind.u32)
                        (Int.fdiv x
                         ((2:Int)^
                           min (Int.toNat (IntKind.wrap IntKind.i64 (IntKind.wrap IntKind.i64 (y15- (1:Int)) -s13.1))) (IntKind.bits IntKind.u32)))&&&
                       BitVec.ofInt (IntKind.bits IntKind.u32) (1:Int))):
                    Int)==
                  (1:Int))))
          else none
       else some (Sum.inr s13.2))
      ((0:Int),a0)
theorem put_eq (p:Pkt) (n:Bool) (a:List Bool):zBY a (p,n,())=
  Option.bind (wrL 0 (zEk p 0) n a) fun b0=>Option.bind (wrL 1 (zEk p 1) n b0) fun b1=>Option.bind (wrL 2 (zEk p 2) n b1) fun b2=>Option.bind (wrL 3 (zEk p 3) n b2) fun b3=>
   Option.bind (wrL 4 (zEk p 4) n b3) fun b4=>bif Nat.beq (List.length b4) (List.length a) then some (b4,()) else none:=rfl
def vn (k:Nat) (n:Bool) (i:Nat):Nat:=zMZ k i n
theorem zUG: ∀k,k<5→ ∀n i,i<wdF k→vn k n i<220:=by decide
theorem zS0 {k i:Nat} (hk:k<5) (hi:i<wdF k) (n:Bool):wJ ((k:Int),(i:Int),n,())=some ((vn k n i:Nat):Int):=by
 show zMY k i n=_
 unfold zMY
 rw [if_pos ⟨⟨by omega,by omega⟩,by omega,by rw [Int.toNat_natCast];omega⟩]
 rfl
structure zT2 (k:Nat) (x:Int) (n:Bool) (m:Nat) (a a':List Bool):Prop where
 len:a'.length=a.length
 bit: ∀i,i<m→a'[vn k n i]? =some (bt x (wdF k-1-i))
 oth: ∀j,(∀i,i<m→j≠vn k n i)→a'[j]? =a[j]?
theorem zT7 {k:Nat} {n:Bool} {i j:Nat} (h:vn k n i=vn k n j):i=j:=by
 unfold vn zMZ at h
 omega
theorem zCU {k:Nat} (hk:k<5) (x:Int) (n:Bool) (a:List Bool) (ha:a.length=220):Wp (wrL (k:Int) x n a) (zT2 k x n (wdF k) a):=by
 have hw32:8≤wdF k∧wdF k≤32:=by
  have:k=0∨k=1∨k=2∨k=3∨k=4:=by omega
  rcases this with rfl|rfl|rfl|rfl|rfl<;>decide
 unfold wrL
 refine zA (zT (zG5 hk) ?_)
 refine wp_loop (fun s:Int×List Bool=> ∃i:Nat,s.1=(i:Int)∧i≤wdF k∧zT2 k x n i a s.2) (fun s=>(((wdF k:Nat):Int) -s.1).toNat) ⟨0,rfl,Nat.zero_le _,rfl,fun i hi=>by omega,fun j _=>rfl⟩ ?_
 rintro ⟨s,b⟩ ⟨i,hi,hle,P⟩
 simp only at hi P
 subst hi
 refine zI (fun hlt=> ?_) (fun hge=> ?_)
 rotate_left
 ·have:i=wdF k:=by
   have hge: ¬(i:Int)< ((wdF k:Nat):Int):=hge
   omega
  subst this
  exact zB (e2r P)
 have hlt:i<wdF k:=by
  have hlt:(i:Int)< ((wdF k:Nat):Int):=hlt
  omega
 refine zA (zT (zS0 hk hlt n) ?_)
 refine zA (zT (zG5 hk) ?_)
 dsimp only
 have e:IntKind.wrap IntKind.i64 (IntKind.wrap IntKind.i64 (((wdF k:Nat):Int) -1) - (i:Int))=((wdF k-1-i:Nat):Int):=by
  rw [wrap_i64 (x:=((wdF k:Nat):Int) -1) (by omega) (by omega),wrap_i64 (by omega) (by omega)]
  omega
 rw [e]
 refine zI (fun _=> ?_) (fun hn=>absurd (by omega) hn)
 have hb:vn k n i<b.length:=by rw [P.len,ha];exact zUG k hk n i hlt
 have hbi:b[vn k n i]? =some b[vn k n i]:=by simp [hb]
 refine zA (zT (jB hbi) ?_)
 refine zA (zT (x:=b[vn k n i]) (by rw [Int.toNat_natCast];exact hbi) ?_)
 simp only [Int.toNat_natCast,zKM x (show wdF k-1-i<32 by omega)]
 refine zB (e2l ⟨⟨i+1,?_,hlt,?_,fun j hj=> ?_,fun j hj=> ?_⟩,?_⟩)
 ·dsimp only;rw [wrap_i64 (by omega) (by omega)];omega
 ·rw [List.length_set];exact P.len
 ·rcases Nat.lt_or_ge j i with h'|h'
  ·rw [List.getElem?_set_ne (fun he=>by have:=zT7 he;omega)]
   exact P.bit j h'
  ·have:j=i:=by omega
   subst this
   rw [List.getElem?_set_self hb]
   cases bt x (wdF k-1-j)<;>rfl
 ·rw [List.getElem?_set_ne (fun he=>hj i (by omega) he.symm)]
  exact P.oth j (fun i' hi'=>hj i' (by omega))
 ·dsimp only;rw [wrap_i64 (by omega) (by omega)];omega
structure zGd (p:Pkt) (al:List Bool):Prop where
 len:al.length=220
 bit: ∀k,k<5→ ∀i,i<wdF k→al[fv k i]? =some (bt (zEk p k) (wdF k-1-i))
theorem zRi: ∀k,k<5→ ∀k',k'<5→k≠k'→ ∀n i,i<wdF k→ ∀i',i'<wdF k'→vn k n i≠vn k' n i':=by
 intro k hk k' hk' hne n i hi i' hi'
 have h1:k=0∨k=1∨k=2∨k=3∨k=4:=by omega
 have h2:k'=0∨k'=1∨k'=2∨k'=3∨k'=4:=by omega
 unfold vn zMZ
 rcases h1 with rfl|rfl|rfl|rfl|rfl<;>rcases h2 with rfl|rfl|rfl|rfl|rfl<;>simp only [wdF,ftF,List.getD_cons_zero,List.getD_cons_succ] at* <;>omega
theorem zT6 (k i k' i':Nat):vn k false i≠vn k' true i':=by
 unfold vn zMZ
 simp only [Bool.false_eq_true,if_false,if_true]
 omega
theorem zNh (p:Pkt) (n:Bool) (a:List Bool) (ha:a.length=220):Wp (zBY a (p,n,())) (fun r=>r.1.length=220∧(∀k,k<5→ ∀i,i<wdF k→r.1[vn k n i]? =some (bt (zEk p k) (wdF k-1-i)))∧
  ∀j,(∀k,k<5→ ∀i,i<wdF k→j≠vn k n i)→r.1[j]? =a[j]?):=by
 rw [put_eq]
 refine zA ((zCU (k:=0) (by omega) _ n a ha).mono ?_)
 intro b0 P0
 have l0:b0.length=220:=P0.len.trans ha
 refine zA ((zCU (k:=1) (by omega) _ n b0 l0).mono ?_)
 intro b1 P1
 have l1:b1.length=220:=P1.len.trans l0
 refine zA ((zCU (k:=2) (by omega) _ n b1 l1).mono ?_)
 intro b2 P2
 have l2:b2.length=220:=P2.len.trans l1
 refine zA ((zCU (k:=3) (by omega) _ n b2 l2).mono ?_)
 intro b3 P3
 have l3:b3.length=220:=P3.len.trans l2
 refine zA ((zCU (k:=4) (by omega) _ n b3 l3).mono ?_)
 intro b4 P4
 have l4:b4.length=220:=P4.len.trans l3
 refine zE (fun _=>zB ⟨l4,?_,?_⟩) (fun hc=>by rw [l4,ha] at hc;cases hc)
 ·intro k hk i hi
  have hk':k=0∨k=1∨k=2∨k=3∨k=4:=by omega
  have o: ∀k',k'<5→k≠k'→ ∀i',i'<wdF k'→vn k n i≠vn k' n i':=fun k' hk' hne i' hi'=>zRi k hk k' hk' hne n i hi i' hi'
  rcases hk' with rfl|rfl|rfl|rfl|rfl
  ·show b4[_]? =_
   rw [P4.oth _ (o 4 (by omega) (by omega)),P3.oth _ (o 3 (by omega) (by omega)),P2.oth _ (o 2 (by omega) (by omega)),P1.oth _ (o 1 (by omega) (by omega))]
   exact P0.bit i hi
  ·show b4[_]? =_
   rw [P4.oth _ (o 4 (by omega) (by omega)),P3.oth _ (o 3 (by omega) (by omega)),P2.oth _ (o 2 (by omega) (by omega))]
   exact P1.bit i hi
  ·show b4[_]? =_
   rw [P4.oth _ (o 4 (by omega) (by omega)),P3.oth _ (o 3 (by omega) (by omega))]
   exact P2.bit i hi
  ·show b4[_]? =_
   rw [P4.oth _ (o 4 (by omega) (by omega))]
   exact P3.bit i hi
  ·exact P4.bit i hi
 ·intro j hj
  show b4[_]? =_
  rw [P4.oth _ (hj 4 (by omega)),P3.oth _ (hj 3 (by omega)),P2.oth _ (hj 2 (by omega)),P1.oth _ (hj 1 (by omega)),P0.oth _ (hj 0 (by omega))]
theorem zIQ (p q:Pkt):Wp (zAZ ([],p,q,())) (zGd p):=by
 unfold zAZ
 dsimp only
 refine zA (Wp.mono (Q:=fun a:List Bool=>a.length=220) ?_ ?_)
 ·rw [zNG]
  exact zB rfl
 intro a ha
 refine zE (fun _=> ?_) (fun hc=>by simp at hc)
 refine zA ((zNh p false a ha).mono ?_)
 rintro ⟨b,u⟩ ⟨hb,h1,_⟩
 simp only at hb h1
 dsimp only
 refine zE (fun _=> ?_) (fun hc=>by simp at hc)
 refine zA ((zNh q true b hb).mono ?_)
 rintro ⟨c,u'⟩ ⟨hc,_,h3⟩
 simp only at hc h3
 refine zB ⟨hc,fun k hk i hi=> ?_⟩
 show c[vn k false i]? =_
 rw [h3 _ (fun k' hk' i' hi'=>zT6 k i k' i')]
 exact h1 k hk i hi
def asg (al:List Bool) (v:Nat):Bool:=al.getD v false
theorem zFh {p:Pub} {nx i:Nat} {f:Int} {F:(Nat→Bool)→Bool} {Q:MSt×Bool→Prop} (hi:i+1=nx) (hf:Rp p f F) (pk:Pkt) (hq: ∀al,zGd pk al→Q ((nx,some p),F (asg al))):
  Wp (jY (nx,some p) (i,f,pk,())) Q:=by
 unfold jY
 dsimp only
 refine zA ((zIQ pk _).mono ?_)
 intro al hal
 have:=zTz hf hi (al:=al) (by rw [hal.len];omega)
 refine zA (zT (x:=((nx,some p),F (asg al))) this ?_)
 exact zB (hq al hal)
theorem zN9 {pk:Pkt} {al:List Bool} (h:zGd pk al) {k:Nat} (hk:k<5):Bd.bits (fv k) (wdF k) (asg al)=(List.range (wdF k)).map (fun i=>bt (zEk pk k) (wdF k-1-i)):=by
 rw [Bd.bits]
 refine List.map_congr_left (fun i hi=> ?_)
 rw [List.mem_range] at hi
 rw [asg,List.getD_eq_getElem?_getD,h.bit k hk i hi]
 rfl
theorem zNR (q:Nat→Option Bool) (l:List Bool):fits q l=true↔ ∀i b,l[i]? =some b→zMm (q i) b=true:=by
 rw [fits,List.all_eq_true]
 constructor
 ·intro h i b hb
  have hi:=(List.getElem?_eq_some_iff.1 hb).1
  have:=h i (List.mem_range.2 hi)
  revert this
  unfold zMm
  cases q i with
  |none=>exact fun _=>rfl
  |some c=>intro h;rw [hb] at h;simpa using h
 ·intro h i hi
  rw [List.mem_range] at hi
  have:=h i l[i] (by simp [hi])
  revert this
  unfold zMm
  cases q i with
  |none=>exact fun _=>rfl
  |some c=>intro h;simp only [hi,List.getElem?_eq_getElem];simpa using h
theorem zLg {pk:Pkt} {al:List Bool} (h:zGd pk al) {k:Nat} (hk:k<2) (A M:Int):uF k A M (asg al)=true↔ ∀j,j<32→bt M j=true∨bt (zEk pk k) j=bt A j:=by
 have hw:wdF k=32:=by
  have:k=0∨k=1:=by omega
  rcases this with rfl|rfl<;>rfl
 have hb:=zN9 h (show k<5 by omega)
 rw [hw] at hb
 rw [uF,hb,zNR]
 constructor
 ·intro hh j hj
  have:=hh (31-j) (bt (zEk pk k) j) (by
   rw [List.getElem?_map,List.getElem?_range (by omega)]
   simp only [Option.map_some,show 32-1- (31-j)=j by omega])
  unfold wq zMm at this
  rw [show 31- (31-j)=j by omega] at this
  cases hM:bt M j with
  |true=>exact .inl rfl
  |false=>
   rw [hM] at this
   exact .inr (by simpa using this)
 ·intro hh i b hb
  have hi:i<32:=by
   have:=(List.getElem?_eq_some_iff.1 hb).1
   simpa using this
  rw [List.getElem?_map,List.getElem?_range hi] at hb
  simp only [Option.map_some,Option.some.injEq] at hb
  subst hb
  have:=hh (31-i) (by omega)
  unfold wq zMm
  cases hM:bt M (31-i) with
  |true=>rfl
  |false=>
   rw [hM] at this
   simp only [Bool.false_eq_true,false_or] at this
   simp only [Bool.false_eq_true,if_false,show 32-1-i=31-i by omega,this,beq_self_eq_true]
end Go.Ve

namespace Go.Ve
open Go Go.Proofs Go.Bd Go.Proofs.Bw
set_option maxRecDepth 1000000
set_option maxHeartbeats 4000000
abbrev U32 (x:Int):Prop:=0≤x∧x<4294967296
theorem zSH {x:Int} (h:U32 x):((BitVec.ofInt 32 x).toNat:Int)=x:=by
 rw [BitVec.toNat_ofInt]
 have e:((2^32:Nat):Int)=4294967296:=rfl
 rw [e]
 obtain ⟨h0,h1⟩:=h
 omega
theorem zRT {pk:Pkt} {al:List Bool} (h:zGd pk al) (x:Ty.El zJ) (hv:zBK x=true) (hx:U32 x.1):zEL x (asg al)=zEh x pk.2.1:=by
 rw [Bool.eq_iff_iff,zEL,zLg h (by omega)]
 have hval:zEk pk 1=pk.2.1:=rfl
 rw [hval]
 simp only [zBK,Bool.and_eq_true,beq_iff_eq] at hv
 obtain ⟨_,_,hv⟩:=hv
 have hbm: ∀j,bt ((BitVec.allOnes 32^^^uT (wK x.2.1)).toNat:Int) j=(decide (j<32)^^(uT (wK x.2.1)).getLsbD j):=by
  intro j
  rw [bt,zBU,BitVec.getLsbD_xor,BitVec.getLsbD_allOnes]
 have hA:BitVec.ofInt 32 x.1=BitVec.ofInt 32 x.1&&&uT (wK x.2.1):=by
  apply BitVec.eq_of_getLsbD_eq
  intro j hj
  have:=congrArg (fun b=>b.getLsbD j) hv
  simp only [BitVec.getLsbD_and,BitVec.getLsbD_not,hj,decide_true,Bool.true_and,BitVec.getLsbD_zero] at this
  rw [BitVec.getLsbD_and]
  revert this
  cases (BitVec.ofInt 32 x.1).getLsbD j<;>cases (uT (wK x.2.1)).getLsbD j<;>simp
 have hc:zEh x pk.2.1=true↔BitVec.ofInt 32 pk.2.1&&&uT (wK x.2.1)=BitVec.ofInt 32 x.1:=by
  unfold zEh
  rw [beq_iff_eq]
  constructor
  ·intro hh
   apply BitVec.eq_of_toNat_eq
   have:=zSH hx
   omega
  ·intro hh
   rw [hh];exact zSH hx
 rw [hc]
 constructor
 ·intro hh
  rw [hA]
  apply BitVec.eq_of_getLsbD_eq
  intro j hj
  have:=hh j hj
  rw [hbm] at this
  simp only [hj,decide_true] at this
  rw [BitVec.getLsbD_and,BitVec.getLsbD_and]
  cases hm:(uT (wK x.2.1)).getLsbD j with
  |false=>simp
  |true=>
   rw [hm] at this
   have:bt pk.2.1 j=bt x.1 j:=by simpa using this
   unfold bt at this
   rw [this]
 ·intro hh j hj
  rw [hbm]
  simp only [hj,decide_true]
  cases hm:(uT (wK x.2.1)).getLsbD j with
  |false=>exact .inl rfl
  |true=>
   right
   have:=congrArg (fun b=>b.getLsbD j) hh
   simp only [BitVec.getLsbD_and,hm,Bool.and_true] at this
   exact this
theorem zRk {pk:Pkt} {al:List Bool} (h:zGd pk al) {t:List Fwd} (T:zEi t) (hu: ∀x,x∈t→U32 x.1.1):vec t (asg al)=t.map (fun x=>zEh x.1 pk.2.1):=
 List.map_congr_left (fun x hx=>zRT h x.1 (T.val x hx) (hu x hx))
def xX (t:List Fwd) (j:Nat):Int:=match t[j]? with
 |some x=>x.1.2.1
 |none=> -1
def zFY (t:List Fwd) (d:Int) (j:Nat):Bool:=(t.map (fun x=>zEh x.1 d)).getD j false
theorem zQ1 {t:List Fwd} {d:Int} {j:Nat} {x:Fwd} (h:t[j]? =some x):zFY t d j=zEh x.1 d:=by
 simp [zFY,List.getD_eq_getElem?_getD,h]
theorem zJC {t:List Fwd} {d:Int} {j:Nat} (h:zFY t d j=true):j<t.length:=by
 rcases Nat.lt_or_ge j t.length with h'|h'
 ·exact h'
 ·simp [zFY,List.getD_eq_getElem?_getD,List.getElem?_eq_none h'] at h
structure zTQ (t:List Fwd) (d:Int) (k:Nat):Prop where
 con:zFY t d k=true
 max: ∀j,zFY t d j=true→xX t j<xX t k∨(xX t j=xX t k∧k≤j)
theorem zNj (t:List Fwd) (d:Int) (hl:t.length<4611686018427387904):Wp (zDP (t,d,())) (fun r=>(r= -1∧ ∀j,zFY t d j=false)∨ ∃k:Nat,r=(k:Int)∧zTQ t d k):=by
 unfold zDP
 dsimp only
 refine zA ((zLX (xs:=t) hl (fun i (b:Int)=>(b= -1∧ ∀j,j<i→zFY t d j=false)∨ ∃k:Nat,b=(k:Int)∧k<i∧zFY t d k=true∧ ∀j,j<i→zFY t d j=true→xX t j<xX t k∨(xX t j=xX t k∧k≤j))
  (.inl ⟨rfl,fun j hj=>by omega⟩) ?_ (Q:=fun r=>(r= -1∧ ∀j,zFY t d j=false)∨ ∃k:Nat,r=(k:Int)∧zTQ t d k) ?_).mono (fun r hr=>zB hr))
 ·intro i x b hx hJ
  refine zA (zT (jB hx) ?_)
  have hci:=zQ1 (d:=d) hx
  have hli:xX t i=x.1.2.1:=by simp [xX,hx]
  refine zA (Wp.mono (Q:=fun s:Bool=>(s=true→zFY t d i=true∧(b= -1∨ ∃k:Nat,b=(k:Int)∧xX t k<xX t i))∧(s=false→zFY t d i=false∨ ∃k:Nat,b=(k:Int)∧xX t i≤xX t k)) ?_ ?_)
  ·refine zA (zT (zBP _ _) ?_)
   refine zE (fun hc=> ?_) (fun hc=>zB ⟨(fun h=>by cases h),fun _=> .inl (hci.trans hc)⟩)
   dsimp only
   refine zI (fun hb=> ?_) (fun hb=> ?_)
   ·refine zB ⟨fun _=>⟨hci.trans hc, .inl ?_⟩,fun h=>by cases h⟩
    rcases hJ with ⟨h,_⟩|⟨k,h,_⟩
    ·exact h
    ·subst h
     have hb:(k:Int)<0:=hb
     omega
   ·rcases hJ with ⟨h,_⟩|⟨k,h,hk,_⟩
    ·subst h
     exact absurd (show (-1:Int)<0 by omega) hb
    ·subst h
     have hkl:k<t.length:=by
      have:=(List.getElem?_eq_some_iff.1 hx).1
      omega
     have hkx:t[k]? =some t[k]:=by simp [hkl]
     have hlk:xX t k=t[k].1.2.1:=by simp [xX,hkx]
     refine zA (zT (jB hkx) (zB ?_))
     refine ⟨fun h=>⟨hci.trans hc, .inr ⟨k,rfl,?_⟩⟩,fun h=> .inr ⟨k,rfl,?_⟩⟩
     ·rw [hli,hlk];exact of_decide_eq_true h
     ·rw [hli,hlk]
      have:=of_decide_eq_false h
      exact Int.not_lt.1 this
  ·intro s hs
   refine zE (fun h=>zB ?_) (fun h=>zB ?_)
   ·obtain ⟨h1,h2⟩:=hs.1 h
    refine .inr ⟨i,rfl,by omega,h1,fun j hj hcj=> ?_⟩
    rcases Nat.lt_or_ge j i with h'|h'
    ·rcases hJ with ⟨_,h3⟩|⟨k,hk,_,_,h3⟩
     ·rw [h3 j h'] at hcj;cases hcj
     ·rcases h2 with h2|⟨k',hk',h2⟩
      ·rw [hk] at h2;omega
      ·have:k'=k:=by rw [hk] at hk';omega
       subst this
       rcases h3 j h' hcj with h4|⟨h4,_⟩
       ·exact .inl (by omega)
       ·exact .inl (by omega)
    ·have:j=i:=by omega
     subst this
     exact .inr ⟨rfl,Nat.le_refl _⟩
   ·have h2:=hs.2 h
    rcases hJ with ⟨hb,h3⟩|⟨k,hk,hki,hck,h3⟩
    ·refine .inl ⟨hb,fun j hj=> ?_⟩
     rcases Nat.lt_or_ge j i with h'|h'
     ·exact h3 j h'
     ·have:j=i:=by omega
      subst this
      rcases h2 with h2|⟨k,hk,_⟩
      ·exact h2
      ·rw [hb] at hk;omega
    ·refine .inr ⟨k,hk,by omega,hck,fun j hj hcj=> ?_⟩
     rcases Nat.lt_or_ge j i with h'|h'
     ·exact h3 j h' hcj
     ·have:j=i:=by omega
      subst this
      rcases h2 with h2|⟨k',hk',h2⟩
      ·rw [h2] at hcj;cases hcj
      ·have:k'=k:=by rw [hk] at hk';omega
       subst this
       rcases Int.lt_or_eq_of_le h2 with h4|h4
       ·exact .inl h4
       ·exact .inr ⟨h4,by omega⟩
 ·rintro r (⟨h,h1⟩|⟨k,h,hk,hc,h1⟩)
  ·refine .inl ⟨h,fun j=> ?_⟩
   cases hj:zFY t d j with
   |false=>rfl
   |true=>rw [h1 j (zJC hj)] at hj;cases hj
  ·exact .inr ⟨k,h,hc,fun j hj=>h1 j (zJC hj) hj⟩
abbrev zUW (t:List Fwd) (i j:Nat):Prop:=xX t j<xX t i∨(xX t i=xX t j∧i<j)
theorem zJx {t:List Fwd} {n k j:Nat} (h:j∈zIq t n k):xX t j=(n:Int):=by
 rw [zIq,List.mem_filter] at h
 obtain ⟨_,h⟩:=h
 unfold xX
 split at h
 ·rename_i x hx
  rw [hx]
  simpa using h
 ·cases h
theorem zQc {t:List Fwd} : ∀ {m j:Nat},m≤33→j∈jE t m→(33:Int) -m≤xX t j
 |0,j,_,h=>by cases h
 |m+1,j,hm,h=>by
  rw [jE,List.mem_append] at h
  rcases h with h|h
  ·have:=zQc (by omega) h;omega
  ·have:=zJx h;omega
theorem zOk (t:List Fwd): ∀m,m≤33→(jE t m).Pairwise (zUW t)
 |0,_=>List.Pairwise.nil
 |m+1,hm=>by
  rw [jE,List.pairwise_append]
  refine ⟨zOk t m (by omega),?_,?_⟩
  ·have h1:(zIq t (32-m) t.length).Pairwise (· < ·):=List.pairwise_lt_range.filter _
   refine h1.imp_of_mem ?_
   intro a b ha hb hab
   exact .inr ⟨(zJx ha).trans (zJx hb).symm,hab⟩
  ·intro a ha b hb
   have h1:=zQc (by omega) ha
   have h2:=zJx hb
   left
   omega
theorem zQe {t:List Fwd} {j:Nat} {x:Fwd} (hx:t[j]? =some x) (h0:0≤xX t j): ∀m:Nat,(m:Int)≤33→(33:Int) -m≤xX t j→xX t j≤32→j∈jE t m
 |0,_,h,h'=>by omega
 |m+1,hm,h,h'=>by
  rw [jE,List.mem_append]
  by_cases he:xX t j=((32-m:Nat):Int)
  ·right
   rw [zIq,List.mem_filter,List.mem_range]
   refine ⟨(List.getElem?_eq_some_iff.1 hx).1,?_⟩
   simp only [hx]
   rw [xX,hx] at he
   simpa using he
  ·left
   exact zQe hx h0 m (by omega) (by omega) h'
theorem zQN {t:List Fwd} (T:zEi t) {d:Int} {k:Nat} (h:zTQ t d k):(jE t 33).find? (fun j=>(t.map (fun x=>zEh x.1 d)).getD j false)=some k:=by
 have hk:=zJC h.con
 have hx:t[k]? =some t[k]:=by simp [hk]
 have hlen:xX t k=t[k].1.2.1:=by simp [xX,hx]
 have hv:=T.val t[k] (List.mem_of_getElem? hx)
 simp only [zBK,Bool.and_eq_true,decide_eq_true_eq] at hv
 obtain ⟨h0,h32,_⟩:=hv
 have hm:k∈jE t 33:=zQe hx (by rw [hlen];exact h0) 33 (by omega) (by rw [hlen];exact Int.le_trans (by omega) h0) (by rw [hlen];exact h32)
 cases hf:(jE t 33).find? (fun j=>(t.map (fun x=>zEh x.1 d)).getD j false) with
 |none=>
  rw [List.find?_eq_none] at hf
  exact absurd h.con (hf k hm)
 |some j=>
  obtain ⟨hj,pa,pb,he,hno⟩:=List.find?_eq_some_iff_append.1 hf
  have hp:=zOk t 33 (Nat.le_refl _)
  rw [he] at hp hm
  have hmax:=h.max j hj
  rcases List.mem_append.1 hm with hm|hm
  ·have:=hno k hm
   rw [show ((t.map (fun x=>zEh x.1 d)).getD k false)=true from h.con] at this
   cases this
  ·rcases List.mem_cons.1 hm with rfl|hm
   ·rfl
   ·exfalso
    have h2:=(List.pairwise_cons.1 (List.pairwise_append.1 hp).2.1).1 k hm
    rcases h2 with h2|⟨h2,h3⟩<;>rcases hmax with h4|⟨h4,h5⟩<;>omega
theorem zTw {t:List Fwd} {d:Int} (h: ∀j,zFY t d j=false):(jE t 33).find? (fun j=>(t.map (fun x=>zEh x.1 d)).getD j false)=none:=by
 rw [List.find?_eq_none]
 intro j _ hj
 rw [show ((t.map (fun x=>zEh x.1 d)).getD j false)=false from h j] at hj
 cases hj
theorem zBG {pk:Pkt} {al:List Bool} (h:zGd pk al) {t:List Fwd} (T:zEi t) (hu: ∀x,x∈t→U32 x.1.1) {r:Int} (hr:(r= -1∧ ∀j,zFY t pk.2.1 j=false)∨ ∃k:Nat,r=(k:Int)∧zTQ t pk.2.1 k) (q:Nat→Bool):
  zEM t q (asg al)=(decide (r≥0)&&q r.toNat)∧zQr t (asg al)=decide (r<0):=by
 unfold zEM zQr zO vN
 rw [zRk h T hu]
 rcases hr with ⟨rfl,hno⟩|⟨k,rfl,hb⟩
 ·rw [zTw hno]
  exact ⟨rfl,rfl⟩
 ·rw [zQN T hb]
  have e1:decide ((k:Int)≥0)=true:=decide_eq_true (by omega)
  have e2:decide ((k:Int)<0)=false:=decide_eq_false (by omega)
  rw [e1,e2,Int.toNat_natCast]
  exact ⟨rfl,rfl⟩
theorem zRy (x:Fwd) (h:Ty.El vL) (hl:x.2.1.length<4611686018427387904):zFx (x,h,())=some (zDc x.2.1 h):=by
 refine zAB ?_
 unfold zFx
 refine zG3 hl (fun i=> ∀j y,j<i→x.2.1[j]? =some y→(h.1==y.1&&(h.2.1==y.2.1&&true))=false) (fun j y hj=>by omega) ?_ ?_
 ·intro i y hy hJ
  refine zA (zT (jB hy) ?_)
  have e:(y.1==h.1&&(y.2.1==h.2.1&&true))=(h.1==y.1&&(h.2.1==y.2.1&&true)):=by
   rw [Bool.eq_iff_iff]
   simp only [Bool.and_eq_true,beq_iff_eq]
   exact ⟨fun ⟨a,b,c⟩=>⟨a.symm,b.symm,c⟩,fun ⟨a,b,c⟩=>⟨a.symm,b.symm,c⟩⟩
  rw [e]
  refine zE (fun hc=>zB (e2r (e2r ?_))) (fun hc=>zB (e2l ⟨rfl,?_⟩))
  ·have:zDc x.2.1 h=true:=List.any_eq_true.2 ⟨y,List.mem_of_getElem? hy,hc⟩
   rw [this]
  ·intro j z hj hz
   rcases Nat.lt_or_ge j i with h'|h'
   ·exact hJ j z h' hz
   ·have:j=i:=by omega
    subst this
    rw [hy] at hz
    cases hz
    exact hc
 ·intro hJ
  refine zB ?_
  have:zDc x.2.1 h=false:=by
   rw [zDc,List.any_eq_false]
   intro y hy
   obtain ⟨j,hj,rfl⟩:=List.getElem_of_mem hy
   rw [hJ j _ hj (by simp [hj])]
   simp
  rw [this]
theorem zCV (p:Pkt):Wp (uI (p,())) (fun b=>b=true→(0:Int)≤p.2.2.1∧ @LE.le Int _ p.2.2.1 255∧(0:Int)≤p.2.2.2.1∧ @LE.le Int _ p.2.2.2.1 65535∧(0:Int)≤p.2.2.2.2.1∧ @LE.le Int _ p.2.2.2.2.1 65535):=by
 have hin: ∀ (lo hi n:Int),j9 ((lo,hi,()),n,())=some (decide (lo≤n)&&decide (n≤hi)):=by
  intro lo hi n
  unfold j9
  dsimp only
  by_cases h:lo≤n<;>simp [h]
 unfold uI
 dsimp only
 refine zA (Wp.mono (Q:=fun b=>b=true→(0:Int)≤p.2.2.1∧ @LE.le Int _ p.2.2.1 255∧(0:Int)≤p.2.2.2.1∧ @LE.le Int _ p.2.2.2.1 65535∧(0:Int)≤p.2.2.2.2.1∧ @LE.le Int _ p.2.2.2.2.1 65535) ?_ (fun b hb=>zB hb))
 refine zI (fun h1=> ?_) (fun _=>zB (fun h=>by cases h))
 refine zI (fun h2=> ?_) (fun _=>zB (fun h=>by cases h))
 rw [hin,hin]
 refine zA (zB ?_)
 refine zE (fun h3=>zA (zB (zB (fun h4=> ?_)))) (fun _=>zB (fun h=>by cases h))
 simp only [Bool.and_eq_true,decide_eq_true_eq] at h3 h4
 exact ⟨h1,h2,h3.1,h3.2,h4.1,h4.2⟩
end Go.Ve

namespace Go.Ve
open Go Go.Proofs Go.Bd Go.Proofs.Bw
set_option maxRecDepth 1000000
set_option maxHeartbeats 4000000
theorem zL4 (t:List Fwd) (a2:Int) (h0:Ty.El vL) (p:Pkt) (hl:t.length<4611686018427387904) (hu: ∀x,x∈t→U32 x.1.1):Wp (wE (0,none) (t,a2,h0,p,())) (fun r=>r.2=true):=by
 unfold wE
 dsimp only
 refine zA (zCx.mono ?_)
 rintro ⟨⟨n1,q0⟩,b⟩ ⟨hb,hn⟩
 simp only at hb hn
 subst hb hn
 refine zE (fun hc=>by cases hc) (fun _=> ?_)
 refine zA (Wp.mono (Q:=fun s:Bool×MSt=>s.2=(1,q0)∧(s.1=false→zEi t)) ?_ ?_)
 ·refine zA ((zCV p).mono ?_)
  intro b hb
  refine zE (fun _=>zB ⟨rfl,fun h=>by cases h⟩) (fun _=> ?_)
  refine zA ((zJV t hl).mono ?_)
  intro b' hb'
  refine zB ⟨rfl,fun h=>hb' ?_⟩
  revert h;cases b'<;>simp
 rintro ⟨b,st⟩ ⟨hst,hT⟩
 simp only at hst hT
 subst hst
 refine zE (fun _=>zB rfl) (fun hb=> ?_)
 have T:zEi t:=hT hb
 refine zA (zT zEF ?_)
 dsimp only
 have z:zC7.S.ns.length=0:=rfl
 refine zA ((zNj t p.2.1 hl).mono ?_)
 intro (r:Int) hr
 have hx: ∀h:r≥0, ∃x,t[r.toNat]? =some x∧x.2.1.length≤4∧idx t r=some x∧r< (t.length:Int):=by
  intro h
  rcases hr with ⟨h1,_⟩|⟨k,hk,hbst⟩
  ·have h1:r= -1:=h1
   have h:r≥0:=h
   omega
  ·have hlt:=zJC hbst.con
   subst hk
   exact ⟨t[k],by simp [hlt],T.hops _ (List.getElem_mem hlt),jB (by simp [hlt]),by omega⟩
 refine zI (fun hc=> ?_) (fun _=> ?_)
 ·exfalso
  have hc:r≥(t.length:Int):=hc
  obtain ⟨_,_,_,_,h⟩:=hx (by omega)
  omega
 refine zA (Wp.mono (Q:=fun s:Ty.El vL×MSt=>s.2=(1+1,some zC7)) ?_ ?_)
 ·refine zA (Wp.mono (Q:=fun s:Bool×MSt=>s.2=(1+1,some zC7)∧(s.1=true→ ∃x,idx t r=some x∧0<x.2.1.length∧x.2.1.length≤4∧a2≥0)) ?_ ?_)
  ·refine zI (fun h=> ?_) (fun h=>zB ⟨rfl,fun h=>by cases h⟩)
   obtain ⟨x,_,h4,hix,_⟩:=hx h
   refine zA (zT hix ?_)
   refine zI (fun h5=>zB ⟨rfl,fun h6=>⟨x,hix,?_,h4,of_decide_eq_true h6⟩⟩) (fun _=>zB ⟨rfl,fun h=>by cases h⟩)
   have h5:(x.2.1.length:Int)>0:=h5
   omega
  ·rintro ⟨b,st⟩ ⟨hst,hb⟩
   simp only at hst hb
   subst hst
   refine zE (fun h=> ?_) (fun _=>zB rfl)
   obtain ⟨x,hix,h5,h4,h6⟩:=hb h
   refine zA (zT hix (zA (zT hix ?_)))
   refine zE (fun _=> ?_) (fun h7=> ?_)
   ·have e1:0≤Int.tmod a2 (x.2.1.length:Int):=Int.tmod_nonneg _ h6
    have e2:Int.tmod a2 (x.2.1.length:Int)< (x.2.1.length:Int):=Int.tmod_lt_of_pos _ (by omega)
    refine zA (jP e1 e2 (fun y _ _=>zB rfl))
   ·have h7:(x.2.1.length:Int)=0:=by simpa [bne] using h7
    omega
 rintro ⟨h,st⟩ hst
 simp only at hst
 subst hst
 refine zA (Wp.mono (Q:=fun s:Bool×MSt=>s.2=(1+1,some zC7)∧s.1=(decide (r≥0)&&atE t (qR h) r.toNat)) ?_ ?_)
 ·refine zI (fun hp=> ?_) (fun hp=>zB ⟨rfl,?_⟩)
  ·obtain ⟨x,hxk,h4,hix,_⟩:=hx hp
   refine zA (zT hix ?_)
   rw [decide_eq_true hp,Bool.true_and,zAw hxk]
   refine zE (fun hd=> ?_) (fun hd=>zB ⟨rfl,?_⟩)
   ·refine zA (zT hix (zA (zT (zRy x h (by omega)) (zB ⟨rfl,?_⟩))))
    simp only [qR]
    rw [hd,Bool.true_and]
   ·simp only [qR]
    rw [hd,Bool.false_and]
  ·rw [decide_eq_false hp,Bool.false_and]
 rintro ⟨rt,st⟩ ⟨hst,hrt⟩
 simp only at hst hrt
 subst hst
 refine zA (Wp.mono (Q:=fun s:Bool×MSt=>s.2=(1+1,some zC7)∧s.1=(decide (r≥0)&&atE t qD r.toNat)) ?_ ?_)
 ·refine zI (fun hp=> ?_) (fun hp=>zB ⟨rfl,?_⟩)
  ·obtain ⟨x,hxk,h4,hix,_⟩:=hx hp
   refine zA (zT hix (zB ⟨rfl,?_⟩))
   rw [decide_eq_true hp,Bool.true_and,zAw hxk]
  ·rw [decide_eq_false hp,Bool.false_and]
 rintro ⟨dc,st⟩ ⟨hst,hdc⟩
 simp only at hst hdc
 subst hst
 refine zA (Wp.mono (Q:=fun s:Bool×MSt=>s.2=(1+1,some zC7)∧s.1=((decide (r≥0)&&atE t qU r.toNat)||decide (r<0))) ?_ ?_)
 ·refine zI (fun hp=>zB ⟨rfl,?_⟩) (fun hp=> ?_)
  ·rw [decide_eq_true hp,Bool.or_true]
  ·have hp: ¬r<0:=hp
   have hp':r≥0:=by omega
   obtain ⟨x,hxk,h4,hix,_⟩:=hx hp'
   refine zA (zT hix ?_)
   rw [decide_eq_true hp',decide_eq_false hp,Bool.true_and,Bool.or_false,zAw hxk]
   have e:((x.2.1.length:Int)==0)=x.2.1.isEmpty:=by
    cases x.2.1 with
    |nil=>rfl
    |cons z l=>
     rw [List.length_cons,List.isEmpty_cons,beq_eq_false_iff_ne]
     omega
   refine zE (fun hd=>zA (zT hix (zB ⟨rfl,?_⟩))) (fun hd=>zB ⟨rfl,?_⟩)
   ·simp only [qU]
    rw [hd,Bool.true_and]
    exact e
   ·simp only [qU]
    rw [hd,Bool.false_and]
 rintro ⟨ur,st⟩ ⟨hst,hur⟩
 simp only at hst hur
 subst hst
 refine zA (Wp.mono (Q:=fun s:Bool×MSt=>s.1=false∧ ∃q,s.2=(1+1,some q)∧Stp zC7 (3*1467000000) q) ?_ ?_)
 ·refine zA (zH3 (i:=1) zES rfl T h (by decide) ?_)
  intro q1 f1 hs1 hf1
  have c1:q1.S.ns.length≤0+1467000000:=hs1.cnt
  refine zA (zFh rfl hf1 p ?_)
  intro al1 ha1
  dsimp only
  rw [(zBG ha1 T hu hr _).1, ←hrt]
  refine zE (fun hc=>by simp at hc) (fun _=> ?_)
  refine zA (zLZ hs1.ok rfl T (by show _+1467000000≤5864062014000;omega) ?_)
  intro q2 f2 hs2 hf2
  have c2:q2.S.ns.length≤q1.S.ns.length+1467000000:=hs2.cnt
  refine zA (zFh rfl hf2 p ?_)
  intro al2 ha2
  dsimp only
  rw [(zBG ha2 T hu hr _).1, ←hdc]
  refine zE (fun hc=>by simp at hc) (fun _=> ?_)
  refine zA (zOo hs2.ok rfl T (by show _+1467000000≤5864062014000;omega) ?_)
  intro q3 f3 hs3 hf3
  refine zA (zFh rfl hf3 p ?_)
  intro al3 ha3
  dsimp only
  rw [(zBG ha3 T hu hr _).1,(zBG ha3 T hu hr (fun _=>true)).2, ←hur]
  refine zB ⟨by simp,q3,rfl,((hs1.trans hs2).trans hs3).mono (by show 1467000000+1467000000+1467000000≤_;omega)⟩
 rintro ⟨b,st⟩ ⟨hb,q,hst,hs⟩
 simp only at hb hst
 subst hb hst
 have cq:=hs.cnt
 refine zE (fun hc=>by cases hc) (fun _=> ?_)
 refine zA (Wp.mono (Q:=fun s:Bool×MSt=>s.1=true) ?_ (fun s hs=>zB hs))
 dsimp only
 refine zA (zEz hs.ok rfl T a2 (by show _+1467000000≤5864062014000;omega) ?_)
 intro q1 f1 hs1 hf1
 have c1:q1.S.ns.length≤q.S.ns.length+1467000000:=hs1.cnt
 refine zA (zFh rfl hf1 p ?_)
 intro al1 ha1
 dsimp only
 rw [(zBG ha1 T hu hr _).1]
 refine zI (fun hp=> ?_) (fun hp=> ?_)
 ·have hp:r≥0:=hp
  have hrk:((r.toNat:Nat):Int)=r:=Int.toNat_of_nonneg hp
  rw [decide_eq_true hp,Bool.true_and,hrk]
  refine zE (fun _=> ?_) (fun hc=> ?_)
  ·refine zI (fun hn=>zB rfl) (fun hn=> ?_)
   refine zA (zEz hs1.ok rfl T r (by show _+1467000000≤5864062014000;omega) ?_)
   intro q2 f2 hs2 hf2
   refine zA (zFh rfl hf2 p ?_)
   intro al2 ha2
   refine zB ?_
   dsimp only
   rw [(zBG ha2 T hu hr _).1,decide_eq_true hp,Bool.true_and,hrk,beq_self_eq_true]
  ·exfalso
   have:(r==a2)=(a2==r):=Bool.beq_comm ..
   rw [this] at hc
   simp at hc
 ·have hp: ¬r≥0:=hp
  rw [decide_eq_false hp,Bool.false_and]
  refine zE (fun _=> ?_) (fun hc=>by cases hc)
  refine zI (fun hn=>zB rfl) (fun hn=> ?_)
  exfalso
  have hn: ¬r<0:=hn
  omega
end Go.Ve

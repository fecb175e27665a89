/-
  law31, plain: which packets a rule matches; which rules cover which.
  law31, plain: PredicateRules and PredicateCovers.
-/
import Derived.Test.YtaidmnnejapafaaDoorXu20
import Derived.Test.YtaidmnnejapafaaDoorXu21
set_option linter.unusedVariables false
namespace Go.Ve
open Go Go.Proofs Go.Bd Go.Proofs.Bw
set_option maxRecDepth 1000000
set_option maxHeartbeats 4000000
abbrev Rul:=Ty.El qV
abbrev Wld:=Ty.El zA2
def zC9 (w:Wld) (a:Int):Bool:=((BitVec.ofInt 32 a^^^BitVec.ofInt 32 w.1)&&& ~~~ BitVec.ofInt 32 w.2.1)==0#32
theorem bv0 (x:BitVec 32):(IntKind.wrap .u32 ((x.toNat:Nat):Int)==(0:Int))=(x==0#32):=by
 rw [zFf,Bool.eq_iff_iff,beq_iff_eq,beq_iff_eq]
 constructor
 ·intro h
  apply BitVec.eq_of_toNat_eq
  simp only [BitVec.toNat_ofNat]
  omega
 ·intro h
  rw [h];rfl
theorem yH (w:Wld) (a:Int):qP (w,a,())=some (zC9 w a):=by
 unfold qP zC9
 dsimp only
 change some (IntKind.wrap .u32 (((BitVec.ofInt 32 (IntKind.wrap .u32 (((BitVec.ofInt 32 a^^^BitVec.ofInt 32 w.1).toNat:Nat):Int))&&& ~~~ BitVec.ofInt 32 w.2.1).toNat:Nat):Int)==(0:Int))=_
 rw [bv0,zFf,zBU]
theorem zC8 (w:Wld) (a:Int):zC9 w a=true↔ ∀j,j<32→bt w.2.1 j=true∨bt a j=bt w.1 j:=by
 unfold zC9
 rw [beq_iff_eq]
 constructor
 ·intro h j hj
  have:=congrArg (fun b=>b.getLsbD j) h
  simp only [BitVec.getLsbD_and,BitVec.getLsbD_not,BitVec.getLsbD_xor,hj,decide_true,Bool.true_and,BitVec.getLsbD_zero] at this
  unfold bt
  revert this
  cases (BitVec.ofInt 32 a).getLsbD j<;>cases (BitVec.ofInt 32 w.1).getLsbD j<;>cases (BitVec.ofInt 32 w.2.1).getLsbD j<;>simp
 ·intro h
  apply BitVec.eq_of_getLsbD_eq
  intro j hj
  have:=h j hj
  unfold bt at this
  simp only [BitVec.getLsbD_and,BitVec.getLsbD_not,BitVec.getLsbD_xor,hj,decide_true,Bool.true_and,BitVec.getLsbD_zero]
  revert this
  cases (BitVec.ofInt 32 a).getLsbD j<;>cases (BitVec.ofInt 32 w.1).getLsbD j<;>cases (BitVec.ofInt 32 w.2.1).getLsbD j<;>simp
theorem zMT {pk:Pkt} {al:List Bool} (h:zGd pk al) {k:Nat} (hk:k<2) (w:Wld):uF k w.1 w.2.1 (asg al)=zC9 w (zEk pk k):=by
 rw [Bool.eq_iff_iff,zLg h hk,zC8]
theorem zNA (v w:Nat) (hv:v<2^w) (hw:w≤32): ∀m,m≤w→num ((List.range m).map (fun i=>bt (v:Int) (w-1-i)))=v / 2^(w-m)
 |0,_=>by
  rw [Nat.sub_zero,Nat.div_eq_of_lt hv]
  rfl
 |m+1,hm=>by
  rw [List.range_succ,List.map_append,zDI,zNA v w hv hw m (by omega)]
  simp only [List.map_cons,List.map_nil,List.length_singleton,Nat.pow_one]
  have e:num [bt (v:Int) (w-1-m)]=v / 2^(w-1-m)%2:=by
   rw [zPp v (by omega)]
   have h2:v / 2^(w-1-m)%2=0∨v / 2^(w-1-m)%2=1:=by omega
   rcases h2 with h2|h2<;>rw [h2]<;>rfl
  rw [e,show w-m=(w-1-m)+1 by omega,Nat.pow_succ, ←Nat.div_div_eq_div_mul,show w- (m+1)=w-1-m by omega]
  omega
theorem zMf {pk:Pkt} {al:List Bool} (h:zGd pk al) {k:Nat} (hk:k<5) (lo hi:Nat) {v:Nat} (hv:zEk pk k=(v:Int)) (hlt:v<2^wdF k):rF k lo hi (asg al)=decide (lo≤v∧v≤hi):=by
 have hw:wdF k≤32:=by
  have:k=0∨k=1∨k=2∨k=3∨k=4:=by omega
  rcases this with rfl|rfl|rfl|rfl|rfl<;>decide
 have:=zNA v (wdF k) hlt hw (wdF k) (Nat.le_refl _)
 rw [Nat.sub_self,Nat.pow_zero,Nat.div_one] at this
 rw [rF,zN9 h hk,hv,this]
structure zSS (p:Pkt):Prop where
 p0:(0:Int)≤p.2.2.1
 p1: @LE.le Int _ p.2.2.1 255
 s0:(0:Int)≤p.2.2.2.1
 s1: @LE.le Int _ p.2.2.2.1 65535
 d0:(0:Int)≤p.2.2.2.2.1
 d1: @LE.le Int _ p.2.2.2.2.1 65535
def inP (x:Ty.El uM) (n:Int):Bool:=decide (@LE.le Int _ x.1 n)&&decide (@LE.le Int _ n x.2.1)
theorem zKq (x:Ty.El uM) (n:Int):j9 (x,n,())=some (inP x n):=by
 refine zAB ?_
 unfold j9 inP
 dsimp only
 refine zA (zE (fun h=>zB (zB ?_)) (fun h=>zB (zB ?_)))
 ·rw [h];rfl
 ·rw [h];rfl
def zNF (x:Rul) (p:Pkt):Bool:=(x.2.1== -1||x.2.1==p.2.2.1)&&zC9 x.2.2.1 p.1&&zC9 x.2.2.2.1 p.2.1&&inP x.2.2.2.2.1 p.2.2.2.1&&inP x.2.2.2.2.2.1 p.2.2.2.2.1
theorem zL7 (x:Rul) (p:Pkt):zCy (x,p,())=some (zNF x p):=by
 refine zAB ?_
 unfold zCy zNF
 dsimp only
 rw [yH,yH,zKq,zKq]
 generalize zC9 x.2.2.1 p.1=b1
 generalize zC9 x.2.2.2.1 p.2.1=b2
 generalize inP x.2.2.2.2.1 p.2.2.2.1=b3
 generalize inP x.2.2.2.2.2.1 p.2.2.2.2.1=b4
 refine zA (zE (fun h=> ?_) (fun h=>zE (fun h'=> ?_) (fun h'=>zB (zB ?_))))
 ·rw [h]
  cases b1<;>cases b2<;>cases b3<;>cases b4<;>exact ⟨_,rfl,_,rfl,rfl⟩
 ·rw [h,h']
  cases b1<;>cases b2<;>cases b3<;>cases b4<;>exact ⟨_,rfl,_,rfl,rfl⟩
 ·rw [h,h'];rfl
theorem zIc {pk:Pkt} {al:List Bool} (h:zGd pk al) (hp:zSS pk) (x:Rul) (hx:xJ x):zCY x (asg al)=zNF x pk:=by
 obtain ⟨p0,p1,s0,s1,d0,d1⟩:=hp
 obtain ⟨pm,(pr:Int),sw,dw,⟨sl,sh,⟨⟩⟩,⟨dl,dh,⟨⟩⟩,⟨⟩⟩:=x
 obtain ⟨q0,q1,t0,t1,t2,e0,e1,e2⟩:=hx
 simp only at q0 q1 t0 t1 t2 e0 e1 e2
 unfold zCY zNF
 simp only
 obtain ⟨vs,vd,vp,v1,v2,⟨⟩⟩:=pk
 simp only at p0 p1 s0 s1 d0 d1
 have a0:zEk (vs,vd,vp,v1,v2,()) 0=vs:=rfl
 have a1:zEk (vs,vd,vp,v1,v2,()) 1=vd:=rfl
 rw [zMT h (k:=0) (by omega) sw,zMT h (k:=1) (by omega) dw,a0,a1]
 obtain ⟨vp,rfl⟩:=Int.eq_ofNat_of_zero_le p0
 obtain ⟨v1,rfl⟩:=Int.eq_ofNat_of_zero_le s0
 obtain ⟨v2,rfl⟩:=Int.eq_ofNat_of_zero_le d0
 obtain ⟨sl,rfl⟩:=Int.eq_ofNat_of_zero_le t0
 obtain ⟨sh,rfl⟩:=Int.eq_ofNat_of_zero_le (Int.le_trans t0 t1)
 obtain ⟨dl,rfl⟩:=Int.eq_ofNat_of_zero_le e0
 obtain ⟨dh,rfl⟩:=Int.eq_ofNat_of_zero_le (Int.le_trans e0 e1)
 have w2:zEk (vs,vd,(vp:Int),(v1:Int),(v2:Int),()) 2=(vp:Int):=wrap_u32 (x:=(vp:Int)) (by omega) (by omega)
 have w3:zEk (vs,vd,(vp:Int),(v1:Int),(v2:Int),()) 3=(v1:Int):=wrap_u32 (x:=(v1:Int)) (by omega) (by omega)
 have w4:zEk (vs,vd,(vp:Int),(v1:Int),(v2:Int),()) 4=(v2:Int):=wrap_u32 (x:=(v2:Int)) (by omega) (by omega)
 have z2:(2:Nat)^wdF 2=256:=by decide
 have z3:(2:Nat)^wdF 3=65536:=by decide
 have z4:(2:Nat)^wdF 4=65536:=by decide
 rw [zMf h (k:=2) (by omega) _ _ w2 (by omega),zMf h (k:=3) (by omega) _ _ w3 (by omega),zMf h (k:=4) (by omega) _ _ w4 (by omega)]
 simp only [inP,Int.toNat_natCast]
 have g3:decide (sl≤v1∧v1≤sh)=(decide ((sl:Int)≤(v1:Int))&&decide ((v1:Int)≤(sh:Int))):=by
  rw [←Bool.decide_and,decide_eq_decide];omega
 have g4:decide (dl≤v2∧v2≤dh)=(decide ((dl:Int)≤(v2:Int))&&decide ((v2:Int)≤(dh:Int))):=by
  rw [←Bool.decide_and,decide_eq_decide];omega
 rw [g3,g4]
 have g2:(pr== -1||decide (Int.toNat pr≤vp∧vp≤Int.toNat pr))=(pr== -1||pr==(vp:Int)):=by
  by_cases hm: @Eq Int pr (-1)
  ·have:(pr== -1)=true:=by simpa using hm
   rw [this];rfl
  ·congr 1
   rw [Bool.eq_iff_iff,decide_eq_true_eq,beq_iff_eq]
   have hm': ¬pr=(-1:Int):=hm
   clear w2 w3 w4 a0 a1 h
   have hq:((Int.toNat pr:Nat):Int)=pr:=Int.toNat_of_nonneg (by omega)
   constructor
   ·intro hh;show pr=(vp:Int);omega
   ·intro hh
    have hh:pr=(vp:Int):=hh
    omega
 rw [g2]
 generalize (pr== -1||pr==(vp:Int))=b0
 cases b0<;>cases zC9 sw vs<;>cases zC9 dw vd<;>rfl
end Go.Ve

namespace Go.Ve
open Go Go.Proofs Go.Bd Go.Proofs.Bw
set_option maxRecDepth 1000000
set_option maxHeartbeats 4000000
theorem zNo (x:Rul) (p:Pkt):Wp (wS (0,none) (x,p,())) (fun r=>r.2=true):=by
 unfold wS
 dsimp only
 refine zA (zCx.mono ?_)
 rintro ⟨⟨n1,q0⟩,b⟩ ⟨hb,hn⟩
 simp only at hb hn
 subst hb hn
 refine zE (fun hc=>by cases hc) (fun _=> ?_)
 refine zA (Wp.mono (Q:=fun s:Bool×MSt=>s.2=(1,q0)∧(s.1=false→xJ x∧zSS p)) ?_ ?_)
 ·refine zA ((zCV p).mono ?_)
  intro b hb
  refine zE (fun _=>zB ⟨rfl,fun h=>by cases h⟩) (fun hn=> ?_)
  obtain ⟨p0,p1,s0,s1,d0,d1⟩:=hb (by simpa using hn)
  refine zA ((zLo [x] (by show 1≤1048576;omega)).mono ?_)
  intro c hc
  refine zB ⟨rfl,fun h=>⟨hc (by simpa [bne] using h) x List.mem_cons_self,⟨p0,p1,s0,s1,d0,d1⟩⟩⟩
 rintro ⟨b,st⟩ ⟨hst,hT⟩
 simp only at hst hT
 subst hst
 refine zE (fun _=>zB rfl) (fun hb=> ?_)
 obtain ⟨hx,hp⟩:=hT hb
 refine zA (zT zEF ?_)
 dsimp only
 refine zA ((zFo (i:=1) zES rfl x hx (by decide)).mono ?_)
 rintro ⟨st1,f⟩ ⟨q1,hst1,hs1,hf⟩
 simp only at hst1 hf
 subst hst1
 refine zA (Wp.mono (Q:=fun s:Bool×MSt=>s.1=true) ?_ (fun s hs=>zB hs))
 refine zA (zT (zM1 hf rfl) ?_)
 refine zE (fun _=> ?_) (fun h=>by cases h)
 refine zA (zFh rfl hf p ?_)
 intro al ha
 refine zA (zT (zL7 x p) (zB ?_))
 dsimp only
 rw [zIc ha hp x hx]
 exact beq_self_eq_true _
def zJq (v w:Wld):Bool:=((BitVec.ofInt 32 w.2.1&&& ~~~ BitVec.ofInt 32 v.2.1)==0#32)&&zC9 v w.1
def zMH (x y:Ty.El uM):Bool:=decide (@LE.le Int _ x.1 y.1)&&decide (@LE.le Int _ y.2.1 x.2.1)
def zN2 (a b:Rul):Bool:=(a.2.1== -1||a.2.1==b.2.1)&&zJq a.2.2.1 b.2.2.1&&zJq a.2.2.2.1 b.2.2.2.1&&zMH a.2.2.2.2.1 b.2.2.2.2.1&&zMH a.2.2.2.2.2.1 b.2.2.2.2.2.1
theorem zHj (v w:Wld):qW (v,w,())=some (zJq v w):=by
 refine zAB ?_
 unfold qW zJq
 dsimp only
 have e:(IntKind.wrap IntKind.u32 ((BitVec.toNat (BitVec.ofInt (IntKind.bits IntKind.u32) w.2.1&&& ~~~BitVec.ofInt (IntKind.bits IntKind.u32) v.2.1):Nat):Int)==(0:Int))=(BitVec.ofInt 32 w.2.1&&& ~~~ BitVec.ofInt 32 v.2.1==0#32):=bv0 _
 rw [e,yH]
 exact zA (zE (fun h=>⟨_,rfl,_,rfl,by rw [h];rfl⟩) (fun h=>⟨_,rfl,_,rfl,by rw [h];rfl⟩))
theorem zHi (x y:Ty.El uM):wL (x,y,())=some (zMH x y):=by
 refine zAB ?_
 unfold wL zMH
 dsimp only
 exact zA (zE (fun h=>⟨_,rfl,_,rfl,by rw [h];rfl⟩) (fun h=>⟨_,rfl,_,rfl,by rw [h];rfl⟩))
theorem zNk (a b:Rul):zD7 (a,b,())=some (zN2 a b):=by
 refine zAB ?_
 unfold zD7 zN2
 dsimp only
 rw [zHj,zHj,zHi,zHi]
 generalize zJq a.2.2.1 b.2.2.1=b1
 generalize zJq a.2.2.2.1 b.2.2.2.1=b2
 generalize zMH a.2.2.2.2.1 b.2.2.2.2.1=b3
 generalize zMH a.2.2.2.2.2.1 b.2.2.2.2.2.1=b4
 refine zA (zE (fun h=> ?_) (fun h=>zE (fun h'=> ?_) (fun h'=>⟨_,rfl,_,rfl,?_⟩)))
 ·rw [h]
  cases b1<;>cases b2<;>cases b3<;>cases b4<;>exact ⟨_,rfl,_,rfl,rfl⟩
 ·rw [h,h']
  cases b1<;>cases b2<;>cases b3<;>cases b4<;>exact ⟨_,rfl,_,rfl,rfl⟩
 ·rw [h,h'];rfl
theorem zN3 (v w:Wld):zJq v w=true↔ ∀j,j<32→(bt w.2.1 j=true→bt v.2.1 j=true)∧(bt v.2.1 j=true∨bt w.1 j=bt v.1 j):=by
 unfold zJq
 rw [Bool.and_eq_true,zC8,beq_iff_eq]
 constructor
 ·rintro ⟨h1,h2⟩ j hj
  refine ⟨fun hw=> ?_,h2 j hj⟩
  have:=congrArg (fun b=>b.getLsbD j) h1
  simp only [BitVec.getLsbD_and,BitVec.getLsbD_not,hj,decide_true,Bool.true_and,BitVec.getLsbD_zero] at this
  unfold bt at hw ⊢
  rw [hw] at this
  simpa using this
 ·intro h
  refine ⟨?_,fun j hj=>(h j hj).2⟩
  apply BitVec.eq_of_getLsbD_eq
  intro j hj
  have:=(h j hj).1
  unfold bt at this
  simp only [BitVec.getLsbD_and,BitVec.getLsbD_not,hj,decide_true,Bool.true_and,BitVec.getLsbD_zero]
  revert this
  cases (BitVec.ofInt 32 w.2.1).getLsbD j<;>cases (BitVec.ofInt 32 v.2.1).getLsbD j<;>simp
theorem zSq (A:Int) {j:Nat} (hj:j<32): ∃A':Int,bt A' j= !bt A j∧ ∀i,i≠j→bt A' i=bt A i:=by
 refine ⟨((BitVec.ofInt 32 A^^^BitVec.twoPow 32 j).toNat:Int),?_,fun i hi=> ?_⟩
 ·unfold bt
  rw [zBU,BitVec.getLsbD_xor,BitVec.getLsbD_twoPow]
  simp [hj]
 ·unfold bt
  rw [zBU,BitVec.getLsbD_xor,BitVec.getLsbD_twoPow]
  have:(j==i)=false:=by simpa using Ne.symm hi
  simp [Ne.symm hi]
theorem wY (w:Wld):zC9 w w.1=true:=(zC8 w w.1).2 (fun _ _=> .inr rfl)
theorem zMS {k:Nat} {v w:Wld} (h:zJq v w=true) (s:Nat→Bool) (hw:uF k w.1 w.2.1 s=true):uF k v.1 v.2.1 s=true:=by
 rw [zN3] at h
 rw [uF,zNR] at hw ⊢
 intro i b hb
 have hi:i<32:=by
  have:=(List.getElem?_eq_some_iff.1 hb).1
  rwa [kU] at this
 have h1:=hw i b hb
 obtain ⟨h2,h3⟩:=h (31-i) (by omega)
 unfold wq zMm at h1 ⊢
 cases hv:bt v.2.1 (31-i) with
 |true=>rfl
 |false=>
  rw [hv] at h2 h3
  have hwf:bt w.2.1 (31-i)=false:=by
   cases hx:bt w.2.1 (31-i) with
   |false=>rfl
   |true=>exact absurd (h2 hx) (by simp)
  rw [hwf] at h1
  have h3:bt w.1 (31-i)=bt v.1 (31-i):=by simpa using h3
  simp only [Bool.false_eq_true,if_false] at h1 ⊢
  rw [←h3];exact h1
theorem zLu {k:Nat} {x y:Ty.El uM} (h:zMH x y=true) (s:Nat→Bool) (hy:rF k y.1.toNat y.2.1.toNat s=true):rF k x.1.toNat x.2.1.toNat s=true:=by
 unfold zMH at h
 simp only [Bool.and_eq_true,decide_eq_true_eq] at h
 unfold rF at hy ⊢
 rw [decide_eq_true_eq] at hy ⊢
 obtain ⟨h1,h2⟩:=h
 have e1:x.1.toNat≤y.1.toNat:=Int.toNat_le_toNat h1
 have e2:y.2.1.toNat≤x.2.1.toNat:=Int.toNat_le_toNat h2
 exact ⟨Nat.le_trans e1 hy.1,Nat.le_trans hy.2 e2⟩
theorem zSC {a b:Rul} (h:zN2 a b=true) (s:Nat→Bool) (hb:zCY b s=true):zCY a s=true:=by
 unfold zN2 at h
 simp only [Bool.and_eq_true] at h
 obtain ⟨⟨⟨⟨h0,h1⟩,h2⟩,h3⟩,h4⟩:=h
 unfold zCY at hb ⊢
 simp only [Bool.and_eq_true] at hb ⊢
 obtain ⟨⟨⟨⟨b1,b2⟩,b0⟩,b3⟩,b4⟩:=hb
 refine ⟨⟨⟨⟨zMS h1 s b1,zMS h2 s b2⟩,?_⟩,zLu h3 s b3⟩,zLu h4 s b4⟩
 rw [Bool.or_eq_true] at h0
 rcases h0 with h0|h0
 ·rw [h0];rfl
 ·have e:a.2.1=b.2.1:=by simpa using h0
  rw [e];exact b0
theorem zN1 {a b:Rul} (ha:xJ a) (hb:xJ b) (h: ∀p:Pkt,zSS p→zNF b p=true→zNF a p=true):zN2 a b=true:=by
 obtain ⟨pma,(pa:Int),sa,da,⟨(sal:Int),(sah:Int),⟨⟩⟩,⟨(dal:Int),(dah:Int),⟨⟩⟩,⟨⟩⟩:=a
 obtain ⟨pmb,(pb:Int),sb,db,⟨(sbl:Int),(sbh:Int),⟨⟩⟩,⟨(dbl:Int),(dbh:Int),⟨⟩⟩,⟨⟩⟩:=b
 obtain ⟨a0,a1,a2,a3,a4,a5,a6,a7⟩:=ha
 obtain ⟨b0,b1,b2,b3,b4,b5,b6,b7⟩:=hb
 simp only at a0 a1 a2 a3 a4 a5 a6 a7 b0 b1 b2 b3 b4 b5 b6 b7
 have key: ∀ (s d q u v:Int),zC9 sb s=true→zC9 db d=true→(pb= -1∨pb=q)→0≤q→q≤255→sbl≤u→u≤sbh→dbl≤v→v≤dbh→
   (pa= -1∨pa=q)∧zC9 sa s=true∧zC9 da d=true∧(sal≤u∧u≤sah)∧(dal≤v∧v≤dah):=by
  intro s d q u v hs hd hq q0 q1 u0 u1 v0 v1
  have hm:=h (s,d,q,u,v,()) ⟨q0,q1,Int.le_trans b2 u0,Int.le_trans u1 b4,Int.le_trans b5 v0,Int.le_trans v1 b7⟩ (by
   unfold zNF inP
   simp only [Bool.and_eq_true,Bool.or_eq_true,decide_eq_true_eq,beq_iff_eq]
   exact ⟨⟨⟨⟨hq,hs⟩,hd⟩,u0,u1⟩,v0,v1⟩)
  unfold zNF inP at hm
  simp only [Bool.and_eq_true,Bool.or_eq_true,decide_eq_true_eq,beq_iff_eq] at hm
  obtain ⟨⟨⟨⟨m0,m1⟩,m2⟩,m3⟩,m4⟩:=hm
  exact ⟨m0,m1,m2,m3,m4⟩
 obtain ⟨q,hq,q0,q1⟩: ∃q:Int,(pb= -1∨pb=q)∧0≤q∧q≤255:=by
  by_cases hp:pb= -1
  ·exact ⟨0, .inl hp,by omega,by omega⟩
  ·exact ⟨pb, .inr rfl,by omega,b1⟩
 have hadr: ∀ {va wa:Wld},(∀s,zC9 wa s=true→zC9 va s=true)→zJq va wa=true:=by
  intro va wa hh
  rw [zN3]
  intro j hj
  have e0:=(zC8 va wa.1).1 (hh wa.1 (wY wa)) j hj
  refine ⟨fun hw=> ?_,e0⟩
  obtain ⟨A',f1,f2⟩:=zSq wa.1 hj
  have hA:zC9 wa A'=true:=(zC8 wa A').2 (fun i hi=>by
   by_cases hij:i=j
   ·subst hij;exact .inl hw
   ·exact .inr (f2 i hij))
  have e1:=(zC8 va A').1 (hh A' hA) j hj
  cases hv:bt va.2.1 j with
  |true=>rfl
  |false=>
   rw [hv] at e0 e1
   have e0:bt wa.1 j=bt va.1 j:=by simpa using e0
   have e1:bt A' j=bt va.1 j:=by simpa using e1
   rw [f1, ←e0] at e1
   revert e1
   cases bt wa.1 j<;>simp
 have c1:zJq sa sb=true:=hadr (fun s hs=>(key s db.1 q sbl dbl hs (wY db) hq q0 q1 (Int.le_refl _) b3 (Int.le_refl _) b6).2.1)
 have c2:zJq da db=true:=hadr (fun d hd=>(key sb.1 d q sbl dbl (wY sb) hd hq q0 q1 (Int.le_refl _) b3 (Int.le_refl _) b6).2.2.1)
 have k1:=key sb.1 db.1 q sbl dbl (wY sb) (wY db) hq q0 q1 (Int.le_refl _) b3 (Int.le_refl _) b6
 have k2:=key sb.1 db.1 q sbh dbh (wY sb) (wY db) hq q0 q1 b3 (Int.le_refl _) b6 (Int.le_refl _)
 have c0:pa= -1∨pa=pb:=by
  by_cases hp:pb= -1
  ·have k3:=(key sb.1 db.1 0 sbl dbl (wY sb) (wY db) (.inl hp) (by omega) (by omega) (Int.le_refl _) b3 (Int.le_refl _) b6).1
   have k4:=(key sb.1 db.1 1 sbl dbl (wY sb) (wY db) (.inl hp) (by omega) (by omega) (Int.le_refl _) b3 (Int.le_refl _) b6).1
   omega
  ·have k3:=(key sb.1 db.1 pb sbl dbl (wY sb) (wY db) (.inr rfl) (by omega) b1 (Int.le_refl _) b3 (Int.le_refl _) b6).1
   exact k3
 unfold zN2 zMH
 simp only [Bool.and_eq_true,Bool.or_eq_true,decide_eq_true_eq,beq_iff_eq]
 exact ⟨⟨⟨⟨c0,c1⟩,c2⟩,k1.2.2.2.1.1,k2.2.2.2.1.2⟩,k1.2.2.2.2.1,k2.2.2.2.2.2⟩
theorem zTE {a b:Rul} (ha:xJ a) (hb:xJ b):(∀s,(zCY b s&& !zCY a s)=false)↔zN2 a b=true:=by
 constructor
 ·intro h
  refine zN1 ha hb (fun p hp hm=> ?_)
  obtain ⟨al,_,hal⟩:=zIQ p p
  have:=h (asg al)
  rw [zIc hal hp a ha,zIc hal hp b hb,hm] at this
  simpa using this
 ·intro h s
  cases hb:zCY b s with
  |false=>rfl
  |true=>rw [zSC h s hb];rfl
theorem zMG (a b:Rul):Wp (wF (0,none) (a,b,())) (fun r=>r.2=true):=by
 unfold wF
 dsimp only
 refine zA (zCx.mono ?_)
 rintro ⟨⟨n1,q0⟩,bw⟩ ⟨hw,hn⟩
 simp only at hw hn
 subst hw hn
 refine zE (fun hc=>by cases hc) (fun _=> ?_)
 refine zA ((zLo [a,b] (by show 2≤1048576;omega)).mono ?_)
 intro c hc
 refine zE (fun _=>zB rfl) (fun h0=> ?_)
 have hab:=hc (by simpa [bne] using h0)
 have ha:xJ a:=hab a List.mem_cons_self
 have hb:xJ b:=hab b (List.mem_cons_of_mem _ List.mem_cons_self)
 refine zA (zT zEF ?_)
 dsimp only
 have z:zC7.S.ns.length=0:=rfl
 have hcR:cR=400000:=rfl
 refine zA ((zFo (i:=1) zES rfl a ha (by decide)).mono ?_)
 rintro ⟨st1,f⟩ ⟨q1,hst1,hs1,hf⟩
 simp only at hst1 hf
 subst hst1
 have c1:=hs1.cnt
 refine zA ((zFo (i:=1) hs1.ok rfl b hb (by show _+400000≤5864062014000;omega)).mono ?_)
 rintro ⟨st2,g⟩ ⟨q2,hst2,hs2,hg⟩
 simp only at hst2 hg
 subst hst2
 have c2:=hs2.cnt
 have hf2:=hf.step hs1.ok hs2
 refine zA (Wp.mono (Q:=fun s:Bool×MSt=>s.1=true) ?_ (fun s hs=>zB hs))
 refine zA (zT (zM1 hf2 rfl) ?_)
 refine zE (fun _=> ?_) (fun h=>by cases h)
 refine zA (zT (zNk a b) ?_)
 refine zA (zH2 hs2.ok rfl hf2 4 ((zJs a).wd.comp not) (by show _≤5864062014000;omega) ?_)
 intro q3 y3 hs3 hy3
 have c3:=hs3.cnt
 refine zA (xB hs3.ok rfl (hg.step hs2.ok hs3) hy3 (4*4) (((zJs b).wd.prod (zJs a).wd).comp (fun q=>q.1&& !q.2)) (by show _≤5864062014000;omega) ?_)
 intro q4 y4 hs4 hy4
 refine zB ?_
 dsimp only
 have he:(y4==(0:Int))=zN2 a b:=by
  rw [Bool.eq_iff_iff,beq_iff_eq, ←zTE ha hb]
  exact Rp.eq hs4.ok hy4 (Rp.f0 hs4.ok)
 rw [he]
 exact beq_self_eq_true _
end Go.Ve

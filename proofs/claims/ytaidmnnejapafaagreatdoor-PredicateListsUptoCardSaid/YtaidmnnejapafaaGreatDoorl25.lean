/-
  law31, plain: how many nodes a chain of tests has; the fixed sanity check.
  law31, plain: the sanity check holds; PredicatePartition.
  law31, plain: PredicateTables.
  law31, plain: PredicateRules and PredicateCovers.
-/
import Derived.Test.YtaidmnnejapafaaGreatDoorl24
import Derived.Test.YtaidmnnejapafaaGreatDoorl23
set_option linter.unusedVariables false
namespace Go.Ve
open Go Go.Proofs Go.Bd Go.Proofs.Bw
set_option maxRecDepth 1000000
set_option maxHeartbeats 4000000
def chF:List (Nat×Bool)→(Nat→Bool)→Bool
 |[],_=>true
 |(v,c)::l,a=>(a v==c)&&chF l a
def Inc:Nat→List (Nat×Bool)→Prop
 |_,[]=>True
 |u,(v,_)::l=>u≤v∧v<220∧Inc (v+1) l
theorem zGL: ∀ {l:List (Nat×Bool)} {u:Nat},Inc u l→ ∀a b:Nat→Bool,(∀v,u≤v→a v=b v)→chF l a=chF l b
 |[],_,_,_,_,_=>rfl
 |(v,c)::l,u,h,a,b,hab=>by
  obtain ⟨h1,_,h2⟩:=h
  simp only [chF]
  rw [hab v h1,zGL h2 a b (fun w hw=>hab w (by omega))]
theorem zO9: ∀ {l:List (Nat×Bool)} {u:Nat},Inc u l→ ∃a,chF l a=true
 |[],_,_=>⟨fun _=>false,rfl⟩
 |(v,c)::l,u,h=>by
  obtain ⟨_,_,h2⟩:=h
  obtain ⟨a,ha⟩:=zO9 h2
  refine ⟨upd a v c,?_⟩
  simp only [chF,upd_same,beq_self_eq_true,Bool.true_and]
  rw [zGL h2 (upd a v c) a (fun w hw=>upd_ne a c (by omega))]
  exact ha
theorem zFS {ns:List Nd} (W:Wf 220 ns): ∀ (l:List (Nat×Bool)) (u:Nat),Inc u l→ ∀ (r:Nat),r<ns.length+2→(∀a,den ns r a=chF l a)→ ∀ (k:Nat),r<k→ ∀seen:List Nat,(∀s,s∈seen→r<s)→
  (wkF ns k r seen).length=seen.length+l.length
 |[],_,_,r,hr,hd,k,hk,seen,hs=>by
  have:r=1:=W.canon hr (by omega) (fun a=>by rw [hd,wT (by omega)];rfl)
  subst this
  obtain ⟨k,rfl⟩: ∃j,k=j+1:=⟨k-1,by omega⟩
  simp [wkF]
 |(v,c)::l,u,hI,r,hr,hd,k,hk,seen,hs=>by
  obtain ⟨h1,h220,h2⟩:=hI
  obtain ⟨k,rfl⟩: ∃j,k=j+1:=⟨k-1,by omega⟩
  obtain ⟨a0,ha0⟩:=zO9 h2
  have hdep: ∀b,chF l (upd a0 v b)=true:=fun b=>by rw [zGL h2 (upd a0 v b) a0 (fun w hw=>upd_ne a0 b (by omega))];exact ha0
  have hv1: ∀b,den ns r (upd a0 v b)=(b==c):=fun b=>by rw [hd,chF,upd_same,hdep,Bool.and_true]
  rcases jH ns hr with hlow|⟨i,x,rfl,hx⟩
  ·exfalso
   have e1:=hv1 c
   have e2:=hv1 (!c)
   rw [wT hlow] at e1 e2
   rw [e1] at e2
   revert e2;cases c<;>simp
  ·have hi:=(List.getElem?_eq_some_iff.1 hx).1
   have hlo:=W.lo hx
   have hhi:=W.hi hx
   have hle:v≤x.1:=by
    have:=zLi W hr (u:=v) (by omega) (fun w hw a b=>by
     rw [hd,hd]
     refine zGL (l:=(v,c)::l) (u:=v) ⟨Nat.le_refl _,h220,h2⟩ _ _ (fun z hz=>upd_ne a b (by omega)))
    rwa [wI hx] at this
   have hv:x.1=v:=by
    rcases Nat.lt_or_ge v x.1 with hlt|hge
    ·exfalso
     have e1:=hv1 c
     have e2:=hv1 (!c)
     rw [uM W hr (by rw [wI hx];exact hlt)] at e1 e2
     rw [e1] at e2
     revert e2;cases c<;>simp
    ·omega
   subst hv
   have hhalf: ∀b a,den ns (if b then x.2.2 else x.2.1) a=((b==c)&&chF l a):=fun b a=>by
    rw [←xQ W hx b a,hd,chF,upd_same,zGL h2 (upd a x.1 b) a (fun w hw=>upd_ne a b (by omega))]
   have hwk:wkF ns (k+1) (i+2) seen=wkF ns k x.2.2 (wkF ns k x.2.1 (seen++[i+2])):=by
    simp only [wkF]
    rw [if_neg (by omega),if_neg (fun hm=>by have:=hs _ hm;omega),show i+2-2=i by omega,hx]
   have hseen: ∀s,s∈seen++[i+2]→i+2≤s:=fun s hm=>by
    rcases List.mem_append.1 hm with hm|hm
    ·have:=hs s hm;omega
    ·rw [List.mem_singleton] at hm;omega
   rw [hwk]
   cases c with
   |true=>
    have l0:x.2.1=0:=W.canon (by omega) (by omega) (fun a=>by
     have:=hhalf false a
     simp only [Bool.false_eq_true,if_false] at this
     rw [this,wT (by omega)];rfl)
    have w0:wkF ns k x.2.1 (seen++[i+2])=seen++[i+2]:=by
     rw [l0]
     cases k with
     |zero=>rfl
     |succ k=>simp [wkF]
    rw [w0,zFS W l (x.1+1) h2 x.2.2 (by omega) (fun a=>by
     have:=hhalf true a
     simp only [if_true] at this
     rw [this];rfl) k (by omega) _ (fun s hm=>by have:=hseen s hm;omega)]
    simp only [List.length_append,List.length_cons,List.length_nil]
    omega
   |false=>
    have l0:x.2.2=0:=W.canon (by omega) (by omega) (fun a=>by
     have:=hhalf true a
     simp only [if_true] at this
     rw [this,wT (by omega)];rfl)
    have w0: ∀sn,wkF ns k x.2.2 sn=sn:=fun sn=>by
     rw [l0]
     cases k with
     |zero=>rfl
     |succ k=>simp [wkF]
    rw [w0,zFS W l (x.1+1) h2 x.2.1 (by omega) (fun a=>by
     have:=hhalf false a
     simp only [Bool.false_eq_true,if_false] at this
     rw [this];rfl) k (by omega) _ (fun s hm=>by have:=hseen s hm;omega)]
    simp only [List.length_append,List.length_cons,List.length_nil]
    omega
theorem zOE {p:Pub} {nx i:Nat} {f:Int} {l:List (Nat×Bool)} {Q:MSt×Int→Prop} (hp:POk p) (hi:i+1=nx) (hI:Inc 0 l) (hl:l.length≤1000) (hf:Rp p f (chF l)) (hq:Q ((nx,some p),(l.length:Int))):
  Wp (zDj (nx,some p) (i,f,())) Q:=by
 have hv:=hf.val
 obtain ⟨k,rfl,h1,h2⟩:=hf
 have hw:=zFS hp.ok.ok.wf l 0 hI k (hp.lt h1) h2 (k+1) (by omega) [] (fun s hs=>by cases hs)
 rw [List.length_nil,Nat.zero_add] at hw
 refine ⟨_,?_,hq⟩
 show zIM (nx,some p) i (k:Int)=_
 simp only [zIM,hi,hv,Int.toNat_natCast,hw,decide_true,Bool.true_and,decide_eq_true_eq]
 rw [if_pos (by omega)]
theorem zHQ (x:Ty.El zI) (a:Nat→Bool):zFs x a=fits (wq x.1 ((BitVec.allOnes 32^^^zAS (kU x.2.1)).toNat:Int)) (Bd.bits (fv 1) 32 a):=rfl
theorem zHr (q:Nat→Option Bool) (l:List Bool) (h: ∀i,i<l.length→q i=none):fits q l=true:=by
 rw [fits,List.all_eq_true]
 intro i hi
 rw [List.mem_range] at hi
 rw [h i hi]
theorem zFJ: ∀ (m j:Nat) (p:Nat→Nat) (q:Nat→Option Bool) (c:Nat→Bool) (w:Nat) (a:Nat→Bool),m≤w→(∀i,i<m→q i=some (c i))→(∀i,m≤i→i<w→q i=none)→
  fits q (Bd.bits p w a)=chF ((List.range m).map (fun i=>(p i,c i))) a
 |0,j,p,q,c,w,a,hm,h1,h2=>by
  rw [zHr q _ (fun i hi=>h2 i (Nat.zero_le _) (by rwa [kN] at hi))]
  rfl
 |m+1,j,p,q,c,w,a,hm,h1,h2=>by
  obtain ⟨w,rfl⟩: ∃z,w=z+1:=⟨w-1,by omega⟩
  rw [zHH,zKI,List.range_succ_eq_map,List.map_cons,List.map_map,chF,h1 0 (by omega)]
  rw [zFJ m j (fun i=>p (i+1)) (fun i=>q (i+1)) (fun i=>c (i+1)) w a (by omega) (fun i hi=>h1 (i+1) (by omega)) (fun i hi hi'=>h2 (i+1) (by omega) (by omega))]
  rfl
abbrev awT:List Fwd:=[(((0:Int),(0:Int),()),[],true,()),(((167772160:Int),(8:Int),()),[((0:Int),(0:Int),())],false,())]
theorem zOo:zPd awT where
 len:=by decide
 val x hx:=by
  rcases List.mem_cons.1 hx with rfl|hx
  ·decide+kernel
  ·rcases List.mem_cons.1 hx with rfl|hx
   ·decide+kernel
   ·cases hx
 hops x hx:=by
  rcases List.mem_cons.1 hx with rfl|hx
  ·decide
  ·rcases List.mem_cons.1 hx with rfl|hx
   ·decide
   ·cases hx
 so i x y hx hy:=by
  cases i with
  |zero=>cases hx;cases hy;exact .inl (by decide)
  |succ i=>cases i with
   |zero=>cases hy
   |succ i=>cases hx
abbrev zQ7:Ty.El zI:=((0:Int),(0:Int),())
abbrev zI0:Ty.El zI:=((167772160:Int),(8:Int),())
theorem zMl (a:Nat→Bool):zFs zQ7 a=true:=by
 rw [zHQ]
 refine zHr _ _ (fun i hi=> ?_)
 rw [kN] at hi
 have: ∀i,i<32→wq zQ7.1 ((BitVec.allOnes 32^^^zAS (kU zQ7.2.1)).toNat:Int) i=none:=by decide+kernel
 exact this i hi
abbrev ch8:List (Nat×Bool):=(List.range 8).map (fun i=>(fv 1 i,(10:Nat).testBit (7-i)))
theorem zFt (a:Nat→Bool):zFs zI0 a=chF ch8 a:=by
 rw [zHQ]
 have h1: ∀i,i<8→wq zI0.1 ((BitVec.allOnes 32^^^zAS (kU zI0.2.1)).toNat:Int) i=some ((10:Nat).testBit (7-i)):=by decide+kernel
 have h2: ∀i,i<32→8≤i→wq zI0.1 ((BitVec.allOnes 32^^^zAS (kU zI0.2.1)).toNat:Int) i=none:=by decide+kernel
 exact zFJ 8 0 (fv 1) _ (fun i=>(10:Nat).testBit (7-i)) 32 a (by omega) h1 (fun i hi hi'=>h2 i hi' hi)
theorem zSZ:Inc 0 ch8:=by
 simp only [ch8,show List.range 8=[0,1,2,3,4,5,6,7] from rfl,List.map_cons,List.map_nil,Inc]
 decide
abbrev awR:Ty.El qY:=(true,(6:Int),((0:Int),(4294967295:Int),()),((0:Int),(4294967295:Int),()),((0:Int),(65535:Int),()),((0:Int),(65535:Int),()),())
theorem zT7:zBw awR:=⟨by decide,by decide,by decide,by decide,by decide,by decide,by decide,by decide⟩
abbrev ch6:List (Nat×Bool):=(List.range 8).map (fun i=>(fv 2 i,(6:Nat).testBit (7-i)))
theorem zS0:Inc 0 ch6:=by
 simp only [ch6,show List.range 8=[0,1,2,3,4,5,6,7] from rfl,List.map_cons,List.map_nil,Inc]
 decide
theorem zQm (k:Nat) (a:Nat→Bool):uP k 0 4294967295 a=true:=by
 refine zHr _ _ (fun i hi=> ?_)
 rw [kN] at hi
 have: ∀i,i<32→wq 0 4294967295 i=none:=by decide+kernel
 exact this i hi
theorem zQ2 {k:Nat} (hk:wdF k=16) (a:Nat→Bool):rF k 0 65535 a=true:=by
 have:=zHn (Bd.bits (fv k) (wdF k) a)
 rw [kN,hk] at this
 rw [rF,decide_eq_true_eq,hk]
 exact ⟨Nat.zero_le _,by omega⟩
theorem zUC: ∀l:List Bool,l.length=8→decide (6≤num l∧num l≤6)=fits (fun i=>some ((6:Nat).testBit (7-i))) l:=by
 intro l hl
 match l,hl with
 |[b0,b1,b2,b3,b4,b5,b6,b7],_=>revert b0 b1 b2 b3 b4 b5 b6 b7;decide
theorem zQe (a:Nat→Bool):zHO awR a=chF ch6 a:=by
 unfold zHO
 simp only [zQm]
 have e3:rF 3 (Int.toNat 0) (Int.toNat 65535) a=true:=zQ2 rfl a
 have e4:rF 4 (Int.toNat 0) (Int.toNat 65535) a=true:=zQ2 rfl a
 rw [e3,e4]
 have e2:rF 2 (Int.toNat 6) (Int.toNat 6) a=chF ch6 a:=by
  show decide (6≤num (Bd.bits (fv 2) 8 a)∧num (Bd.bits (fv 2) 8 a)≤6)=_
  rw [zUC _ (kN _ _ _)]
  exact zFJ 8 0 (fv 2) _ (fun i=>(6:Nat).testBit (7-i)) 8 a (by omega) (fun i hi=>rfl) (fun i hi hi'=>by omega)
 rw [e2]
 simp
end Go.Ve

namespace Go.Ve
open Go Go.Proofs Go.Bd Go.Proofs.Bw
set_option maxRecDepth 1000000
set_option maxHeartbeats 4000000
theorem zPc:zF1 awT 33=[1,0]:=by decide+kernel
theorem zI4 (pk:Nat→Bool) (a:Nat→Bool):zQ8 awT pk a=if zFs zI0 a then pk 1 else pk 0:=by
 unfold zQ8 zDu
 rw [zPc]
 have e:vec awT a=[zFs zQ7 a,zFs zI0 a]:=rfl
 rw [e,zMl]
 cases h:zFs zI0 a<;>simp [List.find?]
theorem zQ1 (a:Nat→Bool):zTE awT a=false:=by
 unfold zTE zAR
 rw [zPc]
 have e:vec awT a=[zFs zQ7 a,zFs zI0 a]:=rfl
 rw [e,zMl]
 cases h:zFs zI0 a<;>simp [List.find?]
theorem zM6:Wp (zAp (0,none) ()) (fun r=>r.2=true∧r.1.1=1):=by
 unfold zAp
 refine zB (jR zMa ?_)
 dsimp only
 rw [show zBP ()=some ((0:Int),(4294967295:Int),()) from rfl,show zED ()=some ((0:Int),(65535:Int),()) from rfl]
 simp only [Option.bind_some,Nat.zero_add]
 refine zB ((zKm (i:=0) zMt rfl awR zT7 (by decide)).mono ?_)
 rintro ⟨st1,f1⟩ ⟨q1,hst1,hs1,h1⟩
 simp only at hst1 h1
 subst hst1
 have c1:=hs1.cnt
 have z:zJe.S.ns.length=0:=rfl
 have hcR:cR=400000:=rfl
 have hcD:cD=1467000000:=rfl
 have h1:Rp q1 f1 (chF ch6):=h1.congr zQe
 refine zB (zPi hs1.ok rfl zOo _ (by show _≤5864062014000;omega) ?_)
 intro q2 f2 hs2 h2
 have c2:=hs2.cnt
 have h2:Rp q2 f2 (chF ch8):=h2.congr (fun a=>by
  rw [zI4,zFt]
  have e1:atE awT (qR ((0:Int),(0:Int),())) 1=true:=by decide
  have e0:atE awT (qR ((0:Int),(0:Int),())) 0=false:=by decide
  rw [e1,e0]
  cases chF ch8 a<;>rfl)
 refine zB (Wp.mono (Q:=fun s:Bool×MSt=>s.1=true∧s.2.1=1) ?_ (fun s hs=>zA ⟨hs.1,hs.2⟩))
 refine zB (zOE hs2.ok rfl zS0 (by decide) (h1.step hs1.ok hs2) ?_)
 dsimp only
 refine zG (fun _=> ?_) (fun hc=>absurd hc (by decide))
 refine zB (zOE hs2.ok rfl zSZ (by decide) h2 ?_)
 dsimp only
 refine zG (fun _=> ?_) (fun hc=>absurd hc (by decide))
 refine zB (zSg hs2.ok rfl zOo (by show _≤5864062014000;omega) ?_)
 intro q3 f3 hs3 h3
 have c3:=hs3.cnt
 dsimp only
 refine zB (zIA hs3.ok rfl (h2.step hs2.ok hs3) 4096 (by
  have:=zG2 (t:=awT) (by decide) (fun v=> !v.getD 1 false)
  refine cast ?_ this
  congr 1
  funext a
  rw [←zFt]
  rfl) (by show _≤5864062014000;omega) ?_)
 intro q4 f4 hs4 h4
 have c4:=hs4.cnt
 dsimp only
 have h34:f3=f4:=(Rp.eq hs4.ok (h3.step hs3.ok hs4) h4).2 (fun a=>by
  rw [zI4,zFt]
  have e1:atE awT qD 1=false:=by decide
  have e0:atE awT qD 0=true:=by decide
  rw [e1,e0]
  cases chF ch8 a<;>rfl)
 refine zG (fun _=> ?_) (fun hc=>by rw [h34] at hc;simp at hc)
 refine zB (zTv hs4.ok rfl zOo (by show _≤5864062014000;omega) ?_)
 intro q5 f5 hs5 h5
 have h50:f5=0:=(Rp.eq hs5.ok h5 (Rp.f0 hs5.ok)).2 (fun a=>by
  rw [zI4,zQ1]
  have e1:atE awT qU 1=false:=by decide
  have e0:atE awT qU 0=false:=by decide
  rw [e1,e0]
  cases zFs zI0 a<;>rfl)
 refine zA ⟨?_,rfl⟩
 dsimp only
 rw [h50]
 rfl
end Go.Ve

namespace Go.Ve
open Go Go.Proofs Go.Bd Go.Proofs.Bw
set_option maxRecDepth 1000000
set_option maxHeartbeats 4000000
theorem zG9 (p:Pkt):Wp (yF (p,())) (fun b=>b=true→(0:Int)≤p.2.2.1∧ @LE.le Int _ p.2.2.1 255∧(0:Int)≤p.2.2.2.1∧ @LE.le Int _ p.2.2.2.1 65535∧(0:Int)≤p.2.2.2.2.1∧ @LE.le Int _ p.2.2.2.2.1 65535):=by
 have hin: ∀ (lo hi n:Int),jO ((lo,hi,()),n,())=some (decide (lo≤n)&&decide (n≤hi)):=by
  intro lo hi n
  unfold jO
  dsimp only
  by_cases h:lo≤n<;>simp [h]
 unfold yF
 dsimp only
 refine zB (Wp.mono (Q:=fun b=>b=true→(0:Int)≤p.2.2.1∧ @LE.le Int _ p.2.2.1 255∧(0:Int)≤p.2.2.2.1∧ @LE.le Int _ p.2.2.2.1 65535∧(0:Int)≤p.2.2.2.2.1∧ @LE.le Int _ p.2.2.2.2.1 65535) ?_ (fun b hb=>zA hb))
 refine zJ (fun h1=> ?_) (fun _=>zA (fun h=>by cases h))
 refine zJ (fun h2=> ?_) (fun _=>zA (fun h=>by cases h))
 rw [hin,hin]
 refine zB (zA ?_)
 refine zG (fun h3=>zB (zA (zA (fun h4=> ?_)))) (fun _=>zA (fun h=>by cases h))
 simp only [Bool.and_eq_true,decide_eq_true_eq] at h3 h4
 exact ⟨h1,h2,h3.1,h3.2,h4.1,h4.2⟩
end Go.Ve



/-
  law31, plain: masks, prefixes, bits.
  law31, plain: operations on sets of packets; wildcards and prefixes as sets.
  law31, plain: ranges and rules as sets.
  law31, plain: packets as assignments, and what a set says of them.
  law31, plain: the checks of a router always answer.
  law31, plain: what a checked router's access lists are.
  law31, plain: which packets a rule matches; which rules cover which.
  law31, plain: the longest match of a table as a set.
  law31, plain: the sets of entries, hops and decisions; forwarding tables.
-/
import Derived.Test.YtaidmnnejapafaaGreatDoorl10
import Derived.Test.YtaidmnnejapafaaGreatDoorl23
set_option linter.unusedVariables false
namespace Go.Ve
open Go
set_option maxRecDepth 1000000
set_option maxHeartbeats 4000000
theorem zGZ {α:Type} {m:Option α} {x:α} (h:Wp m (fun r=>r=x)):m=some x:=by
 obtain ⟨r,h1,rfl⟩:=h;exact h1
def zUz (a b c d:Int):Prop:=a<c∨(a=c∧b<d)
def plt (p q:Ty.El zI):Prop:=zUz p.1 p.2.1 q.1 q.2.1
def kU (n:Int):Nat:=min n.toNat 32
def zAS (k:Nat):BitVec 32:=BitVec.allOnes 32<<< (32-k)
theorem zP7 (n:Int):kU n≤32:=Nat.min_le_right _ _
theorem wrap_u32 {x:Int} (h0:0≤x) (h1:x<4294967296):IntKind.wrap .u32 x=x:=by
 have e1:((2:Int)^IntKind.bits .u32)=4294967296:=by decide
 simp only [IntKind.wrap,IntKind.signed,Bool.false_and,Bool.false_eq_true,if_false,e1]
 omega
theorem zEn (x:BitVec 32):IntKind.wrap .u32 (x.toNat:Int)=(x.toNat:Int):=wrap_u32 (by omega) (by have:=x.isLt;omega)
theorem zGv (x:BitVec 32):BitVec.ofInt 32 (x.toNat:Int)=x:=by
 rw [BitVec.ofInt_natCast,BitVec.ofNat_toNat,BitVec.setWidth_eq]
theorem zLE: ∀k,k<33→IntKind.wrap .u32 (4294967295*2^min (32-k) 32)=((zAS k).toNat:Int):=by decide+kernel
theorem zRV (n:Int):(if (if (32:Int)<n then (32:Int) else n)>(0:Int) then if (32:Int)<n then (32:Int) else n else (0:Int))=(kU n:Int):=by
 unfold kU
 split<;>split<;>omega
theorem xE (n:Int):yW (n,())=some ((zAS (kU n)).toNat:Int):=by
 have hle:=zP7 n
 unfold yW zBu
 simp only [zRV,Option.bind_some]
 rw [wrap_i64 (by omega) (by omega)]
 have h0:(0:Int)≤32- ((kU n:Nat):Int):=by omega
 simp only [h0,decide_true,cond_true]
 rw [show ((32:Int) - ((kU n:Nat):Int)).toNat=32-kU n by omega]
 exact congrArg some (zLE _ (by omega))
def zUo (p:Ty.El zI) (a:Int):Bool:=(((BitVec.ofInt 32 a&&&zAS (kU p.2.1)).toNat:Nat):Int)==p.1
theorem zT9 (a:Int) (k:Nat):IntKind.wrap .u32 (((BitVec.ofInt (IntKind.bits .u32) a&&&BitVec.ofInt (IntKind.bits .u32) ((zAS k).toNat:Int)).toNat:Nat):Int)=((BitVec.ofInt 32 a&&&zAS k).toNat:Int):=by
 change IntKind.wrap .u32 (((BitVec.ofInt 32 a&&&BitVec.ofInt 32 ((zAS k).toNat:Int)).toNat:Nat):Int)=_
 rw [zGv,zEn]
theorem zFn (p:Ty.El zI) (a:Int):yB (p,a,())=some (zUo p a):=by
 refine zGZ ?_
 unfold yB
 dsimp only
 refine zB (jR (xE _) (zA ?_))
 rw [zT9]
 rfl
def zID (p:Ty.El zI):Bool:=decide (p.2.1≥0)&&(decide (p.2.1≤32)&&(BitVec.ofInt 32 p.1&&& ~~~ zAS (kU p.2.1))==0#32)
theorem zDs (p:Ty.El zI):jZ (p,())=some (zID p):=by
 refine zGZ ?_
 unfold jZ zID
 dsimp only
 refine zB (zG (fun h=>zG (fun h'=>zB (jR (xE _) (zA (zA ?_)))) (fun h'=>zA (zA ?_))) (fun h=>zA (zA ?_)))
 ·rw [h,h']
  simp only [Bool.true_and]
  change (IntKind.wrap .u32 (((BitVec.ofInt 32 p.1&&& ~~~ BitVec.ofInt 32 ((zAS (kU p.2.1)).toNat:Int)).toNat:Nat):Int)==(0:Int))=_
  rw [zGv,zEn,Bool.eq_iff_iff,beq_iff_eq,beq_iff_eq]
  constructor
  ·intro h
   apply BitVec.eq_of_toNat_eq
   simp only [BitVec.toNat_ofNat]
   omega
  ·intro h
   rw [h];rfl
 ·rw [h,h'];rfl
 ·rw [h];rfl
def bt (x:Int) (k:Nat):Bool:=(BitVec.ofInt 32 x).getLsbD k
theorem zSW (x:Int) {k:Nat} (hk:k<32):(x%4294967296) / 2^k%2=x / 2^k%2:=by
 rcases (by omega:k=0∨k=1∨k=2∨k=3∨k=4∨k=5∨k=6∨k=7∨k=8∨k=9∨k=10∨k=11∨k=12∨k=13∨k=14∨k=15∨k=16∨k=17∨k=18∨k=19∨k=20∨k=21∨k=22∨k=23∨k=24∨k=25∨k=26∨k=27∨k=28∨k=29∨k=30∨k=31) with rfl|rfl|rfl|rfl|rfl|rfl|rfl|rfl|rfl|rfl|rfl|rfl|rfl|rfl|rfl|rfl|rfl|rfl|rfl|rfl|rfl|rfl|rfl|rfl|rfl|rfl|rfl|rfl|rfl|rfl|rfl|rfl<;>simp only [Int.reducePow,Nat.reducePow]<;>omega
theorem zTq (x:Int) {k:Nat} (hk:k<32):bt x k=decide (x / 2^k%2=1):=by
 unfold bt
 rw [BitVec.getLsbD,Nat.testBit_eq_decide_div_mod_eq,BitVec.toNat_ofInt, ←zSW x hk,decide_eq_decide]
 have h0:(0:Int)≤x%4294967296:=Int.emod_nonneg _ (by omega)
 obtain ⟨m,hm⟩:=Int.eq_ofNat_of_zero_le h0
 have h1:(x%((2^32:Nat):Int))=(m:Int):=hm
 rw [h1,hm,Int.toNat_natCast]
 have h2:((m:Int) / 2^k)%2=((m / 2^k%2:Nat):Int):=by
  rw [Int.natCast_emod,Int.natCast_ediv,Int.natCast_pow];rfl
 rw [h2]
 omega
theorem zRJ (x:Int) {k:Nat} (hk:k<32):(BitVec.ofInt 32 (Int.fdiv x (2^k)))&&&1#32=if bt x k then 1#32 else 0#32:=by
 rw [zTq x hk]
 have hpos:(0:Int)≤2^k:=Int.le_of_lt (Int.pow_pos (by omega))
 rw [Int.fdiv_eq_ediv_of_nonneg _ hpos]
 generalize x / 2^k=y
 apply BitVec.eq_of_toNat_eq
 rw [BitVec.toNat_and,BitVec.toNat_ofInt,show (1#32).toNat=1 from rfl,Nat.and_one_is_mod]
 have h0:(0:Int)≤y%((2^32:Nat):Int):=Int.emod_nonneg _ (by omega)
 have h1:(y%((2^32:Nat):Int))%2=y%2:=by
  have:((2^32:Nat):Int)=4294967296:=rfl
  rw [this];omega
 split
 ·rename_i h
  simp only [decide_eq_true_eq] at h
  show _=1
  omega
 ·rename_i h
  simp only [decide_eq_true_eq] at h
  show _=0
  omega
theorem zJI (x:Int) {k:Nat} (hk:k<32):IntKind.wrap .u32 ((BitVec.toNat (BitVec.ofInt (IntKind.bits .u32) (Int.fdiv x (2^min k (IntKind.bits .u32)))&&&BitVec.ofInt (IntKind.bits .u32) 1):Nat):Int)=if bt x k then 1 else 0:=by
 change IntKind.wrap .u32 ((BitVec.toNat (BitVec.ofInt 32 (Int.fdiv x (2^min k 32))&&&1#32):Nat):Int)=_
 rw [zEn,Nat.min_eq_left (by omega),zRJ x hk]
 split<;>rfl
end Go.Ve

namespace Go.Ve
open Go Go.Proofs Go.Bd Go.Proofs.Bw
set_option maxRecDepth 1000000
set_option maxHeartbeats 4000000
theorem zKU {γ:Type} {n:Nat} (hn:n<4611686018427387904) {g0:γ} {body:Int×γ→Option γ} {Q:γ→Prop} (J:Nat→γ→Prop) (h0:J n g0)
  (step: ∀j g,j<n→J (j+1) g→Wp (body ((j:Int),g)) (J j)) (fin: ∀g,J 0 g→Q g):
  Wp (zM (fun s:Int×γ=>bif decide (s.1≥(0:Int)) then Option.bind (body s) (fun g=>some (Sum.inl (IntKind.wrap IntKind.i64 (s.1- (1:Int)),g))) else some (Sum.inr s.2)) ((n:Int) -1,g0)) Q:=by
 refine wp_loop (fun (s:Int×γ)=> ∃j:Nat,s.1=(j:Int) -1∧j≤n∧J j s.2) (fun (s:Int×γ)=>(s.1+1).toNat) ⟨n,rfl,Nat.le_refl _,h0⟩ ?_
 rintro ⟨s,g⟩ ⟨j,hj,hle,hJ⟩
 simp only at hj
 subst hj
 refine zJ ?_ ?_
 ·intro hc
  have hc:(j:Int) -1≥0:=hc
  obtain ⟨k,rfl⟩: ∃k,j=k+1:=⟨j-1,by omega⟩
  have e:(((k+1:Nat):Int) -1)=(k:Int):=by omega
  rw [e]
  refine zB ((step k g (by omega) hJ).mono ?_)
  intro g' hg'
  refine zA (e2l ⟨⟨k,?_,by omega,hg'⟩,?_⟩)
  ·dsimp only;rw [wrap_i64 (by omega) (by omega)]
  ·dsimp only;rw [wrap_i64 (by omega) (by omega)];omega
 ·intro hc
  have hc: ¬((j:Int) -1≥0):=hc
  have:j=0:=by omega
  subst this
  exact zA (e2r (fin _ hJ))
section
variable {p:Pub} {nx i:Nat} {f g h:Int} {F G H:(Nat→Bool)→Bool} {Q:MSt×Int→Prop}
theorem zTu (hp:POk p) (hi:i+1=nx) (hf:Rp p f F) (hg:Rp p g G) (hh:Rp p h H) (K:Nat) (hw:Wd K (fun a=>if F a then G a else H a)) (hr:p.S.ns.length+220*K≤lim)
  (hq: ∀p' y,Stp p (220*K) p'→Rp p' y (fun a=>if F a then G a else H a)→Q ((nx,some p'),y)):Wp (zER (nx,some p) (i,f,g,h,())) Q:=by
 obtain ⟨p',y,h1,h2,h3⟩:=zIq hp hf hg hh hw hr hi
 exact ⟨_,h1,hq p' y h2 h3⟩
theorem zBY (hp:POk p) (hi:i+1=nx) (hf:Rp p f F) (hg:Rp p g G) (K:Nat) (hw:Wd K (fun a=>F a&&G a)) (hr:p.S.ns.length+220*K≤lim)
  (hq: ∀p' y,Stp p (220*K) p'→Rp p' y (fun a=>F a&&G a)→Q ((nx,some p'),y)):Wp (qP (nx,some p) (i,f,g,())) Q:=by
 have e:(fun a=>if F a then G a else false)=fun a=>F a&&G a:=by funext a;cases F a<;>rfl
 obtain ⟨p',y,h1,h2,h3⟩:=zIq hp hf hg (Rp.f0 hp) (K:=K) (by rw [e];exact hw) hr hi
 rw [e] at h3
 exact ⟨_,h1,hq p' y h2 h3⟩
theorem zOC (hp:POk p) (hi:i+1=nx) (hf:Rp p f F) (hg:Rp p g G) (K:Nat) (hw:Wd K (fun a=>F a||G a)) (hr:p.S.ns.length+220*K≤lim)
  (hq: ∀p' y,Stp p (220*K) p'→Rp p' y (fun a=>F a||G a)→Q ((nx,some p'),y)):Wp (xT (nx,some p) (i,f,g,())) Q:=by
 have e:(fun a=>if F a then true else G a)=fun a=>F a||G a:=by funext a;cases F a<;>rfl
 obtain ⟨p',y,h1,h2,h3⟩:=zIq hp hf (Rp.f1 hp) hg (K:=K) (by rw [e];exact hw) hr hi
 rw [e] at h3
 exact ⟨_,h1,hq p' y h2 h3⟩
theorem zIA (hp:POk p) (hi:i+1=nx) (hf:Rp p f F) (K:Nat) (hw:Wd K (fun a=> !F a)) (hr:p.S.ns.length+220*K≤lim)
  (hq: ∀p' y,Stp p (220*K) p'→Rp p' y (fun a=> !F a)→Q ((nx,some p'),y)):Wp (kR (nx,some p) (i,f,())) Q:=by
 have e:(fun a=>if F a then false else true)=fun a=> !F a:=by funext a;cases F a<;>rfl
 obtain ⟨p',y,h1,h2,h3⟩:=zIq hp hf (Rp.f0 hp) (Rp.f1 hp) (K:=K) (by rw [e];exact hw) hr hi
 rw [e] at h3
 exact ⟨_,h1,hq p' y h2 h3⟩
theorem zQk {v:Nat} (hp:POk p) (hi:i+1=nx) (hv:v<220) (hr:p.S.ns.length+1≤lim)
  (hq: ∀p' y,Stp p 1 p'→Rp p' y (fun a=>a v)→Q ((nx,some p'),y)):Wp (zEQ (nx,some p) (i,(v:Int),())) Q:=by
 obtain ⟨p',y,h1,h2,h3⟩:=zSi hp hv hr hi
 exact ⟨_,h1,hq p' y h2 h3⟩
end
theorem Wd.var (v:Nat):Wd 2 (fun a=>a v):=
 ⟨fun u a=>if v<u then (a v).toNat else 0,fun u a=>by dsimp only;split<;>(cases a v<;>simp),fun u a b h=>by
  dsimp only
  split
  ·rename_i hv;rw [h v hv]
  ·rfl,fun u a b h hr=>by
  dsimp only at h
  split at h
  ·revert h;cases h1:a v<;>cases h2:b v<;>simp [h1,h2]
  ·rename_i hv;exact hr v (by omega)⟩
def fv (k i:Nat):Nat:=12+2*(ftF k+i)
theorem zQu {k i:Nat} (hk:k<5) (hi:i<wdF k):jX ((k:Int),(i:Int),false,())=some ((fv k i:Nat):Int):=by
 show zLR k i false=_
 unfold zLR
 rw [if_pos ⟨⟨by omega,by omega⟩,by omega,by rw [Int.toNat_natCast];omega⟩]
 rfl
theorem zF3 {k:Nat} (hk:k<5):zN ((k:Int),())=some ((wdF k:Nat):Int):=by
 show zG1 k=_
 unfold zG1
 rw [if_pos ⟨by omega,by omega⟩]
 rfl
theorem zTl: ∀k,k<5→ ∀i,i<wdF k→fv k i<220:=by decide
theorem zHH (q:Nat→Nat) (m:Nat) (a:Nat→Bool):Bd.bits q (m+1) a=a (q 0)::Bd.bits (fun i=>q (i+1)) m a:=by
 rw [Bd.bits,List.range_succ_eq_map,List.map_cons,List.map_map]
 rfl
def zMw (o:Option Bool) (b:Bool):Bool:=match o with
 |some c=>b==c
 |none=>true
theorem zKI (q:Nat→Option Bool) (b:Bool) (l:List Bool):fits q (b::l)=(zMw (q 0) b&&fits (fun i=>q (i+1)) l):=by
 have:=zBR q [b] l
 rw [List.singleton_append] at this
 rw [this]
 congr 1
 ·rw [fits]
  simp only [List.length_singleton,List.range_one,List.all_cons,List.all_nil,Bool.and_true,zMw]
  cases q 0 with
  |none=>rfl
  |some c=>simp
 ·simp only [List.length_singleton,Nat.add_comm]
def wq (A M:Int) (i:Nat):Option Bool:=if bt M (31-i) then none else some (bt A (31-i))
def uP (k:Nat) (A M:Int) (a:Nat→Bool):Bool:=fits (wq A M) (Bd.bits (fv k) 32 a)
theorem zOF (q:Nat→Option Bool) (k j m:Nat):Wd 2 (fun a=>fits q (Bd.bits (fun i=>fv k (i+j)) m a)):=
 (zOJ (c:=0) (d:=fv k (m+j)) q (fun i i' h h'=>by unfold fv;omega) (fun i hi=>by omega) (fun i hi=>by unfold fv;omega) (by omega)).wd
def Mk (p:Pub) (nx c:Nat) (φ:(Nat→Bool)→Bool) (r:MSt×Int):Prop:= ∃p',r.1=(nx,some p')∧Stp p c p'∧Rp p' r.2 φ
theorem Mk.mono {p:Pub} {nx c d:Nat} {φ ψ:(Nat→Bool)→Bool} {r:MSt×Int} (h:Mk p nx c φ r) (hc:c≤d) (he: ∀a,φ a=ψ a):Mk p nx d ψ r:=by
 obtain ⟨p',h1,h2,h3⟩:=h
 exact ⟨p',h1,h2.mono hc,h3.congr he⟩
theorem zB6 {p:Pub} {nx i:Nat} (hp:POk p) (hi:i+1=nx) {k:Nat} (hk:k<2) (A M:Int) (hr:p.S.ns.length+30000≤lim):
  Wp (jT (nx,some p) (i,(k:Int),false,(A,M,()),())) (Mk p nx 30000 (uP k A M)):=by
 have hk5:k<5:=by omega
 have hw:wdF k=32:=by
  have:k=0∨k=1:=by omega
  rcases this with rfl|rfl<;>rfl
 have hwid:zN ((k:Int),())=some (32:Int):=by rw [zF3 hk5,hw];rfl
 unfold jT
 dsimp only
 refine zB (Wp.mono (Q:=fun s=>s=(false,(nx,some p))) ?_ ?_)
 ·refine zG (fun h=>zA ?_) (fun h=>zA rfl)
  have:k=1:=by
   have h:(k:Int)≠0:=by simpa using h
   omega
  subst this
  rfl
 rintro _ rfl
 simp only [cond_false,hwid,Option.bind_some]
 rw [show IntKind.wrap IntKind.i64 ((32:Int) -1)=((32:Nat):Int) -1 from by rw [wrap_i64 (by omega) (by omega)];rfl]
 have key: ∀j:Nat,j<32→IntKind.wrap IntKind.i64 (((32:Nat):Int) -1- (j:Int))=((31-j:Nat):Int):=by
  intro j hj
  rw [wrap_i64 (by omega) (by omega)]
  omega
 refine zB (Wp.mono (zKU (n:=32) (by omega) (fun j (s:Int×MSt)=> ∃p',s.2=(nx,some p')∧Stp p ((32-j)*900) p'∧Rp p' s.1 (fun a=>fits (fun i=>wq A M (i+j)) (Bd.bits (fun i=>fv k (i+j)) (32-j) a)))
  ⟨p,rfl,Stp.refl hp,(Rp.f1 hp).congr (fun a=>rfl)⟩ ?_ (Q:=Mk p nx 30000 (uP k A M)∘Prod.swap) ?_) (fun s hs=>zA hs))
 ·rintro j ⟨f,st⟩ hj ⟨p',hst,hs,hf⟩
  simp only at hst hf
  subst hst
  dsimp only
  have hlen:=hs.cnt
  have hlim:p.S.ns.length+30000≤5864062014000:=hr
  have hcons: ∀a,fits (fun i=>wq A M (i+j)) (Bd.bits (fun i=>fv k (i+j)) (32-j) a)=(zMw (wq A M j) (a (fv k j))&&fits (fun i=>wq A M (i+(j+1))) (Bd.bits (fun i=>fv k (i+(j+1))) (32- (j+1)) a)):=by
   intro a
   rw [show 32-j=(32- (j+1))+1 by omega,zHH,zKI]
   simp only [Nat.zero_add,show ∀x,x+1+j=x+(j+1) from fun x=>by omega]
  rw [key j hj]
  refine zJ (fun _=> ?_) (fun h=>absurd (by omega) h)
  simp only [Int.toNat_natCast,zJI M (show 31-j<32 by omega)]
  refine zG (fun h=>zA ?_) (fun h=> ?_)
  ·have hb:bt M (31-j)=true:=by
    revert h;cases bt M (31-j)<;>simp
   refine ⟨p',rfl,hs.mono (by omega),hf.congr (fun a=> ?_)⟩
   rw [hcons a,wq,if_pos hb]
   rfl
  ·have hb:bt M (31-j)=false:=by
    revert h;cases bt M (31-j)<;>simp
   have hq0:wq A M j=some (bt A (31-j)):=by rw [wq,hb];rfl
   refine zB (jR (zQu hk5 (by rw [hw];exact hj)) ?_)
   refine zB (zQk hs.ok hi (zTl k hk5 j (by rw [hw];exact hj)) (by show _≤5864062014000;omega) ?_)
   intro p1 y1 hs1 hy1
   dsimp only
   have hlen1:=hs1.cnt
   refine zB (Wp.mono (Q:=Mk p1 nx 440 (fun a=>a (fv k j)==bt A (31-j))∘Prod.swap) ?_ ?_)
   ·refine zJ (fun _=> ?_) (fun h=>absurd (by omega) h)
    simp only [zJI A (show 31-j<32 by omega)]
    refine zG (fun h'=> ?_) (fun h'=> ?_)
    ·have hb':bt A (31-j)=false:=by
      revert h';cases bt A (31-j)<;>simp
     refine zB (zIA hs1.ok hi hy1 2 ((Wd.var _).comp not) (by show _≤5864062014000;omega) ?_)
     intro p2 y2 hs2 hy2
     exact zA ⟨p2,rfl,hs2,hy2.congr (fun a=>by rw [hb'];cases a (fv k j)<;>rfl)⟩
    ·have hb':bt A (31-j)=true:=by
      revert h';cases bt A (31-j)<;>simp
     exact zA ⟨p1,rfl,(Stp.refl hs1.ok).mono (by omega),hy1.congr (fun a=>by rw [hb'];cases a (fv k j)<;>rfl)⟩
   ·rintro ⟨y2,st2⟩ ⟨p2,hst2,hs2,hy2⟩
    simp only [Function.comp,Prod.swap] at hst2 hy2
    subst hst2
    have hlen2:=hs2.cnt
    have hf2:Rp p2 f (fun a=>fits (fun i=>wq A M (i+(j+1))) (Bd.bits (fun i=>fv k (i+(j+1))) (32- (j+1)) a)):=(hf.step hs.ok hs1).step hs1.ok hs2
    have hfun:(fun a=>(a (fv k j)==bt A (31-j))&&fits (fun i=>wq A M (i+(j+1))) (Bd.bits (fun i=>fv k (i+(j+1))) (32- (j+1)) a))=fun a=>fits (fun i=>wq A M (i+j)) (Bd.bits (fun i=>fv k (i+j)) (32-j) a):=by
     funext a
     rw [hcons a,hq0]
     rfl
    refine zB (zBY hs2.ok hi hy2 hf2 2 (by rw [hfun];exact zOF _ k j _) (by show _≤5864062014000;omega) ?_)
    intro p3 y3 hs3 hy3
    rw [hfun] at hy3
    exact zA ⟨p3,rfl,((hs.trans hs1).trans hs2).trans hs3|>.mono (by omega),hy3⟩
 ·rintro ⟨f,st⟩ ⟨p',hst,hs,hf⟩
  simp only at hst
  subst hst
  exact ⟨p',rfl,hs.mono (by omega),hf⟩
def zFs (x:Ty.El zI) (a:Nat→Bool):Bool:=uP 1 x.1 ((BitVec.allOnes 32^^^zAS (kU x.2.1)).toNat:Int) a
theorem zL9 {p:Pub} {nx i:Nat} (hp:POk p) (hi:i+1=nx) (x:Ty.El zI) (hx:zID x=true) (hr:p.S.ns.length+30000≤lim):
  Wp (jY (nx,some p) (i,(1:Int),false,x,())) (Mk p nx 30000 (zFs x)):=by
 unfold jY
 dsimp only
 refine zB (jR (zDs x) ?_)
 rw [hx]
 refine zB (jR (xE _) ?_)
 have e:IntKind.wrap IntKind.u32 ((BitVec.toNat (BitVec.ofInt (IntKind.bits IntKind.u32) (if IntKind.signed IntKind.u32=true then (-1:Int) else IntKind.max IntKind.u32)^^^BitVec.ofInt (IntKind.bits IntKind.u32) ((zAS (kU x.2.1)).toNat:Int)):Nat):Int)=((BitVec.allOnes 32^^^zAS (kU x.2.1)).toNat:Int):=by
  change IntKind.wrap IntKind.u32 ((BitVec.toNat (BitVec.ofInt 32 (IntKind.max IntKind.u32)^^^BitVec.ofInt 32 ((zAS (kU x.2.1)).toNat:Int)):Nat):Int)=_
  rw [zGv,zEn]
  rfl
 rw [e]
 refine zB ((zB6 (k:=1) hp hi (by omega) x.1 _ hr).mono ?_)
 rintro ⟨st,y⟩ h
 exact zA h
end Go.Ve

namespace Go.Ve
open Go Go.Proofs Go.Bd Go.Proofs.Bw
set_option maxRecDepth 1000000
set_option maxHeartbeats 4000000
theorem zOm (x:Nat) {k:Nat} (hk:k<32):bt (x:Int) k=decide (x / 2^k%2=1):=by
 rw [zTq _ hk,decide_eq_decide]
 have h2:((x:Int) / 2^k)%2=((x / 2^k%2:Nat):Int):=by
  rw [Int.natCast_emod,Int.natCast_ediv,Int.natCast_pow];rfl
 rw [h2]
 omega
theorem zRc (b:Bool) (l:List Bool):num (b::l)=b.toNat*2^l.length+num l:=by
 have:=zC0 [b] l
 rw [List.singleton_append] at this
 rw [this]
 congr 1
 cases b<;>simp [num]
theorem zOX (lo m x:Nat) (b:Bool) (hx:x<2^m):decide (lo%2^(m+1)≤b.toNat*2^m+x)=if lo / 2^m%2=1 then (b&&decide (lo%2^m≤x)) else (b||decide (lo%2^m≤x)):=by
 have hm:lo%2^m<2^m:=Nat.mod_lt _ (Nat.two_pow_pos m)
 rw [Nat.mod_pow_succ]
 have h2:lo / 2^m%2=0∨lo / 2^m%2=1:=by omega
 generalize lo%2^m=y at*
 generalize lo / 2^m%2=c at*
 generalize 2^m=M at*
 rcases h2 with rfl|rfl<;>cases b<;>simp<;>omega
theorem zO0 (hi m x:Nat) (b:Bool) (hx:x<2^m):decide (b.toNat*2^m+x≤hi%2^(m+1))=if hi / 2^m%2=1 then (!b||decide (x≤hi%2^m)) else (!b&&decide (x≤hi%2^m)):=by
 have hm:hi%2^m<2^m:=Nat.mod_lt _ (Nat.two_pow_pos m)
 rw [Nat.mod_pow_succ]
 have h2:hi / 2^m%2=0∨hi / 2^m%2=1:=by omega
 generalize hi%2^m=y at*
 generalize hi / 2^m%2=c at*
 generalize 2^m=M at*
 rcases h2 with rfl|rfl<;>cases b<;>simp<;>omega
def rF (k lo hi:Nat) (a:Nat→Bool):Bool:=decide (lo≤num (Bd.bits (fv k) (wdF k) a)∧num (Bd.bits (fv k) (wdF k) a)≤hi)
theorem zOI (k lo hi:Nat):Wb 4 (fv k 0) (fv k (wdF k)) (rF k lo hi):=
 zIB (p:=fv k) (fun i i' h h'=>by unfold fv;omega) (fun i hi=>by unfold fv;omega) (fun i hi=>by unfold fv;omega) (by unfold fv;omega)
abbrev shB (k j w:Nat) (a:Nat→Bool):List Bool:=Bd.bits (fun i=>fv k (i+j)) (w-j) a
theorem zTe (k j w lo:Nat):Wd 4 (fun a=>decide (lo≤num (shB k j w a))):=by
 have h:=(zIB (c:=0) (d:=fv k (w+1)) (w:=w-j) (lo:=lo) (hi:=2^(w-j)) (p:=fun i=>fv k (i+j)) (fun i i' h h'=>by unfold fv;omega) (fun i hi=>by omega) (fun i hi=>by unfold fv;omega) (by omega)).wd
 have e:(fun a=>decide (lo≤num (Bd.bits (fun i=>fv k (i+j)) (w-j) a)∧num (Bd.bits (fun i=>fv k (i+j)) (w-j) a)≤2^(w-j)))=fun a=>decide (lo≤num (shB k j w a)):=by
  funext a
  have:=zHn (shB k j w a)
  rw [kN] at this
  rw [decide_eq_decide]
  exact ⟨fun h=>h.1,fun h=>⟨h,Nat.le_of_lt this⟩⟩
 rw [←e];exact h
theorem zTf (k j w hi:Nat):Wd 4 (fun a=>decide (num (shB k j w a)≤hi)):=by
 have h:=(zIB (c:=0) (d:=fv k (w+1)) (w:=w-j) (lo:=0) (hi:=hi) (p:=fun i=>fv k (i+j)) (fun i i' h h'=>by unfold fv;omega) (fun i hi=>by omega) (fun i hi=>by unfold fv;omega) (by omega)).wd
 have e:(fun a=>decide (0≤num (Bd.bits (fun i=>fv k (i+j)) (w-j) a)∧num (Bd.bits (fun i=>fv k (i+j)) (w-j) a)≤hi))=fun a=>decide (num (shB k j w a)≤hi):=by
  funext a
  rw [decide_eq_decide]
  exact ⟨fun h=>h.2,fun h=>⟨Nat.zero_le _,h⟩⟩
 rw [←e];exact h
theorem zSz: ∀k,2≤k→k<5→IntKind.wrap IntKind.u32 (IntKind.wrap IntKind.u32 ((1:Int)*(2:Int)^min (Int.toNat ((wdF k:Nat):Int)) (IntKind.bits IntKind.u32)) - (1:Int))=((2^wdF k-1:Nat):Int):=by
 intro k h1 h2
 have:k=2∨k=3∨k=4:=by omega
 rcases this with rfl|rfl|rfl<;>decide
theorem zNu {p:Pub} {nx i:Nat} (hp:POk p) (hi:i+1=nx) {k:Nat} (h2:2≤k) (h5:k<5) (lo h:Nat) (hlh:lo≤h) (hh:h<2^wdF k) (hr:p.S.ns.length+100000≤lim):
  Wp (xK (nx,some p) (i,(k:Int),false,(lo:Int),(h:Int),())) (Mk p nx 100000 (rF k lo h)):=by
 have hlim:p.S.ns.length+100000≤5864062014000:=hr
 have hw16:8≤wdF k∧wdF k≤16:=by
  have:k=2∨k=3∨k=4:=by omega
  rcases this with rfl|rfl|rfl<;>decide
 unfold xK
 dsimp only
 refine zB (jR (zF3 h5) ?_)
 rw [zSz k h2 h5]
 refine zG (fun he=> ?_) (fun _=> ?_)
 ·exfalso
  have he:((wdF k:Nat):Int)=0:=by simpa using he
  omega
 refine zJ (fun _=> ?_) (fun hn=>absurd (by omega) hn)
 refine zB (Wp.mono (Q:=fun s=>s=(false,(nx,some p))) ?_ ?_)
 ·refine zJ (fun hc=> ?_) (fun hc=>zA ?_)
  ·exfalso
   have hc:(lo:Int)>(h:Int):=hc
   omega
  ·have hle: ¬((lo:Int)>((2^wdF k-1:Nat):Int)):=by
    have:=Nat.two_pow_pos (wdF k)
    omega
   rw [decide_eq_false hle]
 rintro _ rfl
 simp only [cond_false]
 have hif:(if ((2^wdF k-1:Nat):Int)< (h:Int) then ((2^wdF k-1:Nat):Int) else (h:Int))=(h:Int):=if_neg (by
  have:=Nat.two_pow_pos (wdF k)
  omega)
 simp only [hif]
 generalize hW:wdF k=w at*
 rw [wrap_i64 (x:=(w:Int) -1) (by omega) (by omega)]
 have key: ∀j:Nat,j<w→IntKind.wrap IntKind.i64 ((w:Int) -1- (j:Int))=((w-1-j:Nat):Int):=by
  intro j hj
  rw [wrap_i64 (by omega) (by omega)]
  omega
 refine zB (Wp.mono (zKU (n:=w) (by omega) (fun j (s:Int×Int×MSt)=> ∃p',s.2.2=(nx,some p')∧Stp p ((w-j)*3000) p'∧Rp p' s.1 (fun a=>decide (lo%2^(w-j)≤num (shB k j w a)))∧Rp p' s.2.1 (fun a=>decide (num (shB k j w a)≤h%2^(w-j))))
  ⟨p,rfl,(Stp.refl hp).mono (Nat.zero_le _),(Rp.f1 hp).congr (fun a=> ?_),(Rp.f1 hp).congr (fun a=> ?_)⟩ ?_ (Q:=fun s=> ∃p',s.2.2=(nx,some p')∧Stp p (w*3000) p'∧Rp p' s.1 (fun a=>decide (lo≤num (shB k 0 w a)))∧Rp p' s.2.1 (fun a=>decide (num (shB k 0 w a)≤h))) ?_) ?_)
 ·simp only [shB,Nat.sub_self,Nat.pow_zero,Nat.mod_one]
  simp
 ·simp only [shB,Nat.sub_self,Nat.pow_zero,Nat.mod_one,Bd.bits,List.range_zero,List.map_nil]
  simp [num]
 ·rintro j ⟨ab,be,st⟩ hj ⟨p',hst,hs,ha,hb⟩
  simp only at hst ha hb
  subst hst
  dsimp only
  have hc:=hs.cnt
  have hm:w-j=(w- (j+1))+1:=by omega
  have hj1:(w- (j+1))*3000≤15*3000:=Nat.mul_le_mul_right _ (by omega)
  have hcons: ∀a,num (shB k j w a)=(a (fv k j)).toNat*2^(w- (j+1))+num (shB k (j+1) w a):=by
   intro a
   simp only [shB]
   rw [hm,zHH,zRc,kN]
   simp only [Nat.zero_add,show ∀x,x+1+j=x+(j+1) from fun x=>by omega]
  have hlt: ∀a,num (shB k (j+1) w a)<2^(w- (j+1)):=fun a=>by
   have:=zHn (shB k (j+1) w a)
   rwa [kN] at this
  refine zB (jR (zQu h5 (by rw [hW];exact hj)) ?_)
  refine zB (zQk hs.ok hi (zTl k h5 j (by rw [hW];exact hj)) (by show _≤5864062014000;omega) ?_)
  intro p1 y1 hs1 hy1
  have hc1:=hs1.cnt
  have ha1:=ha.step hs.ok hs1
  have hb1:=hb.step hs.ok hs1
  dsimp only
  rw [key j hj,show w-1-j=w- (j+1) by omega]
  have hmm:w- (j+1)<32:=by omega
  refine zB (Wp.mono (Q:=fun s:Int×MSt=> ∃p2,s.2=(nx,some p2)∧Stp p1 880 p2∧Rp p2 s.1 (fun a=>decide (lo%2^(w-j)≤num (shB k j w a)))) ?_ ?_)
  ·refine zJ (fun _=> ?_) (fun hn=>absurd (by omega) hn)
   simp only [Int.toNat_natCast,zJI (lo:Int) hmm,zOm lo hmm]
   refine zG (fun hbit=> ?_) (fun hbit=> ?_)
   ·have hbit:lo / 2^(w- (j+1))%2=1:=by
     by_cases hd:lo / 2^(w- (j+1))%2=1
     ·exact hd
     ·simp [hd] at hbit
    have hfun:(fun a=>a (fv k j)&&decide (lo%2^(w- (j+1))≤num (shB k (j+1) w a)))=fun a=>decide (lo%2^(w-j)≤num (shB k j w a)):=by
     funext a
     rw [hcons,hm,zOX _ _ _ _ (hlt a),if_pos hbit]
    refine zB (zBY hs1.ok hi hy1 ha1 4 (by rw [hfun];exact zTe _ _ _ _) (by show _≤5864062014000;omega) ?_)
    intro p2 y2 hs2 hy2
    rw [hfun] at hy2
    exact zA ⟨p2,rfl,hs2,hy2⟩
   ·have hbit: ¬lo / 2^(w- (j+1))%2=1:=by
     intro hd
     simp [hd] at hbit
    have hfun:(fun a=>a (fv k j)||decide (lo%2^(w- (j+1))≤num (shB k (j+1) w a)))=fun a=>decide (lo%2^(w-j)≤num (shB k j w a)):=by
     funext a
     rw [hcons,hm,zOX _ _ _ _ (hlt a),if_neg hbit]
    refine zB (zOC hs1.ok hi hy1 ha1 4 (by rw [hfun];exact zTe _ _ _ _) (by show _≤5864062014000;omega) ?_)
    intro p2 y2 hs2 hy2
    rw [hfun] at hy2
    exact zA ⟨p2,rfl,hs2,hy2⟩
  ·rintro ⟨y2,st2⟩ ⟨p2,hst2,hs2,hy2⟩
   simp only at hst2 hy2
   subst hst2
   have hc2:=hs2.cnt
   have hb2:=hb1.step hs1.ok hs2
   have hv2:=hy1.step hs1.ok hs2
   dsimp only
   refine zJ (fun _=> ?_) (fun hn=>absurd (by omega) hn)
   simp only [Int.toNat_natCast,zJI (h:Int) hmm,zOm h hmm]
   refine zG (fun hbit=> ?_) (fun hbit=> ?_)
   ·have hbit:h / 2^(w- (j+1))%2=1:=by
     by_cases hd:h / 2^(w- (j+1))%2=1
     ·exact hd
     ·simp [hd] at hbit
    have hfun:(fun a=> !(a (fv k j))||decide (num (shB k (j+1) w a)≤h%2^(w- (j+1))))=fun a=>decide (num (shB k j w a)≤h%2^(w-j)):=by
     funext a
     rw [hcons,hm,zO0 _ _ _ _ (hlt a),if_pos hbit]
    refine zB (zIA hs2.ok hi hv2 2 ((Wd.var _).comp not) (by show _≤5864062014000;omega) ?_)
    intro p3 y3 hs3 hy3
    have hc3:=hs3.cnt
    refine zB (zOC hs3.ok hi hy3 (hb2.step hs2.ok hs3) 4 (by rw [hfun];exact zTf _ _ _ _) (by show _≤5864062014000;omega) ?_)
    intro p4 y4 hs4 hy4
    rw [hfun] at hy4
    exact zA ⟨p4,rfl,((((hs.trans hs1).trans hs2).trans hs3).trans hs4).mono (by rw [hm,Nat.succ_mul];omega),(hy2.step hs2.ok hs3).step hs3.ok hs4,hy4⟩
   ·have hbit: ¬h / 2^(w- (j+1))%2=1:=by
     intro hd
     simp [hd] at hbit
    have hfun:(fun a=> !(a (fv k j))&&decide (num (shB k (j+1) w a)≤h%2^(w- (j+1))))=fun a=>decide (num (shB k j w a)≤h%2^(w-j)):=by
     funext a
     rw [hcons,hm,zO0 _ _ _ _ (hlt a),if_neg hbit]
    refine zB (zIA hs2.ok hi hv2 2 ((Wd.var _).comp not) (by show _≤5864062014000;omega) ?_)
    intro p3 y3 hs3 hy3
    have hc3:=hs3.cnt
    refine zB (zBY hs3.ok hi hy3 (hb2.step hs2.ok hs3) 4 (by rw [hfun];exact zTf _ _ _ _) (by show _≤5864062014000;omega) ?_)
    intro p4 y4 hs4 hy4
    rw [hfun] at hy4
    exact zA ⟨p4,rfl,((((hs.trans hs1).trans hs2).trans hs3).trans hs4).mono (by rw [hm,Nat.succ_mul];omega),(hy2.step hs2.ok hs3).step hs3.ok hs4,hy4⟩
 ·rintro ⟨ab,be,st⟩ ⟨p',hst,hs,ha,hb⟩
  simp only [Nat.sub_zero] at hst hs ha hb
  simp only [Nat.mod_eq_of_lt (Nat.lt_of_le_of_lt hlh hh)] at ha
  simp only [Nat.mod_eq_of_lt hh] at hb
  exact ⟨p',hst,hs,ha,hb⟩
 ·rintro ⟨ab,be,st⟩ ⟨p',hst,hs,ha,hb⟩
  simp only at hst ha hb
  subst hst
  have hc:=hs.cnt
  have hw3:w*3000≤48000:=by omega
  have hfun:(fun a=>decide (lo≤num (shB k 0 w a))&&decide (num (shB k 0 w a)≤h))=rF k lo h:=by
   funext a
   rw [rF,hW, ←Bool.decide_and]
   rfl
  refine zB (zBY hs.ok hi ha hb 4 (by rw [hfun];exact (zOI k lo h).wd) (by show _≤5864062014000;omega) ?_)
  intro p2 y2 hs2 hy2
  rw [hfun] at hy2
  exact zA ⟨p2,rfl,(hs.trans hs2).mono (by omega),hy2⟩
theorem zDP {p:Pub} {nx i:Nat} (hp:POk p) (hi:i+1=nx) {k:Nat} (h2:2≤k) (h5:k<5) (lo h:Nat) (hlh:lo≤h) (hh:h<2^wdF k) (hr:p.S.ns.length+100000≤lim):
  Wp (jG (nx,some p) (i,(k:Int),(lo:Int),(h:Int),())) (Mk p nx 100000 (rF k lo h)):=by
 have h16:h<65536:=by
  have:wdF k≤16:=by
   have:k=2∨k=3∨k=4:=by omega
   rcases this with rfl|rfl|rfl<;>decide
  exact Nat.lt_of_lt_of_le hh (Nat.pow_le_pow_right (by omega) this)
 unfold jG
 dsimp only
 rw [if_neg (show ¬(0:Int)>(lo:Int) by omega),if_neg (show ¬(65535:Int)< (h:Int) by omega),wrap_u32 (by omega) (by omega),wrap_u32 (by omega) (by omega)]
 refine zJ (fun hc=>absurd hc (by omega)) (fun _=> ?_)
 exact zB ((zNu hp hi h2 h5 lo h hlh hh hr).mono (fun r hr=>zA hr))
structure zBw (x:Ty.El qY):Prop where
 p0:(-1:Int)≤x.2.1
 p1: @LE.le Int _ x.2.1 255
 s0:(0:Int)≤x.2.2.2.2.1.1
 s1: @LE.le Int _ x.2.2.2.2.1.1 x.2.2.2.2.1.2.1
 s2: @LE.le Int _ x.2.2.2.2.1.2.1 65535
 d0:(0:Int)≤x.2.2.2.2.2.1.1
 d1: @LE.le Int _ x.2.2.2.2.2.1.1 x.2.2.2.2.2.1.2.1
 d2: @LE.le Int _ x.2.2.2.2.2.1.2.1 65535
def zHO (x:Ty.El qY) (a:Nat→Bool):Bool:=
 uP 0 x.2.2.1.1 x.2.2.1.2.1 a&&uP 1 x.2.2.2.1.1 x.2.2.2.1.2.1 a&&(x.2.1== -1||rF 2 x.2.1.toNat x.2.1.toNat a)&&rF 3 x.2.2.2.2.1.1.toNat x.2.2.2.2.1.2.1.toNat a&&rF 4 x.2.2.2.2.2.1.1.toNat x.2.2.2.2.2.1.2.1.toNat a
theorem zOG (k:Nat) (A M:Int):Wb 4 (fv k 0) (fv k 32) (uP k A M):=
 (zOJ (c:=fv k 0) (d:=fv k 32) (wq A M) (fun i i' h h'=>by unfold fv;omega) (fun i hi=>by unfold fv;omega) (fun i hi=>by unfold fv;omega) (by unfold fv;omega)).mono (by omega)
theorem zFh (A M B N:Int):Wb 4 (fv 0 0) (fv 1 32) (fun a=>uP 0 A M a&&uP 1 B N a):=(zOG 0 A M).and (zOG 1 B N) (by decide)
theorem zQp (x:Ty.El qY): ∃d,d≤fv 3 0∧Wb 4 (fv 0 0) d (fun a=>uP 0 x.2.2.1.1 x.2.2.1.2.1 a&&uP 1 x.2.2.2.1.1 x.2.2.2.1.2.1 a&&(x.2.1== -1||rF 2 x.2.1.toNat x.2.1.toNat a)):=by
 cases h:x.2.1== -1 with
 |true=>exact ⟨fv 1 32,by decide,by simpa using zFh _ _ _ _⟩
 |false=>exact ⟨fv 2 (wdF 2),by decide,by simpa using (zFh x.2.2.1.1 x.2.2.1.2.1 x.2.2.2.1.1 x.2.2.2.1.2.1).and (zOI 2 x.2.1.toNat x.2.1.toNat) (by decide)⟩
theorem zLO (x:Ty.El qY):Wb 4 (fv 0 0) (fv 3 16) (fun a=>uP 0 x.2.2.1.1 x.2.2.1.2.1 a&&uP 1 x.2.2.2.1.1 x.2.2.2.1.2.1 a&&(x.2.1== -1||rF 2 x.2.1.toNat x.2.1.toNat a)&&rF 3 x.2.2.2.2.1.1.toNat x.2.2.2.2.1.2.1.toNat a):=by
 obtain ⟨d,hd,h⟩:=zQp x
 exact h.and (zOI 3 _ _) hd
theorem zOH (x:Ty.El qY):Wb 4 (fv 0 0) (fv 4 16) (zHO x):=(zLO x).and (zOI 4 _ _) (by decide)
abbrev cR:Nat:=400000
theorem zKm {p:Pub} {nx i:Nat} (hp:POk p) (hi:i+1=nx) (x:Ty.El qY) (hx:zBw x) (hr:p.S.ns.length+cR≤lim):
  Wp (wD (nx,some p) (i,x,())) (Mk p nx cR (zHO x)):=by
 have hlim:p.S.ns.length+400000≤5864062014000:=hr
 obtain ⟨pm,pr,⟨sA,sM,⟨⟩⟩,⟨dA,dM,⟨⟩⟩,⟨sl,sh,⟨⟩⟩,⟨dl,dh,⟨⟩⟩,⟨⟩⟩:=x
 obtain ⟨p0,p1,s0,s1,s2,d0,d1,d2⟩:=hx
 simp only at p0 p1 s0 s1 s2 d0 d1 d2
 have w3:=zQp (pm,pr,(sA,sM,()),(dA,dM,()),(sl,sh,()),(dl,dh,()),())
 have w4:=zLO (pm,pr,(sA,sM,()),(dA,dM,()),(sl,sh,()),(dl,dh,()),())
 have w5:=zOH (pm,pr,(sA,sM,()),(dA,dM,()),(sl,sh,()),(dl,dh,()),())
 unfold zHO at w5 ⊢
 simp only at w3 w4 w5 ⊢
 obtain ⟨sl,rfl⟩:=Int.eq_ofNat_of_zero_le s0
 obtain ⟨sh,rfl⟩:=Int.eq_ofNat_of_zero_le (Int.le_trans s0 s1)
 obtain ⟨dl,rfl⟩:=Int.eq_ofNat_of_zero_le d0
 obtain ⟨dh,rfl⟩:=Int.eq_ofNat_of_zero_le (Int.le_trans d0 d1)
 simp only [Int.toNat_natCast] at w3 w4 w5 ⊢
 have e3:(2:Nat)^wdF 3=65536:=by decide
 have e4:(2:Nat)^wdF 4=65536:=by decide
 have e2:(2:Nat)^wdF 2=256:=by decide
 unfold wD
 dsimp only
 refine zB ((zB6 (k:=0) hp hi (by omega) sA sM (by show _≤5864062014000;omega)).mono ?_)
 rintro ⟨st1,f1⟩ ⟨q1,hst1,hs1,h1⟩
 simp only at hst1 h1
 subst hst1
 have c1:=hs1.cnt
 refine zB ((zB6 (k:=1) hs1.ok hi (by omega) dA dM (by show _≤5864062014000;omega)).mono ?_)
 rintro ⟨st2,f2⟩ ⟨q2,hst2,hs2,h2⟩
 simp only at hst2 h2
 subst hst2
 have c2:=hs2.cnt
 refine zB (zBY hs2.ok hi (h1.step hs1.ok hs2) h2 4 (zFh _ _ _ _).wd (by show _≤5864062014000;omega) ?_)
 intro q3 f3 hs3 h3
 have c3:=hs3.cnt
 dsimp only
 refine zB (Wp.mono (Q:=fun s:Int×MSt=> ∃q4,s.2=(nx,some q4)∧Stp q3 100880 q4∧Rp q4 s.1 (fun a=>uP 0 sA sM a&&uP 1 dA dM a&&(pr== -1||rF 2 pr.toNat pr.toNat a))) ?_ ?_)
 ·refine zG (fun hn=> ?_) (fun hn=>zA ⟨q3,rfl,(Stp.refl hs3.ok).mono (by omega),h3.congr (fun a=> ?_)⟩)
  ·have hn: ¬(@Eq Int pr (-1)):=by simpa [bne] using hn
   have hb:(pr== -1)=false:=by simpa using hn
   obtain ⟨pr,rfl⟩:=Int.eq_ofNat_of_zero_le (show (0:Int)≤pr by omega)
   refine zB ((zDP (k:=2) hs3.ok hi (by omega) (by omega) pr pr (Nat.le_refl _) (by omega) (by show _≤5864062014000;omega)).mono ?_)
   rintro ⟨st4,f4⟩ ⟨q4,hst4,hs4,h4⟩
   simp only at hst4 h4
   subst hst4
   have c4:=hs4.cnt
   have hfun:(fun a=>(uP 0 sA sM a&&uP 1 dA dM a)&&rF 2 pr pr a)=fun a=>uP 0 sA sM a&&uP 1 dA dM a&&(((pr:Nat):Int)== -1||rF 2 (((pr:Nat):Int)).toNat (((pr:Nat):Int)).toNat a):=by
    funext a
    rw [hb,Bool.false_or,Int.toNat_natCast]
   refine zB (zBY hs4.ok hi (h3.step hs3.ok hs4) h4 4 (by rw [hfun];obtain ⟨d,_,h⟩:=w3;exact h.wd) (by show _≤5864062014000;omega) ?_)
   intro q5 f5 hs5 h5
   rw [hfun] at h5
   exact zA ⟨q5,rfl,(hs4.trans hs5).mono (by omega),h5⟩
  ·have hn:pr= -1:=by simpa [bne] using hn
   subst hn
   simp
 ·rintro ⟨f4,st4⟩ ⟨q4,hst4,hs4,h4⟩
  simp only at hst4 h4
  subst hst4
  have c4:=hs4.cnt
  refine zB ((zDP (k:=3) hs4.ok hi (by omega) (by omega) sl sh (by omega) (by omega) (by show _≤5864062014000;omega)).mono ?_)
  rintro ⟨st5,f5⟩ ⟨q5,hst5,hs5,h5⟩
  simp only at hst5 h5
  subst hst5
  have c5:=hs5.cnt
  refine zB (zBY hs5.ok hi (h4.step hs4.ok hs5) h5 4 w4.wd (by show _≤5864062014000;omega) ?_)
  intro q6 f6 hs6 h6
  have c6:=hs6.cnt
  refine zB ((zDP (k:=4) hs6.ok hi (by omega) (by omega) dl dh (by omega) (by omega) (by show _≤5864062014000;omega)).mono ?_)
  rintro ⟨st7,f7⟩ ⟨q7,hst7,hs7,h7⟩
  simp only at hst7 h7
  subst hst7
  have c7:=hs7.cnt
  refine zB (zBY hs7.ok hi (h6.step hs6.ok hs7) h7 4 w5.wd (by show _≤5864062014000;omega) ?_)
  intro q8 f8 hs8 h8
  refine zA ⟨q8,rfl,(((((((hs1.trans hs2).trans hs3).trans hs4).trans hs5).trans hs6).trans hs7).trans hs8).mono (by show _≤400000;omega),h8⟩
end Go.Ve

namespace Go.Ve
open Go Go.Proofs Go.Bd Go.Proofs.Bw
set_option maxRecDepth 1000000
set_option maxHeartbeats 4000000
abbrev Pkt:=Ty.El qM
def zDM (p:Pkt) (k:Nat):Int:=match k with
 |0=>p.1
 |1=>p.2.1
 |2=>IntKind.wrap IntKind.u32 p.2.2.1
 |3=>IntKind.wrap IntKind.u32 p.2.2.2.1
 |_=>IntKind.wrap IntKind.u32 p.2.2.2.2.1
noncomputable def wrL (K x:Int) (n:Bool) (a0:List Bool):Option (List Bool):=
 Option.bind (zN (K, ())) fun (y12 : Int) =>
     zM
      (fun (s13:Int×List Bool)=>
       bif decide (s13.1<y12) then
        Option.bind (jX (K,s13.1,n,())) fun (y14:Int)=>
         Option.bind (zN (K,())) fun (y15:Int)=>
          bif decide ((0:Int)≤IntKind.wrap IntKind.i64 (IntKind.wrap IntKind.i64 (y15- (1:Int)) -s13.1)) then
           Option.bind (idx s13.2 y14) fun (y16:Bool)=>
            Option.bind (atN s13.2 (Int.toNat y14)) fun (y17:Bool)=>
             some
              (Sum.inl
               (IntKind.wrap IntKind.i64 (s13.1+(1:Int)),
                List.set s13.2 (Int.toNat y14)
                 (IntKind.wrap IntKind.u32
                   (↑(BitVec.toNat
                      (BitVec.ofInt (IntKind.bits IntKind.u32)
                        (Int.fdiv x
                         ((2:Int)^
                           min (Int.toNat (IntKind.wrap IntKind.i64 (IntKind.wrap IntKind.i64 (y15- (1:Int)) -s13.1))) (IntKind.bits IntKind.u32)))&&&
                       BitVec.ofInt (IntKind.bits IntKind.u32) (1:Int))):
                    Int)==
                  (1:Int))))
          else none
       else some (Sum.inr s13.2))
      ((0:Int),a0)
theorem put_eq (p:Pkt) (n:Bool) (a:List Bool):zBo a (p,n,())=
  Option.bind (wrL 0 (zDM p 0) n a) fun b0=>Option.bind (wrL 1 (zDM p 1) n b0) fun b1=>Option.bind (wrL 2 (zDM p 2) n b1) fun b2=>Option.bind (wrL 3 (zDM p 3) n b2) fun b3=>
   Option.bind (wrL 4 (zDM p 4) n b3) fun b4=>bif Nat.beq (List.length b4) (List.length a) then some (b4,()) else none:=rfl
def vn (k:Nat) (n:Bool) (i:Nat):Nat:=zLS k i n
theorem zUf: ∀k,k<5→ ∀n i,i<wdF k→vn k n i<220:=by decide
theorem zSh {k i:Nat} (hk:k<5) (hi:i<wdF k) (n:Bool):jX ((k:Int),(i:Int),n,())=some ((vn k n i:Nat):Int):=by
 show zLR k i n=_
 unfold zLR
 rw [if_pos ⟨⟨by omega,by omega⟩,by omega,by rw [Int.toNat_natCast];omega⟩]
 rfl
structure zTr (k:Nat) (x:Int) (n:Bool) (m:Nat) (a a':List Bool):Prop where
 len:a'.length=a.length
 bit: ∀i,i<m→a'[vn k n i]? =some (bt x (wdF k-1-i))
 oth: ∀j,(∀i,i<m→j≠vn k n i)→a'[j]? =a[j]?
theorem zTy {k:Nat} {n:Bool} {i j:Nat} (h:vn k n i=vn k n j):i=j:=by
 unfold vn zLS at h
 omega
theorem zCk {k:Nat} (hk:k<5) (x:Int) (n:Bool) (a:List Bool) (ha:a.length=220):Wp (wrL (k:Int) x n a) (zTr k x n (wdF k) a):=by
 have hw32:8≤wdF k∧wdF k≤32:=by
  have:k=0∨k=1∨k=2∨k=3∨k=4:=by omega
  rcases this with rfl|rfl|rfl|rfl|rfl<;>decide
 unfold wrL
 refine zB (jR (zF3 hk) ?_)
 refine wp_loop (fun s:Int×List Bool=> ∃i:Nat,s.1=(i:Int)∧i≤wdF k∧zTr k x n i a s.2) (fun s=>(((wdF k:Nat):Int) -s.1).toNat) ⟨0,rfl,Nat.zero_le _,rfl,fun i hi=>by omega,fun j _=>rfl⟩ ?_
 rintro ⟨s,b⟩ ⟨i,hi,hle,P⟩
 simp only at hi P
 subst hi
 refine zJ (fun hlt=> ?_) (fun hge=> ?_)
 rotate_left
 ·have:i=wdF k:=by
   have hge: ¬(i:Int)< ((wdF k:Nat):Int):=hge
   omega
  subst this
  exact zA (e2r P)
 have hlt:i<wdF k:=by
  have hlt:(i:Int)< ((wdF k:Nat):Int):=hlt
  omega
 refine zB (jR (zSh hk hlt n) ?_)
 refine zB (jR (zF3 hk) ?_)
 dsimp only
 have e:IntKind.wrap IntKind.i64 (IntKind.wrap IntKind.i64 (((wdF k:Nat):Int) -1) - (i:Int))=((wdF k-1-i:Nat):Int):=by
  rw [wrap_i64 (x:=((wdF k:Nat):Int) -1) (by omega) (by omega),wrap_i64 (by omega) (by omega)]
  omega
 rw [e]
 refine zJ (fun _=> ?_) (fun hn=>absurd (by omega) hn)
 have hb:vn k n i<b.length:=by rw [P.len,ha];exact zUf k hk n i hlt
 have hbi:b[vn k n i]? =some b[vn k n i]:=by simp [hb]
 refine zB (jR (wR hbi) ?_)
 refine zB (jR (x:=b[vn k n i]) (by rw [Int.toNat_natCast];exact hbi) ?_)
 simp only [Int.toNat_natCast,zJI x (show wdF k-1-i<32 by omega)]
 refine zA (e2l ⟨⟨i+1,?_,hlt,?_,fun j hj=> ?_,fun j hj=> ?_⟩,?_⟩)
 ·dsimp only;rw [wrap_i64 (by omega) (by omega)];omega
 ·rw [List.length_set];exact P.len
 ·rcases Nat.lt_or_ge j i with h'|h'
  ·rw [List.getElem?_set_ne (fun he=>by have:=zTy he;omega)]
   exact P.bit j h'
  ·have:j=i:=by omega
   subst this
   rw [List.getElem?_set_self hb]
   cases bt x (wdF k-1-j)<;>rfl
 ·rw [List.getElem?_set_ne (fun he=>hj i (by omega) he.symm)]
  exact P.oth j (fun i' hi'=>hj i' (by omega))
 ·dsimp only;rw [wrap_i64 (by omega) (by omega)];omega
structure zGV (p:Pkt) (al:List Bool):Prop where
 len:al.length=220
 bit: ∀k,k<5→ ∀i,i<wdF k→al[fv k i]? =some (bt (zDM p k) (wdF k-1-i))
theorem zQs: ∀k,k<5→ ∀k',k'<5→k≠k'→ ∀n i,i<wdF k→ ∀i',i'<wdF k'→vn k n i≠vn k' n i':=by
 intro k hk k' hk' hne n i hi i' hi'
 have h1:k=0∨k=1∨k=2∨k=3∨k=4:=by omega
 have h2:k'=0∨k'=1∨k'=2∨k'=3∨k'=4:=by omega
 unfold vn zLS
 rcases h1 with rfl|rfl|rfl|rfl|rfl<;>rcases h2 with rfl|rfl|rfl|rfl|rfl<;>simp only [wdF,ftF,List.getD_cons_zero,List.getD_cons_succ] at* <;>omega
theorem zTx (k i k' i':Nat):vn k false i≠vn k' true i':=by
 unfold vn zLS
 simp only [Bool.false_eq_true,if_false,if_true]
 omega
theorem zL8 (p:Pkt) (n:Bool) (a:List Bool) (ha:a.length=220):Wp (zBo a (p,n,())) (fun r=>r.1.length=220∧(∀k,k<5→ ∀i,i<wdF k→r.1[vn k n i]? =some (bt (zDM p k) (wdF k-1-i)))∧
  ∀j,(∀k,k<5→ ∀i,i<wdF k→j≠vn k n i)→r.1[j]? =a[j]?):=by
 rw [put_eq]
 refine zB ((zCk (k:=0) (by omega) _ n a ha).mono ?_)
 intro b0 P0
 have l0:b0.length=220:=P0.len.trans ha
 refine zB ((zCk (k:=1) (by omega) _ n b0 l0).mono ?_)
 intro b1 P1
 have l1:b1.length=220:=P1.len.trans l0
 refine zB ((zCk (k:=2) (by omega) _ n b1 l1).mono ?_)
 intro b2 P2
 have l2:b2.length=220:=P2.len.trans l1
 refine zB ((zCk (k:=3) (by omega) _ n b2 l2).mono ?_)
 intro b3 P3
 have l3:b3.length=220:=P3.len.trans l2
 refine zB ((zCk (k:=4) (by omega) _ n b3 l3).mono ?_)
 intro b4 P4
 have l4:b4.length=220:=P4.len.trans l3
 refine zG (fun _=>zA ⟨l4,?_,?_⟩) (fun hc=>by rw [l4,ha] at hc;cases hc)
 ·intro k hk i hi
  have hk':k=0∨k=1∨k=2∨k=3∨k=4:=by omega
  have o: ∀k',k'<5→k≠k'→ ∀i',i'<wdF k'→vn k n i≠vn k' n i':=fun k' hk' hne i' hi'=>zQs k hk k' hk' hne n i hi i' hi'
  rcases hk' with rfl|rfl|rfl|rfl|rfl
  ·show b4[_]? =_
   rw [P4.oth _ (o 4 (by omega) (by omega)),P3.oth _ (o 3 (by omega) (by omega)),P2.oth _ (o 2 (by omega) (by omega)),P1.oth _ (o 1 (by omega) (by omega))]
   exact P0.bit i hi
  ·show b4[_]? =_
   rw [P4.oth _ (o 4 (by omega) (by omega)),P3.oth _ (o 3 (by omega) (by omega)),P2.oth _ (o 2 (by omega) (by omega))]
   exact P1.bit i hi
  ·show b4[_]? =_
   rw [P4.oth _ (o 4 (by omega) (by omega)),P3.oth _ (o 3 (by omega) (by omega))]
   exact P2.bit i hi
  ·show b4[_]? =_
   rw [P4.oth _ (o 4 (by omega) (by omega))]
   exact P3.bit i hi
  ·exact P4.bit i hi
 ·intro j hj
  show b4[_]? =_
  rw [P4.oth _ (hj 4 (by omega)),P3.oth _ (hj 3 (by omega)),P2.oth _ (hj 2 (by omega)),P1.oth _ (hj 1 (by omega)),P0.oth _ (hj 0 (by omega))]
theorem zMb (p q:Pkt):Wp (zAq ([],p,q,())) (zGV p):=by
 unfold zAq
 dsimp only
 refine zB (Wp.mono (Q:=fun a:List Bool=>a.length=220) ?_ ?_)
 ·rw [zMy]
  exact zA rfl
 intro a ha
 refine zG (fun _=> ?_) (fun hc=>by simp at hc)
 refine zB ((zL8 p false a ha).mono ?_)
 rintro ⟨b,u⟩ ⟨hb,h1,_⟩
 simp only at hb h1
 dsimp only
 refine zG (fun _=> ?_) (fun hc=>by simp at hc)
 refine zB ((zL8 q true b hb).mono ?_)
 rintro ⟨c,u'⟩ ⟨hc,_,h3⟩
 simp only at hc h3
 refine zA ⟨hc,fun k hk i hi=> ?_⟩
 show c[vn k false i]? =_
 rw [h3 _ (fun k' hk' i' hi'=>zTx k i k' i')]
 exact h1 k hk i hi
def asg (al:List Bool) (v:Nat):Bool:=al.getD v false
theorem zSe {p:Pub} {nx i:Nat} {f:Int} {F:(Nat→Bool)→Bool} {Q:MSt×Bool→Prop} (hi:i+1=nx) (hf:Rp p f F) (pk:Pkt) (hq: ∀al,zGV pk al→Q ((nx,some p),F (asg al))):
  Wp (zA2 (nx,some p) (i,f,pk,())) Q:=by
 unfold zA2
 dsimp only
 refine zB ((zMb pk _).mono ?_)
 intro al hal
 have:=zST hf hi (al:=al) (by rw [hal.len];omega)
 refine zB (jR (x:=((nx,some p),F (asg al))) this ?_)
 exact zA (hq al hal)
theorem zM2 {pk:Pkt} {al:List Bool} (h:zGV pk al) {k:Nat} (hk:k<5):Bd.bits (fv k) (wdF k) (asg al)=(List.range (wdF k)).map (fun i=>bt (zDM pk k) (wdF k-1-i)):=by
 rw [Bd.bits]
 refine List.map_congr_left (fun i hi=> ?_)
 rw [List.mem_range] at hi
 rw [asg,List.getD_eq_getElem?_getD,h.bit k hk i hi]
 rfl
theorem zRI (q:Nat→Option Bool) (l:List Bool):fits q l=true↔ ∀i b,l[i]? =some b→zMw (q i) b=true:=by
 rw [fits,List.all_eq_true]
 constructor
 ·intro h i b hb
  have hi:=(List.getElem?_eq_some_iff.1 hb).1
  have:=h i (List.mem_range.2 hi)
  revert this
  unfold zMw
  cases q i with
  |none=>exact fun _=>rfl
  |some c=>intro h;rw [hb] at h;simpa using h
 ·intro h i hi
  rw [List.mem_range] at hi
  have:=h i l[i] (by simp [hi])
  revert this
  unfold zMw
  cases q i with
  |none=>exact fun _=>rfl
  |some c=>intro h;simp only [hi,List.getElem?_eq_getElem];simpa using h
theorem zPk {pk:Pkt} {al:List Bool} (h:zGV pk al) {k:Nat} (hk:k<2) (A M:Int):uP k A M (asg al)=true↔ ∀j,j<32→bt M j=true∨bt (zDM pk k) j=bt A j:=by
 have hw:wdF k=32:=by
  have:k=0∨k=1:=by omega
  rcases this with rfl|rfl<;>rfl
 have hb:=zM2 h (show k<5 by omega)
 rw [hw] at hb
 rw [uP,hb,zRI]
 constructor
 ·intro hh j hj
  have:=hh (31-j) (bt (zDM pk k) j) (by
   rw [List.getElem?_map,List.getElem?_range (by omega)]
   simp only [Option.map_some,show 32-1- (31-j)=j by omega])
  unfold wq zMw at this
  rw [show 31- (31-j)=j by omega] at this
  cases hM:bt M j with
  |true=>exact .inl rfl
  |false=>
   rw [hM] at this
   exact .inr (by simpa using this)
 ·intro hh i b hb
  have hi:i<32:=by
   have:=(List.getElem?_eq_some_iff.1 hb).1
   simpa using this
  rw [List.getElem?_map,List.getElem?_range hi] at hb
  simp only [Option.map_some,Option.some.injEq] at hb
  subst hb
  have:=hh (31-i) (by omega)
  unfold wq zMw
  cases hM:bt M (31-i) with
  |true=>rfl
  |false=>
   rw [hM] at this
   simp only [Bool.false_eq_true,false_or] at this
   simp only [Bool.false_eq_true,if_false,show 32-1-i=31-i by omega,this,beq_self_eq_true]
end Go.Ve

namespace Go.Ve
open Go
set_option maxRecDepth 1000000
set_option maxHeartbeats 4000000
theorem zT {α:Type} {xs:List α} {i:Int} {Q:α→Prop} {B:α→Prop} (hB: ∀y,y∈xs→B y) (h0:0≤i) (h1:i<xs.length) (h: ∀y,xs[i.toNat]? =some y→B y→Q y):Wp (idx xs i) Q:=
 jD h0 h1 (fun y hm hy=>h y hy (hB y hm))
structure SmL (r:Ty.El zD):Prop where
 i1:List.length r.2.2.1≤1048576
 i2:List.length r.2.2.2.1≤1048576
 i3:List.length r.2.2.2.2.1≤1048576
 i4:List.length r.2.2.2.2.2.1≤1048576
 i5:List.length r.2.2.2.2.2.2.1≤1048576
 i6:List.length r.2.2.2.2.2.2.2.1≤1048576
 i7:List.length r.2.2.2.2.2.2.2.2.1.2.2.1≤1048576
 i8:List.length r.2.2.2.2.2.2.2.2.1.2.2.2.1≤1048576
 i9:List.length r.2.2.2.2.2.2.2.2.2.1.2.2.2.2.1≤1048576
 i10:List.length r.2.2.2.2.2.2.2.2.2.2.1.2.2.2.1≤1048576
 i11:List.length r.2.2.2.2.2.2.2.2.2.2.1.2.2.2.2.1≤1048576
 i12:List.length r.2.2.2.2.2.2.2.2.2.2.1.2.2.2.2.2.1≤1048576
 i13:List.length r.2.2.2.2.2.2.2.2.2.2.1.2.2.2.2.2.2.1≤1048576
 i14:List.length r.2.2.2.2.2.2.2.2.2.2.1.2.2.2.2.2.2.2.1≤1048576
 n1: ∀y,y∈r.2.2.2.1→List.length y.2.1≤1048576
 n2: ∀y,y∈r.2.2.2.2.1→List.length y.2.1≤1048576
 n3: ∀y,y∈r.2.2.2.2.2.1→List.length y.2.1≤1048576
structure zUI (r:Ty.El tPV):Prop where
 i10:List.length r.2.2.2.1≤1048576
 i11:List.length r.2.2.2.2.1≤1048576
 i12:List.length r.2.2.2.2.2.1≤1048576
 i13:List.length r.2.2.2.2.2.2.1≤1048576
 i14:List.length r.2.2.2.2.2.2.2.1≤1048576
theorem zJV (a1:Int):Wp (yW (a1,())) (fun _=>True):=jR (xE a1) trivial
theorem xA (a1:Ty.El zI):Wp (jZ (a1,())) (fun _=>True):=jR (zDs a1) trivial
theorem zF8 (a1:Ty.El zI) (a2:Int):Wp (yB (a1,a2,())) (fun _=>True):=jR (zFn a1 a2) trivial
theorem zIH (a1:Int):Wp (zBu (a1,())) (fun _=>True):=zA trivial
theorem jL {α:Type} {xs:List α} {a b:Int} {Q:List α→Prop} (h0:0≤a) (h1:a≤b) (h2:b≤(xs.length:Int)) (h: ∀ys:List α,ys.length≤xs.length→(∀y,y∈ys→y∈xs)→Q ys):Wp (sub xs a b) Q:=by
 refine ⟨(xs.take b.toNat).drop a.toNat,?_,h _ ?_ (fun y hy=>List.mem_of_mem_take (List.mem_of_mem_drop hy))⟩
 ·unfold sub
  rw [if_pos (by omega)]
 ·rw [List.length_drop,List.length_take];omega
theorem zD5 {α:Type} (p:α→Bool) (xs:List α): -1≤zA5 p xs∧zA5 p xs< (xs.length:Int):=by
 rcases zAf p xs with ⟨h,_⟩|⟨i,x,h,hx,_⟩
 ·rw [h];exact ⟨by omega,by omega⟩
 ·have:=(List.getElem?_eq_some_iff.1 hx).1
  rw [h];exact ⟨by omega,by omega⟩
theorem zDQ (r:Ty.El zD) (s:ByteArray) (h:r.2.2.1.length≤1048576):Wp (wV (r,s,())) (fun k=>k=zA5 (fun x:Ty.El wU=>x.1==s) r.2.2.1):=by
 unfold wV jA
 refine zB (zEp (p:=fun x:Ty.El wU=>x.1==s) (Nat.lt_of_le_of_lt h (by omega)) (fun i x hx=> ?_) (zA rfl))
 rw [wR hx,Option.bind_some]
 unfold yJ
 dsimp only
 rw [Option.bind_some]
 cases x.1==s<;>rfl
theorem zAO (a1:Ty.El zD) (a2:Ty.El .str) (h0:SmL a1):Wp (wV (a1,a2,())) (fun (r:Int)=> -1≤r∧r< (List.length a1.2.2.1:Int)):=by
 refine (zDQ a1 a2 (by cases h0;assumption)).mono ?_
 rintro _ rfl
 exact zD5 _ _
theorem zDC (r:Ty.El zD) (s:ByteArray) (h:r.2.2.2.1.length≤1048576):Wp (qN (r,s,())) (fun k=>k=zA5 (fun x:Ty.El zCO=>x.1==s) r.2.2.2.1):=by
 unfold qN qW
 refine zB (zEp (p:=fun x:Ty.El zCO=>x.1==s) (Nat.lt_of_le_of_lt h (by omega)) (fun i x hx=> ?_) (zA rfl))
 rw [wR hx,Option.bind_some]
 unfold uV
 dsimp only
 rw [Option.bind_some]
 cases x.1==s<;>rfl
theorem kZ (a1:Ty.El zD) (a2:Ty.El .str) (h0:SmL a1):Wp (qN (a1,a2,())) (fun (r:Int)=> -1≤r∧r< (List.length a1.2.2.2.1:Int)):=by
 refine (zDC a1 a2 (by cases h0;assumption)).mono ?_
 rintro _ rfl
 exact zD5 _ _
theorem zEU (r:Ty.El zD) (s:ByteArray) (h:r.2.2.2.2.1.length≤1048576):Wp (jB (r,s,())) (fun k=>k=zA5 (fun x:Ty.El zGa=>x.1==s) r.2.2.2.2.1):=by
 unfold jB jE
 refine zB (zEp (p:=fun x:Ty.El zGa=>x.1==s) (Nat.lt_of_le_of_lt h (by omega)) (fun i x hx=> ?_) (zA rfl))
 rw [wR hx,Option.bind_some]
 unfold xJ
 dsimp only
 rw [Option.bind_some]
 cases x.1==s<;>rfl
theorem yH (a1:Ty.El zD) (a2:Ty.El .str) (h0:SmL a1):Wp (jB (a1,a2,())) (fun (r:Int)=> -1≤r∧r< (List.length a1.2.2.2.2.1:Int)):=by
 refine (zEU a1 a2 (by cases h0;assumption)).mono ?_
 rintro _ rfl
 exact zD5 _ _
theorem xD (r:Ty.El zD) (s:ByteArray) (h:r.2.2.2.2.2.1.length≤1048576):Wp (wW (r,s,())) (fun k=>k=zA5 (fun x:Ty.El uE=>x.1==s) r.2.2.2.2.2.1):=by
 unfold wW wH
 refine zB (zEp (p:=fun x:Ty.El uE=>x.1==s) (Nat.lt_of_le_of_lt h (by omega)) (fun i x hx=> ?_) (zA rfl))
 rw [wR hx,Option.bind_some]
 unfold zC1
 dsimp only
 rw [Option.bind_some]
 cases x.1==s<;>rfl
theorem zE5 (a1:Ty.El zD) (a2:Ty.El .str) (h0:SmL a1):Wp (wW (a1,a2,())) (fun (r:Int)=> -1≤r∧r< (List.length a1.2.2.2.2.2.1:Int)):=by
 refine (xD a1 a2 (by cases h0;assumption)).mono ?_
 rintro _ rfl
 exact zD5 _ _
theorem zF7 (a1:Ty.El zD) (a2:Ty.El tU) (h0:SmL a1):Wp (zAn (a1,a2,())) (fun (r:Int)=> -1≤r∧r< (List.length a1.2.2.1:Int)):=by
 unfold zAn q9
 refine zB (zEp (p:=fun x:Ty.El wU=>(vX (x,a2,())).getD false) (Nat.lt_of_le_of_lt h0.i1 (by omega)) (fun i x hx=> ?_) (zA (zD5 _ _)))
 rw [wR hx,Option.bind_some]
 have hc:Wp (vX (x,a2,())) (fun _=>True):=by
  unfold vX
  exact zB (zG (fun _=>zA (zA trivial)) (fun _=>zA (zA trivial)))
 obtain ⟨b,hb,_⟩:=hc
 rw [hb,Option.bind_some,Option.getD_some]
 cases b<;>rfl
theorem zH4 (a1:Ty.El (.int .u8))  :Wp (zAt (a1,())) (fun _=>True):=by
 unfold zAt
 try dsimp only
 repeat' (first
  |with_reducible exact trivial
  |assumption
  |contradiction
  |with_reducible refine zA ?_
  |with_reducible refine zQ ?_ ?_ (fun y _ _=> ?_)
  |with_reducible refine jL ?_ ?_ ?_ (fun ys _ _=> ?_)
  |with_reducible refine jD ?_ ?_ (fun y _ _=> ?_)
  |with_reducible refine wp_bifn (fun _=> ?_) (fun _=> ?_)
  |with_reducible refine zJ (fun _=> ?_) (fun _=> ?_)
  |with_reducible refine zG (fun _=> ?_) (fun _=> ?_)
  |with_reducible refine qG ?_
  |with_reducible refine jM (fun s _ _=> ?_) (fun s _ _=> ?_)
  |simp only [idx_of ‹_[_]? =some _›,Option.bind_some]
  |with_reducible refine wp_map ?_
  |with_reducible refine zB ?_
  |with_reducible refine e2l ?_
  |with_reducible refine e2r ?_
  |exact wrap_i64 (by omega) (by omega)
  |omega
  |(rw [wrap_i64 (by omega) (by omega)];omega)
  |(simp only [beq_iff_eq] at*;omega)
  |(simp only [List.length_cons,List.length_nil] at*;exact wrap_i64 (by omega) (by omega)))
theorem zIG (a1:Ty.El (.int .u8))  :Wp (scan_digit (a1,())) (fun _=>True):=by
 unfold scan_digit
 try dsimp only
 repeat' (first
  |with_reducible exact trivial
  |assumption
  |contradiction
  |with_reducible refine zA ?_
  |with_reducible refine zQ ?_ ?_ (fun y _ _=> ?_)
  |with_reducible refine jL ?_ ?_ ?_ (fun ys _ _=> ?_)
  |with_reducible refine jD ?_ ?_ (fun y _ _=> ?_)
  |with_reducible refine wp_bifn (fun _=> ?_) (fun _=> ?_)
  |with_reducible refine zJ (fun _=> ?_) (fun _=> ?_)
  |with_reducible refine zG (fun _=> ?_) (fun _=> ?_)
  |with_reducible refine qG ?_
  |with_reducible refine jM (fun s _ _=> ?_) (fun s _ _=> ?_)
  |simp only [idx_of ‹_[_]? =some _›,Option.bind_some]
  |with_reducible refine wp_map ?_
  |with_reducible refine zB ?_
  |with_reducible refine e2l ?_
  |with_reducible refine e2r ?_
  |exact wrap_i64 (by omega) (by omega)
  |omega
  |(rw [wrap_i64 (by omega) (by omega)];omega)
  |(simp only [beq_iff_eq] at*;omega)
  |(simp only [List.length_cons,List.length_nil] at*;exact wrap_i64 (by omega) (by omega)))
theorem zAm (a1:Ty.El (.str))  :Wp (yN (a1,())) (fun _=>True):=by
 unfold yN
 try dsimp only
 repeat' (first
  |with_reducible exact trivial
  |assumption
  |contradiction
  |with_reducible refine zA ?_
  |with_reducible refine (zH4 _).mono (fun r _=> ?_)
  |with_reducible refine (zIG _).mono (fun r _=> ?_)
  |with_reducible refine zQ ?_ ?_ (fun y _ _=> ?_)
  |with_reducible refine jL ?_ ?_ ?_ (fun ys _ _=> ?_)
  |with_reducible refine jD ?_ ?_ (fun y _ _=> ?_)
  |with_reducible refine wp_bifn (fun _=> ?_) (fun _=> ?_)
  |with_reducible refine zJ (fun _=> ?_) (fun _=> ?_)
  |with_reducible refine zG (fun _=> ?_) (fun _=> ?_)
  |with_reducible refine qG ?_
  |with_reducible refine jM (fun s _ _=> ?_) (fun s _ _=> ?_)
  |simp only [idx_of ‹_[_]? =some _›,Option.bind_some]
  |with_reducible refine wp_map ?_
  |with_reducible refine zB ?_
  |with_reducible refine e2l ?_
  |with_reducible refine e2r ?_
  |exact wrap_i64 (by omega) (by omega)
  |omega
  |(rw [wrap_i64 (by omega) (by omega)];omega)
  |(simp only [beq_iff_eq] at*;omega)
  |(simp only [List.length_cons,List.length_nil] at*;exact wrap_i64 (by omega) (by omega)))
theorem qL (a1:Ty.El (tI)) (a2:Ty.El (tI)) (a3:Ty.El (tI))  :Wp (zF (a1,a2,a3,())) (fun _=>True):=by
 unfold zF
 try dsimp only
 repeat' (first
  |with_reducible exact trivial
  |assumption
  |contradiction
  |with_reducible refine zA ?_
  |with_reducible refine zQ ?_ ?_ (fun y _ _=> ?_)
  |with_reducible refine jL ?_ ?_ ?_ (fun ys _ _=> ?_)
  |with_reducible refine jD ?_ ?_ (fun y _ _=> ?_)
  |with_reducible refine wp_bifn (fun _=> ?_) (fun _=> ?_)
  |with_reducible refine zJ (fun _=> ?_) (fun _=> ?_)
  |with_reducible refine zG (fun _=> ?_) (fun _=> ?_)
  |with_reducible refine qG ?_
  |with_reducible refine jM (fun s _ _=> ?_) (fun s _ _=> ?_)
  |simp only [idx_of ‹_[_]? =some _›,Option.bind_some]
  |with_reducible refine wp_map ?_
  |with_reducible refine zB ?_
  |with_reducible refine e2l ?_
  |with_reducible refine e2r ?_
  |exact wrap_i64 (by omega) (by omega)
  |omega
  |(rw [wrap_i64 (by omega) (by omega)];omega)
  |(simp only [beq_iff_eq] at*;omega)
  |(simp only [List.length_cons,List.length_nil] at*;exact wrap_i64 (by omega) (by omega)))
theorem zB2 (a1:Ty.El (wU))  :Wp (w6 (a1,())) (fun _=>True):=by
 unfold w6
 try dsimp only
 repeat' (first
  |with_reducible exact trivial
  |assumption
  |contradiction
  |with_reducible refine zA ?_
  |with_reducible refine (qL _ _ _).mono (fun r _=> ?_)
  |with_reducible refine zQ ?_ ?_ (fun y _ _=> ?_)
  |with_reducible refine jL ?_ ?_ ?_ (fun ys _ _=> ?_)
  |with_reducible refine jD ?_ ?_ (fun y _ _=> ?_)
  |with_reducible refine wp_bifn (fun _=> ?_) (fun _=> ?_)
  |with_reducible refine zJ (fun _=> ?_) (fun _=> ?_)
  |with_reducible refine zG (fun _=> ?_) (fun _=> ?_)
  |with_reducible refine qG ?_
  |with_reducible refine jM (fun s _ _=> ?_) (fun s _ _=> ?_)
  |simp only [idx_of ‹_[_]? =some _›,Option.bind_some]
  |with_reducible refine wp_map ?_
  |with_reducible refine zB ?_
  |with_reducible refine e2l ?_
  |with_reducible refine e2r ?_
  |exact wrap_i64 (by omega) (by omega)
  |omega
  |(rw [wrap_i64 (by omega) (by omega)];omega)
  |(simp only [beq_iff_eq] at*;omega)
  |(simp only [List.length_cons,List.length_nil] at*;exact wrap_i64 (by omega) (by omega)))
theorem zG3 (a1:Ty.El (tU)) (a2:Ty.El (tI))  :Wp (xU (a1,a2,())) (fun _=>True):=by
 unfold xU
 try dsimp only
 repeat' (first
  |with_reducible exact trivial
  |assumption
  |contradiction
  |with_reducible refine zA ?_
  |with_reducible refine (zJV _).mono (fun r _=> ?_)
  |with_reducible refine (zIH _).mono (fun r _=> ?_)
  |with_reducible refine zQ ?_ ?_ (fun y _ _=> ?_)
  |with_reducible refine jL ?_ ?_ ?_ (fun ys _ _=> ?_)
  |with_reducible refine jD ?_ ?_ (fun y _ _=> ?_)
  |with_reducible refine wp_bifn (fun _=> ?_) (fun _=> ?_)
  |with_reducible refine zJ (fun _=> ?_) (fun _=> ?_)
  |with_reducible refine zG (fun _=> ?_) (fun _=> ?_)
  |with_reducible refine qG ?_
  |with_reducible refine jM (fun s _ _=> ?_) (fun s _ _=> ?_)
  |simp only [idx_of ‹_[_]? =some _›,Option.bind_some]
  |with_reducible refine wp_map ?_
  |with_reducible refine zB ?_
  |with_reducible refine e2l ?_
  |with_reducible refine e2r ?_
  |exact wrap_i64 (by omega) (by omega)
  |omega
  |(rw [wrap_i64 (by omega) (by omega)];omega)
  |(simp only [beq_iff_eq] at*;omega)
  |(simp only [List.length_cons,List.length_nil] at*;exact wrap_i64 (by omega) (by omega)))
theorem zH5 (a1:Ty.El (zI)) (a2:Ty.El (zI))  :Wp (zAC (a1,a2,())) (fun _=>True):=by
 unfold zAC
 try dsimp only
 repeat' (first
  |with_reducible exact trivial
  |assumption
  |contradiction
  |with_reducible refine zA ?_
  |with_reducible refine (zF8 _ _).mono (fun r _=> ?_)
  |with_reducible refine zQ ?_ ?_ (fun y _ _=> ?_)
  |with_reducible refine jL ?_ ?_ ?_ (fun ys _ _=> ?_)
  |with_reducible refine jD ?_ ?_ (fun y _ _=> ?_)
  |with_reducible refine wp_bifn (fun _=> ?_) (fun _=> ?_)
  |with_reducible refine zJ (fun _=> ?_) (fun _=> ?_)
  |with_reducible refine zG (fun _=> ?_) (fun _=> ?_)
  |with_reducible refine qG ?_
  |with_reducible refine jM (fun s _ _=> ?_) (fun s _ _=> ?_)
  |simp only [idx_of ‹_[_]? =some _›,Option.bind_some]
  |with_reducible refine wp_map ?_
  |with_reducible refine zB ?_
  |with_reducible refine e2l ?_
  |with_reducible refine e2r ?_
  |exact wrap_i64 (by omega) (by omega)
  |omega
  |(rw [wrap_i64 (by omega) (by omega)];omega)
  |(simp only [beq_iff_eq] at*;omega)
  |(simp only [List.length_cons,List.length_nil] at*;exact wrap_i64 (by omega) (by omega)))
theorem zBI (a1:Ty.El (zI)) (a2:Ty.El (zI))  :Wp (yA (a1,a2,())) (fun _=>True):=by
 unfold yA
 try dsimp only
 repeat' (first
  |with_reducible exact trivial
  |assumption
  |contradiction
  |with_reducible refine zA ?_
  |with_reducible refine (zH5 _ _).mono (fun r _=> ?_)
  |with_reducible refine zQ ?_ ?_ (fun y _ _=> ?_)
  |with_reducible refine jL ?_ ?_ ?_ (fun ys _ _=> ?_)
  |with_reducible refine jD ?_ ?_ (fun y _ _=> ?_)
  |with_reducible refine wp_bifn (fun _=> ?_) (fun _=> ?_)
  |with_reducible refine zJ (fun _=> ?_) (fun _=> ?_)
  |with_reducible refine zG (fun _=> ?_) (fun _=> ?_)
  |with_reducible refine qG ?_
  |with_reducible refine jM (fun s _ _=> ?_) (fun s _ _=> ?_)
  |simp only [idx_of ‹_[_]? =some _›,Option.bind_some]
  |with_reducible refine wp_map ?_
  |with_reducible refine zB ?_
  |with_reducible refine e2l ?_
  |with_reducible refine e2r ?_
  |exact wrap_i64 (by omega) (by omega)
  |omega
  |(rw [wrap_i64 (by omega) (by omega)];omega)
  |(simp only [beq_iff_eq] at*;omega)
  |(simp only [List.length_cons,List.length_nil] at*;exact wrap_i64 (by omega) (by omega)))
theorem zBA (a1:Ty.El (zD)) (h0:SmL a1):Wp (wQ (a1,())) (fun _=>True):=by
 have hh0:=h0
 obtain ⟨i1,i2,i3,i4,i5,i6,i7,i8,i9,i10,i11,i12,i13,i14,n1,n2,n3⟩:=hh0
 unfold wQ
 try dsimp only
 repeat' (first
  |with_reducible exact trivial
  |exact ⟨i10,i11,i12,i13,i14⟩
  |assumption
  |contradiction
  |with_reducible refine zA ?_
  |with_reducible refine (zAm _).mono (fun r _=> ?_)
  |with_reducible refine (zAO _ _ ?_).mono (fun r _=> ?_)
  |with_reducible refine (zB2 _).mono (fun r _=> ?_)
  |with_reducible refine (zG3 _ _).mono (fun r _=> ?_)
  |with_reducible refine (zBI _ _).mono (fun r _=> ?_)
  |with_reducible refine zQ ?_ ?_ (fun y _ _=> ?_)
  |with_reducible refine zT n1 ?_ ?_ (fun y _ _=> ?_)
  |with_reducible refine zT n2 ?_ ?_ (fun y _ _=> ?_)
  |with_reducible refine zT n3 ?_ ?_ (fun y _ _=> ?_)
  |with_reducible refine jL ?_ ?_ ?_ (fun ys _ _=> ?_)
  |with_reducible refine jD ?_ ?_ (fun y _ _=> ?_)
  |with_reducible refine wp_bifn (fun _=> ?_) (fun _=> ?_)
  |with_reducible refine zJ (fun _=> ?_) (fun _=> ?_)
  |with_reducible refine zG (fun _=> ?_) (fun _=> ?_)
  |with_reducible refine qG ?_
  |with_reducible refine jM (fun s _ _=> ?_) (fun s _ _=> ?_)
  |simp only [idx_of ‹_[_]? =some _›,Option.bind_some]
  |with_reducible refine wp_map ?_
  |with_reducible refine zB ?_
  |with_reducible refine e2l ?_
  |with_reducible refine e2r ?_
  |exact wrap_i64 (by omega) (by omega)
  |omega
  |(rw [wrap_i64 (by omega) (by omega)];omega)
  |(simp only [beq_iff_eq] at*;omega)
  |(simp only [List.length_cons,List.length_nil] at*;exact wrap_i64 (by omega) (by omega)))
theorem zAN (a1:Ty.El (tI)) (a2:Ty.El (tI)) (a3:Ty.El (.str)) (a4:Ty.El (tI)) (a5:Ty.El (tI))  :Wp (jW (a1,a2,a3,a4,a5,())) (fun _=>True):=by
 unfold jW
 try dsimp only
 repeat' (first
  |with_reducible exact trivial
  |assumption
  |contradiction
  |with_reducible refine zA ?_
  |with_reducible refine (zAm _).mono (fun r _=> ?_)
  |with_reducible refine zQ ?_ ?_ (fun y _ _=> ?_)
  |with_reducible refine jL ?_ ?_ ?_ (fun ys _ _=> ?_)
  |with_reducible refine jD ?_ ?_ (fun y _ _=> ?_)
  |with_reducible refine wp_bifn (fun _=> ?_) (fun _=> ?_)
  |with_reducible refine zJ (fun _=> ?_) (fun _=> ?_)
  |with_reducible refine zG (fun _=> ?_) (fun _=> ?_)
  |with_reducible refine qG ?_
  |with_reducible refine jM (fun s _ _=> ?_) (fun s _ _=> ?_)
  |simp only [idx_of ‹_[_]? =some _›,Option.bind_some]
  |with_reducible refine wp_map ?_
  |with_reducible refine zB ?_
  |with_reducible refine e2l ?_
  |with_reducible refine e2r ?_
  |exact wrap_i64 (by omega) (by omega)
  |omega
  |(rw [wrap_i64 (by omega) (by omega)];omega)
  |(simp only [beq_iff_eq] at*;omega)
  |(simp only [List.length_cons,List.length_nil] at*;exact wrap_i64 (by omega) (by omega)))
theorem zBh (a1:Ty.El (zD)) (h0:SmL a1):Wp (j7 (a1,())) (fun _=>True):=by
 have hh0:=h0
 obtain ⟨i1,i2,i3,i4,i5,i6,i7,i8,i9,i10,i11,i12,i13,i14,n1,n2,n3⟩:=hh0
 unfold j7
 try dsimp only
 repeat' (first
  |with_reducible exact trivial
  |exact ⟨i10,i11,i12,i13,i14⟩
  |assumption
  |contradiction
  |with_reducible refine zA ?_
  |with_reducible refine (kZ _ _ ?_).mono (fun r _=> ?_)
  |with_reducible refine (zAN _ _ _ _ _).mono (fun r _=> ?_)
  |with_reducible refine (xA _).mono (fun r _=> ?_)
  |with_reducible refine zQ ?_ ?_ (fun y _ _=> ?_)
  |with_reducible refine zT n1 ?_ ?_ (fun y _ _=> ?_)
  |with_reducible refine zT n2 ?_ ?_ (fun y _ _=> ?_)
  |with_reducible refine zT n3 ?_ ?_ (fun y _ _=> ?_)
  |with_reducible refine jL ?_ ?_ ?_ (fun ys _ _=> ?_)
  |with_reducible refine jD ?_ ?_ (fun y _ _=> ?_)
  |with_reducible refine wp_bifn (fun _=> ?_) (fun _=> ?_)
  |with_reducible refine zJ (fun _=> ?_) (fun _=> ?_)
  |with_reducible refine zG (fun _=> ?_) (fun _=> ?_)
  |with_reducible refine qG ?_
  |with_reducible refine jM (fun s _ _=> ?_) (fun s _ _=> ?_)
  |simp only [idx_of ‹_[_]? =some _›,Option.bind_some]
  |with_reducible refine wp_map ?_
  |with_reducible refine zB ?_
  |with_reducible refine e2l ?_
  |with_reducible refine e2r ?_
  |exact wrap_i64 (by omega) (by omega)
  |omega
  |(rw [wrap_i64 (by omega) (by omega)];omega)
  |(simp only [beq_iff_eq] at*;omega)
  |(simp only [List.length_cons,List.length_nil] at*;exact wrap_i64 (by omega) (by omega)))
theorem zDB (a1:Ty.El (zGb))  :Wp (kX (a1,())) (fun _=>True):=by
 unfold kX
 try dsimp only
 repeat' (first
  |with_reducible exact trivial
  |assumption
  |contradiction
  |with_reducible refine zA ?_
  |with_reducible refine (qL _ _ _).mono (fun r _=> ?_)
  |with_reducible refine zQ ?_ ?_ (fun y _ _=> ?_)
  |with_reducible refine jL ?_ ?_ ?_ (fun ys _ _=> ?_)
  |with_reducible refine jD ?_ ?_ (fun y _ _=> ?_)
  |with_reducible refine wp_bifn (fun _=> ?_) (fun _=> ?_)
  |with_reducible refine zJ (fun _=> ?_) (fun _=> ?_)
  |with_reducible refine zG (fun _=> ?_) (fun _=> ?_)
  |with_reducible refine qG ?_
  |with_reducible refine jM (fun s _ _=> ?_) (fun s _ _=> ?_)
  |simp only [idx_of ‹_[_]? =some _›,Option.bind_some]
  |with_reducible refine wp_map ?_
  |with_reducible refine zB ?_
  |with_reducible refine e2l ?_
  |with_reducible refine e2r ?_
  |exact wrap_i64 (by omega) (by omega)
  |omega
  |(rw [wrap_i64 (by omega) (by omega)];omega)
  |(simp only [beq_iff_eq] at*;omega)
  |(simp only [List.length_cons,List.length_nil] at*;exact wrap_i64 (by omega) (by omega)))
theorem zB3 (a1:Ty.El (zD)) (h0:SmL a1):Wp (w7 (a1,())) (fun _=>True):=by
 have hh0:=h0
 obtain ⟨i1,i2,i3,i4,i5,i6,i7,i8,i9,i10,i11,i12,i13,i14,n1,n2,n3⟩:=hh0
 unfold w7
 try dsimp only
 repeat' (first
  |with_reducible exact trivial
  |exact ⟨i10,i11,i12,i13,i14⟩
  |assumption
  |contradiction
  |with_reducible refine zA ?_
  |with_reducible refine (yH _ _ ?_).mono (fun r _=> ?_)
  |with_reducible refine (zAN _ _ _ _ _).mono (fun r _=> ?_)
  |with_reducible refine (kZ _ _ ?_).mono (fun r _=> ?_)
  |with_reducible refine (zDB _).mono (fun r _=> ?_)
  |with_reducible refine zQ ?_ ?_ (fun y _ _=> ?_)
  |with_reducible refine zT n1 ?_ ?_ (fun y _ _=> ?_)
  |with_reducible refine zT n2 ?_ ?_ (fun y _ _=> ?_)
  |with_reducible refine zT n3 ?_ ?_ (fun y _ _=> ?_)
  |with_reducible refine jL ?_ ?_ ?_ (fun ys _ _=> ?_)
  |with_reducible refine jD ?_ ?_ (fun y _ _=> ?_)
  |with_reducible refine wp_bifn (fun _=> ?_) (fun _=> ?_)
  |with_reducible refine zJ (fun _=> ?_) (fun _=> ?_)
  |with_reducible refine zG (fun _=> ?_) (fun _=> ?_)
  |with_reducible refine qG ?_
  |with_reducible refine jM (fun s _ _=> ?_) (fun s _ _=> ?_)
  |simp only [idx_of ‹_[_]? =some _›,Option.bind_some]
  |with_reducible refine wp_map ?_
  |with_reducible refine zB ?_
  |with_reducible refine e2l ?_
  |with_reducible refine e2r ?_
  |exact wrap_i64 (by omega) (by omega)
  |omega
  |(rw [wrap_i64 (by omega) (by omega)];omega)
  |(simp only [beq_iff_eq] at*;omega)
  |(simp only [List.length_cons,List.length_nil] at*;exact wrap_i64 (by omega) (by omega)))
theorem zBg (a1:Ty.El (zQD))  :Wp (j6 (a1,())) (fun _=>True):=by
 unfold j6
 try dsimp only
 repeat' (first
  |with_reducible exact trivial
  |assumption
  |contradiction
  |with_reducible refine zA ?_
  |with_reducible refine (qL _ _ _).mono (fun r _=> ?_)
  |with_reducible refine zQ ?_ ?_ (fun y _ _=> ?_)
  |with_reducible refine jL ?_ ?_ ?_ (fun ys _ _=> ?_)
  |with_reducible refine jD ?_ ?_ (fun y _ _=> ?_)
  |with_reducible refine wp_bifn (fun _=> ?_) (fun _=> ?_)
  |with_reducible refine zJ (fun _=> ?_) (fun _=> ?_)
  |with_reducible refine zG (fun _=> ?_) (fun _=> ?_)
  |with_reducible refine qG ?_
  |with_reducible refine jM (fun s _ _=> ?_) (fun s _ _=> ?_)
  |simp only [idx_of ‹_[_]? =some _›,Option.bind_some]
  |with_reducible refine wp_map ?_
  |with_reducible refine zB ?_
  |with_reducible refine e2l ?_
  |with_reducible refine e2r ?_
  |exact wrap_i64 (by omega) (by omega)
  |omega
  |(rw [wrap_i64 (by omega) (by omega)];omega)
  |(simp only [beq_iff_eq] at*;omega)
  |(simp only [List.length_cons,List.length_nil] at*;exact wrap_i64 (by omega) (by omega)))
theorem zFk (a1:Ty.El (zD)) (h0:SmL a1):Wp (xI (a1,())) (fun _=>True):=by
 have hh0:=h0
 obtain ⟨i1,i2,i3,i4,i5,i6,i7,i8,i9,i10,i11,i12,i13,i14,n1,n2,n3⟩:=hh0
 unfold xI
 try dsimp only
 repeat' (first
  |with_reducible exact trivial
  |exact ⟨i10,i11,i12,i13,i14⟩
  |assumption
  |contradiction
  |with_reducible refine zA ?_
  |with_reducible refine (zBg _).mono (fun r _=> ?_)
  |with_reducible refine (zE5 _ _ ?_).mono (fun r _=> ?_)
  |with_reducible refine zQ ?_ ?_ (fun y _ _=> ?_)
  |with_reducible refine zT n1 ?_ ?_ (fun y _ _=> ?_)
  |with_reducible refine zT n2 ?_ ?_ (fun y _ _=> ?_)
  |with_reducible refine zT n3 ?_ ?_ (fun y _ _=> ?_)
  |with_reducible refine jL ?_ ?_ ?_ (fun ys _ _=> ?_)
  |with_reducible refine jD ?_ ?_ (fun y _ _=> ?_)
  |with_reducible refine wp_bifn (fun _=> ?_) (fun _=> ?_)
  |with_reducible refine zJ (fun _=> ?_) (fun _=> ?_)
  |with_reducible refine zG (fun _=> ?_) (fun _=> ?_)
  |with_reducible refine qG ?_
  |with_reducible refine jM (fun s _ _=> ?_) (fun s _ _=> ?_)
  |simp only [idx_of ‹_[_]? =some _›,Option.bind_some]
  |with_reducible refine wp_map ?_
  |with_reducible refine zB ?_
  |with_reducible refine e2l ?_
  |with_reducible refine e2r ?_
  |exact wrap_i64 (by omega) (by omega)
  |omega
  |(rw [wrap_i64 (by omega) (by omega)];omega)
  |(simp only [beq_iff_eq] at*;omega)
  |(simp only [List.length_cons,List.length_nil] at*;exact wrap_i64 (by omega) (by omega)))
theorem zCL (a1:Ty.El (zD)) (h0:SmL a1):Wp (kH (a1,())) (fun _=>True):=by
 have hh0:=h0
 obtain ⟨i1,i2,i3,i4,i5,i6,i7,i8,i9,i10,i11,i12,i13,i14,n1,n2,n3⟩:=hh0
 unfold kH
 try dsimp only
 repeat' (first
  |with_reducible exact trivial
  |exact ⟨i10,i11,i12,i13,i14⟩
  |assumption
  |contradiction
  |with_reducible refine zA ?_
  |with_reducible refine (zE5 _ _ ?_).mono (fun r _=> ?_)
  |with_reducible refine zQ ?_ ?_ (fun y _ _=> ?_)
  |with_reducible refine zT n1 ?_ ?_ (fun y _ _=> ?_)
  |with_reducible refine zT n2 ?_ ?_ (fun y _ _=> ?_)
  |with_reducible refine zT n3 ?_ ?_ (fun y _ _=> ?_)
  |with_reducible refine jL ?_ ?_ ?_ (fun ys _ _=> ?_)
  |with_reducible refine jD ?_ ?_ (fun y _ _=> ?_)
  |with_reducible refine wp_bifn (fun _=> ?_) (fun _=> ?_)
  |with_reducible refine zJ (fun _=> ?_) (fun _=> ?_)
  |with_reducible refine zG (fun _=> ?_) (fun _=> ?_)
  |with_reducible refine qG ?_
  |with_reducible refine jM (fun s _ _=> ?_) (fun s _ _=> ?_)
  |simp only [idx_of ‹_[_]? =some _›,Option.bind_some]
  |with_reducible refine wp_map ?_
  |with_reducible refine zB ?_
  |with_reducible refine e2l ?_
  |with_reducible refine e2r ?_
  |exact wrap_i64 (by omega) (by omega)
  |omega
  |(rw [wrap_i64 (by omega) (by omega)];omega)
  |(simp only [beq_iff_eq] at*;omega)
  |(simp only [List.length_cons,List.length_nil] at*;exact wrap_i64 (by omega) (by omega)))
theorem zDA (a1:Ty.El (zD)) (a2:Ty.El (zCN)) (h0:SmL a1):Wp (kW (a1,a2,())) (fun _=>True):=by
 have hh0:=h0
 obtain ⟨i1,i2,i3,i4,i5,i6,i7,i8,i9,i10,i11,i12,i13,i14,n1,n2,n3⟩:=hh0
 unfold kW
 try dsimp only
 refine zB (zOD (by simp) (fun _ _=>True) trivial (fun i x g hx _=>zB (jR (wR hx) (zG (fun _=>zA trivial) (fun _=>zA trivial)))) (fun g _=> ?_))
 repeat' (first
  |with_reducible exact trivial
  |exact ⟨i10,i11,i12,i13,i14⟩
  |assumption
  |contradiction
  |with_reducible refine zA ?_
  |with_reducible refine (xA _).mono (fun r _=> ?_)
  |with_reducible refine (zF7 _ _ ?_).mono (fun r _=> ?_)
  |with_reducible refine (qL _ _ _).mono (fun r _=> ?_)
  |with_reducible refine zQ ?_ ?_ (fun y _ _=> ?_)
  |with_reducible refine zT n1 ?_ ?_ (fun y _ _=> ?_)
  |with_reducible refine zT n2 ?_ ?_ (fun y _ _=> ?_)
  |with_reducible refine zT n3 ?_ ?_ (fun y _ _=> ?_)
  |with_reducible refine jL ?_ ?_ ?_ (fun ys _ _=> ?_)
  |with_reducible refine jD ?_ ?_ (fun y _ _=> ?_)
  |with_reducible refine wp_bifn (fun _=> ?_) (fun _=> ?_)
  |with_reducible refine zJ (fun _=> ?_) (fun _=> ?_)
  |with_reducible refine zG (fun _=> ?_) (fun _=> ?_)
  |with_reducible refine qG ?_
  |with_reducible refine jM (fun s _ _=> ?_) (fun s _ _=> ?_)
  |simp only [idx_of ‹_[_]? =some _›,Option.bind_some]
  |with_reducible refine wp_map ?_
  |with_reducible refine zB ?_
  |with_reducible refine e2l ?_
  |with_reducible refine e2r ?_
  |exact wrap_i64 (by omega) (by omega)
  |omega
  |(rw [wrap_i64 (by omega) (by omega)];omega)
  |(simp only [beq_iff_eq] at*;omega)
  |(simp only [List.length_cons,List.length_nil] at*;exact wrap_i64 (by omega) (by omega)))
theorem zCJ (a1:Ty.El (zD)) (h0:SmL a1):Wp (kF (a1,())) (fun _=>True):=by
 have hh0:=h0
 obtain ⟨i1,i2,i3,i4,i5,i6,i7,i8,i9,i10,i11,i12,i13,i14,n1,n2,n3⟩:=hh0
 unfold kF
 try dsimp only
 repeat' (first
  |with_reducible exact trivial
  |exact ⟨i10,i11,i12,i13,i14⟩
  |assumption
  |contradiction
  |with_reducible refine zA ?_
  |with_reducible refine (zDA _ _ ?_).mono (fun r _=> ?_)
  |with_reducible refine (zAO _ _ ?_).mono (fun r _=> ?_)
  |with_reducible refine zQ ?_ ?_ (fun y _ _=> ?_)
  |with_reducible refine zT n1 ?_ ?_ (fun y _ _=> ?_)
  |with_reducible refine zT n2 ?_ ?_ (fun y _ _=> ?_)
  |with_reducible refine zT n3 ?_ ?_ (fun y _ _=> ?_)
  |with_reducible refine jL ?_ ?_ ?_ (fun ys _ _=> ?_)
  |with_reducible refine jD ?_ ?_ (fun y _ _=> ?_)
  |with_reducible refine wp_bifn (fun _=> ?_) (fun _=> ?_)
  |with_reducible refine zJ (fun _=> ?_) (fun _=> ?_)
  |with_reducible refine zG (fun _=> ?_) (fun _=> ?_)
  |with_reducible refine qG ?_
  |with_reducible refine jM (fun s _ _=> ?_) (fun s _ _=> ?_)
  |simp only [idx_of ‹_[_]? =some _›,Option.bind_some]
  |with_reducible refine wp_map ?_
  |with_reducible refine zB ?_
  |with_reducible refine e2l ?_
  |with_reducible refine e2r ?_
  |exact wrap_i64 (by omega) (by omega)
  |omega
  |(rw [wrap_i64 (by omega) (by omega)];omega)
  |(simp only [beq_iff_eq] at*;omega)
  |(simp only [List.length_cons,List.length_nil] at*;exact wrap_i64 (by omega) (by omega)))
theorem kS (a1:Ty.El (zD)) (a2:Ty.El (.sl zAY)) (a3:Ty.El (tI)) (a4:Ty.El (tI)) (a5:Ty.El (tI)) (a6:Ty.El (tI)) (h0:SmL a1) (h1:List.length a2≤1048576):Wp (jS (a1,a2,a3,a4,a5,a6,())) (fun _=>True):=by
 have hh0:=h0
 obtain ⟨i1,i2,i3,i4,i5,i6,i7,i8,i9,i10,i11,i12,i13,i14,n1,n2,n3⟩:=hh0
 unfold jS
 try dsimp only
 repeat' (first
  |with_reducible exact trivial
  |exact ⟨i10,i11,i12,i13,i14⟩
  |assumption
  |contradiction
  |with_reducible refine zA ?_
  |with_reducible refine (qL _ _ _).mono (fun r _=> ?_)
  |with_reducible refine (yH _ _ ?_).mono (fun r _=> ?_)
  |with_reducible refine zQ ?_ ?_ (fun y _ _=> ?_)
  |with_reducible refine zT n1 ?_ ?_ (fun y _ _=> ?_)
  |with_reducible refine zT n2 ?_ ?_ (fun y _ _=> ?_)
  |with_reducible refine zT n3 ?_ ?_ (fun y _ _=> ?_)
  |with_reducible refine jL ?_ ?_ ?_ (fun ys _ _=> ?_)
  |with_reducible refine jD ?_ ?_ (fun y _ _=> ?_)
  |with_reducible refine wp_bifn (fun _=> ?_) (fun _=> ?_)
  |with_reducible refine zJ (fun _=> ?_) (fun _=> ?_)
  |with_reducible refine zG (fun _=> ?_) (fun _=> ?_)
  |with_reducible refine qG ?_
  |with_reducible refine jM (fun s _ _=> ?_) (fun s _ _=> ?_)
  |simp only [idx_of ‹_[_]? =some _›,Option.bind_some]
  |with_reducible refine wp_map ?_
  |with_reducible refine zB ?_
  |with_reducible refine e2l ?_
  |with_reducible refine e2r ?_
  |exact wrap_i64 (by omega) (by omega)
  |omega
  |(rw [wrap_i64 (by omega) (by omega)];omega)
  |(simp only [beq_iff_eq] at*;omega)
  |(simp only [List.length_cons,List.length_nil] at*;exact wrap_i64 (by omega) (by omega)))
theorem zB5 (a1:Ty.El (zD)) (h0:SmL a1):Wp (w9 (a1,())) (fun _=>True):=by
 have hh0:=h0
 obtain ⟨i1,i2,i3,i4,i5,i6,i7,i8,i9,i10,i11,i12,i13,i14,n1,n2,n3⟩:=hh0
 unfold w9
 try dsimp only
 repeat' (first
  |with_reducible exact trivial
  |exact ⟨i10,i11,i12,i13,i14⟩
  |assumption
  |contradiction
  |with_reducible refine zA ?_
  |with_reducible refine (qL _ _ _).mono (fun r _=> ?_)
  |with_reducible refine (xA _).mono (fun r _=> ?_)
  |with_reducible refine (zBI _ _).mono (fun r _=> ?_)
  |with_reducible refine (kS _ _ _ _ _ _ ?_ ?_).mono (fun r _=> ?_)
  |with_reducible refine zQ ?_ ?_ (fun y _ _=> ?_)
  |with_reducible refine zT n1 ?_ ?_ (fun y _ _=> ?_)
  |with_reducible refine zT n2 ?_ ?_ (fun y _ _=> ?_)
  |with_reducible refine zT n3 ?_ ?_ (fun y _ _=> ?_)
  |with_reducible refine jL ?_ ?_ ?_ (fun ys _ _=> ?_)
  |with_reducible refine jD ?_ ?_ (fun y _ _=> ?_)
  |with_reducible refine wp_bifn (fun _=> ?_) (fun _=> ?_)
  |with_reducible refine zJ (fun _=> ?_) (fun _=> ?_)
  |with_reducible refine zG (fun _=> ?_) (fun _=> ?_)
  |with_reducible refine qG ?_
  |with_reducible refine jM (fun s _ _=> ?_) (fun s _ _=> ?_)
  |simp only [idx_of ‹_[_]? =some _›,Option.bind_some]
  |with_reducible refine wp_map ?_
  |with_reducible refine zB ?_
  |with_reducible refine e2l ?_
  |with_reducible refine e2r ?_
  |exact wrap_i64 (by omega) (by omega)
  |omega
  |(rw [wrap_i64 (by omega) (by omega)];omega)
  |(simp only [beq_iff_eq] at*;omega)
  |(simp only [List.length_cons,List.length_nil] at*;exact wrap_i64 (by omega) (by omega)))
theorem zAs (a1:Ty.El (zD)) (h0:SmL a1):Wp (jF (a1,())) (fun _=>True):=by
 have hh0:=h0
 obtain ⟨i1,i2,i3,i4,i5,i6,i7,i8,i9,i10,i11,i12,i13,i14,n1,n2,n3⟩:=hh0
 unfold jF
 try dsimp only
 repeat' (first
  |with_reducible exact trivial
  |exact ⟨i10,i11,i12,i13,i14⟩
  |assumption
  |contradiction
  |with_reducible refine zA ?_
  |with_reducible refine (qL _ _ _).mono (fun r _=> ?_)
  |with_reducible refine (kZ _ _ ?_).mono (fun r _=> ?_)
  |with_reducible refine (kS _ _ _ _ _ _ ?_ ?_).mono (fun r _=> ?_)
  |with_reducible refine zQ ?_ ?_ (fun y _ _=> ?_)
  |with_reducible refine zT n1 ?_ ?_ (fun y _ _=> ?_)
  |with_reducible refine zT n2 ?_ ?_ (fun y _ _=> ?_)
  |with_reducible refine zT n3 ?_ ?_ (fun y _ _=> ?_)
  |with_reducible refine jL ?_ ?_ ?_ (fun ys _ _=> ?_)
  |with_reducible refine jD ?_ ?_ (fun y _ _=> ?_)
  |with_reducible refine wp_bifn (fun _=> ?_) (fun _=> ?_)
  |with_reducible refine zJ (fun _=> ?_) (fun _=> ?_)
  |with_reducible refine zG (fun _=> ?_) (fun _=> ?_)
  |with_reducible refine qG ?_
  |with_reducible refine jM (fun s _ _=> ?_) (fun s _ _=> ?_)
  |simp only [idx_of ‹_[_]? =some _›,Option.bind_some]
  |with_reducible refine wp_map ?_
  |with_reducible refine zB ?_
  |with_reducible refine e2l ?_
  |with_reducible refine e2r ?_
  |exact wrap_i64 (by omega) (by omega)
  |omega
  |(rw [wrap_i64 (by omega) (by omega)];omega)
  |(simp only [beq_iff_eq] at*;omega)
  |(simp only [List.length_cons,List.length_nil] at*;exact wrap_i64 (by omega) (by omega)))
theorem zB4 (a1:Ty.El (zD)) (h0:SmL a1):Wp (w8 (a1,())) (fun _=>True):=by
 have hh0:=h0
 obtain ⟨i1,i2,i3,i4,i5,i6,i7,i8,i9,i10,i11,i12,i13,i14,n1,n2,n3⟩:=hh0
 unfold w8
 try dsimp only
 repeat' (first
  |with_reducible exact trivial
  |exact ⟨i10,i11,i12,i13,i14⟩
  |assumption
  |contradiction
  |with_reducible refine zA ?_
  |with_reducible refine (qL _ _ _).mono (fun r _=> ?_)
  |with_reducible refine (yH _ _ ?_).mono (fun r _=> ?_)
  |with_reducible refine zQ ?_ ?_ (fun y _ _=> ?_)
  |with_reducible refine zT n1 ?_ ?_ (fun y _ _=> ?_)
  |with_reducible refine zT n2 ?_ ?_ (fun y _ _=> ?_)
  |with_reducible refine zT n3 ?_ ?_ (fun y _ _=> ?_)
  |with_reducible refine jL ?_ ?_ ?_ (fun ys _ _=> ?_)
  |with_reducible refine jD ?_ ?_ (fun y _ _=> ?_)
  |with_reducible refine wp_bifn (fun _=> ?_) (fun _=> ?_)
  |with_reducible refine zJ (fun _=> ?_) (fun _=> ?_)
  |with_reducible refine zG (fun _=> ?_) (fun _=> ?_)
  |with_reducible refine qG ?_
  |with_reducible refine jM (fun s _ _=> ?_) (fun s _ _=> ?_)
  |simp only [idx_of ‹_[_]? =some _›,Option.bind_some]
  |with_reducible refine wp_map ?_
  |with_reducible refine zB ?_
  |with_reducible refine e2l ?_
  |with_reducible refine e2r ?_
  |exact wrap_i64 (by omega) (by omega)
  |omega
  |(rw [wrap_i64 (by omega) (by omega)];omega)
  |(simp only [beq_iff_eq] at*;omega)
  |(simp only [List.length_cons,List.length_nil] at*;exact wrap_i64 (by omega) (by omega)))
theorem zCh (a1:Ty.El (.sl zI)) (a2:Ty.El (zI)) (h0:List.length a1≤1048576):Wp (vM (a1,a2,())) (fun _=>True):=by
 unfold vM
 try dsimp only
 repeat' (first
  |with_reducible exact trivial
  |assumption
  |contradiction
  |with_reducible refine zA ?_
  |with_reducible refine zQ ?_ ?_ (fun y _ _=> ?_)
  |with_reducible refine jL ?_ ?_ ?_ (fun ys _ _=> ?_)
  |with_reducible refine jD ?_ ?_ (fun y _ _=> ?_)
  |with_reducible refine wp_bifn (fun _=> ?_) (fun _=> ?_)
  |with_reducible refine zJ (fun _=> ?_) (fun _=> ?_)
  |with_reducible refine zG (fun _=> ?_) (fun _=> ?_)
  |with_reducible refine qG ?_
  |with_reducible refine jM (fun s _ _=> ?_) (fun s _ _=> ?_)
  |simp only [idx_of ‹_[_]? =some _›,Option.bind_some]
  |with_reducible refine wp_map ?_
  |with_reducible refine zB ?_
  |with_reducible refine e2l ?_
  |with_reducible refine e2r ?_
  |exact wrap_i64 (by omega) (by omega)
  |omega
  |(rw [wrap_i64 (by omega) (by omega)];omega)
  |(simp only [beq_iff_eq] at*;omega)
  |(simp only [List.length_cons,List.length_nil] at*;exact wrap_i64 (by omega) (by omega)))
theorem zBf (a1:Ty.El (.sl zI)) (a2:Ty.El (zI)) (h0:List.length a1≤1048576):Wp (j4 (a1,a2,())) (fun _=>True):=by
 unfold j4
 try dsimp only
 repeat' (first
  |with_reducible exact trivial
  |assumption
  |contradiction
  |with_reducible refine zA ?_
  |with_reducible refine (zCh _ _ ?_).mono (fun r _=> ?_)
  |with_reducible refine zQ ?_ ?_ (fun y _ _=> ?_)
  |with_reducible refine jL ?_ ?_ ?_ (fun ys _ _=> ?_)
  |with_reducible refine jD ?_ ?_ (fun y _ _=> ?_)
  |with_reducible refine wp_bifn (fun _=> ?_) (fun _=> ?_)
  |with_reducible refine zJ (fun _=> ?_) (fun _=> ?_)
  |with_reducible refine zG (fun _=> ?_) (fun _=> ?_)
  |with_reducible refine qG ?_
  |with_reducible refine jM (fun s _ _=> ?_) (fun s _ _=> ?_)
  |simp only [idx_of ‹_[_]? =some _›,Option.bind_some]
  |with_reducible refine wp_map ?_
  |with_reducible refine zB ?_
  |with_reducible refine e2l ?_
  |with_reducible refine e2r ?_
  |exact wrap_i64 (by omega) (by omega)
  |omega
  |(rw [wrap_i64 (by omega) (by omega)];omega)
  |(simp only [beq_iff_eq] at*;omega)
  |(simp only [List.length_cons,List.length_nil] at*;exact wrap_i64 (by omega) (by omega)))
theorem zCK (a1:Ty.El (tPV)) (h0:zUI a1):Wp (kG (a1,())) (fun _=>True):=by
 have hh0:=h0
 obtain ⟨i10,i11,i12,i13,i14⟩:=hh0
 unfold kG
 try dsimp only
 repeat' (first
  |with_reducible exact trivial
  |assumption
  |contradiction
  |with_reducible refine zA ?_
  |with_reducible refine (xA _).mono (fun r _=> ?_)
  |with_reducible refine (zBf _ _ ?_).mono (fun r _=> ?_)
  |with_reducible refine zQ ?_ ?_ (fun y _ _=> ?_)
  |with_reducible refine jL ?_ ?_ ?_ (fun ys _ _=> ?_)
  |with_reducible refine jD ?_ ?_ (fun y _ _=> ?_)
  |with_reducible refine wp_bifn (fun _=> ?_) (fun _=> ?_)
  |with_reducible refine zJ (fun _=> ?_) (fun _=> ?_)
  |with_reducible refine zG (fun _=> ?_) (fun _=> ?_)
  |with_reducible refine qG ?_
  |with_reducible refine jM (fun s _ _=> ?_) (fun s _ _=> ?_)
  |simp only [idx_of ‹_[_]? =some _›,Option.bind_some]
  |with_reducible refine wp_map ?_
  |with_reducible refine zB ?_
  |with_reducible refine e2l ?_
  |with_reducible refine e2r ?_
  |exact wrap_i64 (by omega) (by omega)
  |omega
  |(rw [wrap_i64 (by omega) (by omega)];omega)
  |(simp only [beq_iff_eq] at*;omega)
  |(simp only [List.length_cons,List.length_nil] at*;exact wrap_i64 (by omega) (by omega)))
theorem zBz (a1:Ty.El (zD)) (h0:SmL a1):Wp (wP (a1,())) (fun _=>True):=by
 have hh0:=h0
 obtain ⟨i1,i2,i3,i4,i5,i6,i7,i8,i9,i10,i11,i12,i13,i14,n1,n2,n3⟩:=hh0
 unfold wP
 try dsimp only
 repeat' (first
  |with_reducible exact trivial
  |exact ⟨i10,i11,i12,i13,i14⟩
  |assumption
  |contradiction
  |with_reducible refine zA ?_
  |with_reducible refine (qL _ _ _).mono (fun r _=> ?_)
  |with_reducible refine (zB4 _ ?_).mono (fun r _=> ?_)
  |with_reducible refine (zCK _ ?_).mono (fun r _=> ?_)
  |with_reducible refine (kS _ _ _ _ _ _ ?_ ?_).mono (fun r _=> ?_)
  |with_reducible refine zQ ?_ ?_ (fun y _ _=> ?_)
  |with_reducible refine zT n1 ?_ ?_ (fun y _ _=> ?_)
  |with_reducible refine zT n2 ?_ ?_ (fun y _ _=> ?_)
  |with_reducible refine zT n3 ?_ ?_ (fun y _ _=> ?_)
  |with_reducible refine jL ?_ ?_ ?_ (fun ys _ _=> ?_)
  |with_reducible refine jD ?_ ?_ (fun y _ _=> ?_)
  |with_reducible refine wp_bifn (fun _=> ?_) (fun _=> ?_)
  |with_reducible refine zJ (fun _=> ?_) (fun _=> ?_)
  |with_reducible refine zG (fun _=> ?_) (fun _=> ?_)
  |with_reducible refine qG ?_
  |with_reducible refine jM (fun s _ _=> ?_) (fun s _ _=> ?_)
  |simp only [idx_of ‹_[_]? =some _›,Option.bind_some]
  |with_reducible refine wp_map ?_
  |with_reducible refine zB ?_
  |with_reducible refine e2l ?_
  |with_reducible refine e2r ?_
  |exact wrap_i64 (by omega) (by omega)
  |omega
  |(rw [wrap_i64 (by omega) (by omega)];omega)
  |(simp only [beq_iff_eq] at*;omega)
  |(simp only [List.length_cons,List.length_nil] at*;exact wrap_i64 (by omega) (by omega)))
end Go.Ve

namespace Go.Ve
open Go Go.Proofs Go.Bd Go.Proofs.Bw
set_option maxRecDepth 1000000
set_option maxHeartbeats 4000000
theorem zKe (n lo hi:Int):zF (n,lo,hi,())=some (decide (lo≤n)&&decide (n≤hi)):=by
 unfold zF
 dsimp only
 by_cases h:lo≤n<;>simp [h]
theorem zMm (x:Ty.El zBj):vW (x,())=some (decide ((0:Int)≤x.1)&&(decide (x.1≤x.2.1)&&decide (x.2.1≤(65535:Int)))):=by
 refine zGZ ?_
 unfold vW
 dsimp only
 refine zB (zG (fun h=>zG (fun h'=>zA (zA ?_)) (fun h'=>zA (zA ?_))) (fun h=>zA (zA ?_)))
 ·rw [h,h'];rfl
 ·rw [h,h'];rfl
 ·rw [h];rfl
theorem zIO (x:Ty.El qY):Wp (yD (x,())) (fun b=>b=true→zBw x):=by
 unfold yD
 dsimp only
 refine zB (Wp.mono (Q:=fun b:Bool=>b=false→(-1:Int)≤x.2.1∧ @LE.le Int _ x.2.1 255) ?_ ?_)
 ·refine zB (jR (zKe _ _ _) ?_)
  refine zG (fun _=>zA (fun h=>by cases h)) (fun h=> ?_)
  have h:(-1:Int)≤x.2.1∧ @LE.le Int _ x.2.1 255:=by
   have:(decide ((-1:Int)≤x.2.1)&&decide (@LE.le Int _ x.2.1 255))=true:=by
    revert h
    cases (decide ((-1:Int)≤x.2.1)&&decide (@LE.le Int _ x.2.1 255))<;>simp
   simpa using this
  exact zG (fun _=>zA (fun h=>by cases h)) (fun _=>zA (fun _=>h))
 ·intro b hb
  refine zG (fun _=>zA (fun h=>by cases h)) (fun hb0=> ?_)
  obtain ⟨p0,p1⟩:=hb hb0
  refine zB (Wp.mono (Q:=fun b:Bool=>b=false→((0:Int)≤x.2.2.2.2.1.1∧ @LE.le Int _ x.2.2.2.2.1.1 x.2.2.2.2.1.2.1∧ @LE.le Int _ x.2.2.2.2.1.2.1 65535)∧(0:Int)≤x.2.2.2.2.2.1.1∧ @LE.le Int _ x.2.2.2.2.2.1.1 x.2.2.2.2.2.1.2.1∧ @LE.le Int _ x.2.2.2.2.2.1.2.1 65535) ?_ ?_)
  ·refine zB (jR (zMm _) ?_)
   refine zG (fun _=>zA (fun h=>by cases h)) (fun h=> ?_)
   have h1:(0:Int)≤x.2.2.2.2.1.1∧ @LE.le Int _ x.2.2.2.2.1.1 x.2.2.2.2.1.2.1∧ @LE.le Int _ x.2.2.2.2.1.2.1 65535:=by
    have:(decide ((0:Int)≤x.2.2.2.2.1.1)&&(decide (@LE.le Int _ x.2.2.2.2.1.1 x.2.2.2.2.1.2.1)&&decide (@LE.le Int _ x.2.2.2.2.1.2.1 65535)))=true:=by
     revert h
     cases (decide ((0:Int)≤x.2.2.2.2.1.1)&&(decide (@LE.le Int _ x.2.2.2.2.1.1 x.2.2.2.2.1.2.1)&&decide (@LE.le Int _ x.2.2.2.2.1.2.1 65535)))<;>simp
    simpa using this
   refine zB (jR (zMm _) (zA (fun h=>⟨h1,?_⟩)))
   have:(decide ((0:Int)≤x.2.2.2.2.2.1.1)&&(decide (@LE.le Int _ x.2.2.2.2.2.1.1 x.2.2.2.2.2.1.2.1)&&decide (@LE.le Int _ x.2.2.2.2.2.1.2.1 65535)))=true:=by
    revert h
    cases (decide ((0:Int)≤x.2.2.2.2.2.1.1)&&(decide (@LE.le Int _ x.2.2.2.2.2.1.1 x.2.2.2.2.2.1.2.1)&&decide (@LE.le Int _ x.2.2.2.2.2.1.2.1 65535)))<;>simp
   simpa using this
  ·intro b2 hb2
   refine zG (fun _=>zA (fun h=>by cases h)) (fun hb0=> ?_)
   obtain ⟨⟨s0,s1,s2⟩,d0,d1,d2⟩:=hb2 hb0
   have H:zBw x:=⟨p0,p1,s0,s1,s2,d0,d1,d2⟩
   refine zB (Wp.mono (Q:=fun _=>True) ?_ (fun b _=>zA (fun _=>H)))
   exact zG (fun _=>zA trivial) (fun _=>zG (fun _=>zA trivial) (fun _=>zG (fun _=>zA trivial) (fun _=>zA trivial)))
structure zPh (r:Ty.El zD) (i:Nat) (l:Ty.El uE):Prop where
 name:Wp (yN (l.1,())) (fun b=>b=true)
 first:(i:Int)≤zA5 (fun x:Ty.El uE=>x.1==l.1) r.2.2.2.2.2.1
 len:l.2.1.length≤16
 rules: ∀x,x∈l.2.1→zBw x
theorem zIP (r:Ty.El zD) (h:SmL r):Wp (yE (r,())) (fun (c:Int)=>c=0→ ∀ (i:Nat) l,r.2.2.2.2.2.1[i]? =some l→zPh r i l):=by
 have hl:=h.i5
 unfold yE
 dsimp only
 refine zJ (fun _=>zA (fun h=>by cases h)) (fun h8=> ?_)
 refine zKT (Nat.lt_of_le_of_lt h.i4 (by omega)) (fun i=> ∀j l,j<i→r.2.2.2.2.2.1[j]? =some l→zPh r j l) (fun j l hj=>by omega) ?_ (fun hJ=>zA (fun _ i l hi=>hJ i l (List.getElem?_eq_some_iff.1 hi).1 hi))
 intro i l hl hJ
 have hn:=h.n3 l (List.mem_of_getElem? hl)
 refine qG ?_
 refine zB (jR (wR hl) ?_)
 refine zB ((xD r l.1 h.i4).mono ?_)
 rintro _ rfl
 refine zB (Wp.mono (Q:=fun (c:Int)=>c=0→Wp (yN (l.1,())) (fun b=>b=true)∧(i:Int)≤zA5 (fun x:Ty.El uE=>x.1==l.1) r.2.2.2.2.2.1∧l.2.1.length≤16) ?_ ?_)
 ·unfold jW
  dsimp only
  obtain ⟨b,hb,_⟩:=zAm l.1
  refine zB (jR hb ?_)
  refine zG (fun _=>zA (fun h=>by cases h)) (fun hbn=> ?_)
  have hbt:b=true:=by simpa using hbn
  refine zJ (fun _=>zA (fun h=>by cases h)) (fun hf=> ?_)
  refine zG (fun _=>zA (fun h=>by cases h)) (fun _=> ?_)
  refine zJ (fun _=>zA (fun h=>by cases h)) (fun h16=>zA (fun _=>⟨⟨b,hb,hbt⟩,?_,?_⟩))
  ·exact Int.not_lt.1 hf
  ·have h16: ¬((l.2.1.length:Int)>16):=h16
   omega
 ·intro c hc
  refine zG (fun h0=>zA (e2r (e2r (e2r (fun h=> ?_))))) (fun h0=> ?_)
  ·have h0: ¬(@Eq Int c 0):=by simpa [bne] using h0
   exact absurd h h0
  ·have h0: @Eq Int c 0:=by simpa [bne] using h0
   obtain ⟨a1,a2,a3⟩:=hc h0
   refine zSf (P:=fun x=>zBw x) (Nat.lt_of_le_of_lt hn (by omega)) (fun j x hx=> ?_) (fun hall=>e2l ?_)
   ·refine zB (jR (wR hx) ?_)
    refine zB ((zIO x).mono ?_)
    intro b hb
    refine zG (fun _=>zA (e2r ⟨(fun u h=>by cases h),e2r (e2r (e2r (fun h=>by cases h)))⟩)) (fun hbn=>zA (e2l ⟨rfl,hb (by simpa using hbn)⟩))
   ·refine zA (e2l ⟨rfl,?_⟩)
    intro j l' hj hl'
    rcases Nat.lt_or_ge j i with h'|h'
    ·exact hJ j l' h' hl'
    ·have:j=i:=by omega
     subst this
     rw [hl] at hl'
     cases hl'
     exact ⟨a1,a2,a3,hall⟩
theorem zHa (r:Ty.El zD) (h:SmL r):Wp (kY (r,())) (fun (c:Int)=>c=0→ ∀ (i:Nat) l,r.2.2.2.2.2.1[i]? =some l→zPh r i l):=by
 unfold kY
 dsimp only
 refine zB ((zAm _).mono (fun b _=> ?_))
 refine zG (fun _=>zA (fun h=>by cases h)) (fun _=> ?_)
 refine zB (jR (zKe _ _ _) ?_)
 refine zG (fun _=>zA (fun h=>by cases h)) (fun _=> ?_)
 refine qG ?_
 have no: ∀ (c:Int) (P:Prop),(c !=0)=true→(c=0→P):=fun c P h1 h2=>by subst h2;simp at h1
 refine zB ((zBA r h).mono (fun c1 _=> ?_))
 refine zG (fun hc=>zA (e2r (no _ _ hc))) (fun _=> ?_)
 refine zB ((zBh r h).mono (fun c2 _=> ?_))
 refine zG (fun hc=>zA (e2r (no _ _ hc))) (fun _=> ?_)
 refine zB ((zB3 r h).mono (fun c3 _=> ?_))
 refine zG (fun hc=>zA (e2r (no _ _ hc))) (fun _=> ?_)
 refine zB ((zIP r h).mono (fun c4 hA=> ?_))
 refine zG (fun hc=>zA (e2r (no _ _ hc))) (fun hc4=> ?_)
 have hA:=hA (by simpa [bne] using hc4)
 refine zB ((zFk r h).mono (fun c5 _=> ?_))
 refine zG (fun hc=>zA (e2r (no _ _ hc))) (fun _=> ?_)
 refine zB ((zCL r h).mono (fun c6 _=> ?_))
 refine zG (fun hc=>zA (e2r (no _ _ hc))) (fun _=> ?_)
 refine zB ((zCJ r h).mono (fun c7 _=> ?_))
 refine zG (fun hc=>zA (e2r (no _ _ hc))) (fun _=> ?_)
 refine zB ((zB5 r h).mono (fun c8 _=> ?_))
 refine zG (fun hc=>zA (e2r (no _ _ hc))) (fun _=> ?_)
 refine zB ((zAs r h).mono (fun c9 _=> ?_))
 refine zG (fun hc=>zA (e2r (no _ _ hc))) (fun _=> ?_)
 refine zB ((zBz r h).mono (fun c10 _=> ?_))
 refine zG (fun hc=>zA (e2r (no _ _ hc))) (fun _=>zA (e2l ?_))
 exact zA (fun _=>hA)
end Go.Ve

namespace Go.Ve
open Go Go.Proofs Go.Bd Go.Proofs.Bw
set_option maxRecDepth 1000000
set_option maxHeartbeats 4000000
abbrev Rul:=Ty.El qY
abbrev Wld:=Ty.El zCj
def zJf (w:Wld) (a:Int):Bool:=((BitVec.ofInt 32 a^^^BitVec.ofInt 32 w.1)&&& ~~~ BitVec.ofInt 32 w.2.1)==0#32
theorem bv0 (x:BitVec 32):(IntKind.wrap .u32 ((x.toNat:Nat):Int)==(0:Int))=(x==0#32):=by
 rw [zEn,Bool.eq_iff_iff,beq_iff_eq,beq_iff_eq]
 constructor
 ·intro h
  apply BitVec.eq_of_toNat_eq
  simp only [BitVec.toNat_ofNat]
  omega
 ·intro h
  rw [h];rfl
theorem zAP (w:Wld) (a:Int):qS (w,a,())=some (zJf w a):=by
 unfold qS zJf
 dsimp only
 change some (IntKind.wrap .u32 (((BitVec.ofInt 32 (IntKind.wrap .u32 (((BitVec.ofInt 32 a^^^BitVec.ofInt 32 w.1).toNat:Nat):Int))&&& ~~~ BitVec.ofInt 32 w.2.1).toNat:Nat):Int)==(0:Int))=_
 rw [bv0,zEn,zGv]
theorem zRm (w:Wld) (a:Int):zJf w a=true↔ ∀j,j<32→bt w.2.1 j=true∨bt a j=bt w.1 j:=by
 unfold zJf
 rw [beq_iff_eq]
 constructor
 ·intro h j hj
  have:=congrArg (fun b=>b.getLsbD j) h
  simp only [BitVec.getLsbD_and,BitVec.getLsbD_not,BitVec.getLsbD_xor,hj,decide_true,Bool.true_and,BitVec.getLsbD_zero] at this
  unfold bt
  revert this
  cases (BitVec.ofInt 32 a).getLsbD j<;>cases (BitVec.ofInt 32 w.1).getLsbD j<;>cases (BitVec.ofInt 32 w.2.1).getLsbD j<;>simp
 ·intro h
  apply BitVec.eq_of_getLsbD_eq
  intro j hj
  have:=h j hj
  unfold bt at this
  simp only [BitVec.getLsbD_and,BitVec.getLsbD_not,BitVec.getLsbD_xor,hj,decide_true,Bool.true_and,BitVec.getLsbD_zero]
  revert this
  cases (BitVec.ofInt 32 a).getLsbD j<;>cases (BitVec.ofInt 32 w.1).getLsbD j<;>cases (BitVec.ofInt 32 w.2.1).getLsbD j<;>simp
theorem zLM {pk:Pkt} {al:List Bool} (h:zGV pk al) {k:Nat} (hk:k<2) (w:Wld):uP k w.1 w.2.1 (asg al)=zJf w (zDM pk k):=by
 rw [Bool.eq_iff_iff,zPk h hk,zRm]
theorem zMq (v w:Nat) (hv:v<2^w) (hw:w≤32): ∀m,m≤w→num ((List.range m).map (fun i=>bt (v:Int) (w-1-i)))=v / 2^(w-m)
 |0,_=>by
  rw [Nat.sub_zero,Nat.div_eq_of_lt hv]
  rfl
 |m+1,hm=>by
  rw [List.range_succ,List.map_append,zC0,zMq v w hv hw m (by omega)]
  simp only [List.map_cons,List.map_nil,List.length_singleton,Nat.pow_one]
  have e:num [bt (v:Int) (w-1-m)]=v / 2^(w-1-m)%2:=by
   rw [zOm v (by omega)]
   have h2:v / 2^(w-1-m)%2=0∨v / 2^(w-1-m)%2=1:=by omega
   rcases h2 with h2|h2<;>rw [h2]<;>rfl
  rw [e,show w-m=(w-1-m)+1 by omega,Nat.pow_succ, ←Nat.div_div_eq_div_mul,show w- (m+1)=w-1-m by omega]
  omega
theorem zLc {pk:Pkt} {al:List Bool} (h:zGV pk al) {k:Nat} (hk:k<5) (lo hi:Nat) {v:Nat} (hv:zDM pk k=(v:Int)) (hlt:v<2^wdF k):rF k lo hi (asg al)=decide (lo≤v∧v≤hi):=by
 have hw:wdF k≤32:=by
  have:k=0∨k=1∨k=2∨k=3∨k=4:=by omega
  rcases this with rfl|rfl|rfl|rfl|rfl<;>decide
 have:=zMq v (wdF k) hlt hw (wdF k) (Nat.le_refl _)
 rw [Nat.sub_self,Nat.pow_zero,Nat.div_one] at this
 rw [rF,zM2 h hk,hv,this]
structure zPf (p:Pkt):Prop where
 p0:(0:Int)≤p.2.2.1
 p1: @LE.le Int _ p.2.2.1 255
 s0:(0:Int)≤p.2.2.2.1
 s1: @LE.le Int _ p.2.2.2.1 65535
 d0:(0:Int)≤p.2.2.2.2.1
 d1: @LE.le Int _ p.2.2.2.2.1 65535
def inP (x:Ty.El zBj) (n:Int):Bool:=decide (@LE.le Int _ x.1 n)&&decide (@LE.le Int _ n x.2.1)
theorem zJn (x:Ty.El zBj) (n:Int):jO (x,n,())=some (inP x n):=by
 refine zGZ ?_
 unfold jO inP
 dsimp only
 refine zB (zG (fun h=>zA (zA ?_)) (fun h=>zA (zA ?_)))
 ·rw [h];rfl
 ·rw [h];rfl
def zFB (x:Rul) (p:Pkt):Bool:=(x.2.1== -1||x.2.1==p.2.2.1)&&zJf x.2.2.1 p.1&&zJf x.2.2.2.1 p.2.1&&inP x.2.2.2.2.1 p.2.2.2.1&&inP x.2.2.2.2.2.1 p.2.2.2.2.1
theorem zK2 (x:Rul) (p:Pkt):zBX (x,p,())=some (zFB x p):=by
 refine zGZ ?_
 unfold zBX zFB
 dsimp only
 rw [zAP,zAP,zJn,zJn]
 generalize zJf x.2.2.1 p.1=b1
 generalize zJf x.2.2.2.1 p.2.1=b2
 generalize inP x.2.2.2.2.1 p.2.2.2.1=b3
 generalize inP x.2.2.2.2.2.1 p.2.2.2.2.1=b4
 refine zB (zG (fun h=> ?_) (fun h=>zG (fun h'=> ?_) (fun h'=>zA (zA ?_))))
 ·rw [h]
  cases b1<;>cases b2<;>cases b3<;>cases b4<;>exact ⟨_,rfl,_,rfl,rfl⟩
 ·rw [h,h']
  cases b1<;>cases b2<;>cases b3<;>cases b4<;>exact ⟨_,rfl,_,rfl,rfl⟩
 ·rw [h,h'];rfl
theorem zPt {pk:Pkt} {al:List Bool} (h:zGV pk al) (hp:zPf pk) (x:Rul) (hx:zBw x):zHO x (asg al)=zFB x pk:=by
 obtain ⟨p0,p1,s0,s1,d0,d1⟩:=hp
 obtain ⟨pm,(pr:Int),sw,dw,⟨sl,sh,⟨⟩⟩,⟨dl,dh,⟨⟩⟩,⟨⟩⟩:=x
 obtain ⟨q0,q1,t0,t1,t2,e0,e1,e2⟩:=hx
 simp only at q0 q1 t0 t1 t2 e0 e1 e2
 unfold zHO zFB
 simp only
 obtain ⟨vs,vd,vp,v1,v2,⟨⟩⟩:=pk
 simp only at p0 p1 s0 s1 d0 d1
 have a0:zDM (vs,vd,vp,v1,v2,()) 0=vs:=rfl
 have a1:zDM (vs,vd,vp,v1,v2,()) 1=vd:=rfl
 rw [zLM h (k:=0) (by omega) sw,zLM h (k:=1) (by omega) dw,a0,a1]
 obtain ⟨vp,rfl⟩:=Int.eq_ofNat_of_zero_le p0
 obtain ⟨v1,rfl⟩:=Int.eq_ofNat_of_zero_le s0
 obtain ⟨v2,rfl⟩:=Int.eq_ofNat_of_zero_le d0
 obtain ⟨sl,rfl⟩:=Int.eq_ofNat_of_zero_le t0
 obtain ⟨sh,rfl⟩:=Int.eq_ofNat_of_zero_le (Int.le_trans t0 t1)
 obtain ⟨dl,rfl⟩:=Int.eq_ofNat_of_zero_le e0
 obtain ⟨dh,rfl⟩:=Int.eq_ofNat_of_zero_le (Int.le_trans e0 e1)
 have w2:zDM (vs,vd,(vp:Int),(v1:Int),(v2:Int),()) 2=(vp:Int):=wrap_u32 (x:=(vp:Int)) (by omega) (by omega)
 have w3:zDM (vs,vd,(vp:Int),(v1:Int),(v2:Int),()) 3=(v1:Int):=wrap_u32 (x:=(v1:Int)) (by omega) (by omega)
 have w4:zDM (vs,vd,(vp:Int),(v1:Int),(v2:Int),()) 4=(v2:Int):=wrap_u32 (x:=(v2:Int)) (by omega) (by omega)
 have z2:(2:Nat)^wdF 2=256:=by decide
 have z3:(2:Nat)^wdF 3=65536:=by decide
 have z4:(2:Nat)^wdF 4=65536:=by decide
 rw [zLc h (k:=2) (by omega) _ _ w2 (by omega),zLc h (k:=3) (by omega) _ _ w3 (by omega),zLc h (k:=4) (by omega) _ _ w4 (by omega)]
 simp only [inP,Int.toNat_natCast]
 have g3:decide (sl≤v1∧v1≤sh)=(decide ((sl:Int)≤(v1:Int))&&decide ((v1:Int)≤(sh:Int))):=by
  rw [←Bool.decide_and,decide_eq_decide];omega
 have g4:decide (dl≤v2∧v2≤dh)=(decide ((dl:Int)≤(v2:Int))&&decide ((v2:Int)≤(dh:Int))):=by
  rw [←Bool.decide_and,decide_eq_decide];omega
 rw [g3,g4]
 have g2:(pr== -1||decide (Int.toNat pr≤vp∧vp≤Int.toNat pr))=(pr== -1||pr==(vp:Int)):=by
  by_cases hm: @Eq Int pr (-1)
  ·have:(pr== -1)=true:=by simpa using hm
   rw [this];rfl
  ·congr 1
   rw [Bool.eq_iff_iff,decide_eq_true_eq,beq_iff_eq]
   have hm': ¬pr=(-1:Int):=hm
   clear w2 w3 w4 a0 a1 h
   have hq:((Int.toNat pr:Nat):Int)=pr:=Int.toNat_of_nonneg (by omega)
   constructor
   ·intro hh;show pr=(vp:Int);omega
   ·intro hh
    have hh:pr=(vp:Int):=hh
    omega
 rw [g2]
 generalize (pr== -1||pr==(vp:Int))=b0
 cases b0<;>cases zJf sw vs<;>cases zJf dw vd<;>rfl
end Go.Ve

namespace Go.Ve
open Go Go.Proofs Go.Bd Go.Proofs.Bw
set_option maxRecDepth 1000000
set_option maxHeartbeats 4000000
noncomputable def zMA (pick:Int→Option Bool) (st0:MSt) (a1:Nat) (a2:List (Ty.El zH)):Option (MSt×Int×Int×Unit):=
  Option.bind
   (zM
    (fun (s55:Int×Int×Int×MSt)=>
     bif decide (s55.1≥(0:Int)) then
      Option.bind
       (zM
        (fun (s56:Int×Int×Int×MSt)=>
         bif decide (s56.1< (↑(List.length a2):Int)) then
          Option.bind
           (Option.bind (idx a2 s56.1) fun (y57:Ty.El zH)=>
            bif y57.1.2.1 !=s55.1 then some s56.2
            else
             Option.bind (jY s56.2.2.2 (a1,(1:Int),false,y57.1,())) fun (y58:MSt×Int)=>
              Option.bind
               (Option.bind (pick s56.1) fun (y59:Bool)=>
                bif y59 then
                 Option.bind (qP y58.1 (a1,s56.2.2.1,y58.2,())) fun (y60:MSt×Int)=>
                  Option.bind (xT y60.1 (a1,s56.2.1,y60.2,())) fun (y61:MSt×Int)=>some (y61.2,y61.1)
                else some (s56.2.1,y58.1))
               fun (s62:Int×MSt)=>
               Option.bind (kR s62.2 (a1,y58.2,())) fun (y63:MSt×Int)=>
                Option.bind (qP y63.1 (a1,s56.2.2.1,y63.2,())) fun (y64:MSt×Int)=>some (s62.1,y64.2,y64.1))
           fun (s65:Int×Int×MSt)=>some (Sum.inl (IntKind.wrap IntKind.i64 (s56.1+(1:Int)),s65))
         else some (Sum.inr s56.2))
        ((0:Int),s55.2))
       fun (s66:Int×Int×MSt)=>some (Sum.inl (IntKind.wrap IntKind.i64 (s55.1- (1:Int)),s66))
     else some (Sum.inr s55.2))
    ((32:Int),(0:Int),(1:Int),st0))
   fun (s67:Int×Int×MSt)=>some (s67.2.2,s67.1,s67.2.1,())
theorem zTO (st:MSt) (h:Nat) (t t':List (Ty.El zH)):vH st (h,t,(t',()),())=zMA (fun j=>j5 (j,t',())) st h t:=rfl
theorem zTN (st:MSt) (h:Nat) (t t':List (Ty.El zH)):vG st (h,t,(t',()),())=zMA (fun j=>wN (j,t',())) st h t:=rfl
theorem zTM (st:MSt) (h:Nat) (t t':List (Ty.El zH)) (x:Ty.El zAF):vF st (h,t,(t',x,()),())=zMA (fun j=>vO (j,t',x,())) st h t:=rfl
def vec (t:List (Ty.El zH)) (a:Nat→Bool):List Bool:=t.map (fun x=>zFs x.1 a)
theorem zQn: ∀t:List (Ty.El zH),Wd (2^t.length) (vec t)
 |[]=>Wd.const _
 |x::t=>by
  have h1:Wd 2 (zFs x.1):=zOF _ 1 0 32
  have h2:=(h1.prod (zQn t)).comp (fun q=>q.1::q.2)
  rw [List.length_cons,Nat.pow_succ,Nat.mul_comm]
  exact h2
theorem zG2 {t:List (Ty.El zH)} (ht:t.length≤12) (g:List Bool→Bool):Wd 4096 (fun a=>g (vec t a)):=
 ((zQn t).comp g).mono (Nat.pow_le_pow_right (n:=2) (by omega) ht)
def zAR (L:List Nat) (v:List Bool):Bool:=(L.find? (fun j=>v.getD j false)).isNone
def zDu (L:List Nat) (pk:Nat→Bool) (v:List Bool):Bool:=match L.find? (fun j=>v.getD j false) with
 |some j=>pk j
 |none=>false
theorem zNB (L:List Nat) (i:Nat) (v:List Bool):zAR (L++[i]) v=(zAR L v&& !v.getD i false):=by
 unfold zAR
 rw [List.find?_append]
 cases h:L.find? (fun j=>v.getD j false) with
 |some j=>rfl
 |none=>
  cases h2:v.getD i false<;>simp only [List.find?,h2,Option.none_or]<;>rfl
theorem zI1 (L:List Nat) (pk:Nat→Bool) (i:Nat) (v:List Bool):zDu (L++[i]) pk v=(zDu L pk v||(pk i&&(zAR L v&&v.getD i false))):=by
 unfold zDu zAR
 rw [List.find?_append]
 cases h:L.find? (fun j=>v.getD j false) with
 |some j=>simp
 |none=>
  cases h2:v.getD i false<;>simp only [List.find?,h2,Option.none_or]<;>cases pk i<;>rfl
def zMx (t:List (Ty.El zH)) (n k:Nat):List Nat:=(List.range k).filter (fun i=>match t[i]? with
 |some x=>x.1.2.1==(n:Int)
 |none=>false)
theorem zPD (t:List (Ty.El zH)) (n k:Nat) {x:Ty.El zH} (hx:t[k]? =some x):zMx t n (k+1)=zMx t n k++(if (x.1.2.1==(n:Int))=true then [k] else []):=by
 unfold zMx
 rw [List.range_succ,List.filter_append]
 congr 1
 simp only [List.filter_cons,List.filter_nil,hx]
def zF1 (t:List (Ty.El zH)):Nat→List Nat
 |0=>[]
 |m+1=>zF1 t m++zMx t (32-m) t.length
theorem zQt (t:List (Ty.El zH)) {i:Nat} {x:Ty.El zH} (hx:t[i]? =some x) (a:Nat→Bool):(vec t a).getD i false=zFs x.1 a:=by
 simp only [vec,List.getD_eq_getElem?_getD,List.getElem?_map,hx,Option.map_some,Option.getD_some]
abbrev cL:Nat:=1465200000
def AtL (p:Pub) (nx:Nat) (t:List (Ty.El zH)) (pk:Nat→Bool) (c:Nat) (L:List Nat) (g:Int×Int×MSt):Prop:=
 ∃p',g.2.2=(nx,some p')∧Stp p c p'∧Rp p' g.1 (fun a=>zDu L pk (vec t a))∧Rp p' g.2.1 (fun a=>zAR L (vec t a))
theorem zG8 {p:Pub} {nx i:Nat} (hp:POk p) (hi:i+1=nx) (t:List (Ty.El zH)) (ht: ∀x,x∈t→zID x.1=true) (hl:t.length≤12) (pick:Int→Option Bool) (pk:Nat→Bool)
  (hpk: ∀ (j:Nat) (x:Ty.El zH),t[j]? =some x→pick j=some (pk j)) (hr:p.S.ns.length+cL≤lim):
  Wp (zMA pick (nx,some p) i t) (fun r=> ∃p',r.1=(nx,some p')∧Stp p cL p'∧Rp p' r.2.1 (fun a=>zDu (zF1 t 33) pk (vec t a))∧Rp p' r.2.2.1 (fun a=>zAR (zF1 t 33) (vec t a))):=by
 have hlim:p.S.ns.length+1465200000≤5864062014000:=hr
 obtain ⟨C,hC⟩: ∃C,C=3700000:=⟨_,rfl⟩
 unfold zMA
 have e0:((32:Int),(0:Int),(1:Int),((nx,some p):MSt))=(((33:Nat):Int) -1,(0:Int),(1:Int),((nx,some p):MSt)):=rfl
 rw [e0]
 refine zB (Wp.mono (zKU (n:=33) (by omega) (fun j (g:Int×Int×MSt)=>AtL p nx t pk ((33-j)*12*C) (zF1 t (33-j)) g)
  ⟨p,rfl,(Stp.refl hp).mono (Nat.zero_le _),(Rp.f0 hp).congr (fun a=>by rw [Nat.sub_self];rfl),(Rp.f1 hp).congr (fun a=>by rw [Nat.sub_self];rfl)⟩ ?_ (Q:=AtL p nx t pk cL (zF1 t 33)) ?_) ?_)
 ·rintro j g hj hJ
  have e1:33-j=(33- (j+1))+1:=by omega
  have e2:32- (33- (j+1))=j:=by omega
  obtain ⟨pj,hst,hs,h1,h2⟩:=hJ
  have hcnt:=hs.cnt
  refine Wp.mono (zOD (xs:=t) (by omega) (fun k (g:Int×Int×MSt)=>AtL p nx t pk ((33- (j+1))*12*C+k*C) (zF1 t (33- (j+1))++zMx t j k) g)
   ⟨pj,hst,hs.mono (Nat.le_add_right _ _),h1.congr (fun a=>by simp [zMx]),h2.congr (fun a=>by simp [zMx])⟩ ?_ (Q:=AtL p nx t pk ((33-j)*12*C) (zF1 t (33-j))) ?_) (fun g h=>h)
  ·rintro k x ⟨f,r,st⟩ hx ⟨p',hst',hs',hf,hrr⟩
   have hxm:=List.mem_of_getElem? hx
   have hk:k<t.length:=(List.getElem?_eq_some_iff.1 hx).1
   simp only at hst' hf hrr
   subst hst'
   have hc':=hs'.cnt
   have hb:(33- (j+1))*12*C+(k+1)*C≤1465200000:=by
    have h1:(33- (j+1))*12*C≤32*12*C:=Nat.mul_le_mul_right _ (Nat.mul_le_mul_right _ (by omega))
    have h2:(k+1)*C≤12*C:=Nat.mul_le_mul_right _ (by omega)
    generalize (33- (j+1))*12*C=x1 at*
    generalize (k+1)*C=x2 at*
    omega
   have hb':(33- (j+1))*12*C+k*C+C=(33- (j+1))*12*C+(k+1)*C:=by rw [Nat.succ_mul];omega
   have hroom:p'.S.ns.length+3700000≤5864062014000:=by
    generalize (33- (j+1))*12*C=x1 at*
    generalize (k+1)*C=x2 at*
    generalize k*C=x3 at*
    omega
   refine zB (jR (wR hx) ?_)
   dsimp only
   rw [zPD t j k hx]
   refine zG (fun h=>zA ?_) (fun h=> ?_)
   ·have hne:(x.1.2.1==(j:Int))=false:=by
     revert h;cases hh:x.1.2.1==(j:Int)<;>simp [bne,hh]
    rw [hne]
    exact ⟨p',rfl,hs'.mono (by rw [←hb'];exact Nat.le_add_right _ _),by simpa using hf,by simpa using hrr⟩
   ·have heq:(x.1.2.1==(j:Int))=true:=by
     revert h;cases hh:x.1.2.1==(j:Int)<;>simp [bne,hh]
    rw [heq,if_pos rfl, ←List.append_assoc]
    generalize hLL:zF1 t (33- (j+1))++zMx t j k=L at hf hrr ⊢
    refine zB ((zL9 hs'.ok hi x.1 (ht x hxm) (by show _≤5864062014000;omega)).mono ?_)
    rintro ⟨st1,hit⟩ ⟨p1,hst1,hs1,hh1⟩
    simp only at hst1 hh1
    subst hst1
    have hc1:=hs1.cnt
    have hh1:Rp p1 hit (fun a=>(vec t a).getD k false):=hh1.congr (fun a=>(zQt t hx a).symm)
    have hf1:=hf.step hs'.ok hs1
    have hr1:=hrr.step hs'.ok hs1
    refine zB (Wp.mono (Q:=fun s:Int×MSt=> ∃p2,s.2=(nx,some p2)∧Stp p1 (2*(220*4096)) p2∧Rp p2 s.1 (fun a=>zDu (L++[k]) pk (vec t a))) ?_ ?_)
    ·refine zB (jR (hpk k x hx) ?_)
     refine zG (fun hk1=> ?_) (fun hk1=> ?_)
     ·refine zB (zBY hs1.ok hi hr1 hh1 4096 (zG2 hl (fun v=>zAR L v&&v.getD k false)) (by show _≤5864062014000;omega) ?_)
      intro p2 y2 hs2 hy2
      have hc2:=hs2.cnt
      have hfun:(fun a=>zDu L pk (vec t a)||(zAR L (vec t a)&&(vec t a).getD k false))=fun a=>zDu (L++[k]) pk (vec t a):=by
       funext a;rw [zI1,hk1,Bool.true_and]
      refine zB (zOC hs2.ok hi (hf1.step hs1.ok hs2) hy2 4096 (zG2 hl (fun v=>zDu L pk v||(zAR L v&&v.getD k false))) (by show _≤5864062014000;omega) ?_)
      intro p3 y3 hs3 hy3
      rw [hfun] at hy3
      exact zA ⟨p3,rfl,(hs2.trans hs3).mono (by omega),hy3⟩
     ·exact zA ⟨p1,rfl,(Stp.refl hs1.ok).mono (by omega),hf1.congr (fun a=>by rw [zI1,hk1,Bool.false_and,Bool.or_false])⟩
    ·rintro ⟨f2,st2⟩ ⟨p2,hst2,hs2,hf2⟩
     simp only at hst2 hf2
     subst hst2
     have hc2:=hs2.cnt
     dsimp only
     refine zB (zIA hs2.ok hi (hh1.step hs1.ok hs2) 4096 (zG2 hl (fun v=> !v.getD k false)) (by show _≤5864062014000;omega) ?_)
     intro p3 y3 hs3 hy3
     have hc3:=hs3.cnt
     have hfun:(fun a=>zAR L (vec t a)&& !(vec t a).getD k false)=fun a=>zAR (L++[k]) (vec t a):=by
      funext a;rw [zNB]
     refine zB (zBY hs3.ok hi ((hr1.step hs1.ok hs2).step hs2.ok hs3) hy3 4096 (zG2 hl (fun v=>zAR L v&& !v.getD k false)) (by show _≤5864062014000;omega) ?_)
     intro p4 y4 hs4 hy4
     rw [hfun] at hy4
     refine zA ⟨p4,rfl,((((hs'.trans hs1).trans hs2).trans hs3).trans hs4).mono ?_,(hf2.step hs2.ok hs3).step hs3.ok hs4,hy4⟩
     rw [←hb']
     generalize (33- (j+1))*12*C+k*C=x1 at*
     omega
  ·rintro g ⟨p',hst',hs',hf,hrr⟩
   refine ⟨p',hst',hs'.mono ?_,?_,?_⟩
   ·rw [e1]
    have:t.length*C≤12*C:=Nat.mul_le_mul_right _ hl
    rw [Nat.succ_mul,Nat.add_mul]
    exact Nat.add_le_add_left this _
   ·rw [e1,zF1,e2];exact hf
   ·rw [e1,zF1,e2];exact hrr
 ·rintro g ⟨p',hst,hs,hf,hrr⟩
  rw [Nat.sub_zero] at hs hf hrr
  refine ⟨p',hst,hs.mono ?_,hf,hrr⟩
  rw [hC];show 33*12*3700000≤1465200000
  omega
 ·rintro ⟨f,r,st⟩ ⟨p',hst,hs,hf,hrr⟩
  exact zA ⟨p',hst,hs,hf,hrr⟩
end Go.Ve

namespace Go.Ve
open Go Go.Proofs Go.Bd Go.Proofs.Bw
set_option maxRecDepth 1000000
set_option maxHeartbeats 4000000
abbrev Fwd:=Ty.El zH
def zQ8 (t:List Fwd) (pk:Nat→Bool) (a:Nat→Bool):Bool:=zDu (zF1 t 33) pk (vec t a)
def zTE (t:List Fwd) (a:Nat→Bool):Bool:=zAR (zF1 t 33) (vec t a)
def zJo (l:List (Ty.El zAF)) (h:Ty.El zAF):Bool:=l.any (fun y=>h.1==y.1&&(h.2.1==y.2.1&&true))
def atE (t:List Fwd) (q:Fwd→Bool) (j:Nat):Bool:=match t[j]? with
 |some x=>q x
 |none=>false
theorem zJK {t:List Fwd} {q:Fwd→Bool} {j:Nat} {x:Fwd} (h:t[j]? =some x):atE t q j=q x:=by simp [atE,h]
abbrev qD (x:Fwd):Bool:=x.2.2.1
abbrev qU (x:Fwd):Bool:= !x.2.2.1&&x.2.1.isEmpty
abbrev qR (h:Ty.El zAF) (x:Fwd):Bool:= !x.2.2.1&&zJo x.2.1 h
theorem zIQ (l:List (Ty.El zAF)) (h:Ty.El zAF) (hl:l.length<4611686018427387904):Wp (uG (l,h,())) (fun r=>decide (r≥0)=zJo l h):=by
 unfold uG
 dsimp only
 refine zKT hl (fun i=> ∀j y,j<i→l[j]? =some y→(h.1==y.1&&(h.2.1==y.2.1&&true))=false) (fun j y hj=>by omega) ?_ ?_
 ·intro i x hx hJ
  refine zB (jR (wR hx) ?_)
  refine zG (fun hc=>zA (e2r (e2r ?_))) (fun hc=>zA (e2l ⟨rfl,?_⟩))
  ·have:zJo l h=true:=List.any_eq_true.2 ⟨x,List.mem_of_getElem? hx,hc⟩
   rw [this,decide_eq_true_eq]
   show (i:Int)≥0
   omega
  ·intro j y hj hy
   rcases Nat.lt_or_ge j i with h'|h'
   ·exact hJ j y h' hy
   ·have:j=i:=by omega
    subst this
    rw [hx] at hy
    cases hy
    exact hc
 ·intro hJ
  refine zA ?_
  have:zJo l h=false:=by
   rw [zJo,List.any_eq_false]
   intro x hx
   obtain ⟨j,hj,rfl⟩:=List.getElem_of_mem hx
   rw [hJ j _ hj (by simp [hj])]
   simp
  rw [this]
  rfl
theorem zGf (l:List (Ty.El zAF)) (h:Ty.El zAF) (hl:l.length<4611686018427387904):vN (l,h,())=some (zJo l h):=by
 refine zGZ ?_
 unfold vN
 refine zB ((zIQ l h hl).mono (fun r hr=>zA hr))
structure zPd (t:List Fwd):Prop where
 len:t.length≤12
 val: ∀x,x∈t→zID x.1=true
 hops: ∀x,x∈t→x.2.1.length≤4
 so: ∀ (i:Nat) (x y:Fwd),t[i]? =some x→t[i+1]? =some y→plt x.1 y.1
section
variable {p:Pub} {nx i:Nat} {t:List Fwd} {Q:MSt×Int→Prop}
abbrev cD:Nat:=1467000000
theorem zSg (hp:POk p) (hi:i+1=nx) (T:zPd t) (hr:p.S.ns.length+cD≤lim)
  (hq: ∀p' y,Stp p cD p'→Rp p' y (zQ8 t (atE t qD))→Q ((nx,some p'),y)):Wp (wO (nx,some p) (i,t,())) Q:=by
 have hr':p.S.ns.length+1467000000≤5864062014000:=hr
 unfold wO
 dsimp only
 rw [zTO]
 refine zB ((zG8 hp hi t T.val T.len _ (atE t qD) (fun j x hx=> ?_) (by show _+1465200000≤5864062014000;omega)).mono ?_)
 ·unfold j5
  dsimp only
  rw [wR hx,Option.bind_some,zJK hx]
 rintro ⟨st,y,z,u⟩ ⟨p',hst,hs,hy,_⟩
 simp only at hst
 subst hst
 exact zA (hq p' y (hs.mono (by show 1465200000≤1467000000;omega)) hy)
theorem zPi (hp:POk p) (hi:i+1=nx) (T:zPd t) (h:Ty.El zAF) (hr:p.S.ns.length+cD≤lim)
  (hq: ∀p' y,Stp p cD p'→Rp p' y (zQ8 t (atE t (qR h)))→Q ((nx,some p'),y)):Wp (kE (nx,some p) (i,t,h,())) Q:=by
 have hr':p.S.ns.length+1467000000≤5864062014000:=hr
 unfold kE
 dsimp only
 rw [zTM]
 refine zB ((zG8 hp hi t T.val T.len _ (atE t (qR h)) (fun j x hx=> ?_) (by show _+1465200000≤5864062014000;omega)).mono ?_)
 ·unfold vO
  dsimp only
  have h4:=T.hops x (List.mem_of_getElem? hx)
  simp only [wR hx,Option.bind_some,zJK hx,zGf x.2.1 h (by omega)]
  show Option.bind (bif !x.2.2.1 then some (zJo x.2.1 h) else some false) _=_
  simp only [qR]
  cases x.2.2.1<;>rfl
 rintro ⟨st,y,z,u⟩ ⟨p',hst,hs,hy,_⟩
 simp only at hst
 subst hst
 exact zA (hq p' y (hs.mono (by show 1465200000≤1467000000;omega)) hy)
theorem zTv (hp:POk p) (hi:i+1=nx) (T:zPd t) (hr:p.S.ns.length+cD≤lim)
  (hq: ∀p' y,Stp p cD p'→Rp p' y (fun a=>zQ8 t (atE t qU) a||zTE t a)→Q ((nx,some p'),y)):Wp (wZ (nx,some p) (i,t,())) Q:=by
 have hr':p.S.ns.length+1467000000≤5864062014000:=hr
 unfold wZ
 dsimp only
 rw [zTN]
 refine zB ((zG8 hp hi t T.val T.len _ (atE t qU) (fun j x hx=> ?_) (by show _+1465200000≤5864062014000;omega)).mono ?_)
 ·unfold wN
  dsimp only
  have h4:=T.hops x (List.mem_of_getElem? hx)
  simp only [wR hx,Option.bind_some,zJK hx]
  show Option.bind (bif !x.2.2.1 then some ((x.2.1.length:Int)==0) else some false) _=_
  have e:((x.2.1.length:Int)==0)=x.2.1.isEmpty:=by
   cases x.2.1 with
   |nil=>rfl
   |cons z l=>
    rw [List.length_cons,List.isEmpty_cons,beq_eq_false_iff_ne]
    omega
  rw [e]
  simp only [qU]
  cases x.2.2.1<;>rfl
 rintro ⟨st,y,z,u⟩ ⟨p',hst,hs,hy,hz⟩
 simp only at hst hy hz
 subst hst
 have hc:=hs.cnt
 refine zB (zOC hs.ok hi hy hz 4096 (zG2 T.len (fun v=>zDu (zF1 t 33) (atE t qU) v||zAR (zF1 t 33) v)) (by show _≤5864062014000;have:cL=1465200000:=rfl;omega) ?_)
 intro p2 y2 hs2 hy2
 refine zA (hq p2 y2 ((hs.trans hs2).mono (by show 1465200000+220*4096≤1467000000;omega)) hy2)
end
theorem zMa {s:MSt} :xL s ()=some ((s.1+1,some zJe),s.1):=by
 unfold xL
 show Option.bind (zKk 220 s 220) _=_
 rw [zKk,if_pos ⟨rfl,by omega,by omega⟩]
 rfl
end Go.Ve

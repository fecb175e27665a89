/-
  Functions out of code, part 4: joins, loops, statements.
  Functions out of code, part 5: soundness; contracts of functions.
  The shapes of the program's data.
  Functions out of code: the checks of a network.
-/
import Derived.Test.YtcnlcmbchljpgaaGreatPt8
import Derived.Test.YtcnlcmbchljpgaaGreatPt3
set_option linter.unusedVariables false
namespace Go.Ve
open Go
inductive Cell where
 |p (ty:Ty)
 |o (id:Nat) (ty:Ty)
inductive zBM where
 |t (i:Nat) (ty:Ty)
 |o (i id:Nat) (ty:Ty)
 |v (s:Nat) (cs:List Cell)
 |st
@[reducible] def Cell.El:Cell→Type
 | .p ty=>ty.El
 | .o _ ty=>List ty.El
@[reducible] def zSI:List Cell→Type
 |[]=>Unit
 |[c]=>c.El
 |c::c'::r=>c.El×zSI (c'::r)
@[reducible] def zBM.El (St:Type):zBM→Type
 | .t _ ty=>ty.El
 | .o _ _ ty=>List ty.El
 | .v _ cs=>zSI cs
 | .st=>St
@[reducible] def vT (St:Type):List zBM→Type
 |[]=>Unit
 |[c]=>c.El St
 |c::c'::r=>c.El St×vT St (c'::r)
def rdT (ty:Ty):T→Option ty.El
 | .p d=>ty.dec d
 | .emp=>ty.dec (.sl [])
 |_=>none
def rdO (id:Nat) (ty:Ty):T→Option (List ty.El)
 | .p (.val (.slice none 0 0))=>some []
 | .emp=>some []
 | .ot i t xs=>match Nat.beq i id with
  |true=>zDK t ty xs
  |false=>none
 |_=>none
def zT9:Nat→List T→Option (List V×List T)
 |0,r=>some ([],r)
 |n+1, .p d::r=>match zT9 n r with
  |some (ds,r')=>some (d::ds,r')
  |none=>none
 |_+1,_=>none
def zMT:(c:Cell)→List T→Option (c.El×List T)
 | .p ty,ts=>match zT9 ty.size ts with
  |some (ds,r)=>match ty.uncells ds with
   |some (x,[])=>some (x,r)
   |_=>none
  |none=>none
 | .o id ty,x::r=>match rdO id ty x with
  |some xs=>some (xs,r)
  |none=>none
 | .o _ _,[]=>none
def zIM:(cs:List Cell)→List T→Option (zSI cs)
 |[],[]=>some ()
 |[],_::_=>none
 |[c],ts=>match zMT c ts with
  |some (x,[])=>some x
  |_=>none
 |c::c'::r,ts=>match zMT c ts with
  |some (x,ts')=>match zIM (c'::r) ts' with
   |some xs=>some (x,xs)
   |none=>none
  |none=>none
def zMH:(c:Cell)→c.El→List T
 | .p ty,x=>(ty.cells x).map .p
 | .o id ty,xs=>[.ot id ty xs]
def zIC:(cs:List Cell)→zSI cs→List T
 |[],_=>[]
 |[c],x=>zMH c x
 |c::c'::r,x=>zMH c x.1++zIC (c'::r) x.2
section
variable {St:Type}
def zKj (e:Env St):(s:zBM)→Option (s.El St)
 | .t i ty=>rdT ty (e.get i)
 | .o i id ty=>rdO id ty (e.get i)
 | .v s cs=>match e.var s with
  |some ts=>zIM cs ts
  |none=>none
 | .st=>some e.st
def rdS (e:Env St):(l:List zBM)→Option (vT St l)
 |[]=>some ()
 |[s]=>zKj e s
 |s::s'::r=>match zKj e s with
  |some x=>match rdS e (s'::r) with
   |some xs=>some (x,xs)
   |none=>none
  |none=>none
def zEb:(s:zBM)→s.El St→List (Nat×T)
 | .t i ty,x=>[(i, .p (ty.enc x))]
 | .o i id ty,xs=>[(i, .ot id ty xs)]
 | .v _ _,_=>[]
 | .st,_=>[]
def zFu:(s:zBM)→s.El St→List (Nat×List T)
 | .v s cs,x=>[(s,zIC cs x)]
 | .t _ _,_=>[]
 | .o _ _ _,_=>[]
 | .st,_=>[]
def tmS:(l:List zBM)→vT St l→List (Nat×T)
 |[],_=>[]
 |[s],x=>zEb s x
 |s::s'::r,x=>zEb s x.1++tmS (s'::r) x.2
def vS:(l:List zBM)→vT St l→List (Nat×List T)
 |[],_=>[]
 |[s],x=>zFu s x
 |s::s'::r,x=>zFu s x.1++vS (s'::r) x.2
def zML:(s:zBM)→s.El St→Option St
 | .st,x=>some x
 | .t _ _,_=>none
 | .o _ _ _,_=>none
 | .v _ _,_=>none
def stS:(l:List zBM)→vT St l→Option St
 |[],_=>none
 |[s],x=>zML s x
 |s::s'::r,x=>match zML s x.1 with
  |some y=>some y
  |none=>stS (s'::r) x.2
def qDa (x:Option St) (y:St):St:=
 match x with
 |some z=>z
 |none=>y
def zFR:List zBM→Bool
 |[]=>false
 | .st::_=>true
 | .t _ _::r=>zFR r
 | .o _ _ _::r=>zFR r
 | .v _ _::r=>zFR r
end
def zDG {α:Type} :List (Nat×α)→Nat→Option α
 |[],_=>none
 |(j,x)::r,i=>match Nat.beq j i with
  |true=>some x
  |false=>zDG r i
def zMA:List T→Bool
 |[]=>true
 | .p _::r=>zMA r
 |_=>false
def zQh (m i:Nat):Option (List T)→Option (List T)
 |some cs=>match Nat.testBit m (2*i)||Nat.testBit m (2*i+1)|| !zMA cs with
  |true=>none
  |false=>some cs
 |none=>none
def xV (m:Nat) (vs:List (Nat×List T)):Nat→List (Option (List T))→List (Option (List T))
 |_,[]=>[]
 |i,x::r=>(match zDG vs i with
  |some y=>some y
  |none=>zQh m i x)::xV m vs (i+1) r
def zQk (vars:List (Option (List T))) (s:Nat):Bool:=
 match vars[s]? with
 |some (some _)=>true
 |_=>false
def zSk (m:Nat) (vars:List (Option (List T))):T→T
 | .p d=> .p d
 | .lp s off=>match !Nat.testBit m (2*s)&&zQk vars s with
  |true=> .lp s off
  |false=> .dead
 |_=> .dead
def zIc (m:Nat) (ts:List (Nat×T)) (vars:List (Option (List T))):Nat→List T→List T
 |_,[]=>[]
 |i,x::r=>(match zDG ts i with
  |some y=>y
  |none=>match Nat.testBit m (2*i) with
   |true=> .dead
   |false=>zSk m vars x)::zIc m ts vars (i+1) r
structure JA where
 mask:Nat
 lps:List (Nat×Nat×Nat)
 sl:List zBM
def lpT (vars:List (Option (List T))) (s off:Nat):T:=
 match zQk vars s with
 |true=> .lp s off
 |false=> .dead
def zTh (vars:List (Option (List T))):List (Nat×Nat×Nat)→List (Nat×T)
 |[]=>[]
 |(i,s,off)::r=>(i,lpT vars s off)::zTh vars r
def zLZ:List (Nat×Nat×Nat)→Nat
 |[]=>0
 |(i,_,_)::r=>2^(2*i)|||zLZ r
def k6:List zBM→Nat
 |[]=>0
 | .t i _::r=>2^(2*i)|||k6 r
 | .o i _ _::r=>2^(2*i)|||k6 r
 | .v s _::r=>2^(2*s+1)|||k6 r
 | .st::r=>k6 r
def JA.bits (j:JA):Nat:=j.mask|||(zLZ j.lps|||k6 j.sl)
def qCC (s off:Nat):T→Bool
 | .lp s' off'=>Nat.beq s' s&&Nat.beq off' off
 |_=>false
section
variable {St:Type}
def qAJ (e:Env St):List (Nat×Nat×Nat)→Bool
 |[]=>true
 |(i,s,off)::r=>qCC s off (e.get i)&&qAJ e r
def rdJ (j:JA) (e:Env St):Option (vT St j.sl):=
 match qAJ e j.lps with
 |true=>rdS e j.sl
 |false=>none
def jV (j:JA) (e:Env St) (s:vT St j.sl):Env St:=
 ⟨zIc j.bits (zTh (xV j.bits (vS j.sl s) 0 e.vars) j.lps++tmS j.sl s) (xV j.bits (vS j.sl s) 0 e.vars) 0 e.tm,xV j.bits (vS j.sl s) 0 e.vars,qDa (stS j.sl s) e.st⟩
def zAy:List zBM→Nat→Bool
 |[],_=>false
 | .v s _::r,i=>Nat.beq s i||zAy r i
 | .t _ _::r,i=>zAy r i
 | .o _ _ _::r,i=>zAy r i
 | .st::r,i=>zAy r i
def zWq (j:JA) (e:Env St):Nat→List T→Bool
 |_,[]=>true
 |i, .lp s _::r=>(Nat.testBit j.bits (2*i)||Nat.testBit j.bits (2*s)||(zAy j.sl s&&(e.vars[s]?).isSome)||(zQh j.bits s (e.var s)).isSome)&&zWq j e (i+1) r
 |i,_::r=>zWq j e (i+1) r
def okJ (j:JA) (e:Env St):Bool:=zWq j e 0 e.tm
def zTy (j:JA) (e:Env St) (lg:Nat):Option (vT St j.sl):=
 match Nat.beq (lg|||j.bits) j.bits with
 |true=>rdJ j e
 |false=>none
end
def qM {σ ρ:Type} (m:Option (σ ⊕ ρ)) (K:σ→Option ρ):Option ρ:=
 match m with
 |none=>none
 |some (.inl s)=>K s
 |some (.inr r)=>some r
def zEt {σ ρ:Type} (f:σ→Option (σ ⊕ ρ)):Nat→σ→Option ρ
 |0,_=>none
 |n+1,s=>match f s with
  |none=>none
  |some (.inl s')=>zEt f n s'
  |some (.inr r)=>some r
open Classical in
noncomputable def zL {σ ρ:Type} (f:σ→Option (σ ⊕ ρ)) (s:σ):Option ρ:=
 if h: ∃n r,zEt f n s=some r then some (Classical.choose (cE h)) else none
theorem zQj {σ ρ:Type} {f:σ→Option (σ ⊕ ρ)} : ∀ (n m:Nat) (s:σ) (r:ρ),n≤m→zEt f n s=some r→zEt f m s=some r:=by
 intro n
 induction n with
 |zero=>intro m s r _ h;simp [zEt] at h
 |succ n ih=>
  intro m s r hm h
  obtain ⟨m',rfl⟩: ∃m',m=m'+1:=⟨m-1,by omega⟩
  simp only [zEt] at h ⊢
  split at h
  ·cases h
  ·exact ih m' _ r (by omega) h
  ·exact h
theorem zIQ {σ ρ:Type} {f:σ→Option (σ ⊕ ρ)} {s:σ} {r:ρ} :zL f s=some r↔ ∃n,zEt f n s=some r:=by
 unfold zL
 constructor
 ·intro h
  split at h
  ·rename_i hex
   simp only [aa] at h
   subst h
   exact ⟨_,cE (cE hex)⟩
  ·cases h
 ·rintro ⟨n,hn⟩
  have hex: ∃n r,zEt f n s=some r:=⟨n,r,hn⟩
  rw [dif_pos hex]
  have h1:=cE (cE hex)
  have h2:=zQj _ (max (Classical.choose hex) n) s _ (by omega) h1
  have h3:=zQj _ (max (Classical.choose hex) n) s _ (by omega) hn
  rw [h2] at h3
  exact h3
theorem zZ3 {σ ρ:Type} (f:σ→Option (σ ⊕ ρ)) (s:σ):zL f s=match f s with
  |none=>none
  |some (.inl s')=>zL f s'
  |some (.inr r)=>some r:=by
 have key: ∀r,zL f s=some r↔(match f s with
  |none=>none
  |some (.inl s')=>zL f s'
  |some (.inr r)=>some r)=some r:=by
  intro r
  rw [zIQ]
  constructor
  ·rintro ⟨n,hn⟩
   cases n with
   |zero=>simp [zEt] at hn
   |succ n=>
    simp only [zEt] at hn
    split at hn
    ·cases hn
    ·exact zIQ.2 ⟨n,hn⟩
    ·exact hn
  ·intro h
   split at h
   ·cases h
   ·obtain ⟨n,hn⟩:=zIQ.1 h
    rename_i s' hs
    exact ⟨n+1,by simp only [zEt,hs];exact hn⟩
   ·rename_i r' hs
    exact ⟨1,by simp only [zEt,hs];exact h⟩
 cases hl:zL f s with
 |some r=>exact ((key r).1 hl).symm
 |none=>
  generalize hm:(match f s with
   |none=>none
   |some (.inl s')=>zL f s'
   |some (.inr r)=>some r)=m at key ⊢
  cases m with
  |none=>rfl
  |some r=>rw [(key r).2 rfl] at hl;cases hl
theorem zYp {σ ρ:Type} {f:σ→Option (σ ⊕ ρ)} (J:σ→Prop) (m:σ→Nat) (Q:ρ→Prop)
  (step: ∀s,J s→ ∃o,f s=some o∧match o with
   | .inl s'=>J s'∧m s'<m s
   | .inr r=>Q r) {s:σ} (h:J s): ∃r,zL f s=some r∧Q r:=by
 have key: ∀ (n:Nat) (s:σ),m s=n→J s→ ∃r,zL f s=some r∧Q r:=by
  intro n
  induction n using Nat.strongRecOn with
  |_ n ih=>
   intro s hs hj
   obtain ⟨o,ho,h1⟩:=step s hj
   rw [zZ3,ho]
   cases o with
   |inl s'=>exact ih _ (by rw [←hs];exact h1.2) s' rfl h1.1
   |inr r=>exact ⟨r,rfl,h1⟩
 exact key _ s rfl h
def zKv:List Nat→Code→Bool
 |ids, .exit id=>ids.any (Nat.beq id)
 |_, .ret=>false
 |ids, .seq a b=>zKv ids a&&zKv ids b
 |ids, .cond _ a b=>zKv ids a&&zKv ids b
 |ids, .block id a=>zKv (id::ids) a
 |ids, .loop a=>zKv ids a
 |_,_=>true
section
variable {Γ:Sig} (P:jJ) (G:Nat→Option (List V)) (S:zQ Γ) (A:Nat→Option JA)
def zK4 {ρ:Type} (body:(X→Env Γ.St→Nat→Option ρ)→Env Γ.St→Nat→Option ρ) (K:X→Env Γ.St→Nat→Option ρ):Nat→Env Γ.St→Nat→Option ρ
 |0,_,_=>none
 |n+1,e,lg=>body (fun k e1 lg1=>match k with
  | .normal=>zK4 body K n e1 lg1
  |k=>K k e1 lg1) e lg
def qBA (t:Nat) (c:Code):Option JA:=
 match zQf c with
 |some k=>A (4*k+t)
 |none=>none
noncomputable def exC:Code→(ρ:Type)→(X→Env Γ.St→Nat→Option ρ)→Env Γ.St→Nat→Option ρ
 | .skip,_,K,e,lg=>K .normal e lg
 | .seq x y,ρ,K,e,lg=>match qBA A 0 y with
  |some j=>match zKv [] x with
   |true=>zLW (okJ j e) (Option.bind (exC x (vT Γ.St j.sl) (fun k e1 lg1=>match k with
     | .normal=>zTy j e1 lg1
     |_=>none) e 0) (fun s=>zDU (jV j e s) (fun e1=>exC y ρ K e1 (lg|||j.bits))))
   |false=>zLW (okJ j e) (qM (exC x (vT Γ.St j.sl ⊕ ρ) (fun k e1 lg1=>match k with
     | .normal=>(zTy j e1 lg1).map .inl
     |k=>(K k e1 (lg|||lg1)).map .inr) e 0) (fun s=>zDU (jV j e s) (fun e1=>exC y ρ K e1 (lg|||j.bits))))
  |none=>exC x ρ (fun k e1 lg1=>match k with
   | .normal=>exC y ρ K e1 lg1
   |k=>K k e1 lg1) e lg
 | .cond c x y,ρ,K,e,lg=>match evx G e c with
  | .p (.val (.bool b))=>cond b (exC x ρ K e lg) (exC y ρ K e lg)
  |_=>none
 | .block id c,ρ,K,e,lg=>exC c ρ (fun k e1 lg1=>K (k.out id) e1 lg1) e lg
 | .loop c,ρ,K,e,lg=>match qBA A 1 c with
  |some j=>zLW (okJ j e) (Option.bind (rdJ j e) (fun s0=>zL (fun s=>zDU (jV j e s) (fun e0=>exC c (vT Γ.St j.sl ⊕ ρ) (fun k e1 lg1=>match k with
    | .normal=>(zTy j e1 lg1).map .inl
    |k=>(K k e1 (lg|||(j.bits|||lg1))).map .inr) e0 0)) s0))
  |none=>zK4 (exC c ρ) K 80 e lg
 | .exit id,_,K,e,lg=>K (.exit id) e lg
 | .ret,_,K,e,lg=>K .ret e lg
 | .region id ops d,_,K,e,lg=>match A (4*id+2) with
  |some j=>zLW (okJ j e) (Option.bind (qBl P G S ops d ((A (4*id+3)).map (·.lps)) e 0 (fun e1 lg1=>zTy j e1 lg1)) (fun s=>zDU (jV j e s) (fun e1=>K .normal e1 (lg|||j.bits))))
  |none=>qBl P G S ops d ((A (4*id+3)).map (·.lps)) e lg (fun e1 lg1=>K .normal e1 lg1)
 |_,_,_,_,_=>none
end
theorem zT8: ∀ (n:Nat) (ts:List T) (ds:List V) (r:List T),zT9 n ts=some (ds,r)→ts=ds.map .p++r∧ds.length=n:=by
 intro n
 induction n with
 |zero=>intro ts ds r h;simp only [zT9,aa,ak] at h;obtain ⟨rfl,rfl⟩:=h;exact ⟨rfl,rfl⟩
 |succ n ih=>
  intro ts ds r h
  unfold zT9 at h
  split at h
  ·rename_i heq;cases heq
  ·rename_i m d r0 heq
   cases heq
   split at h
   ·rename_i ds' r' hr
    simp only [aa,ak] at h
    obtain ⟨rfl,rfl⟩:=h
    obtain ⟨h1,h2⟩:=ih _ _ _ hr
    exact ⟨by rw [h1];rfl,by simp [h2]⟩
   ·cases h
  ·cases h
theorem zAQ.append: ∀ {xs ys xs' ys':List T},zAQ xs ys→zAQ xs' ys'→zAQ (xs++xs') (ys++ys')
 |[],[],_,_,_,h=>h
 |_::_,_::_,_,_,h,h'=>⟨h.1,zAQ.append h.2 h'⟩
 |[],_::_,_,_,h,_=>h.elim
 |_::_,[],_,_,h,_=>h.elim
theorem zAQ.ofV: ∀ {xs ys:List V},w5 xs ys→zAQ (xs.map .p) (ys.map .p)
 |[],[],_=>trivial
 |_::_,_::_,h=>⟨fun w F _ _ v hr=>h.1 w F v hr,zAQ.ofV h.2⟩
 |[],_::_,h=>h.elim
 |_::_,[],h=>h.elim
theorem zYd {ty:Ty} {x:T} {a:ty.El} (h:rdT ty x=some a):WkT x (.p (ty.enc a)):=by
 unfold rdT at h
 split at h
 ·exact fun w F _ _ v hr=>kX h w F v hr
 ·intro w F β al v hr
  obtain ⟨ad,rfl⟩:=hr
  exact kX h w F _ (.slemp ad 0)
 ·cases h
theorem uI {t t':Ty} {xs:List t.El} {ys:List t'.El} (h:zDK t t' xs=some ys):zU9 t t' xs ys:=by
 simp only [zU9,h]
theorem zR9 {id:Nat} {ty:Ty} {x:T} {xs:List ty.El} (h:rdO id ty x=some xs):WkT x (.ot id ty xs):=by
 unfold rdO at h
 split at h
 ·simp only [aa] at h;subst h
  exact fun w F β al v hh=> .inl ⟨rfl,none,Rd.eq_val hh⟩
 ·simp only [aa] at h;subst h
  exact fun w F β al v hh=> .inl ⟨rfl,hh⟩
 ·rename_i i t ys
  split at h
  ·rename_i hb
   have hi:=aQ hb
   subst hi
   obtain ⟨ht,h⟩:=uP (uI h)
   subst ht
   subst h
   exact .refl _
  ·cases h
 ·cases h
theorem zLx: ∀ {c:Cell} {ts r:List T} {x:c.El},zMT c ts=some (x,r)→ ∃ts1,ts=ts1++r∧zAQ ts1 (zMH c x)
 | .p ty,ts,r,x,h=>by
  simp only [zMT] at h
  split at h
  ·rename_i ds r' hr
   split at h
   ·rename_i y hy
    simp only [aa,ak] at h
    obtain ⟨rfl,rfl⟩:=h
    obtain ⟨h1,h2⟩:=zT8 _ _ _ _ hr
    obtain ⟨cs1,h3,h4⟩:=jO _ _ _ _ hy
    rw [ba] at h3
    subst h3
    exact ⟨_,h1,zAQ.ofV h4⟩
   ·cases h
  ·cases h
 | .o id ty,y::ts,r,x,h=>by
  simp only [zMT] at h
  split at h
  ·rename_i xs hx
   simp only [aa,ak] at h
   obtain ⟨rfl,rfl⟩:=h
   exact ⟨[y],rfl,zR9 hx,trivial⟩
  ·cases h
 | .o _ _,[],_,_,h=>by simp [zMT] at h
theorem zJG: ∀ (cs:List Cell) (ts:List T) (x:zSI cs),zIM cs ts=some x→zAQ ts (zIC cs x)
 |[],[],_,_=>trivial
 |[],_::_,_,h=>by simp [zIM] at h
 |[c],ts,x,h=>by
  simp only [zIM] at h
  split at h
  ·rename_i y hy
   simp only [aa] at h
   subst h
   obtain ⟨ts1,h1,h2⟩:=zLx hy
   rw [ba] at h1
   subst h1
   exact h2
  ·cases h
 |c::c'::r,ts,x,h=>by
  simp only [zIM] at h
  split at h
  ·rename_i y ts' hy
   split at h
   ·rename_i ys hys
    simp only [aa] at h
    subst h
    obtain ⟨ts1,h1,h2⟩:=zLx hy
    subst h1
    exact h2.append (zJG (c'::r) ts' ys hys)
   ·cases h
  ·cases h
section
variable {St:Type} {e e1:Env St}
theorem zR8 {s:zBM} {x:s.El St} (h:zKj e s=some x): ∀i y,(i,y)∈zEb s x→WkT (e.get i) y:=by
 intro i y hy
 cases s with
 |t j ty=>
  simp only [zEb,aO,ak] at hy
  obtain ⟨rfl,rfl⟩:=hy
  exact zYd h
 |o j id ty=>
  simp only [zEb,aO,ak] at hy
  obtain ⟨rfl,rfl⟩:=hy
  exact zR9 h
 |v s cs=>simp [zEb] at hy
 |st=>simp [zEb] at hy
theorem zUD {s:zBM} {x:s.El St} (h:zKj e s=some x): ∀i cs2,(i,cs2)∈zFu s x→ ∃cs,e.var i=some cs∧zAQ cs cs2:=by
 intro i y hy
 cases s with
 |t j ty=>simp [zFu] at hy
 |o j id ty=>simp [zFu] at hy
 |st=>simp [zFu] at hy
 |v s cs=>
  simp only [zFu,aO,ak] at hy
  obtain ⟨rfl,rfl⟩:=hy
  simp only [zKj] at h
  split at h
  ·rename_i ts hts
   exact ⟨ts,hts,zJG _ _ _ h⟩
  ·cases h
theorem zZK: ∀ {l:List zBM} {x:vT St l},rdS e l=some x→ ∀i y,(i,y)∈tmS l x→WkT (e.get i) y
 |[],_,_,i,y,hy=>by simp [tmS] at hy
 |[s],x,h,i,y,hy=>zR8 (s:=s) h i y hy
 |s::s'::r,x,h,i,y,hy=>by
  simp only [rdS] at h
  split at h
  ·rename_i a ha
   split at h
   ·rename_i as has
    simp only [aa] at h
    subst h
    simp only [tmS,aX] at hy
    rcases hy with hy|hy
    ·exact zR8 ha i y hy
    ·exact zZK has i y hy
   ·cases h
  ·cases h
theorem qB6: ∀ {l:List zBM} {x:vT St l},rdS e l=some x→ ∀i cs2,(i,cs2)∈vS l x→ ∃cs,e.var i=some cs∧zAQ cs cs2
 |[],_,_,i,y,hy=>by simp [vS] at hy
 |[s],x,h,i,y,hy=>zUD (s:=s) h i y hy
 |s::s'::r,x,h,i,y,hy=>by
  simp only [rdS] at h
  split at h
  ·rename_i a ha
   split at h
   ·rename_i as has
    simp only [aa] at h
    subst h
    simp only [vS,aX] at hy
    rcases hy with hy|hy
    ·exact zUD ha i y hy
    ·exact qB6 has i y hy
   ·cases h
  ·cases h
theorem zZL: ∀ {l:List zBM} {x:vT St l},rdS e l=some x→ ∀y,stS l x=some y→y=e.st
 |[],_,_,y,hy=>by simp [stS] at hy
 |[s],x,h,y,hy=>by
  cases s<;>simp [stS,zML] at hy
  simp only [rdS,zKj,aa] at h
  rw [←hy, ←h]
 |s::s'::r,x,h,y,hy=>by
  simp only [rdS] at h
  split at h
  ·rename_i a ha
   split at h
   ·rename_i as has
    simp only [aa] at h
    subst h
    simp only [stS] at hy
    split at hy
    ·rename_i z hz
     cases s<;>simp [zML] at hz
     simp only [zKj,aa] at ha
     simp only [aa] at hy
     rw [←hy, ←hz, ←ha]
    ·exact zZL has y hy
   ·cases h
  ·cases h
theorem zUi: ∀ {l:List zBM} (x:vT St l),zFR l=true→ ∃y,stS l x=some y
 |[],_,h=>by simp [zFR] at h
 |[s],x,h=>by
  cases s<;>simp [zFR] at h
  exact ⟨x,rfl⟩
 |s::s'::r,x,h=>by
  simp only [stS]
  cases hs:zML s x.1 with
  |some y=>exact ⟨y,rfl⟩
  |none=>
   have h':zFR (s'::r)=true:=by
    cases s<;>simp only [zFR] at h ⊢ <;>first|exact h|simp [zML] at hs
   obtain ⟨y,hy⟩:=zUi (l:=s'::r) x.2 h'
   exact ⟨y,hy⟩
theorem zFQ {α:Type} : ∀ {l:List (Nat×α)} {i:Nat} {x:α},zDG l i=some x→(i,x)∈l
 |[],_,_,h=>by simp [zDG] at h
 |(j,y)::r,i,x,h=>by
  simp only [zDG] at h
  split at h
  ·rename_i hb
   have:=aQ hb
   subst this
   simp only [aa] at h
   subst h
   exact dO
  ·exact aw _ (zFQ h)
theorem zDV (m:Nat) (vs:List (Nat×List T)): ∀ (l:List (Option (List T))) (n i:Nat),(xV m vs n l)[i]? =(l[i]?).map (fun x=>match zDG vs (n+i) with
  |some y=>some y
  |none=>zQh m (n+i) x)
 |[],n,i=>by simp [xV]
 |x::r,n,i=>by
  cases i with
  |zero=>simp [xV]
  |succ i=>simp only [xV,bx];rw [zDV m vs r (n+1) i];rw [show n+1+i=n+(i+1) by omega]
theorem zKy (m:Nat) (ts:List (Nat×T)) (vars:List (Option (List T))): ∀ (l:List T) (n i:Nat),(zIc m ts vars n l)[i]? =(l[i]?).map (fun x=>match zDG ts (n+i) with
  |some y=>y
  |none=>match Nat.testBit m (2*(n+i)) with
   |true=> .dead
   |false=>zSk m vars x)
 |[],n,i=>by simp [zIc]
 |x::r,n,i=>by
  cases i with
  |zero=>simp [zIc]
  |succ i=>simp only [zIc,bx];rw [zKy m ts vars r (n+1) i];rw [show n+1+i=n+(i+1) by omega]
theorem zL1 (m:Nat) (vs:List (Nat×List T)): ∀ (l:List (Option (List T))) (n:Nat),(xV m vs n l).length=l.length
 |[],_=>rfl
 |_::r,n=>by simp [xV,zL1 m vs r (n+1)]
theorem zQi (m:Nat) (ts:List (Nat×T)) (vars:List (Option (List T))): ∀ (l:List T) (n:Nat),(zIc m ts vars n l).length=l.length
 |[],_=>rfl
 |_::r,n=>by simp [zIc,zQi m ts vars r (n+1)]
theorem zXS: ∀ {cs:List T},zMA cs=true→ ∃ds:List V,cs=ds.map .p
 |[],_=>⟨[],rfl⟩
 | .p d::r,h=>by
  obtain ⟨ds,hds⟩:=zXS (cs:=r) h
  exact ⟨d::ds,by rw [hds];rfl⟩
 | .ow _ _ _::_,h=>by simp [zMA] at h
 | .oe _ _ _ _ _::_,h=>by simp [zMA] at h
 | .lp _ _::_,h=>by simp [zMA] at h
 | .mp _ _ _::_,h=>by simp [zMA] at h
 | .ot _ _ _::_,h=>by simp [zMA] at h
 | .oet _ _ _ _ _::_,h=>by simp [zMA] at h
 | .ov _ _ _ _ _::_,h=>by simp [zMA] at h
 | .emp::_,h=>by simp [zMA] at h
 | .dead::_,h=>by simp [zMA] at h
theorem zQg {m i:Nat} {x:Option (List T)} {cs:List T} (h:zQh m i x=some cs):x=some cs∧m.testBit (2*i)=false∧m.testBit (2*i+1)=false∧ ∃ds:List V,cs=ds.map .p:=by
 unfold zQh at h
 split at h
 ·split at h
  ·cases h
  ·rename_i hb
   simp only [dE,dQ] at hb
   simp only [aa] at h
   subst h
   exact ⟨rfl,hb.1.1,hb.1.2,zXS hb.2⟩
 ·cases h
theorem zF5 {s:Nat} {cs:List T} (h:e.vars[s]? =some (some cs)):e.var s=some cs:=by simp [Env.var,h]
theorem zKz {s:Nat} {cs:List T} (h:e.var s=some cs):e.vars[s]? =some (some cs):=by
 simp only [Env.var] at h
 cases hs:e.vars[s]? with
 |none=>rw [hs] at h;cases h
 |some x=>rw [hs] at h;simp only [a7] at h;rw [h]
theorem zSm {j:JA} {s:vT St j.sl} {i:Nat} {cs2:List T} (h:(jV j e s).var i=some cs2):
  (i,cs2)∈vS j.sl s∨(e.var i=some cs2∧j.bits.testBit (2*i)=false∧j.bits.testBit (2*i+1)=false∧ ∃ds:List V,cs2=ds.map .p):=by
 have h1:=zKz h
 simp only [jV] at h1
 rw [zDV] at h1
 simp only [ah,bK] at h1
 obtain ⟨x,hx,h2⟩:=h1
 split at h2
 ·rename_i y hy
  simp only [aa] at h2
  subst h2
  exact .inl (zFQ hy)
 ·obtain ⟨rfl,h3,h4,h5⟩:=zQg h2
  exact .inr ⟨zF5 hx,h3,h4,h5⟩
theorem zQa {vars:List (Option (List T))} : ∀ {l:List (Nat×Nat×Nat)} {i:Nat} {y:T},(i,y)∈zTh vars l→ ∃s off,(i,s,off)∈l∧y=lpT vars s off
 |[],_,_,h=>by simp [zTh] at h
 |(j,s,off)::r,i,y,h=>by
  simp only [zTh,aB,ak] at h
  rcases h with ⟨rfl,rfl⟩|h
  ·exact ⟨s,off,dO,rfl⟩
  ·obtain ⟨s',off',h1,h2⟩:=zQa h
   exact ⟨s',off',aw _ h1,h2⟩
theorem qBC {s off:Nat} {x:T} (h:qCC s off x=true):x= .lp s off:=by
 unfold qCC at h
 split at h
 ·simp only [aj] at h
  rw [aQ h.1,aQ h.2]
 ·cases h
theorem zVz: ∀ {l:List (Nat×Nat×Nat)},qAJ e l=true→ ∀i s off,(i,s,off)∈l→e.get i= .lp s off
 |[],_,_,_,_,h=>by simp at h
 |(j,s0,off0)::r,h,i,s,off,hm=>by
  simp only [qAJ,aj] at h
  simp only [aB,ak] at hm
  rcases hm with ⟨rfl,rfl,rfl⟩|hm
  ·exact qBC h.1
  ·exact zVz h.2 i s off hm
theorem zYo (vars:List (Option (List T))) (s off:Nat):lpT vars s off= .dead∨(lpT vars s off= .lp s off∧zQk vars s=true):=by
 unfold lpT
 split
 ·rename_i h;exact .inr ⟨rfl,h⟩
 ·exact .inl rfl
theorem zYs {j:JA} {s:vT St j.sl} {i:Nat} (hi:i<e.tm.length):
  (∃y,(i,y)∈zTh (jV j e s).vars j.lps++tmS j.sl s∧(jV j e s).get i=y)∨
   ((jV j e s).get i= .dead)∨(j.bits.testBit (2*i)=false∧(jV j e s).get i=zSk j.bits (jV j e s).vars (e.get i)):=by
 have h1:(jV j e s).tm[i]? =_:=zKy j.bits (zTh (jV j e s).vars j.lps++tmS j.sl s) (jV j e s).vars e.tm 0 i
 rw [ai hi,aU,bK] at h1
 have hg:(jV j e s).get i=((jV j e s).tm[i]?).getD .dead:=by simp [Env.get,az]
 have he:e.get i=e.tm[i]:=by simp [Env.get,hi]
 rw [hg,h1,he]
 simp only [a7]
 split
 ·rename_i y hy
  exact .inl ⟨y,zFQ hy,rfl⟩
 ·split
  ·exact .inr (.inl rfl)
  ·rename_i hb
   exact .inr (.inr ⟨hb,rfl⟩)
theorem zIU {j:JA} {s:vT St j.sl} :(jV j e s).tm.length=e.tm.length∧(jV j e s).vars.length=e.vars.length:=
 ⟨zQi _ _ _ _ _,zL1 _ _ _ _⟩
theorem qAb {i:Nat} (h:e.tm.length≤i):e.get i= .dead:=by simp [Env.get,az,h]
theorem zNa {s:Nat} :zQk e.vars s=true↔ ∃cs,e.var s=some cs:=by
 unfold zQk
 constructor
 ·intro h
  split at h
  ·rename_i cs hcs;exact ⟨cs,zF5 hcs⟩
  ·cases h
 ·rintro ⟨cs,hcs⟩
  rw [zKz hcs]
end
theorem zXR {St:Type} {l:List zBM} {x:vT St l} : ∀ {i:Nat} {y:T},(i,y)∈tmS l x→(k6 l).testBit (2*i)=true:=by
 match l,x with
 |[],_=>intro i y h;simp [tmS] at h
 |[s],x=>
  intro i y h
  cases s<;>simp only [tmS,zEb,aO,ak,cM] at h
  all_goals
   obtain ⟨rfl,_⟩:=h
   simp [k6,cz]
 |s::s'::r,x=>
  intro i y h
  simp only [tmS,aX] at h
  rcases h with h|h
  ·cases s<;>simp only [zEb,aO,ak,cM] at h
   all_goals
    obtain ⟨rfl,_⟩:=h
    simp [k6,cz,cY]
  ·have:=zXR (l:=s'::r) (x:=x.2) h
   cases s<;>simp [k6,cY] at this ⊢ <;>first|exact .inr this|exact this
theorem qAM {St:Type} {l:List zBM} {x:vT St l} : ∀ {i:Nat} {y:List T},(i,y)∈vS l x→(k6 l).testBit (2*i+1)=true:=by
 match l,x with
 |[],_=>intro i y h;simp [vS] at h
 |[s],x=>
  intro i y h
  cases s<;>simp only [vS,zFu,aO,ak,cM] at h
  all_goals
   obtain ⟨rfl,_⟩:=h
   simp [k6,cz]
 |s::s'::r,x=>
  intro i y h
  simp only [vS,aX] at h
  rcases h with h|h
  ·cases s<;>simp only [zFu,aO,ak,cM] at h
   all_goals
    obtain ⟨rfl,_⟩:=h
    simp [k6,cz,cY]
  ·have:=qAM (l:=s'::r) (x:=x.2) h
   cases s<;>simp [k6,cY] at this ⊢ <;>first|exact .inr this|exact this
theorem zSU {St:Type} : ∀ {l:List zBM} {x:vT St l} {i:Nat},zAy l i=true→ ∃cs,zDG (vS l x) i=some cs:=by
 have app: ∀ {a b:List (Nat×List T)} {i:Nat},((∃cs,zDG a i=some cs)∨ ∃cs,zDG b i=some cs)→ ∃cs,zDG (a++b) i=some cs:=by
  intro a b i h
  induction a with
  |nil=>
   rcases h with ⟨cs,h⟩|h
   ·simp [zDG] at h
   ·exact h
  |cons x a ih=>
   obtain ⟨k,y⟩:=x
   simp only [cB,zDG] at h ⊢
   split
   ·exact ⟨_,rfl⟩
   ·rename_i hb
    simp only [hb] at h
    exact ih h
 have one: ∀ {s:zBM} {x:s.El St} {i:Nat},zAy [s] i=true→ ∃cs,zDG (zFu s x) i=some cs:=by
  intro s x i h
  cases s<;>simp only [zAy,c7,bz] at h
  simp only [zFu,zDG,h]
  exact ⟨_,rfl⟩
 intro l
 induction l with
 |nil=>intro x i h;simp [zAy] at h
 |cons s r ih=>
  intro x i h
  cases r with
  |nil=>exact one (s:=s) (x:=x) h
  |cons s' r=>
   have h2:zAy [s] i=true∨zAy (s'::r) i=true:=by
    cases s<;>simp only [zAy,bU,c7] at h ⊢
    ·exact .inr h
    ·exact .inr h
    ·exact h
    ·exact .inr h
   simp only [vS]
   rcases h2 with h2|h2
   ·exact app (.inl (one h2))
   ·exact app (.inr (ih h2))
theorem zVE: ∀ {l:List (Nat×Nat×Nat)} {i s off:Nat},(i,s,off)∈l→(zLZ l).testBit (2*i)=true
 |[],_,_,_,h=>by simp at h
 |(j,s0,off0)::r,i,s,off,h=>by
  simp only [aB,ak] at h
  simp only [zLZ,cY,bU,cz,decide_eq_true_eq]
  rcases h with ⟨rfl,_⟩|h
  ·exact .inl rfl
  ·exact .inr (zVE h)
end Go.Ve

namespace Go.Ve
open Go
section
variable {Γ:Sig} {P:Program} {G:Nat→Option (List V)} {e e1 e2:Env Γ.St}
def zRV (G:Nat→Option (List V)) (e e2:Env Γ.St):Prop:=
 ∀ (w0:World) (F0:Blk→Prop) (O0:xA) (a:Act) (w:World),Inv Γ G w0 F0 O0 a w e→Inv Γ G w0 F0 O0 a w e2
theorem qBL (hl:e2.tm.length=e.tm.length) (hst:e2.st=e.st) (ht2: ∀t,WkT (e.get t) (e2.get t))
  (hv2: ∀s cs2,e2.var s=some cs2→ ∃cs,e.var s=some cs∧zAQ cs cs2) (hlp: ∀t,zG6 e2 (e2.get t)=true)
  (hlv: ∀s cs2 x,e2.var s=some cs2→x∈cs2→zG6 e2 x=true):zRV G e e2:=by
 intro w0 F0 O0 a w h
 obtain ⟨F,O,β,hc,hG,hsz,hdf,ht,hv⟩:=h
 let al':j7→Prop:=fun x=>zU e x∧ ∀s,x= .v s→ ∃cs,e2.var s=some cs
 have hon: ∀v x,zW w F β (zU e) v x→zG6 e2 x=true→zW w F β al' v x:=by
  intro v x hx hl
  refine hx.on ?_
  have hs:=hx.sites
  cases x with
  |ow i k es=>exact ⟨hs,fun s h=>by cases h⟩
  |oe i k es j off=>exact ⟨hs,fun s h=>by cases h⟩
  |mp i es ck=>exact ⟨hs,fun s h=>by cases h⟩
  |ot i t xs=>exact fun h0=>⟨hs h0,fun s h=>by cases h⟩
  |oet i t xs j off=>exact ⟨hs,fun s h=>by cases h⟩
  |ov i t xs lo hi=>exact fun h0=>⟨hs h0,fun s h=>by cases h⟩
  |lp s off=>
   refine ⟨hs,fun s' h=> ?_⟩
   simp only [j7.v.injEq] at h
   subst h
   exact bv.1 hl
  |_=>trivial
 refine Inv.of (al:=al') (by rw [hst];exact hc.anti (fun x hx=>hx.1)) hG (by rw [hl];exact hsz) hdf ?_ ?_ ?_
 ·intro t
  exact hon _ _ (ht2 t _ _ _ _ _ (ht t)) (hlp t)
 ·intro s cs2 hcs2
  obtain ⟨cs,h1,h3⟩:=hv2 s cs2 hcs2
  obtain ⟨c,et,g1,g2,g3⟩:=hv s cs h1
  refine ⟨⟨⟨cs,h1⟩,fun s' h=>by simp only [j7.v.injEq] at h;subst h;exact ⟨cs2,hcs2⟩⟩,c,et,g1,g2.trans h3.len,?_⟩
  intro i x y hx hy
  have hlt:i<cs.length:=by rw [h3.len];exact (ac.1 hy).1
  exact hon _ _ (h3.get i cs[i] y (by simp [hlt]) hy _ _ _ _ _ (g3 i x cs[i] hx (by simp [hlt]))) (hlv s cs2 y hcs2 (af hy))
 ·rintro s ⟨_,hs⟩
  exact hs s rfl
theorem zRY {c:Cell} {x:c.El} : ∀y,y∈zMH c x→zG6 e y=true:=by
 intro y hy
 cases c with
 |p ty=>
  simp only [zMH,be] at hy
  obtain ⟨d,_,rfl⟩:=hy
  rfl
 |o id ty=>
  simp only [zMH,aO] at hy
  subst hy
  rfl
theorem zPg: ∀ {cs:List Cell} {x:zSI cs}, ∀y,y∈zIC cs x→zG6 e y=true
 |[],_,y,h=>by simp [zIC] at h
 |[c],x,y,h=>zRY (c:=c) (x:=x) y h
 |c::c'::r,x,y,h=>by
  simp only [zIC,aX] at h
  rcases h with h|h
  ·exact zRY y h
  ·exact zPg y h
theorem zT3 {s:zBM} {x:s.El Γ.St} {i:Nat} {cs:List T} (h:(i,cs)∈zFu s x): ∀y,y∈cs→zG6 e y=true:=by
 intro y hy
 cases s<;>simp only [zFu,aO,ak,cM] at h
 obtain ⟨_,rfl⟩:=h
 exact zPg y hy
theorem qB3: ∀ {l:List zBM} {x:vT Γ.St l} {i:Nat} {cs:List T},(i,cs)∈vS l x→ ∀y,y∈cs→zG6 e y=true
 |[],_,_,_,h=>by simp [vS] at h
 |[s],x,_,_,h=>zT3 (s:=s) (x:=x) h
 |s::s'::r,x,_,_,h=>by
  simp only [vS,aX] at h
  rcases h with h|h
  ·exact zT3 h
  ·exact qB3 h
theorem zR3 {s:zBM} {x:s.El Γ.St} {i:Nat} {y:T} (h:(i,y)∈zEb s x):zG6 e y=true:=by
 cases s<;>simp only [zEb,aO,ak,cM] at h
 all_goals
  obtain ⟨_,rfl⟩:=h
  rfl
theorem zZj: ∀ {l:List zBM} {x:vT Γ.St l} {i:Nat} {y:T},(i,y)∈tmS l x→zG6 e y=true
 |[],_,_,_,h=>by simp [tmS] at h
 |[s],x,_,_,h=>zR3 (s:=s) (x:=x) h
 |s::s'::r,x,_,_,h=>by
  simp only [tmS,aX] at h
  rcases h with h|h
  ·exact zR3 h
  ·exact zZj h
theorem zVD {j:JA} {i:Nat} (h:j.bits.testBit i=false):(zLZ j.lps).testBit i=false∧(k6 j.sl).testBit i=false:=by
 simp only [JA.bits,kJ] at h
 exact h.2
theorem zIT {j:JA} (hst:Subsingleton Γ.St∨zFR j.sl=true) {s:vT Γ.St j.sl} (hA:zZ j.bits e e1) (hr:rdJ j e1=some s):zRV G e1 (jV j e s):=by
 have hchk:qAJ e1 j.lps=true∧rdS e1 j.sl=some s:=by
  unfold rdJ at hr
  split at hr
  ·rename_i h;exact ⟨h,hr⟩
  ·cases hr
 obtain ⟨hL,hS⟩:=hchk
 have hv: ∀i cs2,(jV j e s).var i=some cs2→ ∃cs,e1.var i=some cs∧zAQ cs cs2:=by
  intro i cs2 h
  rcases zSm h with h|⟨h1,h2,h3,ds,rfl⟩
  ·exact qB6 hS i cs2 h
  ·exact ⟨_,hA.v i ds h2 h3 h1,zAQ.refl _⟩
 have hlp1: ∀s' off,zQk (jV j e s).vars s'=true→zG6 (jV j e s) (.lp s' off)=true:=by
  intro s' off h
  obtain ⟨cs,hcs⟩:=zNa.1 h
  simp only [zG6,hcs,Option.isSome_some]
 have jB: ∀t,WkT (e1.get t) ((jV j e s).get t)∧zG6 (jV j e s) ((jV j e s).get t)=true:=by
  intro t
  rcases aL t e.tm.length with hlt|hge
  ·rcases zYs (j:=j) (s:=s) hlt with ⟨y,hy,h1⟩|h1|⟨hb,h1⟩
   ·rw [h1]
    rw [aX] at hy
    rcases hy with hy|hy
    ·obtain ⟨s',off,h2,rfl⟩:=zQa hy
     have h3:=zVz hL t s' off h2
     rcases zYo (jV j e s).vars s' off with h4|⟨h4,h5⟩
     ·rw [h4];exact ⟨.dead _,rfl⟩
     ·rw [h4,h3];exact ⟨.refl _,hlp1 s' off h5⟩
    ·exact ⟨zZK hS t y hy,zZj hy⟩
   ·rw [h1];exact ⟨.dead _,rfl⟩
   ·rw [h1]
    cases hx:e.get t with
    |p d=>rw [hA.p t d hb hx];exact ⟨.refl _,rfl⟩
    |lp s' off=>
     simp only [zSk]
     split
     ·rename_i hk
      simp only [aj,bj] at hk
      rw [hA.lp t s' off hb hk.1 hx]
      exact ⟨.refl _,hlp1 s' off hk.2⟩
     ·exact ⟨.dead _,rfl⟩
    |_=>exact ⟨.dead _,rfl⟩
  ·rw [qAb (e:=jV j e s) (by rw [zIU.1];exact hge)]
   exact ⟨.dead _,rfl⟩
 have hst':(jV j e s).st=e1.st:=by
  rcases hst with hsub|hst
  ·exact dq _ _
  ·obtain ⟨y,hy⟩:=zUi s hst
   have:=zZL hS y hy
   show qDa (stS j.sl s) e.st=e1.st
   rw [hy];exact this
 refine qBL (by rw [zIU.1,hA.tl]) hst' (fun t=>(jB t).1) hv (fun t=>(jB t).2) ?_
 intro i cs2 x h hx
 rcases zSm h with h|⟨_,_,_,ds,rfl⟩
 ·exact qB3 h x hx
 ·simp only [be] at hx
  obtain ⟨d,_,rfl⟩:=hx
  rfl
theorem zUM {j:JA} : ∀ (l:List T) (n:Nat),zWq j e n l=true→ ∀i s off,l[i]? =some (.lp s off)→j.bits.testBit (2*(n+i))=false→j.bits.testBit (2*s)=false→
  (zAy j.sl s=true∧(e.vars[s]?).isSome=true)∨(zQh j.bits s (e.var s)).isSome=true
 |[],_,_,i,s,off,h,_,_=>by simp at h
 |x::r,n,hk,i,s,off,h,h1,h2=>by
  have hr:zWq j e (n+1) r=true:=by
   cases x<;>simp only [zWq,aj] at hk<;>first|exact hk|exact hk.2
  cases i with
  |zero=>
   simp only [aY,aa] at h
   subst h
   simp only [zWq,aj,bU] at hk
   rw [Nat.add_zero] at h1
   rw [h1,h2] at hk
   rcases hk.1 with ((h3|h3)|h3)|h3
   ·cases h3
   ·cases h3
   ·exact .inl h3
   ·exact .inr h3
  |succ i=>
   simp only [bx] at h
   exact zUM r (n+1) hr i s off h (by rw [show n+1+i=n+(i+1) by omega];exact h1) h2
theorem zGF {j:JA} {s:vT Γ.St j.sl} (hok:okJ j e=true):zZ j.bits e (jV j e s):=by
 have hlook: ∀t,j.bits.testBit (2*t)=false→ ∀y,(t,y) ∉ zTh (jV j e s).vars j.lps++tmS j.sl s:=by
  intro t ht y hy
  obtain ⟨h1,h2⟩:=zVD ht
  rw [aX] at hy
  rcases hy with hy|hy
  ·obtain ⟨s',off,h3,_⟩:=zQa hy
   rw [zVE h3] at h1;cases h1
  ·rw [zXR hy] at h2;cases h2
 have jB: ∀t,j.bits.testBit (2*t)=false→t<e.tm.length→(jV j e s).get t=zSk j.bits (jV j e s).vars (e.get t):=by
  intro t ht hlt
  have h1:(jV j e s).tm[t]? =_:=zKy j.bits (zTh (jV j e s).vars j.lps++tmS j.sl s) (jV j e s).vars e.tm 0 t
  rw [ai hlt,aU,bK] at h1
  have hg:(jV j e s).get t=((jV j e s).tm[t]?).getD .dead:=by simp [Env.get,az]
  have he:e.get t=e.tm[t]:=by simp [Env.get,hlt]
  rw [hg,h1,he]
  simp only [a7]
  split
  ·rename_i y hy
   exact absurd (zFQ hy) (hlook t ht y)
  ·rw [ht]
 have hvar: ∀i (ds:List V),j.bits.testBit (2*i)=false→j.bits.testBit (2*i+1)=false→e.var i=some (ds.map T.p)→(jV j e s).var i=some (ds.map T.p):=by
  intro i ds h1 h2 h3
  apply zF5
  show (xV _ _ _ _)[i]? =_
  rw [zDV,zKz h3,aU,bK]
  congr 1
  split
  ·rename_i y hy
   have:=qAM (zFQ hy)
   rw [(zVD h2).2] at this;cases this
  ·have hall: ∀l:List V,zMA (l.map T.p)=true:=by
    intro l
    induction l with
    |nil=>rfl
    |cons x l ih=>simpa [zMA] using ih
   simp [zQh,h1,h2,hall]
 have hlt: ∀t x,e.get t=x→x≠ .dead→t<e.tm.length:=by
  intro t x hx hne
  rcases aL t e.tm.length with h|h
  ·exact h
  ·rw [qAb h] at hx;exact absurd hx.symm hne
 refine ⟨zIU.1,zIU.2,?_,?_,hvar⟩
 ·intro t d ht hx
  rw [jB t ht (hlt t _ hx (by simp)),hx];rfl
 ·intro t s' off ht hs' hx
  have hl:=hlt t _ hx (by simp)
  rw [jB t ht hl,hx]
  have hg:e.tm[t]? =some (.lp s' off):=by
   rw [ai hl]
   simp only [Env.get,az,ai hl,a7] at hx
   rw [hx]
  have h3:zQk (jV j e s).vars s'=true:=by
   rcases zUM e.tm 0 hok t s' off hg (by rw [bK];exact ht) hs' with ⟨h4,h5⟩|h4
   ·obtain ⟨cs,hcs⟩:=zSU (x:=s) h4
    obtain ⟨y,hy⟩:=bv.1 h5
    rw [zNa]
    refine ⟨cs,zF5 ?_⟩
    show (xV _ _ _ _)[s']? =_
    rw [zDV,hy,aU,bK,hcs]
   ·obtain ⟨cs,hcs⟩:=bv.1 h4
    obtain ⟨h5,h6,h7,ds,rfl⟩:=zQg hcs
    rw [zNa]
    exact ⟨_,hvar s' ds h6 h7 h5⟩
  simp [zSk,hs',h3]
theorem zRV.code {c:Code} {k:X} (h:jN P G c e k e1) (hf:zRV G e1 e2):jN P G c e k e2:=by
 intro w0 F0 O0 a w hi
 refine wp_mono (h w0 F0 O0 a w hi) ?_
 rintro ex a' w' ⟨rfl,hi'⟩
 exact ⟨rfl,hf _ _ _ _ _ hi'⟩
theorem zRV.loop {c:Code} {k:X} (hf:zRV G e e1) (h:zCY P G c e1 k e2):zCY P G c e k e2:=
 fun w0 F0 O0 a w hi=>h w0 F0 O0 a w (hf _ _ _ _ _ hi)
theorem zNm {j:JA} {lg:Nat} {s:vT Γ.St j.sl} (h:zTy j e lg=some s):rdJ j e=some s∧ ∀t,j.bits.testBit t=false→lg.testBit t=false:=by
 unfold zTy at h
 split at h
 ·rename_i hb
  have hb:=aQ hb
  refine ⟨h,fun t ht=> ?_⟩
  rw [←hb,kJ] at ht
  exact ht.1
 ·cases h
theorem zSj {A:Nat→Option JA} {t:Nat} {c:Code} {j:JA} (h:qBA A t c=some j): ∃k,A k=some j:=by
 unfold qBA at h
 split at h
 ·exact ⟨_,h⟩
 ·cases h
theorem zIX {S:zQ Γ} {A:Nat→Option JA} (hst: ∀k j,A k=some j→Subsingleton Γ.St∨zFR j.sl=true) (hmix:P.follows .mixedOrders=true) (hS:qG Γ P G S.toS): ∀ (c:Code) (ρ:Type) (K:X→Env Γ.St→Nat→Option ρ) (e:Env Γ.St) (lg:Nat) (v:ρ),
  exC P G S A c ρ K e lg=some v→ ∃k e1 d,jN P G c e k e1∧zZ d e e1∧K k e1 (lg|||d)=some v:=by
 intro c
 induction c with
 |skip=>intro ρ K e lg v h;exact ⟨_,_,0, .skip e,zZ.refl e,by rw [dL];exact h⟩
 |exit id=>intro ρ K e lg v h;exact ⟨_,_,0, .exit id e,zZ.refl e,by rw [dL];exact h⟩
 |ret=>intro ρ K e lg v h;exact ⟨_,_,0, .ret e,zZ.refl e,by rw [dL];exact h⟩
 |seq x y ihx ihy=>
  intro ρ K e lg v h
  simp only [exC] at h
  split at h
  ·rename_i j hj0
   obtain ⟨jk,hj⟩:=zSj hj0
   have hjs:=hst jk j hj
   have fin: ∀ (k:X) (e1:Env Γ.St) (d:Nat) (s:vT Γ.St j.sl),jN P G x e .normal e1→zZ d e e1→zTy j e1 (0|||d)=some s→okJ j e=true→zDU (jV j e s) (fun e1=>exC P G S A y ρ K e1 (lg|||j.bits))=some v→
     ∃k e1 d,jN P G (.seq x y) e k e1∧zZ d e e1∧K k e1 (lg|||d)=some v:=by
    intro k e1 d s h1 h2 h3 hok h4
    rw [uE] at h4
    obtain ⟨h5,h6⟩:=zNm h3
    have hA:zZ j.bits e e1:=h2.mono (fun t ht=>by have:=h6 t ht;rw [dM] at this;exact this)
    obtain ⟨k2,e2,d2,h7,h8,h9⟩:=ihy ρ K _ _ v h4
    exact ⟨k2,e2,j.bits|||d2,(zRV.code h1 (zIT hjs hA h5)).seqN h7,(zGF hok).trans h8,by rw [←bN];exact h9⟩
   split at h
   ·obtain ⟨hok,h⟩:=yT.1 h
    obtain ⟨s,h1,h2⟩:=bind_some h
    obtain ⟨k,e1,d,h3,h4,h5⟩:=ihx _ _ _ _ _ h1
    cases k with
    |normal=>exact fin .normal e1 d s h3 h4 h5 hok h2
    |exit id=>cases h5
    |ret=>cases h5
   ·obtain ⟨hok,h⟩:=yT.1 h
    have h0: ∃o,exC P G S A x (vT Γ.St j.sl ⊕ ρ) (fun k e1 lg1=>match k with
     | .normal=>(zTy j e1 lg1).map .inl
     |k=>(K k e1 (lg|||lg1)).map .inr) e 0=some o∧match o with
     | .inl s=>zDU (jV j e s) (fun e1=>exC P G S A y ρ K e1 (lg|||j.bits))=some v
     | .inr r=>r=v:=by
     unfold qM at h
     split at h
     ·cases h
     ·rename_i s hs;exact ⟨_,hs,h⟩
     ·rename_i r hr;exact ⟨_,hr,by simpa using h⟩
    obtain ⟨o,h1,h2⟩:=h0
    obtain ⟨k,e1,d,h3,h4,h5⟩:=ihx _ _ _ _ _ h1
    have other:k≠ .normal→(K k e1 (lg|||(0|||d))).map (Sum.inr (α:=vT Γ.St j.sl))=some o→ ∃k e1 d,jN P G (.seq x y) e k e1∧zZ d e e1∧K k e1 (lg|||d)=some v:=by
     intro hk hm
     rw [ah] at hm
     obtain ⟨r,hr,rfl⟩:=hm
     simp only at h2
     subst h2
     exact ⟨k,e1,d,h3.seqX hk,h4,by rw [dM] at hr;exact hr⟩
    cases k with
    |normal=>
     simp only [ah] at h5
     obtain ⟨s,hs,rfl⟩:=h5
     exact fin .normal e1 d s h3 h4 hs hok h2
    |exit id=>exact other (by simp) h5
    |ret=>exact other (by simp) h5
  ·obtain ⟨k,e1,d,h1,h2,h3⟩:=ihx _ _ _ _ _ h
   cases k with
   |normal=>
    obtain ⟨k2,e2,d2,h4,h5,h6⟩:=ihy _ _ _ _ _ h3
    exact ⟨k2,e2,d|||d2,h1.seqN h4,h2.trans h5,by rw [←bN];exact h6⟩
   |exit id=>exact ⟨_,e1,d,h1.seqX (by simp),h2,h3⟩
   |ret=>exact ⟨_,e1,d,h1.seqX (by simp),h2,h3⟩
 |cond c x y ihx ihy=>
  intro ρ K e lg v h
  simp only [exC] at h
  split at h
  ·rename_i b hb
   cases b with
   |true=>
    obtain ⟨k,e1,d,h1,h2,h3⟩:=ihx _ _ _ _ _ h
    exact ⟨k,e1,d,jN.condB hb h1,h2,h3⟩
   |false=>
    obtain ⟨k,e1,d,h1,h2,h3⟩:=ihy _ _ _ _ _ h
    exact ⟨k,e1,d,jN.condB hb h1,h2,h3⟩
  ·cases h
 |block id c ih=>
  intro ρ K e lg v h
  simp only [exC] at h
  obtain ⟨k,e1,d,h1,h2,h3⟩:=ih _ _ _ _ _ h
  exact ⟨_,e1,d,h1.block,h2,h3⟩
 |loop c ih=>
  intro ρ K e lg v h
  simp only [exC] at h
  split at h
  ·rename_i j hj0
   obtain ⟨jk,hj⟩:=zSj hj0
   have hjs:=hst jk j hj
   obtain ⟨hok,h⟩:=yT.1 h
   obtain ⟨s0,h1,h2⟩:=bind_some h
   simp only [uE] at h2
   rw [zIQ] at h2
   obtain ⟨n,hn⟩:=h2
   have key: ∀ (n:Nat) (s:vT Γ.St j.sl),zEt (fun s=>exC P G S A c (vT Γ.St j.sl ⊕ ρ) (fun k e1 lg1=>match k with
    | .normal=>(zTy j e1 lg1).map .inl
    |k=>(K k e1 (lg|||(j.bits|||lg1))).map .inr) (jV j e s) 0) n s=some v→ ∃k e1 d,zCY P G c (jV j e s) k e1∧zZ (j.bits|||d) e e1∧K k e1 (lg|||(j.bits|||d))=some v:=by
    intro n
    induction n with
    |zero=>intro s hs;simp [zEt] at hs
    |succ n ihn=>
     intro s hs
     simp only [zEt] at hs
     have other: ∀ (o:vT Γ.St j.sl ⊕ ρ) (k:X) (e1:Env Γ.St) (d:Nat),k≠ .normal→jN P G c (jV j e s) k e1→zZ d (jV j e s) e1→(K k e1 (lg|||(j.bits|||(0|||d)))).map (Sum.inr (α:=vT Γ.St j.sl))=some o→
       (∃r,o= .inr r∧K k e1 (lg|||(j.bits|||d))=some r)∧zCY P G c (jV j e s) k e1∧zZ (j.bits|||d) e e1:=by
      intro o k e1 d hk h3 h4 hm
      rw [ah] at hm
      obtain ⟨r,hr,rfl⟩:=hm
      rw [dM] at hr
      exact ⟨⟨r,rfl,hr⟩, .last h3 hk,(zGF hok).trans h4⟩
     split at hs
     ·cases hs
     ·rename_i s' hs'
      obtain ⟨k,e1,d,h3,h4,h5⟩:=ih _ _ _ _ _ hs'
      cases k with
      |normal=>
       simp only [ah] at h5
       obtain ⟨s1,hs1,heq⟩:=h5
       simp only [Sum.inl.injEq] at heq
       subst heq
       obtain ⟨h6,h7⟩:=zNm hs1
       have hA:zZ j.bits e e1:=(zGF hok).same (h4.mono (fun t ht=>by have:=h7 t ht;rw [dM] at this;exact this))
       obtain ⟨k2,e2,d2,h8,h9,h10⟩:=ihn _ hs
       exact ⟨k2,e2,d2,zCY.step (zRV.code h3 (zIT hjs hA h6)) h8,h9,h10⟩
      |exit id=>obtain ⟨⟨r,hr,_⟩,_⟩:=other _ _ _ _ (by simp) h3 h4 h5;cases hr
      |ret=>obtain ⟨⟨r,hr,_⟩,_⟩:=other _ _ _ _ (by simp) h3 h4 h5;cases hr
     ·rename_i r hs'
      simp only [aa] at hs
      subst hs
      obtain ⟨k,e1,d,h3,h4,h5⟩:=ih _ _ _ _ _ hs'
      cases k with
      |normal=>
       simp only [ah] at h5
       obtain ⟨s1,hs1,heq⟩:=h5
       cases heq
      |exit id=>
       obtain ⟨⟨r',hr,hK⟩,hL,hA⟩:=other _ _ _ _ (by simp) h3 h4 h5
       simp only [Sum.inr.injEq] at hr
       subst hr
       exact ⟨_,e1,d,hL,hA,hK⟩
      |ret=>
       obtain ⟨⟨r',hr,hK⟩,hL,hA⟩:=other _ _ _ _ (by simp) h3 h4 h5
       simp only [Sum.inr.injEq] at hr
       subst hr
       exact ⟨_,e1,d,hL,hA,hK⟩
   obtain ⟨k,e1,d,h3,h4,h5⟩:=key n s0 hn
   exact ⟨k,e1,_,jN.loop (zRV.loop (zIT hjs ((zZ.refl e).mono (fun t _=>by simp)) h1) h3),h4,h5⟩
  ·have key: ∀ (n:Nat) (e:Env Γ.St) (lg:Nat),zK4 (exC P G S A c ρ) K n e lg=some v→ ∃k e1 d,zCY P G c e k e1∧zZ d e e1∧K k e1 (lg|||d)=some v:=by
    intro n
    induction n with
    |zero=>intro e lg h;simp [zK4] at h
    |succ n ihn=>
     intro e lg h
     simp only [zK4] at h
     obtain ⟨k,e1,d,h5,h6,h7⟩:=ih _ _ _ _ _ h
     cases k with
     |normal=>
      obtain ⟨k2,e2,d2,h8,h9,h10⟩:=ihn e1 _ h7
      exact ⟨k2,e2,d|||d2,zCY.step h5 h8,h6.trans h9,by rw [←bN];exact h10⟩
     |exit id=>exact ⟨_,e1,d, .last h5 (by simp),h6,h7⟩
     |ret=>exact ⟨_,e1,d, .last h5 (by simp),h6,h7⟩
   obtain ⟨k,e1,d,h4,h5,h6⟩:=key _ e lg h
   exact ⟨k,e1,d,jN.loop h4,h5,h6⟩
 |region id ops draw=>
  intro ρ K e lg v h
  simp only [exC] at h
  split at h
  ·rename_i j hj
   have hjs:=hst _ j hj
   obtain ⟨hok,h⟩:=yT.1 h
   obtain ⟨s,h1,h2⟩:=bind_some h
   obtain ⟨e1,n,h3,h4,h5⟩:=zPF hmix hS (id:=id) h1
   rw [uE] at h2
   obtain ⟨h6,h7⟩:=zNm h5
   have hA:zZ j.bits e e1:=h4.mono (fun t ht=>by have:=h7 t ht;rw [dM] at this;exact this)
   exact ⟨.normal,jV j e s,j.bits,zRV.code h3 (zIT hjs hA h6),zGF hok,h2⟩
  ·obtain ⟨e1,n,h3,h4,h5⟩:=zPF hmix hS (id:=id) h
   exact ⟨.normal,e1,n,h3,h4,h5⟩
 |_=>intro ρ K e lg v h;simp [exC] at h
inductive RTy where
 |p (ty:Ty)
 |o (ty:Ty)
 |tu (tys:List Ty)
@[reducible] def RTy.El:RTy→Type
 | .p ty=>ty.El
 | .o ty=>List ty.El
 | .tu tys=>ElS tys
def RTy.get:(R:RTy)→RV→Option R.El
 | .p ty, .p d=>ty.dec d
 | .p (.sl ty), .ownT t' xs=>zDK t' ty xs
 | .p ty, .own []=>ty.dec (.sl [])
 | .p _,_=>none
 | .o ty, .ownT t' xs=>zDK t' ty xs
 | .o _, .p (.val (.slice none 0 0))=>some []
 | .o _, .own []=>some []
 | .o _,_=>none
 | .tu tys, .p (.tup ds)=>zFs tys ds
 | .tu _,_=>none
def RTy.res:(R:RTy)→R.El→RV
 | .p ty,x=> .p (ty.enc x)
 | .o ty,xs=> .ownT ty xs
 | .tu tys,x=> .p (.tup (kP tys x))
def RTy.pl:RTy→Bool
 | .p ty=>ty.flat
 | .o ty=>ty.flat
 | .tu tys=>tys.all Ty.flat
theorem RTy.get_sound {N:Nat} {w:World} {F:Blk→Prop} {O:Nat→Prop} {v:Value} {R:RTy} {r:RV} {y:R.El} (h:R.get r=some y) (hr:x9 N w F O v r):
  ∃F':Blk→Prop,(∀b,F b→F' b)∧(∀id a n c,F' (.h id a n c)↔F (.h id a n c))∧(∀b:Nat,F' b→F b∨(N≤b∧b<w.heap.size∧ ¬O b))∧x9 N w F' O v (R.res y):=by
 have same:x9 N w F O v (R.res y)→ ∃F':Blk→Prop,(∀b,F b→F' b)∧(∀id a n c,F' (.h id a n c)↔F (.h id a n c))∧(∀b:Nat,F' b→F b∨(N≤b∧b<w.heap.size∧ ¬O b))∧x9 N w F' O v (R.res y):=
  fun h=>⟨F,fun _ h=>h,fun _ _ _ _=>cC,fun _ h=> .inl h,h⟩
 unfold RTy.get at h
 split at h
 ·exact same (kX h _ _ _ hr)
 ·rename_i ty t' xs
  exact zN0 (r:= .ownT t' xs) (r':= .p (.tl ty y)) (uI h) hr
 ·rename_i ty _
  refine same ?_
  rcases hr with ⟨_,a0,rfl⟩|⟨h',_⟩
  ·exact kX h _ _ _ (.slemp a0 0)
  ·exact absurd rfl h'
 ·cases h
 ·rename_i ty t' xs
  exact zN0 (r:= .ownT t' xs) (r':= .ownT ty y) (uI h) hr
 ·simp only [aa] at h;subst h
  exact same (.inl ⟨rfl,none,Rd.eq_val hr⟩)
 ·simp only [aa] at h;subst h
  exact same hr
 ·cases h
 ·exact same (WkV.tup (uU _ _ _ h) _ _ _ hr)
 ·cases h
noncomputable def exF (L:jJ) (G:Nat→Option (List V)) (S:zQ Γ) (A:Nat→Option JA) (fn:Func) (c:Code) (R:RTy) (s:Γ.St) (ds:List V):Option R.El:=
 zDU (start fn.ntmps s ds) (fun e=>exC L G S A c R.El (fun k e1 _=>match k with
  | .exit _=>none
  |_=>match zCC L e1 fn with
   |some r=>R.get r
   |none=>none) e 0)
def vG {X:Type} (dec:List V→Option X) (R:RTy) (g:X→Option R.El):Γ.St→List V→Option (zDL Γ.St):=fun s ds=>
 match dec ds with
 |some x=>some ⟨R.El,g x,fun _=>s,R.res,R.pl⟩
 |none=>none
def wI (ts:List Ty) (R:RTy) (g:ElS ts→Option R.El):Γ.St→List V→Option (zDL Γ.St):=vG (zFs ts) R g
inductive ATy where
 |d (ty:Ty)
 |pp (ty:Ty)
 |clo (f:Nat) (caps:List (Bool×Ty))
@[reducible] def qA0:List (Bool×Ty)→Type
 |[]=>Unit
 |c::r=>c.2.El×qA0 r
@[reducible] def ATy.El:ATy→Type
 | .d ty=>ty.El
 | .pp ty=>ty.El
 | .clo _ caps=>qA0 caps
@[reducible] def ElA:List ATy→Type
 |[]=>Unit
 |t::ts=>t.El×ElA ts
def zWS:(l:List (Bool×Ty))→qA0 l→List V
 |[],_=>[]
 |(b,t)::r,x=>(match b with
  |true=> .pp (t.cells x.1)
  |false=>t.enc x.1)::zWS r x.2
def ATy.enc:(t:ATy)→t.El→V
 | .d ty,x=>ty.enc x
 | .pp ty,x=> .pp (ty.cells x)
 | .clo f caps,x=> .clo f (zWS caps x)
def zWT:(ts:List ATy)→ElA ts→List V
 |[],_=>[]
 |t::ts,x=>t.enc x.1::zWT ts x.2
def zXM (t:Ty):V→Option t.El
 | .pp cs=>match t.uncells cs with
  |some (x,[])=>some x
  |_=>none
 |_=>none
def zKU:(l:List (Bool×Ty))→List V→Option (qA0 l)
 |[],[]=>some ()
 |(b,t)::r,d::ds=>match b with
  |true=>match zXM t d with
   |some x=>match zKU r ds with
    |some xs=>some (x,xs)
    |none=>none
   |none=>none
  |false=>match t.dec d with
   |some x=>match zKU r ds with
    |some xs=>some (x,xs)
    |none=>none
   |none=>none
 |_,_=>none
def ATy.dec:(t:ATy)→V→Option t.El
 | .d ty,v=>ty.dec v
 | .pp ty,v=>zXM ty v
 | .clo f caps, .clo g ds=>match Nat.beq g f with
  |true=>zKU caps ds
  |false=>none
 | .clo _ _,_=>none
def uH:(ts:List ATy)→List V→Option (ElA ts)
 |[],[]=>some ()
 |t::ts,d::ds=>match t.dec d with
  |some x=>match uH ts ds with
   |some xs=>some (x,xs)
   |none=>none
  |none=>none
 |_,_=>none
def zZp (ts:List ATy) (R:RTy) (g:ElA ts→Option R.El):Γ.St→List V→Option (zDL Γ.St):=vG (uH ts) R g
def zQ.none (Γ:Sig):zQ Γ:=fun _ _ _=>Option.none
def zQ.add (S:zQ Γ) (f:FuncId) (sp:Γ.St→List V→Option (zDL Γ.St)):zQ Γ:=fun g s ds=>
 match Nat.beq g f with
 |true=>match zDi ds with
  |true=>S g s ds
  |false=>match sp s ds with
   | .some c=>some c
   | .none=>S g s ds
 |false=>S g s ds
def qQ (sp:Γ.St→List V→Option (zDL Γ.St)):Γ.St→List V→Option (Γ.St×RV):=fun s ds=>
 match sp s ds with
 |some c=>c.m.map (fun y=>(c.st y,c.res y))
 |none=>none
theorem qC:qG Γ P G (zQ.none Γ).toS:=by
 have:(zQ.none Γ).toS=zO6 Γ:=by funext f s ds;rfl
 rw [this];exact zJ3
theorem q7 {S:zQ Γ} (hS:qG Γ P G S.toS) {f:FuncId} {sp:Γ.St→List V→Option (zDL Γ.St)} (hi:zId P f=true) (h:w6 Γ P G f (qQ sp)):qG Γ P G (S.add f sp).toS:=by
 have e0: ∀s ds,zDi ds=true→(S.add f sp).toS f s ds=S.toS f s ds:=by
  intro s ds hb
  simp only [zQ.toS,zQ.add,bh,hb]
 have e1: ∀s ds,zDi ds=false→(S.add f sp).toS f s ds=if (sp s ds).isSome then qQ sp s ds else S.toS f s ds:=by
  intro s ds hb
  simp only [zQ.toS,zQ.add,qQ,bh,hb]
  cases sp s ds<;>rfl
 have e2: ∀g,g≠f→(S.add f sp).toS g=S.toS g:=by
  intro g hg
  funext s ds
  have:Nat.beq g f=false:=by
   cases hb:Nat.beq g f with
   |false=>rfl
   |true=>exact absurd (aQ hb) hg
  simp only [zQ.toS,zQ.add,this]
 have hnf: ∀k,P.funcs[k]? =none→k≠f:=by
  rintro k hk rfl
  simp [zId,hk] at hi
 refine ⟨?_,?_,fun hno st q t ys bytes st' d h=>hS.app hno st q t ys bytes st' d (by rw [←e2 _ (hnf _ hno)];exact h),?_⟩
 ·intro g
  by_cases hg:g=f
  ·subst hg
   intro w F O s args ds s' r a1 a2 a3 a4 a5 a6
   cases hb:zDi ds with
   |true=>
    rw [e0 s ds hb] at a6
    exact hS.ok g w F O s args ds s' r a1 a2 a3 a4 a5 a6
   |false=>
    rw [e1 s ds hb] at a6
    split at a6
    ·exact h w F O s args ds s' r a1 a2 a3 a4 a5 a6
    ·exact hS.ok g w F O s args ds s' r a1 a2 a3 a4 a5 a6
  ·rw [e2 g hg];exact hS.ok g
 ·intro g s ds r hr hbot
  by_cases hg:g=f
  ·subst hg
   unfold zId at hi
   split at hi
   ·rename_i fn hfn
    simp only [aj,bj] at hi
    exact ⟨fn,hfn,hi.1,hi.2⟩
   ·cases hi
  ·rw [e2 g hg] at hr;exact hS.is g s ds r hr hbot
 ·intro g st t xs ds st' ys d h
  by_cases hg:g=f
  ·subst hg;rw [e0 _ _ rfl] at h;exact hS.bor g st t xs ds st' ys d h
  ·rw [e2 g hg] at h;exact hS.bor g st t xs ds st' ys d h
def zQ.addB (S:zQ Γ) (f:FuncId) (sp:Γ.St→List V→Option (zDL Γ.St)):zQ Γ:=fun g s ds=>
 match Nat.beq g f with
 |true=>match ds with
  | .bot::r=>match sp s r with
   | .some c=>some c
   | .none=>S g s ds
  |_=>S g s ds
 |false=>S g s ds
def RTy.val:(R:RTy)→R.El→V
 | .p ty,x=>ty.enc x
 | .o ty,xs=> .tl ty xs
 | .tu tys,x=> .tup (kP tys x)
def vI (t:Ty) {X:Type} (dec:List V→Option X) (R:RTy) (g:List t.El→X→Option (List t.El×R.El)):Γ.St→List V→Option (zDL Γ.St):=fun s ds=>
 match ds with
 | .tl t' xs::r=>match zDK t' t xs with
  |some ys=>match dec r with
   |some x=>some ⟨List t.El×R.El,g ys x,fun _=>s,fun y=> .p (.tup [.tl t y.1,R.val y.2]),false⟩
   |none=>none
  |none=>none
 |_=>none
def zBH (Γ:Sig) (P:Program) (G:Nat→Option (List V)) (f:FuncId) (t:Ty) {X:Type} (dec:List V→Option X) (R:RTy) (g:List t.El→X→Option (List t.El×R.El)):Prop:=
 ∀ (s:Γ.St) (xs:List t.El) (r:List V) (x:X) (ys:List t.El) (y:R.El),dec r=some x→g xs x=some (ys,y)→zBI Γ P G f s t xs r s ys (R.val y)
theorem wH {S:zQ Γ} (hS:qG Γ P G S.toS) {f:FuncId} {t:Ty} {X:Type} {dec:List V→Option X} {R:RTy} {g:List t.El→X→Option (List t.El×R.El)} (hi:zId P f=true)
  (h:zBH Γ P G f t dec R g):qG Γ P G (S.addB f (vI t dec R g)).toS:=by
 have e0: ∀s ds,zDi ds=false→(S.addB f (vI t dec R g)).toS f s ds=S.toS f s ds:=by
  intro s ds hb
  simp only [zQ.toS,zQ.addB,bh]
  cases ds with
  |nil=>rfl
  |cons d r=>cases d<;>first|rfl|cases hb
 have e1: ∀s r,(S.addB f (vI t dec R g)).toS f s (.bot::r)=match vI (Γ:=Γ) t dec R g s r with
   |some c=>c.m.map (fun y=>(c.st y,c.res y))
   |none=>S.toS f s (.bot::r):=by
  intro s r
  simp only [zQ.toS,zQ.addB,bh]
  cases vI (Γ:=Γ) t dec R g s r<;>rfl
 have e2: ∀g',g'≠f→(S.addB f (vI t dec R g)).toS g'=S.toS g':=by
  intro g' hg
  funext s ds
  have:Nat.beq g' f=false:=by
   cases hb:Nat.beq g' f with
   |false=>rfl
   |true=>exact absurd (aQ hb) hg
  simp only [zQ.toS,zQ.addB,this]
 have hnf: ∀k,P.funcs[k]? =none→k≠f:=by
  rintro k hk rfl
  simp [zId,hk] at hi
 have hisf : ∃ fn, P.funcs[f]? = some fn ∧ fn.body.isSome = true ∧ (fn.name == "runtime.NumGoroutine") = false := by
  unfold zId at hi
  split at hi
  ·rename_i fn hfn
   simp only [aj,bj] at hi
   exact ⟨fn,hfn,hi.1,hi.2⟩
  ·cases hi
 refine ⟨?_,?_,fun hno st q t ys bytes st' d h=>hS.app hno st q t ys bytes st' d (by rw [←e2 _ (hnf _ hno)];exact h),?_⟩
 ·intro g'
  by_cases hg:g'=f
  ·subst hg
   intro w F O s args ds s' r a1 a2 a3 a4 a5 a6
   cases hb:zDi ds with
   |false=>
    rw [e0 s ds hb] at a6
    exact hS.ok g' w F O s args ds s' r a1 a2 a3 a4 a5 a6
   |true=>
    exfalso
    cases ds with
    |nil=>cases hb
    |cons d ds=>
     cases d with
     |bot=>
      have h0:0<args.size:=by rw [a4];simp
      have hnb: ∀u:Value, ¬Rd w F u .bot:=fun u h=>by cases h
      exact hnb _ (a5 0 args[0] .bot (by simp [h0]) rfl)
     |_=>cases hb
  ·rw [e2 g' hg];exact hS.ok g'
 ·intro g' s ds r hr hbot
  by_cases hg:g'=f
  ·subst hg;exact hisf
  ·rw [e2 g' hg] at hr;exact hS.is g' s ds r hr hbot
 ·intro g' st t0 xs ds st' ys d h0
  by_cases hg:g'=f
  ·subst hg
   rw [e1] at h0
   split at h0
   ·rename_i cx hc
    refine ⟨?_,hisf⟩
    simp only [vI] at hc
    cases hzs:zDK t0 t xs with
    |none=>rw [hzs] at hc;cases hc
    |some zs=>
     rw [hzs] at hc
     obtain ⟨ht,hz⟩:=uP (uI hzs)
     subst ht
     subst hz
     cases hx:dec ds with
     |none=>rw [hx] at hc;cases hc
     |some x=>
      rw [hx] at hc
      simp only [aa] at hc
      rw [←hc] at h0
      simp only [ah,ak,RV.p.injEq,V.tup.injEq,cD,and_true,V.tl.injEq,true_and] at h0
      obtain ⟨⟨ys',y⟩,h1,rfl,h2,h3⟩:=h0
      have h2:=eq_of_heq h2
      subst h2
      subst h3
      exact h _ _ _ x _ _ hx h1
   ·exact hS.bor g' st t0 xs ds st' ys d h0
  ·rw [e2 g' hg] at h0;exact hS.bor g' st t0 xs ds st' ys d h0
def zEU (t:Ty) {X:Type} (dec:List V→Option X) (g:List t.El→X→Option (List t.El)):Γ.St→List V→Option (zDL Γ.St):=fun s ds=>
 match ds with
 | .tl t' xs::r=>match zDK t' t xs with
  |some ys=>match dec r with
   |some x=>some ⟨List t.El,g ys x,fun _=>s,fun y=> .p (.tup [.tl t y, .bot]),true⟩
   |none=>none
  |none=>none
 |_=>none
def zXT (Γ:Sig) (P:Program) (G:Nat→Option (List V)) (f:FuncId) (t:Ty) {X:Type} (dec:List V→Option X) (g:List t.El→X→Option (List t.El)):Prop:=
 ∀ (s:Γ.St) (xs:List t.El) (r:List V) (x:X) (ys:List t.El),dec r=some x→g xs x=some ys→zBI Γ P G f s t xs r s ys .bot
theorem zUb {S:zQ Γ} (hS:qG Γ P G S.toS) {f:FuncId} {t:Ty} {X:Type} {dec:List V→Option X} {g:List t.El→X→Option (List t.El)} (hi:zId P f=true)
  (h:zXT Γ P G f t dec g):qG Γ P G (S.addB f (zEU t dec g)).toS:=by
 have e0: ∀s ds,zDi ds=false→(S.addB f (zEU t dec g)).toS f s ds=S.toS f s ds:=by
  intro s ds hb
  simp only [zQ.toS,zQ.addB,bh]
  cases ds with
  |nil=>rfl
  |cons d r=>cases d<;>first|rfl|cases hb
 have e1: ∀s r,(S.addB f (zEU t dec g)).toS f s (.bot::r)=match zEU (Γ:=Γ) t dec g s r with
   |some c=>c.m.map (fun y=>(c.st y,c.res y))
   |none=>S.toS f s (.bot::r):=by
  intro s r
  simp only [zQ.toS,zQ.addB,bh]
  cases zEU (Γ:=Γ) t dec g s r<;>rfl
 have e2: ∀g',g'≠f→(S.addB f (zEU t dec g)).toS g'=S.toS g':=by
  intro g' hg
  funext s ds
  have:Nat.beq g' f=false:=by
   cases hb:Nat.beq g' f with
   |false=>rfl
   |true=>exact absurd (aQ hb) hg
  simp only [zQ.toS,zQ.addB,this]
 have hnf: ∀k,P.funcs[k]? =none→k≠f:=by
  rintro k hk rfl
  simp [zId,hk] at hi
 have hisf : ∃ fn, P.funcs[f]? = some fn ∧ fn.body.isSome = true ∧ (fn.name == "runtime.NumGoroutine") = false := by
  unfold zId at hi
  split at hi
  ·rename_i fn hfn
   simp only [aj,bj] at hi
   exact ⟨fn,hfn,hi.1,hi.2⟩
  ·cases hi
 refine ⟨?_,?_,fun hno st q t ys bytes st' d h=>hS.app hno st q t ys bytes st' d (by rw [←e2 _ (hnf _ hno)];exact h),?_⟩
 ·intro g'
  by_cases hg:g'=f
  ·subst hg
   intro w F O s args ds s' r a1 a2 a3 a4 a5 a6
   cases hb:zDi ds with
   |false=>
    rw [e0 s ds hb] at a6
    exact hS.ok g' w F O s args ds s' r a1 a2 a3 a4 a5 a6
   |true=>
    exfalso
    cases ds with
    |nil=>cases hb
    |cons d ds=>
     cases d with
     |bot=>
      have h0:0<args.size:=by rw [a4];simp
      have hnb: ∀u:Value, ¬Rd w F u .bot:=fun u h=>by cases h
      exact hnb _ (a5 0 args[0] .bot (by simp [h0]) rfl)
     |_=>cases hb
  ·rw [e2 g' hg];exact hS.ok g'
 ·intro g' s ds r hr hbot
  by_cases hg:g'=f
  ·subst hg;exact hisf
  ·rw [e2 g' hg] at hr;exact hS.is g' s ds r hr hbot
 ·intro g' st t0 xs ds st' ys d h0
  by_cases hg:g'=f
  ·subst hg
   rw [e1] at h0
   split at h0
   ·rename_i cx hc
    refine ⟨?_,hisf⟩
    simp only [zEU] at hc
    cases hzs:zDK t0 t xs with
    |none=>rw [hzs] at hc;cases hc
    |some zs=>
     rw [hzs] at hc
     obtain ⟨ht,hz⟩:=uP (uI hzs)
     subst ht
     subst hz
     cases hx:dec ds with
     |none=>rw [hx] at hc;cases hc
     |some x=>
      rw [hx] at hc
      simp only [aa] at hc
      rw [←hc] at h0
      simp only [ah,ak,RV.p.injEq,V.tup.injEq,cD,and_true,V.tl.injEq,true_and] at h0
      obtain ⟨ys',h1,rfl,h2,h3⟩:=h0
      have h2:=eq_of_heq h2
      subst h2
      subst h3
      exact h _ _ _ x _ hx h1
   ·exact hS.bor g' st t0 xs ds st' ys d h0
  ·rw [e2 g' hg] at h0;exact hS.bor g' st t0 xs ds st' ys d h0
theorem WkV.pp {xs ys:List V} (h:w5 xs ys):WkV (.pp xs) (.pp ys):=by
 intro w F v hr
 cases hr with
 |pp b off cs g hF hg hr0=>
  refine .pp b off ys g hF (fun m hm=>hg m (by rw [h.len];exact hm)) ?_
  intro m d hd
  have hlt:m<xs.length:=by rw [h.len];exact (ac.1 hd).1
  exact h.get m xs[m] d (by simp [hlt]) hd w F _ (hr0 m xs[m] (by simp [hlt]))
theorem WkV.clo {f:FuncId} {xs ys:List V} (h:w5 xs ys):WkV (.clo f xs) (.clo f ys):=by
 intro w F v hr
 cases hr with
 |clo _ cs ds hl h0=>
  refine .clo f cs ys (hl.trans h.len) ?_
  intro i x d hi hd
  have hlt:i<xs.length:=by rw [h.len];exact (ac.1 hd).1
  exact h.get i xs[i] d (by simp [hlt]) hd w F x (h0 i x xs[i] hi (by simp [hlt]))
theorem zN6 {t:Ty} {d:V} {x:t.El} (h:zXM t d=some x):WkV d (.pp (t.cells x)):=by
 unfold zXM at h
 split at h
 ·rename_i cs
  split at h
  ·rename_i y hy
   simp only [aa] at h
   subst h
   obtain ⟨c1,h1,h2⟩:=jO t cs y [] hy
   simp only [ba] at h1
   subst h1
   exact WkV.pp h2
  ·cases h
 ·cases h
theorem zGR: ∀ (l:List (Bool×Ty)) (ds:List V) (x:qA0 l),zKU l ds=some x→w5 ds (zWS l x)
 |[],[],_,_=>trivial
 |[],_::_,_,h=>by simp [zKU] at h
 |_::_,[],_,h=>by simp [zKU] at h
 |(b,t)::r,d::ds,x,h=>by
  simp only [zKU] at h
  split at h
  ·split at h
   ·rename_i y hy
    split at h
    ·rename_i ys hys
     simp only [aa] at h
     subst h
     exact ⟨zN6 hy,zGR r ds ys hys⟩
    ·cases h
   ·cases h
  ·split at h
   ·rename_i y hy
    split at h
    ·rename_i ys hys
     simp only [aa] at h
     subst h
     exact ⟨kX hy,zGR r ds ys hys⟩
    ·cases h
   ·cases h
theorem zGS: ∀ (ts:List ATy) (ds:List V) (x:ElA ts),uH ts ds=some x→w5 ds (zWT ts x)
 |[],[],_,_=>trivial
 |[],_::_,_,h=>by simp [uH] at h
 |_::_,[],_,h=>by simp [uH] at h
 |t::ts,d::ds,x,h=>by
  simp only [uH] at h
  split at h
  ·rename_i y hy
   split at h
   ·rename_i ys hys
    simp only [aa] at h
    subst h
    refine ⟨?_,zGS ts ds ys hys⟩
    cases t with
    |d ty=>exact kX (t:=ty) (x:=y) hy
    |pp ty=>exact zN6 (t:=ty) (x:=y) hy
    |clo f caps=>
     cases d with
     |clo g ds0=>
      simp only [ATy.dec] at hy
      split at hy
      ·rename_i hb
       have hb:=aQ hb
       subst hb
       exact WkV.clo (zGR _ _ _ hy)
      ·cases hy
     |_=>simp [ATy.dec] at hy
   ·cases h
  ·cases h
theorem zQp [hsub:Subsingleton Γ.St] {S:zQ Γ} {A:Nat→Option JA} (hmix:P.follows .mixedOrders=true) (hS:qG Γ P G S.toS) {f:FuncId} {fn:Func} {c:Code} (hf:P.funcs[f]? =some fn) (hb:fn.body=some c)
  {X:Type} {dec:List V→Option X} {enc:X→List V} (hdec: ∀ds x,dec ds=some x→w5 ds (enc x)) {R:RTy} {g:X→Option R.El} (h: ∀s x,exF (Γ:=Γ) P G S A fn c R s (enc x)=g x):w6 Γ P G f (qQ (vG dec R g)):=by
 intro w F O s args ds s' r hsig hG hF hlen hrd hspec
 simp only [qQ,vG] at hspec
 split at hspec
 ·rename_i cx hcx
  split at hcx
  ·rename_i x hx
   simp only [aa] at hcx
   subst hcx
   simp only [ah] at hspec
   obtain ⟨y,hy,hsr⟩:=hspec
   simp only [ak] at hsr
   obtain ⟨rfl,rfl⟩:=hsr
   have hwk:=hdec ds x hx
   have hlen':args.size=(enc x).length:=hlen.trans hwk.len
   have hrd': ∀ (i:Nat) (u:Value) (d:V),args[i]? =some u→(enc x)[i]? =some d→Rd w F u d:=by
    intro i u d hu hd
    have hlt:i<ds.length:=by rw [hwk.len];exact (ac.1 hd).1
    exact hwk.get i ds[i] d (by simp [hlt]) hd w F u (hrd i u ds[i] hu (by simp [hlt]))
   have hex:=h s x
   rw [hy] at hex
   unfold exF at hex
   rw [uE] at hex
   obtain ⟨k,e',d,hok,_,hend⟩:=zIX (fun _ _ _=> .inl hsub) hmix hS c _ _ _ _ _ hex
   have hk:(k= .normal∨k= .ret)∧(match zCC (jJ.of P) e' fn with
    |some r=>R.get r
    |none=>none)=some y:=by
    cases k with
    |normal=>exact ⟨.inl rfl,hend⟩
    |ret=>exact ⟨.inr rfl,hend⟩
    |exit id=>cases hend
   obtain ⟨hk,hend⟩:=hk
   split at hend
   ·rename_i r' hr'
    refine calls_of_wp hf hb ?_
    have jB: ∀t,zW w F ⟨fun _=>0,fun _=>0⟩ (fun _=>False) ((args++Array.replicate (fn.ntmps-args.size) undef).getD t undef) ((start fn.ntmps s (enc x)).get t):=by
     intro t
     simp only [start,zGd,Env.get,az,au]
     by_cases ht:t< (enc x).length
     ·rw [aS (by simpa using ht),bf (by omega)]
      rw [am,ai ht,aP (by omega)]
      exact hrd' t _ _ (by simp [show t<args.size by omega]) (by simp [ht])
     ·rw [aT (by simpa using cN ht),bL (by omega),hlen']
      simp only [aW]
      by_cases h2:t- (enc x).length<fn.ntmps- (enc x).length
      ·rw [a8,if_pos h2,bR,if_pos h2]
       exact Rd.val _
      ·rw [a8,if_neg h2]
       trivial
    have hnovar: ∀s0,(start fn.ntmps s (enc x)).var s0=none:=by
     intro s0
     simp only [start,Env.var,a8]
     split<;>rfl
    have hinv:Inv Γ G w F O { tmps:=args++Array.replicate (fn.ntmps-args.size) undef,defers:=[] } w (start fn.ntmps s (enc x)):=by
     refine Inv.of (F:=F) (O:=O) (β:=⟨fun _=>0,fun _=>0⟩) (al:=fun _=>False) ⟨zDq.refl _ w,hsig,fun b hb=> .inl hb,fun b hb=>⟨.inl hb,hF b hb⟩,fun b hb=>hb,fun x hx=>hx.elim,fun x y hx=>hx.elim,fun b n h=>by cases h⟩ hG ?_ rfl jB ?_ (fun s h=>h.elim)
     ·simp [start,zGd,hlen']
     ·intro s0 cs hcs;rw [hnovar] at hcs;cases hcs
    refine wp_mono (hok w F O _ w hinv) ?_
    rintro ex a' w' ⟨rfl,hi'⟩
    obtain ⟨v,F',O',h1,h2,h3,h4,h5,h6,h7⟩:=zNh rfl hi' hr'
    have hdf:a'.defers=[]:=by obtain ⟨_,_,_,_,_,_,hdf,_⟩:=hi';exact hdf
    rw [dq e'.st s] at h2
    obtain ⟨F'',g1,gh,g2,g3⟩:=RTy.get_sound hend h7
    have h2:=Γ.mono h2 gh (fun _ _=>rfl)
    have hF'': ∀b:Nat,F'' b→(F b∨w.heap.size≤b)∧b<w'.heap.size∧ ¬O' b:=by
     intro b hb
     rcases g2 b hb with hb|⟨h1,h2,h3⟩
     ·exact h6 b hb
     ·exact ⟨.inr h1,h2,h3⟩
    rcases hk with rfl|rfl
    ·exact ⟨hdf,v,h1,v,F'',O',rfl,h2,h3,h4,fun b hb=>g1 b (h5 b hb),hF'',g3⟩
    ·exact ⟨hdf,v,h1,v,F'',O',rfl,h2,h3,h4,fun b hb=>g1 b (h5 b hb),hF'',g3⟩
   ·cases hend
  ·cases hcx
 ·cases hspec
theorem qAi [hsub:Subsingleton Γ.St] {S:zQ Γ} {A:Nat→Option JA} (hmix:P.follows .mixedOrders=true) (hS:qG Γ P G S.toS) {f:FuncId} {fn:Func} {c:Code} (hf:P.funcs[f]? =some fn) (hb:fn.body=some c)
  {ts:List Ty} {R:RTy} {g:ElS ts→Option R.El} (h: ∀s x,exF (Γ:=Γ) P G S A fn c R s (kP ts x)=g x):w6 Γ P G f (qQ (wI ts R g)):=by
 have:=zQp hmix hS hf hb (uU ts) h
 exact this
theorem qAk [hsub:Subsingleton Γ.St] {S:zQ Γ} {A:Nat→Option JA} (hmix:P.follows .mixedOrders=true) (hS:qG Γ P G S.toS) {f:FuncId} {fn:Func} {c:Code} (hf:P.funcs[f]? =some fn) (hb:fn.body=some c)
  {ts:List ATy} {R:RTy} {g:ElA ts→Option R.El} (h: ∀s x,exF (Γ:=Γ) P G S A fn c R s (zWT ts x)=g x):w6 Γ P G f (qQ (zZp ts R g)):=
 zQp hmix hS hf hb (zGS ts) h
end
end Go.Ve

namespace Go.Ve
open Go
@[reducible] def Ty.st:List Ty→Ty
 |[]=> .unit
 |t::ts=> .pair t (Ty.st ts)
abbrev tI:Ty:= .int .i64
abbrev tU:Ty:= .int .u32
abbrev zG:Ty:= .st [tU,tI]
abbrev qB:Ty:= .st [tI,tU]
abbrev zB:Ty:= .st [zG,tI,tI,tI,tI,tI,tI,tI, .sl tI,tU,tU, .sl qB, .bool]
abbrev qA:Ty:= .st [.str,tU,tI,tI, .bool, .bool,tI,tI, .bool, .str, .str,tI]
abbrev x6:Ty:= .st [.bool,zG,tI,tI]
abbrev j1:Ty:= .st [.str, .sl x6]
abbrev vD:Ty:= .st [.bool, .str,tI,tI,tI,tI,tI]
abbrev vO:Ty:= .st [.str, .sl vD]
abbrev qB5:Ty:= .st [tU,tU]
abbrev zO:Ty:= .st [tI,tI]
abbrev zUe:Ty:= .st [.bool,tI,qB5,qB5,zO,zO]
abbrev zMK:Ty:= .st [.str, .sl zUe]
abbrev qC2:Ty:= .st [tI,tU,tU,tI,tI,tI, .str,tU,tU]
abbrev zES:Ty:= .st [zG,tU, .str, .bool,tI,tI]
abbrev qO:Ty:= .st [tI,tI,tI, .str,tI]
abbrev zGc:Ty:= .st [tI,zG]
abbrev tLS:Ty:= .st [.bool,tI, .sl zGc, .sl qO]
abbrev tDV:Ty:= .st [.bool,tI, .str, .str, .sl qO]
abbrev zT:Ty:= .st [tU,tI, .str, .str]
abbrev q8:Ty:= .st [zG, .bool]
abbrev zAi:Ty:= .st [zG,zG, .bool]
abbrev tPV:Ty:= .st [.bool,tI,tI, .sl zT, .sl zG, .sl q8, .sl zAi, .sl qO]
abbrev zF:Ty:= .st [.str,tI, .sl qA, .sl j1, .sl vO, .sl zMK, .sl qC2, .sl zES,tLS,tDV,tPV]
abbrev zX:Ty:= .st [.sl zF]
abbrev uZ:Ty:= .st [zG,tI, .sl zO]
abbrev zR:Ty:= .st [zG,tI, .rf]
abbrev zHK:Ty:= .st [.sl zR, .sl tI]
abbrev zLc:Ty:= .st [.sl uZ, .sl tI]
abbrev qDu:Ty:= .st [zX,zHK, .sl tI]
abbrev zN:Ty:= .st [zX,zLc, .sl tI]
abbrev zXr:Ty:= .st [tU,tU,tI,tI,tI]
abbrev qDN:Ty:= .st [tI,tI,tI,qB]
abbrev zK:Ty:= .st [tI,tI,tI,tI, .bool]
abbrev zS:Ty:= .st [.sl zB, .sl zB, .sl zB, .sl zB]
abbrev qDs:Ty:= .st [tI,tI,tI, .sl zS]
abbrev qCl:Ty:= .st [tI,tI,zG]
abbrev qDw:Ty:= .st [qCl,zB,tI, .sl tI]
abbrev qC3:Ty:= .st [zG, .sl qB, .bool]
abbrev qDM:Ty:= .st [tI,zO,zXr]
abbrev qDv:Ty:= .st [zO,zXr]
abbrev qC1:Ty:= .st [tI,zO]
end Go.Ve

namespace Go.Ve
open Go
set_option maxRecDepth 1000000
noncomputable def zDa:ElS [(.int .u8)]→Option (RTy.El (.p .bool)):=fun x=>match x with|(a1,())=>Option.bind (bif decide (a1≥(97:Int)) then bif decide (a1≤(122:Int)) then some true else bif decide (a1≥(65:Int)) then some (decide (a1≤(90:Int))) else some false else bif decide (a1≥(65:Int)) then some (decide (a1≤(90:Int))) else some false) fun (s0:Bool)=>some s0
noncomputable def zBz:ElS [.str]→Option (RTy.El (.p .bool)):=fun x=>match x with|(a1,())=>Option.bind (bif decide ((↑(ByteArray.size a1):Int)< (1:Int)) then some true else bif decide ((↑(ByteArray.size a1):Int)>(15:Int)) then some true else Option.bind (zNI a1 (0:Int)) fun (y2:Int)=>Option.bind (zDa (y2,())) fun (y3:Bool)=>some !y3) fun (s4:Bool)=>bif s4 then some false else qM (zL (fun (s14:Int)=>bif decide (s14< (↑(ByteArray.size a1):Int)) then Option.bind (zNI a1 s14) fun (y15:Int)=>Option.bind (Option.bind (zDa (y15,())) fun (y16:Bool)=>bif !y16 then bif decide (y15≥(48:Int)) then bif !decide (y15≤(57:Int)) then bif y15 !=(45:Int) then bif y15 !=(95:Int) then bif y15 !=(47:Int) then some (y15 !=(46:Int)) else some false else some false else some false else some false else bif y15 !=(45:Int) then bif y15 !=(95:Int) then bif y15 !=(47:Int) then some (y15 !=(46:Int)) else some false else some false else some false else some false) fun (s17:Bool)=>bif s17 then some (Sum.inr (Sum.inr false)) else some (Sum.inl (IntKind.wrap .i64 (s14+(1:Int)))) else some (Sum.inr (Sum.inl ()))) (1:Int)) fun (s18:Unit)=>some true
noncomputable def z2:ElS [tI,tI,tI]→Option (RTy.El (.p .bool)):=fun x=>match x with|(a1,a2,a3,())=>Option.bind (bif decide (a2≤a1) then some (decide (a1≤a3)) else some false) fun (s0:Bool)=>some s0
noncomputable def zBA:ElS [tI]→Option (RTy.El (.p tU)):=fun x=>match x with|(a1,())=>Option.bind (zL (fun (s4:Int×Int)=>bif decide (s4.1< (32:Int)) then Option.bind (bif decide (s4.1<a1) then bif decide ((0:Int)≤IntKind.wrap .u64 (IntKind.wrap .i64 ((31:Int) -s4.1))) then some (IntKind.wrap .u32 (↑(BitVec.toNat (BitVec.ofInt (IntKind.bits IntKind.u32) s4.2|||BitVec.ofInt (IntKind.bits IntKind.u32) (IntKind.wrap .u32 ((1:Int)*(2:Int)^min (Int.toNat (IntKind.wrap .u64 (IntKind.wrap .i64 ((31:Int) -s4.1)))) (IntKind.bits IntKind.u32))))):Int)) else none else some s4.2) fun (s5:Int)=>some (Sum.inl (IntKind.wrap .i64 (s4.1+(1:Int)),s5)) else some (Sum.inr s4.2)) ((0:Int),(0:Int))) fun (s6:Int)=>some s6
noncomputable def wU:ElS [tU,tI]→Option (RTy.El (.p zG)):=fun x=>match x with|(a1,a2,())=>Option.bind (zBA (if (0:Int)>if (32:Int)<a2 then (32:Int) else a2 then (0:Int) else if (32:Int)<a2 then (32:Int) else a2,())) fun (y0:Int)=>some (IntKind.wrap .u32 (↑(BitVec.toNat (BitVec.ofInt (IntKind.bits IntKind.u32) a1&&&BitVec.ofInt (IntKind.bits IntKind.u32) y0)):Int),if (0:Int)>if (32:Int)<a2 then (32:Int) else a2 then (0:Int) else if (32:Int)<a2 then (32:Int) else a2,())
noncomputable def uN:ElS [zG,tU]→Option (RTy.El (.p .bool)):=fun x=>match x with|(a1,a2,())=>Option.bind (zBA (a1.2.1,())) fun (y1:Int)=>some (IntKind.wrap .u32 (↑(BitVec.toNat (BitVec.ofInt (IntKind.bits IntKind.u32) a2&&&BitVec.ofInt (IntKind.bits IntKind.u32) y1)):Int)==a1.1)
noncomputable def wY:ElS [zG,zG]→Option (RTy.El (.p .bool)):=fun x=>match x with|(a1,a2,())=>Option.bind (bif decide (a1.2.1≤a2.2.1) then Option.bind (uN (a1,a2.1,())) fun (y1:Bool)=>some y1 else some false) fun (s2:Bool)=>some s2
noncomputable def uM:ElS [zG,zG]→Option (RTy.El (.p .bool)):=fun x=>match x with|(a1,a2,())=>Option.bind (Option.bind (wY (a1,a2,())) fun (y2:Bool)=>bif y2 then some true else Option.bind (wY (a2,a1,())) fun (y3:Bool)=>some y3) fun (s4:Bool)=>some s4
noncomputable def kU:ElS [(.sl qA)]→Option (RTy.El (.p tI)):=fun x=>match x with|(a1,())=>bif decide ((↑(List.length a1):Int)>(8:Int)) then some (7:Int) else qM (zL (fun (s164:Int)=>bif decide (s164< (↑(List.length a1):Int)) then qM (Option.bind (idx a1 s164) fun (y165:Ty.El qA)=>Option.bind (zBz (y165.1,())) fun (y166:Bool)=>bif !y166 then some (Sum.inr (Sum.inr (Sum.inr (3:Int)))) else qM (zL (fun (s167:Int)=>bif decide (s167<s164) then Option.bind (idx a1 s167) fun (y168:Ty.El qA)=>bif y168.1==y165.1 then some (Sum.inr (Sum.inr (Sum.inr (Sum.inr (Sum.inr (4:Int)))))) else some (Sum.inl (IntKind.wrap .i64 (s167+(1:Int)))) else some (Sum.inr (Sum.inl ()))) (0:Int)) fun (s169:Unit)=>Option.bind (Option.bind (z2 (y165.2.2.1,(0:Int),(32:Int),())) fun (y170:Bool)=>bif !y170 then some true else Option.bind (z2 (y165.2.2.2.1,(0:Int),(4094:Int),())) fun (y171:Bool)=>bif !y171 then some true else Option.bind (z2 (y165.2.2.2.2.2.2.2.2.2.2.2.1,(0:Int),(2:Int),())) fun (y172:Bool)=>some !y172) fun (s173:Bool)=>bif s173 then some (Sum.inr (Sum.inr (Sum.inr (1:Int)))) else Option.bind (bif y165.2.2.1==(0:Int) then bif y165.2.1 !=(0:Int) then some true else bif y165.2.2.2.1 !=(0:Int) then some true else bif y165.2.2.2.2.2.2.2.2.2.2.2.1 !=(0:Int) then some true else bif y165.2.2.2.2.2.1 then some true else bif y165.2.2.2.2.2.2.2.2.1 then some true else bif y165.2.2.2.2.2.2.2.2.2.1 != { data:= #[] } then some true else bif y165.2.2.2.2.2.2.2.2.2.2.1 != { data:= #[] } then some true else bif y165.2.2.1 !=(0:Int) then some (y165.2.1==(0:Int)) else some false else bif y165.2.2.1 !=(0:Int) then some (y165.2.1==(0:Int)) else some false) fun (s174:Bool)=>bif s174 then some (Sum.inr (Sum.inr (Sum.inr (1:Int)))) else Option.bind (bif y165.2.2.2.2.2.1 then Option.bind (z2 (y165.2.2.2.2.2.2.1,(0:Int),(255:Int),())) fun (y175:Bool)=>bif !y175 then some true else Option.bind (z2 (y165.2.2.2.2.2.2.2.1,(1:Int),(65535:Int),())) fun (y176:Bool)=>bif !y176 then some true else bif !y165.2.2.2.2.2.1 then bif y165.2.2.2.2.2.2.1 !=(0:Int) then some true else some (y165.2.2.2.2.2.2.2.1 !=(0:Int)) else some false else bif !y165.2.2.2.2.2.1 then bif y165.2.2.2.2.2.2.1 !=(0:Int) then some true else some (y165.2.2.2.2.2.2.2.1 !=(0:Int)) else some false) fun (s177:Bool)=>bif s177 then some (Sum.inr (Sum.inr (Sum.inr (1:Int)))) else zL (fun (s178:Int)=>bif decide (s178<s164) then Option.bind (bif y165.2.2.1 !=(0:Int) then Option.bind (idx a1 s178) fun (y179:Ty.El qA)=>bif y179.2.2.1 !=(0:Int) then Option.bind (wU (y165.2.1,y165.2.2.1,())) fun (y180:Int×Int×Unit)=>Option.bind (idx a1 s178) fun (y181:Ty.El qA)=>Option.bind (idx a1 s178) fun (y182:Ty.El qA)=>Option.bind (wU (y181.2.1,y182.2.2.1,())) fun (y183:Int×Int×Unit)=>Option.bind (uM (y180,y183,())) fun (y184:Bool)=>some y184 else some false else some false) fun (s185:Bool)=>bif s185 then some (Sum.inr (Sum.inr (Sum.inr (Sum.inr (6:Int))))) else some (Sum.inl (IntKind.wrap .i64 (s178+(1:Int)))) else some (Sum.inr (Sum.inl ()))) (0:Int)) fun (s186:Unit)=>some (Sum.inl (IntKind.wrap .i64 (s164+(1:Int)))) else some (Sum.inr (Sum.inl ()))) (0:Int)) fun (s187:Unit)=>some (0:Int)
noncomputable def w8:ElS [zG]→Option (RTy.El (.p .bool)):=fun x=>match x with|(a1,())=>Option.bind (bif decide (a1.2.1≥(0:Int)) then bif decide (a1.2.1≤(32:Int)) then Option.bind (zBA (a1.2.1,())) fun (y2:Int)=>some (IntKind.wrap .u32 (↑(BitVec.toNat (BitVec.ofInt (IntKind.bits IntKind.u32) a1.1&&& ~~~BitVec.ofInt (IntKind.bits IntKind.u32) y2)):Int)==(0:Int)) else some false else some false) fun (s3:Bool)=>some s3
noncomputable def k9:ElS [x6]→Option (RTy.El (.p .bool)):=fun x=>match x with|(a1,())=>Option.bind (Option.bind (w8 (a1.2.1,())) fun (y1:Bool)=>bif y1 then bif decide (a1.2.1.2.1≤a1.2.2.1) then bif decide (a1.2.2.1≤a1.2.2.2.1) then some (decide (a1.2.2.2.1≤(32:Int))) else some false else some false else some false) fun (s2:Bool)=>some s2
noncomputable def yL:ElS [(.sl j1)]→Option (RTy.El (.p tI)):=fun x=>match x with|(a1,())=>bif decide ((↑(List.length a1):Int)>(8:Int)) then some (7:Int) else qM (zL (fun (s56:Int)=>bif decide (s56< (↑(List.length a1):Int)) then qM (Option.bind (idx a1 s56) fun (y57:Ty.El j1)=>Option.bind (zBz (y57.1,())) fun (y58:Bool)=>bif !y58 then some (Sum.inr (Sum.inr (Sum.inr (3:Int)))) else qM (zL (fun (s59:Int)=>bif decide (s59<s56) then Option.bind (idx a1 s59) fun (y60:Ty.El j1)=>Option.bind (idx a1 s56) fun (y61:Ty.El j1)=>bif y60.1==y61.1 then some (Sum.inr (Sum.inr (Sum.inr (Sum.inr (Sum.inr (4:Int)))))) else some (Sum.inl (IntKind.wrap .i64 (s59+(1:Int)))) else some (Sum.inr (Sum.inl ()))) (0:Int)) fun (s62:Unit)=>Option.bind (idx a1 s56) fun (y63:Ty.El j1)=>bif (↑(List.length y63.2.1):Int)==(0:Int) then some (Sum.inr (Sum.inr (Sum.inr (1:Int)))) else Option.bind (idx a1 s56) fun (y64:Ty.El j1)=>bif decide ((↑(List.length y64.2.1):Int)>(16:Int)) then some (Sum.inr (Sum.inr (Sum.inr (7:Int)))) else zL (fun (s65:Int)=>Option.bind (idx a1 s56) fun (y66:Ty.El j1)=>bif decide (s65< (↑(List.length y66.2.1):Int)) then Option.bind (idx a1 s56) fun (y67:Ty.El j1)=>Option.bind (idx y67.2.1 s65) fun (y68:Ty.El x6)=>Option.bind (k9 (y68,())) fun (y69:Bool)=>bif !y69 then some (Sum.inr (Sum.inr (Sum.inr (Sum.inr (1:Int))))) else some (Sum.inl (IntKind.wrap .i64 (s65+(1:Int)))) else some (Sum.inr (Sum.inl ()))) (0:Int)) fun (s70:Unit)=>some (Sum.inl (IntKind.wrap .i64 (s56+(1:Int)))) else some (Sum.inr (Sum.inl ()))) (0:Int)) fun (s71:Unit)=>some (0:Int)
noncomputable def jX:ElS [zF, .str]→Option (RTy.El (.p tI)):=fun x=>match x with|(a1,a2,())=>qM (zL (fun (s4:Int)=>bif decide (s4< (↑(List.length a1.2.2.2.1):Int)) then Option.bind (idx a1.2.2.2.1 s4) fun (y5:Ty.El j1)=>bif y5.1==a2 then some (Sum.inr (Sum.inr s4)) else some (Sum.inl (IntKind.wrap .i64 (s4+(1:Int)))) else some (Sum.inr (Sum.inl ()))) (0:Int)) fun (s6:Unit)=>some (-1:Int)
noncomputable def kG:ElS [zF]→Option (RTy.El (.p tI)):=fun x=>match x with|(a1,())=>bif decide ((↑(List.length a1.2.2.2.2.1):Int)>(8:Int)) then some (7:Int) else qM (zL (fun (s192:Int)=>bif decide (s192< (↑(List.length a1.2.2.2.2.1):Int)) then qM (Option.bind (idx a1.2.2.2.2.1 s192) fun (y193:Ty.El vO)=>Option.bind (zBz (y193.1,())) fun (y194:Bool)=>bif !y194 then some (Sum.inr (Sum.inr (Sum.inr (3:Int)))) else qM (zL (fun (s195:Int)=>bif decide (s195<s192) then Option.bind (idx a1.2.2.2.2.1 s195) fun (y196:Ty.El vO)=>Option.bind (idx a1.2.2.2.2.1 s192) fun (y197:Ty.El vO)=>bif y196.1==y197.1 then some (Sum.inr (Sum.inr (Sum.inr (Sum.inr (Sum.inr (4:Int)))))) else some (Sum.inl (IntKind.wrap .i64 (s195+(1:Int)))) else some (Sum.inr (Sum.inl ()))) (0:Int)) fun (s198:Unit)=>Option.bind (idx a1.2.2.2.2.1 s192) fun (y199:Ty.El vO)=>bif (↑(List.length y199.2.1):Int)==(0:Int) then some (Sum.inr (Sum.inr (Sum.inr (1:Int)))) else Option.bind (idx a1.2.2.2.2.1 s192) fun (y200:Ty.El vO)=>bif decide ((↑(List.length y200.2.1):Int)>(8:Int)) then some (Sum.inr (Sum.inr (Sum.inr (7:Int)))) else zL (fun (s201:Int)=>Option.bind (idx a1.2.2.2.2.1 s192) fun (y202:Ty.El vO)=>bif decide (s201< (↑(List.length y202.2.1):Int)) then Option.bind (idx a1.2.2.2.2.1 s192) fun (y203:Ty.El vO)=>Option.bind (idx y203.2.1 s201) fun (y204:Ty.El vD)=>Option.bind (bif y204.2.1 != { data:= #[] } then Option.bind (jX (a1,y204.2.1,())) fun (y205:Int)=>some (decide (y205< (0:Int))) else some false) fun (s206:Bool)=>bif s206 then some (Sum.inr (Sum.inr (Sum.inr (Sum.inr (5:Int))))) else Option.bind (Option.bind (z2 (y204.2.2.1,(-1:Int),(65535:Int),())) fun (y207:Bool)=>bif !y207 then some true else Option.bind (z2 (y204.2.2.2.2.1,(-1:Int),(65535:Int),())) fun (y208:Bool)=>bif !y208 then some true else Option.bind (z2 (y204.2.2.2.1,(-1:Int),(16777215:Int),())) fun (y209:Bool)=>bif !y209 then some true else Option.bind (z2 (y204.2.2.2.2.2.1,(-1:Int),(1000000:Int),())) fun (y210:Bool)=>bif !y210 then some true else Option.bind (z2 (y204.2.2.2.2.2.2.1,(0:Int),(8:Int),())) fun (y211:Bool)=>some !y211) fun (s212:Bool)=>bif s212 then some (Sum.inr (Sum.inr (Sum.inr (Sum.inr (1:Int))))) else some (Sum.inl (IntKind.wrap .i64 (s201+(1:Int)))) else some (Sum.inr (Sum.inl ()))) (0:Int)) fun (s213:Unit)=>some (Sum.inl (IntKind.wrap .i64 (s192+(1:Int)))) else some (Sum.inr (Sum.inl ()))) (0:Int)) fun (s214:Unit)=>some (0:Int)
noncomputable def zEl:ElS [zO]→Option (RTy.El (.p .bool)):=fun x=>match x with|(a1,())=>Option.bind (bif decide ((0:Int)≤a1.1) then bif decide (a1.1≤a1.2.1) then some (decide (a1.2.1≤(65535:Int))) else some false else some false) fun (s0:Bool)=>some s0
noncomputable def zHW:ElS [zO]→Option (RTy.El (.p .bool)):=fun x=>match x with|(a1,())=>some (a1.1==(0:Int)&&(a1.2.1==(65535:Int)&&true))
noncomputable def zB1:ElS [zUe]→Option (RTy.El (.p .bool)):=fun x=>match x with|(a1,())=>Option.bind (Option.bind (z2 (a1.2.1,(-1:Int),(255:Int),())) fun (y3:Bool)=>bif !y3 then some true else bif IntKind.wrap .u32 (↑(BitVec.toNat (BitVec.ofInt (IntKind.bits IntKind.u32) a1.2.2.1.1&&&BitVec.ofInt (IntKind.bits IntKind.u32) a1.2.2.1.2.1)):Int) !=(0:Int) then some true else bif IntKind.wrap .u32 (↑(BitVec.toNat (BitVec.ofInt (IntKind.bits IntKind.u32) a1.2.2.2.1.1&&&BitVec.ofInt (IntKind.bits IntKind.u32) a1.2.2.2.1.2.1)):Int) !=(0:Int) then some true else Option.bind (zEl (a1.2.2.2.2.1,())) fun (y4:Bool)=>bif !y4 then some true else Option.bind (zEl (a1.2.2.2.2.2.1,())) fun (y5:Bool)=>some !y5) fun (s6:Bool)=>bif s6 then some false else Option.bind (bif a1.2.1==(6:Int) then some true else bif a1.2.1==(17:Int) then some true else Option.bind (zHW (a1.2.2.2.2.1,())) fun (y9:Bool)=>bif y9 then Option.bind (zHW (a1.2.2.2.2.2.1,())) fun (y10:Bool)=>some y10 else some false) fun (s11:Bool)=>some s11
noncomputable def yN:ElS [(.sl zMK)]→Option (RTy.El (.p tI)):=fun x=>match x with|(a1,())=>bif decide ((↑(List.length a1):Int)>(8:Int)) then some (7:Int) else qM (zL (fun (s56:Int)=>bif decide (s56< (↑(List.length a1):Int)) then qM (Option.bind (idx a1 s56) fun (y57:Ty.El zMK)=>Option.bind (zBz (y57.1,())) fun (y58:Bool)=>bif !y58 then some (Sum.inr (Sum.inr (Sum.inr (3:Int)))) else qM (zL (fun (s59:Int)=>bif decide (s59<s56) then Option.bind (idx a1 s59) fun (y60:Ty.El zMK)=>Option.bind (idx a1 s56) fun (y61:Ty.El zMK)=>bif y60.1==y61.1 then some (Sum.inr (Sum.inr (Sum.inr (Sum.inr (Sum.inr (4:Int)))))) else some (Sum.inl (IntKind.wrap .i64 (s59+(1:Int)))) else some (Sum.inr (Sum.inl ()))) (0:Int)) fun (s62:Unit)=>Option.bind (idx a1 s56) fun (y63:Ty.El zMK)=>bif (↑(List.length y63.2.1):Int)==(0:Int) then some (Sum.inr (Sum.inr (Sum.inr (1:Int)))) else Option.bind (idx a1 s56) fun (y64:Ty.El zMK)=>bif decide ((↑(List.length y64.2.1):Int)>(16:Int)) then some (Sum.inr (Sum.inr (Sum.inr (7:Int)))) else zL (fun (s65:Int)=>Option.bind (idx a1 s56) fun (y66:Ty.El zMK)=>bif decide (s65< (↑(List.length y66.2.1):Int)) then Option.bind (idx a1 s56) fun (y67:Ty.El zMK)=>Option.bind (idx y67.2.1 s65) fun (y68:Ty.El zUe)=>Option.bind (zB1 (y68,())) fun (y69:Bool)=>bif !y69 then some (Sum.inr (Sum.inr (Sum.inr (Sum.inr (1:Int))))) else some (Sum.inl (IntKind.wrap .i64 (s65+(1:Int)))) else some (Sum.inr (Sum.inl ()))) (0:Int)) fun (s70:Unit)=>some (Sum.inl (IntKind.wrap .i64 (s56+(1:Int)))) else some (Sum.inr (Sum.inl ()))) (0:Int)) fun (s71:Unit)=>some (0:Int)
noncomputable def zEn:ElS [zF, .str]→Option (RTy.El (.p tI)):=fun x=>match x with|(a1,a2,())=>qM (zL (fun (s4:Int)=>bif decide (s4< (↑(List.length a1.2.2.2.2.2.1):Int)) then Option.bind (idx a1.2.2.2.2.2.1 s4) fun (y5:Ty.El zMK)=>bif y5.1==a2 then some (Sum.inr (Sum.inr s4)) else some (Sum.inl (IntKind.wrap .i64 (s4+(1:Int)))) else some (Sum.inr (Sum.inl ()))) (0:Int)) fun (s6:Unit)=>some (-1:Int)
noncomputable def k8:ElS [zF]→Option (RTy.El (.p tI)):=fun x=>match x with|(a1,())=>bif decide ((↑(List.length a1.2.2.2.2.2.2.1):Int)>(8:Int)) then some (7:Int) else qM (zL (fun (s60:Int)=>bif decide (s60< (↑(List.length a1.2.2.2.2.2.2.1):Int)) then Option.bind (idx a1.2.2.2.2.2.2.1 s60) fun (y61:Ty.El qC2)=>Option.bind (bif y61.1==(1:Int) then Option.bind (bif y61.2.1 !=(0:Int) then bif y61.2.2.1 !=(0:Int) then some (y61.1==y61.1&&(y61.2.1==y61.2.1&&(y61.2.2.1==y61.2.2.1&&(y61.2.2.2.1==(0:Int)&&(y61.2.2.2.2.1==(0:Int)&&(y61.2.2.2.2.2.1==(0:Int)&&(y61.2.2.2.2.2.2.1== { data:= #[] } &&(y61.2.2.2.2.2.2.2.1==(0:Int)&&(y61.2.2.2.2.2.2.2.2.1==(0:Int)&&true))))))))) else some false else some false) fun (s62:Bool)=>some s62 else bif y61.1==(2:Int) then Option.bind (bif y61.2.2.2.2.2.2.2.1 !=(0:Int) then bif decide (y61.2.2.2.2.2.2.2.1≤y61.2.2.2.2.2.2.2.2.1) then bif decide (IntKind.wrap .u32 (y61.2.2.2.2.2.2.2.2.1-y61.2.2.2.2.2.2.2.1)< (8:Int)) then some (y61.1==y61.1&&(y61.2.1==(0:Int)&&(y61.2.2.1==(0:Int)&&(y61.2.2.2.1==(0:Int)&&(y61.2.2.2.2.1==(0:Int)&&(y61.2.2.2.2.2.1==(0:Int)&&(y61.2.2.2.2.2.2.1==y61.2.2.2.2.2.2.1&&(y61.2.2.2.2.2.2.2.1==y61.2.2.2.2.2.2.2.1&&(y61.2.2.2.2.2.2.2.2.1==y61.2.2.2.2.2.2.2.2.1&&true))))))))) else some false else some false else some false) fun (s63:Bool)=>some s63 else bif y61.1==(3:Int) then Option.bind (bif y61.2.1 !=(0:Int) then bif y61.2.2.1 !=(0:Int) then bif y61.2.2.2.1==(6:Int) then Option.bind (z2 (y61.2.2.2.2.1,(0:Int),(65535:Int),())) fun (y64:Bool)=>bif y64 then Option.bind (z2 (y61.2.2.2.2.2.1,(0:Int),(65535:Int),())) fun (y65:Bool)=>bif y65 then bif y61.2.2.2.2.2.2.1== { data:= #[] } then bif y61.2.2.2.2.2.2.2.1==(0:Int) then some (y61.2.2.2.2.2.2.2.2.1==(0:Int)) else some false else some false else some false else some false else bif y61.2.2.2.1==(17:Int) then Option.bind (z2 (y61.2.2.2.2.1,(0:Int),(65535:Int),())) fun (y66:Bool)=>bif y66 then Option.bind (z2 (y61.2.2.2.2.2.1,(0:Int),(65535:Int),())) fun (y67:Bool)=>bif y67 then bif y61.2.2.2.2.2.2.1== { data:= #[] } then bif y61.2.2.2.2.2.2.2.1==(0:Int) then some (y61.2.2.2.2.2.2.2.2.1==(0:Int)) else some false else some false else some false else some false else some false else some false else some false) fun (s68:Bool)=>some s68 else some false) fun (s69:Bool)=>bif !s69 then some (Sum.inr (Sum.inr (1:Int))) else Option.bind (bif y61.1==(2:Int) then Option.bind (zEn (a1,y61.2.2.2.2.2.2.1,())) fun (y70:Int)=>some (decide (y70< (0:Int))) else some false) fun (s71:Bool)=>bif s71 then some (Sum.inr (Sum.inr (5:Int))) else some (Sum.inl (IntKind.wrap .i64 (s60+(1:Int)))) else some (Sum.inr (Sum.inl ()))) (0:Int)) fun (s72:Unit)=>some (0:Int)
noncomputable def zB0:ElS [zF]→Option (RTy.El (.p tI)):=fun x=>match x with|(a1,())=>qM (zL (fun (s24:Int)=>bif decide (s24< (↑(List.length a1.2.2.1):Int)) then Option.bind (idx a1.2.2.1 s24) fun (y25:Ty.El qA)=>Option.bind (bif y25.2.2.2.2.2.2.2.2.2.1 != { data:= #[] } then Option.bind (zEn (a1,y25.2.2.2.2.2.2.2.2.2.1,())) fun (y26:Int)=>bif decide (y26< (0:Int)) then some true else bif y25.2.2.2.2.2.2.2.2.2.2.1 != { data:= #[] } then Option.bind (zEn (a1,y25.2.2.2.2.2.2.2.2.2.2.1,())) fun (y27:Int)=>some (decide (y27< (0:Int))) else some false else bif y25.2.2.2.2.2.2.2.2.2.2.1 != { data:= #[] } then Option.bind (zEn (a1,y25.2.2.2.2.2.2.2.2.2.2.1,())) fun (y28:Int)=>some (decide (y28< (0:Int))) else some false) fun (s29:Bool)=>bif s29 then some (Sum.inr (Sum.inr (5:Int))) else some (Sum.inl (IntKind.wrap .i64 (s24+(1:Int)))) else some (Sum.inr (Sum.inl ()))) (0:Int)) fun (s30:Unit)=>some (0:Int)
noncomputable def xK:ElS [zF,tU]→Option (RTy.El (.p tI)):=fun x=>match x with|(a1,a2,())=>qM (zL (fun (s10:Int)=>bif decide (s10< (↑(List.length a1.2.2.1):Int)) then Option.bind (Option.bind (idx a1.2.2.1 s10) fun (y11:Ty.El qA)=>bif y11.2.2.1 !=(0:Int) then Option.bind (idx a1.2.2.1 s10) fun (y12:Ty.El qA)=>some (y12.2.1==a2) else some false) fun (s13:Bool)=>bif s13 then some (Sum.inr (Sum.inr s10)) else some (Sum.inl (IntKind.wrap .i64 (s10+(1:Int)))) else some (Sum.inr (Sum.inl ()))) (0:Int)) fun (s14:Unit)=>some (-1:Int)
noncomputable def kI:ElS [zF, .str]→Option (RTy.El (.p tI)):=fun x=>match x with|(a1,a2,())=>qM (zL (fun (s4:Int)=>bif decide (s4< (↑(List.length a1.2.2.1):Int)) then Option.bind (idx a1.2.2.1 s4) fun (y5:Ty.El qA)=>bif y5.1==a2 then some (Sum.inr (Sum.inr s4)) else some (Sum.inl (IntKind.wrap .i64 (s4+(1:Int)))) else some (Sum.inr (Sum.inl ()))) (0:Int)) fun (s6:Unit)=>some (-1:Int)
noncomputable def zAD:ElS [zF]→Option (RTy.El (.p tI)):=fun x=>match x with|(a1,())=>bif decide ((↑(List.length a1.2.2.2.2.2.2.2.1):Int)>(16:Int)) then some (7:Int) else qM (zL (fun (s126:Int)=>bif decide (s126< (↑(List.length a1.2.2.2.2.2.2.2.1):Int)) then qM (Option.bind (idx a1.2.2.2.2.2.2.2.1 s126) fun (y127:Ty.El zES)=>Option.bind (bif y127.2.1 !=(0:Int) then some (IntKind.wrap .i64 ((0:Int)+(1:Int))) else some (0:Int)) fun (s128:Int)=>Option.bind (bif y127.2.2.1 != { data:= #[] } then some (IntKind.wrap .i64 (s128+(1:Int))) else some s128) fun (s129:Int)=>Option.bind (bif y127.2.2.2.1 then some (IntKind.wrap .i64 (s129+(1:Int))) else some s129) fun (s130:Int)=>Option.bind (Option.bind (w8 (y127.1,())) fun (y131:Bool)=>bif !y131 then some true else bif s130 !=(1:Int) then some true else bif y127.2.1 !=(0:Int) then Option.bind (xK (a1,y127.2.1,())) fun (y132:Int)=>bif decide (y132≥(0:Int)) then some true else Option.bind (z2 (y127.2.2.2.2.1,(1:Int),(255:Int),())) fun (y133:Bool)=>bif !y133 then some true else Option.bind (z2 (y127.2.2.2.2.2.1,(0:Int),(65535:Int),())) fun (y134:Bool)=>some !y134 else Option.bind (z2 (y127.2.2.2.2.1,(1:Int),(255:Int),())) fun (y135:Bool)=>bif !y135 then some true else Option.bind (z2 (y127.2.2.2.2.2.1,(0:Int),(65535:Int),())) fun (y136:Bool)=>some !y136) fun (s137:Bool)=>bif s137 then some (Sum.inr (Sum.inr (Sum.inr (1:Int)))) else qM (bif y127.2.2.1 != { data:= #[] } then Option.bind (kI (a1,y127.2.2.1,())) fun (y138:Int)=>bif decide (y138< (0:Int)) then some (Sum.inr (Sum.inr (Sum.inr (Sum.inr (5:Int))))) else Option.bind (idx a1.2.2.1 y138) fun (y139:Ty.El qA)=>bif y139.2.2.1==(0:Int) then some (Sum.inr (Sum.inr (Sum.inr (Sum.inr (1:Int))))) else some (Sum.inl ()) else some (Sum.inl ())) fun (s140:Unit)=>zL (fun (s141:Int)=>bif decide (s141<s126) then Option.bind (Option.bind (idx a1.2.2.2.2.2.2.2.1 s141) fun (y142:Ty.El zES)=>bif y142.1.1==y127.1.1&&(y142.1.2.1==y127.1.2.1&&true) then Option.bind (idx a1.2.2.2.2.2.2.2.1 s141) fun (y143:Ty.El zES)=>some (y143.2.2.2.2.1==y127.2.2.2.2.1) else some false) fun (s144:Bool)=>bif s144 then some (Sum.inr (Sum.inr (Sum.inr (Sum.inr (6:Int))))) else some (Sum.inl (IntKind.wrap .i64 (s141+(1:Int)))) else some (Sum.inr (Sum.inl ()))) (0:Int)) fun (s145:Unit)=>some (Sum.inl (IntKind.wrap .i64 (s126+(1:Int)))) else some (Sum.inr (Sum.inl ()))) (0:Int)) fun (s146:Unit)=>some (0:Int)
noncomputable def jC:ElS [zF, .str]→Option (RTy.El (.p tI)):=fun x=>match x with|(a1,a2,())=>qM (zL (fun (s4:Int)=>bif decide (s4< (↑(List.length a1.2.2.2.2.1):Int)) then Option.bind (idx a1.2.2.2.2.1 s4) fun (y5:Ty.El vO)=>bif y5.1==a2 then some (Sum.inr (Sum.inr s4)) else some (Sum.inl (IntKind.wrap .i64 (s4+(1:Int)))) else some (Sum.inr (Sum.inl ()))) (0:Int)) fun (s6:Unit)=>some (-1:Int)
noncomputable def jD:ElS [zF,(.sl qO),tI,tI,tI]→Option (RTy.El (.p tI)):=fun x=>match x with|(a1,a2,a3,a4,a5,())=>bif decide ((↑(List.length a2):Int)>(4:Int)) then some (7:Int) else qM (zL (fun (s69:Int)=>bif decide (s69< (↑(List.length a2):Int)) then qM (Option.bind (idx a2 s69) fun (y70:Ty.El qO)=>Option.bind (Option.bind (z2 (y70.1,(1:Int),(5:Int),())) fun (y71:Bool)=>bif !y71 then some true else bif y70.1==a3 then some true else Option.bind (z2 (y70.2.1,a4,a5,())) fun (y72:Bool)=>bif !y72 then some true else Option.bind (z2 (y70.2.2.1,(0:Int),(65535:Int),())) fun (y73:Bool)=>some !y73) fun (s74:Bool)=>bif s74 then some (Sum.inr (Sum.inr (Sum.inr (1:Int)))) else Option.bind (bif a3==(3:Int) then bif y70.2.2.2.2.1 !=(1:Int) then bif y70.2.2.2.2.1 !=(2:Int) then some true else bif a3 !=(3:Int) then some (y70.2.2.2.2.1 !=(0:Int)) else some false else bif a3 !=(3:Int) then some (y70.2.2.2.2.1 !=(0:Int)) else some false else bif a3 !=(3:Int) then some (y70.2.2.2.2.1 !=(0:Int)) else some false) fun (s75:Bool)=>bif s75 then some (Sum.inr (Sum.inr (Sum.inr (1:Int)))) else Option.bind (bif y70.2.2.2.1 != { data:= #[] } then Option.bind (jC (a1,y70.2.2.2.1,())) fun (y76:Int)=>some (decide (y76< (0:Int))) else some false) fun (s77:Bool)=>bif s77 then some (Sum.inr (Sum.inr (Sum.inr (5:Int)))) else zL (fun (s78:Int)=>bif decide (s78<s69) then Option.bind (idx a2 s78) fun (y79:Ty.El qO)=>bif y79.1==y70.1 then some (Sum.inr (Sum.inr (Sum.inr (Sum.inr (4:Int))))) else some (Sum.inl (IntKind.wrap .i64 (s78+(1:Int)))) else some (Sum.inr (Sum.inl ()))) (0:Int)) fun (s80:Unit)=>some (Sum.inl (IntKind.wrap .i64 (s69+(1:Int)))) else some (Sum.inr (Sum.inl ()))) (0:Int)) fun (s81:Unit)=>some (0:Int)
noncomputable def zAj:ElS [zF]→Option (RTy.El (.p tI)):=fun x=>match x with|(a1,())=>bif !a1.2.2.2.2.2.2.2.2.1.1 then Option.bind (bif a1.2.2.2.2.2.2.2.2.1.2.1 !=(0:Int) then some true else bif decide ((↑(List.length a1.2.2.2.2.2.2.2.2.1.2.2.1):Int)>(0:Int)) then some true else some (decide ((↑(List.length a1.2.2.2.2.2.2.2.2.1.2.2.2.1):Int)>(0:Int)))) fun (s0:Bool)=>bif s0 then some (1:Int) else some (0:Int) else Option.bind (z2 (a1.2.2.2.2.2.2.2.2.1.2.1,(1:Int),(255:Int),())) fun (y1:Bool)=>bif !y1 then some (1:Int) else bif decide ((↑(List.length a1.2.2.2.2.2.2.2.2.1.2.2.1):Int)>(4:Int)) then some (7:Int) else qM (zL (fun (s63:Int)=>bif decide (s63< (↑(List.length a1.2.2.2.2.2.2.2.2.1.2.2.1):Int)) then qM (Option.bind (Option.bind (idx a1.2.2.2.2.2.2.2.2.1.2.2.1 s63) fun (y64:Ty.El zGc)=>Option.bind (z2 (y64.1,(0:Int),(255:Int),())) fun (y65:Bool)=>bif !y65 then some true else Option.bind (idx a1.2.2.2.2.2.2.2.2.1.2.2.1 s63) fun (y66:Ty.El zGc)=>Option.bind (w8 (y66.2.1,())) fun (y67:Bool)=>some !y67) fun (s68:Bool)=>bif s68 then some (Sum.inr (Sum.inr (Sum.inr (1:Int)))) else zL (fun (s69:Int)=>bif decide (s69<s63) then Option.bind (Option.bind (idx a1.2.2.2.2.2.2.2.2.1.2.2.1 s69) fun (y70:Ty.El zGc)=>Option.bind (idx a1.2.2.2.2.2.2.2.2.1.2.2.1 s63) fun (y71:Ty.El zGc)=>bif y70.1==y71.1 then Option.bind (idx a1.2.2.2.2.2.2.2.2.1.2.2.1 s69) fun (y72:Ty.El zGc)=>Option.bind (idx a1.2.2.2.2.2.2.2.2.1.2.2.1 s63) fun (y73:Ty.El zGc)=>Option.bind (uM (y72.2.1,y73.2.1,())) fun (y74:Bool)=>some y74 else some false) fun (s75:Bool)=>bif s75 then some (Sum.inr (Sum.inr (Sum.inr (Sum.inr (6:Int))))) else some (Sum.inl (IntKind.wrap .i64 (s69+(1:Int)))) else some (Sum.inr (Sum.inl ()))) (0:Int)) fun (s76:Unit)=>some (Sum.inl (IntKind.wrap .i64 (s63+(1:Int)))) else some (Sum.inr (Sum.inl ()))) (0:Int)) fun (s77:Unit)=>Option.bind (jD (a1,a1.2.2.2.2.2.2.2.2.1.2.2.2.1,(3:Int),(0:Int),(16777215:Int),())) fun (y78:Int)=>some y78
noncomputable def zA7:ElS [zF]→Option (RTy.El (.p tI)):=fun x=>match x with|(a1,())=>bif !a1.2.2.2.2.2.2.2.2.2.1.1 then Option.bind (bif a1.2.2.2.2.2.2.2.2.2.1.2.1 !=(0:Int) then some true else bif a1.2.2.2.2.2.2.2.2.2.1.2.2.1 != { data:= #[] } then some true else bif a1.2.2.2.2.2.2.2.2.2.1.2.2.2.1 != { data:= #[] } then some true else some (decide ((↑(List.length a1.2.2.2.2.2.2.2.2.2.1.2.2.2.2.1):Int)>(0:Int)))) fun (s0:Bool)=>bif s0 then some (1:Int) else some (0:Int) else Option.bind (z2 (a1.2.2.2.2.2.2.2.2.2.1.2.1,(1:Int),(255:Int),())) fun (y1:Bool)=>bif !y1 then some (1:Int) else Option.bind (bif a1.2.2.2.2.2.2.2.2.2.1.2.2.1 != { data:= #[] } then Option.bind (jX (a1,a1.2.2.2.2.2.2.2.2.2.1.2.2.1,())) fun (y5:Int)=>bif decide (y5< (0:Int)) then some true else bif a1.2.2.2.2.2.2.2.2.2.1.2.2.2.1 != { data:= #[] } then Option.bind (jX (a1,a1.2.2.2.2.2.2.2.2.2.1.2.2.2.1,())) fun (y6:Int)=>some (decide (y6< (0:Int))) else some false else bif a1.2.2.2.2.2.2.2.2.2.1.2.2.2.1 != { data:= #[] } then Option.bind (jX (a1,a1.2.2.2.2.2.2.2.2.2.1.2.2.2.1,())) fun (y7:Int)=>some (decide (y7< (0:Int))) else some false) fun (s8:Bool)=>bif s8 then some (5:Int) else Option.bind (jD (a1,a1.2.2.2.2.2.2.2.2.2.1.2.2.2.2.1,(4:Int),(1:Int),(15:Int),())) fun (y9:Int)=>some y9
noncomputable def yM:ElS [zF]→Option (RTy.El (.p tI)):=fun x=>match x with|(a1,())=>bif decide ((↑(List.length a1.2.2.2.2.2.2.2.2.2.2.1.2.2.2.1):Int)>(8:Int)) then some (7:Int) else qM (zL (fun (s81:Int)=>bif decide (s81< (↑(List.length a1.2.2.2.2.2.2.2.2.2.2.1.2.2.2.1):Int)) then qM (Option.bind (Option.bind (idx a1.2.2.2.2.2.2.2.2.2.2.1.2.2.2.1 s81) fun (y82:Ty.El zT)=>bif y82.1==(0:Int) then some true else Option.bind (idx a1.2.2.2.2.2.2.2.2.2.2.1.2.2.2.1 s81) fun (y83:Ty.El zT)=>Option.bind (z2 (y83.2.1,(1:Int),(65535:Int),())) fun (y84:Bool)=>some !y84) fun (s85:Bool)=>bif s85 then some (Sum.inr (Sum.inr (Sum.inr (1:Int)))) else Option.bind (Option.bind (idx a1.2.2.2.2.2.2.2.2.2.2.1.2.2.2.1 s81) fun (y86:Ty.El zT)=>bif y86.2.2.1 != { data:= #[] } then Option.bind (idx a1.2.2.2.2.2.2.2.2.2.2.1.2.2.2.1 s81) fun (y87:Ty.El zT)=>Option.bind (jC (a1,y87.2.2.1,())) fun (y88:Int)=>bif decide (y88< (0:Int)) then some true else Option.bind (idx a1.2.2.2.2.2.2.2.2.2.2.1.2.2.2.1 s81) fun (y89:Ty.El zT)=>bif y89.2.2.2.1 != { data:= #[] } then Option.bind (idx a1.2.2.2.2.2.2.2.2.2.2.1.2.2.2.1 s81) fun (y90:Ty.El zT)=>Option.bind (jC (a1,y90.2.2.2.1,())) fun (y91:Int)=>some (decide (y91< (0:Int))) else some false else Option.bind (idx a1.2.2.2.2.2.2.2.2.2.2.1.2.2.2.1 s81) fun (y92:Ty.El zT)=>bif y92.2.2.2.1 != { data:= #[] } then Option.bind (idx a1.2.2.2.2.2.2.2.2.2.2.1.2.2.2.1 s81) fun (y93:Ty.El zT)=>Option.bind (jC (a1,y93.2.2.2.1,())) fun (y94:Int)=>some (decide (y94< (0:Int))) else some false) fun (s95:Bool)=>bif s95 then some (Sum.inr (Sum.inr (Sum.inr (5:Int)))) else zL (fun (s96:Int)=>bif decide (s96<s81) then Option.bind (idx a1.2.2.2.2.2.2.2.2.2.2.1.2.2.2.1 s96) fun (y97:Ty.El zT)=>Option.bind (idx a1.2.2.2.2.2.2.2.2.2.2.1.2.2.2.1 s81) fun (y98:Ty.El zT)=>bif y97.1==y98.1 then some (Sum.inr (Sum.inr (Sum.inr (Sum.inr (4:Int))))) else some (Sum.inl (IntKind.wrap .i64 (s96+(1:Int)))) else some (Sum.inr (Sum.inl ()))) (0:Int)) fun (s99:Unit)=>some (Sum.inl (IntKind.wrap .i64 (s81+(1:Int)))) else some (Sum.inr (Sum.inl ()))) (0:Int)) fun (s100:Unit)=>some (0:Int)
noncomputable def vJ:ElS [tPV]→Option (RTy.El (.p tI)):=fun x=>match x with|(a1,())=>bif decide ((↑(List.length a1.2.2.2.2.1):Int)>(8:Int)) then some (7:Int) else qM (zL (fun (s24:Int)=>bif decide (s24< (↑(List.length a1.2.2.2.2.1):Int)) then qM (Option.bind (idx a1.2.2.2.2.1 s24) fun (y25:Ty.El zG)=>Option.bind (w8 (y25,())) fun (y26:Bool)=>bif !y26 then some (Sum.inr (Sum.inr (Sum.inr (1:Int)))) else zL (fun (s27:Int)=>bif decide (s27<s24) then Option.bind (idx a1.2.2.2.2.1 s27) fun (y28:Ty.El zG)=>Option.bind (idx a1.2.2.2.2.1 s24) fun (y29:Ty.El zG)=>bif y28.1==y29.1&&(y28.2.1==y29.2.1&&true) then some (Sum.inr (Sum.inr (Sum.inr (Sum.inr (4:Int))))) else some (Sum.inl (IntKind.wrap .i64 (s27+(1:Int)))) else some (Sum.inr (Sum.inl ()))) (0:Int)) fun (s30:Unit)=>some (Sum.inl (IntKind.wrap .i64 (s24+(1:Int)))) else some (Sum.inr (Sum.inl ()))) (0:Int)) fun (s31:Unit)=>bif decide ((↑(List.length a1.2.2.2.2.2.1):Int)>(8:Int)) then some (7:Int) else qM (zL (fun (s56:Int)=>bif decide (s56< (↑(List.length a1.2.2.2.2.2.1):Int)) then qM (Option.bind (idx a1.2.2.2.2.2.1 s56) fun (y57:Ty.El q8)=>Option.bind (w8 (y57.1,())) fun (y58:Bool)=>bif !y58 then some (Sum.inr (Sum.inr (Sum.inr (1:Int)))) else zL (fun (s59:Int)=>bif decide (s59<s56) then Option.bind (idx a1.2.2.2.2.2.1 s59) fun (y60:Ty.El q8)=>Option.bind (idx a1.2.2.2.2.2.1 s56) fun (y61:Ty.El q8)=>bif y60.1.1==y61.1.1&&(y60.1.2.1==y61.1.2.1&&true) then some (Sum.inr (Sum.inr (Sum.inr (Sum.inr (4:Int))))) else some (Sum.inl (IntKind.wrap .i64 (s59+(1:Int)))) else some (Sum.inr (Sum.inl ()))) (0:Int)) fun (s62:Unit)=>some (Sum.inl (IntKind.wrap .i64 (s56+(1:Int)))) else some (Sum.inr (Sum.inl ()))) (0:Int)) fun (s63:Unit)=>bif decide ((↑(List.length a1.2.2.2.2.2.2.1):Int)>(8:Int)) then some (7:Int) else qM (zL (fun (s109:Int)=>bif decide (s109< (↑(List.length a1.2.2.2.2.2.2.1):Int)) then qM (Option.bind (idx a1.2.2.2.2.2.2.1 s109) fun (y110:Ty.El zAi)=>Option.bind (Option.bind (w8 (y110.1,())) fun (y111:Bool)=>bif !y111 then some true else Option.bind (w8 (y110.2.1,())) fun (y112:Bool)=>some !y112) fun (s113:Bool)=>bif s113 then some (Sum.inr (Sum.inr (Sum.inr (1:Int)))) else bif y110.1.1==y110.2.1.1&&(y110.1.2.1==y110.2.1.2.1&&true) then some (Sum.inr (Sum.inr (Sum.inr (6:Int)))) else zL (fun (s114:Int)=>bif decide (s114<s109) then Option.bind (idx a1.2.2.2.2.2.2.1 s114) fun (y115:Ty.El zAi)=>bif y115.1.1==y110.1.1&&(y115.1.2.1==y110.1.2.1&&true) then some (Sum.inr (Sum.inr (Sum.inr (Sum.inr (4:Int))))) else some (Sum.inl (IntKind.wrap .i64 (s114+(1:Int)))) else some (Sum.inr (Sum.inl ()))) (0:Int)) fun (s116:Unit)=>some (Sum.inl (IntKind.wrap .i64 (s109+(1:Int)))) else some (Sum.inr (Sum.inl ()))) (0:Int)) fun (s117:Unit)=>some (0:Int)
noncomputable def wE:ElS [zF]→Option (RTy.El (.p tI)):=fun x=>match x with|(a1,())=>bif !a1.2.2.2.2.2.2.2.2.2.2.1.1 then Option.bind (bif a1.2.2.2.2.2.2.2.2.2.2.1.2.1 !=(0:Int) then some true else bif a1.2.2.2.2.2.2.2.2.2.2.1.2.2.1 !=(0:Int) then some true else some (decide (IntKind.wrap .i64 (IntKind.wrap .i64 (IntKind.wrap .i64 (IntKind.wrap .i64 ((↑(List.length a1.2.2.2.2.2.2.2.2.2.2.1.2.2.2.1):Int)+(↑(List.length a1.2.2.2.2.2.2.2.2.2.2.1.2.2.2.2.1):Int))+(↑(List.length a1.2.2.2.2.2.2.2.2.2.2.1.2.2.2.2.2.1):Int))+(↑(List.length a1.2.2.2.2.2.2.2.2.2.2.1.2.2.2.2.2.2.1):Int))+(↑(List.length a1.2.2.2.2.2.2.2.2.2.2.1.2.2.2.2.2.2.2.1):Int))>(0:Int)))) fun (s0:Bool)=>bif s0 then some (1:Int) else some (0:Int) else Option.bind (bif a1.2.1==(0:Int) then some true else Option.bind (z2 (a1.2.2.2.2.2.2.2.2.2.2.1.2.1,(1:Int),(255:Int),())) fun (y3:Bool)=>bif !y3 then some true else Option.bind (z2 (a1.2.2.2.2.2.2.2.2.2.2.1.2.2.1,(1:Int),(255:Int),())) fun (y4:Bool)=>some !y4) fun (s5:Bool)=>bif s5 then some (1:Int) else Option.bind (yM (a1,())) fun (y6:Int)=>bif y6 !=(0:Int) then some y6 else Option.bind (vJ (a1.2.2.2.2.2.2.2.2.2.2.1,())) fun (y7:Int)=>bif y7 !=(0:Int) then some y7 else Option.bind (jD (a1,a1.2.2.2.2.2.2.2.2.2.2.1.2.2.2.2.2.2.2.1,(5:Int),(0:Int),(16777215:Int),())) fun (y8:Int)=>some y8
noncomputable def v8:ElS [zF]→Option (RTy.El (.p tI)):=fun x=>match x with|(a1,())=>Option.bind (zBz (a1.1,())) fun (y0:Bool)=>bif !y0 then some (3:Int) else Option.bind (z2 (a1.2.1,(0:Int),(65535:Int),())) fun (y1:Bool)=>bif !y1 then some (1:Int) else Option.bind (kU (a1.2.2.1,())) fun (y12:Int)=>Option.bind (yL (a1.2.2.2.1,())) fun (y13:Int)=>Option.bind (kG (a1,())) fun (y14:Int)=>Option.bind (yN (a1.2.2.2.2.2.1,())) fun (y15:Int)=>Option.bind (k8 (a1,())) fun (y16:Int)=>Option.bind (zB0 (a1,())) fun (y17:Int)=>Option.bind (zAD (a1,())) fun (y18:Int)=>Option.bind (zAj (a1,())) fun (y19:Int)=>Option.bind (zA7 (a1,())) fun (y20:Int)=>Option.bind (wE (a1,())) fun (y21:Int)=>qM (zL (fun (s28:Int)=>bif decide (s28< (↑(List.length [y12,y13,y14,y15,y16,y17,y18,y19,y20,y21]):Int)) then Option.bind (idx [y12,y13,y14,y15,y16,y17,y18,y19,y20,y21] s28) fun (y29:Int)=>bif y29 !=(0:Int) then Option.bind (idx [y12,y13,y14,y15,y16,y17,y18,y19,y20,y21] s28) fun (y30:Int)=>some (Sum.inr (Sum.inr y30)) else some (Sum.inl (IntKind.wrap .i64 (s28+(1:Int)))) else some (Sum.inr (Sum.inl ()))) (0:Int)) fun (s31:Unit)=>some (0:Int)
noncomputable def uL:ElS [zX]→Option (RTy.El (.p tI)):=fun x=>match x with|(a1,())=>bif decide ((↑(List.length a1.1):Int)>(8:Int)) then some (7:Int) else qM (zL (fun (s181:Int)=>bif decide (s181< (↑(List.length a1.1):Int)) then qM (Option.bind (idx a1.1 s181) fun (y182:Ty.El zF)=>Option.bind (v8 (y182,())) fun (y183:Int)=>bif y183 !=(0:Int) then some (Sum.inr (Sum.inr (Sum.inr y183))) else qM (zL (fun (s184:Int)=>bif decide (s184<s181) then Option.bind (idx a1.1 s184) fun (y185:Ty.El zF)=>Option.bind (idx a1.1 s181) fun (y186:Ty.El zF)=>bif y185.1==y186.1 then some (Sum.inr (Sum.inr (Sum.inr (Sum.inr (Sum.inr (4:Int)))))) else some (Sum.inl (IntKind.wrap .i64 (s184+(1:Int)))) else some (Sum.inr (Sum.inl ()))) (0:Int)) fun (s187:Unit)=>zL (fun (s188:Int)=>Option.bind (idx a1.1 s181) fun (y189:Ty.El zF)=>bif decide (s188< (↑(List.length y189.2.2.1):Int)) then qM (Option.bind (idx a1.1 s181) fun (y190:Ty.El zF)=>Option.bind (idx y190.2.2.1 s188) fun (y191:Ty.El qA)=>zL (fun (s192:Int)=>bif decide (s192<s181) then Option.bind (bif y191.2.2.1 !=(0:Int) then Option.bind (idx a1.1 s192) fun (y193:Ty.El zF)=>Option.bind (xK (y193,y191.2.1,())) fun (y194:Int)=>some (decide (y194≥(0:Int))) else some false) fun (s195:Bool)=>bif s195 then some (Sum.inr (Sum.inr (Sum.inr (Sum.inr (Sum.inr (Sum.inr (4:Int))))))) else some (Sum.inl (IntKind.wrap .i64 (s192+(1:Int)))) else some (Sum.inr (Sum.inl ()))) (0:Int)) fun (s196:Unit)=>some (Sum.inl (IntKind.wrap .i64 (s188+(1:Int)))) else some (Sum.inr (Sum.inl ()))) (0:Int)) fun (s197:Unit)=>some (Sum.inl (IntKind.wrap .i64 (s181+(1:Int)))) else some (Sum.inr (Sum.inl ()))) (0:Int)) fun (s198:Unit)=>some (0:Int)
end Go.Ve

/-
  The evaluator over pure values, part 22: the same evaluation, each state written out before the next step: for the kernel.
  The evaluator over pure values, part 23: the program's tables as trees, for the kernel.
  Conditions out of code, part 1: operations. What an operation comes to on a state with open data, as a condition on what follows.
  Conditions out of code, part 2: writing operations, regions.
  Conditions out of code, part 3: statements, loops, functions.
  Conditions out of code, part 4: contracts over typed data; tables of contracts.
  Functions out of code, part 1: operations. What an operation on open data comes to, as a partial value of what follows.
  Functions out of code, part 2: what stays; writing operations, regions.
  Drawn regions that write, part 1: what an operation does to a state, whatever else the state holds.
  Drawn regions that write, part 2: floating operations; the chain of what writes.
  Drawn regions that write, part 3: in whatever order, they come to what the chain comes to.
-/
import Derived.Test.YtaidmnnejapafaaGreatDoorl6
set_option linter.unusedVariables false


namespace Go.Ve
open Go
inductive Tr (α:Type) where
 |nil
 |node (v:α) (l r:Tr α)
def zIa {α:Type} :List α→List α
 |[]=>[]
 |[_]=>[]
 |_::y::r=>y::zIa r
def zDx {α:Type} :List α→List α
 |[]=>[]
 |[x]=>[x]
 |x::_::r=>x::zDx r
def Tr.ofList {α:Type} :Nat→List α→Tr α
 |0,_=> .nil
 |_+1,[]=> .nil
 |n+1,x::r=> .node x (Tr.ofList n (zDx r)) (Tr.ofList n (zIa r))
def Tr.get {α:Type} :Tr α→Nat→Option α
 | .nil,_=>none
 | .node v l r,n=>match Nat.beq n 0 with
  |true=>some v
  |false=>match Nat.beq ((n-1)%2) 0 with
   |true=>l.get ((n-1) / 2)
   |false=>r.get ((n-1) / 2)
theorem zPX {α:Type} : ∀ (l:List α) (i:Nat),(zDx l)[i]? =l[2*i]? :=by
 intro l
 induction l using zDx.induct with
 |case1=>intro i;simp [zDx]
 |case2 x=>intro i;cases i with
  |zero=>rfl
  |succ i=>simp [zDx]
 |case3 x y r ih=>intro i;cases i with
  |zero=>rfl
  |succ i=>simp only [zDx,List.getElem?_cons_succ,ih];rw [show 2*(i+1)=2*i+1+1 by omega];simp
theorem zRb {α:Type} : ∀ (l:List α) (i:Nat),(zIa l)[i]? =l[2*i+1]? :=by
 intro l
 induction l using zIa.induct with
 |case1=>intro i;simp [zIa]
 |case2 x=>intro i;simp [zIa]
 |case3 x y r ih=>intro i;cases i with
  |zero=>rfl
  |succ i=>simp only [zIa,List.getElem?_cons_succ,ih];rw [show 2*(i+1)=2*i+1+1 by omega];simp
theorem zPW {α:Type} : ∀ (l:List α),(zDx l).length≤l.length:=by
 intro l
 induction l using zDx.induct with
 |case1=>simp [zDx]
 |case2 x=>simp [zDx]
 |case3 x y r ih=>simp [zDx];omega
theorem zRa {α:Type} : ∀ (l:List α),(zIa l).length≤l.length:=by
 intro l
 induction l using zIa.induct with
 |case1=>simp [zIa]
 |case2 x=>simp [zIa]
 |case3 x y r ih=>simp [zIa];omega
theorem Tr.get_ofList {α:Type} : ∀ (n:Nat) (l:List α) (i:Nat),l.length≤n→(Tr.ofList n l).get i=l[i]? :=by
 intro n
 induction n with
 |zero=>intro l i h;cases l with
  |nil=>rfl
  |cons x l=>simp at h
 |succ n ih=>
  intro l i h
  cases l with
  |nil=>simp [Tr.ofList,Tr.get]
  |cons x r=>
   simp only [List.length_cons] at h
   simp only [Tr.ofList,Tr.get]
   cases i with
   |zero=>rfl
   |succ i=>
    have h0:Nat.beq (i+1) 0=false:=rfl
    simp only [h0,Nat.add_sub_cancel]
    cases hb:Nat.beq (i%2) 0 with
    |true=>
     have:=Nat.eq_of_beq_eq_true hb
     simp only
     rw [ih _ _ (by have:=zPW r;omega),zPX,List.getElem?_cons_succ,show 2*(i / 2)=i by omega]
    |false=>
     have:=Nat.ne_of_beq_eq_false hb
     simp only
     rw [ih _ _ (by have:=zRa r;omega),zRb,List.getElem?_cons_succ,show 2*(i / 2)+1=i by omega]
def zSm (P:Program) (n:Nat):Tr (Option TypeDesc):=Tr.ofList n ((List.range n).map P.underlying)
def zSM (P:Program) (n:Nat):Tr (Option TypeInfo):=Tr.ofList n ((List.range n).map P.info?)
def zTA (P:Program) (n:Nat):Tr (Option Ty):=Tr.ofList n ((List.range n).map (zMV P))
def zT0 (P:Program) (n:Nat):Tr (Option Func):=Tr.ofList n ((List.range n).map (fun f=>P.funcs[f]?))
def zHf {β:Type} (x:Option β) (y:β):β:=
 match x with
 |some d=>d
 |none=>y
def qK.fast (P:Program) (nt nf:Nat):qK where
 P:=P
 und:=fun t=>zHf ((zSm P nt).get t) (P.underlying t)
 inf:=fun t=>zHf ((zSM P nt).get t) (P.info? t)
 fn:=fun t=>zHf ((zT0 P nf).get t) P.funcs[t]?
 ty:=fun t=>zHf ((zTA P nt).get t) (zMV P t)
theorem zIn {β:Type} (f:Nat→β) (n t:Nat):zHf ((Tr.ofList n ((List.range n).map f)).get t) (f t)=f t:=by
 rw [Tr.get_ofList n _ t (by simp)]
 by_cases h:t<n
 ·simp [h,zHf]
 ·rw [List.getElem?_eq_none (by simp;omega)];rfl
theorem qK.fast_eq (P:Program) (nt nf:Nat):qK.fast P nt nf=qK.of P:=by
 unfold qK.fast qK.of
 congr 1
 ·funext t;exact zIn P.underlying nt t
 ·funext t;exact zIn P.info? nt t
 ·funext t;exact zIn (fun f=>P.funcs[f]?) nf t
 ·funext t;exact zIn (zMV P) nt t
end Go.Ve

namespace Go.Ve
open Go
abbrev zHK (Γ:Sig):=FuncId→Γ.St→List V→Option (Prop×Γ.St×RV)
open Classical in
def bitsOf:BinOp→(k:IntKind)→Int→Int→Option Int
 | .and,k,a,b=>some (k.wrap (BitVec.ofInt k.bits a&&&BitVec.ofInt k.bits b).toNat)
 | .or,k,a,b=>some (k.wrap (BitVec.ofInt k.bits a|||BitVec.ofInt k.bits b).toNat)
 | .xor,k,a,b=>some (k.wrap (BitVec.ofInt k.bits a^^^BitVec.ofInt k.bits b).toNat)
 | .andNot,k,a,b=>some (k.wrap (BitVec.ofInt k.bits a&&& ~~~ BitVec.ofInt k.bits b).toNat)
 |_,_,_,_=>none
section
variable {Γ:Sig} (P:qK) (G:Nat→Option (List V)) (S:zHK Γ)
def zJZ (k:IntKind) (n:Int):R Γ.St:= .ret (.p (.val (.int k n)))
def zLa (b:Bool):R Γ.St:= .ret (.p (.val (.bool b)))
variable {P G S}
end
section
variable {Γ:Sig} {P:Program} {G:Nat→Option (List V)} {S:zHK Γ} {e:Env Γ.St} {o:Oper}
theorem zDU {α β:Type} {s:Sem α} {a:α} (h:zX P s=some a) (f:α→Sem β):zX P (s>>=f)=zX P (f a):=by
 change zX P (s.bind f)=_
 induction s with
 |pure b=>simp only [zX,Option.some.injEq] at h;subst h;rfl
 |program k ih=>exact ih P h
 |_=>simp [zX] at h
theorem zGm {t:TypeId} {d:TypeDesc} (h:P.underlying t=some d):zX P (underlying t)=some d:=by
 show zX P (match P.underlying t with | some d => pure d | none => stuck "no such type" : Sem TypeDesc) = _
 rw [h];rfl
theorem zEM {v:Value} (h1:o.op.operands.toList.all (fun x=>(wB (evx G e x)).isSome)=true)
  (h2:zX P (execOp (fun x=>(wB (evx G e x)).getD undef) o)=some (.value v)):vY P G e o=some (.ret (.p (V.ofVal v)):R Γ.St):=by
 unfold vY
 rw [if_pos h1]
 have h3:zX (qK.of P).P (execOp (fun x=>(wB (evx G e x)).getD undef) o)=some (.value v):=h2
 rw [h3]
end
end Go.Ve

namespace Go.Ve
open Go
section
variable {β:Type 1}
end
section
variable {Γ:Sig} (P:qK) (G:Nat→Option (List V)) (S:zHK Γ)
def Env.lit (e:Env Γ.St) (t:Nat) (b:Bool):Env Γ.St:= { e with tm:=e.tm.set t (.p (.val (.bool b))) }
end
section
variable {Γ:Sig} {P:Program} {G:Nat→Option (List V)} {S:zHK Γ} {e:Env Γ.St} {o:Oper} {K:Env Γ.St→Prop} {ops:Array Oper}
theorem zD1 {t:Nat} {b:Bool} (h:e.get t= .p (.val (.bool b))):e.lit t b=e:=by
 obtain ⟨tm,vars,st⟩:=e
 simp only [Env.lit,Env.mk.injEq,and_true]
 refine List.ext_getElem? (fun i=> ?_)
 simp only [Env.get,List.getD_eq_getElem?_getD] at h
 by_cases hi:t=i
 ·subst hi
  rcases Nat.lt_or_ge t tm.length with hl|hl
  ·rw [List.getElem?_set_self hl]
   rw [List.getElem?_eq_getElem hl,Option.getD_some] at h
   rw [List.getElem?_eq_getElem hl,h]
  ·rw [List.getElem?_eq_none (by simpa using hl),List.getElem?_eq_none hl]
 ·rw [List.getElem?_set_ne hi]
end
end Go.Ve

namespace Go.Ve
open Go
def zGM (t t':Ty) (xs:List t.El):Option (List t'.El):=if h:t=t' then some (h▸xs) else none
def zN3 (t t':Ty) (xs:List t.El) (ys:List t'.El):Prop:=
 match zGM t t' xs with
 |some zs=>zs=ys
 |none=>False
def zLo:Value→Value→Prop
 | .int k n, .int k' m=>if k=k' then n=m else False
 | .bool a, .bool b=>a=b
 | .string a, .string b=>a=b
 |a,b=>a=b
def fitAll {α:Type} (f:α→α→Prop):List α→List α→Prop
 |[],[]=>True
 |x::xs,y::ys=>f x y∧fitAll f xs ys
 |_,_=>False
def zPT:Nat→V→V→Prop
 |0,x,y=>x=y
 |_+1, .val (.slice none 0 0), .tl _ ys=>ys=[]
 |_+1, .sl [], .tl _ ys=>ys=[]
 |_+1, .val a, .val b=>zLo a b
 |_+1, .tl t xs, .tl t' ys=>zN3 t t' xs ys
 |n+1, .agg cs, .agg ds=>fitAll (zPT n) cs ds
 |n+1, .tup cs, .tup ds=>fitAll (zPT n) cs ds
 |_+1,x,y=>x=y
def zDw {St:Type} (e:Env St):T→Bool
 | .lp s _=>(e.var s).isSome
 |_=>true
theorem zAe {t t':Ty} {xs:List t.El} {ys:List t'.El} (h:zN3 t t' xs ys): ∃ht:t=t',(ht▸xs)=ys:=by
 unfold zN3 zGM at h
 split at h
 ·rename_i zs hz
  split at hz
  ·rename_i ht
   simp only [Option.some.injEq] at hz
   exact ⟨ht,hz.trans h⟩
  ·cases hz
 ·exact h.elim
theorem zN2 {a b:Value} (h:zLo a b):a=b:=by
 unfold zLo at h
 split at h
 ·split at h
  ·rename_i hk;rw [hk,h]
  ·exact h.elim
 ·rw [h]
 ·rw [h]
 ·exact h
theorem zHt {f:V→V→Prop} (hf: ∀x y,f x y→WkV x y): ∀ (xs ys:List V),fitAll f xs ys→jQ xs ys
 |[],[],_=>trivial
 |x::xs,y::ys,h=>⟨hf x y h.1,zHt hf xs ys h.2⟩
 |[],_::_,h=>h.elim
 |_::_,[],h=>h.elim
theorem WkV.tup {xs ys:List V} (h:jQ xs ys):WkV (.tup xs) (.tup ys):=by
 intro w F v hr
 cases hr with
 |tup cs ds hl h0=>
  refine .tup cs ys (hl.trans h.len) ?_
  intro i x d hi hd
  have hlt:i<xs.length:=by rw [h.len];exact (List.getElem?_eq_some_iff.1 hd).1
  exact h.get i xs[i] d (by simp [hlt]) hd w F x (h0 i x xs[i] hi (by simp [hlt]))
theorem zN1: ∀ (n:Nat) (x y:V),zPT n x y→WkV x y:=by
 intro n
 induction n with
 |zero=>intro x y h;simp only [zPT] at h;subst h;exact .refl _
 |succ n ih=>
  intro x y h
  unfold zPT at h
  split at h
  ·cases ‹_=0›
  ·subst h;intro w F v hr;rw [Rd.eq_val hr];exact .tl _ [] _ (.slemp none 0)
  ·subst h;intro w F v hr;exact .tl _ [] _ hr
  ·rw [zN2 h];exact .refl _
  ·obtain ⟨ht,h⟩:=zAe h;subst ht;subst h;exact .refl _
  ·rename_i m cs ds heq
   simp only [Nat.succ_eq_add_one,Nat.add_right_cancel_iff] at heq
   subst heq
   exact WkV.agg (zHt ih cs ds h)
  ·rename_i m cs ds heq
   simp only [Nat.succ_eq_add_one,Nat.add_right_cancel_iff] at heq
   subst heq
   exact WkV.tup (zHt ih cs ds h)
  ·subst h;exact .refl _
section
variable {Γ:Sig} {P:Program} {G:Nat→Option (List V)} {w0:World} {F0:Blk→Prop} {O0:kC} {a:Act} {w:World} {e e2:Env Γ.St}
end
structure zUv (St:Type) where
 σ:Type
 get:Env St→Option σ
 env:σ→Env St
 inv:σ→Prop
 mes:σ→Nat
def keyOf:Code→Option Nat
 | .region id _ _=>some id
 | .seq a b=>match keyOf a with
  |some n=>some n
  |none=>keyOf b
 | .cond _ a b=>match keyOf a with
  |some n=>some n
  |none=>keyOf b
 | .block _ a=>keyOf a
 | .loop a=>keyOf a
 |_=>none
section
variable {Γ:Sig} (P:qK) (G:Nat→Option (List V)) (S:zHK Γ) (A:Nat→Option (zUv Γ.St))
end
section
variable {Γ:Sig} {P:Program} {G:Nat→Option (List V)} {S:zHK Γ} {A:Nat→Option (zUv Γ.St)}
def qC (P:Program) (G:Nat→Option (List V)) (c:Code) (e:Env Γ.St) (k:X) (e1:Env Γ.St):Prop:=
 ∀ (w0:World) (F0:Blk→Prop) (O0:kC) (a:Act) (w:World),Inv Γ G w0 F0 O0 a w e→c.wp P (fun ex a' w'=>ex=k.toExit∧Inv Γ G w0 F0 O0 a' w' e1) a w
def zTa (P:Program) (c:Code) (Q:Exit→Act→World→Prop) (a:Act) (w:World):Prop:=
 ∀ (b:Frame) (k:List Item) (cs:List Frame), ∃e a' w',Q e a' w'∧Arrives P (lone (b.at a (.code c:: .inLoop c::k)) cs w) b k cs e a' w'
def zAj (P:Program) (G:Nat→Option (List V)) (c:Code) (e:Env Γ.St) (k:X) (e1:Env Γ.St):Prop:=
 ∀ (w0:World) (F0:Blk→Prop) (O0:kC) (a:Act) (w:World),Inv Γ G w0 F0 O0 a w e→zTa P c (fun ex a' w'=>ex=k.toExit∧Inv Γ G w0 F0 O0 a' w' e1) a w
theorem qC.skip (e:Env Γ.St):qC P G .skip e .normal e:=fun _ _ _ _ _ hi=>wp_skip ⟨rfl,hi⟩
theorem qC.exit (id:Nat) (e:Env Γ.St):qC P G (.exit id) e (.exit id) e:=fun _ _ _ _ _ hi=>wp_exit ⟨rfl,hi⟩
theorem qC.ret (e:Env Γ.St):qC P G .ret e .ret e:=fun _ _ _ _ _ hi=>wp_ret ⟨rfl,hi⟩
theorem qC.seqN {x y:Code} {e e1 e2:Env Γ.St} {k:X} (h1:qC P G x e .normal e1) (h2:qC P G y e1 k e2):qC P G (.seq x y) e k e2:=by
 intro w0 F0 O0 a w hi
 refine wp_seq (wp_mono (h1 w0 F0 O0 a w hi) ?_)
 rintro ex a' w' ⟨rfl,hi'⟩
 exact h2 w0 F0 O0 a' w' hi'
theorem qC.seqX {x y:Code} {e e1:Env Γ.St} {k:X} (h1:qC P G x e k e1) (hk:k≠ .normal):qC P G (.seq x y) e k e1:=by
 intro w0 F0 O0 a w hi
 refine wp_seq (wp_mono (h1 w0 F0 O0 a w hi) ?_)
 rintro ex a' w' ⟨rfl,hi'⟩
 cases k with
 |normal=>exact absurd rfl hk
 |exit id=>exact ⟨rfl,hi'⟩
 |ret=>exact ⟨rfl,hi'⟩
theorem qC.condB {c:Operand} {x y:Code} {e e1:Env Γ.St} {k:X} {b:Bool} (hc:evx G e c= .p (.val (.bool b))) (h:qC P G (if b then x else y) e k e1):qC P G (.cond c x y) e k e1:=by
 intro w0 F0 O0 a w hi
 have hw:=h w0 F0 O0 a w hi
 obtain ⟨F,O,β,hcr,hG,hsz,hdf,ht,hv⟩:=hi
 have h2:=wS (e:=e) hG ht c
 rw [hc] at h2
 cases b with
 |true=>exact wp_cond_true (Rd.eq_val h2) hw
 |false=>exact wp_cond_false (Rd.eq_val h2) hw
theorem qC.block {id:Nat} {c:Code} {e e1:Env Γ.St} {k:X} (h:qC P G c e k e1):qC P G (.block id c) e (k.out id) e1:=by
 intro w0 F0 O0 a w hi
 refine wp_block (wp_mono (h w0 F0 O0 a w hi) ?_)
 rintro ex a' w' ⟨rfl,hi'⟩
 cases k with
 |normal=>exact ⟨rfl,hi'⟩
 |exit id'=>
  simp only [X.toExit,Exit.inBlock,X.out]
  split
  ·exact ⟨rfl,hi'⟩
  ·exact ⟨rfl,hi'⟩
 |ret=>exact ⟨rfl,hi'⟩
theorem qC.loop {c:Code} {e e1:Env Γ.St} {k:X} (h:zAj P G c e k e1):qC P G (.loop c) e k e1:=by
 intro w0 F0 O0 a w hi b k' cs
 obtain ⟨ex,a',w',hq,harr⟩:=h w0 F0 O0 a w hi b k' cs
 exact ⟨ex,a',w',hq, .of_steps (.one step_loop) harr⟩
theorem zAj.last {c:Code} {e e1:Env Γ.St} {k:X} (h:qC P G c e k e1) (hk:k≠ .normal):zAj P G c e k e1:=by
 intro w0 F0 O0 a w hi b k' cs
 obtain ⟨ex,a',w',⟨rfl,hi'⟩,harr⟩:=h w0 F0 O0 a w hi b (.inLoop c::k') cs
 cases k with
 |normal=>exact absurd rfl hk
 |exit id=>exact ⟨_,a',w',⟨rfl,hi'⟩, .pass (x:= .inLoop c) rfl (fun _ _=> .inl (by simp [X.toExit])) harr⟩
 |ret=>exact ⟨_,a',w',⟨rfl,hi'⟩, .pass (x:= .inLoop c) rfl (fun _ _=> .inl (by simp [X.toExit])) harr⟩
theorem zAj.step {c:Code} {e e1 e2:Env Γ.St} {k:X} (h:qC P G c e .normal e1) (h2:zAj P G c e1 k e2):zAj P G c e k e2:=by
 intro w0 F0 O0 a w hi b k' cs
 obtain ⟨ex,a',w',⟨rfl,hi'⟩,harr⟩:=h w0 F0 O0 a w hi b (.inLoop c::k') cs
 obtain ⟨ex2,a2,w2,hq2,harr2⟩:=h2 w0 F0 O0 a' w' hi' b k' cs
 exact ⟨ex2,a2,w2,hq2, .of_steps (Steps.trans harr (.one step_inLoop)) harr2⟩
def zTm:RV→RV→Prop
 | .p (.val (.slice none 0 0)), .ownT _ ys=>ys=[]
 | .own [], .ownT _ ys=>ys=[]
 | .own [], .p (.tl _ ys)=>ys=[]
 | .ownT t xs, .ownT t' ys=>zN3 t t' xs ys
 | .ownT t xs, .p (.tl t' ys)=>zN3 t t' xs ys
 | .p d, .p d'=>zPT 7 d d'
 |_,_=>False
theorem zHV {N:Nat} {w:World} {F:Blk→Prop} {O:Nat→Prop} {v:Value} {r r':RV} (h:zTm r r') (hr:uX N w F O v r):
  ∃F':Blk→Prop,(∀b,F b→F' b)∧(∀id a n c,F' (.h id a n c)↔F (.h id a n c))∧(∀b:Nat,F' b→F b∨(N≤b∧b<w.heap.size∧ ¬O b))∧uX N w F' O v r':=by
 have same:uX N w F O v r'→ ∃F':Blk→Prop,(∀b,F b→F' b)∧(∀id a n c,F' (.h id a n c)↔F (.h id a n c))∧(∀b:Nat,F' b→F b∨(N≤b∧b<w.heap.size∧ ¬O b))∧uX N w F' O v r':=
  fun h=>⟨F,fun _ h=>h,fun _ _ _ _=>Iff.rfl,fun _ h=> .inl h,h⟩
 unfold zTm at h
 split at h
 ·subst h;exact same (.inl ⟨rfl,none,Rd.eq_val hr⟩)
 ·subst h;exact same hr
 ·subst h
  refine same ?_
  rcases hr with ⟨_,a0,rfl⟩|⟨h,_⟩
  ·exact .tl _ [] _ (.slemp a0 0)
  ·exact absurd rfl h
 ·obtain ⟨ht,h⟩:=zAe h;subst ht;subst h;exact same hr
 ·obtain ⟨ht,h⟩:=zAe h
  subst ht
  subst h
  rename_i t xs
  rcases hr with ⟨h0,a0,rfl⟩|⟨hne,b,cap,rfl,h1,h2,h3,h4,k,hrow⟩
  ·exact same (.tl _ _ _ (by rw [h0];exact .slemp a0 0))
  ·refine ⟨fun b'=>F b'∨b'=Blk.b b,fun _ h=> .inl h,zJO,fun b' hb=>hb.elim .inl (fun h=>by have h:=kA h;subst h;exact .inr ⟨h1,h2,h4⟩),?_⟩
   exact .tl _ _ _ (zDn (hrow.mono (fun _ h=> .inl h) (fun _ _=>rfl) rfl) (fun _ h=>h) (.inr rfl))
 ·exact same (zN1 7 _ _ h _ _ _ hr)
 ·exact h.elim
end
end Go.Ve

namespace Go.Ve
open Go
@[reducible] def ElS:List Ty→Type
 |[]=>Unit
 |t::ts=>t.El×ElS ts
def encS:(ts:List Ty)→ElS ts→List V
 |[],_=>[]
 |t::ts,x=>t.enc x.1::encS ts x.2
def yY:(ts:List Ty)→List V→Option (ElS ts)
 |[],[]=>some ()
 |t::ts,d::ds=>match t.dec d with
  |some x=>match yY ts ds with
   |some xs=>some (x,xs)
   |none=>none
  |none=>none
 |_,_=>none
theorem wL: ∀ (ts:List Ty) (ds:List V) (x:ElS ts),yY ts ds=some x→jQ ds (encS ts x)
 |[],[],_,_=>trivial
 |[],_::_,_,h=>by simp [yY] at h
 |_::_,[],_,h=>by simp [yY] at h
 |t::ts,d::ds,x,h=>by
  simp only [yY] at h
  split at h
  ·rename_i y hy
   split at h
   ·rename_i ys hys
    simp only [Option.some.injEq] at h
    subst h
    exact ⟨yT hy,wL ts ds ys hys⟩
   ·cases h
  ·cases h
def isFn (P:Program) (f:FuncId):Bool:=
 match P.funcs[f]? with
 | some fn => fn.body.isSome && !(fn.name == "runtime.NumGoroutine")
 |none=>false
end Go.Ve

namespace Go.Ve
open Go
structure zCG (St:Type) where
 ρ:Type
 m:Option ρ
 st:ρ→St
 res:ρ→RV
 pl:Bool
abbrev zL (Γ:Sig):=FuncId→Γ.St→List V→Option (zCG Γ.St)
def zL.toS {Γ:Sig} (S:zL Γ):qZ Γ:=fun f s ds=>
 match S f s ds with
 |some c=>c.m.map (fun y=>(c.st y,c.res y))
 |none=>none
theorem zF9 {Γ:Sig} {S:zL Γ} {f:FuncId} {s:Γ.St} {ds:List V} {c:zCG Γ.St} {y:c.ρ} (h:S f s ds=some c) (hy:c.m=some y):S.toS f s ds=some (c.st y,c.res y):=by
 simp only [zL.toS,h,hy,Option.map_some]
def zE1 {ρ:Type} (c:Bool) (x:Option ρ):Option ρ:=
 match c with
 |true=>x
 |false=>none
theorem wE {ρ:Type} {c:Bool} {x:Option ρ} {v:ρ} :zE1 c x=some v↔c=true∧x=some v:=by
 cases c<;>simp [zE1]
def idx {α:Type} (xs:List α) (i:Int):Option α:=if 0≤i then xs[i.toNat]? else none
def atN {α:Type} (xs:List α) (i:Nat):Option α:=xs[i]?
def byteAt (s:ByteArray) (i:Int):Option Int:=if 0≤i then (s[i.toNat]?).map (fun b=>(b.toNat:Int)) else none
def sub {α:Type} (xs:List α) (lo hi:Int):Option (List α):=
 if 0≤lo∧lo≤hi∧hi≤xs.length then some ((xs.take hi.toNat).drop lo.toNat) else none
def app {α:Type} (bytes:Nat) (xs ys:List α):Option (List α):=
 if (2*(xs.length+ys.length)+1024)*bytes≤140737488355328 then some (xs++ys) else none
def news {α:Type} (bytes:Nat) (n:Int) (x:α):Option (List α):=
 if 0≤n∧n*bytes≤140737488355328 then some (List.replicate n.toNat x) else none
abbrev Kx (Γ:Sig) (ρ:Type):=(R Γ.St→Option ρ)→Option ρ
abbrev Kex (Γ:Sig) (ρ:Type):=(Env Γ.St→Option ρ)→Option ρ
def zNx:Operand→Operand→Bool
 | .tmp a, .tmp b=>Nat.beq a b
 |_,_=>false
theorem zPr {a b:Operand} (h:zNx a b=true):a=b:=by
 unfold zNx at h
 split at h
 ·rw [Nat.eq_of_beq_eq_true h]
 ·cases h
section
variable {Γ:Sig} {ρ:Type} (P:qK) (G:Nat→Option (List V)) (S:zL Γ)
def zTW (op:BinOp) (k:IntKind) (a b:Int):Option (Kx Γ ρ):=
 match op with
 | .add=>some (fun K=>K (zJZ k (k.wrap (a+b))))
 | .sub=>some (fun K=>K (zJZ k (k.wrap (a-b))))
 | .mul=>some (fun K=>K (zJZ k (k.wrap (a*b))))
 | .quo=>some (fun K=>zE1 (b !=0) (K (zJZ k (k.wrap (a.tdiv b)))))
 | .rem=>some (fun K=>zE1 (b !=0) (K (zJZ k (a.tmod b))))
 | .eql=>some (fun K=>K (zLa (a==b)))
 | .neq=>some (fun K=>K (zLa (a !=b)))
 | .lss=>some (fun K=>K (zLa (decide (a<b))))
 | .leq=>some (fun K=>K (zLa (decide (a≤b))))
 | .gtr=>some (fun K=>K (zLa (decide (a>b))))
 | .geq=>some (fun K=>K (zLa (decide (a≥b))))
 |op=>match bitsOf op k a b with
  |some n=>some (fun K=>K (zJZ k n))
  |none=>none
def zK5 (op:BinOp) (k:IntKind) (a b:Int):Option (Kx Γ ρ):=
 match op with
 | .shl=>some (fun K=>zE1 (decide (0≤b)) (K (zJZ k (k.wrap (a*2^min b.toNat k.bits)))))
 | .shr=>some (fun K=>zE1 (decide (0≤b)) (K (zJZ k (a.fdiv (2^min b.toNat k.bits)))))
 |_=>none
def zHG (d:Option T) (dflt:Int):Option Int:=
 match d with
 |none=>some dflt
 |some (.p (.val (.int _ i)))=>some i
 |_=>none
def zTk (b:Bool):Value→Value→Option Value
 | .bool x, .bool y=>some (.bool (cond b x y))
 | .int k x, .int k' y=>if k=k' then some (.int k (cond b x y)) else none
 |_,_=>none
def qX (e:Env Γ.St) (o:Oper):Option (Kx Γ ρ):=
 match o.op with
 | .indexAddr t x ix=>match evx G e x,evx G e ix with
  | .p (.tl ty xs), .p (.val (.int _ i))=>match P.und t with
   |some (.slice el)=>if z9 P el=some ty.size then
     some (fun K=>Option.bind (idx xs i) fun y=>K (.ret (.p (.pp (ty.cells y))))) else none
   |_=>none
  | .ot id ty xs, .p (.val (.int _ i))=>match P.und t with
   |some (.slice el)=>if z9 P el=some ty.size then
     some (fun K=>Option.bind (idx xs i) fun _=>K (.ret (.oet id ty xs i.toNat 0))) else none
   |_=>none
  | .on n, .p (.val (.int _ i))=>match P.und t with
   |some (.slice el)=>match n with
    |⟨id,id2,ty,xs,j,ys, .s⟩=>if z9 P el=some 1 then some (fun K=>Option.bind (idx xs i) fun _=>K (.ret (.on ⟨id,id2,ty,xs,j,ys, .p i.toNat⟩))) else none
    |⟨id,id2,ty,xs,j,ys, .r⟩=>if z9 P el=some ty.size then some (fun K=>Option.bind (idx ys i) fun _=>K (.ret (.on ⟨id,id2,ty,xs,j,ys, .q i.toNat 0⟩))) else none
    |_=>none
   |_=>none
  |_,_=>none
 | .load t x=>match evx G e x with
  | .oet _ ty xs i off=>some (fun K=>Option.bind (atN xs i) fun y=>match ldV P t ((ty.cells y).drop off) with
   |some d=>K (.ret (.p d))
   |none=>none)
  | .on ⟨id,id2,ty,xs,j,ys, .p i⟩=>if zAI P t=some false then some (fun K=>zE1 (decide (i=j)) (K (.ret (.on ⟨id,id2,ty,xs,j,ys, .r⟩)))) else none
  |_=>none
 | .slice t x lo hi mx=>match evx G e x,mx with
  | .p (.tl ty xs),none=>match P.und t with
   |some (.slice el)=>if z9 P el=some ty.size then
     match zHG (hi.map (evx G e)) xs.length with
     |some h=>match zHG (lo.map (evx G e)) 0 with
      |some l=>some (fun K=>Option.bind (sub xs l h) fun ys=>K (.ret (.p (.tl ty ys))))
      |none=>none
     |none=>none
    else none
   |_=>none
  | .ot id ty xs,none=>match P.und t with
   |some (.slice el)=>if z9 P el=some ty.size then
     match zHG (hi.map (evx G e)) xs.length with
     |some h=>match zHG (lo.map (evx G e)) 0 with
      |some l=>some (fun K=>zE1 (decide (0≤l)&&decide (l≤h)&&decide (h≤xs.length)) (K (.ret (.ov id ty xs l.toNat h.toNat))))
      |none=>none
     |none=>none
    else none
   |_=>none
  |_,_=>none
 | .index t x ix=>match evx G e x,evx G e ix with
  | .p (.val (.string s)), .p (.val (.int _ i))=>match P.und t with
   |some .string=>some (fun K=>Option.bind (byteAt s i) fun b=>K (zJZ .u8 b))
   |_=>none
  |_,_=>none
 | .binOp op t x y _=>match evx G e x,evx G e y with
  | .p (.val (.int k a)), .p (.val (.int k' b))=>match op with
   | .shl=>zK5 .shl k a b
   | .shr=>zK5 .shr k a b
   |op=>if k=k' then zTW op k a b else none
  | .p (.val (.string a)), .p (.val (.string b))=>match op with
   | .eql=>some (fun K=>K (zLa (a==b)))
   | .neq=>some (fun K=>K (zLa (a !=b)))
   |_=>none
  |_,_=>none
 | .pick c x y=>match evx G e c,wB (evx G e x),wB (evx G e y) with
  | .p (.val (.bool b)),some u,some v=>match zTk b u v with
   |some z=>some (fun K=>K (.ret (.p (.val z))))
   |none=>some (fun K=>cond b (K (.ret (.p (V.ofVal u)))) (K (.ret (.p (V.ofVal v)))))
  |_,_,_=>none
 | .call c=>match c.callee with
  | .value f=>match evx G e f,zGN G e c.args.toList with
   | .p (.clo g caps),some ds=>match S g e.st (ds++caps) with
    |some cx=>if c.args.toList.any (fun x=>(evx G e x).isView)&& !cx.pl then none else some (fun K=>Option.bind cx.m fun y=>
      match (c.args.toList.any (fun x=>(evx G e x).isView))&& !(cx.res y).plain with
      |true=>none
      |false=>K (.call (cx.st y) (c.args.toList.any (fun x=>(evx G e x).isView)) (cx.res y)))
    |none=>none
   |_,_=>none
  | .builtin .append=>match c.args.toList,c.argTypes.toList with
   |[x0,x1],[t0,t1]=>match zSG (evx G e x0),evx G e x1 with
    |some q, .p (.tl t ys)=>match P.fn zFG with
     |some _=>none
     |none=>match P.und t0,P.und t1 with
      |some (.slice el),some (.slice _)=>match P.inf el with
       |some info=>match info.zero with
        |some z=>if t.size=info.size∧1≤info.bytes∧z.cells.size=info.size then
          match S zFG e.st [.bot,q, .tl t ys, .val (.int .i64 info.bytes)] with
          |some cx=>some (fun K=>Option.bind cx.m fun y=>match cx.res y with
           | .p d=>K (.call (cx.st y) false (.p d))
           |_=>none)
          |none=>none
         else none
        |none=>none
       |none=>none
      |_,_=>none
    |_,_=>none
   |_,_=>none
  |_=>none
 | .makeSlice t l c=>match evx G e l,evx G e c with
  | .p (.val (.int .i64 n)), .p (.val (.int .i64 _))=>if zNx l c then match P.und t with
   |some (.slice el)=>match P.inf el with
    |some info=>match info.zero,P.ty el with
     |some z,some ty=>match ty.dec (V.ofVal1 z) with
      |some x=>if 1≤info.bytes∧(V.ofVal1 z).cells.length=info.size∧info.size≠0∧ty.size=info.size then
        some (fun K=>Option.bind (news info.bytes n x) fun xs=>K (.ownT ty xs)) else none
      |none=>none
     |_,_=>none
    |none=>none
   |_=>none
   else none
  |_,_=>none
 |_=>none
def qXs (e:Env Γ.St) (o:Oper):Option (Kx Γ ρ):=
 match qX P G S e o with
 |some q=>some q
 |none=>match isCall o with
  |true=>none
  |false=>match evQ P G S.toS e o with
   |some r=>some (fun K=>K r)
   |none=>none
end
section
variable {Γ:Sig} {ρ:Type} {P:Program} {G:Nat→Option (List V)} {S:zL Γ} {e:Env Γ.St} {o:Oper}
theorem zFM {op:BinOp} {t t':TypeId} {x y:Operand} {k k':IntKind} {a b:Int} {v:Value} {dst:Option Tmp} {type:TypeId} {pos:String} {after:Array Edge} {guard:Option (Nat×Bool)} {S:qZ Γ}
  (hx:evx G e x= .p (.val (.int k a))) (hy:evx G e y= .p (.val (.int k' b))) (h:zX P (binOp op t (.int k a) (.int k' b))=some v):
  evQ P G S e ⟨dst, .binOp op t x y t',type,pos,after,guard⟩=some (.ret (.p (V.ofVal v))):=by
 have h1:zJu (St:=Γ.St) P op t (evx G e x) (evx G e y)=none:=by rw [hx];rfl
 have h2:zOa (St:=Γ.St) P op t (evx G e x) (evx G e y)=none:=by rw [hx];rfl
 simp only [evQ,h1,h2]
 refine zEM ?_ ?_
 ·simp [Op.operands,hx,hy,wB,V.toVal,V.toVal1]
 ·have hfx:(wB (evx G e x)).getD undef= .int k a:=by rw [hx];rfl
  have hfy:(wB (evx G e y)).getD undef= .int k' b:=by rw [hy];rfl
  simp only [execOp,hfx,hfy]
  have hg:eqGuard op t x y (.int k a) (.int k' b)=pure ():=by cases op<;>rfl
  rw [hg]
  have hb: ∀ (s:Sem Value),zX P s=some v→zX P (do let v←s;pure (Next.value v))=some (.value v):=by
   intro s
   induction s with
   |pure c=>intro hs;simp only [zX,Option.some.injEq] at hs;subst hs;rfl
   |program f ih=>intro hs;exact ih P hs
   |_=>intro hs;simp [zX] at hs
  exact hb _ h
theorem zJx {op:BinOp} {t t':TypeId} {x y:Operand} {a b:ByteArray} {v:Value} {dst:Option Tmp} {type:TypeId} {pos:String} {after:Array Edge} {guard:Option (Nat×Bool)} {S:qZ Γ}
  (hx:evx G e x= .p (.val (.string a))) (hy:evx G e y= .p (.val (.string b))) (h:zX P (binOp op t (.string a) (.string b))=some v):
  evQ P G S e ⟨dst, .binOp op t x y t',type,pos,after,guard⟩=some (.ret (.p (V.ofVal v))):=by
 have h1:zJu (St:=Γ.St) P op t (evx G e x) (evx G e y)=none:=by rw [hx];rfl
 have h2:zOa (St:=Γ.St) P op t (evx G e x) (evx G e y)=none:=by rw [hx];rfl
 simp only [evQ,h1,h2]
 refine zEM ?_ ?_
 ·simp [Op.operands,hx,hy,wB,V.toVal,V.toVal1]
 ·have hfx:(wB (evx G e x)).getD undef= .string a:=by rw [hx];rfl
  have hfy:(wB (evx G e y)).getD undef= .string b:=by rw [hy];rfl
  simp only [execOp,hfx,hfy]
  have hg:eqGuard op t x y (.string a) (.string b)=pure ():=by cases op<;>rfl
  rw [hg]
  have hb: ∀ (s:Sem Value),zX P s=some v→zX P (do let v←s;pure (Next.value v))=some (.value v):=by
   intro s
   induction s with
   |pure c=>intro hs;simp only [zX,Option.some.injEq] at hs;subst hs;rfl
   |program f ih=>intro hs;exact ih P hs
   |_=>intro hs;simp [zX] at hs
  exact hb _ h
theorem zLX (bs:ByteArray): ∀ (n i:Nat) (r:List UInt8),bs.size-i=n→ByteArray.toList.loop bs i r=r.reverse++bs.data.toList.drop i:=by
 intro n
 induction n with
 |zero=>
  intro i r h
  unfold ByteArray.toList.loop
  have hs:bs.size=bs.data.size:=rfl
  rw [if_neg (by omega),List.drop_eq_nil_of_le (by simp;omega),List.append_nil]
 |succ n ih=>
  intro i r h
  unfold ByteArray.toList.loop
  have hs:bs.size=bs.data.size:=rfl
  rw [if_pos (by omega),ih _ _ (by omega)]
  have hlt:i<bs.data.toList.length:=by simp;omega
  rw [List.drop_eq_getElem_cons hlt,List.reverse_cons,List.append_assoc]
  congr 1
  simp only [List.cons_append,List.nil_append]
  congr 1
  show bs.data[i]! =_
  simp only [Array.getElem_toList]
  exact getElem!_pos bs.data i (by omega)
theorem zCM (bs:ByteArray):bs.toList=bs.data.toList:=by
 unfold ByteArray.toList
 rw [zLX bs _ 0 [] rfl];rfl
theorem bytes_beq {a b:ByteArray} :(a==b)=true↔a=b:=by
 obtain ⟨a⟩:=a
 obtain ⟨b⟩:=b
 show (a==b)=true↔_
 rw [beq_iff_eq,ByteArray.mk.injEq]
instance:LawfulBEq ByteArray where
 eq_of_beq h:=bytes_beq.1 h
 rfl:=bytes_beq.2 rfl
theorem bytes_eq (a b:ByteArray):(a.toList==b.toList)=(a==b):=by
 rw [zCM,zCM]
 apply Bool.eq_iff_iff.2
 rw [beq_iff_eq,beq_iff_eq]
 constructor
 ·intro h;obtain ⟨⟨a⟩⟩:=a;obtain ⟨⟨b⟩⟩:=b;simp only at h;subst h;rfl
 ·intro h;rw [h]
theorem zNQ {op:BinOp} {t t':TypeId} {x y:Operand} {k:IntKind} {a b:Int} {q:Kx Γ ρ} {K:R Γ.St→Option ρ} {v:ρ} {dst:Option Tmp} {type:TypeId} {pos:String} {after:Array Edge} {guard:Option (Nat×Bool)} {S:qZ Γ}
  (hx:evx G e x= .p (.val (.int k a))) (hy:evx G e y= .p (.val (.int k b))) (h:zTW op k a b=some q) (hK:q K=some v) (h1:op≠ .shl) (h2:op≠ .shr):
  ∃r,evQ P G S e ⟨dst, .binOp op t x y t',type,pos,after,guard⟩=some r∧K r=some v:=by
 have fin: ∀u,zX P (binOp op t (.int k a) (.int k b))=some u→K (.ret (.p (V.ofVal u)))=some v→ ∃r,evQ P G S e ⟨dst, .binOp op t x y t',type,pos,after,guard⟩=some r∧K r=some v:=
  fun v hv hk=>⟨_,zFM hx hy hv,hk⟩
 have finI: ∀n,zX P (binOp op t (.int k a) (.int k b))=some (.int k n)→K (zJZ k n)=some v→ ∃r,evQ P G S e ⟨dst, .binOp op t x y t',type,pos,after,guard⟩=some r∧K r=some v:=fun n hv hk=>fin _ hv hk
 have finB: ∀c,zX P (binOp op t (.int k a) (.int k b))=some (.bool c)→K (zLa c)=some v→ ∃r,evQ P G S e ⟨dst, .binOp op t x y t',type,pos,after,guard⟩=some r∧K r=some v:=fun n hv hk=>fin _ hv hk
 have hkk: ∀s1 s2:Sem Value,(if k≠k then s1 else s2)=s2:=by intro s1 s2;simp
 cases op<;>simp only [zTW,bitsOf,Option.some.injEq,reduceCtorEq] at h<;>first|exact absurd rfl h1|exact absurd rfl h2|skip
 case quo=>
  subst h
  obtain ⟨hb,hK⟩:=wE.1 hK
  have hb:b≠0:=by simpa using hb
  refine finI (k.wrap (a.tdiv b)) ?_ hK
  simp only [binOp,hkk,Op.intDiv,if_neg hb];rfl
 case rem=>
  subst h
  obtain ⟨hb,hK⟩:=wE.1 hK
  have hb:b≠0:=by simpa using hb
  refine finI (a.tmod b) ?_ hK
  simp only [binOp,hkk,Op.intDiv,if_neg hb];rfl
 all_goals
  subst h
  first
   |(refine finI _ ?_ hK;simp only [binOp,hkk];rfl)
   |(refine finB _ ?_ hK;simp only [binOp,hkk];rfl)
theorem zGg {op:BinOp} {t t':TypeId} {x y:Operand} {k k':IntKind} {a b:Int} {q:Kx Γ ρ} {K:R Γ.St→Option ρ} {v:ρ} {dst:Option Tmp} {type:TypeId} {pos:String} {after:Array Edge} {guard:Option (Nat×Bool)} {S:qZ Γ}
  (hx:evx G e x= .p (.val (.int k a))) (hy:evx G e y= .p (.val (.int k' b))) (h:zK5 op k a b=some q) (hK:q K=some v):
  ∃r,evQ P G S e ⟨dst, .binOp op t x y t',type,pos,after,guard⟩=some r∧K r=some v:=by
 cases op<;>simp only [zK5,Option.some.injEq,reduceCtorEq] at h
 case shl=>
  subst h
  obtain ⟨hb,hK⟩:=wE.1 hK
  have hb:0≤b:=by simpa using hb
  refine ⟨_,zFM (v:= .int k (k.wrap (a*2^min b.toNat k.bits))) hx hy ?_,hK⟩
  simp only [binOp,Op.shift]
  rw [if_neg (by omega)];rfl
 case shr=>
  subst h
  obtain ⟨hb,hK⟩:=wE.1 hK
  have hb:0≤b:=by simpa using hb
  refine ⟨_,zFM (v:= .int k (a.fdiv (2^min b.toNat k.bits))) hx hy ?_,hK⟩
  simp only [binOp,Op.shift]
  rw [if_neg (by omega)];rfl
theorem bind_some {α β:Type} {x:Option α} {f:α→Option β} {v:β} (h:Option.bind x f=some v): ∃y,x=some y∧f y=some v:=by
 cases x with
 |none=>simp at h
 |some y=>exact ⟨y,rfl,by simpa using h⟩
theorem zGA {α:Type} {xs:List α} {i:Int} {y:α} (h:idx xs i=some y):0≤i∧xs[i.toNat]? =some y:=by
 unfold idx at h
 split at h
 ·exact ⟨by assumption,h⟩
 ·cases h
theorem zEP {d:Option T} {dflt top:Nat} {i:Int} (hw:zHG d dflt=some i) (h0:0≤i) (h1:i≤top):v8 d dflt top=some i.toNat:=by
 unfold zHG at hw
 split at hw
 ·simp only [Option.some.injEq] at hw;subst hw;rfl
 ·simp only [Option.some.injEq] at hw;subst hw
  simp only [v8,h0,h1,and_self,if_true]
 ·cases hw
theorem zQ3 {q:Kx Γ ρ} {K:R Γ.St→Option ρ} {v:ρ} (h:qX P G S e o=some q) (hK:q K=some v): ∃r,evQ P G S.toS e o=some r∧K r=some v:=by
 obtain ⟨dst,op,type,pos,after,guard⟩:=o
 cases op<;>simp only [qX,reduceCtorEq] at h
 case indexAddr t x ix=>
  split at h
  ·rename_i ty xs k0 i hx hix
   split at h
   ·rename_i el hu
    split at h
    ·rename_i hz
     simp only [Option.some.injEq] at h
     subst h
     obtain ⟨y,hy,hK⟩:=bind_some hK
     obtain ⟨h0,hg⟩:=zGA hy
     refine ⟨_,?_,hK⟩
     have hu':P.underlying t=some (.slice el):=hu
     simp only [evQ,hx,hix,vC,h0,if_true,hu',hz,hg]
    ·cases h
   ·cases h
  ·rename_i id ty xs k0 i hx hix
   split at h
   ·rename_i el hu
    split at h
    ·rename_i hz
     simp only [Option.some.injEq] at h
     subst h
     obtain ⟨y,hy,hK⟩:=bind_some hK
     obtain ⟨h0,hg⟩:=zGA hy
     have hlt:i.toNat<xs.length:=(List.getElem?_eq_some_iff.1 hg).1
     refine ⟨_,?_,hK⟩
     have hu':P.underlying t=some (.slice el):=hu
     simp only [evQ,hx,hix,vC,h0,if_true,hu',hz,hlt]
    ·cases h
   ·cases h
  ·rename_i n k0 i hx hix
   split at h
   ·rename_i el hu
    have hu':P.underlying t=some (.slice el):=hu
    split at h
    ·split at h
     ·rename_i hz
      simp only [Option.some.injEq] at h
      subst h
      obtain ⟨y,hy,hK⟩:=bind_some hK
      obtain ⟨h0,hg⟩:=zGA hy
      have hlt:=(List.getElem?_eq_some_iff.1 hg).1
      refine ⟨_,?_,hK⟩
      simp only [evQ,hx,hix,vC,xN,h0,if_true,hu',hz,hlt,and_self]
     ·cases h
    ·split at h
     ·rename_i hz
      simp only [Option.some.injEq] at h
      subst h
      obtain ⟨y,hy,hK⟩:=bind_some hK
      obtain ⟨h0,hg⟩:=zGA hy
      have hlt:=(List.getElem?_eq_some_iff.1 hg).1
      refine ⟨_,?_,hK⟩
      simp only [evQ,hx,hix,vC,xN,h0,if_true,hu',hz,hlt,and_self]
     ·cases h
    ·cases h
   ·cases h
  ·cases h
 case load t x=>
  split at h
  ·rename_i id ty xs i off hx
   simp only [Option.some.injEq] at h
   subst h
   obtain ⟨y,hg,h3⟩:=bind_some hK
   unfold atN at hg
   split at h3
   ·rename_i d hd
    refine ⟨_,?_,h3⟩
    simp only [evQ,hx,zC6,hg,hd,Option.map_some]
   ·cases h3
  ·rename_i id id2 ty xs j ys i hx
   split at h
   ·rename_i hagg
    simp only [Option.some.injEq] at h
    subst h
    obtain ⟨hc,hK⟩:=wE.1 hK
    simp only [decide_eq_true_eq] at hc
    refine ⟨_,?_,hK⟩
    simp only [evQ,hx,zC6,zIu,hc,hagg,and_self,if_true]
   ·cases h
  ·cases h
 case slice t x lo hi mx=>
  split at h
  ·rename_i ty xs hx
   split at h
   ·rename_i el hu
    split at h
    ·rename_i hz
     split at h
     ·rename_i hN hbh
      split at h
      ·rename_i lN hbl
       simp only [Option.some.injEq] at h
       subst h
       obtain ⟨ys,hys,hK⟩:=bind_some hK
       unfold sub at hys
       split at hys
       ·rename_i hc
        simp only [Option.some.injEq] at hys
        subst hys
        refine ⟨_,?_,hK⟩
        have hu':P.underlying t=some (.slice el):=hu
        have hb1:v8 (hi.map (evx G e)) xs.length xs.length=some hN.toNat:=zEP hbh (by omega) hc.2.2
        have hb2:v8 (lo.map (evx G e)) 0 hN.toNat=some lN.toNat:=zEP hbl hc.1 (by omega)
        simp only [evQ,hx,zCy,hu',hz,if_true,Option.map_none,hb1,hb2]
       ·cases hys
      ·cases h
     ·cases h
    ·cases h
   ·cases h
  ·rename_i id ty xs hx
   split at h
   ·rename_i el hu
    split at h
    ·rename_i hz
     split at h
     ·rename_i hN hbh
      split at h
      ·rename_i lN hbl
       simp only [Option.some.injEq] at h
       subst h
       obtain ⟨hc,hK⟩:=wE.1 hK
       simp only [Bool.and_eq_true,decide_eq_true_eq] at hc
       refine ⟨_,?_,hK⟩
       have hu':P.underlying t=some (.slice el):=hu
       have hb1:v8 (hi.map (evx G e)) xs.length xs.length=some hN.toNat:=zEP hbh (by omega) hc.2
       have hb2:v8 (lo.map (evx G e)) 0 hN.toNat=some lN.toNat:=zEP hbl hc.1.1 (by omega)
       simp only [evQ,hx,zCz,hu',hz,if_true,Option.map_none,hb1,hb2]
      ·cases h
     ·cases h
    ·cases h
   ·cases h
  ·cases h
 case index t x ix=>
  split at h
  ·rename_i s k0 i hx hix
   split at h
   ·rename_i hu
    simp only [Option.some.injEq] at h
    subst h
    obtain ⟨b,hb,hK⟩:=bind_some hK
    unfold byteAt at hb
    split at hb
    ·rename_i h0
     simp only [Option.map_eq_some_iff] at hb
     obtain ⟨b0,hg,rfl⟩:=hb
     refine ⟨_,?_,hK⟩
     have hfl:vY (St:=Γ.St) P G e ⟨dst, .index t x ix,type,pos,after,guard⟩=some (.ret (.p (V.ofVal (.int .u8 b0.toNat)))):=by
      refine zEM ?_ ?_
      ·simp [Op.operands,hx,hix,wB,V.toVal,V.toVal1]
      ·have hfx:(wB (evx G e x)).getD undef= .string s:=by rw [hx];rfl
       have hfy:(wB (evx G e ix)).getD undef= .int k0 i:=by rw [hix];rfl
       have hu':P.underlying t=some .string:=hu
       simp only [execOp,hfx,hfy,Instr.index,asIntOf]
       have hin:zX P (do
         let __x←pure (k0,i)
         let __do_lift←underlying t
         match __do_lift,Value.string s with
          |TypeDesc.array len elem,Value.agg cs=>
           if 0≤__x.snd∧__x.snd< ↑len then do
            let __do_lift←sizeOf elem
            part elem cs (__x.snd.toNat*__do_lift)
           else boundsPanic __x.fst __x.snd (↑len) BoundsCode.index
          |TypeDesc.string,Value.string s=>
           match if 0≤__x.snd then s[__x.snd.toNat]? else none with
           |some b=>pure (Value.int IntKind.u8 ↑b.toNat)
           |none=>boundsPanic __x.fst __x.snd (↑s.size) BoundsCode.index
          | x, x_1 => stuck "Index: array or string expected") = some (Value.int IntKind.u8 ↑b0.toNat) := by
        refine (zDU (s:=pure (k0,i)) rfl _).trans ?_
        refine (zDU (zGm hu') _).trans ?_
        simp only [h0,if_true,hg]
        rfl
       exact (zDU hin _).trans rfl
     simp only [evQ]
     exact hfl
    ·cases hb
   ·cases h
  ·cases h
 case binOp op t x y t'=>
  split at h
  ·rename_i k a k' b hx hy
   split at h
   ·exact zGg hx hy h hK
   ·exact zGg hx hy h hK
   ·rename_i h1 h2
    split at h
    ·rename_i hk
     subst hk
     exact zNQ hx hy h hK h1 h2
    ·cases h
  ·rename_i a b hx hy
   split at h
   ·simp only [Option.some.injEq] at h
    subst h
    refine ⟨_,zJx (v:= .bool (a==b)) hx hy ?_,hK⟩
    simp only [binOp]
    rw [←bytes_eq];rfl
   ·simp only [Option.some.injEq] at h
    subst h
    refine ⟨_,zJx (v:= .bool (a !=b)) hx hy ?_,hK⟩
    simp only [binOp,bne]
    rw [←bytes_eq];rfl
   ·cases h
  ·cases h
 case pick c x y=>
  split at h
  ·rename_i b u w hc hx hy
   have hall:((⟨dst, .pick c x y,type,pos,after,guard⟩:Oper).op.operands.toList.all (fun x=>(wB (evx G e x)).isSome))=true:=by
    simp [Op.operands,hx,hy];rw [hc];rfl
   have hfc:(wB (evx G e c)).getD undef= .bool b:=by rw [hc];rfl
   have hfx:(wB (evx G e x)).getD undef=u:=by rw [hx];rfl
   have hfy:(wB (evx G e y)).getD undef=w:=by rw [hy];rfl
   have hev:evQ P G S.toS e ⟨dst, .pick c x y,type,pos,after,guard⟩=some (.ret (.p (V.ofVal (if b then u else w)))):=by
    simp only [evQ]
    refine zEM hall ?_
    simp only [execOp,hfc,hfx,hfy]
    cases b<;>rfl
   split at h
   ·rename_i z hz
    simp only [Option.some.injEq] at h
    subst h
    refine ⟨_,hev,?_⟩
    have:V.ofVal (if b then u else w)= .val z:=by
     unfold zTk at hz
     split at hz
     ·simp only [Option.some.injEq] at hz;subst hz;cases b<;>rfl
     ·split at hz
      ·rename_i hk
       subst hk
       simp only [Option.some.injEq] at hz;subst hz;cases b<;>rfl
      ·cases hz
     ·cases hz
    rw [this];exact hK
   ·simp only [Option.some.injEq] at h
    subst h
    refine ⟨_,hev,?_⟩
    cases b<;>exact hK
  ·cases h
 case call c=>
  split at h
  ·rename_i f hcal
   split at h
   ·rename_i g caps ds hf hds
    split at h
    ·rename_i cx hS
     split at h
     ·cases h
     ·simp only [Option.some.injEq] at h
      subst h
      obtain ⟨y,hy,hK⟩:=bind_some hK
      split at hK
      ·cases hK
      ·rename_i hv
       refine ⟨_,?_,hK⟩
       simp only [evQ,zFL,hcal,hf,hds,zIw,zF9 hS hy,hv,Bool.false_eq_true,if_false]
    ·cases h
   ·cases h
  ·rename_i hcal
   split at h
   ·rename_i x0 x1 t0 t1 hargs htys
    split at h
    ·rename_i q t ys hx0 hx1
     split at h
     ·cases h
     ·rename_i hno
      split at h
      ·rename_i el el1 hu0 hu1
       split at h
       ·rename_i info hinfo
        split at h
        ·rename_i z hz
         split at h
         ·rename_i hok
          split at h
          ·rename_i cx hS
           simp only [Option.some.injEq] at h
           subst h
           obtain ⟨y,hy,hK⟩:=bind_some hK
           split at hK
           ·rename_i d hd
            refine ⟨_,?_,hK⟩
            have hno':P.funcs[zFG]? =none:=hno
            have hu0':P.underlying t0=some (.slice el):=hu0
            have hu1':P.underlying t1=some (.slice el1):=hu1
            have hinfo':P.info? el=some info:=hinfo
            have hsp:=zF9 hS hy
            rw [hd] at hsp
            simp only [evQ,zFL,hcal,zFK,hargs,htys,hx0,hx1,hno',hu0',hu1',hinfo',hz]
            rw [if_pos hok]
            simp only [hsp]
           ·cases hK
          ·cases h
         ·cases h
        ·cases h
       ·cases h
      ·cases h
    ·cases h
   ·cases h
  ·cases h
 case makeSlice t l c=>
  split at h
  ·rename_i n m hl hc
   split at h
   ·rename_i hsame
    have hlc:=zPr hsame
    subst hlc
    rw [hl] at hc
    simp only [T.p.injEq,V.val.injEq,Value.int.injEq,true_and] at hc
    split at h
    ·rename_i el hu
     split at h
     ·rename_i info hi
      split at h
      ·rename_i z ty hz hty
       split at h
       ·rename_i x hx
        split at h
        ·rename_i hcond
         obtain ⟨c1,c2,c3,c4⟩:=hcond
         simp only [Option.some.injEq] at h
         subst h
         obtain ⟨xs,hxs,hK⟩:=bind_some hK
         unfold news at hxs
         split at hxs
         ·rename_i hb
          simp only [Option.some.injEq] at hxs
          subst hxs
          refine ⟨_,?_,hK⟩
          have hu':P.underlying t=some (.slice el):=hu
          have hi':P.info? el=some info:=hi
          have hty':zMV P el=some ty:=hty
          have hcc:0≤n∧n*info.bytes≤140737488355328∧1≤info.bytes∧(V.ofVal1 z).cells.length=info.size∧info.size≠0:=⟨hb.1,hb.2,c1,c2,c3⟩
          simp only [evQ,hl,yR,hu',hi',hz,hty',hx,if_true]
          rw [if_pos hcc,if_pos c4]
         ·cases hxs
        ·cases h
       ·cases h
      ·cases h
     ·cases h
    ·cases h
   ·cases h
  ·cases h
theorem zEy {q:Kx Γ ρ} {K:R Γ.St→Option ρ} {v:ρ} (h:qXs P G S e o=some q) (hK:q K=some v): ∃r,evQ P G S.toS e o=some r∧K r=some v:=by
 unfold qXs at h
 split at h
 ·rename_i q' hq
  simp only [Option.some.injEq] at h
  subst h
  exact zQ3 hq hK
 ·split at h
  ·cases h
  ·split at h
   ·rename_i r hr
    simp only [Option.some.injEq] at h
    subst h
    exact ⟨r,hr,hK⟩
   ·cases h
end
end Go.Ve

namespace Go.Ve
open Go
section
variable {β:Type}
def kL {α:Type} (f:α→(α→β)→β):List α→(List α→β)→β
 |[],k=>k []
 |x::r,k=>f x (fun x=>kL f r (fun r=>k (x::r)))
def zUl:Value→(Value→β)→β
 | .int q n,k=>k (.int q n)
 | .bool b,k=>k (.bool b)
 | .string s,k=>k (.string s)
 |v,k=>k v
def kV:Nat→V→(V→β)→β
 |0,d,k=>k d
 |_+1, .val v,k=>zUl v (fun v=>k (.val v))
 |n+1, .agg cs,k=>kL (kV n) cs (fun cs=>k (.agg cs))
 |n+1, .sl cs,k=>kL (kV n) cs (fun cs=>k (.sl cs))
 |n+1, .tup cs,k=>kL (kV n) cs (fun cs=>k (.tup cs))
 |n+1, .pp cs,k=>kL (kV n) cs (fun cs=>k (.pp cs))
 |n+1, .clo f cs,k=>kL (kV n) cs (fun cs=>k (.clo f cs))
 |_+1, .tl t xs,k=>k (.tl t xs)
 |_+1, .rf o,k=>k (.rf o)
 |_+1, .hd o,k=>k (.hd o)
 |_+1, .bot,k=>k .bot
def kT:T→(T→β)→β
 | .p d,k=>kV 6 d (fun d=>k (.p d))
 | .ow i q es,k=>kL (kV 6) es (fun es=>k (.ow i q es))
 | .oe i q es j off,k=>kL (kV 6) es (fun es=>k (.oe i q es j off))
 | .lp s off,k=>k (.lp s off)
 | .mp i es ck,k=>k (.mp i es ck)
 | .ot i t xs,k=>k (.ot i t xs)
 | .oet i t xs j off,k=>k (.oet i t xs j off)
 | .ov i t xs j off,k=>k (.ov i t xs j off)
 | .on n,k=>k (.on n)
 | .emp,k=>k .emp
 | .dead,k=>k .dead
def kO:Option (List T)→(Option (List T)→β)→β
 |none,k=>k none
 |some cs,k=>kL kT cs (fun cs=>k (some cs))
def zBm {St:Type} (e:Env St) (k:Env St→β):β:=
 match e with
 |⟨tm,vars,st⟩=>kL kT tm (fun tm=>kL kO vars (fun vars=>k ⟨tm,vars,st⟩))
def kAt {α:Type} (f:α→(α→β)→β):Nat→List α→(List α→β)→β
 |_,[],k=>k []
 |0,x::r,k=>f x (fun x=>k (x::r))
 |n+1,x::r,k=>kAt f n r (fun r=>k (x::r))
def zFD {St:Type} (d:Nat) (e:Env St) (k:Env St→β):β:=
 match e with
 |⟨tm,vars,st⟩=>kAt kT d tm (fun tm=>k ⟨tm,vars,st⟩)
def kOp {St:Type} (o:Oper) (e:Env St) (k:Env St→β):β:=
 match o.op with
 | .move _| .assign _| .load _ _| .field _ _ _| .fieldAddr _ _ _| .indexAddr _ _ _| .index _ _ _| .binOp _ _ _ _ _| .unOp _ _ _| .convert _ _ _| .pick _ _ _| .extract _ _| .nilCheck _=>match o.dst with
  |some d=>zFD d e k
  |none=>zBm e k
 | .call c=>match c.callee,o.dst with
  | .builtin .len,some d=>zFD d e k
  | .builtin .min,some d=>zFD d e k
  | .builtin .max,some d=>zFD d e k
  |_,_=>zBm e k
 |_=>zBm e k
theorem zKA {α:Type} {f:α→(α→β)→β} (hf: ∀x k,f x k=k x): ∀ (l:List α) (k:List α→β),kL f l k=k l:=by
 intro l
 induction l with
 |nil=>intro k;rfl
 |cons x l ih=>intro k;simp only [kL,hf,ih]
theorem zSI (v:Value) (k:Value→β):zUl v k=k v:=by cases v<;>rfl
theorem zRo: ∀ (n:Nat) (d:V) (k:V→β),kV n d k=k d:=by
 intro n
 induction n with
 |zero=>intro d k;rfl
 |succ n ih=>
  intro d k
  cases d<;>simp only [kV]
  ·exact zSI _ _
  all_goals (first|exact zKA ih _ _|rfl)
theorem zRp (x:T) (k:T→β):kT x k=k x:=by
 cases x<;>simp only [kT]
 ·exact zRo _ _ _
 ·exact zKA (zRo 6) _ _
 ·exact zKA (zRo 6) _ _
theorem zUm (x:Option (List T)) (k:Option (List T)→β):kO x k=k x:=by
 cases x with
 |none=>rfl
 |some cs=>simp only [kO];exact zKA zRp _ _
theorem vP {St:Type} (e:Env St) (k:Env St→β):zBm e k=k e:=by
 obtain ⟨tm,vars,st⟩:=e
 simp only [zBm]
 rw [zKA zRp,zKA zUm]
theorem zTS {α:Type} {f:α→(α→β)→β} (hf: ∀x k,f x k=k x): ∀ (n:Nat) (l:List α) (k:List α→β),kAt f n l k=k l:=by
 intro n l
 induction l generalizing n with
 |nil=>intro k;cases n<;>rfl
 |cons x l ih=>
  intro k
  cases n with
  |zero=>simp only [kAt,hf]
  |succ n=>simp only [kAt];exact ih n _
theorem zEE {St:Type} (d:Nat) (e:Env St) (k:Env St→β):zFD d e k=k e:=by
 obtain ⟨tm,vars,st⟩:=e
 simp only [zFD]
 rw [zTS zRp]
theorem zLm {St:Type} (o:Oper) (e:Env St) (k:Env St→β):kOp o e k=k e:=by
 unfold kOp
 repeat' split
 all_goals (first|exact zEE _ _ _|exact vP _ _)
end
structure Agree {St:Type} (m:Nat) (e e1:Env St):Prop where
 tl:e1.tm.length=e.tm.length
 vl:e1.vars.length=e.vars.length
 p: ∀t d,m.testBit (2*t)=false→e.get t= .p d→e1.get t= .p d
 lp: ∀t s off,m.testBit (2*t)=false→m.testBit (2*s)=false→e.get t= .lp s off→e1.get t= .lp s off
 v: ∀s (ds:List V),m.testBit (2*s)=false→m.testBit (2*s+1)=false→e.var s=some (ds.map T.p)→e1.var s=some (ds.map T.p)
section
variable {St:Type} {e e1 e2:Env St} {m n:Nat}
theorem wM (m n t:Nat):(m|||n).testBit t=false↔m.testBit t=false∧n.testBit t=false:=by
 rw [Nat.testBit_or,Bool.or_eq_false_iff]
theorem zIx (s t:Nat):(2^s).testBit t=false↔t≠s:=by
 rw [Nat.testBit_two_pow,decide_eq_false_iff_not]
 exact ⟨fun h h'=>h h'.symm,fun h h'=>h h'.symm⟩
theorem zBs (s t:Nat):(2^(2*s)).testBit (2*t)=false↔t≠s:=by
 rw [zIx];omega
theorem zR0 (s t:Nat):(2^(2*s+1)).testBit (2*t+1)=false↔t≠s:=by
 rw [zIx];omega
theorem Agree.refl (e:Env St):Agree 0 e e:=⟨rfl,rfl,fun _ _ _ h=>h,fun _ _ _ _ _ h=>h,fun _ _ _ _ h=>h⟩
theorem Agree.mono (h:Agree m e e1) (hm: ∀t,n.testBit t=false→m.testBit t=false):Agree n e e1:=
 ⟨h.tl,h.vl,fun t d ht=>h.p t d (hm _ ht),fun t s off ht hs=>h.lp t s off (hm _ ht) (hm _ hs),fun s ds hs hs'=>h.v s ds (hm _ hs) (hm _ hs')⟩
theorem Agree.same (h:Agree m e e1) (k:Agree m e1 e2):Agree m e e2:=
 ⟨k.tl.trans h.tl,k.vl.trans h.vl,fun t d ht hd=>k.p t d ht (h.p t d ht hd),fun t s off ht hs hd=>k.lp t s off ht hs (h.lp t s off ht hs hd),fun s ds hs hs' hd=>k.v s ds hs hs' (h.v s ds hs hs' hd)⟩
theorem Agree.trans (h:Agree m e e1) (k:Agree n e1 e2):Agree (m|||n) e e2:=
 (h.mono (fun t ht=>((wM m n t).1 ht).1)).same (k.mono (fun t ht=>((wM m n t).1 ht).2))
def zSa (f:T→T):Prop:=(∀d,f (.p d)= .p d)∧(∀s off,f (.lp s off)= .lp s off)∧f .dead= .dead
theorem yL {f:T→T} (hf:zSa f) (e:Env St):Agree 0 e (e.mapT f):=by
 refine ⟨by simp [Env.mapT],by simp [Env.mapT],?_,?_,?_⟩
 ·intro t d _ h;rw [qH hf.2.2,h,hf.1]
 ·intro t s off _ _ h;rw [qH hf.2.2,h,hf.2.1]
 ·intro s ds _ _ h
  rw [zS,h]
  simp [hf.1,Function.comp_def]
theorem zF0 (d:Nat) (e:Env St):Agree (2^(2*d)) e (e.kill d):=by
 refine ⟨by simp [Env.kill],by simp [Env.kill],?_,?_,?_⟩
 ·intro t x _ h;rw [zC3,h];rfl
 ·intro t s off _ hs h
  rw [zC3,h]
  simp only [zO]
  rw [if_neg ((zBs d s).1 hs)]
 ·intro s ds hs _ h
  rw [vQ,if_neg ((zBs d s).1 hs),h]
  simp [zO,Function.comp_def]
theorem zKE (e:Env St) (d t:Nat) (x:T) (h:t≠d):({ e with tm:=e.tm.set d x } :Env St).get t=e.get t:=by
 simp only [Env.get,List.getD_eq_getElem?_getD]
 rw [List.getElem?_set_ne (fun h'=>h h'.symm)]
theorem zBd (d:Nat) (x:T) (e:Env St):Agree (2^(2*d)) e { e with tm:=e.tm.set d x } :=by
 refine ⟨by simp,rfl,?_,?_,?_⟩
 ·intro t y ht h;rw [zKE e d t x ((zBs d t).1 ht)];exact h
 ·intro t s off ht _ h;rw [zKE e d t x ((zBs d t).1 ht)];exact h
 ·intro s ds _ _ h;exact h
theorem zGP (s:St) (e:Env St):Agree 0 e { e with st:=s } :=⟨rfl,rfl,fun _ _ _ h=>h,fun _ _ _ _ _ h=>h,fun _ _ _ _ h=>h⟩
theorem zLQ (e:Env St) (s t:Nat) (x:Option (List T)) (h:t≠s):({ e with vars:=e.vars.set s x } :Env St).var t=e.var t:=by
 simp only [Env.var]
 rw [List.getElem?_set_ne (fun h'=>h h'.symm)]
theorem zJN (s:Nat) (x:Option (List T)) (e:Env St):Agree (2^(2*s+1)) e { e with vars:=e.vars.set s x } :=by
 refine ⟨rfl,by simp,fun _ _ _ h=>h,fun _ _ _ _ _ h=>h,?_⟩
 intro t ds _ ht h
 rw [zLQ e s t x ((zR0 s t).1 ht)];exact h
theorem zH3 (s:Nat) (x:Option (List T)) (e:Env St):Agree (2^(2*s)) e { e with vars:=e.vars.set s x } :=by
 refine ⟨rfl,by simp,fun _ _ _ h=>h,fun _ _ _ _ _ h=>h,?_⟩
 intro t ds ht _ h
 rw [zLQ e s t x ((zBs s t).1 ht)];exact h
def xS:Option Nat→Nat
 |some d=>2^(2*d)
 |none=>0
theorem zFY (e:Env St) (d:Nat) (r:R St):Agree (2^(2*d)) e (e.setR d r):=by
 unfold Env.setR
 split
 ·rename_i cs
  exact ((zH3 d (some cs) e).same (zBd d (.lp d 0) _)).mono (fun _ h=>h)
 ·rename_i st v rv
  exact ((zGP st e).trans (zBd d (rvT d rv) _)).mono (fun t h=>by rw [wM];exact ⟨by simp,h⟩)
 ·exact zBd d _ e
theorem uN (e:Env St) (d:Option Nat) (x:T):Agree (xS d) e (e.put d x):=by
 cases d with
 |none=>exact Agree.refl e
 |some d=>exact zBd d x e
theorem zDm {dst:Option Tmp} {r:R St} (h:kB e dst r=some e1):Agree (xS dst) e e1:=by
 unfold kB at h
 split at h
 ·rename_i d
  split at h
  ·split at h
   ·simp only [Option.some.injEq] at h;subst h
    exact (zF0 d e).same (zFY _ d _)
   ·cases h
  ·simp only [Option.some.injEq] at h;subst h
   exact zFY e d r
 ·split at h
  ·simp only [Option.some.injEq] at h;subst h;exact Agree.refl _
  ·simp only [Option.some.injEq] at h;subst h;exact zGP _ _
  ·cases h
theorem zLD {dst:Option Tmp} {r:R St} (h:zHI e dst r=some e1):Agree (xS dst) e e1:=by
 unfold zHI at h
 split at h
 ·rename_i d
  split at h
  ·simp only [Option.some.injEq] at h;subst h
   exact zFY e d r
  ·cases h
 ·split at h
  ·simp only [Option.some.injEq] at h;subst h;exact Agree.refl _
  ·simp only [Option.some.injEq] at h;subst h;exact zGP _ _
  ·cases h
end
def T.bits:T→Nat
 | .lp s _=>2^(2*s)
 | .ow i _ _=>2^(2*i)
 | .oe i _ _ _ _=>2^(2*i)
 | .mp i _ _=>2^(2*i)
 | .ot i _ _=>2^(2*i)
 | .oet i _ _ _ _=>2^(2*i)
 | .ov i _ _ _ _=>2^(2*i)
 | .on n=>2^(2*n.id)
 |_=>0
def zKD (i:Nat):Nat:=
 match Nat.beq i qA with
 |true=>0
 |false=>2^(2*i)
def T.fbits:T→Nat
 | .lp s _=>2^(2*s)
 | .ow i _ _=>zKD i
 | .oe i _ _ _ _=>zKD i
 | .mp i _ _=>zKD i
 | .ot i _ _=>zKD i
 | .oet i _ _ _ _=>zKD i
 | .ov i _ _ _ _=>zKD i
 |_=>0
section
variable {Γ:Sig} (G:Nat→Option (List V))
def qV (e:Env Γ.St) (o:Oper):Nat:=
 xS o.dst|||match o.op with
 | .store _ ap _=>match evx G e ap with
  | .lp s _=>2^(2*s+1)
  |_=>0
 | .call c=>match c.callee,c.args.toList with
  | .builtin .append,x::_=>(evx G e x).bits
  |_,_=>0
 |_=>0
def zIF:List Operand→Env Γ.St→Nat
 |[],_=>0
 |x::r,e=>(evx G e x).fbits|||zIF r (frzT1 (evx G e x) e)
end
section
variable {Γ:Sig} {P:qK} {G:Nat→Option (List V)} {e e1:Env Γ.St} {o:Oper}
theorem zPS (id:Nat):zSa (yP id):=⟨fun _=>rfl,fun _ _=>rfl,rfl⟩
theorem yV (id:Nat) (e:Env Γ.St):Agree 0 e (frzOE id e):=by
 unfold frzOE
 split
 ·exact Agree.refl e
 ·exact yL (zPS _) e
theorem zBt: ∀ (cs:List T) (e:Env Γ.St),Agree 0 e (frzCells e cs):=by
 intro cs
 induction cs with
 |nil=>intro e;exact Agree.refl e
 |cons x r ih=>
  intro e
  cases x<;>simp only [frzCells]<;>first|exact ih e|exact (yV _ e).same (ih _)
theorem zOw (s:Nat) (ds:List V) (e:Env Γ.St):Agree (2^(2*s)) e (e.frzV s ds):=by
 unfold Env.frzV
 refine (zH3 s none e).same ?_
 refine ⟨by simp [Env.mapT],by simp [Env.mapT],?_,?_,?_⟩
 ·intro t d _ h;rw [qH rfl,h];rfl
 ·intro t s' off _ hs h
  rw [qH rfl,h]
  simp only [zHT]
  rw [if_neg ((zBs s s').1 hs)]
 ·intro s' xs _ _ h
  rw [zS,h]
  simp [zHT,Function.comp_def]
theorem zNg (x:T) (e:Env Γ.St):Agree x.fbits e (frzT1 x e):=by
 have z: ∀ {m:Nat} {e e1:Env Γ.St},Agree 0 e e1→Agree m e e1:=fun h=>h.mono (fun t _=>by simp)
 unfold frzT1
 split
 ·exact z (yV _ e)
 ·exact z (yV _ e)
 ·exact z (yV _ e)
 ·rename_i s off
  split
  ·split
   ·split
    ·exact (z (zBt _ e)).same (zOw s _ _)
    ·exact z (zBt _ e)
   ·exact z (zBt _ e)
  ·exact z (Agree.refl e)
 ·exact z (Agree.refl e)
theorem zDl: ∀ (xs:List Operand) (e:Env Γ.St),Agree (zIF G xs e) e (frzOps G xs e):=by
 intro xs
 induction xs with
 |nil=>intro e;exact Agree.refl e
 |cons x r ih=>intro e;exact (zNg _ e).trans (ih _)
theorem zKR (h:evW P G e o=some e1):Agree (qV G e o) e e1:=by
 have z: ∀ {m:Nat} {e e1:Env Γ.St},Agree 0 e e1→Agree m e e1:=fun h=>h.mono (fun t _=>by simp)
 obtain ⟨dst,op,type,pos,after,guard⟩:=o
 cases op<;>simp only [evW,reduceCtorEq] at h
 case store t ap x=>
  split at h
  ·cases h
  ·split at h
   ·rename_i s off hap
    unfold zCx at h
    split at h
    ·split at h
     ·simp only [Option.some.injEq] at h;subst h
      refine (zJN s _ e).mono ?_
      intro t ht
      simp only [qV,wM,hap] at ht
      exact ht.2
     ·cases h
    ·cases h
   ·split at h
    ·unfold zAx at h
     split at h
     ·split at h
      ·simp only [Option.some.injEq] at h;subst h
       exact z (yL ⟨fun _=>rfl,fun _ _=>rfl,rfl⟩ e)
      ·cases h
     ·cases h
    ·cases h
   ·split at h
    ·unfold zBp at h
     split at h
     ·split at h
      ·split at h
       ·simp only [Option.some.injEq] at h;subst h
        exact z (yL ⟨fun _=>rfl,fun _ _=>rfl,rfl⟩ e)
       ·cases h
      ·cases h
     ·cases h
    ·unfold zAg at h
     split at h
     ·split at h
      ·simp only [Option.some.injEq] at h;subst h
       exact z (yL ⟨fun _=>rfl,fun _ _=>rfl,rfl⟩ e)
      ·cases h
     ·cases h
    ·cases h
   ·split at h
    ·unfold xM at h
     split at h
     ·split at h
      ·split at h
       ·split at h
        ·simp only [Option.some.injEq] at h;subst h
         exact z (yL ⟨fun _=>rfl,fun _ _=>rfl,rfl⟩ e)
        ·cases h
       ·cases h
      ·cases h
     ·cases h
    ·cases h
   ·cases h
 case call c=>
  have key: ∀ (x0 x1:Operand) (d id:Nat) (y:T),c.callee= .builtin .append→c.args.toList=[x0,x1]→dst=some d→(id=d∨(evx G e x0).bits=2^(2*id))→
    Agree (qV G e ⟨dst, .call c,type,pos,after,guard⟩) e { (e.kill id) with tm:=(e.kill id).tm.set d y } :=by
   intro x0 x1 d id y hc ha hd hid
   have hs:=(zF0 id e).trans (zBd d y (e.kill id))
   refine hs.mono ?_
   intro t ht
   simp only [qV,hc,ha,hd,xS,wM] at ht
   rw [wM]
   refine ⟨?_,ht.1⟩
   rcases hid with rfl|hid
   ·exact ht.1
   ·rw [←hid];exact ht.2
  split at h
  ·rename_i e2 he2
   simp only [Option.some.injEq] at h;subst h
   unfold jC at he2
   split at he2
   ·rename_i x0 x1 t0 t1 d hcal hargs htys
    split at he2
    ·split at he2
     ·split at he2
      ·split at he2
       ·rename_i nm xs hdst
        split at he2
        ·split at he2
         ·simp only [Option.some.injEq] at he2;subst he2
          refine key x0 x1 d _ _ hcal hargs rfl ?_
          unfold zMS at hdst
          split at hdst
          ·simp only [Option.some.injEq,Prod.mk.injEq] at hdst;rw [←hdst.1];exact .inl rfl
          ·simp only [Option.some.injEq,Prod.mk.injEq] at hdst;rw [←hdst.1];exact .inl rfl
          ·rename_i heq
           split at hdst
           ·simp only [Option.some.injEq,Prod.mk.injEq] at hdst
            rw [←hdst.1,heq];exact .inr rfl
           ·cases hdst
          ·cases hdst
         ·cases he2
        ·cases he2
       ·cases he2
      ·cases he2
     ·cases he2
    ·cases he2
   ·cases he2
  ·split at h
   ·rename_i e2 he2
    simp only [Option.some.injEq] at h;subst h
    unfold wF at he2
    split at he2
    ·rename_i p x1 t0 t1 d hcal hargs htys _
     split at he2
     ·split at he2
      ·split at he2
       ·split at he2
        ·rename_i id t' xs hi hget
         split at he2
         ·cases he2
         ·split at he2
          ·split at he2
           ·split at he2
            ·simp only [Option.some.injEq] at he2;subst he2
             refine key (.tmp p) x1 d _ _ hcal hargs rfl (.inr ?_)
             have:evx G e (.tmp p)= .ov id t' xs 0 hi:=hget
             rw [this];rfl
            ·cases he2
           ·cases he2
          ·cases he2
        ·cases he2
       ·cases he2
      ·cases he2
     ·cases he2
    ·cases he2
   ·unfold uD qT at h
    split at h
    ·rename_i x0 x1 t0 t1 d hcal hargs htys hnone hnone2
     split at h
     ·split at h
      ·split at h
       ·split at h
        ·split at h
         ·rename_i id k es heq
          split at h
          ·simp only [Option.some.injEq] at h;subst h
           exact key x0 x1 d _ _ hcal hargs rfl (.inr (by rw [heq];rfl))
          ·cases h
         ·split at h
          ·split at h
           ·cases h
           ·cases h
           ·split at h
            ·simp only [Option.some.injEq] at h;subst h
             refine (uN e (some d) _).mono ?_
             intro t ht
             simp only [qV,wM] at ht
             exact ht.1
            ·split at h
             ·simp only [Option.some.injEq] at h;subst h
              exact key x0 x1 d d _ hcal hargs rfl (.inl rfl)
             ·cases h
          ·cases h
        ·cases h
       ·cases h
      ·cases h
     ·cases h
    ·cases h
 case mapUpdate t m k v=>
  split at h
  ·cases h
  ·split at h
   ·unfold zKJ at h
    split at h
    ·simp only [Option.some.injEq] at h;subst h
     exact z (yL ⟨fun _=>rfl,fun _ _=>rfl,rfl⟩ e)
    ·cases h
   ·cases h
end
end Go.Ve

namespace Go.Ve
open Go
section
variable {St:Type}
def form (e:Env St) (f:T→T) (V:List (Option (List T))) (dst:Option Nat) (y:T) (st:St):Env St:=
 ⟨match dst with
  |some d=>(e.tm.map f).set d y
  |none=>e.tm.map f,V,st⟩
structure Leaves (m:Nat) (f:T→T):Prop where
 p: ∀d,f (.p d)= .p d
 dead:f .dead= .dead
 lp: ∀s off,m.testBit (2*s)=false→f (.lp s off)= .lp s off
theorem Leaves.id (m:Nat):Leaves m (fun x=>x):=⟨fun _=>rfl,rfl,fun _ _ _=>rfl⟩
theorem Leaves.mono {m n:Nat} {f:T→T} (h:Leaves m f) (hm: ∀t,n.testBit t=false→m.testBit t=false):Leaves n f:=
 ⟨h.p,h.dead,fun s off hs=>h.lp s off (hm _ hs)⟩
theorem Leaves.kill (d:Nat):Leaves (2^(2*d)) (zO d):=
 ⟨fun _=>rfl,rfl,fun s off hs=>by simp only [zO];rw [if_neg ((zBs d s).1 hs)]⟩
structure Alike (e b:Env St):Prop where
 vars:e.vars=b.vars
 st:e.st=b.st
 len:e.tm.length=b.tm.length
theorem Alike.var {e b:Env St} (h:Alike e b) (s:Nat):e.var s=b.var s:=by simp only [Env.var,h.vars]
theorem zSO (e b:Env St) (h:Alike e b) (y:T):form e (fun x=>x) b.vars none y b.st=e:=by
 obtain ⟨tm,vars,st⟩:=e
 have h1:=h.vars
 have h2:=h.st
 simp only at h1 h2
 subst h1 h2
 simp [form]
theorem zNa {b b1:Env St} {dst:Option Tmp} {r:R St} (h:kB b dst r=some b1):
  ∃f V y st,Leaves (xS dst) f∧ ∀e,Alike e b→kB e dst r=some (form e f V dst y st):=by
 unfold kB at h
 split at h
 ·rename_i d
  split at h
  ·rename_i hn
   split at h
   ·rename_i hlt
    have go: ∀ (V:List (Option (List T))→List (Option (List T))) (y:T) (st:St→St),(∀e:Env St,(e.kill d).setR d (zHS d r)=⟨(e.tm.map (zO d)).set d y,V e.vars,st e.st⟩)→
      ∃f V y st,Leaves (xS (some d)) f∧ ∀e,Alike e b→kB e (some d) r=some (form e f V (some d) y st):=by
     intro V y st hk
     refine ⟨zO d,V b.vars,y,st b.st,Leaves.kill d,?_⟩
     intro e he
     simp only [kB,hn,if_true]
     rw [if_pos (by rw [he.vars];exact hlt),hk e,he.vars,he.st]
     rfl
    cases r with
    |var cs=>exact go (fun vs=>((vs.set d none).map (fun c=>c.map (List.map (zO d)))).set d (some (cs.map (zO d)))) (.lp d 0) (fun s=>s) (fun e=>rfl)
    |call st v rv=>exact go (fun vs=>(vs.set d none).map (fun c=>c.map (List.map (zO d)))) (rvT d rv) (fun _=>st) (fun e=>rfl)
    |ret x=>exact go (fun vs=>(vs.set d none).map (fun c=>c.map (List.map (zO d)))) _ (fun s=>s) (fun e=>rfl)
    |own k es=>exact go (fun vs=>(vs.set d none).map (fun c=>c.map (List.map (zO d)))) _ (fun s=>s) (fun e=>rfl)
    |frz es=>exact go (fun vs=>(vs.set d none).map (fun c=>c.map (List.map (zO d)))) _ (fun s=>s) (fun e=>rfl)
    |mk=>exact go (fun vs=>(vs.set d none).map (fun c=>c.map (List.map (zO d)))) _ (fun s=>s) (fun e=>rfl)
    |frzT t xs=>exact go (fun vs=>(vs.set d none).map (fun c=>c.map (List.map (zO d)))) _ (fun s=>s) (fun e=>rfl)
    |ownT t xs=>exact go (fun vs=>(vs.set d none).map (fun c=>c.map (List.map (zO d)))) _ (fun s=>s) (fun e=>rfl)
   ·cases h
  ·rename_i hn
   have go: ∀ (y:T) (st:St→St),(∀e:Env St,e.setR d r=⟨e.tm.set d y,e.vars,st e.st⟩)→
     ∃f V y st,Leaves (xS (some d)) f∧ ∀e,Alike e b→kB e (some d) r=some (form e f V (some d) y st):=by
    intro y st hk
    refine ⟨fun x=>x,b.vars,y,st b.st,Leaves.id _,?_⟩
    intro e he
    simp only [kB,hn,if_false]
    rw [hk e, ←he.vars, ←he.st]
    simp [form]
   cases r with
   |ret x=>exact go _ (fun s=>s) (fun e=>rfl)
   |call st v rv=>exact go (rvT d rv) (fun _=>st) (fun e=>rfl)
   |_=>exact absurd rfl hn
 ·split at h
  ·exact ⟨fun x=>x,b.vars, .dead,b.st,Leaves.id _,fun e he=>by simp only [kB];rw [zSO e b he]⟩
  ·rename_i st v x
   refine ⟨fun x=>x,b.vars, .dead,st,Leaves.id _,fun e he=> ?_⟩
   simp only [kB, ←he.vars]
   simp [form]
  ·cases h
end
section
variable {Γ:Sig} {P:qK} {G:Nat→Option (List V)} {S:qZ Γ} {b b1:Env Γ.St} {o:Oper}
structure Same (G:Nat→Option (List V)) (e b:Env Γ.St) (o:Oper):Prop where
 al:Alike e b
 ops: ∀x,x∈o.op.operands→evx G e x=evx G b x
theorem zKL (h:zGE P G S b o=some b1): ∃f V y st,Leaves (qV G b o) f∧ ∀e,Same G e b o→zGE P G S e o=some (form e f V o.dst y st):=by
 unfold zGE at h
 split at h
 ·rename_i r hr
  obtain ⟨f,V,y,st,h1,h2⟩:=zNa h
  refine ⟨f,V,y,st,h1.mono (fun t ht=>by simp only [qV,wM] at ht;exact ht.1),fun e he=> ?_⟩
  have:evQ P G S e o=some r:=by
   rw [←hr]
   exact zHy he.ops (fun x _ s off _=>he.al.var s) he.al.st
  simp only [zGE,this,h2 e he.al]
 ·cases h
theorem zCu (f:T→T) {e b:Env Γ.St} (h:Alike e b) (y:T):e.mapT f=form e f (b.vars.map (fun c=>c.map (List.map f))) none y b.st:=by
 simp only [Env.mapT,form,h.vars,h.st]
theorem zA3 {e b:Env Γ.St} (h:Alike e b) (id d:Nat) (y:T):
  ({ (e.kill id) with tm:=(e.kill id).tm.set d y } :Env Γ.St)=form e (zO id) ((b.vars.set id none).map (fun c=>c.map (List.map (zO id)))) (some d) y b.st:=by
 simp only [Env.kill,form,h.vars,h.st]
theorem zRK (h:evW P G b o=some b1): ∃f V y st,Leaves (qV G b o) f∧ ∀e,Same G e b o→evW P G e o=some (form e f V o.dst y st):=by
 obtain ⟨dst,op,type,pos,after,guard⟩:=o
 cases op<;>simp only [evW,reduceCtorEq] at h
 case store t ap x=>
  have hap: ∀e,Same G e b ⟨dst, .store t ap x,type,pos,after,guard⟩→evx G e ap=evx G b ap:=fun e he=>he.ops ap (by simp [Op.operands])
  have hx: ∀e,Same G e b ⟨dst, .store t ap x,type,pos,after,guard⟩→evx G e x=evx G b x:=fun e he=>he.ops x (by simp [Op.operands])
  split at h
  ·cases h
  ·split at h
   ·rename_i s off hp
    unfold zCx at h
    split at h
    ·rename_i cs xs hcs hxs
     split at h
     ·rename_i hc
      refine ⟨fun x=>x,b.vars.set s (some (xC cs off xs)), .dead,b.st,Leaves.id _,fun e he=> ?_⟩
      have hv:e.var s=some cs:=by rw [he.al.var];exact hcs
      simp only [evW,hap e he,hp,hx e he,zCx,hv,hxs]
      rw [if_pos ⟨hc.1,hc.2.1,by rw [he.al.vars];exact hc.2.2⟩,he.al.vars,he.al.st]
      simp [form]
     ·cases h
    ·cases h
   ·rename_i id k es i off hp
    split at h
    ·rename_i d hd
     unfold zAx at h
     split at h
     ·rename_i q hq
      split at h
      ·rename_i hc
       refine ⟨zB0 id k i (uT q (z5 q.cells off d.cells)),b.vars.map (fun c=>c.map (List.map (zB0 id k i (uT q (z5 q.cells off d.cells))))), .dead,b.st,⟨fun _=>rfl,rfl,fun _ _ _=>rfl⟩,fun e he=> ?_⟩
       simp only [evW,hap e he,hp,hx e he,hd,zAx,hq]
       rw [if_pos hc,zCu (zB0 id k i _) he.al .dead]
      ·cases h
     ·cases h
    ·cases h
   ·rename_i id ty xs i off hp
    split at h
    ·rename_i d hd
     unfold zBp at h
     split at h
     ·rename_i hc
      split at h
      ·rename_i x0 hx0
       split at h
       ·rename_i y0 hy0
        refine ⟨zDp id ty i y0,b.vars.map (fun c=>c.map (List.map (zDp id ty i y0))), .dead,b.st,⟨fun _=>rfl,rfl,fun _ _ _=>rfl⟩,fun e he=> ?_⟩
        simp only [evW,hap e he,hp,hx e he,hd,zBp,hx0,hy0]
        rw [if_pos hc,zCu (zDp id ty i y0) he.al .dead]
       ·cases h
      ·cases h
     ·cases h
    ·rename_i id2 t2 ys hd
     unfold zAg at h
     split at h
     ·rename_i t3
      split at h
      ·rename_i hc
       refine ⟨zNl id id2 t2 i ys,b.vars.map (fun c=>c.map (List.map (zNl id id2 t2 i ys))), .dead,b.st,⟨fun _=>rfl,rfl,fun _ _ _=>rfl⟩,fun e he=> ?_⟩
       simp only [evW,hap e he,hp,hx e he,hd,zAg]
       rw [if_pos hc,zCu (zNl id id2 t2 i ys) he.al .dead]
      ·cases h
     ·cases h
    ·cases h
   ·rename_i n hp
    split at h
    ·rename_i d hd
     obtain ⟨id,id2,ty,xs,j,ys,mm⟩:=n
     cases mm with
     |q k off=>
      simp only [xM] at h
      split at h
      ·rename_i hc
       split at h
       ·rename_i x0 hx0
        split at h
        ·rename_i y0 hy0
         refine ⟨zNm id id2 ty k y0,b.vars.map (fun c=>c.map (List.map (zNm id id2 ty k y0))), .dead,b.st,⟨fun _=>rfl,rfl,fun _ _ _=>rfl⟩,fun e he=> ?_⟩
         simp only [evW,hap e he,hp,hx e he,hd,xM,hx0,hy0]
         rw [if_pos hc,zCu (zNm id id2 ty k y0) he.al .dead]
        ·cases h
       ·cases h
      ·cases h
     |_=>simp [xM] at h
    ·cases h
   ·cases h
 case call c=>
  have hargs: ∀e,Same G e b ⟨dst, .call c,type,pos,after,guard⟩→ ∀x,x∈c.args.toList→evx G e x=evx G b x:=by
   intro e he x hx
   exact he.ops x (by simp only [Op.operands,Call.operands];exact Array.mem_append_right _ (by simpa using hx))
  have bits: ∀ (x0 x1:Operand) (d id:Nat),c.callee= .builtin .append→c.args.toList=[x0,x1]→dst=some d→(id=d∨(evx G b x0).bits=2^(2*id))→
    Leaves (qV G b ⟨dst, .call c,type,pos,after,guard⟩) (zO id):=by
   intro x0 x1 d id hc ha hd hid
   refine (Leaves.kill id).mono ?_
   intro t ht
   simp only [qV,hc,ha,hd,xS,wM] at ht
   rcases hid with rfl|hid
   ·exact ht.1
   ·rw [←hid];exact ht.2
  have hT: ∀e,Same G e b ⟨dst, .call c,type,pos,after,guard⟩→jC P G b dst c=none→jC P G e dst c=none:=by
   intro e he hn
   unfold jC at hn ⊢
   split
   ·rename_i x0 x1 t0 t1 d hcal hars htys
    have h0:evx G e x0=evx G b x0:=hargs e he x0 (by rw [hars];simp)
    have h1:evx G e x1=evx G b x1:=hargs e he x1 (by rw [hars];simp)
    simp only [hcal,hars,htys] at hn
    rw [h0,h1]
    repeat' split at hn
    all_goals first|cases hn|skip
    all_goals simp_all
   ·rfl
  have hV: ∀e,Same G e b ⟨dst, .call c,type,pos,after,guard⟩→wF P G b dst c=none→wF P G e dst c=none:=by
   intro e he hn
   unfold wF at hn ⊢
   split
   ·rename_i p x1 t0 t1 d hcal hars htys
    have h0:e.get p=b.get p:=hargs e he (.tmp p) (by rw [hars];simp)
    have h1:evx G e x1=evx G b x1:=hargs e he x1 (by rw [hars];simp)
    simp only [hcal,hars,htys] at hn
    rw [h0,h1]
    repeat' split at hn
    all_goals first|cases hn|skip
    all_goals simp_all
   ·rfl
  split at h
  ·rename_i e2 he2
   simp only [Option.some.injEq] at h;subst h
   unfold jC at he2
   split at he2
   ·rename_i x0 x1 t0 t1 d hcal hars htys
    split at he2
    ·rename_i el el1 hu0 hu1
     split at he2
     ·rename_i info hinfo
      split at he2
      ·rename_i z t ys hz hsrc
       split at he2
       ·rename_i nm xs hdst
        split at he2
        ·rename_i hok
         split at he2
         ·rename_i hroom
          refine ⟨zO (nm.getD d),((b.vars.set (nm.getD d) none).map (fun c=>c.map (List.map (zO (nm.getD d))))), .ot (nm.getD d) t (xs++ys),b.st,bits x0 x1 d _ hcal hars rfl ?_,fun e he=> ?_⟩
          ·unfold zMS at hdst
           split at hdst
           ·simp only [Option.some.injEq,Prod.mk.injEq] at hdst;rw [←hdst.1];exact .inl rfl
           ·simp only [Option.some.injEq,Prod.mk.injEq] at hdst;rw [←hdst.1];exact .inl rfl
           ·rename_i heq
            split at hdst
            ·simp only [Option.some.injEq,Prod.mk.injEq] at hdst
             rw [←hdst.1,heq];exact .inr rfl
            ·cases hdst
           ·cases hdst
          ·have h0:evx G e x0=evx G b x0:=hargs e he x0 (by rw [hars];simp)
           have h1:evx G e x1=evx G b x1:=hargs e he x1 (by rw [hars];simp)
           have:jC P G e (some d) c=some { (e.kill (nm.getD d)) with tm:=(e.kill (nm.getD d)).tm.set d (.ot (nm.getD d) t (xs++ys)) } :=by
            simp only [jC,hcal,hars,htys,hu0,hu1,hinfo,hz,h0,h1,hsrc,hdst]
            rw [if_pos hok,if_pos hroom]
           simp only [evW,this]
           rw [zA3 he.al]
         ·cases he2
        ·cases he2
       ·cases he2
      ·cases he2
     ·cases he2
    ·cases he2
   ·cases he2
  ·rename_i hnoT
   split at h
   ·rename_i e2 he2
    simp only [Option.some.injEq] at h;subst h
    unfold wF at he2
    split at he2
    ·rename_i p x1 t0 t1 d hcal hars htys
     split at he2
     ·rename_i el el1 hu0 hu1
      split at he2
      ·rename_i info hinfo
       split at he2
       ·rename_i z t y ys hz hsrc
        split at he2
        ·rename_i id t' xs hi hget
         split at he2
         ·cases he2
         ·rename_i hne
          split at he2
          ·rename_i htt
           subst htt
           split at he2
           ·rename_i hok
            split at he2
            ·rename_i hroom
             refine ⟨zO id,((b.vars.set (id) none).map (fun c=>c.map (List.map (zO (id))))), .ot id t' (List.take hi xs++y::ys),b.st,bits (.tmp p) x1 d _ hcal hars rfl (.inr ?_),fun e he=> ?_⟩
             ·have:evx G b (.tmp p)= .ov id t' xs 0 hi:=hget
              rw [this];rfl
             ·have h0:e.get p=b.get p:=hargs e he (.tmp p) (by rw [hars];simp)
              have h1:evx G e x1=evx G b x1:=hargs e he x1 (by rw [hars];simp)
              have:wF P G e (some d) c=some { (e.kill id) with tm:=(e.kill id).tm.set d (.ot id t' (List.take hi xs++y::ys)) } :=by
               simp only [wF,hcal,hars,htys,hu0,hu1,hinfo,hz,h0,h1,hsrc,hget]
               rw [if_neg hne,dif_pos trivial,if_pos hok,if_pos hroom]
              simp only [evW,hT e he hnoT,this]
              rw [zA3 he.al]
            ·cases he2
           ·cases he2
          ·cases he2
        ·cases he2
       ·cases he2
      ·cases he2
     ·cases he2
    ·cases he2
   ·rename_i hnoV
    unfold uD qT at h
    split at h
    ·rename_i x0 x1 t0 t1 d hcal hars htys
     split at h
     ·rename_i el el1 hu0 hu1
      split at h
      ·rename_i info hinfo
       split at h
       ·rename_i z es2 hz hes2
        split at h
        ·rename_i hok
         have h0: ∀e,Same G e b ⟨some d, .call c,type,pos,after,guard⟩→evx G e x0=evx G b x0:=fun e he=>hargs e he x0 (by rw [hars];simp)
         have h1: ∀e,Same G e b ⟨some d, .call c,type,pos,after,guard⟩→evx G e x1=evx G b x1:=fun e he=>hargs e he x1 (by rw [hars];simp)
         split at h
         ·rename_i id k es heq
          split at h
          ·rename_i hc
           refine ⟨zO id,((b.vars.set (id) none).map (fun c=>c.map (List.map (zO (id))))), .ow id k (es++es2),b.st,bits x0 x1 d _ hcal hars rfl (.inr (by rw [heq];rfl)),fun e he=> ?_⟩
           have:uD P G e (some d) c=some { (e.kill id) with tm:=(e.kill id).tm.set d (.ow id k (es++es2)) } :=by
            simp only [uD,qT,hcal,hars,htys,hu0,hu1,hinfo,hz,h0 e he,h1 e he,hes2,hok,if_true,heq]
            rw [if_pos hc]
           simp only [evW,hT e he hnoT,hV e he hnoV,this]
           rw [zA3 he.al]
          ·cases h
         ·split at h
          ·split at h
           ·cases h
           ·cases h
           ·split at h
            ·refine ⟨fun x=>x,b.vars,evx G b x0,b.st,Leaves.id _,fun e he=> ?_⟩
             have:uD P G e (some d) c=some (e.put (some d) (evx G b x0)):=by
              simp only [uD,qT,hcal,hars,htys,hu0,hu1,hinfo,hz,h0 e he,h1 e he]
              simp_all
             simp only [evW,hT e he hnoT,hV e he hnoV,this]
             simp only [Env.put,form, ←he.al.vars, ←he.al.st]
             simp
            ·rename_i q r
             split at h
             ·rename_i hroom
              refine ⟨zO d,((b.vars.set (d) none).map (fun c=>c.map (List.map (zO (d))))), .ow d info.size (q::r),b.st,bits x0 x1 d d hcal hars rfl (.inl rfl),fun e he=> ?_⟩
              have:uD P G e (some d) c=some { (e.kill d) with tm:=(e.kill d).tm.set d (.ow d info.size (q::r)) } :=by
               simp only [uD,qT,hcal,hars,htys,hu0,hu1,hinfo,hz,h0 e he,h1 e he]
               simp_all
              simp only [evW,hT e he hnoT,hV e he hnoV,this]
              rw [zA3 he.al]
             ·cases h
          ·cases h
        ·cases h
       ·cases h
      ·cases h
     ·cases h
    ·cases h
 case mapUpdate t m k v=>
  split at h
  ·cases h
  ·split at h
   ·rename_i id es ck k0 v0 hm hk hv
    unfold zKJ at h
    split at h
    ·rename_i es' ck' hu
     refine ⟨zPn id es' ck',b.vars.map (fun c=>c.map (List.map (zPn id es' ck'))), .dead,b.st,⟨fun _=>rfl,rfl,fun _ _ _=>rfl⟩,fun e he=> ?_⟩
     have h0:evx G e m=evx G b m:=he.ops m (by simp [Op.operands])
     have h1:evx G e k=evx G b k:=he.ops k (by simp [Op.operands])
     have h2:evx G e v=evx G b v:=he.ops v (by simp [Op.operands])
     simp only [evW,h0,h1,h2,hm,hk,hv,zKJ,hu]
     rw [zCu (zPn id es' ck') he.al .dead]
    ·cases h
   ·cases h
end
end Go.Ve

namespace Go.Ve
open Go
inductive FV where
 |c (x:T)
 |a (s:Nat)
structure Fl where
 i:Nat
 d:Nat
 v:FV
section
variable {St:Type}
def Fl.val (q:Fl) (e:Env St):T:=
 match q.v with
 | .c x=>x
 | .a s=>e.get s
def zA0 (e:Env St) (q:Fl):Env St:= { e with tm:=e.tm.set q.d (q.val e) }
def qQ (e:Env St) (L:List Fl):Env St:=L.foldl zA0 e
structure zE4 (n:Nat) (L:List Fl):Prop where
 dist:L.Pairwise (fun p q=>p.d≠q.d)
 lt: ∀q,q∈L→q.d<n
 src: ∀q,q∈L→ ∀s,q.v= .a s→ ∀p,p∈L→s≠p.d
theorem zE4.filter {n:Nat} {L:List Fl} (h:zE4 n L) (p:Fl→Bool):zE4 n (L.filter p):=
 ⟨h.dist.filter _,fun q hq=>h.lt q (List.mem_filter.1 hq).1,fun q hq s hs p hp=>h.src q (List.mem_filter.1 hq).1 s hs p (List.mem_filter.1 hp).1⟩
theorem zIY (e:Env St) (q:Fl):(zA0 e q).tm.length=e.tm.length:=by simp [zA0]
theorem zCn: ∀ (L:List Fl) (e:Env St),(qQ e L).tm.length=e.tm.length:=by
 intro L
 induction L with
 |nil=>intro e;rfl
 |cons q L ih=>intro e;exact (ih (zA0 e q)).trans (zIY e q)
theorem zEz: ∀ (L:List Fl) (e:Env St),(qQ e L).vars=e.vars∧(qQ e L).st=e.st:=by
 intro L
 induction L with
 |nil=>intro e;exact ⟨rfl,rfl⟩
 |cons q L ih=>intro e;exact ih (zA0 e q)
theorem uB (L:List Fl) (e:Env St):Alike (qQ e L) e:=⟨(zEz L e).1,(zEz L e).2,zCn L e⟩
theorem zGC (e:Env St) (q:Fl) (t:Nat):(zA0 e q).get t=if t=q.d∧q.d<e.tm.length then q.val e else e.get t:=vA e q.d t (q.val e)
theorem uZ: ∀ (L:List Fl) (e:Env St) (n:Nat),zE4 n L→n≤e.tm.length→(∀t,(∀q,q∈L→t≠q.d)→(qQ e L).get t=e.get t)∧(∀q,q∈L→(qQ e L).get q.d=q.val e):=by
 intro L
 induction L with
 |nil=>intro e n _ _;exact ⟨fun _ _=>rfl,fun q hq=>by simp at hq⟩
 |cons q L ih=>
  intro e n h hn
  have hd:=List.pairwise_cons.1 h.dist
  have hL:zE4 n L:=⟨hd.2,fun p hp=>h.lt p (List.mem_cons_of_mem _ hp),fun p hp s hs r hr=>h.src p (List.mem_cons_of_mem _ hp) s hs r (List.mem_cons_of_mem _ hr)⟩
  obtain ⟨h1,h2⟩:=ih (zA0 e q) n hL (by rw [zIY];exact hn)
  refine ⟨?_,?_⟩
  ·intro t ht
   show (qQ (zA0 e q) L).get t=e.get t
   rw [h1 t (fun p hp=>ht p (List.mem_cons_of_mem _ hp)),zGC,if_neg (fun hh=>ht q (by simp) hh.1)]
  ·intro p hp
   show (qQ (zA0 e q) L).get p.d=p.val e
   rcases List.mem_cons.1 hp with rfl|hp
   ·rw [h1 p.d (fun r hr=>hd.1 r hr),zGC,if_pos ⟨rfl,Nat.lt_of_lt_of_le (h.lt p (by simp)) hn⟩]
   ·rw [h2 p hp]
    unfold Fl.val
    cases hv:p.v with
    |c x=>rfl
    |a s=>
     simp only
     rw [zGC,if_neg (fun hh=>h.src p (List.mem_cons_of_mem _ hp) s hv q (by simp) hh.1)]
theorem zO6 {e b:Env St} (h:Alike e b) (hg: ∀t,e.get t=b.get t):e=b:=by
 obtain ⟨tm,vars,st⟩:=e
 obtain ⟨tm',vars',st'⟩:=b
 have h1:=h.vars
 have h2:=h.st
 have h3:=h.len
 simp only at h1 h2 h3
 subst h1 h2
 have:tm=tm':=by
  apply List.ext_getElem h3
  intro i h4 h5
  have:=hg i
  simpa [Env.get,List.getD_eq_getElem?_getD,h4,h5] using this
 rw [this]
theorem Alike.trans {e b c:Env St} (h:Alike e b) (k:Alike b c):Alike e c:=⟨h.vars.trans k.vars,h.st.trans k.st,h.len.trans k.len⟩
theorem Alike.symm {e b:Env St} (h:Alike e b):Alike b e:=⟨h.vars.symm,h.st.symm,h.len.symm⟩
theorem zNE {fl:List Fl} {e:Env St} (h:zE4 e.tm.length fl) (p p':Fl→Bool) (hp: ∀q,q∈fl→p q=true→p' q=true):qQ (qQ e (fl.filter p)) (fl.filter p')=qQ e (fl.filter p'):=by
 refine zO6 ((uB _ _).trans ((uB _ e).trans (uB _ e).symm)) ?_
 intro t
 obtain ⟨a1,a2⟩:=uZ (fl.filter p) e _ (h.filter p) (Nat.le_refl _)
 obtain ⟨b1,b2⟩:=uZ (fl.filter p') e _ (h.filter p') (Nat.le_refl _)
 obtain ⟨c1,c2⟩:=uZ (fl.filter p') (qQ e (fl.filter p)) e.tm.length (h.filter p') (by rw [zCn];exact Nat.le_refl _)
 by_cases ht: ∃q,q∈fl.filter p'∧t=q.d
 ·obtain ⟨q,hq,rfl⟩:=ht
  rw [b2 q hq,c2 q hq]
  unfold Fl.val
  cases hv:q.v with
  |c x=>rfl
  |a s=>
   simp only
   exact a1 s (fun r hr=>h.src q (List.mem_filter.1 hq).1 s hv r (List.mem_filter.1 hr).1)
 ·have ht': ∀q,q∈fl.filter p'→t≠q.d:=fun q hq hh=>ht ⟨q,hq,hh⟩
  rw [b1 t ht',c1 t ht']
  refine a1 t (fun q hq=>ht' q ?_)
  obtain ⟨h1,h2⟩:=List.mem_filter.1 hq
  exact List.mem_filter.2 ⟨h1,hp q h1 h2⟩
theorem zPx {fl:List Fl} {e:Env St} (h:zE4 e.tm.length fl) (p p':Fl→Bool) {q:Fl} (hq:q∈fl) (hp: ∀r,r∈fl→(p' r=true↔p r=true∨r.d=q.d)) (hpq:p q=false):
  zA0 (qQ e (fl.filter p)) q=qQ e (fl.filter p'):=by
 have hal:Alike (zA0 (qQ e (fl.filter p)) q) e:=⟨(zEz _ e).1,(zEz _ e).2,by rw [zIY,zCn]⟩
 refine zO6 (hal.trans (uB _ e).symm) ?_
 intro t
 obtain ⟨a1,a2⟩:=uZ (fl.filter p) e _ (h.filter p) (Nat.le_refl _)
 obtain ⟨b1,b2⟩:=uZ (fl.filter p') e _ (h.filter p') (Nat.le_refl _)
 have hval:q.val (qQ e (fl.filter p))=q.val e:=by
  unfold Fl.val
  cases hv:q.v with
  |c x=>rfl
  |a s=>
   simp only
   exact a1 s (fun r hr=>h.src q hq s hv r (List.mem_filter.1 hr).1)
 rw [zGC,zCn]
 by_cases htq:t=q.d
 ·subst htq
  rw [if_pos ⟨rfl,h.lt q hq⟩,hval,b2 q (List.mem_filter.2 ⟨hq,(hp q hq).2 (.inr rfl)⟩)]
 ·rw [if_neg (fun hh=>htq hh.1)]
  by_cases ht: ∃r,r∈fl.filter p∧t=r.d
  ·obtain ⟨r,hr,rfl⟩:=ht
   obtain ⟨h1,h2⟩:=List.mem_filter.1 hr
   rw [a2 r hr,b2 r (List.mem_filter.2 ⟨h1,(hp r h1).2 (.inl h2)⟩)]
  ·have ht': ∀r,r∈fl.filter p→t≠r.d:=fun r hr hh=>ht ⟨r,hr,hh⟩
   rw [a1 t ht',b1 t ?_]
   intro r hr hh
   obtain ⟨h1,h2⟩:=List.mem_filter.1 hr
   rcases (hp r h1).1 h2 with h3|h3
   ·exact ht' r (List.mem_filter.2 ⟨h1,h3⟩) hh
   ·exact htq (hh.trans h3)
def zNi (m:Nat) (dst:Option Nat) (q:Fl):Prop:=
 dst≠some q.d∧match q.v with
  | .c (.p _)=>True
  | .c (.lp s _)=>m.testBit (2*s)=false
  | .c _=>False
  | .a s=>dst≠some s
theorem zRt {e:Env St} {f:T→T} {V:List (Option (List T))} {dst:Option Nat} {y:T} {st:St} (hf:f .dead= .dead) (t:Nat) (ht:dst≠some t):(form e f V dst y st).get t=f (e.get t):=by
 cases dst with
 |none=>
  simp only [form,Env.get,List.getD_eq_getElem?_getD,List.getElem?_map]
  cases e.tm[t]? <;>simp [hf]
 |some d=>
  simp only [form,Env.get,List.getD_eq_getElem?_getD]
  rw [List.getElem?_set_ne (fun h=>ht (by rw [h])),List.getElem?_map]
  cases e.tm[t]? <;>simp [hf]
theorem zPz {e:Env St} {m:Nat} {f:T→T} {V:List (Option (List T))} {dst:Option Nat} {y:T} {st:St} (hf:Leaves m f) {q:Fl} (hq:zNi m dst q):
  form (zA0 e q) f V dst y st=zA0 (form e f V dst y st) q:=by
 have hv:f (q.val e)=q.val (form e f V dst y st):=by
  unfold Fl.val
  have h2:=hq.2
  cases hv:q.v with
  |c x=>
   rw [hv] at h2
   cases x with
   |p d=>exact hf.p d
   |lp s off=>exact hf.lp s off h2
   |_=>exact h2.elim
  |a s=>
   rw [hv] at h2
   exact (zRt hf.dead s h2).symm
 cases dst with
 |none=>
  simp only [form,zA0,List.map_set]
  rw [hv];rfl
 |some d=>
  have hne:d≠q.d:=fun h=>hq.1 (by rw [h])
  simp only [form,zA0,List.map_set]
  rw [hv,List.set_comm _ _ (fun h=>hne h.symm)];rfl
theorem zPy: ∀ (L:List Fl) {e:Env St} {m:Nat} {f:T→T} {V:List (Option (List T))} {dst:Option Nat} {y:T} {st:St},Leaves m f→(∀q,q∈L→zNi m dst q)→
  form (qQ e L) f V dst y st=qQ (form e f V dst y st) L:=by
 intro L
 induction L with
 |nil=>intro e m f V dst y st _ _;rfl
 |cons q L ih=>
  intro e m f V dst y st hf hs
  show form (qQ (zA0 e q) L) f V dst y st=qQ (zA0 (form e f V dst y st) q) L
  rw [ih hf (fun r hr=>hs r (List.mem_cons_of_mem _ hr)),zPz hf (hs q (by simp))]
end
section
variable {Γ:Sig} {P:Program} {G:Nat→Option (List V)} {S:qZ Γ}
def zGo (G:Nat→Option (List V)) (e:Env Γ.St):List Operand→List Nat
 |[]=>[]
 |x::r=>match evx G e x with
  | .ot id _ _=>id::zGo G e r
  |_=>zGo G e r
def frzI:List Nat→Env Γ.St→Env Γ.St
 |[],e=>e
 |i::r,e=>frzI r (frzOE i e)
def zME (G:Nat→Option (List V)) (o:Oper) (e:Env Γ.St):Env Γ.St:=frzI (zGo G e o.op.operands.toList) e
def zEH (o:Oper):Bool:=
 match o.op with
 | .build _ _=>true
 | .call c=>match c.callee with
  | .value _=>true
  |_=>false
 |_=>false
theorem zRv: ∀ (l:List Nat), ∃g:T→T,(∀d,g (.p d)= .p d)∧g .dead= .dead∧(∀s off,g (.lp s off)= .lp s off)∧ ∀e:Env Γ.St,frzI l e=e.mapT g:=by
 intro l
 induction l with
 |nil=>exact ⟨fun x=>x,fun _=>rfl,rfl,fun _ _=>rfl,fun e=>by
   unfold frzI Env.mapT
   cases e with
   |mk tm vr st=>simp⟩
 |cons i r ih=>
  obtain ⟨g,h1,h2,h3,h4⟩:=ih
  cases hb:Nat.beq i qA with
  |true=>exact ⟨g,h1,h2,h3,fun e=>by simp only [frzI,frzOE,hb,h4]⟩
  |false=>
   refine ⟨fun x=>g (yP i x),fun d=>h1 d,h2,fun s off=>h3 s off,fun e=> ?_⟩
   simp only [frzI,frzOE,hb,h4]
   unfold Env.mapT
   cases e with
   |mk tm vr st=>
    simp [Function.comp_def]
theorem zNH {e b:Env Γ.St} : ∀ (l:List Operand),(∀x,x∈l→evx G e x=evx G b x)→zGo G e l=zGo G b l:=by
 intro l
 induction l with
 |nil=>intro _;rfl
 |cons x r ih=>
  intro h
  simp only [zGo,h x (by simp),ih (fun y hy=>h y (List.mem_cons_of_mem _ hy))]
theorem Inv.frzI {w0:World} {F0:Blk→Prop} {O0:kC} {a:Act} {w:World} : ∀ (l:List Nat) {e:Env Γ.St},Inv Γ G w0 F0 O0 a w e→Inv Γ G w0 F0 O0 a w (Ve.frzI l e):=by
 intro l
 induction l with
 |nil=>intro e h;exact h
 |cons i r ih=>intro e h;exact ih (h.frzOE i)
def zDz (P:qK) (G:Nat→Option (List V)) (S:qZ Γ) (e:Env Γ.St) (o:Oper) (e1:Env Γ.St):Prop:=
 zGE P G S e o=some e1∨evW P G e o=some e1∨(zEH o=true∧zGE P G S (zME G o e) o=some e1)
theorem zCI {e:Env Γ.St} {o:Oper} (h:zEH o=true):qV G e o=xS o.dst:=by
 unfold zEH at h
 unfold qV
 split at h
 ·rename_i hop;simp [hop]
 ·rename_i c hop
  split at h
  ·rename_i fv hcal
   simp [hop,hcal]
  ·cases h
 ·cases h
theorem zPY {e:Env Γ.St} {o:Oper} (h:zEH o=true):evW P G e o=none:=by
 unfold zEH at h
 unfold evW
 split at h
 ·rename_i hop;simp [hop]
 ·rename_i c hop
  split at h
  ·rename_i fv hcal
   simp [hop,hcal,jC,wF,uD,qT]
  ·cases h
 ·cases h
theorem zIU {L:qK} {b b1:Env Γ.St} {o:Oper} (h:zDz L G S b o b1): ∃f V y st,Leaves (qV G b o) f∧b1=form b f V o.dst y st∧ ∀e,Same G e b o→zDz L G S e o (form e f V o.dst y st):=by
 have hb:Same G b b o:=⟨⟨rfl,rfl,rfl⟩,fun _ _=>rfl⟩
 rcases h with h|h|⟨hB,h⟩
 ·obtain ⟨f,V,y,st,h1,h2⟩:=zKL h
  have:=h2 b hb
  rw [h] at this
  exact ⟨f,V,y,st,h1,Option.some.inj this,fun e he=> .inl (h2 e he)⟩
 ·obtain ⟨f,V,y,st,h1,h2⟩:=zRK h
  have:=h2 b hb
  rw [h] at this
  exact ⟨f,V,y,st,h1,Option.some.inj this,fun e he=> .inr (.inl (h2 e he))⟩
 ·obtain ⟨g,g1,g2,g3,g4⟩:=zRv (Γ:=Γ) (zGo G b o.op.operands.toList)
  obtain ⟨f,V,y,st,h1,h2⟩:=zKL h
  rw [zCI hB] at h1
  have hform: ∀e:Env Γ.St,form (e.mapT g) f V o.dst y st=form e (fun x=>f (g x)) V o.dst y st:=by
   intro e
   unfold form Env.mapT
   cases o.dst<;>simp [Function.comp_def]
  have key: ∀e,Same G e b o→zME G o e=e.mapT g∧zGE L G S (zME G o e) o=some (form e (fun x=>f (g x)) V o.dst y st):=by
   intro e he
   have hids:zGo G e o.op.operands.toList=zGo G b o.op.operands.toList:=zNH _ (fun x hx=>he.2 x (by simpa using hx))
   have hfe:zME G o e=e.mapT g:=by unfold zME;rw [hids,g4]
   have hfb:zME G o b=b.mapT g:=by unfold zME;rw [g4]
   refine ⟨hfe,?_⟩
   rw [hfe, ←hform]
   apply h2
   rw [hfb]
   obtain ⟨⟨e1,e2,e3⟩,e4⟩:=he
   refine ⟨⟨?_,?_,?_⟩,?_⟩
   ·simp [Env.mapT,e1]
   ·simp [Env.mapT,e2]
   ·simp [Env.mapT,e3]
   ·intro x hx
    have:=e4 x hx
    cases x with
    |tmp t=>
     have ht:e.get t=b.get t:=this
     show (e.mapT g).get t=(b.mapT g).get t
     have hg: ∀c:Env Γ.St,(c.mapT g).get t=g (c.get t):=by
      intro c
      simp only [Env.mapT,Env.get,List.getD_eq_getElem?_getD,List.getElem?_map]
      cases c.tm[t]? <;>simp [g2]
     rw [hg,hg,ht]
    |_=>rfl
  refine ⟨fun x=>f (g x),V,y,st,?_,?_,fun e he=> .inr (.inr ⟨hB,(key e he).2⟩)⟩
  ·rw [zCI hB]
   exact ⟨fun d=>by simp only [g1];exact h1.p d,by simp only [g2];exact h1.dead,fun s off hs=>by simp only [g3];exact h1.lp s off hs⟩
  ·have:=(key b hb).2
   rw [h] at this
   exact Option.some.inj this
theorem zDz.op {e e1:Env Γ.St} {o:Oper} (hS:zZ Γ P G S) (h:zDz P G S e o e1):zOA P G e o e1:=by
 intro w0 F0 O0 a w Q hi
 rcases h with h|h|⟨_,h⟩
 ·exact zJt hS hi h
 ·exact zO4 hi h
 ·exact zJt hS (hi.frzI _) h
theorem zPu {L:qK} {fl:List Fl} {b b1:Env Γ.St} {o:Oper} {A p:Fl→Bool} (hfl:zE4 b.tm.length fl) (hA: ∀q,q∈fl→A q=true→p q=true)
  (hops: ∀q,q∈fl→Operand.tmp q.d∈o.op.operands→A q=true)
  (h:zDz L G S (qQ b (fl.filter A)) o b1) (hst: ∀q,q∈fl→zNi (qV G (qQ b (fl.filter A)) o) o.dst q):zDz L G S (qQ b (fl.filter p)) o (qQ b1 (fl.filter p)):=by
 obtain ⟨f,V,y,st,h1,rfl,h3⟩:=zIU h
 rw [←zNE hfl A p hA]
 have hlen:(qQ b (fl.filter A)).tm.length=b.tm.length:=zCn _ _
 obtain ⟨c1,c2⟩:=uZ (fl.filter p) (qQ b (fl.filter A)) _ (hfl.filter p) (by rw [hlen];exact Nat.le_refl _)
 obtain ⟨a1,a2⟩:=uZ (fl.filter A) b _ (hfl.filter A) (Nat.le_refl _)
 have hsame:Same G (qQ (qQ b (fl.filter A)) (fl.filter p)) (qQ b (fl.filter A)) o:=by
  refine ⟨uB _ _,?_⟩
  intro x hx
  cases x with
  |tmp t=>
   show (qQ (qQ b (fl.filter A)) (fl.filter p)).get t=(qQ b (fl.filter A)).get t
   by_cases ht: ∃q,q∈fl.filter p∧t=q.d
   ·obtain ⟨q,hq,rfl⟩:=ht
    have hq1:=(List.mem_filter.1 hq).1
    have hqA:q∈fl.filter A:=List.mem_filter.2 ⟨hq1,hops q hq1 hx⟩
    rw [c2 q hq,a2 q hqA]
    unfold Fl.val
    cases hv:q.v with
    |c x=>rfl
    |a s=>
     simp only
     exact a1 s (fun r hr=>hfl.src q hq1 s hv r (List.mem_filter.1 hr).1)
   ·exact c1 t (fun q hq hh=>ht ⟨q,hq,hh⟩)
  |_=>rfl
 have:=h3 _ hsame
 rw [zPy (fl.filter p) h1 (fun q hq=>hst q (List.mem_filter.1 hq).1)] at this
 exact this
end
end Go.Ve

namespace Go.Ve
open Go
def zRd : Oper := ⟨none, .move (.const undef), 0, "", #[], none⟩
def jK (ops:Array Oper) (Cm:Nat):Array Oper:=ops.mapIdx fun i o=>match Nat.testBit Cm i with
 |true=>zRd
 |false=>o
def zT4 (ops:Array Oper) (anc:Array Nat) (Cm Um:Nat):Bool:=
 zR4 ops anc&&zJD (jK ops Cm)&&
 (List.range ops.size).all fun i=>match ops[i]? with
  |some o=>o.after.all (fun e=> !Region.binds .any e||decide (e.on<i))&&(match Nat.testBit Cm i with
   |true=>o.guard.isNone&&(List.range ops.size).all fun j=>match Nat.testBit Cm j with
    |true=>decide (i≤j)||(anc.getD i 0).testBit j
    |false=>Nat.testBit Um j||(decide (j<i)&&(anc.getD i 0).testBit j)
   |false=>o.after.all (fun e=> !Region.binds .any e|| !Nat.testBit Cm e.on)&&(match o.guard with
     |some (j,_)=> !Nat.testBit Cm j
     |none=>true)&&(!Nat.testBit Um i||(o.guard.isNone&& !isCall o)))
  |none=>true
section
variable {ops:Array Oper} {anc:Array Nat} {Cm Um:Nat}
def Closed (ops:Array Oper) (listed:Nat→Prop):Prop:= ∀ (i:Nat) (o:Oper) (e:Edge),ops[i]? =some o→listed i→e∈o.after→Region.binds .any e=true→listed e.on
structure zOB (ops:Array Oper) (anc:Array Nat) (Cm Um:Nat):Prop where
 st:zJR (jK ops Cm)
 edge: ∀ (i:Nat) (o:Oper) (e:Edge),ops[i]? =some o→e∈o.after→Region.binds .any e=true→e.on<i
 noC: ∀ (i:Nat) (o:Oper) (e:Edge),ops[i]? =some o→Cm.testBit i=false→e∈o.after→Region.binds .any e=true→Cm.testBit e.on=false
 guardQ: ∀ (i:Nat) (o:Oper) (j:Nat) (w:Bool),ops[i]? =some o→Cm.testBit i=false→o.guard=some (j,w)→Cm.testBit j=false
 guardC: ∀ (i:Nat) (o:Oper),ops[i]? =some o→Cm.testBit i=true∨Um.testBit i=true→o.guard=none
 call: ∀ (i:Nat) (o:Oper),ops[i]? =some o→Cm.testBit i=false→Um.testBit i=true→isCall o=false
 up: ∀ (listed:Nat→Prop),Closed ops listed→ ∀ (c:Nat) (o:Oper),ops[c]? =some o→(∀e,e∈o.after→Region.binds .any e=true→listed e.on)→
  ∀j,j<c→(anc.getD c 0).testBit j=true→listed j
 before: ∀ (c:Nat) (o:Oper),ops[c]? =some o→Cm.testBit c=true→ ∀ (j:Nat),j<ops.size→(Cm.testBit j=true∧j<c)∨(Cm.testBit j=false∧Um.testBit j=false)→j<c∧(anc.getD c 0).testBit j=true
theorem zSY (h:zT4 ops anc Cm Um=true):zOB ops anc Cm Um:=by
 unfold zT4 at h
 simp only [Bool.and_eq_true] at h
 obtain ⟨⟨hanc,hdr⟩,hall⟩:=h
 have hone: ∀i o,ops[i]? =some o→_:=fun i o ho=>by
  have hlt:i<ops.size:=(Array.getElem?_eq_some_iff.1 ho).1
  have:=List.all_eq_true.1 hall i (List.mem_range.2 hlt)
  simp only [ho] at this
  exact this
 have hedge: ∀ (i:Nat) (o:Oper) (e:Edge),ops[i]? =some o→e∈o.after→Region.binds .any e=true→e.on<i:=by
  intro i o e ho he hb
  have h1:=hone i o ho
  rw [Bool.and_eq_true] at h1
  have h2:=Array.all_eq_true_iff_forall_mem.1 h1.1 e he
  simpa [hb] using h2
 have hcl: ∀ (listed:Nat→Prop),Closed ops listed→
   ∀ (i:Nat) (o:Oper) (j:Nat),ops[i]? =some o→j<i→(anc.getD i 0).testBit j=true→(∀e,e∈o.after→Region.binds .any e=true→listed e.on)→listed j:=by
  intro listed hdown i
  induction i using Nat.strongRecOn with
  |_ i ih=>
   intro o j ho hji hbit hi
   have hlt:i<ops.size:=(Array.getElem?_eq_some_iff.1 ho).1
   have h1:=List.all_eq_true.1 hanc i (List.mem_range.2 hlt)
   simp only [ho] at h1
   have h2:=List.all_eq_true.1 h1 j (List.mem_range.2 hji)
   simp only [hbit,Bool.not_true,Bool.false_or,Array.any_eq_true',Bool.and_eq_true,Bool.or_eq_true,decide_eq_true_eq,beq_iff_eq] at h2
   obtain ⟨e,he,⟨hb,hon⟩,hj⟩:=h2
   have hle:=hi e he hb
   rcases hj with rfl|⟨hjlt,hbit'⟩
   ·exact hle
   ·have hlt':e.on<ops.size:=by omega
    have ho':ops[e.on]? =some ops[e.on]:=by simp [hlt']
    exact ih e.on hon ops[e.on] j ho' hjlt hbit' (fun e2 he2 hb2=>hdown e.on _ e2 ho' hle he2 hb2)
 refine ⟨zKi hdr,hedge,?_,?_,?_,?_,fun listed hd c o hc hdeps j hj hb=>hcl listed hd c o j hc hj hb hdeps,?_⟩
 ·intro i o e ho hC he hb
  have h1:=hone i o ho
  simp only [hC,Bool.and_eq_true] at h1
  have h2:=Array.all_eq_true_iff_forall_mem.1 h1.2.1.1 e he
  simpa [hb] using h2
 ·intro i o j w ho hC hg
  have h1:=hone i o ho
  simp only [hC,hg,Bool.and_eq_true] at h1
  simpa using h1.2.1.2
 ·intro i o ho hor
  have h1:=hone i o ho
  cases hC:Cm.testBit i with
  |true=>
   simp only [hC,Bool.and_eq_true] at h1
   exact Option.isNone_iff_eq_none.1 h1.2.1
  |false=>
   rw [hC] at hor
   have hU:=hor.resolve_left (by simp)
   simp only [hC,hU,Bool.and_eq_true,Bool.not_true,Bool.false_or] at h1
   exact Option.isNone_iff_eq_none.1 h1.2.2.1
 ·intro i o ho hC hU
  have h1:=hone i o ho
  simp only [hC,hU,Bool.and_eq_true,Bool.not_true,Bool.false_or,Bool.not_eq_true'] at h1
  exact h1.2.2.2
 ·intro c o ho hC j hj hor
  have h1:=hone c o ho
  simp only [hC,Bool.and_eq_true] at h1
  have h2:=List.all_eq_true.1 h1.2.2 j (List.mem_range.2 hj)
  rcases hor with ⟨hCj,hlt⟩|⟨hCj,hUj⟩
  ·simp only [hCj,Bool.or_eq_true,decide_eq_true_eq] at h2
   exact ⟨hlt,h2.resolve_left (by omega)⟩
  ·simp only [hCj,hUj,Bool.false_or,Bool.and_eq_true,decide_eq_true_eq] at h2
   exact h2
theorem zCo (i:Nat):(jK ops Cm)[i]? =(ops[i]?).map (fun o=>match Cm.testBit i with|true=>zRd|false=>o):=by
 simp only [jK,Array.getElem?_mapIdx]
theorem yO:(jK ops Cm).size=ops.size:=by simp [jK]
theorem vV {i:Nat} {o:Oper} (h:ops[i]? =some o) (hC:Cm.testBit i=false):(jK ops Cm)[i]? =some o:=by
 rw [zCo,h];simp [hC]
end
section
variable {Γ:Sig} {P:Program} {G:Nat→Option (List V)} {S:qZ Γ} {w0:World} {F0:Blk→Prop} {O0:kC} {ops:Array Oper} {anc:Array Nat} {Cm Um:Nat}
def zGU (P:qK) (G:Nat→Option (List V)) (S:qZ Γ) (ops:Array Oper) (fl:List Fl) (b:Env Γ.St) (q:Fl):Prop:=
 ∀ (o:Oper) (p:Fl→Bool),ops[q.i]? =some o→(∀r,r∈fl→Operand.tmp r.d∈o.op.operands→p r=true)→zDz P G S (qQ b (fl.filter p)) o (zA0 (qQ b (fl.filter p)) q)
inductive zEm (P:qK) (G:Nat→Option (List V)) (S:qZ Γ) (ops:Array Oper) (anc:Array Nat) (fl:List Fl):List Nat→Env Γ.St→Env Γ.St→Prop
 |nil (b:Env Γ.St):zEm P G S ops anc fl [] b b
 |cons {c:Nat} {rest:List Nat} {b b1 b':Env Γ.St} {o:Oper} (ho:ops[c]? =some o)
   (hr:zDz P G S (qQ b (fl.filter (fun q=>(anc.getD c 0).testBit q.i&&decide (q.i<c)))) o b1)
   (hops: ∀q,q∈fl→Operand.tmp q.d∈o.op.operands→((anc.getD c 0).testBit q.i&&decide (q.i<c))=true)
   (hst: ∀q,q∈fl→zNi (qV G (qQ b (fl.filter (fun q=>(anc.getD c 0).testBit q.i&&decide (q.i<c)))) o) o.dst q)
   (hfl: ∀q,q∈fl→((anc.getD c 0).testBit q.i&&decide (q.i<c))=false→zGU P G S ops fl b1 q)
   (hrest:zEm P G S ops anc fl rest b1 b'):zEm P G S ops anc fl (c::rest) b b'
theorem zRw {St:Type} (e:Env St) (f:T→T) (V:List (Option (List T))) (dst:Option Nat) (y:T) (st:St):(form e f V dst y st).tm.length=e.tm.length:=by
 cases dst<;>simp [form]
theorem zDz.len {L:qK} {b b1:Env Γ.St} {o:Oper} (h:zDz L G S b o b1):b1.tm.length=b.tm.length:=by
 obtain ⟨f,V,y,st,_,rfl,_⟩:=zIU h
 exact zRw _ _ _ _ _ _
theorem zQF {e e1:Env Γ.St} {o:Oper} {a:Act} {w:World} {Q:Exit→Act→World→Prop} {K:Act→World→Prop} {i:Nat} (hS:zZ Γ P G S) (hi:ops[i]? =some o) (hg:o.guard=none) (h:zDz P G S e o e1)
  (hinv:Inv Γ G w0 F0 O0 a w e) (hK: ∀a w,Inv Γ G w0 F0 O0 a w e1→K a w):wpOp P ops Q i K a w:=
 zIK hi (.inl ⟨by simp only [qO,hg],h.op hS⟩) hinv hK
theorem zLL (hch:zOB ops anc Cm Um) (hS:zZ Γ P G S) {fl:List Fl} {n:Nat} (hflok:zE4 n fl)
  (hfi: ∀i,Um.testBit i=true→Cm.testBit i=false→i<ops.size→ ∃q,q∈fl∧q.i=i)
  (hfo: ∀q,q∈fl→Cm.testBit q.i=false∧Um.testBit q.i=true∧ ∃o,ops[q.i]? =some o∧o.dst=some q.d)
  {b':Env Γ.St} {Q:Exit→Act→World→Prop} (hQ: ∀a w,Inv Γ G w0 F0 O0 a w (qQ b' fl)→Q .normal a w): ∀ (fuel:Nat) (rest:List Nat) (b:Env Γ.St) (listed:Array Bool) (a:Act) (w:World),
  listed.size=ops.size→listed.count false≤fuel→Closed ops (fun i=>listed.getD i true=true)→
  (∀i,i<ops.size→Cm.testBit i=false→Um.testBit i=false→listed.getD i true=true)→
  (∀c,c∈rest↔c<ops.size∧Cm.testBit c=true∧listed.getD c true=false)→rest.Pairwise (· < ·)→
  zEm P G S ops anc fl rest b b'→(∀q,q∈fl→listed.getD q.i true=false→zGU P G S ops fl b q)→b.tm.length=n→
  Inv Γ G w0 F0 O0 a w (qQ b (fl.filter (fun q=>listed.getD q.i true)))→wpAny P .any ops Q fuel listed a w:=by
 have hfd: ∀q r,q∈fl→r∈fl→(q.d=r.d↔q.i=r.i):=by
  intro q r hq hr
  obtain ⟨cq,_,oq,ho1,hd1⟩:=hfo q hq
  obtain ⟨cr,_,or',ho2,hd2⟩:=hfo r hr
  constructor
  ·intro h
   exact hch.st.dist q.i r.i oq or' q.d (vV ho1 cq) (vV ho2 cr) hd1 (by rw [h];exact hd2)
  ·intro h
   rw [h,ho2] at ho1
   cases ho1
   rw [hd1] at hd2
   exact Option.some.inj hd2
 have hend: ∀ (rest:List Nat) (b:Env Γ.St) (listed:Array Bool) (a:Act) (w:World),(∀i,listed.getD i true=true)→
   (∀c,c∈rest↔c<ops.size∧Cm.testBit c=true∧listed.getD c true=false)→zEm P G S ops anc fl rest b b'→Inv Γ G w0 F0 O0 a w (qQ b (fl.filter (fun q=>listed.getD q.i true)))→Q .normal a w:=by
  intro rest b listed a w hall hrest hchain hinv
  have hnil:rest=[]:=by
   apply List.eq_nil_iff_forall_not_mem.2
   intro c hc
   have:=((hrest c).1 hc).2.2
   rw [hall c] at this;cases this
  subst hnil
  cases hchain
  rw [List.filter_eq_self.2 (fun q _=>by simp [hall q.i])] at hinv
  exact hQ a w hinv
 have hallof: ∀ (listed:Array Bool),listed.size=ops.size→Region.ready .any ops listed=[]→ ∀i,listed.getD i true=true:=by
  intro listed hls hr
  have: ∀i,i<ops.size→listed.getD i true=true:=by
   intro i
   induction i using Nat.strongRecOn with
   |_ i ih=>
    intro hi
    cases hl:listed.getD i true with
    |true=>rfl
    |false=>
     exfalso
     have hmem:i∈Region.ready .any ops listed:=by
      rw [mem_ready]
      refine ⟨hl,ops[i],by simp [hi],?_⟩
      intro e he hb
      have hon:=hch.edge i ops[i] e (by simp [hi]) he hb
      rw [zBQ (by omega)]
      exact ih e.on hon (by omega)
     rw [hr] at hmem;cases hmem
  intro i
  rcases Nat.lt_or_ge i ops.size with h|h
  ·exact this i h
  ·simp [Array.getD_eq_getD_getElem?,Array.getElem?_eq_none (by omega:listed.size≤i)]
 intro fuel
 induction fuel with
 |zero=>
  intro rest b listed a w hls hcnt hcl hq hrest hsort hchain hfl hlen hinv
  have hall: ∀i,listed.getD i true=true:=by
   intro i
   cases hl:listed.getD i true with
   |true=>rfl
   |false=>
    exfalso
    have h0:listed.count false=0:=by omega
    rw [Array.count_eq_zero] at h0
    apply h0
    rcases Nat.lt_or_ge i listed.size with h|h
    ·simp [Array.getD_eq_getD_getElem?,h] at hl
     rw [←hl];exact Array.getElem_mem h
    ·simp [Array.getD_eq_getD_getElem?,Array.getElem?_eq_none h] at hl
  refine ⟨?_,hend rest b listed a w hall hrest hchain hinv⟩
  apply List.eq_nil_iff_forall_not_mem.2
  intro j hj
  have:=(mem_ready.1 hj).1
  rw [hall j] at this;cases this
 |succ fuel ih=>
  intro rest b listed a w hls hcnt hcl hq hrest hsort hchain hfl hlen hinv
  refine ⟨fun hr=>hend rest b listed a w (hallof listed hls hr) hrest hchain hinv,?_⟩
  intro i hi
  obtain ⟨hun,o,ho,hdeps⟩:=mem_ready.1 hi
  have hlt:i<ops.size:=(Array.getElem?_eq_some_iff.1 ho).1
  have hin:i<listed.size:=by omega
  have hdeps': ∀e,e∈o.after→Region.binds .any e=true→listed.getD e.on true=true:=by
   intro e he hb
   have h1:=hdeps e he hb
   have hon:=hch.edge i o e ho he hb
   rw [←zBQ (by omega)];exact h1
  have hcl':Closed ops (fun j=>(listed.setIfInBounds i true).getD j true=true):=by
   intro j oj e hj hl he hb
   show (listed.setIfInBounds i true).getD e.on true=true
   have hl:(listed.setIfInBounds i true).getD j true=true:=hl
   rw [qB _ _ _ hin] at hl ⊢
   split
   ·rfl
   ·by_cases hji:j=i
    ·subst hji;rw [ho] at hj;cases hj;exact hdeps' e he hb
    ·rw [if_neg hji] at hl;exact hcl j oj e hj hl he hb
  have hcnt':(listed.setIfInBounds i true).count false≤fuel:=by
   have hli:listed[i]=false:=by simpa [Array.getD_eq_getD_getElem?,hin] using hun
   rw [Array.setIfInBounds_def,dif_pos hin,Array.count_set hin,hli]
   simp
   omega
  have hq': ∀j,j<ops.size→Cm.testBit j=false→Um.testBit j=false→(listed.setIfInBounds i true).getD j true=true:=by
   intro j hj h1 h2
   rw [qB _ _ _ hin]
   split
   ·rfl
   ·exact hq j hj h1 h2
  cases hC:Cm.testBit i with
  |false=>
   have hU:Um.testBit i=true:=by
    cases hU:Um.testBit i with
    |true=>rfl
    |false=>rw [hq i hlt hC hU] at hun;cases hun
   obtain ⟨q,hqf,hqi⟩:=hfi i hU hC hlt
   subst hqi
   have hg:=hch.guardC q.i o ho (.inr hU)
   have hroute:=hfl q hqf hun o (fun q=>listed.getD q.i true) ho (by
    intro r hr hx
    obtain ⟨cr,_,or',hor,hdr⟩:=hfo r hr
    obtain ⟨e,he,hb,hon⟩:=hch.st.look q.i o r.d r.i or' (vV ho hC) (List.mem_append_left _ (List.mem_filterMap.2 ⟨.tmp r.d,by simpa using hx,rfl⟩)) (vV hor cr) hdr
    have:=hdeps' e he hb
    rw [hon] at this
    exact this)
   refine zQF hS ho hg hroute hinv ?_
   intro a' w' hinv'
   refine ih rest b (listed.setIfInBounds q.i true) a' w' (by simpa using hls) hcnt' hcl' hq' ?_ hsort hchain ?_ hlen ?_
   ·intro c
    rw [hrest c,qB _ _ _ hin]
    constructor
    ·rintro ⟨h1,h2,h3⟩
     refine ⟨h1,h2,?_⟩
     rw [if_neg (fun hh=>by rw [hh,hC] at h2;cases h2)];exact h3
    ·rintro ⟨h1,h2,h3⟩
     refine ⟨h1,h2,?_⟩
     rwa [if_neg (fun hh=>by rw [hh,hC] at h2;cases h2)] at h3
   ·intro r hr hl
    refine hfl r hr ?_
    rw [qB _ _ _ hin] at hl
    split at hl
    ·cases hl
    ·exact hl
   ·have:=zPx (e:=b) (fl:=fl) (by rw [hlen];exact hflok) (fun q=>listed.getD q.i true) (fun r=>(listed.setIfInBounds q.i true).getD r.i true) hqf (by
     intro r hr
     show (listed.setIfInBounds q.i true).getD r.i true=true↔_
     rw [qB _ _ _ hin]
     split
     ·rename_i h;simp only [true_iff];exact .inr ((hfd r q hr hqf).2 h)
     ·rename_i h
      constructor
      ·intro h1;exact .inl h1
      ·rintro (h1|h1)
       ·exact h1
       ·exact absurd ((hfd r q hr hqf).1 h1) h) hun
    rw [←this];exact hinv'
  |true=>
   have hmem:i∈rest:=(hrest i).2 ⟨hlt,hC,hun⟩
   cases hchain with
   |nil=>cases hmem
   |cons hoc hr hops hst hfl1 hrest1=>
    rename_i c rest1 b1 oc
    have hcr:=(hrest c).1 (by simp)
    have hic:i=c:=by
     rcases Nat.lt_trichotomy i c with h|h|h
     ·exfalso
      have hs:=List.pairwise_cons.1 hsort
      rcases List.mem_cons.1 hmem with hh|hh
      ·omega
      ·have:=hs.1 i hh;omega
     ·exact h
     ·exfalso
      have hb:=hch.before i o ho hC c hcr.1 (.inl ⟨hcr.2.1,h⟩)
      have:=hch.up (fun j=>listed.getD j true=true) hcl i o ho hdeps' c hb.1 hb.2
      rw [hcr.2.2] at this;cases this
    subst hic
    rw [ho] at hoc
    cases hoc
    have hg:=hch.guardC i o ho (.inl hC)
    have hA: ∀q,q∈fl→((anc.getD i 0).testBit q.i&&decide (q.i<i))=true→listed.getD q.i true=true:=by
     intro q hq hb
     simp only [Bool.and_eq_true,decide_eq_true_eq] at hb
     exact hch.up (fun j=>listed.getD j true=true) hcl i o ho hdeps' q.i hb.2 hb.1
    have hroute:=zPu (p:=fun q=>listed.getD q.i true) (by rw [hlen];exact hflok) hA hops hr hst
    refine zQF hS ho hg hroute hinv ?_
    intro a' w' hinv'
    have hs:=List.pairwise_cons.1 hsort
    refine ih rest1 b1 (listed.setIfInBounds i true) a' w' (by simpa using hls) hcnt' hcl' hq' ?_ hs.2 hrest1 ?_ ?_ ?_
    ·intro c
     rw [qB _ _ _ hin]
     constructor
     ·intro hc
      obtain ⟨h1,h2,h3⟩:=(hrest c).1 (List.mem_cons_of_mem _ hc)
      have:=hs.1 c hc
      refine ⟨h1,h2,?_⟩
      rw [if_neg (by omega)];exact h3
     ·rintro ⟨h1,h2,h3⟩
      split at h3
      ·cases h3
      ·rename_i hne
       rcases List.mem_cons.1 ((hrest c).2 ⟨h1,h2,h3⟩) with hh|hh
       ·exact absurd hh hne
       ·exact hh
    ·intro q hq hl
     rw [qB _ _ _ hin] at hl
     split at hl
     ·cases hl
     ·refine hfl1 q hq ?_
      cases hb:((anc.getD i 0).testBit q.i&&decide (q.i<i)) with
      |false=>rfl
      |true=>rw [hA q hq hb] at hl;cases hl
    ·rw [hr.len,zCn];exact hlen
    ·have heq:fl.filter (fun q=>(listed.setIfInBounds i true).getD q.i true)=fl.filter (fun q=>listed.getD q.i true):=by
      apply List.filter_congr
      intro q hq
      rw [qB _ _ _ hin]
      rw [if_neg (fun hh=>by have:=(hfo q hq).1;rw [hh,hC] at this;cases this)]
     rw [heq];exact hinv'
end
end Go.Ve

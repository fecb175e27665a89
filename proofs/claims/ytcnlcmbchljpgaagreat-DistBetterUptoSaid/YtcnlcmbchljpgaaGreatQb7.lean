/-
  The evaluator over pure values, part 22: the same evaluation, each state written out before the next step: for the kernel.
  The evaluator over pure values, part 23: the program's tables as trees, for the kernel.
  Conditions out of code, part 1: operations. What an operation comes to on a state with open data, as a condition on what follows.
  Conditions out of code, part 2: writing operations, regions.
  Conditions out of code, part 3: statements, loops, functions.
  Conditions out of code, part 4: contracts over typed data; tables of contracts.
  Functions out of code, part 1: operations. What an operation on open data comes to, as a partial value of what follows.
  Functions out of code, part 2: what stays; writing operations, regions.
  Drawn regions that write, part 1: what an operation does to a state, whatever else the state holds.
  Drawn regions that write, part 2: floating operations; the chain of what writes.
-/
import Derived.Test.YtcnlcmbchljpgaaGreatQb6
set_option linter.unusedVariables false
namespace Go.Ve
open Go
section
variable {β:Type}
def fL {α:Type} (f:α→(α→β)→β):List α→(List α→β)→β
 |[],k=>k []
 |x::r,k=>f x (fun x=>fL f r (fun r=>k (x::r)))
def zXR:Int→(Int→β)→β
 | .ofNat m,k=>k (.ofNat m)
 | .negSucc m,k=>k (.negSucc m)
def zXx:Value→(Value→β)→β
 | .int q n,k=>zXR n (fun n=>k (.int q n))
 | .bool true,k=>k (.bool true)
 | .bool false,k=>k (.bool false)
 |v,k=>k v
def fV:Nat→V→(V→β)→β
 |0,d,k=>k d
 |_+1, .val v,k=>zXx v (fun v=>k (.val v))
 |n+1, .agg cs,k=>fL (fV n) cs (fun cs=>k (.agg cs))
 |n+1, .sl cs,k=>fL (fV n) cs (fun cs=>k (.sl cs))
 |n+1, .tup cs,k=>fL (fV n) cs (fun cs=>k (.tup cs))
 |n+1, .pp cs,k=>fL (fV n) cs (fun cs=>k (.pp cs))
 |n+1, .clo f cs,k=>fL (fV n) cs (fun cs=>k (.clo f cs))
 |_+1, .tl t xs,k=>k (.tl t xs)
 |_+1, .rf o,k=>k (.rf o)
 |_+1, .bot,k=>k .bot
def fT:T→(T→β)→β
 | .p d,k=>fV 8 d (fun d=>k (.p d))
 | .ow i q es,k=>fL (fV 8) es (fun es=>k (.ow i q es))
 | .oe i q es j off,k=>fL (fV 8) es (fun es=>k (.oe i q es j off))
 | .lp s off,k=>k (.lp s off)
 | .mp i es ck,k=>k (.mp i es ck)
 | .ot i t xs,k=>k (.ot i t xs)
 | .oet i t xs j off,k=>k (.oet i t xs j off)
 | .ov i t xs j off,k=>k (.ov i t xs j off)
 | .on n,k=>k (.on n)
 | .emp,k=>k .emp
 | .dead,k=>k .dead
def fAt {α:Type} (f:α→(α→β)→β):Nat→List α→(List α→β)→β
 |_,[],k=>k []
 |0,x::r,k=>f x (fun x=>k (x::r))
 |n+1,x::r,k=>fAt f n r (fun r=>k (x::r))
def fO:Option (List T)→(Option (List T)→β)→β
 |none,k=>k none
 |some cs,k=>fL (fun x k=>k x) cs (fun cs=>k (some cs))
def zUY {St:Type} (d:Nat) (e:Env St) (k:Env St→β):β:=
 match e with
 |⟨tm,vars,st⟩=>fAt (fun x k=>fT x k) d tm (fun tm=>k ⟨tm,vars,st⟩)
def zL0 {St:Type} (e:Env St) (k:Env St→β):β:=
 match e with
 |⟨tm,vars,st⟩=>fL (fun x k=>fT x k) tm (fun tm=>fL fO vars (fun vars=>k ⟨tm,vars,st⟩))
theorem zLZ {α:Type} {f:α→(α→β)→β} (hf: ∀x k,f x k=k x): ∀ (l:List α) (k:List α→β),fL f l k=k l:=by
 intro l
 induction l with
 |nil=>intro k;rfl
 |cons x l ih=>intro k;simp only [fL,hf,ih]
theorem zWa (v:Value) (k:Value→β):zXx v k=k v:=by
 cases v with
 |int q n=>cases n<;>rfl
 |bool b=>cases b<;>rfl
 |_=>rfl
theorem zQc: ∀ (n:Nat) (d:V) (k:V→β),fV n d k=k d:=by
 intro n
 induction n with
 |zero=>intro d k;rfl
 |succ n ih=>
  intro d k
  cases d<;>simp only [fV]
  ·exact zWa _ _
  all_goals (first|exact zLZ ih _ _|rfl)
theorem zWw (x:T) (k:T→β):fT x k=k x:=by
 cases x<;>simp only [fT]
 ·exact zQc _ _ _
 ·exact zLZ (zQc 8) _ _
 ·exact zLZ (zQc 8) _ _
theorem zW1 {α:Type} {f:α→(α→β)→β} (hf: ∀x k,f x k=k x): ∀ (n:Nat) (l:List α) (k:List α→β),fAt f n l k=k l:=by
 intro n l
 induction l generalizing n with
 |nil=>intro k;cases n<;>rfl
 |cons x l ih=>
  intro k
  cases n with
  |zero=>simp only [fAt,hf]
  |succ n=>simp only [fAt];exact ih n _
theorem zXy (x:Option (List T)) (k:Option (List T)→β):fO x k=k x:=by
 cases x with
 |none=>rfl
 |some cs=>simp only [fO];exact zLZ (fun _ _=>rfl) _ _
theorem zSG {St:Type} (d:Nat) (e:Env St) (k:Env St→β):zUY d e k=k e:=by
 simp only [zUY]
 rw [zW1 zWw]
theorem zIm {St:Type} (e:Env St) (k:Env St→β):zL0 e k=k e:=by
 simp only [zL0]
 rw [zLZ zWw,zLZ zXy]
def fOp {St:Type} (o:Oper) (e:Env St) (k:Env St→β):β:=
 match o.op with
 | .box _ _| .alloc _| .store _ _ _| .makeFunc _ _ _| .makeSlice _ _ _| .build _ _| .slice _ _ _ _ _=>zL0 e k
 | .call c=>match c.callee with
  | .builtin .len=>zUY (o.dst.getD 0) e k
  |_=>zL0 e k
 |_=>zUY (o.dst.getD 0) e k
theorem zUX {St:Type} (o:Oper) (e:Env St) (k:Env St→β):fOp o e k=k e:=by
 unfold fOp
 split<;>(try split)<;>first|exact zIm _ _|exact zSG _ _ _
end
section
variable {Γ:Sig} (P:jG) (G:Nat→Option (List V)) (S:jD Γ)
def zL4 (ops:Array Oper):List Oper→Env Γ.St→Option (Env Γ.St)
 |[],e=>some e
 |o::rest,e=>match zL3 P G S ops e o with
  |some e1=>fOp o e1 (fun e1=>zL4 ops rest e1)
  |none=>none
def zIw (ops:Array Oper):List Oper→Env Γ.St→Option (Env Γ.St)
 |[],e=>some e
 |o::rest,e=>match jH ops e o with
  |some true=>if zIW G (z1 (o::rest)) e o then
    match evQ P G S e o with
    |some r=>match zFr e o.dst r with
     |some e1=>fOp o e1 (fun e1=>zIw ops rest e1)
     |none=>none
    |none=>none
   else none
  |some false=>zUY (o.dst.getD 0) (e.put o.dst (.p (.val undef))) (fun e1=>zIw ops rest e1)
  |none=>none
def zOI (ops:Array Oper) (e:Env Γ.St):Option (Env Γ.St):=
 if zJw ops then zL0 (killAll (z1 ops.toList) e) (fun e=>zIw P G S ops ops.toList e) else none
def zIo (ops:Array Oper) (k:Nat) (e:Env Γ.St):Option (Env Γ.St):=
 match zOI P G S (ops.extract 0 k) e with
 |some e1=>zL4 P G S ops (ops.toList.drop k) e1
 |none=>none
def zL9 (ops:Array Oper) (e:Env Γ.St):Option (Env Γ.St):=
 if zA1 ops.toList≤ops.size&&zET ops (zA1 ops.toList)&&zDY ops (zA1 ops.toList) then
  match zIo P G S ops (zA1 ops.toList) e with
  |some e1=>some e1
  |none=>zL0 (frzOps G (yY ops.toList) e) (fun e=>zIo P G S ops (zA1 ops.toList) e)
 else none
def v8:Nat→Code→Env Γ.St→Option (X×Env Γ.St)
 |0,_,_=>none
 |_+1, .skip,e=>some (.normal,e)
 |n+1, .seq x y,e=>match v8 n x e with
  |some (.normal,e1)=>v8 n y e1
  |r=>r
 |n+1, .cond c x y,e=>match evx G e c with
  | .p (.val (.bool true))=>v8 n x e
  | .p (.val (.bool false))=>v8 n y e
  |_=>none
 |n+1, .block id c,e=>match v8 n c e with
  |some (k,e1)=>some (k.out id,e1)
  |none=>none
 |n+1, .loop c,e=>match v8 n c e with
  |some (.normal,e1)=>v8 n (.loop c) e1
  |r=>r
 |_+1, .exit id,e=>some (.exit id,e)
 |_+1, .ret,e=>some (.ret,e)
 |_+1, .region _ ops false,e=>match zL4 P G S ops ops.toList e with
  |some e1=>some (.normal,e1)
  |none=>none
 |_+1, .region _ ops true,e=>match zL9 P G S ops e with
  |some e1=>some (.normal,e1)
  |none=>none
 |_,_,_=>none
def fRV {β:Type} :RV→(RV→β)→β
 | .p d,k=>fV 8 d (fun d=>k (.p d))
 | .own es,k=>fL (fV 8) es (fun es=>k (.own es))
 | .ownT t xs,k=>k (.ownT t xs)
def zVM (fn:Func) (e':Env Γ.St):Option (Γ.St×RV):=
 match zBK P e' fn with
 |some r=>fRV r (fun r=>some (e'.st,r))
 |none=>none
def zU4 (n:Nat) (fn:Func) (s:Γ.St) (ds:List V):Option (Γ.St×RV):=
 match fn.body with
 |some c=>zL0 (start fn.ntmps s ds) (fun e=>match v8 P G S n c e with
  |some (.normal,e')=>zVM P fn e'
  |some (.ret,e')=>zVM P fn e'
  |_=>none)
 |none=>none
def zOc (Xs:jD Γ) (k:Nat):Nat→jD Γ
 |0=>Xs
 |n+1=>fun f s ds=>match Xs f s ds with
  |some r=>some r
  |none=>match zCg ds with
   |true=>none
   |false=>match P.fn f with
    |some fn=>zU4 P G (zOc Xs k n) k fn s ds
    |none=>none
variable {P G S}
theorem zNJ (ops:Array Oper): ∀ (l:List Oper) (e:Env Γ.St),zL4 P G S ops l e=zIn P G S ops l e:=by
 intro l
 induction l with
 |nil=>intro e;rfl
 |cons o l ih=>
  intro e
  simp only [zL4,zIn,zUX]
  cases zL3 P G S ops e o with
  |none=>rfl
  |some e1=>exact ih e1
theorem zRR (ops:Array Oper): ∀ (l:List Oper) (e:Env Γ.St),zIw P G S ops l e=zAa P G S ops l e:=by
 intro l
 induction l with
 |nil=>intro e;rfl
 |cons o l ih=>
  intro e
  simp only [zIw,zAa,zSG,zUX,ih]
  cases jH ops e o with
  |none=>rfl
  |some b=>
   cases b with
   |false=>rfl
   |true=>
    simp only
    split
    ·cases evQ P G S e o with
     |none=>rfl
     |some r=>simp only;cases zFr e o.dst r<;>rfl
    ·rfl
theorem zQh (ops:Array Oper) (e:Env Γ.St):zL9 P G S ops e=zFQ P G S ops e:=by
 have h1: ∀ops (e:Env Γ.St),zOI P G S ops e=zG3 P G S ops e:=by
  intro ops e;simp only [zOI,zG3,zIm,zRR]
 have h2: ∀ops k (e:Env Γ.St),zIo P G S ops k e=zD4 P G S ops k e:=by
  intro ops k e;simp only [zIo,zD4,h1,zNJ];cases zG3 P G S (ops.extract 0 k) e<;>rfl
 simp only [zL9,zFQ,h2,zIm]
 split
 ·cases zD4 P G S ops (zA1 ops.toList) e<;>rfl
 ·rfl
theorem zRM: ∀ (n:Nat) (c:Code) (e:Env Γ.St),v8 P G S n c e=vT P G S n c e:=by
 intro n
 induction n with
 |zero=>intro c e;simp [v8,vT]
 |succ n ih=>
  intro c e
  cases c with
  |region id ops draw=>cases draw<;>(simp only [v8,vT,zNJ,zQh];rfl)
  |seq x y=>simp only [v8,vT,ih];rfl
  |cond c x y=>simp only [v8,vT,ih];rfl
  |block id c=>simp only [v8,vT,ih];rfl
  |loop c=>simp only [v8,vT,ih];rfl
  |_=>simp only [v8,vT]
theorem zW0 {β:Type} (r:RV) (k:RV→β):fRV r k=k r:=by
 cases r with
 |p d=>exact zQc _ _ _
 |own es=>exact zLZ (zQc 8) _ _
 |ownT t xs=>rfl
theorem zU3 (n:Nat) (fn:Func) (s:Γ.St) (ds:List V):zU4 P G S n fn s ds=zQg P G S n fn s ds:=by
 have hr: ∀e':Env Γ.St,zVM P fn e'=(zBK P e' fn).map (fun r=>(e'.st,r)):=by
  intro e'
  simp only [zVM,zW0]
  cases zBK P e' fn<;>rfl
 simp only [zU4,zQg,zIm,zRM,hr]
 rfl
theorem zVJ (Xs:jD Γ) (k:Nat): ∀n,zOc P G Xs k n=zKc P G Xs k n:=by
 intro n
 induction n with
 |zero=>rfl
 |succ n ih=>
  funext f s ds
  simp only [zOc,zKc,zU3,ih]
  cases Xs f s ds with
  |some r=>rfl
  |none=>cases zCg ds with
   |true=>rfl
   |false=>cases P.fn f<;>rfl
end
section
variable {Γ:Sig} {P:Program} {G:Nat→Option (List V)}
theorem zQ1 (hm:P.follows .mixedOrders=true) (hn:zKJ P=true) {Xs:jD Γ} (hX:z7 Γ P G Xs) (k n:Nat):z7 Γ P G (zOc P G Xs k n):=by
 rw [zVJ];exact zQY hm hn hX k n
end
end Go.Ve

namespace Go.Ve
open Go
inductive Tr (α:Type) where
 |nil
 |node (v:α) (l r:Tr α)
def zKo {α:Type} :List α→List α
 |[]=>[]
 |[_]=>[]
 |_::y::r=>y::zKo r
def zEp {α:Type} :List α→List α
 |[]=>[]
 |[x]=>[x]
 |x::_::r=>x::zEp r
def Tr.ofList {α:Type} :Nat→List α→Tr α
 |0,_=> .nil
 |_+1,[]=> .nil
 |n+1,x::r=> .node x (Tr.ofList n (zEp r)) (Tr.ofList n (zKo r))
def Tr.get {α:Type} :Tr α→Nat→Option α
 | .nil,_=>none
 | .node v l r,n=>match Nat.beq n 0 with
  |true=>some v
  |false=>match Nat.beq ((n-1)%2) 0 with
   |true=>l.get ((n-1) / 2)
   |false=>r.get ((n-1) / 2)
theorem zTt {α:Type} : ∀ (l:List α) (i:Nat),(zEp l)[i]? =l[2*i]? :=by
 intro l
 induction l using zEp.induct with
 |case1=>intro i;simp [zEp]
 |case2 x=>intro i;cases i with
  |zero=>rfl
  |succ i=>simp [zEp]
 |case3 x y r ih=>intro i;cases i with
  |zero=>rfl
  |succ i=>simp only [zEp,List.getElem?_cons_succ,ih];rw [show 2*(i+1)=2*i+1+1 by omega];simp
theorem zUB {α:Type} : ∀ (l:List α) (i:Nat),(zKo l)[i]? =l[2*i+1]? :=by
 intro l
 induction l using zKo.induct with
 |case1=>intro i;simp [zKo]
 |case2 x=>intro i;simp [zKo]
 |case3 x y r ih=>intro i;cases i with
  |zero=>rfl
  |succ i=>simp only [zKo,List.getElem?_cons_succ,ih];rw [show 2*(i+1)=2*i+1+1 by omega];simp
theorem zTs {α:Type} : ∀ (l:List α),(zEp l).length≤l.length:=by
 intro l
 induction l using zEp.induct with
 |case1=>simp [zEp]
 |case2 x=>simp [zEp]
 |case3 x y r ih=>simp [zEp];omega
theorem zUA {α:Type} : ∀ (l:List α),(zKo l).length≤l.length:=by
 intro l
 induction l using zKo.induct with
 |case1=>simp [zKo]
 |case2 x=>simp [zKo]
 |case3 x y r ih=>simp [zKo];omega
theorem Tr.get_ofList {α:Type} : ∀ (n:Nat) (l:List α) (i:Nat),l.length≤n→(Tr.ofList n l).get i=l[i]? :=by
 intro n
 induction n with
 |zero=>intro l i h;cases l with
  |nil=>rfl
  |cons x l=>simp at h
 |succ n ih=>
  intro l i h
  cases l with
  |nil=>simp [Tr.ofList,Tr.get]
  |cons x r=>
   simp only [List.length_cons] at h
   simp only [Tr.ofList,Tr.get]
   cases i with
   |zero=>rfl
   |succ i=>
    have h0:Nat.beq (i+1) 0=false:=rfl
    simp only [h0,Nat.add_sub_cancel]
    cases hb:Nat.beq (i%2) 0 with
    |true=>
     have:=Nat.eq_of_beq_eq_true hb
     simp only
     rw [ih _ _ (by have:=zTs r;omega),zTt,List.getElem?_cons_succ,show 2*(i / 2)=i by omega]
    |false=>
     have:=Nat.ne_of_beq_eq_false hb
     simp only
     rw [ih _ _ (by have:=zUA r;omega),zUB,List.getElem?_cons_succ,show 2*(i / 2)+1=i by omega]
def zVA (P:Program) (n:Nat):Tr (Option TypeDesc):=Tr.ofList n ((List.range n).map P.underlying)
def zV2 (P:Program) (n:Nat):Tr (Option TypeInfo):=Tr.ofList n ((List.range n).map P.info?)
def zWC (P:Program) (n:Nat):Tr (Option Ty):=Tr.ofList n ((List.range n).map (zQq P))
def zWZ (P:Program) (n:Nat):Tr (Option Func):=Tr.ofList n ((List.range n).map (fun f=>P.funcs[f]?))
def zIY {β:Type} (x:Option β) (y:β):β:=
 match x with
 |some d=>d
 |none=>y
def jG.fast (P:Program) (nt nf:Nat):jG where
 P:=P
 und:=fun t=>zIY ((zVA P nt).get t) (P.underlying t)
 inf:=fun t=>zIY ((zV2 P nt).get t) (P.info? t)
 fn:=fun t=>zIY ((zWZ P nf).get t) P.funcs[t]?
 ty:=fun t=>zIY ((zWC P nt).get t) (zQq P t)
theorem zKF {β:Type} (f:Nat→β) (n t:Nat):zIY ((Tr.ofList n ((List.range n).map f)).get t) (f t)=f t:=by
 rw [Tr.get_ofList n _ t (by simp)]
 by_cases h:t<n
 ·simp [h,zIY]
 ·rw [List.getElem?_eq_none (by simp;omega)];rfl
theorem jG.fast_eq (P:Program) (nt nf:Nat):jG.fast P nt nf=jG.of P:=by
 unfold jG.fast jG.of
 congr 1
 ·funext t;exact zKF P.underlying nt t
 ·funext t;exact zKF P.info? nt t
 ·funext t;exact zKF (fun f=>P.funcs[f]?) nf t
 ·funext t;exact zKF (zQq P) nt t
theorem zDD {Γ:Sig} {P:Program} {G:Nat→Option (List V)} (hm:P.follows .mixedOrders=true) (hn:zKJ P=true) {Xs:jD Γ} (hX:z7 Γ P G Xs) (nt nf k n:Nat):
  z7 Γ P G (zOc (jG.fast P nt nf) G Xs k n):=by
 rw [jG.fast_eq];exact zQ1 hm hn hX k n
end Go.Ve

namespace Go.Ve
open Go
abbrev zJB (Γ:Sig):=FuncId→Γ.St→List V→Option (Prop×Γ.St×RV)
open Classical in
def zVi:BinOp→(k:IntKind)→Int→Int→Option Int
 | .and,k,a,b=>some (k.wrap (BitVec.ofInt k.bits a&&&BitVec.ofInt k.bits b).toNat)
 | .or,k,a,b=>some (k.wrap (BitVec.ofInt k.bits a|||BitVec.ofInt k.bits b).toNat)
 | .xor,k,a,b=>some (k.wrap (BitVec.ofInt k.bits a^^^BitVec.ofInt k.bits b).toNat)
 | .andNot,k,a,b=>some (k.wrap (BitVec.ofInt k.bits a&&& ~~~ BitVec.ofInt k.bits b).toNat)
 |_,_,_,_=>none
section
variable {Γ:Sig} (P:jG) (G:Nat→Option (List V)) (S:zJB Γ)
abbrev Kq (Γ:Sig):=(R Γ.St→Prop)→Prop
abbrev Ke (Γ:Sig):=(Env Γ.St→Prop)→Prop
def zME (k:IntKind) (n:Int):R Γ.St:= .ret (.p (.val (.int k n)))
def zOi (b:Bool):R Γ.St:= .ret (.p (.val (.bool b)))
variable {P G S}
end
section
variable {Γ:Sig} {P:Program} {G:Nat→Option (List V)} {S:zJB Γ} {e:Env Γ.St} {o:Oper}
theorem zE1 {α β:Type} {s:Sem α} {a:α} (h:qN P s=some a) (f:α→Sem β):qN P (s>>=f)=qN P (f a):=by
 change qN P (s.bind f)=_
 induction s with
 |pure b=>simp only [qN,Option.some.injEq] at h;subst h;rfl
 |program k ih=>exact ih P h
 |_=>simp [qN] at h
theorem zHS {t:TypeId} {d:TypeDesc} (h:P.underlying t=some d):qN P (underlying t)=some d:=by
 show qN P (match P.underlying t with | some d => pure d | none => stuck "no such type" : Sem TypeDesc) = _
 rw [h];rfl
theorem zFP {v:Value} (h1:o.op.operands.toList.all (fun x=>(wV (evx G e x)).isSome)=true)
  (h2:qN P (execOp (fun x=>(wV (evx G e x)).getD undef) o)=some (.value v)):kM P G e o=some (.ret (.p (V.ofVal v)):R Γ.St):=by
 unfold kM
 rw [if_pos h1]
 have h3:qN (jG.of P).P (execOp (fun x=>(wV (evx G e x)).getD undef) o)=some (.value v):=h2
 rw [h3]
end
end Go.Ve

namespace Go.Ve
open Go
section
variable {β:Type 1}
end
section
variable {Γ:Sig} (P:jG) (G:Nat→Option (List V)) (S:zJB Γ)
def Env.lit (e:Env Γ.St) (t:Nat) (b:Bool):Env Γ.St:= { e with tm:=e.tm.set t (.p (.val (.bool b))) }
end
section
variable {Γ:Sig} {P:Program} {G:Nat→Option (List V)} {S:zJB Γ} {e:Env Γ.St} {o:Oper} {K:Env Γ.St→Prop} {ops:Array Oper}
theorem zE8 {t:Nat} {b:Bool} (h:e.get t= .p (.val (.bool b))):e.lit t b=e:=by
 obtain ⟨tm,vars,st⟩:=e
 simp only [Env.lit,Env.mk.injEq,and_true]
 refine List.ext_getElem? (fun i=> ?_)
 simp only [Env.get,List.getD_eq_getElem?_getD] at h
 by_cases hi:t=i
 ·subst hi
  rcases Nat.lt_or_ge t tm.length with hl|hl
  ·rw [List.getElem?_set_self hl]
   rw [List.getElem?_eq_getElem hl,Option.getD_some] at h
   rw [List.getElem?_eq_getElem hl,h]
  ·rw [List.getElem?_eq_none (by simpa using hl),List.getElem?_eq_none hl]
 ·rw [List.getElem?_set_ne hi]
end
end Go.Ve

namespace Go.Ve
open Go
def zDs (t t':Ty) (xs:List t.El):Option (List t'.El):=if h:t=t' then some (h▸xs) else none
def zP8 (t t':Ty) (xs:List t.El) (ys:List t'.El):Prop:=
 match zDs t t' xs with
 |some zs=>zs=ys
 |none=>False
def zOD:Value→Value→Prop
 | .int k n, .int k' m=>if k=k' then n=m else False
 | .bool a, .bool b=>a=b
 | .string a, .string b=>a=b
 |a,b=>a=b
def zOE {α:Type} (f:α→α→Prop):List α→List α→Prop
 |[],[]=>True
 |x::xs,y::ys=>f x y∧zOE f xs ys
 |_,_=>False
def zRD:Nat→V→V→Prop
 |0,x,y=>x=y
 |_+1, .val (.slice none 0 0), .tl _ ys=>ys=[]
 |_+1, .sl [], .tl _ ys=>ys=[]
 |_+1, .val a, .val b=>zOD a b
 |_+1, .tl t xs, .tl t' ys=>zP8 t t' xs ys
 |n+1, .agg cs, .agg ds=>zOE (zRD n) cs ds
 |n+1, .tup cs, .tup ds=>zOE (zRD n) cs ds
 |_+1,x,y=>x=y
def zXZ:T→T→Prop
 |_, .dead=>True
 | .p (.val (.slice none 0 0)), .ot _ _ ys=>ys=[]
 | .emp, .ot _ _ ys=>ys=[]
 | .ot i t xs, .ot j t' ys=>if i=j then zP8 t t' xs ys else False
 | .p d, .p d'=>zRD 6 d d'
 | .lp s off, .lp s' off'=>if s=s'∧off=off' then True else False
 |x,y=>x=y
def zEo {St:Type} (e:Env St):T→Bool
 | .lp s _=>(e.var s).isSome
 |_=>true
theorem yG {t t':Ty} {xs:List t.El} {ys:List t'.El} (h:zP8 t t' xs ys): ∃ht:t=t',(ht▸xs)=ys:=by
 unfold zP8 zDs at h
 split at h
 ·rename_i zs hz
  split at hz
  ·rename_i ht
   simp only [Option.some.injEq] at hz
   exact ⟨ht,hz.trans h⟩
  ·cases hz
 ·exact h.elim
theorem zRE {a b:Value} (h:zOD a b):a=b:=by
 unfold zOD at h
 split at h
 ·split at h
  ·rename_i hk;rw [hk,h]
  ·exact h.elim
 ·rw [h]
 ·rw [h]
 ·exact h
theorem zJa {f:V→V→Prop} (hf: ∀x y,f x y→WkV x y): ∀ (xs ys:List V),zOE f xs ys→j5 xs ys
 |[],[],_=>trivial
 |x::xs,y::ys,h=>⟨hf x y h.1,zJa hf xs ys h.2⟩
 |[],_::_,h=>h.elim
 |_::_,[],h=>h.elim
theorem WkV.tup {xs ys:List V} (h:j5 xs ys):WkV (.tup xs) (.tup ys):=by
 intro w F v hr
 cases hr with
 |tup cs ds hl h0=>
  refine .tup cs ys (hl.trans h.len) ?_
  intro i x d hi hd
  have hlt:i<xs.length:=by rw [h.len];exact (List.getElem?_eq_some_iff.1 hd).1
  exact h.get i xs[i] d (by simp [hlt]) hd w F x (h0 i x xs[i] hi (by simp [hlt]))
theorem zRC: ∀ (n:Nat) (x y:V),zRD n x y→WkV x y:=by
 intro n
 induction n with
 |zero=>intro x y h;simp only [zRD] at h;subst h;exact .refl _
 |succ n ih=>
  intro x y h
  unfold zRD at h
  split at h
  ·cases ‹_=0›
  ·subst h;intro w F v hr;rw [Rd.eq_val hr];exact .tl _ [] _ (.slemp none 0)
  ·subst h;intro w F v hr;exact .tl _ [] _ hr
  ·rw [zRE h];exact .refl _
  ·obtain ⟨ht,h⟩:=yG h;subst ht;subst h;exact .refl _
  ·rename_i m cs ds heq
   simp only [Nat.succ_eq_add_one,Nat.add_right_cancel_iff] at heq
   subst heq
   exact WkV.agg (zJa ih cs ds h)
  ·rename_i m cs ds heq
   simp only [Nat.succ_eq_add_one,Nat.add_right_cancel_iff] at heq
   subst heq
   exact WkV.tup (zJa ih cs ds h)
  ·subst h;exact .refl _
section
variable {Γ:Sig} {P:Program} {G:Nat→Option (List V)} {w0:World} {F0:Blk→Prop} {O0:kU} {a:Act} {w:World} {e e2:Env Γ.St}
end
structure zXE (St:Type) where
 σ:Type
 get:Env St→Option σ
 env:σ→Env St
 inv:σ→Prop
 mes:σ→Nat
def zLL:Code→Option Nat
 | .region id _ _=>some id
 | .seq a b=>match zLL a with
  |some n=>some n
  |none=>zLL b
 | .cond _ a b=>match zLL a with
  |some n=>some n
  |none=>zLL b
 | .block _ a=>zLL a
 | .loop a=>zLL a
 |_=>none
section
variable {Γ:Sig} (P:jG) (G:Nat→Option (List V)) (S:zJB Γ) (A:Nat→Option (zXE Γ.St))
end
section
variable {Γ:Sig} {P:Program} {G:Nat→Option (List V)} {S:zJB Γ} {A:Nat→Option (zXE Γ.St)}
def jE (P:Program) (G:Nat→Option (List V)) (c:Code) (e:Env Γ.St) (k:X) (e1:Env Γ.St):Prop:=
 ∀ (w0:World) (F0:Blk→Prop) (O0:kU) (a:Act) (w:World),Inv Γ G w0 F0 O0 a w e→c.wp P (fun ex a' w'=>ex=k.toExit∧Inv Γ G w0 F0 O0 a' w' e1) a w
def zWo (P:Program) (c:Code) (Q:Exit→Act→World→Prop) (a:Act) (w:World):Prop:=
 ∀ (b:Frame) (k:List Item) (cs:List Frame), ∃e a' w',Q e a' w'∧Arrives P (lone (b.at a (.code c:: .inLoop c::k)) cs w) b k cs e a' w'
def zBd (P:Program) (G:Nat→Option (List V)) (c:Code) (e:Env Γ.St) (k:X) (e1:Env Γ.St):Prop:=
 ∀ (w0:World) (F0:Blk→Prop) (O0:kU) (a:Act) (w:World),Inv Γ G w0 F0 O0 a w e→zWo P c (fun ex a' w'=>ex=k.toExit∧Inv Γ G w0 F0 O0 a' w' e1) a w
theorem jE.skip (e:Env Γ.St):jE P G .skip e .normal e:=fun _ _ _ _ _ hi=>wp_skip ⟨rfl,hi⟩
theorem jE.exit (id:Nat) (e:Env Γ.St):jE P G (.exit id) e (.exit id) e:=fun _ _ _ _ _ hi=>wp_exit ⟨rfl,hi⟩
theorem jE.ret (e:Env Γ.St):jE P G .ret e .ret e:=fun _ _ _ _ _ hi=>wp_ret ⟨rfl,hi⟩
theorem jE.seqN {x y:Code} {e e1 e2:Env Γ.St} {k:X} (h1:jE P G x e .normal e1) (h2:jE P G y e1 k e2):jE P G (.seq x y) e k e2:=by
 intro w0 F0 O0 a w hi
 refine wp_seq (wp_mono (h1 w0 F0 O0 a w hi) ?_)
 rintro ex a' w' ⟨rfl,hi'⟩
 exact h2 w0 F0 O0 a' w' hi'
theorem jE.seqX {x y:Code} {e e1:Env Γ.St} {k:X} (h1:jE P G x e k e1) (hk:k≠ .normal):jE P G (.seq x y) e k e1:=by
 intro w0 F0 O0 a w hi
 refine wp_seq (wp_mono (h1 w0 F0 O0 a w hi) ?_)
 rintro ex a' w' ⟨rfl,hi'⟩
 cases k with
 |normal=>exact absurd rfl hk
 |exit id=>exact ⟨rfl,hi'⟩
 |ret=>exact ⟨rfl,hi'⟩
theorem jE.condB {c:Operand} {x y:Code} {e e1:Env Γ.St} {k:X} {b:Bool} (hc:evx G e c= .p (.val (.bool b))) (h:jE P G (if b then x else y) e k e1):jE P G (.cond c x y) e k e1:=by
 intro w0 F0 O0 a w hi
 have hw:=h w0 F0 O0 a w hi
 obtain ⟨F,O,β,hcr,hG,hsz,hdf,ht,hv⟩:=hi
 have h2:=wI (e:=e) hG ht c
 rw [hc] at h2
 cases b with
 |true=>exact wp_cond_true (Rd.eq_val h2) hw
 |false=>exact wp_cond_false (Rd.eq_val h2) hw
theorem jE.block {id:Nat} {c:Code} {e e1:Env Γ.St} {k:X} (h:jE P G c e k e1):jE P G (.block id c) e (k.out id) e1:=by
 intro w0 F0 O0 a w hi
 refine wp_block (wp_mono (h w0 F0 O0 a w hi) ?_)
 rintro ex a' w' ⟨rfl,hi'⟩
 cases k with
 |normal=>exact ⟨rfl,hi'⟩
 |exit id'=>
  simp only [X.toExit,Exit.inBlock,X.out]
  split
  ·exact ⟨rfl,hi'⟩
  ·exact ⟨rfl,hi'⟩
 |ret=>exact ⟨rfl,hi'⟩
theorem jE.loop {c:Code} {e e1:Env Γ.St} {k:X} (h:zBd P G c e k e1):jE P G (.loop c) e k e1:=by
 intro w0 F0 O0 a w hi b k' cs
 obtain ⟨ex,a',w',hq,harr⟩:=h w0 F0 O0 a w hi b k' cs
 exact ⟨ex,a',w',hq, .of_steps (.one step_loop) harr⟩
theorem zBd.last {c:Code} {e e1:Env Γ.St} {k:X} (h:jE P G c e k e1) (hk:k≠ .normal):zBd P G c e k e1:=by
 intro w0 F0 O0 a w hi b k' cs
 obtain ⟨ex,a',w',⟨rfl,hi'⟩,harr⟩:=h w0 F0 O0 a w hi b (.inLoop c::k') cs
 cases k with
 |normal=>exact absurd rfl hk
 |exit id=>exact ⟨_,a',w',⟨rfl,hi'⟩, .pass (x:= .inLoop c) rfl (fun _ _=> .inl (by simp [X.toExit])) harr⟩
 |ret=>exact ⟨_,a',w',⟨rfl,hi'⟩, .pass (x:= .inLoop c) rfl (fun _ _=> .inl (by simp [X.toExit])) harr⟩
theorem zBd.step {c:Code} {e e1 e2:Env Γ.St} {k:X} (h:jE P G c e .normal e1) (h2:zBd P G c e1 k e2):zBd P G c e k e2:=by
 intro w0 F0 O0 a w hi b k' cs
 obtain ⟨ex,a',w',⟨rfl,hi'⟩,harr⟩:=h w0 F0 O0 a w hi b (.inLoop c::k') cs
 obtain ⟨ex2,a2,w2,hq2,harr2⟩:=h2 w0 F0 O0 a' w' hi' b k' cs
 exact ⟨ex2,a2,w2,hq2, .of_steps (Steps.trans harr (.one step_inLoop)) harr2⟩
def zWv:RV→RV→Prop
 | .p (.val (.slice none 0 0)), .ownT _ ys=>ys=[]
 | .own [], .ownT _ ys=>ys=[]
 | .own [], .p (.tl _ ys)=>ys=[]
 | .ownT t xs, .ownT t' ys=>zP8 t t' xs ys
 | .ownT t xs, .p (.tl t' ys)=>zP8 t t' xs ys
 | .p d, .p d'=>zRD 7 d d'
 |_,_=>False
theorem zJS {N:Nat} {w:World} {F:Blk→Prop} {O:Nat→Prop} {v:Value} {r r':RV} (h:zWv r r') (hr:uO N w F O v r):
  ∃F':Blk→Prop,(∀b,F b→F' b)∧(∀id a n c,F' (.h id a n c)↔F (.h id a n c))∧(∀b:Nat,F' b→F b∨(N≤b∧b<w.heap.size∧ ¬O b))∧uO N w F' O v r':=by
 have same:uO N w F O v r'→ ∃F':Blk→Prop,(∀b,F b→F' b)∧(∀id a n c,F' (.h id a n c)↔F (.h id a n c))∧(∀b:Nat,F' b→F b∨(N≤b∧b<w.heap.size∧ ¬O b))∧uO N w F' O v r':=
  fun h=>⟨F,fun _ h=>h,fun _ _ _ _=>Iff.rfl,fun _ h=> .inl h,h⟩
 unfold zWv at h
 split at h
 ·subst h;exact same (.inl ⟨rfl,none,Rd.eq_val hr⟩)
 ·subst h;exact same hr
 ·subst h
  refine same ?_
  rcases hr with ⟨_,a0,rfl⟩|⟨h,_⟩
  ·exact .tl _ [] _ (.slemp a0 0)
  ·exact absurd rfl h
 ·obtain ⟨ht,h⟩:=yG h;subst ht;subst h;exact same hr
 ·obtain ⟨ht,h⟩:=yG h
  subst ht
  subst h
  rename_i t xs
  rcases hr with ⟨h0,a0,rfl⟩|⟨hne,b,cap,rfl,h1,h2,h3,h4,k,hrow⟩
  ·exact same (.tl _ _ _ (by rw [h0];exact .slemp a0 0))
  ·refine ⟨fun b'=>F b'∨b'=Blk.b b,fun _ h=> .inl h,zMu,fun b' hb=>hb.elim .inl (fun h=>by have h:=vV h;subst h;exact .inr ⟨h1,h2,h4⟩),?_⟩
   exact .tl _ _ _ (zC1 (hrow.mono (fun _ h=> .inl h) (fun _ _=>rfl) rfl) (fun _ h=>h) (.inr rfl))
 ·exact same (zRC 7 _ _ h _ _ _ hr)
 ·exact h.elim
end
end Go.Ve

namespace Go.Ve
open Go
@[reducible] def ElS:List Ty→Type
 |[]=>Unit
 |t::ts=>t.El×ElS ts
def vA:(ts:List Ty)→ElS ts→List V
 |[],_=>[]
 |t::ts,x=>t.enc x.1::vA ts x.2
def zCu:(ts:List Ty)→List V→Option (ElS ts)
 |[],[]=>some ()
 |t::ts,d::ds=>match t.dec d with
  |some x=>match zCu ts ds with
   |some xs=>some (x,xs)
   |none=>none
  |none=>none
 |_,_=>none
theorem w6: ∀ (ts:List Ty) (ds:List V) (x:ElS ts),zCu ts ds=some x→j5 ds (vA ts x)
 |[],[],_,_=>trivial
 |[],_::_,_,h=>by simp [zCu] at h
 |_::_,[],_,h=>by simp [zCu] at h
 |t::ts,d::ds,x,h=>by
  simp only [zCu] at h
  split at h
  ·rename_i y hy
   split at h
   ·rename_i ys hys
    simp only [Option.some.injEq] at h
    subst h
    exact ⟨vE hy,w6 ts ds ys hys⟩
   ·cases h
  ·cases h
def zKp (P:Program) (f:FuncId):Bool:=
 match P.funcs[f]? with
 | some fn => fn.body.isSome && !(fn.name == "runtime.NumGoroutine")
 |none=>false
end Go.Ve

namespace Go.Ve
open Go
structure zDx (St:Type) where
 ρ:Type
 m:Option ρ
 st:ρ→St
 res:ρ→RV
 pl:Bool
abbrev zQ (Γ:Sig):=FuncId→Γ.St→List V→Option (zDx Γ.St)
def zQ.toS {Γ:Sig} (S:zQ Γ):jD Γ:=fun f s ds=>
 match S f s ds with
 |some c=>c.m.map (fun y=>(c.st y,c.res y))
 |none=>none
theorem zHy {Γ:Sig} {S:zQ Γ} {f:FuncId} {s:Γ.St} {ds:List V} {c:zDx Γ.St} {y:c.ρ} (h:S f s ds=some c) (hy:c.m=some y):S.toS f s ds=some (c.st y,c.res y):=by
 simp only [zQ.toS,h,hy,Option.map_some]
def zGa {ρ:Type} (c:Bool) (x:Option ρ):Option ρ:=
 match c with
 |true=>x
 |false=>none
theorem wZ {ρ:Type} {c:Bool} {x:Option ρ} {v:ρ} :zGa c x=some v↔c=true∧x=some v:=by
 cases c<;>simp [zGa]
def idx {α:Type} (xs:List α) (i:Int):Option α:=if 0≤i then xs[i.toNat]? else none
def atN {α:Type} (xs:List α) (i:Nat):Option α:=xs[i]?
def zJy (s:ByteArray) (i:Int):Option Int:=if 0≤i then (s[i.toNat]?).map (fun b=>(b.toNat:Int)) else none
def sub {α:Type} (xs:List α) (lo hi:Int):Option (List α):=
 if 0≤lo∧lo≤hi∧hi≤xs.length then some ((xs.take hi.toNat).drop lo.toNat) else none
def app {α:Type} (bytes:Nat) (xs ys:List α):Option (List α):=
 if (2*(xs.length+ys.length)+1024)*bytes≤140737488355328 then some (xs++ys) else none
def zXu {α:Type} (bytes:Nat) (n:Int) (x:α):Option (List α):=
 if 0≤n∧n*bytes≤140737488355328 then some (List.replicate n.toNat x) else none
abbrev Kx (Γ:Sig) (ρ:Type):=(R Γ.St→Option ρ)→Option ρ
abbrev Kex (Γ:Sig) (ρ:Type):=(Env Γ.St→Option ρ)→Option ρ
def zRb:Operand→Operand→Bool
 | .tmp a, .tmp b=>Nat.beq a b
 |_,_=>false
theorem zS1 {a b:Operand} (h:zRb a b=true):a=b:=by
 unfold zRb at h
 split at h
 ·rw [Nat.eq_of_beq_eq_true h]
 ·cases h
section
variable {Γ:Sig} {ρ:Type} (P:jG) (G:Nat→Option (List V)) (S:zQ Γ)
def zWX (op:BinOp) (k:IntKind) (a b:Int):Option (Kx Γ ρ):=
 match op with
 | .add=>some (fun K=>K (zME k (k.wrap (a+b))))
 | .sub=>some (fun K=>K (zME k (k.wrap (a-b))))
 | .mul=>some (fun K=>K (zME k (k.wrap (a*b))))
 | .quo=>some (fun K=>zGa (b !=0) (K (zME k (k.wrap (a.tdiv b)))))
 | .rem=>some (fun K=>zGa (b !=0) (K (zME k (a.tmod b))))
 | .eql=>some (fun K=>K (zOi (a==b)))
 | .neq=>some (fun K=>K (zOi (a !=b)))
 | .lss=>some (fun K=>K (zOi (decide (a<b))))
 | .leq=>some (fun K=>K (zOi (decide (a≤b))))
 | .gtr=>some (fun K=>K (zOi (decide (a>b))))
 | .geq=>some (fun K=>K (zOi (decide (a≥b))))
 |op=>match zVi op k a b with
  |some n=>some (fun K=>K (zME k n))
  |none=>none
def zOa (op:BinOp) (k:IntKind) (a b:Int):Option (Kx Γ ρ):=
 match op with
 | .shl=>some (fun K=>zGa (decide (0≤b)) (K (zME k (k.wrap (a*2^min b.toNat k.bits)))))
 | .shr=>some (fun K=>zGa (decide (0≤b)) (K (zME k (a.fdiv (2^min b.toNat k.bits)))))
 |_=>none
def zJz (d:Option T) (dflt:Int):Option Int:=
 match d with
 |none=>some dflt
 |some (.p (.val (.int _ i)))=>some i
 |_=>none
def zWt (b:Bool):Value→Value→Option Value
 | .bool x, .bool y=>some (.bool (cond b x y))
 | .int k x, .int k' y=>if k=k' then some (.int k (cond b x y)) else none
 |_,_=>none
def qX (e:Env Γ.St) (o:Oper):Option (Kx Γ ρ):=
 match o.op with
 | .indexAddr t x ix=>match evx G e x,evx G e ix with
  | .p (.tl ty xs), .p (.val (.int _ i))=>match P.und t with
   |some (.slice el)=>if jA P el=some ty.size then
     some (fun K=>Option.bind (idx xs i) fun y=>K (.ret (.p (.pp (ty.cells y))))) else none
   |_=>none
  | .ot id ty xs, .p (.val (.int _ i))=>match P.und t with
   |some (.slice el)=>if jA P el=some ty.size then
     some (fun K=>Option.bind (idx xs i) fun _=>K (.ret (.oet id ty xs i.toNat 0))) else none
   |_=>none
  | .on n, .p (.val (.int _ i))=>match P.und t with
   |some (.slice el)=>match n with
    |⟨id,id2,ty,xs,j,ys, .s⟩=>if jA P el=some 1 then some (fun K=>Option.bind (idx xs i) fun _=>K (.ret (.on ⟨id,id2,ty,xs,j,ys, .p i.toNat⟩))) else none
    |⟨id,id2,ty,xs,j,ys, .r⟩=>if jA P el=some ty.size then some (fun K=>Option.bind (idx ys i) fun _=>K (.ret (.on ⟨id,id2,ty,xs,j,ys, .q i.toNat 0⟩))) else none
    |_=>none
   |_=>none
  |_,_=>none
 | .load t x=>match evx G e x with
  | .oet _ ty xs i off=>some (fun K=>Option.bind (atN xs i) fun y=>match ldV P t ((ty.cells y).drop off) with
   |some d=>K (.ret (.p d))
   |none=>none)
  | .on ⟨id,id2,ty,xs,j,ys, .p i⟩=>if zCh P t=some false then some (fun K=>zGa (decide (i=j)) (K (.ret (.on ⟨id,id2,ty,xs,j,ys, .r⟩)))) else none
  |_=>none
 | .slice t x lo hi mx=>match evx G e x,mx with
  | .p (.tl ty xs),none=>match P.und t with
   |some (.slice el)=>if jA P el=some ty.size then
     match zJz (hi.map (evx G e)) xs.length with
     |some h=>match zJz (lo.map (evx G e)) 0 with
      |some l=>some (fun K=>Option.bind (sub xs l h) fun ys=>K (.ret (.p (.tl ty ys))))
      |none=>none
     |none=>none
    else none
   |_=>none
  | .ot id ty xs,none=>match P.und t with
   |some (.slice el)=>if jA P el=some ty.size then
     match zJz (hi.map (evx G e)) xs.length with
     |some h=>match zJz (lo.map (evx G e)) 0 with
      |some l=>some (fun K=>zGa (decide (0≤l)&&decide (l≤h)&&decide (h≤xs.length)) (K (.ret (.ov id ty xs l.toNat h.toNat))))
      |none=>none
     |none=>none
    else none
   |_=>none
  |_,_=>none
 | .index t x ix=>match evx G e x,evx G e ix with
  | .p (.val (.string s)), .p (.val (.int _ i))=>match P.und t with
   |some .string=>some (fun K=>Option.bind (zJy s i) fun b=>K (zME .u8 b))
   |_=>none
  |_,_=>none
 | .binOp op t x y _=>match evx G e x,evx G e y with
  | .p (.val (.int k a)), .p (.val (.int k' b))=>match op with
   | .shl=>zOa .shl k a b
   | .shr=>zOa .shr k a b
   |op=>if k=k' then zWX op k a b else none
  | .p (.val (.string a)), .p (.val (.string b))=>match op with
   | .eql=>some (fun K=>K (zOi (a==b)))
   | .neq=>some (fun K=>K (zOi (a !=b)))
   |_=>none
  |_,_=>none
 | .pick c x y=>match evx G e c,wV (evx G e x),wV (evx G e y) with
  | .p (.val (.bool b)),some u,some v=>match zWt b u v with
   |some z=>some (fun K=>K (.ret (.p (.val z))))
   |none=>some (fun K=>cond b (K (.ret (.p (V.ofVal u)))) (K (.ret (.p (V.ofVal v)))))
  |_,_,_=>none
 | .call c=>match c.callee with
  | .value f=>match evx G e f,zIB G e c.args.toList with
   | .p (.clo g caps),some ds=>match S g e.st (ds++caps) with
    |some cx=>if c.args.toList.any (fun x=>(evx G e x).isView)&& !cx.pl then none else some (fun K=>Option.bind cx.m fun y=>
      match (c.args.toList.any (fun x=>(evx G e x).isView))&& !(cx.res y).plain with
      |true=>none
      |false=>K (.call (cx.st y) (c.args.toList.any (fun x=>(evx G e x).isView)) (cx.res y)))
    |none=>none
   |_,_=>none
  | .builtin .append=>match c.args.toList,c.argTypes.toList with
   |[x0,x1],[t0,t1]=>match zVY (evx G e x0),evx G e x1 with
    |some q, .p (.tl t ys)=>match P.fn kK with
     |some _=>none
     |none=>match P.und t0,P.und t1 with
      |some (.slice el),some (.slice _)=>match P.inf el with
       |some info=>match info.zero with
        |some z=>if t.size=info.size∧1≤info.bytes∧z.cells.size=info.size then
          match S kK e.st [.bot,q, .tl t ys, .val (.int .i64 info.bytes)] with
          |some cx=>some (fun K=>Option.bind cx.m fun y=>match cx.res y with
           | .p d=>K (.call (cx.st y) false (.p d))
           |_=>none)
          |none=>none
         else none
        |none=>none
       |none=>none
      |_,_=>none
    |_,_=>none
   |_,_=>none
  |_=>none
 | .makeSlice t l c=>match evx G e l,evx G e c with
  | .p (.val (.int .i64 n)), .p (.val (.int .i64 _))=>if zRb l c then match P.und t with
   |some (.slice el)=>match P.inf el with
    |some info=>match info.zero,P.ty el with
     |some z,some ty=>match ty.dec (V.ofVal1 z) with
      |some x=>if 1≤info.bytes∧(V.ofVal1 z).cells.length=info.size∧info.size≠0∧ty.size=info.size then
        some (fun K=>Option.bind (zXu info.bytes n x) fun xs=>K (.ownT ty xs)) else none
      |none=>none
     |_,_=>none
    |none=>none
   |_=>none
   else none
  |_,_=>none
 |_=>none
def qXs (e:Env Γ.St) (o:Oper):Option (Kx Γ ρ):=
 match qX P G S e o with
 |some q=>some q
 |none=>match isCall o with
  |true=>none
  |false=>match evQ P G S.toS e o with
   |some r=>some (fun K=>K r)
   |none=>none
end
section
variable {Γ:Sig} {ρ:Type} {P:Program} {G:Nat→Option (List V)} {S:zQ Γ} {e:Env Γ.St} {o:Oper}
theorem zG5 {op:BinOp} {t t':TypeId} {x y:Operand} {k k':IntKind} {a b:Int} {v:Value} {dst:Option Tmp} {type:TypeId} {pos:String} {after:Array Edge} {guard:Option (Nat×Bool)} {S:jD Γ}
  (hx:evx G e x= .p (.val (.int k a))) (hy:evx G e y= .p (.val (.int k' b))) (h:qN P (binOp op t (.int k a) (.int k' b))=some v):
  evQ P G S e ⟨dst, .binOp op t x y t',type,pos,after,guard⟩=some (.ret (.p (V.ofVal v))):=by
 have h1:zL6 (St:=Γ.St) P op t (evx G e x) (evx G e y)=none:=by rw [hx];rfl
 have h2:zRL (St:=Γ.St) P op t (evx G e x) (evx G e y)=none:=by rw [hx];rfl
 simp only [evQ,h1,h2]
 refine zFP ?_ ?_
 ·simp [Op.operands,hx,hy,wV,V.toVal,V.toVal1]
 ·have hfx:(wV (evx G e x)).getD undef= .int k a:=by rw [hx];rfl
  have hfy:(wV (evx G e y)).getD undef= .int k' b:=by rw [hy];rfl
  simp only [execOp,hfx,hfy]
  have hg:eqGuard op t x y (.int k a) (.int k' b)=pure ():=by cases op<;>rfl
  rw [hg]
  have hb: ∀ (s:Sem Value),qN P s=some v→qN P (do let v←s;pure (Next.value v))=some (.value v):=by
   intro s
   induction s with
   |pure c=>intro hs;simp only [qN,Option.some.injEq] at hs;subst hs;rfl
   |program f ih=>intro hs;exact ih P hs
   |_=>intro hs;simp [qN] at hs
  exact hb _ h
theorem zMa {op:BinOp} {t t':TypeId} {x y:Operand} {a b:ByteArray} {v:Value} {dst:Option Tmp} {type:TypeId} {pos:String} {after:Array Edge} {guard:Option (Nat×Bool)} {S:jD Γ}
  (hx:evx G e x= .p (.val (.string a))) (hy:evx G e y= .p (.val (.string b))) (h:qN P (binOp op t (.string a) (.string b))=some v):
  evQ P G S e ⟨dst, .binOp op t x y t',type,pos,after,guard⟩=some (.ret (.p (V.ofVal v))):=by
 have h1:zL6 (St:=Γ.St) P op t (evx G e x) (evx G e y)=none:=by rw [hx];rfl
 have h2:zRL (St:=Γ.St) P op t (evx G e x) (evx G e y)=none:=by rw [hx];rfl
 simp only [evQ,h1,h2]
 refine zFP ?_ ?_
 ·simp [Op.operands,hx,hy,wV,V.toVal,V.toVal1]
 ·have hfx:(wV (evx G e x)).getD undef= .string a:=by rw [hx];rfl
  have hfy:(wV (evx G e y)).getD undef= .string b:=by rw [hy];rfl
  simp only [execOp,hfx,hfy]
  have hg:eqGuard op t x y (.string a) (.string b)=pure ():=by cases op<;>rfl
  rw [hg]
  have hb: ∀ (s:Sem Value),qN P s=some v→qN P (do let v←s;pure (Next.value v))=some (.value v):=by
   intro s
   induction s with
   |pure c=>intro hs;simp only [qN,Option.some.injEq] at hs;subst hs;rfl
   |program f ih=>intro hs;exact ih P hs
   |_=>intro hs;simp [qN] at hs
  exact hb _ h
theorem zPb (bs:ByteArray): ∀ (n i:Nat) (r:List UInt8),bs.size-i=n→ByteArray.toList.loop bs i r=r.reverse++bs.data.toList.drop i:=by
 intro n
 induction n with
 |zero=>
  intro i r h
  unfold ByteArray.toList.loop
  have hs:bs.size=bs.data.size:=rfl
  rw [if_neg (by omega),List.drop_eq_nil_of_le (by simp;omega),List.append_nil]
 |succ n ih=>
  intro i r h
  unfold ByteArray.toList.loop
  have hs:bs.size=bs.data.size:=rfl
  rw [if_pos (by omega),ih _ _ (by omega)]
  have hlt:i<bs.data.toList.length:=by simp;omega
  rw [List.drop_eq_getElem_cons hlt,List.reverse_cons,List.append_assoc]
  congr 1
  simp only [List.cons_append,List.nil_append]
  congr 1
  show bs.data[i]! =_
  simp only [Array.getElem_toList]
  exact getElem!_pos bs.data i (by omega)
theorem zHz (bs:ByteArray):bs.toList=bs.data.toList:=by
 unfold ByteArray.toList
 rw [zPb bs _ 0 [] rfl];rfl
theorem zNT {a b:ByteArray} :(a==b)=true↔a=b:=by
 obtain ⟨a⟩:=a
 obtain ⟨b⟩:=b
 show (a==b)=true↔_
 rw [beq_iff_eq,ByteArray.mk.injEq]
instance:LawfulBEq ByteArray where
 eq_of_beq h:=zNT.1 h
 rfl:=zNT.2 rfl
theorem zQy (a b:ByteArray):(a.toList==b.toList)=(a==b):=by
 rw [zHz,zHz]
 apply Bool.eq_iff_iff.2
 rw [beq_iff_eq,beq_iff_eq]
 constructor
 ·intro h;obtain ⟨⟨a⟩⟩:=a;obtain ⟨⟨b⟩⟩:=b;simp only at h;subst h;rfl
 ·intro h;rw [h]
theorem zRr {op:BinOp} {t t':TypeId} {x y:Operand} {k:IntKind} {a b:Int} {q:Kx Γ ρ} {K:R Γ.St→Option ρ} {v:ρ} {dst:Option Tmp} {type:TypeId} {pos:String} {after:Array Edge} {guard:Option (Nat×Bool)} {S:jD Γ}
  (hx:evx G e x= .p (.val (.int k a))) (hy:evx G e y= .p (.val (.int k b))) (h:zWX op k a b=some q) (hK:q K=some v) (h1:op≠ .shl) (h2:op≠ .shr):
  ∃r,evQ P G S e ⟨dst, .binOp op t x y t',type,pos,after,guard⟩=some r∧K r=some v:=by
 have fin: ∀u,qN P (binOp op t (.int k a) (.int k b))=some u→K (.ret (.p (V.ofVal u)))=some v→ ∃r,evQ P G S e ⟨dst, .binOp op t x y t',type,pos,after,guard⟩=some r∧K r=some v:=
  fun v hv hk=>⟨_,zG5 hx hy hv,hk⟩
 have finI: ∀n,qN P (binOp op t (.int k a) (.int k b))=some (.int k n)→K (zME k n)=some v→ ∃r,evQ P G S e ⟨dst, .binOp op t x y t',type,pos,after,guard⟩=some r∧K r=some v:=fun n hv hk=>fin _ hv hk
 have finB: ∀c,qN P (binOp op t (.int k a) (.int k b))=some (.bool c)→K (zOi c)=some v→ ∃r,evQ P G S e ⟨dst, .binOp op t x y t',type,pos,after,guard⟩=some r∧K r=some v:=fun n hv hk=>fin _ hv hk
 have hkk: ∀s1 s2:Sem Value,(if k≠k then s1 else s2)=s2:=by intro s1 s2;simp
 cases op<;>simp only [zWX,zVi,Option.some.injEq,reduceCtorEq] at h<;>first|exact absurd rfl h1|exact absurd rfl h2|skip
 case quo=>
  subst h
  obtain ⟨hb,hK⟩:=wZ.1 hK
  have hb:b≠0:=by simpa using hb
  refine finI (k.wrap (a.tdiv b)) ?_ hK
  simp only [binOp,hkk,Op.intDiv,if_neg hb];rfl
 case rem=>
  subst h
  obtain ⟨hb,hK⟩:=wZ.1 hK
  have hb:b≠0:=by simpa using hb
  refine finI (a.tmod b) ?_ hK
  simp only [binOp,hkk,Op.intDiv,if_neg hb];rfl
 all_goals
  subst h
  first
   |(refine finI _ ?_ hK;simp only [binOp,hkk];rfl)
   |(refine finB _ ?_ hK;simp only [binOp,hkk];rfl)
theorem zHJ {op:BinOp} {t t':TypeId} {x y:Operand} {k k':IntKind} {a b:Int} {q:Kx Γ ρ} {K:R Γ.St→Option ρ} {v:ρ} {dst:Option Tmp} {type:TypeId} {pos:String} {after:Array Edge} {guard:Option (Nat×Bool)} {S:jD Γ}
  (hx:evx G e x= .p (.val (.int k a))) (hy:evx G e y= .p (.val (.int k' b))) (h:zOa op k a b=some q) (hK:q K=some v):
  ∃r,evQ P G S e ⟨dst, .binOp op t x y t',type,pos,after,guard⟩=some r∧K r=some v:=by
 cases op<;>simp only [zOa,Option.some.injEq,reduceCtorEq] at h
 case shl=>
  subst h
  obtain ⟨hb,hK⟩:=wZ.1 hK
  have hb:0≤b:=by simpa using hb
  refine ⟨_,zG5 (v:= .int k (k.wrap (a*2^min b.toNat k.bits))) hx hy ?_,hK⟩
  simp only [binOp,Op.shift]
  rw [if_neg (by omega)];rfl
 case shr=>
  subst h
  obtain ⟨hb,hK⟩:=wZ.1 hK
  have hb:0≤b:=by simpa using hb
  refine ⟨_,zG5 (v:= .int k (a.fdiv (2^min b.toNat k.bits))) hx hy ?_,hK⟩
  simp only [binOp,Op.shift]
  rw [if_neg (by omega)];rfl
theorem bind_some {α β:Type} {x:Option α} {f:α→Option β} {v:β} (h:Option.bind x f=some v): ∃y,x=some y∧f y=some v:=by
 cases x with
 |none=>simp at h
 |some y=>exact ⟨y,rfl,by simpa using h⟩
theorem zId {α:Type} {xs:List α} {i:Int} {y:α} (h:idx xs i=some y):0≤i∧xs[i.toNat]? =some y:=by
 unfold idx at h
 split at h
 ·exact ⟨by assumption,h⟩
 ·cases h
theorem zFT {d:Option T} {dflt top:Nat} {i:Int} (hw:zJz d dflt=some i) (h0:0≤i) (h1:i≤top):kN d dflt top=some i.toNat:=by
 unfold zJz at hw
 split at hw
 ·simp only [Option.some.injEq] at hw;subst hw;rfl
 ·simp only [Option.some.injEq] at hw;subst hw
  simp only [kN,h0,h1,and_self,if_true]
 ·cases hw
theorem zUq {q:Kx Γ ρ} {K:R Γ.St→Option ρ} {v:ρ} (h:qX P G S e o=some q) (hK:q K=some v): ∃r,evQ P G S.toS e o=some r∧K r=some v:=by
 obtain ⟨dst,op,type,pos,after,guard⟩:=o
 cases op<;>simp only [qX,reduceCtorEq] at h
 case indexAddr t x ix=>
  split at h
  ·rename_i ty xs k0 i hx hix
   split at h
   ·rename_i el hu
    split at h
    ·rename_i hz
     simp only [Option.some.injEq] at h
     subst h
     obtain ⟨y,hy,hK⟩:=bind_some hK
     obtain ⟨h0,hg⟩:=zId hy
     refine ⟨_,?_,hK⟩
     have hu':P.underlying t=some (.slice el):=hu
     simp only [evQ,hx,hix,vN,h0,if_true,hu',hz,hg]
    ·cases h
   ·cases h
  ·rename_i id ty xs k0 i hx hix
   split at h
   ·rename_i el hu
    split at h
    ·rename_i hz
     simp only [Option.some.injEq] at h
     subst h
     obtain ⟨y,hy,hK⟩:=bind_some hK
     obtain ⟨h0,hg⟩:=zId hy
     have hlt:i.toNat<xs.length:=(List.getElem?_eq_some_iff.1 hg).1
     refine ⟨_,?_,hK⟩
     have hu':P.underlying t=some (.slice el):=hu
     simp only [evQ,hx,hix,vN,h0,if_true,hu',hz,hlt]
    ·cases h
   ·cases h
  ·rename_i n k0 i hx hix
   split at h
   ·rename_i el hu
    have hu':P.underlying t=some (.slice el):=hu
    split at h
    ·split at h
     ·rename_i hz
      simp only [Option.some.injEq] at h
      subst h
      obtain ⟨y,hy,hK⟩:=bind_some hK
      obtain ⟨h0,hg⟩:=zId hy
      have hlt:=(List.getElem?_eq_some_iff.1 hg).1
      refine ⟨_,?_,hK⟩
      simp only [evQ,hx,hix,vN,zAL,h0,if_true,hu',hz,hlt,and_self]
     ·cases h
    ·split at h
     ·rename_i hz
      simp only [Option.some.injEq] at h
      subst h
      obtain ⟨y,hy,hK⟩:=bind_some hK
      obtain ⟨h0,hg⟩:=zId hy
      have hlt:=(List.getElem?_eq_some_iff.1 hg).1
      refine ⟨_,?_,hK⟩
      simp only [evQ,hx,hix,vN,zAL,h0,if_true,hu',hz,hlt,and_self]
     ·cases h
    ·cases h
   ·cases h
  ·cases h
 case load t x=>
  split at h
  ·rename_i id ty xs i off hx
   simp only [Option.some.injEq] at h
   subst h
   obtain ⟨y,hg,h3⟩:=bind_some hK
   unfold atN at hg
   split at h3
   ·rename_i d hd
    refine ⟨_,?_,h3⟩
    simp only [evQ,hx,zD2,hg,hd,Option.map_some]
   ·cases h3
  ·rename_i id id2 ty xs j ys i hx
   split at h
   ·rename_i hagg
    simp only [Option.some.injEq] at h
    subst h
    obtain ⟨hc,hK⟩:=wZ.1 hK
    simp only [decide_eq_true_eq] at hc
    refine ⟨_,?_,hK⟩
    simp only [evQ,hx,zD2,zKM,hc,hagg,and_self,if_true]
   ·cases h
  ·cases h
 case slice t x lo hi mx=>
  split at h
  ·rename_i ty xs hx
   split at h
   ·rename_i el hu
    split at h
    ·rename_i hz
     split at h
     ·rename_i hN hbh
      split at h
      ·rename_i lN hbl
       simp only [Option.some.injEq] at h
       subst h
       obtain ⟨ys,hys,hK⟩:=bind_some hK
       unfold sub at hys
       split at hys
       ·rename_i hc
        simp only [Option.some.injEq] at hys
        subst hys
        refine ⟨_,?_,hK⟩
        have hu':P.underlying t=some (.slice el):=hu
        have hb1:kN (hi.map (evx G e)) xs.length xs.length=some hN.toNat:=zFT hbh (by omega) hc.2.2
        have hb2:kN (lo.map (evx G e)) 0 hN.toNat=some lN.toNat:=zFT hbl hc.1 (by omega)
        simp only [evQ,hx,zDo,hu',hz,if_true,Option.map_none,hb1,hb2]
       ·cases hys
      ·cases h
     ·cases h
    ·cases h
   ·cases h
  ·rename_i id ty xs hx
   split at h
   ·rename_i el hu
    split at h
    ·rename_i hz
     split at h
     ·rename_i hN hbh
      split at h
      ·rename_i lN hbl
       simp only [Option.some.injEq] at h
       subst h
       obtain ⟨hc,hK⟩:=wZ.1 hK
       simp only [Bool.and_eq_true,decide_eq_true_eq] at hc
       refine ⟨_,?_,hK⟩
       have hu':P.underlying t=some (.slice el):=hu
       have hb1:kN (hi.map (evx G e)) xs.length xs.length=some hN.toNat:=zFT hbh (by omega) hc.2
       have hb2:kN (lo.map (evx G e)) 0 hN.toNat=some lN.toNat:=zFT hbl hc.1.1 (by omega)
       simp only [evQ,hx,zDp,hu',hz,if_true,Option.map_none,hb1,hb2]
      ·cases h
     ·cases h
    ·cases h
   ·cases h
  ·cases h
 case index t x ix=>
  split at h
  ·rename_i s k0 i hx hix
   split at h
   ·rename_i hu
    simp only [Option.some.injEq] at h
    subst h
    obtain ⟨b,hb,hK⟩:=bind_some hK
    unfold zJy at hb
    split at hb
    ·rename_i h0
     simp only [Option.map_eq_some_iff] at hb
     obtain ⟨b0,hg,rfl⟩:=hb
     refine ⟨_,?_,hK⟩
     have hfl:kM (St:=Γ.St) P G e ⟨dst, .index t x ix,type,pos,after,guard⟩=some (.ret (.p (V.ofVal (.int .u8 b0.toNat)))):=by
      refine zFP ?_ ?_
      ·simp [Op.operands,hx,hix,wV,V.toVal,V.toVal1]
      ·have hfx:(wV (evx G e x)).getD undef= .string s:=by rw [hx];rfl
       have hfy:(wV (evx G e ix)).getD undef= .int k0 i:=by rw [hix];rfl
       have hu':P.underlying t=some .string:=hu
       simp only [execOp,hfx,hfy,Instr.index,asIntOf]
       have hin:qN P (do
         let __x←pure (k0,i)
         let __do_lift←underlying t
         match __do_lift,Value.string s with
          |TypeDesc.array len elem,Value.agg cs=>
           if 0≤__x.snd∧__x.snd< ↑len then do
            let __do_lift←sizeOf elem
            part elem cs (__x.snd.toNat*__do_lift)
           else boundsPanic __x.fst __x.snd (↑len) BoundsCode.index
          |TypeDesc.string,Value.string s=>
           match if 0≤__x.snd then s[__x.snd.toNat]? else none with
           |some b=>pure (Value.int IntKind.u8 ↑b.toNat)
           |none=>boundsPanic __x.fst __x.snd (↑s.size) BoundsCode.index
          | x, x_1 => stuck "Index: array or string expected") = some (Value.int IntKind.u8 ↑b0.toNat) := by
        refine (zE1 (s:=pure (k0,i)) rfl _).trans ?_
        refine (zE1 (zHS hu') _).trans ?_
        simp only [h0,if_true,hg]
        rfl
       exact (zE1 hin _).trans rfl
     simp only [evQ]
     exact hfl
    ·cases hb
   ·cases h
  ·cases h
 case binOp op t x y t'=>
  split at h
  ·rename_i k a k' b hx hy
   split at h
   ·exact zHJ hx hy h hK
   ·exact zHJ hx hy h hK
   ·rename_i h1 h2
    split at h
    ·rename_i hk
     subst hk
     exact zRr hx hy h hK h1 h2
    ·cases h
  ·rename_i a b hx hy
   split at h
   ·simp only [Option.some.injEq] at h
    subst h
    refine ⟨_,zMa (v:= .bool (a==b)) hx hy ?_,hK⟩
    simp only [binOp]
    rw [←zQy];rfl
   ·simp only [Option.some.injEq] at h
    subst h
    refine ⟨_,zMa (v:= .bool (a !=b)) hx hy ?_,hK⟩
    simp only [binOp,bne]
    rw [←zQy];rfl
   ·cases h
  ·cases h
 case pick c x y=>
  split at h
  ·rename_i b u w hc hx hy
   have hall:((⟨dst, .pick c x y,type,pos,after,guard⟩:Oper).op.operands.toList.all (fun x=>(wV (evx G e x)).isSome))=true:=by
    simp [Op.operands,hx,hy];rw [hc];rfl
   have hfc:(wV (evx G e c)).getD undef= .bool b:=by rw [hc];rfl
   have hfx:(wV (evx G e x)).getD undef=u:=by rw [hx];rfl
   have hfy:(wV (evx G e y)).getD undef=w:=by rw [hy];rfl
   have hev:evQ P G S.toS e ⟨dst, .pick c x y,type,pos,after,guard⟩=some (.ret (.p (V.ofVal (if b then u else w)))):=by
    simp only [evQ]
    refine zFP hall ?_
    simp only [execOp,hfc,hfx,hfy]
    cases b<;>rfl
   split at h
   ·rename_i z hz
    simp only [Option.some.injEq] at h
    subst h
    refine ⟨_,hev,?_⟩
    have:V.ofVal (if b then u else w)= .val z:=by
     unfold zWt at hz
     split at hz
     ·simp only [Option.some.injEq] at hz;subst hz;cases b<;>rfl
     ·split at hz
      ·rename_i hk
       subst hk
       simp only [Option.some.injEq] at hz;subst hz;cases b<;>rfl
      ·cases hz
     ·cases hz
    rw [this];exact hK
   ·simp only [Option.some.injEq] at h
    subst h
    refine ⟨_,hev,?_⟩
    cases b<;>exact hK
  ·cases h
 case call c=>
  split at h
  ·rename_i f hcal
   split at h
   ·rename_i g caps ds hf hds
    split at h
    ·rename_i cx hS
     split at h
     ·cases h
     ·simp only [Option.some.injEq] at h
      subst h
      obtain ⟨y,hy,hK⟩:=bind_some hK
      split at hK
      ·cases hK
      ·rename_i hv
       refine ⟨_,?_,hK⟩
       simp only [evQ,zG4,hcal,hf,hds,zKO,zHy hS hy,hv,Bool.false_eq_true,if_false]
    ·cases h
   ·cases h
  ·rename_i hcal
   split at h
   ·rename_i x0 x1 t0 t1 hargs htys
    split at h
    ·rename_i q t ys hx0 hx1
     split at h
     ·cases h
     ·rename_i hno
      split at h
      ·rename_i el el1 hu0 hu1
       split at h
       ·rename_i info hinfo
        split at h
        ·rename_i z hz
         split at h
         ·rename_i hok
          split at h
          ·rename_i cx hS
           simp only [Option.some.injEq] at h
           subst h
           obtain ⟨y,hy,hK⟩:=bind_some hK
           split at hK
           ·rename_i d hd
            refine ⟨_,?_,hK⟩
            have hno':P.funcs[kK]? =none:=hno
            have hu0':P.underlying t0=some (.slice el):=hu0
            have hu1':P.underlying t1=some (.slice el1):=hu1
            have hinfo':P.info? el=some info:=hinfo
            have hsp:=zHy hS hy
            rw [hd] at hsp
            simp only [evQ,zG4,hcal,zG2,hargs,htys,hx0,hx1,hno',hu0',hu1',hinfo',hz]
            rw [if_pos hok]
            simp only [hsp]
           ·cases hK
          ·cases h
         ·cases h
        ·cases h
       ·cases h
      ·cases h
    ·cases h
   ·cases h
  ·cases h
 case makeSlice t l c=>
  split at h
  ·rename_i n m hl hc
   split at h
   ·rename_i hsame
    have hlc:=zS1 hsame
    subst hlc
    rw [hl] at hc
    simp only [T.p.injEq,V.val.injEq,Value.int.injEq,true_and] at hc
    split at h
    ·rename_i el hu
     split at h
     ·rename_i info hi
      split at h
      ·rename_i z ty hz hty
       split at h
       ·rename_i x hx
        split at h
        ·rename_i hcond
         obtain ⟨c1,c2,c3,c4⟩:=hcond
         simp only [Option.some.injEq] at h
         subst h
         obtain ⟨xs,hxs,hK⟩:=bind_some hK
         unfold zXu at hxs
         split at hxs
         ·rename_i hb
          simp only [Option.some.injEq] at hxs
          subst hxs
          refine ⟨_,?_,hK⟩
          have hu':P.underlying t=some (.slice el):=hu
          have hi':P.info? el=some info:=hi
          have hty':zQq P el=some ty:=hty
          have hcc:0≤n∧n*info.bytes≤140737488355328∧1≤info.bytes∧(V.ofVal1 z).cells.length=info.size∧info.size≠0:=⟨hb.1,hb.2,c1,c2,c3⟩
          simp only [evQ,hl,zAm,hu',hi',hz,hty',hx,if_true]
          rw [if_pos hcc,if_pos c4]
         ·cases hxs
        ·cases h
       ·cases h
      ·cases h
     ·cases h
    ·cases h
   ·cases h
  ·cases h
theorem zFD {q:Kx Γ ρ} {K:R Γ.St→Option ρ} {v:ρ} (h:qXs P G S e o=some q) (hK:q K=some v): ∃r,evQ P G S.toS e o=some r∧K r=some v:=by
 unfold qXs at h
 split at h
 ·rename_i q' hq
  simp only [Option.some.injEq] at h
  subst h
  exact zUq hq hK
 ·split at h
  ·cases h
  ·split at h
   ·rename_i r hr
    simp only [Option.some.injEq] at h
    subst h
    exact ⟨r,hr,hK⟩
   ·cases h
end
end Go.Ve

namespace Go.Ve
open Go
section
variable {β:Type}
def kL {α:Type} (f:α→(α→β)→β):List α→(List α→β)→β
 |[],k=>k []
 |x::r,k=>f x (fun x=>kL f r (fun r=>k (x::r)))
def zXv:Value→(Value→β)→β
 | .int q n,k=>k (.int q n)
 | .bool b,k=>k (.bool b)
 | .string s,k=>k (.string s)
 |v,k=>k v
def kV:Nat→V→(V→β)→β
 |0,d,k=>k d
 |_+1, .val v,k=>zXv v (fun v=>k (.val v))
 |n+1, .agg cs,k=>kL (kV n) cs (fun cs=>k (.agg cs))
 |n+1, .sl cs,k=>kL (kV n) cs (fun cs=>k (.sl cs))
 |n+1, .tup cs,k=>kL (kV n) cs (fun cs=>k (.tup cs))
 |n+1, .pp cs,k=>kL (kV n) cs (fun cs=>k (.pp cs))
 |n+1, .clo f cs,k=>kL (kV n) cs (fun cs=>k (.clo f cs))
 |_+1, .tl t xs,k=>k (.tl t xs)
 |_+1, .rf o,k=>k (.rf o)
 |_+1, .bot,k=>k .bot
def kT:T→(T→β)→β
 | .p d,k=>kV 6 d (fun d=>k (.p d))
 | .ow i q es,k=>kL (kV 6) es (fun es=>k (.ow i q es))
 | .oe i q es j off,k=>kL (kV 6) es (fun es=>k (.oe i q es j off))
 | .lp s off,k=>k (.lp s off)
 | .mp i es ck,k=>k (.mp i es ck)
 | .ot i t xs,k=>k (.ot i t xs)
 | .oet i t xs j off,k=>k (.oet i t xs j off)
 | .ov i t xs j off,k=>k (.ov i t xs j off)
 | .on n,k=>k (.on n)
 | .emp,k=>k .emp
 | .dead,k=>k .dead
def kO:Option (List T)→(Option (List T)→β)→β
 |none,k=>k none
 |some cs,k=>kL kT cs (fun cs=>k (some cs))
def zCe {St:Type} (e:Env St) (k:Env St→β):β:=
 match e with
 |⟨tm,vars,st⟩=>kL kT tm (fun tm=>kL kO vars (fun vars=>k ⟨tm,vars,st⟩))
def kAt {α:Type} (f:α→(α→β)→β):Nat→List α→(List α→β)→β
 |_,[],k=>k []
 |0,x::r,k=>f x (fun x=>k (x::r))
 |n+1,x::r,k=>kAt f n r (fun r=>k (x::r))
def zGZ {St:Type} (d:Nat) (e:Env St) (k:Env St→β):β:=
 match e with
 |⟨tm,vars,st⟩=>kAt kT d tm (fun tm=>k ⟨tm,vars,st⟩)
def kOp {St:Type} (o:Oper) (e:Env St) (k:Env St→β):β:=
 match o.op with
 | .move _| .assign _| .load _ _| .field _ _ _| .fieldAddr _ _ _| .indexAddr _ _ _| .index _ _ _| .binOp _ _ _ _ _| .unOp _ _ _| .convert _ _ _| .pick _ _ _| .extract _ _| .nilCheck _=>match o.dst with
  |some d=>zGZ d e k
  |none=>zCe e k
 | .call c=>match c.callee,o.dst with
  | .builtin .len,some d=>zGZ d e k
  | .builtin .min,some d=>zGZ d e k
  | .builtin .max,some d=>zGZ d e k
  |_,_=>zCe e k
 |_=>zCe e k
theorem zNy {α:Type} {f:α→(α→β)→β} (hf: ∀x k,f x k=k x): ∀ (l:List α) (k:List α→β),kL f l k=k l:=by
 intro l
 induction l with
 |nil=>intro k;rfl
 |cons x l ih=>intro k;simp only [kL,hf,ih]
theorem zV0 (v:Value) (k:Value→β):zXv v k=k v:=by cases v<;>rfl
theorem zUJ: ∀ (n:Nat) (d:V) (k:V→β),kV n d k=k d:=by
 intro n
 induction n with
 |zero=>intro d k;rfl
 |succ n ih=>
  intro d k
  cases d<;>simp only [kV]
  ·exact zV0 _ _
  all_goals (first|exact zNy ih _ _|rfl)
theorem zUK (x:T) (k:T→β):kT x k=k x:=by
 cases x<;>simp only [kT]
 ·exact zUJ _ _ _
 ·exact zNy (zUJ 6) _ _
 ·exact zNy (zUJ 6) _ _
theorem zXw (x:Option (List T)) (k:Option (List T)→β):kO x k=k x:=by
 cases x with
 |none=>rfl
 |some cs=>simp only [kO];exact zNy zUK _ _
theorem v7 {St:Type} (e:Env St) (k:Env St→β):zCe e k=k e:=by
 obtain ⟨tm,vars,st⟩:=e
 simp only [zCe]
 rw [zNy zUK,zNy zXw]
theorem zWV {α:Type} {f:α→(α→β)→β} (hf: ∀x k,f x k=k x): ∀ (n:Nat) (l:List α) (k:List α→β),kAt f n l k=k l:=by
 intro n l
 induction l generalizing n with
 |nil=>intro k;cases n<;>rfl
 |cons x l ih=>
  intro k
  cases n with
  |zero=>simp only [kAt,hf]
  |succ n=>simp only [kAt];exact ih n _
theorem zFJ {St:Type} (d:Nat) (e:Env St) (k:Env St→β):zGZ d e k=k e:=by
 obtain ⟨tm,vars,st⟩:=e
 simp only [zGZ]
 rw [zWV zUK]
theorem zOz {St:Type} (o:Oper) (e:Env St) (k:Env St→β):kOp o e k=k e:=by
 unfold kOp
 repeat' split
 all_goals (first|exact zFJ _ _ _|exact v7 _ _)
end
structure zS {St:Type} (m:Nat) (e e1:Env St):Prop where
 tl:e1.tm.length=e.tm.length
 vl:e1.vars.length=e.vars.length
 p: ∀t d,m.testBit (2*t)=false→e.get t= .p d→e1.get t= .p d
 lp: ∀t s off,m.testBit (2*t)=false→m.testBit (2*s)=false→e.get t= .lp s off→e1.get t= .lp s off
 v: ∀s (ds:List V),m.testBit (2*s)=false→m.testBit (2*s+1)=false→e.var s=some (ds.map T.p)→e1.var s=some (ds.map T.p)
section
variable {St:Type} {e e1 e2:Env St} {m n:Nat}
theorem w8 (m n t:Nat):(m|||n).testBit t=false↔m.testBit t=false∧n.testBit t=false:=by
 rw [Nat.testBit_or,Bool.or_eq_false_iff]
theorem zKP (s t:Nat):(2^s).testBit t=false↔t≠s:=by
 rw [Nat.testBit_two_pow,decide_eq_false_iff_not]
 exact ⟨fun h h'=>h h'.symm,fun h h'=>h h'.symm⟩
theorem zCo (s t:Nat):(2^(2*s)).testBit (2*t)=false↔t≠s:=by
 rw [zKP];omega
theorem zVj (s t:Nat):(2^(2*s+1)).testBit (2*t+1)=false↔t≠s:=by
 rw [zKP];omega
theorem zS.refl (e:Env St):zS 0 e e:=⟨rfl,rfl,fun _ _ _ h=>h,fun _ _ _ _ _ h=>h,fun _ _ _ _ h=>h⟩
theorem zS.mono (h:zS m e e1) (hm: ∀t,n.testBit t=false→m.testBit t=false):zS n e e1:=
 ⟨h.tl,h.vl,fun t d ht=>h.p t d (hm _ ht),fun t s off ht hs=>h.lp t s off (hm _ ht) (hm _ hs),fun s ds hs hs'=>h.v s ds (hm _ hs) (hm _ hs')⟩
theorem zS.same (h:zS m e e1) (k:zS m e1 e2):zS m e e2:=
 ⟨k.tl.trans h.tl,k.vl.trans h.vl,fun t d ht hd=>k.p t d ht (h.p t d ht hd),fun t s off ht hs hd=>k.lp t s off ht hs (h.lp t s off ht hs hd),fun s ds hs hs' hd=>k.v s ds hs hs' (h.v s ds hs hs' hd)⟩
theorem zS.trans (h:zS m e e1) (k:zS n e1 e2):zS (m|||n) e e2:=
 (h.mono (fun t ht=>((w8 m n t).1 ht).1)).same (k.mono (fun t ht=>((w8 m n t).1 ht).2))
def zVr (f:T→T):Prop:=(∀d,f (.p d)= .p d)∧(∀s off,f (.lp s off)= .lp s off)∧f .dead= .dead
theorem zAc {f:T→T} (hf:zVr f) (e:Env St):zS 0 e (e.mapT f):=by
 refine ⟨by simp [Env.mapT],by simp [Env.mapT],?_,?_,?_⟩
 ·intro t d _ h;rw [jK hf.2.2,h,hf.1]
 ·intro t s off _ _ h;rw [jK hf.2.2,h,hf.2.1]
 ·intro s ds _ _ h
  rw [qK,h]
  simp [hf.1,Function.comp_def]
theorem zHl (d:Nat) (e:Env St):zS (2^(2*d)) e (e.kill d):=by
 refine ⟨by simp [Env.kill],by simp [Env.kill],?_,?_,?_⟩
 ·intro t x _ h;rw [zDZ,h];rfl
 ·intro t s off _ hs h
  rw [zDZ,h]
  simp only [qF]
  rw [if_neg ((zCo d s).1 hs)]
 ·intro s ds hs _ h
  rw [kA,if_neg ((zCo d s).1 hs),h]
  simp [qF,Function.comp_def]
theorem zNC (e:Env St) (d t:Nat) (x:T) (h:t≠d):({ e with tm:=e.tm.set d x } :Env St).get t=e.get t:=by
 simp only [Env.get,List.getD_eq_getElem?_getD]
 rw [List.getElem?_set_ne (fun h'=>h h'.symm)]
theorem zB2 (d:Nat) (x:T) (e:Env St):zS (2^(2*d)) e { e with tm:=e.tm.set d x } :=by
 refine ⟨by simp,rfl,?_,?_,?_⟩
 ·intro t y ht h;rw [zNC e d t x ((zCo d t).1 ht)];exact h
 ·intro t s off ht _ h;rw [zNC e d t x ((zCo d t).1 ht)];exact h
 ·intro s ds _ _ h;exact h
theorem zID (s:St) (e:Env St):zS 0 e { e with st:=s } :=⟨rfl,rfl,fun _ _ _ h=>h,fun _ _ _ _ _ h=>h,fun _ _ _ _ h=>h⟩
theorem zO5 (e:Env St) (s t:Nat) (x:Option (List T)) (h:t≠s):({ e with vars:=e.vars.set s x } :Env St).var t=e.var t:=by
 simp only [Env.var]
 rw [List.getElem?_set_ne (fun h'=>h h'.symm)]
theorem zMt (s:Nat) (x:Option (List T)) (e:Env St):zS (2^(2*s+1)) e { e with vars:=e.vars.set s x } :=by
 refine ⟨rfl,by simp,fun _ _ _ h=>h,fun _ _ _ _ _ h=>h,?_⟩
 intro t ds _ ht h
 rw [zO5 e s t x ((zVj s t).1 ht)];exact h
theorem zJ2 (s:Nat) (x:Option (List T)) (e:Env St):zS (2^(2*s)) e { e with vars:=e.vars.set s x } :=by
 refine ⟨rfl,by simp,fun _ _ _ h=>h,fun _ _ _ _ _ h=>h,?_⟩
 intro t ds ht _ h
 rw [zO5 e s t x ((zCo s t).1 ht)];exact h
def zAT:Option Nat→Nat
 |some d=>2^(2*d)
 |none=>0
theorem zHj (e:Env St) (d:Nat) (r:R St):zS (2^(2*d)) e (e.setR d r):=by
 unfold Env.setR
 split
 ·rename_i cs
  exact ((zJ2 d (some cs) e).same (zB2 d (.lp d 0) _)).mono (fun _ h=>h)
 ·rename_i st v rv
  exact ((zID st e).trans (zB2 d (rvT d rv) _)).mono (fun t h=>by rw [w8];exact ⟨by simp,h⟩)
 ·exact zB2 d _ e
theorem yZ (e:Env St) (d:Option Nat) (x:T):zS (zAT d) e (e.put d x):=by
 cases d with
 |none=>exact zS.refl e
 |some d=>exact zB2 d x e
theorem zEd {dst:Option Tmp} {r:R St} (h:kP e dst r=some e1):zS (zAT dst) e e1:=by
 unfold kP at h
 split at h
 ·rename_i d
  split at h
  ·split at h
   ·simp only [Option.some.injEq] at h;subst h
    exact (zHl d e).same (zHj _ d _)
   ·cases h
  ·simp only [Option.some.injEq] at h;subst h
   exact zHj e d r
 ·split at h
  ·simp only [Option.some.injEq] at h;subst h;exact zS.refl _
  ·simp only [Option.some.injEq] at h;subst h;exact zID _ _
  ·cases h
theorem zOY {dst:Option Tmp} {r:R St} (h:zFr e dst r=some e1):zS (zAT dst) e e1:=by
 unfold zFr at h
 split at h
 ·rename_i d
  split at h
  ·simp only [Option.some.injEq] at h;subst h
   exact zHj e d r
  ·cases h
 ·split at h
  ·simp only [Option.some.injEq] at h;subst h;exact zS.refl _
  ·simp only [Option.some.injEq] at h;subst h;exact zID _ _
  ·cases h
end
def T.bits:T→Nat
 | .lp s _=>2^(2*s)
 | .ow i _ _=>2^(2*i)
 | .oe i _ _ _ _=>2^(2*i)
 | .mp i _ _=>2^(2*i)
 | .ot i _ _=>2^(2*i)
 | .oet i _ _ _ _=>2^(2*i)
 | .ov i _ _ _ _=>2^(2*i)
 | .on n=>2^(2*n.id)
 |_=>0
def zNA (i:Nat):Nat:=
 match Nat.beq i jB with
 |true=>0
 |false=>2^(2*i)
def T.fbits:T→Nat
 | .lp s _=>2^(2*s)
 | .ow i _ _=>zNA i
 | .oe i _ _ _ _=>zNA i
 | .mp i _ _=>zNA i
 | .ot i _ _=>zNA i
 | .oet i _ _ _ _=>zNA i
 | .ov i _ _ _ _=>zNA i
 |_=>0
section
variable {Γ:Sig} (G:Nat→Option (List V))
def j1 (e:Env Γ.St) (o:Oper):Nat:=
 zAT o.dst|||match o.op with
 | .store _ ap _=>match evx G e ap with
  | .lp s _=>2^(2*s+1)
  |_=>0
 | .call c=>match c.callee,c.args.toList with
  | .builtin .append,x::_=>(evx G e x).bits
  |_,_=>0
 |_=>0
def zKY:List Operand→Env Γ.St→Nat
 |[],_=>0
 |x::r,e=>(evx G e x).fbits|||zKY r (frzT1 (evx G e x) e)
end
section
variable {Γ:Sig} {P:jG} {G:Nat→Option (List V)} {e e1:Env Γ.St} {o:Oper}
theorem zTq (id:Nat):zVr (zAj id):=⟨fun _=>rfl,fun _ _=>rfl,rfl⟩
theorem zAo (id:Nat) (e:Env Γ.St):zS 0 e (frzOE id e):=by
 unfold frzOE
 split
 ·exact zS.refl e
 ·exact zAc (zTq _) e
theorem zCq: ∀ (cs:List T) (e:Env Γ.St),zS 0 e (frzCells e cs):=by
 intro cs
 induction cs with
 |nil=>intro e;exact zS.refl e
 |cons x r ih=>
  intro e
  cases x<;>simp only [frzCells]<;>first|exact ih e|exact (zAo _ e).same (ih _)
theorem zR8 (s:Nat) (ds:List V) (e:Env Γ.St):zS (2^(2*s)) e (e.frzV s ds):=by
 unfold Env.frzV
 refine (zJ2 s none e).same ?_
 refine ⟨by simp [Env.mapT],by simp [Env.mapT],?_,?_,?_⟩
 ·intro t d _ h;rw [jK rfl,h];rfl
 ·intro t s' off _ hs h
  rw [jK rfl,h]
  simp only [zJP]
  rw [if_neg ((zCo s s').1 hs)]
 ·intro s' xs _ _ h
  rw [qK,h]
  simp [zJP,Function.comp_def]
theorem zQO (x:T) (e:Env Γ.St):zS x.fbits e (frzT1 x e):=by
 have z: ∀ {m:Nat} {e e1:Env Γ.St},zS 0 e e1→zS m e e1:=fun h=>h.mono (fun t _=>by simp)
 unfold frzT1
 split
 ·exact z (zAo _ e)
 ·exact z (zAo _ e)
 ·exact z (zAo _ e)
 ·rename_i s off
  split
  ·split
   ·split
    ·exact (z (zCq _ e)).same (zR8 s _ _)
    ·exact z (zCq _ e)
   ·exact z (zCq _ e)
  ·exact z (zS.refl e)
 ·exact z (zS.refl e)
theorem zEc: ∀ (xs:List Operand) (e:Env Γ.St),zS (zKY G xs e) e (frzOps G xs e):=by
 intro xs
 induction xs with
 |nil=>intro e;exact zS.refl e
 |cons x r ih=>intro e;exact (zQO _ e).trans (ih _)
theorem zNX (h:evW P G e o=some e1):zS (j1 G e o) e e1:=by
 have z: ∀ {m:Nat} {e e1:Env Γ.St},zS 0 e e1→zS m e e1:=fun h=>h.mono (fun t _=>by simp)
 obtain ⟨dst,op,type,pos,after,guard⟩:=o
 cases op<;>simp only [evW,reduceCtorEq] at h
 case store t ap x=>
  split at h
  ·cases h
  ·split at h
   ·rename_i s off hap
    unfold zDn at h
    split at h
    ·split at h
     ·simp only [Option.some.injEq] at h;subst h
      refine (zMt s _ e).mono ?_
      intro t ht
      simp only [j1,w8,hap] at ht
      exact ht.2
     ·cases h
    ·cases h
   ·split at h
    ·unfold zBt at h
     split at h
     ·split at h
      ·simp only [Option.some.injEq] at h;subst h
       exact z (zAc ⟨fun _=>rfl,fun _ _=>rfl,rfl⟩ e)
      ·cases h
     ·cases h
    ·cases h
   ·split at h
    ·unfold zCk at h
     split at h
     ·split at h
      ·split at h
       ·simp only [Option.some.injEq] at h;subst h
        exact z (zAc ⟨fun _=>rfl,fun _ _=>rfl,rfl⟩ e)
       ·cases h
      ·cases h
     ·cases h
    ·unfold zA8 at h
     split at h
     ·split at h
      ·simp only [Option.some.injEq] at h;subst h
       exact z (zAc ⟨fun _=>rfl,fun _ _=>rfl,rfl⟩ e)
      ·cases h
     ·cases h
    ·cases h
   ·split at h
    ·unfold zAK at h
     split at h
     ·split at h
      ·split at h
       ·split at h
        ·simp only [Option.some.injEq] at h;subst h
         exact z (zAc ⟨fun _=>rfl,fun _ _=>rfl,rfl⟩ e)
        ·cases h
       ·cases h
      ·cases h
     ·cases h
    ·cases h
   ·cases h
 case call c=>
  have key: ∀ (x0 x1:Operand) (d id:Nat) (y:T),c.callee= .builtin .append→c.args.toList=[x0,x1]→dst=some d→(id=d∨(evx G e x0).bits=2^(2*id))→
    zS (j1 G e ⟨dst, .call c,type,pos,after,guard⟩) e { (e.kill id) with tm:=(e.kill id).tm.set d y } :=by
   intro x0 x1 d id y hc ha hd hid
   have hs:=(zHl id e).trans (zB2 d y (e.kill id))
   refine hs.mono ?_
   intro t ht
   simp only [j1,hc,ha,hd,zAT,w8] at ht
   rw [w8]
   refine ⟨?_,ht.1⟩
   rcases hid with rfl|hid
   ·exact ht.1
   ·rw [←hid];exact ht.2
  split at h
  ·rename_i e2 he2
   simp only [Option.some.injEq] at h;subst h
   unfold j4 at he2
   split at he2
   ·rename_i x0 x1 t0 t1 d hcal hargs htys
    split at he2
    ·split at he2
     ·split at he2
      ·split at he2
       ·rename_i nm xs hdst
        split at he2
        ·split at he2
         ·simp only [Option.some.injEq] at he2;subst he2
          refine key x0 x1 d _ _ hcal hargs rfl ?_
          unfold zQl at hdst
          split at hdst
          ·simp only [Option.some.injEq,Prod.mk.injEq] at hdst;rw [←hdst.1];exact .inl rfl
          ·simp only [Option.some.injEq,Prod.mk.injEq] at hdst;rw [←hdst.1];exact .inl rfl
          ·rename_i heq
           split at hdst
           ·simp only [Option.some.injEq,Prod.mk.injEq] at hdst
            rw [←hdst.1,heq];exact .inr rfl
           ·cases hdst
          ·cases hdst
         ·cases he2
        ·cases he2
       ·cases he2
      ·cases he2
     ·cases he2
    ·cases he2
   ·cases he2
  ·split at h
   ·rename_i e2 he2
    simp only [Option.some.injEq] at h;subst h
    unfold w1 at he2
    split at he2
    ·rename_i p x1 t0 t1 d hcal hargs htys _
     split at he2
     ·split at he2
      ·split at he2
       ·split at he2
        ·rename_i id t' xs hi qR
         split at he2
         ·cases he2
         ·split at he2
          ·split at he2
           ·split at he2
            ·simp only [Option.some.injEq] at he2;subst he2
             refine key (.tmp p) x1 d _ _ hcal hargs rfl (.inr ?_)
             have:evx G e (.tmp p)= .ov id t' xs 0 hi:=qR
             rw [this];rfl
            ·cases he2
           ·cases he2
          ·cases he2
        ·cases he2
       ·cases he2
      ·cases he2
     ·cases he2
    ·cases he2
   ·unfold yH jY at h
    split at h
    ·rename_i x0 x1 t0 t1 d hcal hargs htys hnone hnone2
     split at h
     ·split at h
      ·split at h
       ·split at h
        ·split at h
         ·rename_i id k es heq
          split at h
          ·simp only [Option.some.injEq] at h;subst h
           exact key x0 x1 d _ _ hcal hargs rfl (.inr (by rw [heq];rfl))
          ·cases h
         ·split at h
          ·split at h
           ·cases h
           ·cases h
           ·split at h
            ·simp only [Option.some.injEq] at h;subst h
             refine (yZ e (some d) _).mono ?_
             intro t ht
             simp only [j1,w8] at ht
             exact ht.1
            ·split at h
             ·simp only [Option.some.injEq] at h;subst h
              exact key x0 x1 d d _ hcal hargs rfl (.inl rfl)
             ·cases h
          ·cases h
        ·cases h
       ·cases h
      ·cases h
     ·cases h
    ·cases h
 case mapUpdate t m k v=>
  split at h
  ·cases h
  ·split at h
   ·unfold zNI at h
    split at h
    ·simp only [Option.some.injEq] at h;subst h
     exact z (zAc ⟨fun _=>rfl,fun _ _=>rfl,rfl⟩ e)
    ·cases h
   ·cases h
end
end Go.Ve

namespace Go.Ve
open Go
section
variable {St:Type}
def yE (e:Env St) (f:T→T) (V:List (Option (List T))) (dst:Option Nat) (y:T) (st:St):Env St:=
 ⟨match dst with
  |some d=>(e.tm.map f).set d y
  |none=>e.tm.map f,V,st⟩
structure w9 (m:Nat) (f:T→T):Prop where
 p: ∀d,f (.p d)= .p d
 dead:f .dead= .dead
 lp: ∀s off,m.testBit (2*s)=false→f (.lp s off)= .lp s off
theorem w9.id (m:Nat):w9 m (fun x=>x):=⟨fun _=>rfl,rfl,fun _ _ _=>rfl⟩
theorem w9.mono {m n:Nat} {f:T→T} (h:w9 m f) (hm: ∀t,n.testBit t=false→m.testBit t=false):w9 n f:=
 ⟨h.p,h.dead,fun s off hs=>h.lp s off (hm _ hs)⟩
theorem w9.kill (d:Nat):w9 (2^(2*d)) (qF d):=
 ⟨fun _=>rfl,rfl,fun s off hs=>by simp only [qF];rw [if_neg ((zCo d s).1 hs)]⟩
structure xW (e b:Env St):Prop where
 vars:e.vars=b.vars
 st:e.st=b.st
 len:e.tm.length=b.tm.length
theorem xW.var {e b:Env St} (h:xW e b) (s:Nat):e.var s=b.var s:=by simp only [Env.var,h.vars]
theorem zV6 (e b:Env St) (h:xW e b) (y:T):yE e (fun x=>x) b.vars none y b.st=e:=by
 obtain ⟨tm,vars,st⟩:=e
 have h1:=h.vars
 have h2:=h.st
 simp only at h1 h2
 subst h1 h2
 simp [yE]
theorem zQI {b b1:Env St} {dst:Option Tmp} {r:R St} (h:kP b dst r=some b1):
  ∃f V y st,w9 (zAT dst) f∧ ∀e,xW e b→kP e dst r=some (yE e f V dst y st):=by
 unfold kP at h
 split at h
 ·rename_i d
  split at h
  ·rename_i hn
   split at h
   ·rename_i hlt
    have go: ∀ (V:List (Option (List T))→List (Option (List T))) (y:T) (st:St→St),(∀e:Env St,(e.kill d).setR d (zJO d r)=⟨(e.tm.map (qF d)).set d y,V e.vars,st e.st⟩)→
      ∃f V y st,w9 (zAT (some d)) f∧ ∀e,xW e b→kP e (some d) r=some (yE e f V (some d) y st):=by
     intro V y st hk
     refine ⟨qF d,V b.vars,y,st b.st,w9.kill d,?_⟩
     intro e he
     simp only [kP,hn,if_true]
     rw [if_pos (by rw [he.vars];exact hlt),hk e,he.vars,he.st]
     rfl
    cases r with
    |var cs=>exact go (fun vs=>((vs.set d none).map (fun c=>c.map (List.map (qF d)))).set d (some (cs.map (qF d)))) (.lp d 0) (fun s=>s) (fun e=>rfl)
    |call st v rv=>exact go (fun vs=>(vs.set d none).map (fun c=>c.map (List.map (qF d)))) (rvT d rv) (fun _=>st) (fun e=>rfl)
    |ret x=>exact go (fun vs=>(vs.set d none).map (fun c=>c.map (List.map (qF d)))) _ (fun s=>s) (fun e=>rfl)
    |own k es=>exact go (fun vs=>(vs.set d none).map (fun c=>c.map (List.map (qF d)))) _ (fun s=>s) (fun e=>rfl)
    |frz es=>exact go (fun vs=>(vs.set d none).map (fun c=>c.map (List.map (qF d)))) _ (fun s=>s) (fun e=>rfl)
    |mk=>exact go (fun vs=>(vs.set d none).map (fun c=>c.map (List.map (qF d)))) _ (fun s=>s) (fun e=>rfl)
    |frzT t xs=>exact go (fun vs=>(vs.set d none).map (fun c=>c.map (List.map (qF d)))) _ (fun s=>s) (fun e=>rfl)
    |ownT t xs=>exact go (fun vs=>(vs.set d none).map (fun c=>c.map (List.map (qF d)))) _ (fun s=>s) (fun e=>rfl)
   ·cases h
  ·rename_i hn
   have go: ∀ (y:T) (st:St→St),(∀e:Env St,e.setR d r=⟨e.tm.set d y,e.vars,st e.st⟩)→
     ∃f V y st,w9 (zAT (some d)) f∧ ∀e,xW e b→kP e (some d) r=some (yE e f V (some d) y st):=by
    intro y st hk
    refine ⟨fun x=>x,b.vars,y,st b.st,w9.id _,?_⟩
    intro e he
    simp only [kP,hn,if_false]
    rw [hk e, ←he.vars, ←he.st]
    simp [yE]
   cases r with
   |ret x=>exact go _ (fun s=>s) (fun e=>rfl)
   |call st v rv=>exact go (rvT d rv) (fun _=>st) (fun e=>rfl)
   |_=>exact absurd rfl hn
 ·split at h
  ·exact ⟨fun x=>x,b.vars, .dead,b.st,w9.id _,fun e he=>by simp only [kP];rw [zV6 e b he]⟩
  ·rename_i st v x
   refine ⟨fun x=>x,b.vars, .dead,st,w9.id _,fun e he=> ?_⟩
   simp only [kP, ←he.vars]
   simp [yE]
  ·cases h
end
section
variable {Γ:Sig} {P:jG} {G:Nat→Option (List V)} {S:jD Γ} {b b1:Env Γ.St} {o:Oper}
structure zJC (G:Nat→Option (List V)) (e b:Env Γ.St) (o:Oper):Prop where
 al:xW e b
 ops: ∀x,x∈o.op.operands→evx G e x=evx G b x
theorem zNK (h:zGb P G S b o=some b1): ∃f V y st,w9 (j1 G b o) f∧ ∀e,zJC G e b o→zGb P G S e o=some (yE e f V o.dst y st):=by
 unfold zGb at h
 split at h
 ·rename_i r hr
  obtain ⟨f,V,y,st,h1,h2⟩:=zQI h
  refine ⟨f,V,y,st,h1.mono (fun t ht=>by simp only [j1,w8] at ht;exact ht.1),fun e he=> ?_⟩
  have:evQ P G S e o=some r:=by
   rw [←hr]
   exact zJf he.ops (fun x _ s off _=>he.al.var s) he.al.st
  simp only [zGb,this,h2 e he.al]
 ·cases h
theorem zDk (f:T→T) {e b:Env Γ.St} (h:xW e b) (y:T):e.mapT f=yE e f (b.vars.map (fun c=>c.map (List.map f))) none y b.st:=by
 simp only [Env.mapT,yE,h.vars,h.st]
theorem zBT {e b:Env Γ.St} (h:xW e b) (id d:Nat) (y:T):
  ({ (e.kill id) with tm:=(e.kill id).tm.set d y } :Env Γ.St)=yE e (qF id) ((b.vars.set id none).map (fun c=>c.map (List.map (qF id)))) (some d) y b.st:=by
 simp only [Env.kill,yE,h.vars,h.st]
theorem zUZ (h:evW P G b o=some b1): ∃f V y st,w9 (j1 G b o) f∧ ∀e,zJC G e b o→evW P G e o=some (yE e f V o.dst y st):=by
 obtain ⟨dst,op,type,pos,after,guard⟩:=o
 cases op<;>simp only [evW,reduceCtorEq] at h
 case store t ap x=>
  have hap: ∀e,zJC G e b ⟨dst, .store t ap x,type,pos,after,guard⟩→evx G e ap=evx G b ap:=fun e he=>he.ops ap (by simp [Op.operands])
  have hx: ∀e,zJC G e b ⟨dst, .store t ap x,type,pos,after,guard⟩→evx G e x=evx G b x:=fun e he=>he.ops x (by simp [Op.operands])
  split at h
  ·cases h
  ·split at h
   ·rename_i s off hp
    unfold zDn at h
    split at h
    ·rename_i cs xs hcs hxs
     split at h
     ·rename_i hc
      refine ⟨fun x=>x,b.vars.set s (some (zAw cs off xs)), .dead,b.st,w9.id _,fun e he=> ?_⟩
      have hv:e.var s=some cs:=by rw [he.al.var];exact hcs
      simp only [evW,hap e he,hp,hx e he,zDn,hv,hxs]
      rw [if_pos ⟨hc.1,hc.2.1,by rw [he.al.vars];exact hc.2.2⟩,he.al.vars,he.al.st]
      simp [yE]
     ·cases h
    ·cases h
   ·rename_i id k es i off hp
    split at h
    ·rename_i d hd
     unfold zBt at h
     split at h
     ·rename_i q hq
      split at h
      ·rename_i hc
       refine ⟨zCR id k i (xD q (qV q.cells off d.cells)),b.vars.map (fun c=>c.map (List.map (zCR id k i (xD q (qV q.cells off d.cells))))), .dead,b.st,⟨fun _=>rfl,rfl,fun _ _ _=>rfl⟩,fun e he=> ?_⟩
       simp only [evW,hap e he,hp,hx e he,hd,zBt,hq]
       rw [if_pos hc,zDk (zCR id k i _) he.al .dead]
      ·cases h
     ·cases h
    ·cases h
   ·rename_i id ty xs i off hp
    split at h
    ·rename_i d hd
     unfold zCk at h
     split at h
     ·rename_i hc
      split at h
      ·rename_i x0 hx0
       split at h
       ·rename_i y0 hy0
        refine ⟨zEg id ty i y0,b.vars.map (fun c=>c.map (List.map (zEg id ty i y0))), .dead,b.st,⟨fun _=>rfl,rfl,fun _ _ _=>rfl⟩,fun e he=> ?_⟩
        simp only [evW,hap e he,hp,hx e he,hd,zCk,hx0,hy0]
        rw [if_pos hc,zDk (zEg id ty i y0) he.al .dead]
       ·cases h
      ·cases h
     ·cases h
    ·rename_i id2 t2 ys hd
     unfold zA8 at h
     split at h
     ·rename_i t3
      split at h
      ·rename_i hc
       refine ⟨zQU id id2 t2 i ys,b.vars.map (fun c=>c.map (List.map (zQU id id2 t2 i ys))), .dead,b.st,⟨fun _=>rfl,rfl,fun _ _ _=>rfl⟩,fun e he=> ?_⟩
       simp only [evW,hap e he,hp,hx e he,hd,zA8]
       rw [if_pos hc,zDk (zQU id id2 t2 i ys) he.al .dead]
      ·cases h
     ·cases h
    ·cases h
   ·rename_i n hp
    split at h
    ·rename_i d hd
     obtain ⟨id,id2,ty,xs,j,ys,mm⟩:=n
     cases mm with
     |q k off=>
      simp only [zAK] at h
      split at h
      ·rename_i hc
       split at h
       ·rename_i x0 hx0
        split at h
        ·rename_i y0 hy0
         refine ⟨zQV id id2 ty k y0,b.vars.map (fun c=>c.map (List.map (zQV id id2 ty k y0))), .dead,b.st,⟨fun _=>rfl,rfl,fun _ _ _=>rfl⟩,fun e he=> ?_⟩
         simp only [evW,hap e he,hp,hx e he,hd,zAK,hx0,hy0]
         rw [if_pos hc,zDk (zQV id id2 ty k y0) he.al .dead]
        ·cases h
       ·cases h
      ·cases h
     |_=>simp [zAK] at h
    ·cases h
   ·cases h
 case call c=>
  have hargs: ∀e,zJC G e b ⟨dst, .call c,type,pos,after,guard⟩→ ∀x,x∈c.args.toList→evx G e x=evx G b x:=by
   intro e he x hx
   exact he.ops x (by simp only [Op.operands,Call.operands];exact Array.mem_append_right _ (by simpa using hx))
  have bits: ∀ (x0 x1:Operand) (d id:Nat),c.callee= .builtin .append→c.args.toList=[x0,x1]→dst=some d→(id=d∨(evx G b x0).bits=2^(2*id))→
    w9 (j1 G b ⟨dst, .call c,type,pos,after,guard⟩) (qF id):=by
   intro x0 x1 d id hc ha hd hid
   refine (w9.kill id).mono ?_
   intro t ht
   simp only [j1,hc,ha,hd,zAT,w8] at ht
   rcases hid with rfl|hid
   ·exact ht.1
   ·rw [←hid];exact ht.2
  have hT: ∀e,zJC G e b ⟨dst, .call c,type,pos,after,guard⟩→j4 P G b dst c=none→j4 P G e dst c=none:=by
   intro e he hn
   unfold j4 at hn ⊢
   split
   ·rename_i x0 x1 t0 t1 d hcal hars htys
    have h0:evx G e x0=evx G b x0:=hargs e he x0 (by rw [hars];simp)
    have h1:evx G e x1=evx G b x1:=hargs e he x1 (by rw [hars];simp)
    simp only [hcal,hars,htys] at hn
    rw [h0,h1]
    repeat' split at hn
    all_goals first|cases hn|skip
    all_goals simp_all
   ·rfl
  have hV: ∀e,zJC G e b ⟨dst, .call c,type,pos,after,guard⟩→w1 P G b dst c=none→w1 P G e dst c=none:=by
   intro e he hn
   unfold w1 at hn ⊢
   split
   ·rename_i p x1 t0 t1 d hcal hars htys
    have h0:e.get p=b.get p:=hargs e he (.tmp p) (by rw [hars];simp)
    have h1:evx G e x1=evx G b x1:=hargs e he x1 (by rw [hars];simp)
    simp only [hcal,hars,htys] at hn
    rw [h0,h1]
    repeat' split at hn
    all_goals first|cases hn|skip
    all_goals simp_all
   ·rfl
  split at h
  ·rename_i e2 he2
   simp only [Option.some.injEq] at h;subst h
   unfold j4 at he2
   split at he2
   ·rename_i x0 x1 t0 t1 d hcal hars htys
    split at he2
    ·rename_i el el1 hu0 hu1
     split at he2
     ·rename_i info hinfo
      split at he2
      ·rename_i z t ys hz hsrc
       split at he2
       ·rename_i nm xs hdst
        split at he2
        ·rename_i hok
         split at he2
         ·rename_i hroom
          refine ⟨qF (nm.getD d),((b.vars.set (nm.getD d) none).map (fun c=>c.map (List.map (qF (nm.getD d))))), .ot (nm.getD d) t (xs++ys),b.st,bits x0 x1 d _ hcal hars rfl ?_,fun e he=> ?_⟩
          ·unfold zQl at hdst
           split at hdst
           ·simp only [Option.some.injEq,Prod.mk.injEq] at hdst;rw [←hdst.1];exact .inl rfl
           ·simp only [Option.some.injEq,Prod.mk.injEq] at hdst;rw [←hdst.1];exact .inl rfl
           ·rename_i heq
            split at hdst
            ·simp only [Option.some.injEq,Prod.mk.injEq] at hdst
             rw [←hdst.1,heq];exact .inr rfl
            ·cases hdst
           ·cases hdst
          ·have h0:evx G e x0=evx G b x0:=hargs e he x0 (by rw [hars];simp)
           have h1:evx G e x1=evx G b x1:=hargs e he x1 (by rw [hars];simp)
           have:j4 P G e (some d) c=some { (e.kill (nm.getD d)) with tm:=(e.kill (nm.getD d)).tm.set d (.ot (nm.getD d) t (xs++ys)) } :=by
            simp only [j4,hcal,hars,htys,hu0,hu1,hinfo,hz,h0,h1,hsrc,hdst]
            rw [if_pos hok,if_pos hroom]
           simp only [evW,this]
           rw [zBT he.al]
         ·cases he2
        ·cases he2
       ·cases he2
      ·cases he2
     ·cases he2
    ·cases he2
   ·cases he2
  ·rename_i hnoT
   split at h
   ·rename_i e2 he2
    simp only [Option.some.injEq] at h;subst h
    unfold w1 at he2
    split at he2
    ·rename_i p x1 t0 t1 d hcal hars htys
     split at he2
     ·rename_i el el1 hu0 hu1
      split at he2
      ·rename_i info hinfo
       split at he2
       ·rename_i z t y ys hz hsrc
        split at he2
        ·rename_i id t' xs hi qR
         split at he2
         ·cases he2
         ·rename_i hne
          split at he2
          ·rename_i htt
           subst htt
           split at he2
           ·rename_i hok
            split at he2
            ·rename_i hroom
             refine ⟨qF id,((b.vars.set (id) none).map (fun c=>c.map (List.map (qF (id))))), .ot id t' (List.take hi xs++y::ys),b.st,bits (.tmp p) x1 d _ hcal hars rfl (.inr ?_),fun e he=> ?_⟩
             ·have:evx G b (.tmp p)= .ov id t' xs 0 hi:=qR
              rw [this];rfl
             ·have h0:e.get p=b.get p:=hargs e he (.tmp p) (by rw [hars];simp)
              have h1:evx G e x1=evx G b x1:=hargs e he x1 (by rw [hars];simp)
              have:w1 P G e (some d) c=some { (e.kill id) with tm:=(e.kill id).tm.set d (.ot id t' (List.take hi xs++y::ys)) } :=by
               simp only [w1,hcal,hars,htys,hu0,hu1,hinfo,hz,h0,h1,hsrc,qR]
               rw [if_neg hne,dif_pos trivial,if_pos hok,if_pos hroom]
              simp only [evW,hT e he hnoT,this]
              rw [zBT he.al]
            ·cases he2
           ·cases he2
          ·cases he2
        ·cases he2
       ·cases he2
      ·cases he2
     ·cases he2
    ·cases he2
   ·rename_i hnoV
    unfold yH jY at h
    split at h
    ·rename_i x0 x1 t0 t1 d hcal hars htys
     split at h
     ·rename_i el el1 hu0 hu1
      split at h
      ·rename_i info hinfo
       split at h
       ·rename_i z es2 hz hes2
        split at h
        ·rename_i hok
         have h0: ∀e,zJC G e b ⟨some d, .call c,type,pos,after,guard⟩→evx G e x0=evx G b x0:=fun e he=>hargs e he x0 (by rw [hars];simp)
         have h1: ∀e,zJC G e b ⟨some d, .call c,type,pos,after,guard⟩→evx G e x1=evx G b x1:=fun e he=>hargs e he x1 (by rw [hars];simp)
         split at h
         ·rename_i id k es heq
          split at h
          ·rename_i hc
           refine ⟨qF id,((b.vars.set (id) none).map (fun c=>c.map (List.map (qF (id))))), .ow id k (es++es2),b.st,bits x0 x1 d _ hcal hars rfl (.inr (by rw [heq];rfl)),fun e he=> ?_⟩
           have:yH P G e (some d) c=some { (e.kill id) with tm:=(e.kill id).tm.set d (.ow id k (es++es2)) } :=by
            simp only [yH,jY,hcal,hars,htys,hu0,hu1,hinfo,hz,h0 e he,h1 e he,hes2,hok,if_true,heq]
            rw [if_pos hc]
           simp only [evW,hT e he hnoT,hV e he hnoV,this]
           rw [zBT he.al]
          ·cases h
         ·split at h
          ·split at h
           ·cases h
           ·cases h
           ·split at h
            ·refine ⟨fun x=>x,b.vars,evx G b x0,b.st,w9.id _,fun e he=> ?_⟩
             have:yH P G e (some d) c=some (e.put (some d) (evx G b x0)):=by
              simp only [yH,jY,hcal,hars,htys,hu0,hu1,hinfo,hz,h0 e he,h1 e he]
              simp_all
             simp only [evW,hT e he hnoT,hV e he hnoV,this]
             simp only [Env.put,yE, ←he.al.vars, ←he.al.st]
             simp
            ·rename_i q r
             split at h
             ·rename_i hroom
              refine ⟨qF d,((b.vars.set (d) none).map (fun c=>c.map (List.map (qF (d))))), .ow d info.size (q::r),b.st,bits x0 x1 d d hcal hars rfl (.inl rfl),fun e he=> ?_⟩
              have:yH P G e (some d) c=some { (e.kill d) with tm:=(e.kill d).tm.set d (.ow d info.size (q::r)) } :=by
               simp only [yH,jY,hcal,hars,htys,hu0,hu1,hinfo,hz,h0 e he,h1 e he]
               simp_all
              simp only [evW,hT e he hnoT,hV e he hnoV,this]
              rw [zBT he.al]
             ·cases h
          ·cases h
        ·cases h
       ·cases h
      ·cases h
     ·cases h
    ·cases h
 case mapUpdate t m k v=>
  split at h
  ·cases h
  ·split at h
   ·rename_i id es ck k0 v0 hm hk hv
    unfold zNI at h
    split at h
    ·rename_i es' ck' hu
     refine ⟨zSU id es' ck',b.vars.map (fun c=>c.map (List.map (zSU id es' ck'))), .dead,b.st,⟨fun _=>rfl,rfl,fun _ _ _=>rfl⟩,fun e he=> ?_⟩
     have h0:evx G e m=evx G b m:=he.ops m (by simp [Op.operands])
     have h1:evx G e k=evx G b k:=he.ops k (by simp [Op.operands])
     have h2:evx G e v=evx G b v:=he.ops v (by simp [Op.operands])
     simp only [evW,h0,h1,h2,hm,hk,hv,zNI,hu]
     rw [zDk (zSU id es' ck') he.al .dead]
    ·cases h
   ·cases h
end
end Go.Ve

namespace Go.Ve
open Go
inductive FV where
 |c (x:T)
 |a (s:Nat)
structure Fl where
 i:Nat
 d:Nat
 v:FV
section
variable {St:Type}
def Fl.val (q:Fl) (e:Env St):T:=
 match q.v with
 | .c x=>x
 | .a s=>e.get s
def zBP (e:Env St) (q:Fl):Env St:= { e with tm:=e.tm.set q.d (q.val e) }
def jR (e:Env St) (L:List Fl):Env St:=L.foldl zBP e
structure zGg (n:Nat) (L:List Fl):Prop where
 dist:L.Pairwise (fun p q=>p.d≠q.d)
 lt: ∀q,q∈L→q.d<n
 src: ∀q,q∈L→ ∀s,q.v= .a s→ ∀p,p∈L→s≠p.d
theorem zGg.filter {n:Nat} {L:List Fl} (h:zGg n L) (p:Fl→Bool):zGg n (L.filter p):=
 ⟨h.dist.filter _,fun q hq=>h.lt q (List.mem_filter.1 hq).1,fun q hq s hs p hp=>h.src q (List.mem_filter.1 hq).1 s hs p (List.mem_filter.1 hp).1⟩
theorem zLi (e:Env St) (q:Fl):(zBP e q).tm.length=e.tm.length:=by simp [zBP]
theorem zDc: ∀ (L:List Fl) (e:Env St),(jR e L).tm.length=e.tm.length:=by
 intro L
 induction L with
 |nil=>intro e;rfl
 |cons q L ih=>intro e;exact (ih (zBP e q)).trans (zLi e q)
theorem zFE: ∀ (L:List Fl) (e:Env St),(jR e L).vars=e.vars∧(jR e L).st=e.st:=by
 intro L
 induction L with
 |nil=>intro e;exact ⟨rfl,rfl⟩
 |cons q L ih=>intro e;exact ih (zBP e q)
theorem u9 (L:List Fl) (e:Env St):xW (jR e L) e:=⟨(zFE L e).1,(zFE L e).2,zDc L e⟩
theorem zIh (e:Env St) (q:Fl) (t:Nat):(zBP e q).get t=if t=q.d∧q.d<e.tm.length then q.val e else e.get t:=vL e q.d t (q.val e)
theorem xL: ∀ (L:List Fl) (e:Env St) (n:Nat),zGg n L→n≤e.tm.length→(∀t,(∀q,q∈L→t≠q.d)→(jR e L).get t=e.get t)∧(∀q,q∈L→(jR e L).get q.d=q.val e):=by
 intro L
 induction L with
 |nil=>intro e n _ _;exact ⟨fun _ _=>rfl,fun q hq=>by simp at hq⟩
 |cons q L ih=>
  intro e n h hn
  have hd:=List.pairwise_cons.1 h.dist
  have hL:zGg n L:=⟨hd.2,fun p hp=>h.lt p (List.mem_cons_of_mem _ hp),fun p hp s hs r hr=>h.src p (List.mem_cons_of_mem _ hp) s hs r (List.mem_cons_of_mem _ hr)⟩
  obtain ⟨h1,h2⟩:=ih (zBP e q) n hL (by rw [zLi];exact hn)
  refine ⟨?_,?_⟩
  ·intro t ht
   show (jR (zBP e q) L).get t=e.get t
   rw [h1 t (fun p hp=>ht p (List.mem_cons_of_mem _ hp)),zIh,if_neg (fun hh=>ht q (by simp) hh.1)]
  ·intro p hp
   show (jR (zBP e q) L).get p.d=p.val e
   rcases List.mem_cons.1 hp with rfl|hp
   ·rw [h1 p.d (fun r hr=>hd.1 r hr),zIh,if_pos ⟨rfl,Nat.lt_of_lt_of_le (h.lt p (by simp)) hn⟩]
   ·rw [h2 p hp]
    unfold Fl.val
    cases hv:p.v with
    |c x=>rfl
    |a s=>
     simp only
     rw [zIh,if_neg (fun hh=>h.src p (List.mem_cons_of_mem _ hp) s hv q (by simp) hh.1)]
theorem zSI {e b:Env St} (h:xW e b) (hg: ∀t,e.get t=b.get t):e=b:=by
 obtain ⟨tm,vars,st⟩:=e
 obtain ⟨tm',vars',st'⟩:=b
 have h1:=h.vars
 have h2:=h.st
 have h3:=h.len
 simp only at h1 h2 h3
 subst h1 h2
 have:tm=tm':=by
  apply List.ext_getElem h3
  intro i h4 h5
  have:=hg i
  simpa [Env.get,List.getD_eq_getElem?_getD,h4,h5] using this
 rw [this]
theorem xW.trans {e b c:Env St} (h:xW e b) (k:xW b c):xW e c:=⟨h.vars.trans k.vars,h.st.trans k.st,h.len.trans k.len⟩
theorem xW.symm {e b:Env St} (h:xW e b):xW b e:=⟨h.vars.symm,h.st.symm,h.len.symm⟩
theorem zRf {fl:List Fl} {e:Env St} (h:zGg e.tm.length fl) (p p':Fl→Bool) (hp: ∀q,q∈fl→p q=true→p' q=true):jR (jR e (fl.filter p)) (fl.filter p')=jR e (fl.filter p'):=by
 refine zSI ((u9 _ _).trans ((u9 _ e).trans (u9 _ e).symm)) ?_
 intro t
 obtain ⟨a1,a2⟩:=xL (fl.filter p) e _ (h.filter p) (Nat.le_refl _)
 obtain ⟨b1,b2⟩:=xL (fl.filter p') e _ (h.filter p') (Nat.le_refl _)
 obtain ⟨c1,c2⟩:=xL (fl.filter p') (jR e (fl.filter p)) e.tm.length (h.filter p') (by rw [zDc];exact Nat.le_refl _)
 by_cases ht: ∃q,q∈fl.filter p'∧t=q.d
 ·obtain ⟨q,hq,rfl⟩:=ht
  rw [b2 q hq,c2 q hq]
  unfold Fl.val
  cases hv:q.v with
  |c x=>rfl
  |a s=>
   simp only
   exact a1 s (fun r hr=>h.src q (List.mem_filter.1 hq).1 s hv r (List.mem_filter.1 hr).1)
 ·have ht': ∀q,q∈fl.filter p'→t≠q.d:=fun q hq hh=>ht ⟨q,hq,hh⟩
  rw [b1 t ht',c1 t ht']
  refine a1 t (fun q hq=>ht' q ?_)
  obtain ⟨h1,h2⟩:=List.mem_filter.1 hq
  exact List.mem_filter.2 ⟨h1,hp q h1 h2⟩
theorem zS8 {fl:List Fl} {e:Env St} (h:zGg e.tm.length fl) (p p':Fl→Bool) {q:Fl} (hq:q∈fl) (hp: ∀r,r∈fl→(p' r=true↔p r=true∨r.d=q.d)) (hpq:p q=false):
  zBP (jR e (fl.filter p)) q=jR e (fl.filter p'):=by
 have hal:xW (zBP (jR e (fl.filter p)) q) e:=⟨(zFE _ e).1,(zFE _ e).2,by rw [zLi,zDc]⟩
 refine zSI (hal.trans (u9 _ e).symm) ?_
 intro t
 obtain ⟨a1,a2⟩:=xL (fl.filter p) e _ (h.filter p) (Nat.le_refl _)
 obtain ⟨b1,b2⟩:=xL (fl.filter p') e _ (h.filter p') (Nat.le_refl _)
 have hval:q.val (jR e (fl.filter p))=q.val e:=by
  unfold Fl.val
  cases hv:q.v with
  |c x=>rfl
  |a s=>
   simp only
   exact a1 s (fun r hr=>h.src q hq s hv r (List.mem_filter.1 hr).1)
 rw [zIh,zDc]
 by_cases htq:t=q.d
 ·subst htq
  rw [if_pos ⟨rfl,h.lt q hq⟩,hval,b2 q (List.mem_filter.2 ⟨hq,(hp q hq).2 (.inr rfl)⟩)]
 ·rw [if_neg (fun hh=>htq hh.1)]
  by_cases ht: ∃r,r∈fl.filter p∧t=r.d
  ·obtain ⟨r,hr,rfl⟩:=ht
   obtain ⟨h1,h2⟩:=List.mem_filter.1 hr
   rw [a2 r hr,b2 r (List.mem_filter.2 ⟨h1,(hp r h1).2 (.inl h2)⟩)]
  ·have ht': ∀r,r∈fl.filter p→t≠r.d:=fun r hr hh=>ht ⟨r,hr,hh⟩
   rw [a1 t ht',b1 t ?_]
   intro r hr hh
   obtain ⟨h1,h2⟩:=List.mem_filter.1 hr
   rcases (hp r h1).1 h2 with h3|h3
   ·exact ht' r (List.mem_filter.2 ⟨h1,h3⟩) hh
   ·exact htq (hh.trans h3)
def zQQ (m:Nat) (dst:Option Nat) (q:Fl):Prop:=
 dst≠some q.d∧match q.v with
  | .c (.p _)=>True
  | .c (.lp s _)=>m.testBit (2*s)=false
  | .c _=>False
  | .a s=>dst≠some s
theorem zUO {e:Env St} {f:T→T} {V:List (Option (List T))} {dst:Option Nat} {y:T} {st:St} (hf:f .dead= .dead) (t:Nat) (ht:dst≠some t):(yE e f V dst y st).get t=f (e.get t):=by
 cases dst with
 |none=>
  simp only [yE,Env.get,List.getD_eq_getElem?_getD,List.getElem?_map]
  cases e.tm[t]? <;>simp [hf]
 |some d=>
  simp only [yE,Env.get,List.getD_eq_getElem?_getD]
  rw [List.getElem?_set_ne (fun h=>ht (by rw [h])),List.getElem?_map]
  cases e.tm[t]? <;>simp [hf]
theorem zTa {e:Env St} {m:Nat} {f:T→T} {V:List (Option (List T))} {dst:Option Nat} {y:T} {st:St} (hf:w9 m f) {q:Fl} (hq:zQQ m dst q):
  yE (zBP e q) f V dst y st=zBP (yE e f V dst y st) q:=by
 have hv:f (q.val e)=q.val (yE e f V dst y st):=by
  unfold Fl.val
  have h2:=hq.2
  cases hv:q.v with
  |c x=>
   rw [hv] at h2
   cases x with
   |p d=>exact hf.p d
   |lp s off=>exact hf.lp s off h2
   |_=>exact h2.elim
  |a s=>
   rw [hv] at h2
   exact (zUO hf.dead s h2).symm
 cases dst with
 |none=>
  simp only [yE,zBP,List.map_set]
  rw [hv];rfl
 |some d=>
  have hne:d≠q.d:=fun h=>hq.1 (by rw [h])
  simp only [yE,zBP,List.map_set]
  rw [hv,List.set_comm _ _ (fun h=>hne h.symm)];rfl
theorem zS9: ∀ (L:List Fl) {e:Env St} {m:Nat} {f:T→T} {V:List (Option (List T))} {dst:Option Nat} {y:T} {st:St},w9 m f→(∀q,q∈L→zQQ m dst q)→
  yE (jR e L) f V dst y st=jR (yE e f V dst y st) L:=by
 intro L
 induction L with
 |nil=>intro e m f V dst y st _ _;rfl
 |cons q L ih=>
  intro e m f V dst y st hf hs
  show yE (jR (zBP e q) L) f V dst y st=jR (zBP (yE e f V dst y st) q) L
  rw [ih hf (fun r hr=>hs r (List.mem_cons_of_mem _ hr)),zTa hf (hs q (by simp))]
end
section
variable {Γ:Sig} {P:Program} {G:Nat→Option (List V)} {S:jD Γ}
def zHU (G:Nat→Option (List V)) (e:Env Γ.St):List Operand→List Nat
 |[]=>[]
 |x::r=>match evx G e x with
  | .ot id _ _=>id::zHU G e r
  |_=>zHU G e r
def frzI:List Nat→Env Γ.St→Env Γ.St
 |[],e=>e
 |i::r,e=>frzI r (frzOE i e)
def zP2 (G:Nat→Option (List V)) (o:Oper) (e:Env Γ.St):Env Γ.St:=frzI (zHU G e o.op.operands.toList) e
def zFM (o:Oper):Bool:=
 match o.op with
 | .build _ _=>true
 | .call c=>match c.callee with
  | .value _=>true
  |_=>false
 |_=>false
theorem zUP: ∀ (l:List Nat), ∃g:T→T,(∀d,g (.p d)= .p d)∧g .dead= .dead∧(∀s off,g (.lp s off)= .lp s off)∧ ∀e:Env Γ.St,frzI l e=e.mapT g:=by
 intro l
 induction l with
 |nil=>exact ⟨fun x=>x,fun _=>rfl,rfl,fun _ _=>rfl,fun e=>by
   unfold frzI Env.mapT
   cases e with
   |mk tm vr st=>simp⟩
 |cons i r ih=>
  obtain ⟨g,h1,h2,h3,h4⟩:=ih
  cases hb:Nat.beq i jB with
  |true=>exact ⟨g,h1,h2,h3,fun e=>by simp only [frzI,frzOE,hb,h4]⟩
  |false=>
   refine ⟨fun x=>g (zAj i x),fun d=>h1 d,h2,fun s off=>h3 s off,fun e=> ?_⟩
   simp only [frzI,frzOE,hb,h4]
   unfold Env.mapT
   cases e with
   |mk tm vr st=>
    simp [Function.comp_def]
theorem zRi {e b:Env Γ.St} : ∀ (l:List Operand),(∀x,x∈l→evx G e x=evx G b x)→zHU G e l=zHU G b l:=by
 intro l
 induction l with
 |nil=>intro _;rfl
 |cons x r ih=>
  intro h
  simp only [zHU,h x (by simp),ih (fun y hy=>h y (List.mem_cons_of_mem _ hy))]
theorem Inv.frzI {w0:World} {F0:Blk→Prop} {O0:kU} {a:Act} {w:World} : ∀ (l:List Nat) {e:Env Γ.St},Inv Γ G w0 F0 O0 a w e→Inv Γ G w0 F0 O0 a w (Ve.frzI l e):=by
 intro l
 induction l with
 |nil=>intro e h;exact h
 |cons i r ih=>intro e h;exact ih (h.frzOE i)
def zEv (P:jG) (G:Nat→Option (List V)) (S:jD Γ) (e:Env Γ.St) (o:Oper) (e1:Env Γ.St):Prop:=
 zGb P G S e o=some e1∨evW P G e o=some e1∨(zFM o=true∧zGb P G S (zP2 G o e) o=some e1)
theorem zDA {e:Env Γ.St} {o:Oper} (h:zFM o=true):j1 G e o=zAT o.dst:=by
 unfold zFM at h
 unfold j1
 split at h
 ·rename_i hop;simp [hop]
 ·rename_i c hop
  split at h
  ·rename_i fv hcal
   simp [hop,hcal]
  ·cases h
 ·cases h
theorem zTu {e:Env Γ.St} {o:Oper} (h:zFM o=true):evW P G e o=none:=by
 unfold zFM at h
 unfold evW
 split at h
 ·rename_i hop;simp [hop]
 ·rename_i c hop
  split at h
  ·rename_i fv hcal
   simp [hop,hcal,j4,w1,yH,jY]
  ·cases h
 ·cases h
theorem zLd {L:jG} {b b1:Env Γ.St} {o:Oper} (h:zEv L G S b o b1): ∃f V y st,w9 (j1 G b o) f∧b1=yE b f V o.dst y st∧ ∀e,zJC G e b o→zEv L G S e o (yE e f V o.dst y st):=by
 have hb:zJC G b b o:=⟨⟨rfl,rfl,rfl⟩,fun _ _=>rfl⟩
 rcases h with h|h|⟨hB,h⟩
 ·obtain ⟨f,V,y,st,h1,h2⟩:=zNK h
  have:=h2 b hb
  rw [h] at this
  exact ⟨f,V,y,st,h1,Option.some.inj this,fun e he=> .inl (h2 e he)⟩
 ·obtain ⟨f,V,y,st,h1,h2⟩:=zUZ h
  have:=h2 b hb
  rw [h] at this
  exact ⟨f,V,y,st,h1,Option.some.inj this,fun e he=> .inr (.inl (h2 e he))⟩
 ·obtain ⟨g,g1,g2,g3,g4⟩:=zUP (Γ:=Γ) (zHU G b o.op.operands.toList)
  obtain ⟨f,V,y,st,h1,h2⟩:=zNK h
  rw [zDA hB] at h1
  have hform: ∀e:Env Γ.St,yE (e.mapT g) f V o.dst y st=yE e (fun x=>f (g x)) V o.dst y st:=by
   intro e
   unfold yE Env.mapT
   cases o.dst<;>simp [Function.comp_def]
  have key: ∀e,zJC G e b o→zP2 G o e=e.mapT g∧zGb L G S (zP2 G o e) o=some (yE e (fun x=>f (g x)) V o.dst y st):=by
   intro e he
   have hids:zHU G e o.op.operands.toList=zHU G b o.op.operands.toList:=zRi _ (fun x hx=>he.2 x (by simpa using hx))
   have hfe:zP2 G o e=e.mapT g:=by unfold zP2;rw [hids,g4]
   have hfb:zP2 G o b=b.mapT g:=by unfold zP2;rw [g4]
   refine ⟨hfe,?_⟩
   rw [hfe, ←hform]
   apply h2
   rw [hfb]
   obtain ⟨⟨e1,e2,e3⟩,e4⟩:=he
   refine ⟨⟨?_,?_,?_⟩,?_⟩
   ·simp [Env.mapT,e1]
   ·simp [Env.mapT,e2]
   ·simp [Env.mapT,e3]
   ·intro x hx
    have:=e4 x hx
    cases x with
    |tmp t=>
     have ht:e.get t=b.get t:=this
     show (e.mapT g).get t=(b.mapT g).get t
     have hg: ∀c:Env Γ.St,(c.mapT g).get t=g (c.get t):=by
      intro c
      simp only [Env.mapT,Env.get,List.getD_eq_getElem?_getD,List.getElem?_map]
      cases c.tm[t]? <;>simp [g2]
     rw [hg,hg,ht]
    |_=>rfl
  refine ⟨fun x=>f (g x),V,y,st,?_,?_,fun e he=> .inr (.inr ⟨hB,(key e he).2⟩)⟩
  ·rw [zDA hB]
   exact ⟨fun d=>by simp only [g1];exact h1.p d,by simp only [g2];exact h1.dead,fun s off hs=>by simp only [g3];exact h1.lp s off hs⟩
  ·have:=(key b hb).2
   rw [h] at this
   exact Option.some.inj this
theorem zEv.op {e e1:Env Γ.St} {o:Oper} (hS:z7 Γ P G S) (h:zEv P G S e o e1):zSc P G e o e1:=by
 intro w0 F0 O0 a w Q hi
 rcases h with h|h|⟨_,h⟩
 ·exact zFf hS hi h
 ·exact zKL hi h
 ·exact zFf hS (hi.frzI _) h
theorem zS4 {L:jG} {fl:List Fl} {b b1:Env Γ.St} {o:Oper} {A p:Fl→Bool} (hfl:zGg b.tm.length fl) (hA: ∀q,q∈fl→A q=true→p q=true)
  (hops: ∀q,q∈fl→Operand.tmp q.d∈o.op.operands→A q=true)
  (h:zEv L G S (jR b (fl.filter A)) o b1) (hst: ∀q,q∈fl→zQQ (j1 G (jR b (fl.filter A)) o) o.dst q):zEv L G S (jR b (fl.filter p)) o (jR b1 (fl.filter p)):=by
 obtain ⟨f,V,y,st,h1,rfl,h3⟩:=zLd h
 rw [←zRf hfl A p hA]
 have hlen:(jR b (fl.filter A)).tm.length=b.tm.length:=zDc _ _
 obtain ⟨c1,c2⟩:=xL (fl.filter p) (jR b (fl.filter A)) _ (hfl.filter p) (by rw [hlen];exact Nat.le_refl _)
 obtain ⟨a1,a2⟩:=xL (fl.filter A) b _ (hfl.filter A) (Nat.le_refl _)
 have hsame:zJC G (jR (jR b (fl.filter A)) (fl.filter p)) (jR b (fl.filter A)) o:=by
  refine ⟨u9 _ _,?_⟩
  intro x hx
  cases x with
  |tmp t=>
   show (jR (jR b (fl.filter A)) (fl.filter p)).get t=(jR b (fl.filter A)).get t
   by_cases ht: ∃q,q∈fl.filter p∧t=q.d
   ·obtain ⟨q,hq,rfl⟩:=ht
    have hq1:=(List.mem_filter.1 hq).1
    have hqA:q∈fl.filter A:=List.mem_filter.2 ⟨hq1,hops q hq1 hx⟩
    rw [c2 q hq,a2 q hqA]
    unfold Fl.val
    cases hv:q.v with
    |c x=>rfl
    |a s=>
     simp only
     exact a1 s (fun r hr=>hfl.src q hq1 s hv r (List.mem_filter.1 hr).1)
   ·exact c1 t (fun q hq hh=>ht ⟨q,hq,hh⟩)
  |_=>rfl
 have:=h3 _ hsame
 rw [zS9 (fl.filter p) h1 (fun q hq=>hst q (List.mem_filter.1 hq).1)] at this
 exact this
end
end Go.Ve

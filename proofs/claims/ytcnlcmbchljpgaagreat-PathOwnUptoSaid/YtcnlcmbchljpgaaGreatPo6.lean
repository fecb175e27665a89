/-
  The evaluator over pure values, part 22: the same evaluation, each state written out before the next step: for the kernel.
  The evaluator over pure values, part 23: the program's tables as trees, for the kernel.
  Conditions out of code, part 1: operations. What an operation comes to on a state with open data, as a condition on what follows.
  Conditions out of code, part 2: writing operations, regions.
  Conditions out of code, part 3: statements, loops, functions.
  Conditions out of code, part 4: contracts over typed data; tables of contracts.
  Functions out of code, part 1: operations. What an operation on open data comes to, as a partial value of what follows.
  Functions out of code, part 2: what stays; writing operations, regions.
  Drawn regions that write, part 1: what an operation does to a state, whatever else the state holds.
  Drawn regions that write, part 2: floating operations; the chain of what writes.
-/
import Derived.Test.YtcnlcmbchljpgaaGreatPo5
set_option linter.unusedVariables false
namespace Go.Ve
open Go
section
variable {β:Type}
def fL {α:Type} (f:α→(α→β)→β):List α→(List α→β)→β
 |[],k=>k []
 |x::r,k=>f x (fun x=>fL f r (fun r=>k (x::r)))
def qBF:Int→(Int→β)→β
 | .ofNat m,k=>k (.ofNat m)
 | .negSucc m,k=>k (.negSucc m)
def qBc:Value→(Value→β)→β
 | .int q n,k=>qBF n (fun n=>k (.int q n))
 | .bool true,k=>k (.bool true)
 | .bool false,k=>k (.bool false)
 |v,k=>k v
def fV:Nat→V→(V→β)→β
 |0,d,k=>k d
 |_+1, .val v,k=>qBc v (fun v=>k (.val v))
 |n+1, .agg cs,k=>fL (fV n) cs (fun cs=>k (.agg cs))
 |n+1, .sl cs,k=>fL (fV n) cs (fun cs=>k (.sl cs))
 |n+1, .tup cs,k=>fL (fV n) cs (fun cs=>k (.tup cs))
 |n+1, .pp cs,k=>fL (fV n) cs (fun cs=>k (.pp cs))
 |n+1, .clo f cs,k=>fL (fV n) cs (fun cs=>k (.clo f cs))
 |_+1, .tl t xs,k=>k (.tl t xs)
 |_+1, .rf o,k=>k (.rf o)
 |_+1, .bot,k=>k .bot
def fT:T→(T→β)→β
 | .p d,k=>fV 8 d (fun d=>k (.p d))
 | .ow i q es,k=>fL (fV 8) es (fun es=>k (.ow i q es))
 | .oe i q es j off,k=>fL (fV 8) es (fun es=>k (.oe i q es j off))
 | .lp s off,k=>k (.lp s off)
 | .mp i es ck,k=>k (.mp i es ck)
 | .ot i t xs,k=>k (.ot i t xs)
 | .oet i t xs j off,k=>k (.oet i t xs j off)
 | .ov i t xs j off,k=>k (.ov i t xs j off)
 | .emp,k=>k .emp
 | .dead,k=>k .dead
def fAt {α:Type} (f:α→(α→β)→β):Nat→List α→(List α→β)→β
 |_,[],k=>k []
 |0,x::r,k=>f x (fun x=>k (x::r))
 |n+1,x::r,k=>fAt f n r (fun r=>k (x::r))
def fO:Option (List T)→(Option (List T)→β)→β
 |none,k=>k none
 |some cs,k=>fL (fun x k=>k x) cs (fun cs=>k (some cs))
def zYb {St:Type} (d:Nat) (e:Env St) (k:Env St→β):β:=
 match e with
 |⟨tm,vars,st⟩=>fAt (fun x k=>fT x k) d tm (fun tm=>k ⟨tm,vars,st⟩)
def zOn {St:Type} (e:Env St) (k:Env St→β):β:=
 match e with
 |⟨tm,vars,st⟩=>fL (fun x k=>fT x k) tm (fun tm=>fL fO vars (fun vars=>k ⟨tm,vars,st⟩))
theorem zOm {α:Type} {f:α→(α→β)→β} (hf: ∀x k,f x k=k x): ∀ (l:List α) (k:List α→β),fL f l k=k l:=by
 intro l
 induction l with
 |nil=>intro k;rfl
 |cons x l ih=>intro k;simp only [fL,hf,ih]
theorem zZC (v:Value) (k:Value→β):qBc v k=k v:=by
 cases v with
 |int q n=>cases n<;>rfl
 |bool b=>cases b<;>rfl
 |_=>rfl
theorem zSQ: ∀ (n:Nat) (d:V) (k:V→β),fV n d k=k d:=by
 intro n
 induction n with
 |zero=>intro d k;rfl
 |succ n ih=>
  intro d k
  cases d<;>simp only [fV]
  ·exact zZC _ _
  all_goals (first|exact zOm ih _ _|rfl)
theorem zZ2 (x:T) (k:T→β):fT x k=k x:=by
 cases x<;>simp only [fT]
 ·exact zSQ _ _ _
 ·exact zOm (zSQ 8) _ _
 ·exact zOm (zSQ 8) _ _
theorem qAE {α:Type} {f:α→(α→β)→β} (hf: ∀x k,f x k=k x): ∀ (n:Nat) (l:List α) (k:List α→β),fAt f n l k=k l:=by
 intro n l
 induction l generalizing n with
 |nil=>intro k;cases n<;>rfl
 |cons x l ih=>
  intro k
  cases n with
  |zero=>simp only [fAt,hf]
  |succ n=>simp only [fAt];exact ih n _
theorem qBd (x:Option (List T)) (k:Option (List T)→β):fO x k=k x:=by
 cases x with
 |none=>rfl
 |some cs=>simp only [fO];exact zOm (fun _ _=>rfl) _ _
theorem zVu {St:Type} (d:Nat) (e:Env St) (k:Env St→β):zYb d e k=k e:=by
 simp only [zYb]
 rw [qAE zZ2]
theorem zKy {St:Type} (e:Env St) (k:Env St→β):zOn e k=k e:=by
 simp only [zOn]
 rw [zOm zZ2,zOm qBd]
def fOp {St:Type} (o:Oper) (e:Env St) (k:Env St→β):β:=
 match o.op with
 | .box _ _| .alloc _| .store _ _ _| .makeFunc _ _ _| .makeSlice _ _ _| .build _ _| .slice _ _ _ _ _=>zOn e k
 | .call c=>match c.callee with
  | .builtin .len=>zYb (o.dst.getD 0) e k
  |_=>zOn e k
 |_=>zYb (o.dst.getD 0) e k
theorem zYa {St:Type} (o:Oper) (e:Env St) (k:Env St→β):fOp o e k=k e:=by
 unfold fOp
 split<;>(try split)<;>first|exact zKy _ _|exact zVu _ _ _
end
section
variable {Γ:Sig} (P:jE) (G:Nat→Option (List V)) (S:jH Γ)
def zOs (ops:Array Oper):List Oper→Env Γ.St→Option (Env Γ.St)
 |[],e=>some e
 |o::rest,e=>match zOr P G S ops e o with
  |some e1=>fOp o e1 (fun e1=>zOs ops rest e1)
  |none=>none
def zKL (ops:Array Oper):List Oper→Env Γ.St→Option (Env Γ.St)
 |[],e=>some e
 |o::rest,e=>match jO ops e o with
  |some true=>if zK9 G (qF (o::rest)) e o then
    match evQ P G S e o with
    |some r=>match zHh e o.dst r with
     |some e1=>fOp o e1 (fun e1=>zKL ops rest e1)
     |none=>none
    |none=>none
   else none
  |some false=>zYb (o.dst.getD 0) (e.put o.dst (.p (.val undef))) (fun e1=>zKL ops rest e1)
  |none=>none
def zQ9 (ops:Array Oper) (e:Env Γ.St):Option (Env Γ.St):=
 if zLP ops then zOn (killAll (qF ops.toList) e) (fun e=>zKL P G S ops ops.toList e) else none
def zKA (ops:Array Oper) (k:Nat) (e:Env Γ.St):Option (Env Γ.St):=
 match zQ9 P G S (ops.extract 0 k) e with
 |some e1=>zOs P G S ops (ops.toList.drop k) e1
 |none=>none
def zOx (ops:Array Oper) (e:Env Γ.St):Option (Env Γ.St):=
 if zCi ops.toList≤ops.size&&zGz ops (zCi ops.toList)&&zFH ops (zCi ops.toList) then
  match zKA P G S ops (zCi ops.toList) e with
  |some e1=>some e1
  |none=>zOn (frzOps G (zAF ops.toList) e) (fun e=>zKA P G S ops (zCi ops.toList) e)
 else none
def u5:Nat→Code→Env Γ.St→Option (X×Env Γ.St)
 |0,_,_=>none
 |_+1, .skip,e=>some (.normal,e)
 |n+1, .seq x y,e=>match u5 n x e with
  |some (.normal,e1)=>u5 n y e1
  |r=>r
 |n+1, .cond c x y,e=>match evx G e c with
  | .p (.val (.bool true))=>u5 n x e
  | .p (.val (.bool false))=>u5 n y e
  |_=>none
 |n+1, .block id c,e=>match u5 n c e with
  |some (k,e1)=>some (k.out id,e1)
  |none=>none
 |n+1, .loop c,e=>match u5 n c e with
  |some (.normal,e1)=>u5 n (.loop c) e1
  |r=>r
 |_+1, .exit id,e=>some (.exit id,e)
 |_+1, .ret,e=>some (.ret,e)
 |_+1, .region _ ops false,e=>match zOs P G S ops ops.toList e with
  |some e1=>some (.normal,e1)
  |none=>none
 |_+1, .region _ ops true,e=>match zOx P G S ops e with
  |some e1=>some (.normal,e1)
  |none=>none
 |_,_,_=>none
def fRV {β:Type} :RV→(RV→β)→β
 | .p d,k=>fV 8 d (fun d=>k (.p d))
 | .own es,k=>fL (fV 8) es (fun es=>k (.own es))
 | .ownT t xs,k=>k (.ownT t xs)
def zY9 (fn:Func) (e':Env Γ.St):Option (Γ.St×RV):=
 match zCc P e' fn with
 |some r=>fRV r (fun r=>some (e'.st,r))
 |none=>none
def zYi (n:Nat) (fn:Func) (s:Γ.St) (ds:List V):Option (Γ.St×RV):=
 match fn.body with
 |some c=>zOn (start fn.ntmps s ds) (fun e=>match u5 P G S n c e with
  |some (.normal,e')=>zY9 P fn e'
  |some (.ret,e')=>zY9 P fn e'
  |_=>none)
 |none=>none
def zQE (Xs:jH Γ) (k:Nat):Nat→jH Γ
 |0=>Xs
 |n+1=>fun f s ds=>match Xs f s ds with
  |some r=>some r
  |none=>match zCN ds with
   |true=>none
   |false=>match P.fn f with
    |some fn=>zYi P G (zQE Xs k n) k fn s ds
    |none=>none
variable {P G S}
theorem zQb (ops:Array Oper): ∀ (l:List Oper) (e:Env Γ.St),zOs P G S ops l e=zKz P G S ops l e:=by
 intro l
 induction l with
 |nil=>intro e;rfl
 |cons o l ih=>
  intro e
  simp only [zOs,zKz,zYa]
  cases zOr P G S ops e o with
  |none=>rfl
  |some e1=>exact ih e1
theorem zUD (ops:Array Oper): ∀ (l:List Oper) (e:Env Γ.St),zKL P G S ops l e=zBh P G S ops l e:=by
 intro l
 induction l with
 |nil=>intro e;rfl
 |cons o l ih=>
  intro e
  simp only [zKL,zBh,zVu,zYa,ih]
  cases jO ops e o with
  |none=>rfl
  |some b=>
   cases b with
   |false=>rfl
   |true=>
    simp only
    split
    ·cases evQ P G S e o with
     |none=>rfl
     |some r=>simp only;cases zHh e o.dst r<;>rfl
    ·rfl
theorem zSW (ops:Array Oper) (e:Env Γ.St):zOx P G S ops e=zHJ P G S ops e:=by
 have h1: ∀ops (e:Env Γ.St),zQ9 P G S ops e=zJg P G S ops e:=by
  intro ops e;simp only [zQ9,zJg,zKy,zUD]
 have h2: ∀ops k (e:Env Γ.St),zKA P G S ops k e=zFK P G S ops k e:=by
  intro ops k e;simp only [zKA,zFK,h1,zQb];cases zJg P G S (ops.extract 0 k) e<;>rfl
 simp only [zOx,zHJ,h2,zKy]
 split
 ·cases zFK P G S ops (zCi ops.toList) e<;>rfl
 ·rfl
theorem zUx: ∀ (n:Nat) (c:Code) (e:Env Γ.St),u5 P G S n c e=uN P G S n c e:=by
 intro n
 induction n with
 |zero=>intro c e;simp [u5,uN]
 |succ n ih=>
  intro c e
  cases c with
  |region id ops draw=>cases draw<;>(simp only [u5,uN,zQb,zSW];rfl)
  |seq x y=>simp only [u5,uN,ih];rfl
  |cond c x y=>simp only [u5,uN,ih];rfl
  |block id c=>simp only [u5,uN,ih];rfl
  |loop c=>simp only [u5,uN,ih];rfl
  |_=>simp only [u5,uN]
theorem qAD {β:Type} (r:RV) (k:RV→β):fRV r k=k r:=by
 cases r with
 |p d=>exact zSQ _ _ _
 |own es=>exact zOm (zSQ 8) _ _
 |ownT t xs=>rfl
theorem zYh (n:Nat) (fn:Func) (s:Γ.St) (ds:List V):zYi P G S n fn s ds=zSV P G S n fn s ds:=by
 have hr: ∀e':Env Γ.St,zY9 P fn e'=(zCc P e' fn).map (fun r=>(e'.st,r)):=by
  intro e'
  simp only [zY9,qAD]
  cases zCc P e' fn<;>rfl
 simp only [zYi,zSV,zKy,zUx,hr]
 rfl
theorem zY7 (Xs:jH Γ) (k:Nat): ∀n,zQE P G Xs k n=zMz P G Xs k n:=by
 intro n
 induction n with
 |zero=>rfl
 |succ n ih=>
  funext f s ds
  simp only [zQE,zMz,zYh,ih]
  cases Xs f s ds with
  |some r=>rfl
  |none=>cases zCN ds with
   |true=>rfl
   |false=>cases P.fn f<;>rfl
end
section
variable {Γ:Sig} {P:Program} {G:Nat→Option (List V)}
theorem zTH (hm:P.follows .mixedOrders=true) (hn:zM7 P=true) {Xs:jH Γ} (hX:qH Γ P G Xs) (k n:Nat):qH Γ P G (zQE P G Xs k n):=by
 rw [zY7];exact zTF hm hn hX k n
end
end Go.Ve

namespace Go.Ve
open Go
inductive Tr (α:Type) where
 |nil
 |node (v:α) (l r:Tr α)
def zML {α:Type} :List α→List α
 |[]=>[]
 |[_]=>[]
 |_::y::r=>y::zML r
def zF4 {α:Type} :List α→List α
 |[]=>[]
 |[x]=>[x]
 |x::_::r=>x::zF4 r
def Tr.ofList {α:Type} :Nat→List α→Tr α
 |0,_=> .nil
 |_+1,[]=> .nil
 |n+1,x::r=> .node x (Tr.ofList n (zF4 r)) (Tr.ofList n (zML r))
def Tr.get {α:Type} :Tr α→Nat→Option α
 | .nil,_=>none
 | .node v l r,n=>match Nat.beq n 0 with
  |true=>some v
  |false=>match Nat.beq ((n-1)%2) 0 with
   |true=>l.get ((n-1) / 2)
   |false=>r.get ((n-1) / 2)
theorem zWp {α:Type} : ∀ (l:List α) (i:Nat),(zF4 l)[i]? =l[2*i]? :=by
 intro l
 induction l using zF4.induct with
 |case1=>intro i;simp [zF4]
 |case2 x=>intro i;cases i with
  |zero=>rfl
  |succ i=>simp [zF4]
 |case3 x y r ih=>intro i;cases i with
  |zero=>rfl
  |succ i=>simp only [zF4,List.getElem?_cons_succ,ih];rw [show 2*(i+1)=2*i+1+1 by omega];simp
theorem zXF {α:Type} : ∀ (l:List α) (i:Nat),(zML l)[i]? =l[2*i+1]? :=by
 intro l
 induction l using zML.induct with
 |case1=>intro i;simp [zML]
 |case2 x=>intro i;simp [zML]
 |case3 x y r ih=>intro i;cases i with
  |zero=>rfl
  |succ i=>simp only [zML,List.getElem?_cons_succ,ih];rw [show 2*(i+1)=2*i+1+1 by omega];simp
theorem zWo {α:Type} : ∀ (l:List α),(zF4 l).length≤l.length:=by
 intro l
 induction l using zF4.induct with
 |case1=>simp [zF4]
 |case2 x=>simp [zF4]
 |case3 x y r ih=>simp [zF4];omega
theorem zXE {α:Type} : ∀ (l:List α),(zML l).length≤l.length:=by
 intro l
 induction l using zML.induct with
 |case1=>simp [zML]
 |case2 x=>simp [zML]
 |case3 x y r ih=>simp [zML];omega
theorem Tr.get_ofList {α:Type} : ∀ (n:Nat) (l:List α) (i:Nat),l.length≤n→(Tr.ofList n l).get i=l[i]? :=by
 intro n
 induction n with
 |zero=>intro l i h;cases l with
  |nil=>rfl
  |cons x l=>simp at h
 |succ n ih=>
  intro l i h
  cases l with
  |nil=>simp [Tr.ofList,Tr.get]
  |cons x r=>
   simp only [List.length_cons] at h
   simp only [Tr.ofList,Tr.get]
   cases i with
   |zero=>rfl
   |succ i=>
    have h0:Nat.beq (i+1) 0=false:=rfl
    simp only [h0,Nat.add_sub_cancel]
    cases hb:Nat.beq (i%2) 0 with
    |true=>
     have:=Nat.eq_of_beq_eq_true hb
     simp only
     rw [ih _ _ (by have:=zWo r;omega),zWp,List.getElem?_cons_succ,show 2*(i / 2)=i by omega]
    |false=>
     have:=Nat.ne_of_beq_eq_false hb
     simp only
     rw [ih _ _ (by have:=zXE r;omega),zXF,List.getElem?_cons_succ,show 2*(i / 2)+1=i by omega]
def zYX (P:Program) (n:Nat):Tr (Option TypeDesc):=Tr.ofList n ((List.range n).map P.underlying)
def zZs (P:Program) (n:Nat):Tr (Option TypeInfo):=Tr.ofList n ((List.range n).map P.info?)
def qAe (P:Program) (n:Nat):Tr (Option Ty):=Tr.ofList n ((List.range n).map (zS5 P))
def qAC (P:Program) (n:Nat):Tr (Option Func):=Tr.ofList n ((List.range n).map (fun f=>P.funcs[f]?))
def zLb {β:Type} (x:Option β) (y:β):β:=
 match x with
 |some d=>d
 |none=>y
def jE.fast (P:Program) (nt nf:Nat):jE where
 P:=P
 und:=fun t=>zLb ((zYX P nt).get t) (P.underlying t)
 inf:=fun t=>zLb ((zZs P nt).get t) (P.info? t)
 fn:=fun t=>zLb ((qAC P nf).get t) P.funcs[t]?
 ty:=fun t=>zLb ((qAe P nt).get t) (zS5 P t)
theorem zM1 {β:Type} (f:Nat→β) (n t:Nat):zLb ((Tr.ofList n ((List.range n).map f)).get t) (f t)=f t:=by
 rw [Tr.get_ofList n _ t (by simp)]
 by_cases h:t<n
 ·simp [h,zLb]
 ·rw [List.getElem?_eq_none (by simp;omega)];rfl
theorem jE.fast_eq (P:Program) (nt nf:Nat):jE.fast P nt nf=jE.of P:=by
 unfold jE.fast jE.of
 congr 1
 ·funext t;exact zM1 P.underlying nt t
 ·funext t;exact zM1 P.info? nt t
 ·funext t;exact zM1 (fun f=>P.funcs[f]?) nf t
 ·funext t;exact zM1 (zS5 P) nt t
theorem zFc {Γ:Sig} {P:Program} {G:Nat→Option (List V)} (hm:P.follows .mixedOrders=true) (hn:zM7 P=true) {Xs:jH Γ} (hX:qH Γ P G Xs) (nt nf k n:Nat):
  qH Γ P G (zQE (jE.fast P nt nf) G Xs k n):=by
 rw [jE.fast_eq];exact zTH hm hn hX k n
end Go.Ve

namespace Go.Ve
open Go
abbrev zLX (Γ:Sig):=FuncId→Γ.St→List V→Option (Prop×Γ.St×RV)
open Classical in
def zYA:BinOp→(k:IntKind)→Int→Int→Option Int
 | .and,k,a,b=>some (k.wrap (BitVec.ofInt k.bits a&&&BitVec.ofInt k.bits b).toNat)
 | .or,k,a,b=>some (k.wrap (BitVec.ofInt k.bits a|||BitVec.ofInt k.bits b).toNat)
 | .xor,k,a,b=>some (k.wrap (BitVec.ofInt k.bits a^^^BitVec.ofInt k.bits b).toNat)
 | .andNot,k,a,b=>some (k.wrap (BitVec.ofInt k.bits a&&& ~~~ BitVec.ofInt k.bits b).toNat)
 |_,_,_,_=>none
section
variable {Γ:Sig} (P:jE) (G:Nat→Option (List V)) (S:zLX Γ)
abbrev Kq (Γ:Sig):=(R Γ.St→Prop)→Prop
abbrev Ke (Γ:Sig):=(Env Γ.St→Prop)→Prop
def zO9 (k:IntKind) (n:Int):R Γ.St:= .ret (.p (.val (.int k n)))
def zQJ (b:Bool):R Γ.St:= .ret (.p (.val (.bool b)))
variable {P G S}
end
section
variable {Γ:Sig} {P:Program} {G:Nat→Option (List V)} {S:zLX Γ} {e:Env Γ.St} {o:Oper}
theorem zGN {α β:Type} {s:Sem α} {a:α} (h:qY P s=some a) (f:α→Sem β):qY P (s>>=f)=qY P (f a):=by
 change qY P (s.bind f)=_
 induction s with
 |pure b=>simp only [qY,Option.some.injEq] at h;subst h;rfl
 |program k ih=>exact ih P h
 |_=>simp [qY] at h
theorem zJ2 {t:TypeId} {d:TypeDesc} (h:P.underlying t=some d):qY P (underlying t)=some d:=by
 show qY P (match P.underlying t with | some d => pure d | none => stuck "no such type" : Sem TypeDesc) = _
 rw [h];rfl
theorem zHI {v:Value} (h1:o.op.operands.toList.all (fun x=>(kA (evx G e x)).isSome)=true)
  (h2:qY P (execOp (fun x=>(kA (evx G e x)).getD undef) o)=some (.value v)):yP P G e o=some (.ret (.p (V.ofVal v)):R Γ.St):=by
 unfold yP
 rw [if_pos h1]
 have h3:qY (jE.of P).P (execOp (fun x=>(kA (evx G e x)).getD undef) o)=some (.value v):=h2
 rw [h3]
end
end Go.Ve

namespace Go.Ve
open Go
section
variable {β:Type 1}
end
section
variable {Γ:Sig} (P:jE) (G:Nat→Option (List V)) (S:zLX Γ)
def Env.lit (e:Env Γ.St) (t:Nat) (b:Bool):Env Γ.St:= { e with tm:=e.tm.set t (.p (.val (.bool b))) }
end
section
variable {Γ:Sig} {P:Program} {G:Nat→Option (List V)} {S:zLX Γ} {e:Env Γ.St} {o:Oper} {K:Env Γ.St→Prop} {ops:Array Oper}
theorem zG0 {t:Nat} {b:Bool} (h:e.get t= .p (.val (.bool b))):e.lit t b=e:=by
 obtain ⟨tm,vars,st⟩:=e
 simp only [Env.lit,Env.mk.injEq,and_true]
 refine List.ext_getElem? (fun i=> ?_)
 simp only [Env.get,List.getD_eq_getElem?_getD] at h
 by_cases hi:t=i
 ·subst hi
  rcases Nat.lt_or_ge t tm.length with hl|hl
  ·rw [List.getElem?_set_self hl]
   rw [List.getElem?_eq_getElem hl,Option.getD_some] at h
   rw [List.getElem?_eq_getElem hl,h]
  ·rw [List.getElem?_eq_none (by simpa using hl),List.getElem?_eq_none hl]
 ·rw [List.getElem?_set_ne hi]
end
end Go.Ve

namespace Go.Ve
open Go
def zC9 (t t':Ty) (xs:List t.El):Option (List t'.El):=if h:t=t' then some (h▸xs) else none
def zSM (t t':Ty) (xs:List t.El) (ys:List t'.El):Prop:=
 match zC9 t t' xs with
 |some zs=>zs=ys
 |none=>False
def zQ4:Value→Value→Prop
 | .int k n, .int k' m=>if k=k' then n=m else False
 | .bool a, .bool b=>a=b
 | .string a, .string b=>a=b
 |a,b=>a=b
def zQ5 {α:Type} (f:α→α→Prop):List α→List α→Prop
 |[],[]=>True
 |x::xs,y::ys=>f x y∧zQ5 f xs ys
 |_,_=>False
def zUo:Nat→V→V→Prop
 |0,x,y=>x=y
 |_+1, .val (.slice none 0 0), .tl _ ys=>ys=[]
 |_+1, .sl [], .tl _ ys=>ys=[]
 |_+1, .val a, .val b=>zQ4 a b
 |_+1, .tl t xs, .tl t' ys=>zSM t t' xs ys
 |n+1, .agg cs, .agg ds=>zQ5 (zUo n) cs ds
 |n+1, .tup cs, .tup ds=>zQ5 (zUo n) cs ds
 |_+1,x,y=>x=y
def qBM:T→T→Prop
 |_, .dead=>True
 | .p (.val (.slice none 0 0)), .ot _ _ ys=>ys=[]
 | .emp, .ot _ _ ys=>ys=[]
 | .ot i t xs, .ot j t' ys=>if i=j then zSM t t' xs ys else False
 | .p d, .p d'=>zUo 6 d d'
 | .lp s off, .lp s' off'=>if s=s'∧off=off' then True else False
 |x,y=>x=y
def zF3 {St:Type} (e:Env St):T→Bool
 | .lp s _=>(e.var s).isSome
 |_=>true
theorem uL {t t':Ty} {xs:List t.El} {ys:List t'.El} (h:zSM t t' xs ys): ∃ht:t=t',(ht▸xs)=ys:=by
 unfold zSM zC9 at h
 split at h
 ·rename_i zs hz
  split at hz
  ·rename_i ht
   simp only [Option.some.injEq] at hz
   exact ⟨ht,hz.trans h⟩
  ·cases hz
 ·exact h.elim
theorem zUp {a b:Value} (h:zQ4 a b):a=b:=by
 unfold zQ4 at h
 split at h
 ·split at h
  ·rename_i hk;rw [hk,h]
  ·exact h.elim
 ·rw [h]
 ·rw [h]
 ·exact h
theorem zLs {f:V→V→Prop} (hf: ∀x y,f x y→WkV x y): ∀ (xs ys:List V),zQ5 f xs ys→wW xs ys
 |[],[],_=>trivial
 |x::xs,y::ys,h=>⟨hf x y h.1,zLs hf xs ys h.2⟩
 |[],_::_,h=>h.elim
 |_::_,[],h=>h.elim
theorem WkV.tup {xs ys:List V} (h:wW xs ys):WkV (.tup xs) (.tup ys):=by
 intro w F v hr
 cases hr with
 |tup cs ds hl h0=>
  refine .tup cs ys (hl.trans h.len) ?_
  intro i x d hi hd
  have hlt:i<xs.length:=by rw [h.len];exact (List.getElem?_eq_some_iff.1 hd).1
  exact h.get i xs[i] d (by simp [hlt]) hd w F x (h0 i x xs[i] hi (by simp [hlt]))
theorem zUn: ∀ (n:Nat) (x y:V),zUo n x y→WkV x y:=by
 intro n
 induction n with
 |zero=>intro x y h;simp only [zUo] at h;subst h;exact .refl _
 |succ n ih=>
  intro x y h
  unfold zUo at h
  split at h
  ·cases ‹_=0›
  ·subst h;intro w F v hr;rw [Rd.eq_val hr];exact .tl _ [] _ (.slemp none 0)
  ·subst h;intro w F v hr;exact .tl _ [] _ hr
  ·rw [zUp h];exact .refl _
  ·obtain ⟨ht,h⟩:=uL h;subst ht;subst h;exact .refl _
  ·rename_i m cs ds heq
   simp only [Nat.succ_eq_add_one,Nat.add_right_cancel_iff] at heq
   subst heq
   exact WkV.agg (zLs ih cs ds h)
  ·rename_i m cs ds heq
   simp only [Nat.succ_eq_add_one,Nat.add_right_cancel_iff] at heq
   subst heq
   exact WkV.tup (zLs ih cs ds h)
  ·subst h;exact .refl _
section
variable {Γ:Sig} {P:Program} {G:Nat→Option (List V)} {w0:World} {F0:Blk→Prop} {O0:yT} {a:Act} {w:World} {e e2:Env Γ.St}
end
structure qBo (St:Type) where
 σ:Type
 get:Env St→Option σ
 env:σ→Env St
 inv:σ→Prop
 mes:σ→Nat
def zN7:Code→Option Nat
 | .region id _ _=>some id
 | .seq a b=>match zN7 a with
  |some n=>some n
  |none=>zN7 b
 | .cond _ a b=>match zN7 a with
  |some n=>some n
  |none=>zN7 b
 | .block _ a=>zN7 a
 | .loop a=>zN7 a
 |_=>none
section
variable {Γ:Sig} (P:jE) (G:Nat→Option (List V)) (S:zLX Γ) (A:Nat→Option (qBo Γ.St))
end
section
variable {Γ:Sig} {P:Program} {G:Nat→Option (List V)} {S:zLX Γ} {A:Nat→Option (qBo Γ.St)}
def jL (P:Program) (G:Nat→Option (List V)) (c:Code) (e:Env Γ.St) (k:X) (e1:Env Γ.St):Prop:=
 ∀ (w0:World) (F0:Blk→Prop) (O0:yT) (a:Act) (w:World),Inv Γ G w0 F0 O0 a w e→c.wp P (fun ex a' w'=>ex=k.toExit∧Inv Γ G w0 F0 O0 a' w' e1) a w
def zZU (P:Program) (c:Code) (Q:Exit→Act→World→Prop) (a:Act) (w:World):Prop:=
 ∀ (b:Frame) (k:List Item) (cs:List Frame), ∃e a' w',Q e a' w'∧Arrives P (lone (b.at a (.code c:: .inLoop c::k)) cs w) b k cs e a' w'
def zCw (P:Program) (G:Nat→Option (List V)) (c:Code) (e:Env Γ.St) (k:X) (e1:Env Γ.St):Prop:=
 ∀ (w0:World) (F0:Blk→Prop) (O0:yT) (a:Act) (w:World),Inv Γ G w0 F0 O0 a w e→zZU P c (fun ex a' w'=>ex=k.toExit∧Inv Γ G w0 F0 O0 a' w' e1) a w
theorem jL.skip (e:Env Γ.St):jL P G .skip e .normal e:=fun _ _ _ _ _ hi=>wp_skip ⟨rfl,hi⟩
theorem jL.exit (id:Nat) (e:Env Γ.St):jL P G (.exit id) e (.exit id) e:=fun _ _ _ _ _ hi=>wp_exit ⟨rfl,hi⟩
theorem jL.ret (e:Env Γ.St):jL P G .ret e .ret e:=fun _ _ _ _ _ hi=>wp_ret ⟨rfl,hi⟩
theorem jL.seqN {x y:Code} {e e1 e2:Env Γ.St} {k:X} (h1:jL P G x e .normal e1) (h2:jL P G y e1 k e2):jL P G (.seq x y) e k e2:=by
 intro w0 F0 O0 a w hi
 refine wp_seq (wp_mono (h1 w0 F0 O0 a w hi) ?_)
 rintro ex a' w' ⟨rfl,hi'⟩
 exact h2 w0 F0 O0 a' w' hi'
theorem jL.seqX {x y:Code} {e e1:Env Γ.St} {k:X} (h1:jL P G x e k e1) (hk:k≠ .normal):jL P G (.seq x y) e k e1:=by
 intro w0 F0 O0 a w hi
 refine wp_seq (wp_mono (h1 w0 F0 O0 a w hi) ?_)
 rintro ex a' w' ⟨rfl,hi'⟩
 cases k with
 |normal=>exact absurd rfl hk
 |exit id=>exact ⟨rfl,hi'⟩
 |ret=>exact ⟨rfl,hi'⟩
theorem jL.condB {c:Operand} {x y:Code} {e e1:Env Γ.St} {k:X} {b:Bool} (hc:evx G e c= .p (.val (.bool b))) (h:jL P G (if b then x else y) e k e1):jL P G (.cond c x y) e k e1:=by
 intro w0 F0 O0 a w hi
 have hw:=h w0 F0 O0 a w hi
 obtain ⟨F,O,β,hcr,hG,hsz,hdf,ht,hv⟩:=hi
 have h2:=u4 (e:=e) hG ht c
 rw [hc] at h2
 cases b with
 |true=>exact wp_cond_true (Rd.eq_val h2) hw
 |false=>exact wp_cond_false (Rd.eq_val h2) hw
theorem jL.block {id:Nat} {c:Code} {e e1:Env Γ.St} {k:X} (h:jL P G c e k e1):jL P G (.block id c) e (k.out id) e1:=by
 intro w0 F0 O0 a w hi
 refine wp_block (wp_mono (h w0 F0 O0 a w hi) ?_)
 rintro ex a' w' ⟨rfl,hi'⟩
 cases k with
 |normal=>exact ⟨rfl,hi'⟩
 |exit id'=>
  simp only [X.toExit,Exit.inBlock,X.out]
  split
  ·exact ⟨rfl,hi'⟩
  ·exact ⟨rfl,hi'⟩
 |ret=>exact ⟨rfl,hi'⟩
theorem jL.loop {c:Code} {e e1:Env Γ.St} {k:X} (h:zCw P G c e k e1):jL P G (.loop c) e k e1:=by
 intro w0 F0 O0 a w hi b k' cs
 obtain ⟨ex,a',w',hq,harr⟩:=h w0 F0 O0 a w hi b k' cs
 exact ⟨ex,a',w',hq, .of_steps (.one step_loop) harr⟩
theorem zCw.last {c:Code} {e e1:Env Γ.St} {k:X} (h:jL P G c e k e1) (hk:k≠ .normal):zCw P G c e k e1:=by
 intro w0 F0 O0 a w hi b k' cs
 obtain ⟨ex,a',w',⟨rfl,hi'⟩,harr⟩:=h w0 F0 O0 a w hi b (.inLoop c::k') cs
 cases k with
 |normal=>exact absurd rfl hk
 |exit id=>exact ⟨_,a',w',⟨rfl,hi'⟩, .pass (x:= .inLoop c) rfl (fun _ _=> .inl (by simp [X.toExit])) harr⟩
 |ret=>exact ⟨_,a',w',⟨rfl,hi'⟩, .pass (x:= .inLoop c) rfl (fun _ _=> .inl (by simp [X.toExit])) harr⟩
theorem zCw.step {c:Code} {e e1 e2:Env Γ.St} {k:X} (h:jL P G c e .normal e1) (h2:zCw P G c e1 k e2):zCw P G c e k e2:=by
 intro w0 F0 O0 a w hi b k' cs
 obtain ⟨ex,a',w',⟨rfl,hi'⟩,harr⟩:=h w0 F0 O0 a w hi b (.inLoop c::k') cs
 obtain ⟨ex2,a2,w2,hq2,harr2⟩:=h2 w0 F0 O0 a' w' hi' b k' cs
 exact ⟨ex2,a2,w2,hq2, .of_steps (Steps.trans harr (.one step_inLoop)) harr2⟩
def zZ1:RV→RV→Prop
 | .p (.val (.slice none 0 0)), .ownT _ ys=>ys=[]
 | .own [], .ownT _ ys=>ys=[]
 | .own [], .p (.tl _ ys)=>ys=[]
 | .ownT t xs, .ownT t' ys=>zSM t t' xs ys
 | .ownT t xs, .p (.tl t' ys)=>zSM t t' xs ys
 | .p d, .p d'=>zUo 7 d d'
 |_,_=>False
theorem zMd {N:Nat} {w:World} {F:Blk→Prop} {O:Nat→Prop} {v:Value} {r r':RV} (h:zZ1 r r') (hr:xY N w F O v r):
  ∃F':Blk→Prop,(∀b,F b→F' b)∧(∀id a n c,F' (.h id a n c)↔F (.h id a n c))∧(∀b:Nat,F' b→F b∨(N≤b∧b<w.heap.size∧ ¬O b))∧xY N w F' O v r':=by
 have same:xY N w F O v r'→ ∃F':Blk→Prop,(∀b,F b→F' b)∧(∀id a n c,F' (.h id a n c)↔F (.h id a n c))∧(∀b:Nat,F' b→F b∨(N≤b∧b<w.heap.size∧ ¬O b))∧xY N w F' O v r':=
  fun h=>⟨F,fun _ h=>h,fun _ _ _ _=>Iff.rfl,fun _ h=> .inl h,h⟩
 unfold zZ1 at h
 split at h
 ·subst h;exact same (.inl ⟨rfl,none,Rd.eq_val hr⟩)
 ·subst h;exact same hr
 ·subst h
  refine same ?_
  rcases hr with ⟨_,a0,rfl⟩|⟨h,_⟩
  ·exact .tl _ [] _ (.slemp a0 0)
  ·exact absurd rfl h
 ·obtain ⟨ht,h⟩:=uL h;subst ht;subst h;exact same hr
 ·obtain ⟨ht,h⟩:=uL h
  subst ht
  subst h
  rename_i t xs
  rcases hr with ⟨h0,a0,rfl⟩|⟨hne,b,cap,rfl,h1,h2,h3,h4,k,hrow⟩
  ·exact same (.tl _ _ _ (by rw [h0];exact .slemp a0 0))
  ·refine ⟨fun b'=>F b'∨b'=Blk.b b,fun _ h=> .inl h,zOY,fun b' hb=>hb.elim .inl (fun h=>by have h:=zBj h;subst h;exact .inr ⟨h1,h2,h4⟩),?_⟩
   exact .tl _ _ _ (zHk (hrow.mono (fun _ h=> .inl h) (fun _ _=>rfl) rfl) (fun _ h=>h) (.inr rfl))
 ·exact same (zUn 7 _ _ h _ _ _ hr)
 ·exact h.elim
end
end Go.Ve

namespace Go.Ve
open Go
@[reducible] def ElS:List Ty→Type
 |[]=>Unit
 |t::ts=>t.El×ElS ts
def kQ:(ts:List Ty)→ElS ts→List V
 |[],_=>[]
 |t::ts,x=>t.enc x.1::kQ ts x.2
def zEy:(ts:List Ty)→List V→Option (ElS ts)
 |[],[]=>some ()
 |t::ts,d::ds=>match t.dec d with
  |some x=>match zEy ts ds with
   |some xs=>some (x,xs)
   |none=>none
  |none=>none
 |_,_=>none
theorem uP: ∀ (ts:List Ty) (ds:List V) (x:ElS ts),zEy ts ds=some x→wW ds (kQ ts x)
 |[],[],_,_=>trivial
 |[],_::_,_,h=>by simp [zEy] at h
 |_::_,[],_,h=>by simp [zEy] at h
 |t::ts,d::ds,x,h=>by
  simp only [zEy] at h
  split at h
  ·rename_i y hy
   split at h
   ·rename_i ys hys
    simp only [Option.some.injEq] at h
    subst h
    exact ⟨kW hy,uP ts ds ys hys⟩
   ·cases h
  ·cases h
def zG3 (P:Program) (f:FuncId):Bool:=
 match P.funcs[f]? with
 | some fn => fn.body.isSome && !(fn.name == "runtime.NumGoroutine")
 |none=>false
end Go.Ve

namespace Go.Ve
open Go
structure zDb (St:Type) where
 ρ:Type
 m:Option ρ
 st:ρ→St
 res:ρ→RV
 pl:Bool
abbrev zM (Γ:Sig):=FuncId→Γ.St→List V→Option (zDb Γ.St)
def zM.toS {Γ:Sig} (S:zM Γ):jH Γ:=fun f s ds=>
 match S f s ds with
 |some c=>c.m.map (fun y=>(c.st y,c.res y))
 |none=>none
theorem zJI {Γ:Sig} {S:zM Γ} {f:FuncId} {s:Γ.St} {ds:List V} {c:zDb Γ.St} {y:c.ρ} (h:S f s ds=some c) (hy:c.m=some y):S.toS f s ds=some (c.st y,c.res y):=by
 simp only [zM.toS,h,hy,Option.map_some]
def zKj {ρ:Type} (c:Bool) (x:Option ρ):Option ρ:=
 match c with
 |true=>x
 |false=>none
theorem yM {ρ:Type} {c:Bool} {x:Option ρ} {v:ρ} :zKj c x=some v↔c=true∧x=some v:=by
 cases c<;>simp [zKj]
def idx {α:Type} (xs:List α) (i:Int):Option α:=if 0≤i then xs[i.toNat]? else none
def atN {α:Type} (xs:List α) (i:Nat):Option α:=xs[i]?
def zLU (s:ByteArray) (i:Int):Option Int:=if 0≤i then (s[i.toNat]?).map (fun b=>(b.toNat:Int)) else none
def sub {α:Type} (xs:List α) (lo hi:Int):Option (List α):=
 if 0≤lo∧lo≤hi∧hi≤xs.length then some ((xs.take hi.toNat).drop lo.toNat) else none
def app {α:Type} (bytes:Nat) (xs ys:List α):Option (List α):=
 if (2*(xs.length+ys.length)+1024)*bytes≤140737488355328 then some (xs++ys) else none
def qA8 {α:Type} (bytes:Nat) (n:Int) (x:α):Option (List α):=
 if 0≤n∧n*bytes≤140737488355328 then some (List.replicate n.toNat x) else none
abbrev Kx (Γ:Sig) (ρ:Type):=(R Γ.St→Option ρ)→Option ρ
abbrev Kex (Γ:Sig) (ρ:Type):=(Env Γ.St→Option ρ)→Option ρ
def zTS:Operand→Operand→Bool
 | .tmp a, .tmp b=>Nat.beq a b
 |_,_=>false
theorem zVQ {a b:Operand} (h:zTS a b=true):a=b:=by
 unfold zTS at h
 split at h
 ·rw [Nat.eq_of_beq_eq_true h]
 ·cases h
section
variable {Γ:Sig} {ρ:Type} (P:jE) (G:Nat→Option (List V)) (S:zM Γ)
def qAz (op:BinOp) (k:IntKind) (a b:Int):Option (Kx Γ ρ):=
 match op with
 | .add=>some (fun K=>K (zO9 k (k.wrap (a+b))))
 | .sub=>some (fun K=>K (zO9 k (k.wrap (a-b))))
 | .mul=>some (fun K=>K (zO9 k (k.wrap (a*b))))
 | .quo=>some (fun K=>zKj (b !=0) (K (zO9 k (k.wrap (a.tdiv b)))))
 | .rem=>some (fun K=>zKj (b !=0) (K (zO9 k (a.tmod b))))
 | .eql=>some (fun K=>K (zQJ (a==b)))
 | .neq=>some (fun K=>K (zQJ (a !=b)))
 | .lss=>some (fun K=>K (zQJ (decide (a<b))))
 | .leq=>some (fun K=>K (zQJ (decide (a≤b))))
 | .gtr=>some (fun K=>K (zQJ (decide (a>b))))
 | .geq=>some (fun K=>K (zQJ (decide (a≥b))))
 |op=>match zYA op k a b with
  |some n=>some (fun K=>K (zO9 k n))
  |none=>none
def zQB (op:BinOp) (k:IntKind) (a b:Int):Option (Kx Γ ρ):=
 match op with
 | .shl=>some (fun K=>zKj (decide (0≤b)) (K (zO9 k (k.wrap (a*2^min b.toNat k.bits)))))
 | .shr=>some (fun K=>zKj (decide (0≤b)) (K (zO9 k (a.fdiv (2^min b.toNat k.bits)))))
 |_=>none
def zLV (d:Option T) (dflt:Int):Option Int:=
 match d with
 |none=>some dflt
 |some (.p (.val (.int _ i)))=>some i
 |_=>none
def zZZ (b:Bool):Value→Value→Option Value
 | .bool x, .bool y=>some (.bool (cond b x y))
 | .int k x, .int k' y=>if k=k' then some (.int k (cond b x y)) else none
 |_,_=>none
def qX (e:Env Γ.St) (o:Oper):Option (Kx Γ ρ):=
 match o.op with
 | .indexAddr t x ix=>match evx G e x,evx G e ix with
  | .p (.tl ty xs), .p (.val (.int _ i))=>match P.und t with
   |some (.slice el)=>if wB P el=some ty.size then
     some (fun K=>Option.bind (idx xs i) fun y=>K (.ret (.p (.pp (ty.cells y))))) else none
   |_=>none
  | .ot id ty xs, .p (.val (.int _ i))=>match P.und t with
   |some (.slice el)=>if wB P el=some ty.size then
     some (fun K=>Option.bind (idx xs i) fun _=>K (.ret (.oet id ty xs i.toNat 0))) else none
   |_=>none
  |_,_=>none
 | .load t x=>match evx G e x with
  | .oet _ ty xs i off=>some (fun K=>Option.bind (atN xs i) fun y=>match ldV P t ((ty.cells y).drop off) with
   |some d=>K (.ret (.p d))
   |none=>none)
  |_=>none
 | .slice t x lo hi mx=>match evx G e x,mx with
  | .p (.tl ty xs),none=>match P.und t with
   |some (.slice el)=>if wB P el=some ty.size then
     match zLV (hi.map (evx G e)) xs.length with
     |some h=>match zLV (lo.map (evx G e)) 0 with
      |some l=>some (fun K=>Option.bind (sub xs l h) fun ys=>K (.ret (.p (.tl ty ys))))
      |none=>none
     |none=>none
    else none
   |_=>none
  | .ot id ty xs,none=>match P.und t with
   |some (.slice el)=>if wB P el=some ty.size then
     match zLV (hi.map (evx G e)) xs.length with
     |some h=>match zLV (lo.map (evx G e)) 0 with
      |some l=>some (fun K=>zKj (decide (0≤l)&&decide (l≤h)&&decide (h≤xs.length)) (K (.ret (.ov id ty xs l.toNat h.toNat))))
      |none=>none
     |none=>none
    else none
   |_=>none
  |_,_=>none
 | .index t x ix=>match evx G e x,evx G e ix with
  | .p (.val (.string s)), .p (.val (.int _ i))=>match P.und t with
   |some .string=>some (fun K=>Option.bind (zLU s i) fun b=>K (zO9 .u8 b))
   |_=>none
  |_,_=>none
 | .binOp op t x y _=>match evx G e x,evx G e y with
  | .p (.val (.int k a)), .p (.val (.int k' b))=>match op with
   | .shl=>zQB .shl k a b
   | .shr=>zQB .shr k a b
   |op=>if k=k' then qAz op k a b else none
  | .p (.val (.string a)), .p (.val (.string b))=>match op with
   | .eql=>some (fun K=>K (zQJ (a==b)))
   | .neq=>some (fun K=>K (zQJ (a !=b)))
   |_=>none
  |_,_=>none
 | .pick c x y=>match evx G e c,kA (evx G e x),kA (evx G e y) with
  | .p (.val (.bool b)),some u,some v=>match zZZ b u v with
   |some z=>some (fun K=>K (.ret (.p (.val z))))
   |none=>some (fun K=>cond b (K (.ret (.p (V.ofVal u)))) (K (.ret (.p (V.ofVal v)))))
  |_,_,_=>none
 | .call c=>match c.callee with
  | .value f=>match evx G e f,zKQ G e c.args.toList with
   | .p (.clo g caps),some ds=>match S g e.st (ds++caps) with
    |some cx=>if c.args.toList.any (fun x=>(evx G e x).isView)&& !cx.pl then none else some (fun K=>Option.bind cx.m fun y=>
      match (c.args.toList.any (fun x=>(evx G e x).isView))&& !(cx.res y).plain with
      |true=>none
      |false=>K (.call (cx.st y) (c.args.toList.any (fun x=>(evx G e x).isView)) (cx.res y)))
    |none=>none
   |_,_=>none
  | .builtin .append=>match c.args.toList,c.argTypes.toList with
   |[x0,x1],[t0,t1]=>match evx G e x0,evx G e x1 with
    | .p (.rf q), .p (.tl t ys)=>match P.fn yO with
     |some _=>none
     |none=>match P.und t0,P.und t1 with
      |some (.slice el),some (.slice _)=>match P.inf el with
       |some info=>match info.zero with
        |some z=>if t.size=info.size∧1≤info.bytes∧z.cells.size=info.size then
          match S yO e.st [.bot, .rf q, .tl t ys, .val (.int .i64 info.bytes)] with
          |some cx=>some (fun K=>Option.bind cx.m fun y=>match cx.res y with
           | .p d=>K (.call (cx.st y) false (.p d))
           |_=>none)
          |none=>none
         else none
        |none=>none
       |none=>none
      |_,_=>none
    |_,_=>none
   |_,_=>none
  |_=>none
 | .makeSlice t l c=>match evx G e l,evx G e c with
  | .p (.val (.int .i64 n)), .p (.val (.int .i64 _))=>if zTS l c then match P.und t with
   |some (.slice el)=>match P.inf el with
    |some info=>match info.zero,P.ty el with
     |some z,some ty=>match ty.dec (V.ofVal1 z) with
      |some x=>if 1≤info.bytes∧(V.ofVal1 z).cells.length=info.size∧info.size≠0∧ty.size=info.size then
        some (fun K=>Option.bind (qA8 info.bytes n x) fun xs=>K (.ownT ty xs)) else none
      |none=>none
     |_,_=>none
    |none=>none
   |_=>none
   else none
  |_,_=>none
 |_=>none
def qXs (e:Env Γ.St) (o:Oper):Option (Kx Γ ρ):=
 match qX P G S e o with
 |some q=>some q
 |none=>match isCall o with
  |true=>none
  |false=>match evQ P G S.toS e o with
   |some r=>some (fun K=>K r)
   |none=>none
end
section
variable {Γ:Sig} {ρ:Type} {P:Program} {G:Nat→Option (List V)} {S:zM Γ} {e:Env Γ.St} {o:Oper}
theorem zJi {op:BinOp} {t t':TypeId} {x y:Operand} {k k':IntKind} {a b:Int} {v:Value} {dst:Option Tmp} {type:TypeId} {pos:String} {after:Array Edge} {guard:Option (Nat×Bool)} {S:jH Γ}
  (hx:evx G e x= .p (.val (.int k a))) (hy:evx G e y= .p (.val (.int k' b))) (h:qY P (binOp op t (.int k a) (.int k' b))=some v):
  evQ P G S e ⟨dst, .binOp op t x y t',type,pos,after,guard⟩=some (.ret (.p (V.ofVal v))):=by
 have h1:zOu (St:=Γ.St) P op t (evx G e x) (evx G e y)=none:=by rw [hx];rfl
 have h2:zUw (St:=Γ.St) P op t (evx G e x) (evx G e y)=none:=by rw [hx];rfl
 simp only [evQ,h1,h2]
 refine zHI ?_ ?_
 ·simp [Op.operands,hx,hy,kA,V.toVal,V.toVal1]
 ·have hfx:(kA (evx G e x)).getD undef= .int k a:=by rw [hx];rfl
  have hfy:(kA (evx G e y)).getD undef= .int k' b:=by rw [hy];rfl
  simp only [execOp,hfx,hfy]
  have hg:eqGuard op t x y (.int k a) (.int k' b)=pure ():=by cases op<;>rfl
  rw [hg]
  have hb: ∀ (s:Sem Value),qY P s=some v→qY P (do let v←s;pure (Next.value v))=some (.value v):=by
   intro s
   induction s with
   |pure c=>intro hs;simp only [qY,Option.some.injEq] at hs;subst hs;rfl
   |program f ih=>intro hs;exact ih P hs
   |_=>intro hs;simp [qY] at hs
  exact hb _ h
theorem zOy {op:BinOp} {t t':TypeId} {x y:Operand} {a b:ByteArray} {v:Value} {dst:Option Tmp} {type:TypeId} {pos:String} {after:Array Edge} {guard:Option (Nat×Bool)} {S:jH Γ}
  (hx:evx G e x= .p (.val (.string a))) (hy:evx G e y= .p (.val (.string b))) (h:qY P (binOp op t (.string a) (.string b))=some v):
  evQ P G S e ⟨dst, .binOp op t x y t',type,pos,after,guard⟩=some (.ret (.p (V.ofVal v))):=by
 have h1:zOu (St:=Γ.St) P op t (evx G e x) (evx G e y)=none:=by rw [hx];rfl
 have h2:zUw (St:=Γ.St) P op t (evx G e x) (evx G e y)=none:=by rw [hx];rfl
 simp only [evQ,h1,h2]
 refine zHI ?_ ?_
 ·simp [Op.operands,hx,hy,kA,V.toVal,V.toVal1]
 ·have hfx:(kA (evx G e x)).getD undef= .string a:=by rw [hx];rfl
  have hfy:(kA (evx G e y)).getD undef= .string b:=by rw [hy];rfl
  simp only [execOp,hfx,hfy]
  have hg:eqGuard op t x y (.string a) (.string b)=pure ():=by cases op<;>rfl
  rw [hg]
  have hb: ∀ (s:Sem Value),qY P s=some v→qY P (do let v←s;pure (Next.value v))=some (.value v):=by
   intro s
   induction s with
   |pure c=>intro hs;simp only [qY,Option.some.injEq] at hs;subst hs;rfl
   |program f ih=>intro hs;exact ih P hs
   |_=>intro hs;simp [qY] at hs
  exact hb _ h
theorem zRJ (bs:ByteArray): ∀ (n i:Nat) (r:List UInt8),bs.size-i=n→ByteArray.toList.loop bs i r=r.reverse++bs.data.toList.drop i:=by
 intro n
 induction n with
 |zero=>
  intro i r h
  unfold ByteArray.toList.loop
  have hs:bs.size=bs.data.size:=rfl
  rw [if_neg (by omega),List.drop_eq_nil_of_le (by simp;omega),List.append_nil]
 |succ n ih=>
  intro i r h
  unfold ByteArray.toList.loop
  have hs:bs.size=bs.data.size:=rfl
  rw [if_pos (by omega),ih _ _ (by omega)]
  have hlt:i<bs.data.toList.length:=by simp;omega
  rw [List.drop_eq_getElem_cons hlt,List.reverse_cons,List.append_assoc]
  congr 1
  simp only [List.cons_append,List.nil_append]
  congr 1
  show bs.data[i]! =_
  simp only [Array.getElem_toList]
  exact getElem!_pos bs.data i (by omega)
theorem zJJ (bs:ByteArray):bs.toList=bs.data.toList:=by
 unfold ByteArray.toList
 rw [zRJ bs _ 0 [] rfl];rfl
theorem zQm {a b:ByteArray} :(a==b)=true↔a=b:=by
 obtain ⟨a⟩:=a
 obtain ⟨b⟩:=b
 show (a==b)=true↔_
 rw [beq_iff_eq,ByteArray.mk.injEq]
instance:LawfulBEq ByteArray where
 eq_of_beq h:=zQm.1 h
 rfl:=zQm.2 rfl
theorem zTf (a b:ByteArray):(a.toList==b.toList)=(a==b):=by
 rw [zJJ,zJJ]
 apply Bool.eq_iff_iff.2
 rw [beq_iff_eq,beq_iff_eq]
 constructor
 ·intro h;obtain ⟨⟨a⟩⟩:=a;obtain ⟨⟨b⟩⟩:=b;simp only at h;subst h;rfl
 ·intro h;rw [h]
theorem zUd {op:BinOp} {t t':TypeId} {x y:Operand} {k:IntKind} {a b:Int} {q:Kx Γ ρ} {K:R Γ.St→Option ρ} {v:ρ} {dst:Option Tmp} {type:TypeId} {pos:String} {after:Array Edge} {guard:Option (Nat×Bool)} {S:jH Γ}
  (hx:evx G e x= .p (.val (.int k a))) (hy:evx G e y= .p (.val (.int k b))) (h:qAz op k a b=some q) (hK:q K=some v) (h1:op≠ .shl) (h2:op≠ .shr):
  ∃r,evQ P G S e ⟨dst, .binOp op t x y t',type,pos,after,guard⟩=some r∧K r=some v:=by
 have fin: ∀u,qY P (binOp op t (.int k a) (.int k b))=some u→K (.ret (.p (V.ofVal u)))=some v→ ∃r,evQ P G S e ⟨dst, .binOp op t x y t',type,pos,after,guard⟩=some r∧K r=some v:=
  fun v hv hk=>⟨_,zJi hx hy hv,hk⟩
 have finI: ∀n,qY P (binOp op t (.int k a) (.int k b))=some (.int k n)→K (zO9 k n)=some v→ ∃r,evQ P G S e ⟨dst, .binOp op t x y t',type,pos,after,guard⟩=some r∧K r=some v:=fun n hv hk=>fin _ hv hk
 have finB: ∀c,qY P (binOp op t (.int k a) (.int k b))=some (.bool c)→K (zQJ c)=some v→ ∃r,evQ P G S e ⟨dst, .binOp op t x y t',type,pos,after,guard⟩=some r∧K r=some v:=fun n hv hk=>fin _ hv hk
 have hkk: ∀s1 s2:Sem Value,(if k≠k then s1 else s2)=s2:=by intro s1 s2;simp
 cases op<;>simp only [qAz,zYA,Option.some.injEq,reduceCtorEq] at h<;>first|exact absurd rfl h1|exact absurd rfl h2|skip
 case quo=>
  subst h
  obtain ⟨hb,hK⟩:=yM.1 hK
  have hb:b≠0:=by simpa using hb
  refine finI (k.wrap (a.tdiv b)) ?_ hK
  simp only [binOp,hkk,Op.intDiv,if_neg hb];rfl
 case rem=>
  subst h
  obtain ⟨hb,hK⟩:=yM.1 hK
  have hb:b≠0:=by simpa using hb
  refine finI (a.tmod b) ?_ hK
  simp only [binOp,hkk,Op.intDiv,if_neg hb];rfl
 all_goals
  subst h
  first
   |(refine finI _ ?_ hK;simp only [binOp,hkk];rfl)
   |(refine finB _ ?_ hK;simp only [binOp,hkk];rfl)
theorem zJS {op:BinOp} {t t':TypeId} {x y:Operand} {k k':IntKind} {a b:Int} {q:Kx Γ ρ} {K:R Γ.St→Option ρ} {v:ρ} {dst:Option Tmp} {type:TypeId} {pos:String} {after:Array Edge} {guard:Option (Nat×Bool)} {S:jH Γ}
  (hx:evx G e x= .p (.val (.int k a))) (hy:evx G e y= .p (.val (.int k' b))) (h:zQB op k a b=some q) (hK:q K=some v):
  ∃r,evQ P G S e ⟨dst, .binOp op t x y t',type,pos,after,guard⟩=some r∧K r=some v:=by
 cases op<;>simp only [zQB,Option.some.injEq,reduceCtorEq] at h
 case shl=>
  subst h
  obtain ⟨hb,hK⟩:=yM.1 hK
  have hb:0≤b:=by simpa using hb
  refine ⟨_,zJi (v:= .int k (k.wrap (a*2^min b.toNat k.bits))) hx hy ?_,hK⟩
  simp only [binOp,Op.shift]
  rw [if_neg (by omega)];rfl
 case shr=>
  subst h
  obtain ⟨hb,hK⟩:=yM.1 hK
  have hb:0≤b:=by simpa using hb
  refine ⟨_,zJi (v:= .int k (a.fdiv (2^min b.toNat k.bits))) hx hy ?_,hK⟩
  simp only [binOp,Op.shift]
  rw [if_neg (by omega)];rfl
theorem bind_some {α β:Type} {x:Option α} {f:α→Option β} {v:β} (h:Option.bind x f=some v): ∃y,x=some y∧f y=some v:=by
 cases x with
 |none=>simp at h
 |some y=>exact ⟨y,rfl,by simpa using h⟩
theorem zSF {α:Type} {xs:List α} {i:Int} {y:α} (h:idx xs i=some y):0≤i∧xs[i.toNat]? =some y:=by
 unfold idx at h
 split at h
 ·exact ⟨by assumption,h⟩
 ·cases h
theorem zHO {d:Option T} {dflt top:Nat} {i:Int} (hw:zLV d dflt=some i) (h0:0≤i) (h1:i≤top):yS d dflt top=some i.toNat:=by
 unfold zLV at hw
 split at hw
 ·simp only [Option.some.injEq] at hw;subst hw;rfl
 ·simp only [Option.some.injEq] at hw;subst hw
  simp only [yS,h0,h1,and_self,if_true]
 ·cases hw
theorem zXu {q:Kx Γ ρ} {K:R Γ.St→Option ρ} {v:ρ} (h:qX P G S e o=some q) (hK:q K=some v): ∃r,evQ P G S.toS e o=some r∧K r=some v:=by
 obtain ⟨dst,op,type,pos,after,guard⟩:=o
 cases op<;>simp only [qX,reduceCtorEq] at h
 case indexAddr t x ix=>
  split at h
  ·rename_i ty xs k0 i hx hix
   split at h
   ·rename_i el hu
    split at h
    ·rename_i hz
     simp only [Option.some.injEq] at h
     subst h
     obtain ⟨y,hy,hK⟩:=bind_some hK
     obtain ⟨h0,hg⟩:=zSF hy
     refine ⟨_,?_,hK⟩
     have hu':P.underlying t=some (.slice el):=hu
     simp only [evQ,hx,hix,zAn,h0,if_true,hu',hz,hg]
    ·cases h
   ·cases h
  ·rename_i id ty xs k0 i hx hix
   split at h
   ·rename_i el hu
    split at h
    ·rename_i hz
     simp only [Option.some.injEq] at h
     subst h
     obtain ⟨y,hy,hK⟩:=bind_some hK
     obtain ⟨h0,hg⟩:=zSF hy
     have hlt:i.toNat<xs.length:=(List.getElem?_eq_some_iff.1 hg).1
     refine ⟨_,?_,hK⟩
     have hu':P.underlying t=some (.slice el):=hu
     simp only [evQ,hx,hix,zAn,h0,if_true,hu',hz,hlt]
    ·cases h
   ·cases h
  ·cases h
 case load t x=>
  split at h
  ·rename_i id ty xs i off hx
   simp only [Option.some.injEq] at h
   subst h
   obtain ⟨y,hg,h3⟩:=bind_some hK
   unfold atN at hg
   split at h3
   ·rename_i d hd
    refine ⟨_,?_,h3⟩
    simp only [evQ,hx,zJe,hg,hd,Option.map_some]
   ·cases h3
  ·cases h
 case slice t x lo hi mx=>
  split at h
  ·rename_i ty xs hx
   split at h
   ·rename_i el hu
    split at h
    ·rename_i hz
     split at h
     ·rename_i hN hbh
      split at h
      ·rename_i lN hbl
       simp only [Option.some.injEq] at h
       subst h
       obtain ⟨ys,hys,hK⟩:=bind_some hK
       unfold sub at hys
       split at hys
       ·rename_i hc
        simp only [Option.some.injEq] at hys
        subst hys
        refine ⟨_,?_,hK⟩
        have hu':P.underlying t=some (.slice el):=hu
        have hb1:yS (hi.map (evx G e)) xs.length xs.length=some hN.toNat:=zHO hbh (by omega) hc.2.2
        have hb2:yS (lo.map (evx G e)) 0 hN.toNat=some lN.toNat:=zHO hbl hc.1 (by omega)
        simp only [evQ,hx,zEW,hu',hz,if_true,Option.map_none,hb1,hb2]
       ·cases hys
      ·cases h
     ·cases h
    ·cases h
   ·cases h
  ·rename_i id ty xs hx
   split at h
   ·rename_i el hu
    split at h
    ·rename_i hz
     split at h
     ·rename_i hN hbh
      split at h
      ·rename_i lN hbl
       simp only [Option.some.injEq] at h
       subst h
       obtain ⟨hc,hK⟩:=yM.1 hK
       simp only [Bool.and_eq_true,decide_eq_true_eq] at hc
       refine ⟨_,?_,hK⟩
       have hu':P.underlying t=some (.slice el):=hu
       have hb1:yS (hi.map (evx G e)) xs.length xs.length=some hN.toNat:=zHO hbh (by omega) hc.2
       have hb2:yS (lo.map (evx G e)) 0 hN.toNat=some lN.toNat:=zHO hbl hc.1.1 (by omega)
       simp only [evQ,hx,zEX,hu',hz,if_true,Option.map_none,hb1,hb2]
      ·cases h
     ·cases h
    ·cases h
   ·cases h
  ·cases h
 case index t x ix=>
  split at h
  ·rename_i s k0 i hx hix
   split at h
   ·rename_i hu
    simp only [Option.some.injEq] at h
    subst h
    obtain ⟨b,hb,hK⟩:=bind_some hK
    unfold zLU at hb
    split at hb
    ·rename_i h0
     simp only [Option.map_eq_some_iff] at hb
     obtain ⟨b0,hg,rfl⟩:=hb
     refine ⟨_,?_,hK⟩
     have hfl:yP (St:=Γ.St) P G e ⟨dst, .index t x ix,type,pos,after,guard⟩=some (.ret (.p (V.ofVal (.int .u8 b0.toNat)))):=by
      refine zHI ?_ ?_
      ·simp [Op.operands,hx,hix,kA,V.toVal,V.toVal1]
      ·have hfx:(kA (evx G e x)).getD undef= .string s:=by rw [hx];rfl
       have hfy:(kA (evx G e ix)).getD undef= .int k0 i:=by rw [hix];rfl
       have hu':P.underlying t=some .string:=hu
       simp only [execOp,hfx,hfy,Instr.index,asIntOf]
       have hin:qY P (do
         let __x←pure (k0,i)
         let __do_lift←underlying t
         match __do_lift,Value.string s with
          |TypeDesc.array len elem,Value.agg cs=>
           if 0≤__x.snd∧__x.snd< ↑len then do
            let __do_lift←sizeOf elem
            part elem cs (__x.snd.toNat*__do_lift)
           else boundsPanic __x.fst __x.snd (↑len) BoundsCode.index
          |TypeDesc.string,Value.string s=>
           match if 0≤__x.snd then s[__x.snd.toNat]? else none with
           |some b=>pure (Value.int IntKind.u8 ↑b.toNat)
           |none=>boundsPanic __x.fst __x.snd (↑s.size) BoundsCode.index
          | x, x_1 => stuck "Index: array or string expected") = some (Value.int IntKind.u8 ↑b0.toNat) := by
        refine (zGN (s:=pure (k0,i)) rfl _).trans ?_
        refine (zGN (zJ2 hu') _).trans ?_
        simp only [h0,if_true,hg]
        rfl
       exact (zGN hin _).trans rfl
     simp only [evQ]
     exact hfl
    ·cases hb
   ·cases h
  ·cases h
 case binOp op t x y t'=>
  split at h
  ·rename_i k a k' b hx hy
   split at h
   ·exact zJS hx hy h hK
   ·exact zJS hx hy h hK
   ·rename_i h1 h2
    split at h
    ·rename_i hk
     subst hk
     exact zUd hx hy h hK h1 h2
    ·cases h
  ·rename_i a b hx hy
   split at h
   ·simp only [Option.some.injEq] at h
    subst h
    refine ⟨_,zOy (v:= .bool (a==b)) hx hy ?_,hK⟩
    simp only [binOp]
    rw [←zTf];rfl
   ·simp only [Option.some.injEq] at h
    subst h
    refine ⟨_,zOy (v:= .bool (a !=b)) hx hy ?_,hK⟩
    simp only [binOp,bne]
    rw [←zTf];rfl
   ·cases h
  ·cases h
 case pick c x y=>
  split at h
  ·rename_i b u w hc hx hy
   have hall:((⟨dst, .pick c x y,type,pos,after,guard⟩:Oper).op.operands.toList.all (fun x=>(kA (evx G e x)).isSome))=true:=by
    simp [Op.operands,hx,hy];rw [hc];rfl
   have hfc:(kA (evx G e c)).getD undef= .bool b:=by rw [hc];rfl
   have hfx:(kA (evx G e x)).getD undef=u:=by rw [hx];rfl
   have hfy:(kA (evx G e y)).getD undef=w:=by rw [hy];rfl
   have hev:evQ P G S.toS e ⟨dst, .pick c x y,type,pos,after,guard⟩=some (.ret (.p (V.ofVal (if b then u else w)))):=by
    simp only [evQ]
    refine zHI hall ?_
    simp only [execOp,hfc,hfx,hfy]
    cases b<;>rfl
   split at h
   ·rename_i z hz
    simp only [Option.some.injEq] at h
    subst h
    refine ⟨_,hev,?_⟩
    have:V.ofVal (if b then u else w)= .val z:=by
     unfold zZZ at hz
     split at hz
     ·simp only [Option.some.injEq] at hz;subst hz;cases b<;>rfl
     ·split at hz
      ·rename_i hk
       subst hk
       simp only [Option.some.injEq] at hz;subst hz;cases b<;>rfl
      ·cases hz
     ·cases hz
    rw [this];exact hK
   ·simp only [Option.some.injEq] at h
    subst h
    refine ⟨_,hev,?_⟩
    cases b<;>exact hK
  ·cases h
 case call c=>
  split at h
  ·rename_i f hcal
   split at h
   ·rename_i g caps ds hf hds
    split at h
    ·rename_i cx hS
     split at h
     ·cases h
     ·simp only [Option.some.injEq] at h
      subst h
      obtain ⟨y,hy,hK⟩:=bind_some hK
      split at hK
      ·cases hK
      ·rename_i hv
       refine ⟨_,?_,hK⟩
       simp only [evQ,zJh,hcal,hf,hds,zNd,zJI hS hy,hv,Bool.false_eq_true,if_false]
    ·cases h
   ·cases h
  ·rename_i hcal
   split at h
   ·rename_i x0 x1 t0 t1 hargs htys
    split at h
    ·rename_i q t ys hx0 hx1
     split at h
     ·cases h
     ·rename_i hno
      split at h
      ·rename_i el el1 hu0 hu1
       split at h
       ·rename_i info hinfo
        split at h
        ·rename_i z hz
         split at h
         ·rename_i hok
          split at h
          ·rename_i cx hS
           simp only [Option.some.injEq] at h
           subst h
           obtain ⟨y,hy,hK⟩:=bind_some hK
           split at hK
           ·rename_i d hd
            refine ⟨_,?_,hK⟩
            have hno':P.funcs[yO]? =none:=hno
            have hu0':P.underlying t0=some (.slice el):=hu0
            have hu1':P.underlying t1=some (.slice el1):=hu1
            have hinfo':P.info? el=some info:=hinfo
            have hsp:=zJI hS hy
            rw [hd] at hsp
            simp only [evQ,zJh,hcal,zJf,hargs,htys,hx0,hx1,hno',hu0',hu1',hinfo',hz]
            rw [if_pos hok]
            simp only [hsp]
           ·cases hK
          ·cases h
         ·cases h
        ·cases h
       ·cases h
      ·cases h
    ·cases h
   ·cases h
  ·cases h
 case makeSlice t l c=>
  split at h
  ·rename_i n m hl hc
   split at h
   ·rename_i hsame
    have hlc:=zVQ hsame
    subst hlc
    rw [hl] at hc
    simp only [T.p.injEq,V.val.injEq,Value.int.injEq,true_and] at hc
    split at h
    ·rename_i el hu
     split at h
     ·rename_i info hi
      split at h
      ·rename_i z ty hz hty
       split at h
       ·rename_i x hx
        split at h
        ·rename_i hcond
         obtain ⟨c1,c2,c3,c4⟩:=hcond
         simp only [Option.some.injEq] at h
         subst h
         obtain ⟨xs,hxs,hK⟩:=bind_some hK
         unfold qA8 at hxs
         split at hxs
         ·rename_i hb
          simp only [Option.some.injEq] at hxs
          subst hxs
          refine ⟨_,?_,hK⟩
          have hu':P.underlying t=some (.slice el):=hu
          have hi':P.info? el=some info:=hi
          have hty':zS5 P el=some ty:=hty
          have hcc:0≤n∧n*info.bytes≤140737488355328∧1≤info.bytes∧(V.ofVal1 z).cells.length=info.size∧info.size≠0:=⟨hb.1,hb.2,c1,c2,c3⟩
          simp only [evQ,hl,zBq,hu',hi',hz,hty',hx,if_true]
          rw [if_pos hcc,if_pos c4]
         ·cases hxs
        ·cases h
       ·cases h
      ·cases h
     ·cases h
    ·cases h
   ·cases h
  ·cases h
theorem zK8 {q:Kx Γ ρ} {K:R Γ.St→Option ρ} {v:ρ} (h:qXs P G S e o=some q) (hK:q K=some v): ∃r,evQ P G S.toS e o=some r∧K r=some v:=by
 unfold qXs at h
 split at h
 ·rename_i q' hq
  simp only [Option.some.injEq] at h
  subst h
  exact zXu hq hK
 ·split at h
  ·cases h
  ·split at h
   ·rename_i r hr
    simp only [Option.some.injEq] at h
    subst h
    exact ⟨r,hr,hK⟩
   ·cases h
end
end Go.Ve

namespace Go.Ve
open Go
section
variable {β:Type}
def kL {α:Type} (f:α→(α→β)→β):List α→(List α→β)→β
 |[],k=>k []
 |x::r,k=>f x (fun x=>kL f r (fun r=>k (x::r)))
def qBa:Value→(Value→β)→β
 | .int q n,k=>k (.int q n)
 | .bool b,k=>k (.bool b)
 | .string s,k=>k (.string s)
 |v,k=>k v
def kV:Nat→V→(V→β)→β
 |0,d,k=>k d
 |_+1, .val v,k=>qBa v (fun v=>k (.val v))
 |n+1, .agg cs,k=>kL (kV n) cs (fun cs=>k (.agg cs))
 |n+1, .sl cs,k=>kL (kV n) cs (fun cs=>k (.sl cs))
 |n+1, .tup cs,k=>kL (kV n) cs (fun cs=>k (.tup cs))
 |n+1, .pp cs,k=>kL (kV n) cs (fun cs=>k (.pp cs))
 |n+1, .clo f cs,k=>kL (kV n) cs (fun cs=>k (.clo f cs))
 |_+1, .tl t xs,k=>k (.tl t xs)
 |_+1, .rf o,k=>k (.rf o)
 |_+1, .bot,k=>k .bot
def kT:T→(T→β)→β
 | .p d,k=>kV 6 d (fun d=>k (.p d))
 | .ow i q es,k=>kL (kV 6) es (fun es=>k (.ow i q es))
 | .oe i q es j off,k=>kL (kV 6) es (fun es=>k (.oe i q es j off))
 | .lp s off,k=>k (.lp s off)
 | .mp i es ck,k=>k (.mp i es ck)
 | .ot i t xs,k=>k (.ot i t xs)
 | .oet i t xs j off,k=>k (.oet i t xs j off)
 | .ov i t xs j off,k=>k (.ov i t xs j off)
 | .emp,k=>k .emp
 | .dead,k=>k .dead
def kO:Option (List T)→(Option (List T)→β)→β
 |none,k=>k none
 |some cs,k=>kL kT cs (fun cs=>k (some cs))
def zDh {St:Type} (e:Env St) (k:Env St→β):β:=
 match e with
 |⟨tm,vars,st⟩=>kL kT tm (fun tm=>kL kO vars (fun vars=>k ⟨tm,vars,st⟩))
def kAt {α:Type} (f:α→(α→β)→β):Nat→List α→(List α→β)→β
 |_,[],k=>k []
 |0,x::r,k=>f x (fun x=>k (x::r))
 |n+1,x::r,k=>kAt f n r (fun r=>k (x::r))
def zJa {St:Type} (d:Nat) (e:Env St) (k:Env St→β):β:=
 match e with
 |⟨tm,vars,st⟩=>kAt kT d tm (fun tm=>k ⟨tm,vars,st⟩)
def kOp {St:Type} (o:Oper) (e:Env St) (k:Env St→β):β:=
 match o.op with
 | .move _| .assign _| .load _ _| .field _ _ _| .fieldAddr _ _ _| .indexAddr _ _ _| .index _ _ _| .binOp _ _ _ _ _| .unOp _ _ _| .convert _ _ _| .pick _ _ _| .extract _ _| .nilCheck _=>match o.dst with
  |some d=>zJa d e k
  |none=>zDh e k
 | .call c=>match c.callee,o.dst with
  | .builtin .len,some d=>zJa d e k
  | .builtin .min,some d=>zJa d e k
  | .builtin .max,some d=>zJa d e k
  |_,_=>zDh e k
 |_=>zDh e k
theorem zP2 {α:Type} {f:α→(α→β)→β} (hf: ∀x k,f x k=k x): ∀ (l:List α) (k:List α→β),kL f l k=k l:=by
 intro l
 induction l with
 |nil=>intro k;rfl
 |cons x l ih=>intro k;simp only [kL,hf,ih]
theorem zZq (v:Value) (k:Value→β):qBa v k=k v:=by cases v<;>rfl
theorem zXS: ∀ (n:Nat) (d:V) (k:V→β),kV n d k=k d:=by
 intro n
 induction n with
 |zero=>intro d k;rfl
 |succ n ih=>
  intro d k
  cases d<;>simp only [kV]
  ·exact zZq _ _
  all_goals (first|exact zP2 ih _ _|rfl)
theorem zXT (x:T) (k:T→β):kT x k=k x:=by
 cases x<;>simp only [kT]
 ·exact zXS _ _ _
 ·exact zP2 (zXS 6) _ _
 ·exact zP2 (zXS 6) _ _
theorem qBb (x:Option (List T)) (k:Option (List T)→β):kO x k=k x:=by
 cases x with
 |none=>rfl
 |some cs=>simp only [kO];exact zP2 zXT _ _
theorem uB {St:Type} (e:Env St) (k:Env St→β):zDh e k=k e:=by
 obtain ⟨tm,vars,st⟩:=e
 simp only [zDh]
 rw [zP2 zXT,zP2 qBb]
theorem qAx {α:Type} {f:α→(α→β)→β} (hf: ∀x k,f x k=k x): ∀ (n:Nat) (l:List α) (k:List α→β),kAt f n l k=k l:=by
 intro n l
 induction l generalizing n with
 |nil=>intro k;cases n<;>rfl
 |cons x l ih=>
  intro k
  cases n with
  |zero=>simp only [kAt,hf]
  |succ n=>simp only [kAt];exact ih n _
theorem zHA {St:Type} (d:Nat) (e:Env St) (k:Env St→β):zJa d e k=k e:=by
 obtain ⟨tm,vars,st⟩:=e
 simp only [zJa]
 rw [qAx zXT]
theorem zUb {St:Type} (o:Oper) (e:Env St) (k:Env St→β):kOp o e k=k e:=by
 unfold kOp
 repeat' split
 all_goals (first|exact zHA _ _ _|exact uB _ _)
end
structure zZ {St:Type} (m:Nat) (e e1:Env St):Prop where
 tl:e1.tm.length=e.tm.length
 vl:e1.vars.length=e.vars.length
 p: ∀t d,m.testBit (2*t)=false→e.get t= .p d→e1.get t= .p d
 lp: ∀t s off,m.testBit (2*t)=false→m.testBit (2*s)=false→e.get t= .lp s off→e1.get t= .lp s off
 v: ∀s (ds:List V),m.testBit (2*s)=false→m.testBit (2*s+1)=false→e.var s=some (ds.map T.p)→e1.var s=some (ds.map T.p)
section
variable {St:Type} {e e1 e2:Env St} {m n:Nat}
theorem kK (m n t:Nat):(m|||n).testBit t=false↔m.testBit t=false∧n.testBit t=false:=by
 rw [Nat.testBit_or,Bool.or_eq_false_iff]
theorem zNe (s t:Nat):(2^s).testBit t=false↔t≠s:=by
 rw [Nat.testBit_two_pow,decide_eq_false_iff_not]
 exact ⟨fun h h'=>h h'.symm,fun h h'=>h h'.symm⟩
theorem zDS (s t:Nat):(2^(2*s)).testBit (2*t)=false↔t≠s:=by
 rw [zNe];omega
theorem zYB (s t:Nat):(2^(2*s+1)).testBit (2*t+1)=false↔t≠s:=by
 rw [zNe];omega
theorem zZ.refl (e:Env St):zZ 0 e e:=⟨rfl,rfl,fun _ _ _ h=>h,fun _ _ _ _ _ h=>h,fun _ _ _ _ h=>h⟩
theorem zZ.mono (h:zZ m e e1) (hm: ∀t,n.testBit t=false→m.testBit t=false):zZ n e e1:=
 ⟨h.tl,h.vl,fun t d ht=>h.p t d (hm _ ht),fun t s off ht hs=>h.lp t s off (hm _ ht) (hm _ hs),fun s ds hs hs'=>h.v s ds (hm _ hs) (hm _ hs')⟩
theorem zZ.same (h:zZ m e e1) (k:zZ m e1 e2):zZ m e e2:=
 ⟨k.tl.trans h.tl,k.vl.trans h.vl,fun t d ht hd=>k.p t d ht (h.p t d ht hd),fun t s off ht hs hd=>k.lp t s off ht hs (h.lp t s off ht hs hd),fun s ds hs hs' hd=>k.v s ds hs hs' (h.v s ds hs hs' hd)⟩
theorem zZ.trans (h:zZ m e e1) (k:zZ n e1 e2):zZ (m|||n) e e2:=
 (h.mono (fun t ht=>((kK m n t).1 ht).1)).same (k.mono (fun t ht=>((kK m n t).1 ht).2))
def zYL (f:T→T):Prop:=(∀d,f (.p d)= .p d)∧(∀s off,f (.lp s off)= .lp s off)∧f .dead= .dead
theorem zDV {f:T→T} (hf:zYL f) (e:Env St):zZ 0 e (e.mapT f):=by
 refine ⟨by simp [Env.mapT],by simp [Env.mapT],?_,?_,?_⟩
 ·intro t d _ h;rw [wG hf.2.2,h,hf.1]
 ·intro t s off _ _ h;rw [wG hf.2.2,h,hf.2.1]
 ·intro s ds _ _ h
  rw [jM,h]
  simp [hf.1,Function.comp_def]
theorem zJx (d:Nat) (e:Env St):zZ (2^(2*d)) e (e.kill d):=by
 refine ⟨by simp [Env.kill],by simp [Env.kill],?_,?_,?_⟩
 ·intro t x _ h;rw [zFI,h];rfl
 ·intro t s off _ hs h
  rw [zFI,h]
  simp only [qN]
  rw [if_neg ((zDS d s).1 hs)]
 ·intro s ds hs _ h
  rw [u6,if_neg ((zDS d s).1 hs),h]
  simp [qN,Function.comp_def]
theorem zP6 (e:Env St) (d t:Nat) (x:T) (h:t≠d):({ e with tm:=e.tm.set d x } :Env St).get t=e.get t:=by
 simp only [Env.get,List.getD_eq_getElem?_getD]
 rw [List.getElem?_set_ne (fun h'=>h h'.symm)]
theorem zDs (d:Nat) (x:T) (e:Env St):zZ (2^(2*d)) e { e with tm:=e.tm.set d x } :=by
 refine ⟨by simp,rfl,?_,?_,?_⟩
 ·intro t y ht h;rw [zP6 e d t x ((zDS d t).1 ht)];exact h
 ·intro t s off ht _ h;rw [zP6 e d t x ((zDS d t).1 ht)];exact h
 ·intro s ds _ _ h;exact h
theorem zKU (s:St) (e:Env St):zZ 0 e { e with st:=s } :=⟨rfl,rfl,fun _ _ _ h=>h,fun _ _ _ _ _ h=>h,fun _ _ _ _ h=>h⟩
theorem zRB (e:Env St) (s t:Nat) (x:Option (List T)) (h:t≠s):({ e with vars:=e.vars.set s x } :Env St).var t=e.var t:=by
 simp only [Env.var]
 rw [List.getElem?_set_ne (fun h'=>h h'.symm)]
theorem zOX (s:Nat) (x:Option (List T)) (e:Env St):zZ (2^(2*s+1)) e { e with vars:=e.vars.set s x } :=by
 refine ⟨rfl,by simp,fun _ _ _ h=>h,fun _ _ _ _ _ h=>h,?_⟩
 intro t ds _ ht h
 rw [zRB e s t x ((zYB s t).1 ht)];exact h
theorem zMm (s:Nat) (x:Option (List T)) (e:Env St):zZ (2^(2*s)) e { e with vars:=e.vars.set s x } :=by
 refine ⟨rfl,by simp,fun _ _ _ h=>h,fun _ _ _ _ _ h=>h,?_⟩
 intro t ds ht _ h
 rw [zRB e s t x ((zDS s t).1 ht)];exact h
def zCT:Option Nat→Nat
 |some d=>2^(2*d)
 |none=>0
theorem zJv (e:Env St) (d:Nat) (r:R St):zZ (2^(2*d)) e (e.setR d r):=by
 unfold Env.setR
 split
 ·rename_i cs
  exact ((zMm d (some cs) e).same (zDs d (.lp d 0) _)).mono (fun _ h=>h)
 ·rename_i st v rv
  exact ((zKU st e).trans (zDs d (rvT d rv) _)).mono (fun t h=>by rw [kK];exact ⟨by simp,h⟩)
 ·exact zDs d _ e
theorem zAG (e:Env St) (d:Option Nat) (x:T):zZ (zCT d) e (e.put d x):=by
 cases d with
 |none=>exact zZ.refl e
 |some d=>exact zDs d x e
theorem zKV {dst:Option Tmp} {r:R St} (h:zAr e dst r=some e1):zZ (zCT dst) e e1:=by
 unfold zAr at h
 split at h
 ·rename_i d
  split at h
  ·split at h
   ·simp only [Option.some.injEq] at h;subst h
    exact (zJx d e).same (zJv _ d _)
   ·cases h
  ·simp only [Option.some.injEq] at h;subst h
   exact zJv e d r
 ·split at h
  ·simp only [Option.some.injEq] at h;subst h;exact zZ.refl _
  ·simp only [Option.some.injEq] at h;subst h;exact zKU _ _
  ·cases h
theorem zRt {dst:Option Tmp} {r:R St} (h:zHh e dst r=some e1):zZ (zCT dst) e e1:=by
 unfold zHh at h
 split at h
 ·rename_i d
  split at h
  ·simp only [Option.some.injEq] at h;subst h
   exact zJv e d r
  ·cases h
 ·split at h
  ·simp only [Option.some.injEq] at h;subst h;exact zZ.refl _
  ·simp only [Option.some.injEq] at h;subst h;exact zKU _ _
  ·cases h
end
def T.bits:T→Nat
 | .lp s _=>2^(2*s)
 | .ow i _ _=>2^(2*i)
 | .oe i _ _ _ _=>2^(2*i)
 | .mp i _ _=>2^(2*i)
 | .ot i _ _=>2^(2*i)
 | .oet i _ _ _ _=>2^(2*i)
 | .ov i _ _ _ _=>2^(2*i)
 |_=>0
def zP4 (i:Nat):Nat:=
 match Nat.beq i jK with
 |true=>0
 |false=>2^(2*i)
def T.fbits:T→Nat
 | .lp s _=>2^(2*s)
 | .ow i _ _=>zP4 i
 | .oe i _ _ _ _=>zP4 i
 | .mp i _ _=>zP4 i
 | .ot i _ _=>zP4 i
 | .oet i _ _ _ _=>zP4 i
 | .ov i _ _ _ _=>zP4 i
 |_=>0
section
variable {Γ:Sig} (G:Nat→Option (List V))
def wK (e:Env Γ.St) (o:Oper):Nat:=
 zCT o.dst|||match o.op with
 | .store _ ap _=>match evx G e ap with
  | .lp s _=>2^(2*s+1)
  |_=>0
 | .call c=>match c.callee,c.args.toList with
  | .builtin .append,x::_=>(evx G e x).bits
  |_,_=>0
 |_=>0
def zNk:List Operand→Env Γ.St→Nat
 |[],_=>0
 |x::r,e=>(evx G e x).fbits|||zNk r (frzT1 (evx G e x) e)
end
section
variable {Γ:Sig} {P:jE} {G:Nat→Option (List V)} {e e1:Env Γ.St} {o:Oper}
theorem zWl (id:Nat):zYL (zCb id):=⟨fun _=>rfl,fun _ _=>rfl,rfl⟩
theorem zBr (id:Nat) (e:Env Γ.St):zZ 0 e (frzOE id e):=by
 unfold frzOE
 split
 ·exact zZ.refl e
 ·exact zDV (zWl _) e
theorem zDW: ∀ (cs:List T) (e:Env Γ.St),zZ 0 e (frzCells e cs):=by
 intro cs
 induction cs with
 |nil=>intro e;exact zZ.refl e
 |cons x r ih=>
  intro e
  cases x<;>simp only [frzCells]<;>first|exact ih e|exact (zBr _ e).same (ih _)
theorem zUU (s:Nat) (ds:List V) (e:Env Γ.St):zZ (2^(2*s)) e (e.frzV s ds):=by
 unfold Env.frzV
 refine (zMm s none e).same ?_
 refine ⟨by simp [Env.mapT],by simp [Env.mapT],?_,?_,?_⟩
 ·intro t d _ h;rw [wG rfl,h];rfl
 ·intro t s' off _ hs h
  rw [wG rfl,h]
  simp only [zMa]
  rw [if_neg ((zDS s s').1 hs)]
 ·intro s' xs _ _ h
  rw [jM,h]
  simp [zMa,Function.comp_def]
theorem zTu (x:T) (e:Env Γ.St):zZ x.fbits e (frzT1 x e):=by
 have z: ∀ {m:Nat} {e e1:Env Γ.St},zZ 0 e e1→zZ m e e1:=fun h=>h.mono (fun t _=>by simp)
 unfold frzT1
 split
 ·exact z (zBr _ e)
 ·exact z (zBr _ e)
 ·exact z (zBr _ e)
 ·rename_i s off
  split
  ·split
   ·split
    ·exact (z (zDW _ e)).same (zUU s _ _)
    ·exact z (zDW _ e)
   ·exact z (zDW _ e)
  ·exact z (zZ.refl e)
 ·exact z (zZ.refl e)
theorem zFW: ∀ (xs:List Operand) (e:Env Γ.St),zZ (zNk G xs e) e (frzOps G xs e):=by
 intro xs
 induction xs with
 |nil=>intro e;exact zZ.refl e
 |cons x r ih=>intro e;exact (zTu _ e).trans (ih _)
theorem zQo (h:evW P G e o=some e1):zZ (wK G e o) e e1:=by
 have z: ∀ {m:Nat} {e e1:Env Γ.St},zZ 0 e e1→zZ m e e1:=fun h=>h.mono (fun t _=>by simp)
 obtain ⟨dst,op,type,pos,after,guard⟩:=o
 cases op<;>simp only [evW,reduceCtorEq] at h
 case store t ap x=>
  split at h
  ·cases h
  ·split at h
   ·rename_i s off hap
    unfold zEV at h
    split at h
    ·split at h
     ·simp only [Option.some.injEq] at h;subst h
      refine (zOX s _ e).mono ?_
      intro t ht
      simp only [wK,kK,hap] at ht
      exact ht.2
     ·cases h
    ·cases h
   ·split at h
    ·unfold zCO at h
     split at h
     ·split at h
      ·simp only [Option.some.injEq] at h;subst h
       exact z (zDV ⟨fun _=>rfl,fun _ _=>rfl,rfl⟩ e)
      ·cases h
     ·cases h
    ·cases h
   ·split at h
    ·unfold zDM at h
     split at h
     ·split at h
      ·split at h
       ·simp only [Option.some.injEq] at h;subst h
        exact z (zDV ⟨fun _=>rfl,fun _ _=>rfl,rfl⟩ e)
       ·cases h
      ·cases h
     ·cases h
    ·cases h
   ·cases h
 case call c=>
  have key: ∀ (x0 x1:Operand) (d id:Nat) (y:T),c.callee= .builtin .append→c.args.toList=[x0,x1]→dst=some d→(id=d∨(evx G e x0).bits=2^(2*id))→
    zZ (wK G e ⟨dst, .call c,type,pos,after,guard⟩) e { (e.kill id) with tm:=(e.kill id).tm.set d y } :=by
   intro x0 x1 d id y hc ha hd hid
   have hs:=(zJx id e).trans (zDs d y (e.kill id))
   refine hs.mono ?_
   intro t ht
   simp only [wK,hc,ha,hd,zCT,kK] at ht
   rw [kK]
   refine ⟨?_,ht.1⟩
   rcases hid with rfl|hid
   ·exact ht.1
   ·rw [←hid];exact ht.2
  split at h
  ·rename_i e2 he2
   simp only [Option.some.injEq] at h;subst h
   unfold wR at he2
   split at he2
   ·rename_i x0 x1 t0 t1 d hcal hargs htys
    split at he2
    ·split at he2
     ·split at he2
      ·split at he2
       ·rename_i nm xs hdst
        split at he2
        ·split at he2
         ·simp only [Option.some.injEq] at he2;subst he2
          refine key x0 x1 d _ _ hcal hargs rfl ?_
          unfold zS1 at hdst
          split at hdst
          ·simp only [Option.some.injEq,Prod.mk.injEq] at hdst;rw [←hdst.1];exact .inl rfl
          ·simp only [Option.some.injEq,Prod.mk.injEq] at hdst;rw [←hdst.1];exact .inl rfl
          ·rename_i heq
           split at hdst
           ·simp only [Option.some.injEq,Prod.mk.injEq] at hdst
            rw [←hdst.1,heq];exact .inr rfl
           ·cases hdst
          ·cases hdst
         ·cases he2
        ·cases he2
       ·cases he2
      ·cases he2
     ·cases he2
    ·cases he2
   ·cases he2
  ·split at h
   ·rename_i e2 he2
    simp only [Option.some.injEq] at h;subst h
    unfold kE at he2
    split at he2
    ·rename_i p x1 t0 t1 d hcal hargs htys _
     split at he2
     ·split at he2
      ·split at he2
       ·split at he2
        ·rename_i id t' xs hi q7
         split at he2
         ·cases he2
         ·split at he2
          ·split at he2
           ·split at he2
            ·simp only [Option.some.injEq] at he2;subst he2
             refine key (.tmp p) x1 d _ _ hcal hargs rfl (.inr ?_)
             have:evx G e (.tmp p)= .ov id t' xs 0 hi:=q7
             rw [this];rfl
            ·cases he2
           ·cases he2
          ·cases he2
        ·cases he2
       ·cases he2
      ·cases he2
     ·cases he2
    ·cases he2
   ·unfold zAo wH at h
    split at h
    ·rename_i x0 x1 t0 t1 d hcal hargs htys hnone hnone2
     split at h
     ·split at h
      ·split at h
       ·split at h
        ·split at h
         ·rename_i id k es heq
          split at h
          ·simp only [Option.some.injEq] at h;subst h
           exact key x0 x1 d _ _ hcal hargs rfl (.inr (by rw [heq];rfl))
          ·cases h
         ·split at h
          ·split at h
           ·cases h
           ·cases h
           ·split at h
            ·simp only [Option.some.injEq] at h;subst h
             refine (zAG e (some d) _).mono ?_
             intro t ht
             simp only [wK,kK] at ht
             exact ht.1
            ·split at h
             ·simp only [Option.some.injEq] at h;subst h
              exact key x0 x1 d d _ hcal hargs rfl (.inl rfl)
             ·cases h
          ·cases h
        ·cases h
       ·cases h
      ·cases h
     ·cases h
    ·cases h
 case mapUpdate t m k v=>
  split at h
  ·cases h
  ·split at h
   ·unfold zQa at h
    split at h
    ·simp only [Option.some.injEq] at h;subst h
     exact z (zDV ⟨fun _=>rfl,fun _ _=>rfl,rfl⟩ e)
    ·cases h
   ·cases h
end
end Go.Ve

namespace Go.Ve
open Go
section
variable {St:Type}
def zAl (e:Env St) (f:T→T) (V:List (Option (List T))) (dst:Option Nat) (y:T) (st:St):Env St:=
 ⟨match dst with
  |some d=>(e.tm.map f).set d y
  |none=>e.tm.map f,V,st⟩
structure kM (m:Nat) (f:T→T):Prop where
 p: ∀d,f (.p d)= .p d
 dead:f .dead= .dead
 lp: ∀s off,m.testBit (2*s)=false→f (.lp s off)= .lp s off
theorem kM.id (m:Nat):kM m (fun x=>x):=⟨fun _=>rfl,rfl,fun _ _ _=>rfl⟩
theorem kM.mono {m n:Nat} {f:T→T} (h:kM m f) (hm: ∀t,n.testBit t=false→m.testBit t=false):kM n f:=
 ⟨h.p,h.dead,fun s off hs=>h.lp s off (hm _ hs)⟩
theorem kM.kill (d:Nat):kM (2^(2*d)) (qN d):=
 ⟨fun _=>rfl,rfl,fun s off hs=>by simp only [qN];rw [if_neg ((zDS d s).1 hs)]⟩
structure zA4 (e b:Env St):Prop where
 vars:e.vars=b.vars
 st:e.st=b.st
 len:e.tm.length=b.tm.length
theorem zA4.var {e b:Env St} (h:zA4 e b) (s:Nat):e.var s=b.var s:=by simp only [Env.var,h.vars]
theorem zZz (e b:Env St) (h:zA4 e b) (y:T):zAl e (fun x=>x) b.vars none y b.st=e:=by
 obtain ⟨tm,vars,st⟩:=e
 have h1:=h.vars
 have h2:=h.st
 simp only at h1 h2
 subst h1 h2
 simp [zAl]
theorem zTo {b b1:Env St} {dst:Option Tmp} {r:R St} (h:zAr b dst r=some b1):
  ∃f V y st,kM (zCT dst) f∧ ∀e,zA4 e b→zAr e dst r=some (zAl e f V dst y st):=by
 unfold zAr at h
 split at h
 ·rename_i d
  split at h
  ·rename_i hn
   split at h
   ·rename_i hlt
    have go: ∀ (V:List (Option (List T))→List (Option (List T))) (y:T) (st:St→St),(∀e:Env St,(e.kill d).setR d (zL9 d r)=⟨(e.tm.map (qN d)).set d y,V e.vars,st e.st⟩)→
      ∃f V y st,kM (zCT (some d)) f∧ ∀e,zA4 e b→zAr e (some d) r=some (zAl e f V (some d) y st):=by
     intro V y st hk
     refine ⟨qN d,V b.vars,y,st b.st,kM.kill d,?_⟩
     intro e he
     simp only [zAr,hn,if_true]
     rw [if_pos (by rw [he.vars];exact hlt),hk e,he.vars,he.st]
     rfl
    cases r with
    |var cs=>exact go (fun vs=>((vs.set d none).map (fun c=>c.map (List.map (qN d)))).set d (some (cs.map (qN d)))) (.lp d 0) (fun s=>s) (fun e=>rfl)
    |call st v rv=>exact go (fun vs=>(vs.set d none).map (fun c=>c.map (List.map (qN d)))) (rvT d rv) (fun _=>st) (fun e=>rfl)
    |ret x=>exact go (fun vs=>(vs.set d none).map (fun c=>c.map (List.map (qN d)))) _ (fun s=>s) (fun e=>rfl)
    |own k es=>exact go (fun vs=>(vs.set d none).map (fun c=>c.map (List.map (qN d)))) _ (fun s=>s) (fun e=>rfl)
    |frz es=>exact go (fun vs=>(vs.set d none).map (fun c=>c.map (List.map (qN d)))) _ (fun s=>s) (fun e=>rfl)
    |mk=>exact go (fun vs=>(vs.set d none).map (fun c=>c.map (List.map (qN d)))) _ (fun s=>s) (fun e=>rfl)
    |frzT t xs=>exact go (fun vs=>(vs.set d none).map (fun c=>c.map (List.map (qN d)))) _ (fun s=>s) (fun e=>rfl)
    |ownT t xs=>exact go (fun vs=>(vs.set d none).map (fun c=>c.map (List.map (qN d)))) _ (fun s=>s) (fun e=>rfl)
   ·cases h
  ·rename_i hn
   have go: ∀ (y:T) (st:St→St),(∀e:Env St,e.setR d r=⟨e.tm.set d y,e.vars,st e.st⟩)→
     ∃f V y st,kM (zCT (some d)) f∧ ∀e,zA4 e b→zAr e (some d) r=some (zAl e f V (some d) y st):=by
    intro y st hk
    refine ⟨fun x=>x,b.vars,y,st b.st,kM.id _,?_⟩
    intro e he
    simp only [zAr,hn,if_false]
    rw [hk e, ←he.vars, ←he.st]
    simp [zAl]
   cases r with
   |ret x=>exact go _ (fun s=>s) (fun e=>rfl)
   |call st v rv=>exact go (rvT d rv) (fun _=>st) (fun e=>rfl)
   |_=>exact absurd rfl hn
 ·split at h
  ·exact ⟨fun x=>x,b.vars, .dead,b.st,kM.id _,fun e he=>by simp only [zAr];rw [zZz e b he]⟩
  ·rename_i st v x
   refine ⟨fun x=>x,b.vars, .dead,st,kM.id _,fun e he=> ?_⟩
   simp only [zAr, ←he.vars]
   simp [zAl]
  ·cases h
end
section
variable {Γ:Sig} {P:jE} {G:Nat→Option (List V)} {S:jH Γ} {b b1:Env Γ.St} {o:Oper}
structure zLY (G:Nat→Option (List V)) (e b:Env Γ.St) (o:Oper):Prop where
 al:zA4 e b
 ops: ∀x,x∈o.op.operands→evx G e x=evx G b x
theorem zQd (h:zIa P G S b o=some b1): ∃f V y st,kM (wK G b o) f∧ ∀e,zLY G e b o→zIa P G S e o=some (zAl e f V o.dst y st):=by
 unfold zIa at h
 split at h
 ·rename_i r hr
  obtain ⟨f,V,y,st,h1,h2⟩:=zTo h
  refine ⟨f,V,y,st,h1.mono (fun t ht=>by simp only [wK,kK] at ht;exact ht.1),fun e he=> ?_⟩
  have:evQ P G S e o=some r:=by
   rw [←hr]
   exact zLy he.ops (fun x _ s off _=>he.al.var s) he.al.st
  simp only [zIa,this,h2 e he.al]
 ·cases h
theorem zLm (f:T→T) {e b:Env Γ.St} (h:zA4 e b) (y:T):e.mapT f=zAl e f (b.vars.map (fun c=>c.map (List.map f))) none y b.st:=by
 simp only [Env.mapT,zAl,h.vars,h.st]
theorem zDg {e b:Env Γ.St} (h:zA4 e b) (id d:Nat) (y:T):
  ({ (e.kill id) with tm:=(e.kill id).tm.set d y } :Env Γ.St)=zAl e (qN id) ((b.vars.set id none).map (fun c=>c.map (List.map (qN id)))) (some d) y b.st:=by
 simp only [Env.kill,zAl,h.vars,h.st]
theorem zYd (h:evW P G b o=some b1): ∃f V y st,kM (wK G b o) f∧ ∀e,zLY G e b o→evW P G e o=some (zAl e f V o.dst y st):=by
 obtain ⟨dst,op,type,pos,after,guard⟩:=o
 cases op<;>simp only [evW,reduceCtorEq] at h
 case store t ap x=>
  have hap: ∀e,zLY G e b ⟨dst, .store t ap x,type,pos,after,guard⟩→evx G e ap=evx G b ap:=fun e he=>he.ops ap (by simp [Op.operands])
  have hx: ∀e,zLY G e b ⟨dst, .store t ap x,type,pos,after,guard⟩→evx G e x=evx G b x:=fun e he=>he.ops x (by simp [Op.operands])
  split at h
  ·cases h
  ·split at h
   ·rename_i s off hp
    unfold zEV at h
    split at h
    ·rename_i cs xs hcs hxs
     split at h
     ·rename_i hc
      refine ⟨fun x=>x,b.vars.set s (some (zBB cs off xs)), .dead,b.st,kM.id _,fun e he=> ?_⟩
      have hv:e.var s=some cs:=by rw [he.al.var];exact hcs
      simp only [evW,hap e he,hp,hx e he,zEV,hv,hxs]
      rw [if_pos ⟨hc.1,hc.2.1,by rw [he.al.vars];exact hc.2.2⟩,he.al.vars,he.al.st]
      simp [zAl]
     ·cases h
    ·cases h
   ·rename_i id k es i off hp
    split at h
    ·rename_i d hd
     unfold zCO at h
     split at h
     ·rename_i q hq
      split at h
      ·rename_i hc
       refine ⟨zE8 id k i (zDG q (wI q.cells off d.cells)),b.vars.map (fun c=>c.map (List.map (zE8 id k i (zDG q (wI q.cells off d.cells))))), .dead,b.st,⟨fun _=>rfl,rfl,fun _ _ _=>rfl⟩,fun e he=> ?_⟩
       simp only [evW,hap e he,hp,hx e he,hd,zCO,hq]
       rw [if_pos hc,zLm (zE8 id k i _) he.al .dead]
      ·cases h
     ·cases h
    ·cases h
   ·rename_i id ty xs i off hp
    split at h
    ·rename_i d hd
     unfold zDM at h
     split at h
     ·rename_i hc
      split at h
      ·rename_i x0 hx0
       split at h
       ·rename_i y0 hy0
        refine ⟨zGv id ty i y0,b.vars.map (fun c=>c.map (List.map (zGv id ty i y0))), .dead,b.st,⟨fun _=>rfl,rfl,fun _ _ _=>rfl⟩,fun e he=> ?_⟩
        simp only [evW,hap e he,hp,hx e he,hd,zDM,hx0,hy0]
        rw [if_pos hc,zLm (zGv id ty i y0) he.al .dead]
       ·cases h
      ·cases h
     ·cases h
    ·cases h
   ·cases h
 case call c=>
  have hargs: ∀e,zLY G e b ⟨dst, .call c,type,pos,after,guard⟩→ ∀x,x∈c.args.toList→evx G e x=evx G b x:=by
   intro e he x hx
   exact he.ops x (by simp only [Op.operands,Call.operands];exact Array.mem_append_right _ (by simpa using hx))
  have bits: ∀ (x0 x1:Operand) (d id:Nat),c.callee= .builtin .append→c.args.toList=[x0,x1]→dst=some d→(id=d∨(evx G b x0).bits=2^(2*id))→
    kM (wK G b ⟨dst, .call c,type,pos,after,guard⟩) (qN id):=by
   intro x0 x1 d id hc ha hd hid
   refine (kM.kill id).mono ?_
   intro t ht
   simp only [wK,hc,ha,hd,zCT,kK] at ht
   rcases hid with rfl|hid
   ·exact ht.1
   ·rw [←hid];exact ht.2
  have hT: ∀e,zLY G e b ⟨dst, .call c,type,pos,after,guard⟩→wR P G b dst c=none→wR P G e dst c=none:=by
   intro e he hn
   unfold wR at hn ⊢
   split
   ·rename_i x0 x1 t0 t1 d hcal hars htys
    have h0:evx G e x0=evx G b x0:=hargs e he x0 (by rw [hars];simp)
    have h1:evx G e x1=evx G b x1:=hargs e he x1 (by rw [hars];simp)
    simp only [hcal,hars,htys] at hn
    rw [h0,h1]
    repeat' split at hn
    all_goals first|cases hn|skip
    all_goals simp_all
   ·rfl
  have hV: ∀e,zLY G e b ⟨dst, .call c,type,pos,after,guard⟩→kE P G b dst c=none→kE P G e dst c=none:=by
   intro e he hn
   unfold kE at hn ⊢
   split
   ·rename_i p x1 t0 t1 d hcal hars htys
    have h0:e.get p=b.get p:=hargs e he (.tmp p) (by rw [hars];simp)
    have h1:evx G e x1=evx G b x1:=hargs e he x1 (by rw [hars];simp)
    simp only [hcal,hars,htys] at hn
    rw [h0,h1]
    repeat' split at hn
    all_goals first|cases hn|skip
    all_goals simp_all
   ·rfl
  split at h
  ·rename_i e2 he2
   simp only [Option.some.injEq] at h;subst h
   unfold wR at he2
   split at he2
   ·rename_i x0 x1 t0 t1 d hcal hars htys
    split at he2
    ·rename_i el el1 hu0 hu1
     split at he2
     ·rename_i info hinfo
      split at he2
      ·rename_i z t ys hz hsrc
       split at he2
       ·rename_i nm xs hdst
        split at he2
        ·rename_i hok
         split at he2
         ·rename_i hroom
          refine ⟨qN (nm.getD d),((b.vars.set (nm.getD d) none).map (fun c=>c.map (List.map (qN (nm.getD d))))), .ot (nm.getD d) t (xs++ys),b.st,bits x0 x1 d _ hcal hars rfl ?_,fun e he=> ?_⟩
          ·unfold zS1 at hdst
           split at hdst
           ·simp only [Option.some.injEq,Prod.mk.injEq] at hdst;rw [←hdst.1];exact .inl rfl
           ·simp only [Option.some.injEq,Prod.mk.injEq] at hdst;rw [←hdst.1];exact .inl rfl
           ·rename_i heq
            split at hdst
            ·simp only [Option.some.injEq,Prod.mk.injEq] at hdst
             rw [←hdst.1,heq];exact .inr rfl
            ·cases hdst
           ·cases hdst
          ·have h0:evx G e x0=evx G b x0:=hargs e he x0 (by rw [hars];simp)
           have h1:evx G e x1=evx G b x1:=hargs e he x1 (by rw [hars];simp)
           have:wR P G e (some d) c=some { (e.kill (nm.getD d)) with tm:=(e.kill (nm.getD d)).tm.set d (.ot (nm.getD d) t (xs++ys)) } :=by
            simp only [wR,hcal,hars,htys,hu0,hu1,hinfo,hz,h0,h1,hsrc,hdst]
            rw [if_pos hok,if_pos hroom]
           simp only [evW,this]
           rw [zDg he.al]
         ·cases he2
        ·cases he2
       ·cases he2
      ·cases he2
     ·cases he2
    ·cases he2
   ·cases he2
  ·rename_i hnoT
   split at h
   ·rename_i e2 he2
    simp only [Option.some.injEq] at h;subst h
    unfold kE at he2
    split at he2
    ·rename_i p x1 t0 t1 d hcal hars htys
     split at he2
     ·rename_i el el1 hu0 hu1
      split at he2
      ·rename_i info hinfo
       split at he2
       ·rename_i z t y ys hz hsrc
        split at he2
        ·rename_i id t' xs hi q7
         split at he2
         ·cases he2
         ·rename_i hne
          split at he2
          ·rename_i htt
           subst htt
           split at he2
           ·rename_i hok
            split at he2
            ·rename_i hroom
             refine ⟨qN id,((b.vars.set (id) none).map (fun c=>c.map (List.map (qN (id))))), .ot id t' (List.take hi xs++y::ys),b.st,bits (.tmp p) x1 d _ hcal hars rfl (.inr ?_),fun e he=> ?_⟩
             ·have:evx G b (.tmp p)= .ov id t' xs 0 hi:=q7
              rw [this];rfl
             ·have h0:e.get p=b.get p:=hargs e he (.tmp p) (by rw [hars];simp)
              have h1:evx G e x1=evx G b x1:=hargs e he x1 (by rw [hars];simp)
              have:kE P G e (some d) c=some { (e.kill id) with tm:=(e.kill id).tm.set d (.ot id t' (List.take hi xs++y::ys)) } :=by
               simp only [kE,hcal,hars,htys,hu0,hu1,hinfo,hz,h0,h1,hsrc,q7]
               rw [if_neg hne,dif_pos trivial,if_pos hok,if_pos hroom]
              simp only [evW,hT e he hnoT,this]
              rw [zDg he.al]
            ·cases he2
           ·cases he2
          ·cases he2
        ·cases he2
       ·cases he2
      ·cases he2
     ·cases he2
    ·cases he2
   ·rename_i hnoV
    unfold zAo wH at h
    split at h
    ·rename_i x0 x1 t0 t1 d hcal hars htys
     split at h
     ·rename_i el el1 hu0 hu1
      split at h
      ·rename_i info hinfo
       split at h
       ·rename_i z es2 hz hes2
        split at h
        ·rename_i hok
         have h0: ∀e,zLY G e b ⟨some d, .call c,type,pos,after,guard⟩→evx G e x0=evx G b x0:=fun e he=>hargs e he x0 (by rw [hars];simp)
         have h1: ∀e,zLY G e b ⟨some d, .call c,type,pos,after,guard⟩→evx G e x1=evx G b x1:=fun e he=>hargs e he x1 (by rw [hars];simp)
         split at h
         ·rename_i id k es heq
          split at h
          ·rename_i hc
           refine ⟨qN id,((b.vars.set (id) none).map (fun c=>c.map (List.map (qN (id))))), .ow id k (es++es2),b.st,bits x0 x1 d _ hcal hars rfl (.inr (by rw [heq];rfl)),fun e he=> ?_⟩
           have:zAo P G e (some d) c=some { (e.kill id) with tm:=(e.kill id).tm.set d (.ow id k (es++es2)) } :=by
            simp only [zAo,wH,hcal,hars,htys,hu0,hu1,hinfo,hz,h0 e he,h1 e he,hes2,hok,if_true,heq]
            rw [if_pos hc]
           simp only [evW,hT e he hnoT,hV e he hnoV,this]
           rw [zDg he.al]
          ·cases h
         ·split at h
          ·split at h
           ·cases h
           ·cases h
           ·split at h
            ·refine ⟨fun x=>x,b.vars,evx G b x0,b.st,kM.id _,fun e he=> ?_⟩
             have:zAo P G e (some d) c=some (e.put (some d) (evx G b x0)):=by
              simp only [zAo,wH,hcal,hars,htys,hu0,hu1,hinfo,hz,h0 e he,h1 e he]
              simp_all
             simp only [evW,hT e he hnoT,hV e he hnoV,this]
             simp only [Env.put,zAl, ←he.al.vars, ←he.al.st]
             simp
            ·rename_i q r
             split at h
             ·rename_i hroom
              refine ⟨qN d,((b.vars.set (d) none).map (fun c=>c.map (List.map (qN (d))))), .ow d info.size (q::r),b.st,bits x0 x1 d d hcal hars rfl (.inl rfl),fun e he=> ?_⟩
              have:zAo P G e (some d) c=some { (e.kill d) with tm:=(e.kill d).tm.set d (.ow d info.size (q::r)) } :=by
               simp only [zAo,wH,hcal,hars,htys,hu0,hu1,hinfo,hz,h0 e he,h1 e he]
               simp_all
              simp only [evW,hT e he hnoT,hV e he hnoV,this]
              rw [zDg he.al]
             ·cases h
          ·cases h
        ·cases h
       ·cases h
      ·cases h
     ·cases h
    ·cases h
 case mapUpdate t m k v=>
  split at h
  ·cases h
  ·split at h
   ·rename_i id es ck k0 v0 hm hk hv
    unfold zQa at h
    split at h
    ·rename_i es' ck' hu
     refine ⟨zVH id es' ck',b.vars.map (fun c=>c.map (List.map (zVH id es' ck'))), .dead,b.st,⟨fun _=>rfl,rfl,fun _ _ _=>rfl⟩,fun e he=> ?_⟩
     have h0:evx G e m=evx G b m:=he.ops m (by simp [Op.operands])
     have h1:evx G e k=evx G b k:=he.ops k (by simp [Op.operands])
     have h2:evx G e v=evx G b v:=he.ops v (by simp [Op.operands])
     simp only [evW,h0,h1,h2,hm,hk,hv,zQa,hu]
     rw [zLm (zVH id es' ck') he.al .dead]
    ·cases h
   ·cases h
end
end Go.Ve

namespace Go.Ve
open Go
inductive FV where
 |c (x:T)
 |a (s:Nat)
structure Fl where
 i:Nat
 d:Nat
 v:FV
section
variable {St:Type}
def Fl.val (q:Fl) (e:Env St):T:=
 match q.v with
 | .c x=>x
 | .a s=>e.get s
def zDd (e:Env St) (q:Fl):Env St:= { e with tm:=e.tm.set q.d (q.val e) }
def j3 (e:Env St) (L:List Fl):Env St:=L.foldl zDd e
structure zIj (n:Nat) (L:List Fl):Prop where
 dist:L.Pairwise (fun p q=>p.d≠q.d)
 lt: ∀q,q∈L→q.d<n
 src: ∀q,q∈L→ ∀s,q.v= .a s→ ∀p,p∈L→s≠p.d
theorem zIj.filter {n:Nat} {L:List Fl} (h:zIj n L) (p:Fl→Bool):zIj n (L.filter p):=
 ⟨h.dist.filter _,fun q hq=>h.lt q (List.mem_filter.1 hq).1,fun q hq s hs p hp=>h.src q (List.mem_filter.1 hq).1 s hs p (List.mem_filter.1 hp).1⟩
theorem zNH (e:Env St) (q:Fl):(zDd e q).tm.length=e.tm.length:=by simp [zDd]
theorem zEM: ∀ (L:List Fl) (e:Env St),(j3 e L).tm.length=e.tm.length:=by
 intro L
 induction L with
 |nil=>intro e;rfl
 |cons q L ih=>intro e;exact (ih (zDd e q)).trans (zNH e q)
theorem zHw: ∀ (L:List Fl) (e:Env St),(j3 e L).vars=e.vars∧(j3 e L).st=e.st:=by
 intro L
 induction L with
 |nil=>intro e;exact ⟨rfl,rfl⟩
 |cons q L ih=>intro e;exact ih (zDd e q)
theorem zAf (L:List Fl) (e:Env St):zA4 (j3 e L) e:=⟨(zHw L e).1,(zHw L e).2,zEM L e⟩
theorem zKt (e:Env St) (q:Fl) (t:Nat):(zDd e q).get t=if t=q.d∧q.d<e.tm.length then q.val e else e.get t:=uC e q.d t (q.val e)
theorem zAW: ∀ (L:List Fl) (e:Env St) (n:Nat),zIj n L→n≤e.tm.length→(∀t,(∀q,q∈L→t≠q.d)→(j3 e L).get t=e.get t)∧(∀q,q∈L→(j3 e L).get q.d=q.val e):=by
 intro L
 induction L with
 |nil=>intro e n _ _;exact ⟨fun _ _=>rfl,fun q hq=>by simp at hq⟩
 |cons q L ih=>
  intro e n h hn
  have hd:=List.pairwise_cons.1 h.dist
  have hL:zIj n L:=⟨hd.2,fun p hp=>h.lt p (List.mem_cons_of_mem _ hp),fun p hp s hs r hr=>h.src p (List.mem_cons_of_mem _ hp) s hs r (List.mem_cons_of_mem _ hr)⟩
  obtain ⟨h1,h2⟩:=ih (zDd e q) n hL (by rw [zNH];exact hn)
  refine ⟨?_,?_⟩
  ·intro t ht
   show (j3 (zDd e q) L).get t=e.get t
   rw [h1 t (fun p hp=>ht p (List.mem_cons_of_mem _ hp)),zKt,if_neg (fun hh=>ht q (by simp) hh.1)]
  ·intro p hp
   show (j3 (zDd e q) L).get p.d=p.val e
   rcases List.mem_cons.1 hp with rfl|hp
   ·rw [h1 p.d (fun r hr=>hd.1 r hr),zKt,if_pos ⟨rfl,Nat.lt_of_lt_of_le (h.lt p (by simp)) hn⟩]
   ·rw [h2 p hp]
    unfold Fl.val
    cases hv:p.v with
    |c x=>rfl
    |a s=>
     simp only
     rw [zKt,if_neg (fun hh=>h.src p (List.mem_cons_of_mem _ hp) s hv q (by simp) hh.1)]
theorem zVw {e b:Env St} (h:zA4 e b) (hg: ∀t,e.get t=b.get t):e=b:=by
 obtain ⟨tm,vars,st⟩:=e
 obtain ⟨tm',vars',st'⟩:=b
 have h1:=h.vars
 have h2:=h.st
 have h3:=h.len
 simp only at h1 h2 h3
 subst h1 h2
 have:tm=tm':=by
  apply List.ext_getElem h3
  intro i h4 h5
  have:=hg i
  simpa [Env.get,List.getD_eq_getElem?_getD,h4,h5] using this
 rw [this]
theorem zA4.trans {e b c:Env St} (h:zA4 e b) (k:zA4 b c):zA4 e c:=⟨h.vars.trans k.vars,h.st.trans k.st,h.len.trans k.len⟩
theorem zA4.symm {e b:Env St} (h:zA4 e b):zA4 b e:=⟨h.vars.symm,h.st.symm,h.len.symm⟩
theorem zTZ {fl:List Fl} {e:Env St} (h:zIj e.tm.length fl) (p p':Fl→Bool) (hp: ∀q,q∈fl→p q=true→p' q=true):j3 (j3 e (fl.filter p)) (fl.filter p')=j3 e (fl.filter p'):=by
 refine zVw ((zAf _ _).trans ((zAf _ e).trans (zAf _ e).symm)) ?_
 intro t
 obtain ⟨a1,a2⟩:=zAW (fl.filter p) e _ (h.filter p) (Nat.le_refl _)
 obtain ⟨b1,b2⟩:=zAW (fl.filter p') e _ (h.filter p') (Nat.le_refl _)
 obtain ⟨c1,c2⟩:=zAW (fl.filter p') (j3 e (fl.filter p)) e.tm.length (h.filter p') (by rw [zEM];exact Nat.le_refl _)
 by_cases ht: ∃q,q∈fl.filter p'∧t=q.d
 ·obtain ⟨q,hq,rfl⟩:=ht
  rw [b2 q hq,c2 q hq]
  unfold Fl.val
  cases hv:q.v with
  |c x=>rfl
  |a s=>
   simp only
   exact a1 s (fun r hr=>h.src q (List.mem_filter.1 hq).1 s hv r (List.mem_filter.1 hr).1)
 ·have ht': ∀q,q∈fl.filter p'→t≠q.d:=fun q hq hh=>ht ⟨q,hq,hh⟩
  rw [b1 t ht',c1 t ht']
  refine a1 t (fun q hq=>ht' q ?_)
  obtain ⟨h1,h2⟩:=List.mem_filter.1 hq
  exact List.mem_filter.2 ⟨h1,hp q h1 h2⟩
theorem zVW {fl:List Fl} {e:Env St} (h:zIj e.tm.length fl) (p p':Fl→Bool) {q:Fl} (hq:q∈fl) (hp: ∀r,r∈fl→(p' r=true↔p r=true∨r.d=q.d)) (hpq:p q=false):
  zDd (j3 e (fl.filter p)) q=j3 e (fl.filter p'):=by
 have hal:zA4 (zDd (j3 e (fl.filter p)) q) e:=⟨(zHw _ e).1,(zHw _ e).2,by rw [zNH,zEM]⟩
 refine zVw (hal.trans (zAf _ e).symm) ?_
 intro t
 obtain ⟨a1,a2⟩:=zAW (fl.filter p) e _ (h.filter p) (Nat.le_refl _)
 obtain ⟨b1,b2⟩:=zAW (fl.filter p') e _ (h.filter p') (Nat.le_refl _)
 have hval:q.val (j3 e (fl.filter p))=q.val e:=by
  unfold Fl.val
  cases hv:q.v with
  |c x=>rfl
  |a s=>
   simp only
   exact a1 s (fun r hr=>h.src q hq s hv r (List.mem_filter.1 hr).1)
 rw [zKt,zEM]
 by_cases htq:t=q.d
 ·subst htq
  rw [if_pos ⟨rfl,h.lt q hq⟩,hval,b2 q (List.mem_filter.2 ⟨hq,(hp q hq).2 (.inr rfl)⟩)]
 ·rw [if_neg (fun hh=>htq hh.1)]
  by_cases ht: ∃r,r∈fl.filter p∧t=r.d
  ·obtain ⟨r,hr,rfl⟩:=ht
   obtain ⟨h1,h2⟩:=List.mem_filter.1 hr
   rw [a2 r hr,b2 r (List.mem_filter.2 ⟨h1,(hp r h1).2 (.inl h2)⟩)]
  ·have ht': ∀r,r∈fl.filter p→t≠r.d:=fun r hr hh=>ht ⟨r,hr,hh⟩
   rw [a1 t ht',b1 t ?_]
   intro r hr hh
   obtain ⟨h1,h2⟩:=List.mem_filter.1 hr
   rcases (hp r h1).1 h2 with h3|h3
   ·exact ht' r (List.mem_filter.2 ⟨h1,h3⟩) hh
   ·exact htq (hh.trans h3)
def zTv (m:Nat) (dst:Option Nat) (q:Fl):Prop:=
 dst≠some q.d∧match q.v with
  | .c (.p _)=>True
  | .c (.lp s _)=>m.testBit (2*s)=false
  | .c _=>False
  | .a s=>dst≠some s
theorem zXY {e:Env St} {f:T→T} {V:List (Option (List T))} {dst:Option Nat} {y:T} {st:St} (hf:f .dead= .dead) (t:Nat) (ht:dst≠some t):(zAl e f V dst y st).get t=f (e.get t):=by
 cases dst with
 |none=>
  simp only [zAl,Env.get,List.getD_eq_getElem?_getD,List.getElem?_map]
  cases e.tm[t]? <;>simp [hf]
 |some d=>
  simp only [zAl,Env.get,List.getD_eq_getElem?_getD]
  rw [List.getElem?_set_ne (fun h=>ht (by rw [h])),List.getElem?_map]
  cases e.tm[t]? <;>simp [hf]
theorem zVY {e:Env St} {m:Nat} {f:T→T} {V:List (Option (List T))} {dst:Option Nat} {y:T} {st:St} (hf:kM m f) {q:Fl} (hq:zTv m dst q):
  zAl (zDd e q) f V dst y st=zDd (zAl e f V dst y st) q:=by
 have hv:f (q.val e)=q.val (zAl e f V dst y st):=by
  unfold Fl.val
  have h2:=hq.2
  cases hv:q.v with
  |c x=>
   rw [hv] at h2
   cases x with
   |p d=>exact hf.p d
   |lp s off=>exact hf.lp s off h2
   |_=>exact h2.elim
  |a s=>
   rw [hv] at h2
   exact (zXY hf.dead s h2).symm
 cases dst with
 |none=>
  simp only [zAl,zDd,List.map_set]
  rw [hv];rfl
 |some d=>
  have hne:d≠q.d:=fun h=>hq.1 (by rw [h])
  simp only [zAl,zDd,List.map_set]
  rw [hv,List.set_comm _ _ (fun h=>hne h.symm)];rfl
theorem zVX: ∀ (L:List Fl) {e:Env St} {m:Nat} {f:T→T} {V:List (Option (List T))} {dst:Option Nat} {y:T} {st:St},kM m f→(∀q,q∈L→zTv m dst q)→
  zAl (j3 e L) f V dst y st=j3 (zAl e f V dst y st) L:=by
 intro L
 induction L with
 |nil=>intro e m f V dst y st _ _;rfl
 |cons q L ih=>
  intro e m f V dst y st hf hs
  show zAl (j3 (zDd e q) L) f V dst y st=j3 (zDd (zAl e f V dst y st) q) L
  rw [ih hf (fun r hr=>hs r (List.mem_cons_of_mem _ hr)),zVY hf (hs q (by simp))]
end
section
variable {Γ:Sig} {P:Program} {G:Nat→Option (List V)} {S:jH Γ}
def zJ4 (G:Nat→Option (List V)) (e:Env Γ.St):List Operand→List Nat
 |[]=>[]
 |x::r=>match evx G e x with
  | .ot id _ _=>id::zJ4 G e r
  |_=>zJ4 G e r
def frzI:List Nat→Env Γ.St→Env Γ.St
 |[],e=>e
 |i::r,e=>frzI r (frzOE i e)
def zSH (G:Nat→Option (List V)) (o:Oper) (e:Env Γ.St):Env Γ.St:=frzI (zJ4 G e o.op.operands.toList) e
def zHD (o:Oper):Bool:=
 match o.op with
 | .build _ _=>true
 | .call c=>match c.callee with
  | .value _=>true
  |_=>false
 |_=>false
theorem zXZ: ∀ (l:List Nat), ∃g:T→T,(∀d,g (.p d)= .p d)∧g .dead= .dead∧(∀s off,g (.lp s off)= .lp s off)∧ ∀e:Env Γ.St,frzI l e=e.mapT g:=by
 intro l
 induction l with
 |nil=>exact ⟨fun x=>x,fun _=>rfl,rfl,fun _ _=>rfl,fun e=>by
   unfold frzI Env.mapT
   cases e with
   |mk tm vr st=>simp⟩
 |cons i r ih=>
  obtain ⟨g,h1,h2,h3,h4⟩:=ih
  cases hb:Nat.beq i jK with
  |true=>exact ⟨g,h1,h2,h3,fun e=>by simp only [frzI,frzOE,hb,h4]⟩
  |false=>
   refine ⟨fun x=>g (zCb i x),fun d=>h1 d,h2,fun s off=>h3 s off,fun e=> ?_⟩
   simp only [frzI,frzOE,hb,h4]
   unfold Env.mapT
   cases e with
   |mk tm vr st=>
    simp [Function.comp_def]
theorem zT4 {e b:Env Γ.St} : ∀ (l:List Operand),(∀x,x∈l→evx G e x=evx G b x)→zJ4 G e l=zJ4 G b l:=by
 intro l
 induction l with
 |nil=>intro _;rfl
 |cons x r ih=>
  intro h
  simp only [zJ4,h x (by simp),ih (fun y hy=>h y (List.mem_cons_of_mem _ hy))]
theorem Inv.frzI {w0:World} {F0:Blk→Prop} {O0:yT} {a:Act} {w:World} : ∀ (l:List Nat) {e:Env Γ.St},Inv Γ G w0 F0 O0 a w e→Inv Γ G w0 F0 O0 a w (Ve.frzI l e):=by
 intro l
 induction l with
 |nil=>intro e h;exact h
 |cons i r ih=>intro e h;exact ih (h.frzOE i)
def zGd (P:jE) (G:Nat→Option (List V)) (S:jH Γ) (e:Env Γ.St) (o:Oper) (e1:Env Γ.St):Prop:=
 zIa P G S e o=some e1∨evW P G e o=some e1∨(zHD o=true∧zIa P G S (zSH G o e) o=some e1)
theorem zE9 {e:Env Γ.St} {o:Oper} (h:zHD o=true):wK G e o=zCT o.dst:=by
 unfold zHD at h
 unfold wK
 split at h
 ·rename_i hop;simp [hop]
 ·rename_i c hop
  split at h
  ·rename_i fv hcal
   simp [hop,hcal]
  ·cases h
 ·cases h
theorem zWq {e:Env Γ.St} {o:Oper} (h:zHD o=true):evW P G e o=none:=by
 unfold zHD at h
 unfold evW
 split at h
 ·rename_i hop;simp [hop]
 ·rename_i c hop
  split at h
  ·rename_i fv hcal
   simp [hop,hcal,wR,kE,zAo,wH]
  ·cases h
 ·cases h
theorem zNB {L:jE} {b b1:Env Γ.St} {o:Oper} (h:zGd L G S b o b1): ∃f V y st,kM (wK G b o) f∧b1=zAl b f V o.dst y st∧ ∀e,zLY G e b o→zGd L G S e o (zAl e f V o.dst y st):=by
 have hb:zLY G b b o:=⟨⟨rfl,rfl,rfl⟩,fun _ _=>rfl⟩
 rcases h with h|h|⟨hB,h⟩
 ·obtain ⟨f,V,y,st,h1,h2⟩:=zQd h
  have:=h2 b hb
  rw [h] at this
  exact ⟨f,V,y,st,h1,Option.some.inj this,fun e he=> .inl (h2 e he)⟩
 ·obtain ⟨f,V,y,st,h1,h2⟩:=zYd h
  have:=h2 b hb
  rw [h] at this
  exact ⟨f,V,y,st,h1,Option.some.inj this,fun e he=> .inr (.inl (h2 e he))⟩
 ·obtain ⟨g,g1,g2,g3,g4⟩:=zXZ (Γ:=Γ) (zJ4 G b o.op.operands.toList)
  obtain ⟨f,V,y,st,h1,h2⟩:=zQd h
  rw [zE9 hB] at h1
  have hform: ∀e:Env Γ.St,zAl (e.mapT g) f V o.dst y st=zAl e (fun x=>f (g x)) V o.dst y st:=by
   intro e
   unfold zAl Env.mapT
   cases o.dst<;>simp [Function.comp_def]
  have key: ∀e,zLY G e b o→zSH G o e=e.mapT g∧zIa L G S (zSH G o e) o=some (zAl e (fun x=>f (g x)) V o.dst y st):=by
   intro e he
   have hids:zJ4 G e o.op.operands.toList=zJ4 G b o.op.operands.toList:=zT4 _ (fun x hx=>he.2 x (by simpa using hx))
   have hfe:zSH G o e=e.mapT g:=by unfold zSH;rw [hids,g4]
   have hfb:zSH G o b=b.mapT g:=by unfold zSH;rw [g4]
   refine ⟨hfe,?_⟩
   rw [hfe, ←hform]
   apply h2
   rw [hfb]
   obtain ⟨⟨e1,e2,e3⟩,e4⟩:=he
   refine ⟨⟨?_,?_,?_⟩,?_⟩
   ·simp [Env.mapT,e1]
   ·simp [Env.mapT,e2]
   ·simp [Env.mapT,e3]
   ·intro x hx
    have:=e4 x hx
    cases x with
    |tmp t=>
     have ht:e.get t=b.get t:=this
     show (e.mapT g).get t=(b.mapT g).get t
     have hg: ∀c:Env Γ.St,(c.mapT g).get t=g (c.get t):=by
      intro c
      simp only [Env.mapT,Env.get,List.getD_eq_getElem?_getD,List.getElem?_map]
      cases c.tm[t]? <;>simp [g2]
     rw [hg,hg,ht]
    |_=>rfl
  refine ⟨fun x=>f (g x),V,y,st,?_,?_,fun e he=> .inr (.inr ⟨hB,(key e he).2⟩)⟩
  ·rw [zE9 hB]
   exact ⟨fun d=>by simp only [g1];exact h1.p d,by simp only [g2];exact h1.dead,fun s off hs=>by simp only [g3];exact h1.lp s off hs⟩
  ·have:=(key b hb).2
   rw [h] at this
   exact Option.some.inj this
theorem zGd.op {e e1:Env Γ.St} {o:Oper} (hS:qH Γ P G S) (h:zGd P G S e o e1):zUZ P G e o e1:=by
 intro w0 F0 O0 a w Q hi
 rcases h with h|h|⟨_,h⟩
 ·exact zG7 hS hi h
 ·exact zNa hi h
 ·exact zG7 hS (hi.frzI _) h
theorem zVR {L:jE} {fl:List Fl} {b b1:Env Γ.St} {o:Oper} {A p:Fl→Bool} (hfl:zIj b.tm.length fl) (hA: ∀q,q∈fl→A q=true→p q=true)
  (hops: ∀q,q∈fl→Operand.tmp q.d∈o.op.operands→A q=true)
  (h:zGd L G S (j3 b (fl.filter A)) o b1) (hst: ∀q,q∈fl→zTv (wK G (j3 b (fl.filter A)) o) o.dst q):zGd L G S (j3 b (fl.filter p)) o (j3 b1 (fl.filter p)):=by
 obtain ⟨f,V,y,st,h1,rfl,h3⟩:=zNB h
 rw [←zTZ hfl A p hA]
 have hlen:(j3 b (fl.filter A)).tm.length=b.tm.length:=zEM _ _
 obtain ⟨c1,c2⟩:=zAW (fl.filter p) (j3 b (fl.filter A)) _ (hfl.filter p) (by rw [hlen];exact Nat.le_refl _)
 obtain ⟨a1,a2⟩:=zAW (fl.filter A) b _ (hfl.filter A) (Nat.le_refl _)
 have hsame:zLY G (j3 (j3 b (fl.filter A)) (fl.filter p)) (j3 b (fl.filter A)) o:=by
  refine ⟨zAf _ _,?_⟩
  intro x hx
  cases x with
  |tmp t=>
   show (j3 (j3 b (fl.filter A)) (fl.filter p)).get t=(j3 b (fl.filter A)).get t
   by_cases ht: ∃q,q∈fl.filter p∧t=q.d
   ·obtain ⟨q,hq,rfl⟩:=ht
    have hq1:=(List.mem_filter.1 hq).1
    have hqA:q∈fl.filter A:=List.mem_filter.2 ⟨hq1,hops q hq1 hx⟩
    rw [c2 q hq,a2 q hqA]
    unfold Fl.val
    cases hv:q.v with
    |c x=>rfl
    |a s=>
     simp only
     exact a1 s (fun r hr=>hfl.src q hq1 s hv r (List.mem_filter.1 hr).1)
   ·exact c1 t (fun q hq hh=>ht ⟨q,hq,hh⟩)
  |_=>rfl
 have:=h3 _ hsame
 rw [zVX (fl.filter p) h1 (fun q hq=>hst q (List.mem_filter.1 hq).1)] at this
 exact this
end
end Go.Ve

/- law16 -/
import Derived.Test.YtgiopebfjmfmhaaGreatLp7
set_option linter.unusedVariables false
open Option renaming some->Sa,none->Sb
open Bool renaming true->Sc,false->Sd
open Option renaming bind->Aa
open List renaming map->Ab,range->Ag,mem_cons_of_mem->Ah
open Go.Op renaming operands->Ac
open Go.Region renaming binds->Ad,ready->Ak
open BitVec renaming ofInt->Ae
open Nat renaming testBit->Af,beq->Ai,strongRecOn->Aj
namespace Go.Ve
open Go
section
variable {β:Type}
def fL{α:Type}(f:α->(α->β)->β):List α->(List α->β)->β
 |[],k=>k []
 |x::r,k=>f x (fun x=>fL f r (fun r=>k (x::r)))
def qHD:Int->(Int->β)->β
 |.ofNat m,k=>k (.ofNat m)
 |.negSucc m,k=>k (.negSucc m)
def qHj:Value->(Value->β)->β
 |.int q n,k=>qHD n (fun n=>k (.int q n))
 |.bool Sc,k=>k (.bool Sc)
 |.bool Sd,k=>k (.bool Sd)
 |v,k=>k v
def fV:Nat->V->(V->β)->β
 |0,d,k=>k d
 |_+1,.val v,k=>qHj v (fun v=>k (.val v))
 |n+1,.agg a,k=>fL (fV n) a (fun a=>k (.agg a))
 |n+1,.sl a,k=>fL (fV n) a (fun a=>k (.sl a))
 |n+1,.tup a,k=>fL (fV n) a (fun a=>k (.tup a))
 |n+1,.pp a,k=>fL (fV n) a (fun a=>k (.pp a))
 |n+1,.clo f a,k=>fL (fV n) a (fun a=>k (.clo f a))
 |_+1,.tl t c,k=>k (.tl t c)
 |_+1,.rf o,k=>k (.rf o)
 |_+1,.hd o,k=>k (.hd o)
 |_+1,.pt t o,k=>k (.pt t o)
 |n+1,.hp a,k=>fL (fV n) a (fun a=>k (.hp a))
 |_+1,.bot,k=>k .bot
def fT:T->(T->β)->β
 |.p d,k=>fV 8 d (fun d=>k (.p d))
 |.ow i q c,k=>fL (fV 8) c (fun c=>k (.ow i q c))
 |.oe i q c j a,k=>fL (fV 8) c (fun c=>k (.oe i q c j a))
 |.lp s a,k=>k (.lp s a)
 |.mp i c f,k=>k (.mp i c f)
 |.ot i t e,k=>k (.ot i t e)
 |.oet i t e j a,k=>k (.oet i t e j a)
 |.ov i t e j a,k=>k (.ov i t e j a)
 |.on n,k=>k (.on n)
 |.emp,k=>k .emp
 |.dead,k=>k .dead
def fAt{α:Type}(f:α->(α->β)->β):Nat->List α->(List α->β)->β
 |_,[],k=>k []
 |0,x::r,k=>f x (fun x=>k (x::r))
 |n+1,x::r,k=>fAt f n r (fun r=>k (x::r))
def fO:Option (List T)->(Option (List T)->β)->β
 |none,k=>k Sb
 |some a,k=>fL (fun x k=>k x) a (fun a=>k (Sa a))
def qD6{St:Type}(d:Nat)(e:Env St)(k:Env St->β):β:=
 match e with
 |⟨c,a,st⟩=>fAt (fun x k=>fT x k) d c (fun c=>k ⟨c,a,st⟩)
def zSc{St:Type}(e:Env St)(k:Env St->β):β:=
 match e with
 |⟨c,a,st⟩=>fL (fun x k=>fT x k) c (fun c=>fL fO a (fun a=>k ⟨c,a,st⟩))
variable {g:Type}{i:g->(g->β)->β}
theorem zXC(a:∀x k,i x k=k x):∀(l:List g) (k:List g->β),fL i l k=k l:=by
 intro l
 induction l with
 |nil=>intro k;rfl
 |cons x l c=>grind[fL]
theorem qFL(v:Value)(k:Value->β):qHj v k=k v:=by
 cases v with
 |int q n=>cases n<;>rfl
 |bool b=>cases b<;>rfl
 |_=>rfl
theorem qD4:∀(n:Nat) (d:V) (k:V->β),fV n d k=k d:=by
 intro n
 induction n with
 |zero=>intro d k;rfl
 |succ n a=>
  intro d k;cases d<;>simp only[fV]
  .exact qFL _ _
  all_goals grind[zXC]
theorem qGe(x:T)(k:T->β):fT x k=k x:=by cases x<;>simp only[fT];all_goals grind[qD4,zXC]
theorem qGN(a:∀x k,i x k=k x):∀(n:Nat) (l:List g) (k:List g->β),fAt i n l k=k l:=by
 intro n l
 induction l generalizing n with
 |nil=>intro k;cases n<;>rfl
 |cons x l c=>
  intro k
  cases n with
  |zero=>grind[fAt]
  |succ n=>grind[fAt]
theorem qHk(x:Option (List T))(k:Option (List T)->β):fO x k=k x:=by
 cases x with
 |none=>rfl
 |some a=>simp only[fO];exact zXC (fun _ _=>rfl) _ _
theorem qAS(d:Nat)(e:Env g)(k:Env g->β):qD6 d e k=k e:=by simp only[qD6];rw[qGN qGe]
theorem zNR(e:Env g)(k:Env g->β):zSc e k=k e:=by simp_all[zXC,qGe,qHk,zSc]
def fOp{St:Type}(o:Oper)(e:Env St)(k:Env St->β):β:=
 match o.op with
 |.box _ _|.alloc _|.store _ _ _|.makeFunc _ _ _|.makeSlice _ _ _|.build _ _|.slice _ _ _ _ _=>zSc e k
 |.call c=>match c.callee with
  |.builtin .len=>qD6 (o.dst.getD 0) e k
  |_=>zSc e k
 |_=>qD6 (o.dst.getD 0) e k
theorem qD5(o:Oper)(e:Env g)(k:Env g->β):fOp o e k=k e:=by
 grind[zNR,qAS,fOp]
end
section
variable {Γ:Sig}(P:j6)(G:Nat->Option (List V))(S:vF Γ)
def zSg(ops:Array Oper):List Oper->Env Γ.St->Option (Env Γ.St)
 |[],e=>Sa e
 |o::a,e=>match zSf P G S ops e o with
  |some c=>fOp o c (fun c=>zSg ops a c)
  |none=>Sb
def zN5(ops:Array Oper):List Oper->Env Γ.St->Option (Env Γ.St)
 |[],e=>Sa e
 |o::a,e=>match vG ops e o with
  |some Sc=>if zOG G (qY (o::a)) e o then
    match evQ P G S e o with
    |some r=>match zMI e o.dst r with
     |some c=>fOp o c (fun c=>zN5 ops a c)
     |none=>Sb
    |none=>Sb
   else Sb
  |some Sd=>qD6 (o.dst.getD 0) (e.put o.dst (.p (.val undef))) (fun c=>zN5 ops a c)
  |none=>Sb
def zVB(ops:Array Oper)(e:Env Γ.St):Option (Env Γ.St):=
 if zPh ops then zSc (killAll (qY ops.toList) e) (fun e=>zN5 P G S ops ops.toList e)else Sb
def zSn(ops:Array Oper)(k:Nat)(e:Env Γ.St):Option (Env Γ.St):=
 match zVB P G S (ops.extract 0 k) e with
 |some a=>zSg P G S ops (ops.toList.drop k) a
 |none=>Sb
def zSm(ops:Array Oper)(e:Env Γ.St):Option (Env Γ.St):=
 if zDW ops.toList<=ops.size&&zJu ops (zDW ops.toList)&&zIB ops (zDW ops.toList)then
  match zSn P G S ops (zDW ops.toList) e with
  |some a=>Sa a
  |none=>zSc (frzOps G (zBL ops.toList) e) (fun e=>zSn P G S ops (zDW ops.toList) e)
 else Sb
def x9:Nat->Code->Env Γ.St->Option (X×Env Γ.St)
 |0,_,_=>Sb
 |_+1,.skip,e=>Sa (.normal,e)
 |n+1,.seq x y,e=>match x9 n x e with
  |some (.normal,a)=>x9 n y a
  |r=>r
 |n+1,.cond c x y,e=>match evx G e c with
  |.p (.val (.bool Sc))=>x9 n x e
  |.p (.val (.bool Sd))=>x9 n y e
  |_=>Sb
 |n+1,.block id c,e=>match x9 n c e with
  |some (k,a)=>Sa (k.out id,a)
  |none=>Sb
 |n+1,.loop c,e=>match x9 n c e with
  |some (.normal,a)=>x9 n (.loop c) a
  |r=>r
 |_+1,.exit id,e=>Sa (.exit id,e)
 |_+1,.ret,e=>Sa (.ret,e)
 |_+1,.region _ d Sd,e=>match zSg P G S d d.toList e with
  |some a=>Sa (.normal,a)
  |none=>Sb
 |_+1,.region _ d Sc,e=>match zSm P G S d e with
  |some a=>Sa (.normal,a)
  |none=>Sb
 |_,_,_=>Sb
def fRV{β:Type}:RV->(RV->β)->β
 |.p d,k=>fV 8 d (fun d=>k (.p d))
 |.own a,k=>fL (fV 8) a (fun a=>k (.own a))
 |.ownT t c,k=>k (.ownT t c)
def qFg(fn:Func)(e':Env Γ.St):Option (Γ.St×RV):=
 match zDP P e' fn with
 |some r=>fRV r (fun r=>Sa (e'.st,r))
 |none=>Sb
def qEd(n:Nat)(fn:Func)(s:Γ.St)(ds:List V):Option (Γ.St×RV):=
 match fn.body with
 |some c=>zSc (start fn.ntmps s ds) (fun e=>match x9 P G S n c e with
  |some (.normal,a)=>qFg P fn a
  |some (.ret,a)=>qFg P fn a
  |_=>Sb)
 |none=>Sb
def zOD(a:vF Γ)(k:Nat):Nat->vF Γ
 |0=>a
 |n+1=>fun f s c=>match a f s c with
  |some r=>Sa r
  |none=>match zED c with
   |true=>Sb
   |false=>match P.fn f with
    |some d=>qEd P G (zOD a k n) k d s c
    |none=>Sb
variable {P G S}
theorem zUj(ops:Array Oper):∀(l:List Oper) (e:Env Γ.St),zSg P G S ops l e=zPS P G S ops l e:=by
 intro l
 induction l with
 |nil=>intro e;rfl
 |cons o l a=>
  grind[qD5,zSg,zPS,zSf]
theorem zZM(ops:Array Oper):∀(l:List Oper) (e:Env Γ.St),zN5 P G S ops l e=zDp P G S ops l e:=by
 intro l
 induction l with
 |nil=>intro e;rfl
 |cons o l a=>
  intro e;simp[zN5,zDp,qAS,qD5,a]
  grind
theorem zXI(ops:Array Oper)(e:Env Γ.St):zSm P G S ops e=zKO P G S ops e:=by
 have a:∀ops (e:Env Γ.St),zVB P G S ops e=zMp P G S ops e:=by
  grind[zNR,zZM,zVB,zMp]
 grind[zUj,zNR,zSn,zNS,zMp,zSm,zKO,zDW]
theorem zZF:∀(n:Nat) (c:Code) (e:Env Γ.St),x9 P G S n c e=xZ P G S n c e:=by
 intro n
 induction n with
 |zero=>grind[x9,xZ]
 |succ n f=>
  intro c e
  cases c with
  |region id d a=>cases a<;>(simp only[x9,xZ,zUj,zXI];rfl)
  |seq x y=>grind[x9,xZ]
  |cond c x y=>grind[x9,xZ]
  |block id c=>grind[x9,xZ]
  |loop c=>grind[x9,xZ]
  |_=>simp only[x9,xZ]
theorem qGM{β:Type}(r:RV)(k:RV->β):fRV r k=k r:=by
 cases r with
 |p d=>exact qD4 _ _ _
 |own a=>exact zXC (qD4 8) _ _
 |ownT t c=>rfl
theorem qEc(n:Nat)(fn:Func)(s:Γ.St)(ds:List V):qEd P G S n fn s ds=zXH P G S n fn s ds:=by
 have c:∀a:Env Γ.St,qFg P fn a=(zDP P a fn).map (fun r=>(a.st,r)):=by
  grind[qGM,qFg,zDP]
 grind[zNR,zZF,qEd,zXH]
theorem qFc(a:vF Γ)(k:Nat):∀n,zOD P G a k n=zQi P G a k n:=by
 intro n
 induction n with
 |zero=>rfl
 |succ n c=>
  funext f s d
  grind[qEc,zOD,zQi,zED]
end
section
variable {Γ:Sig}{P:Program}{G:Nat->Option (List V)}
theorem zYA[Calm Γ](c:P.follows .mixedOrders=Sc)(d:zQN P=Sc){a:vF Γ}(e:qK Γ P G a)(k n:Nat):qK Γ P G (zOD P G a k n):=by
 grind[qFc,zYy]
end
inductive Tr(α:Type) where
 |nil
 |node (v:α) (l r:Tr α)
def zQt{α:Type}:List α->List α
 |[]=>[]
 |[_]=>[]
 |_::y::r=>y::zQt r
def zI2{α:Type}:List α->List α
 |[]=>[]
 |[x]=>[x]
 |x::_::r=>x::zI2 r
def Tr.ofList{α:Type}:Nat->List α->Tr α
 |0,_=>.nil
 |_+1,[]=>.nil
 |n+1,x::r=>.node x (Tr.ofList n (zI2 r)) (Tr.ofList n (zQt r))
def Tr.get{α:Type}:Tr α->Nat->Option α
 |.nil,_=>Sb
 |.node v l r,n=>match Ai n 0 with
  |true=>Sa v
  |false=>match Ai ((n-1)%2) 0 with
   |true=>l.get ((n-1) / 2)
   |false=>r.get ((n-1) / 2)
variable {g:Type}
theorem qBZ:∀(l:List g) (i:Nat),(zI2 l)[i]?=l[2*i]? :=by
 intro l
 induction l using zI2.induct with
 |case1=>intro i;simp[zI2]
 |case2 x=>intro i;cases i with
  |zero=>rfl
  |succ i=>simp[zI2]
 |case3 x y r a=>intro i;cases i with
  |zero=>rfl
  |succ i=>simp only[zI2,bp,a];rw[show 2*(i+1)=2*i+1+1 by omega];simp
theorem qDy:∀(l:List g) (i:Nat),(zQt l)[i]?=l[2*i+1]? :=by
 intro l
 induction l using zQt.induct with
 |case1=>intro i;simp[zQt]
 |case2 x=>intro i;simp[zQt]
 |case3 x y r a=>intro i;cases i with
  |zero=>rfl
  |succ i=>simp only[zQt,bp,a];rw[show 2*(i+1)=2*i+1+1 by omega];simp
theorem qBY:∀(l:List g),(zI2 l).length<=l.length:=by
 intro l
 induction l using zI2.induct with
 |case1=>simp[zI2]
 |case2 x=>simp[zI2]
 |case3 x y r a=>simp[zI2];omega
theorem qDx:∀(l:List g),(zQt l).length<=l.length:=by
 intro l
 induction l using zQt.induct with
 |case1=>simp[zQt]
 |case2 x=>simp[zQt]
 |case3 x y r a=>simp[zQt];omega
theorem Tr.get_ofList:∀(n:Nat) (l:List g) (i:Nat),l.length<=n->(Tr.ofList n l).get i=l[i]? :=by
 intro n
 induction n with
 |zero=>intro l i h;cases l with
  |nil=>rfl
  |cons x l=>simp at h
 |succ n a=>
  intro l i h
  cases l with
  |nil=>simp[Tr.ofList,Tr.get]
  |cons x r=>
   simp only[aH]at h;simp only[Tr.ofList,Tr.get]
   cases i with
   |zero=>rfl
   |succ i=>
    have c:Ai (i+1) 0=false:=rfl;simp only[c,Nat.add_sub_cancel]
    cases hb:Ai (i%2) 0 with
    |true=>
     have:=aL hb;simp only;rw[a _ _ (by have:=qBY r;omega),qBZ,bp,show 2*(i / 2)=i by omega]
    |false=>have:=Nat.ne_of_beq_eq_false hb;simp only;rw[a _ _ (by have:=qDx r;omega),qDy,bp,show 2*(i / 2)+1=i by omega]
def qEW(P:Program)(n:Nat):Tr (Option TypeDesc):=Tr.ofList n ((Ag n).map P.underlying)
def qFD(P:Program)(n:Nat):Tr (Option TypeInfo):=Tr.ofList n ((Ag n).map P.info?)
def qGq(P:Program)(n:Nat):Tr (Option Ty):=Tr.ofList n ((Ag n).map (zUw P))
def qGK(P:Program)(n:Nat):Tr (Option Func):=Tr.ofList n ((Ag n).map (fun f=>P.funcs[f]?))
def zOJ{β:Type}(x:Option β)(y:β):β:=
 match x with
 |some d=>d
 |none=>y
def j6.fast(P:Program)(a c:Nat):j6 where
 P:=P
 und:=fun t=>zOJ ((qEW P a).get t) (P.underlying t)
 inf:=fun t=>zOJ ((qFD P a).get t) (P.info? t)
 fn:=fun t=>zOJ ((qGK P c).get t) P.funcs[t]?
 ty:=fun t=>zOJ ((qGq P a).get t) (zUw P t)
theorem zQI(f:Nat->g)(n t:Nat):zOJ ((Tr.ofList n ((Ag n).map f)).get t) (f t)=f t:=by
 rw[Tr.get_ofList n _ t (by simp)];by_cases h:t<n
 .simp[h,zOJ]
 .rw[bB (by simp;omega)];rfl
theorem j6.fast_eq(P:Program)(a c:Nat):j6.fast P a c=j6.of P:=by
 unfold j6.fast j6.of;congr 1
 .funext t;exact zQI P.underlying a t
 .funext t;exact zQI P.info? a t
 .funext t;exact zQI (fun f=>P.funcs[f]?) c t
 .funext t;exact zQI (zUw P) a t
theorem zBc{Γ:Sig}[Calm Γ]{P:Program}{G:Nat->Option (List V)}(c:P.follows .mixedOrders=Sc)(d:zQN P=Sc){a:vF Γ}(e:qK Γ P G a)(f g k n:Nat):
  qK Γ P G (zOD (j6.fast P f g) G a k n):=by
 rw[j6.fast_eq];exact zYA c d e k n
end Go.Ve
namespace Go.Ve
open Go
abbrev zPq(Γ:Sig):=FuncId->Γ.St->List V->Option (Prop×Γ.St×RV)
open Classical in
def qEy:BinOp->(k:IntKind)->Int->Int->Option Int
 |.and,k,a,b=>Sa (k.wrap (Ae k.bits a&&&Ae k.bits b).toNat)
 |.or,k,a,b=>Sa (k.wrap (Ae k.bits a|||Ae k.bits b).toNat)
 |.xor,k,a,b=>Sa (k.wrap (Ae k.bits a^^^Ae k.bits b).toNat)
 |.andNot,k,a,b=>Sa (k.wrap (Ae k.bits a&&& ~~~ Ae k.bits b).toNat)
 |_,_,_,_=>Sb
section
variable {Γ:Sig}(P:j6)(G:Nat->Option (List V))(S:zPq Γ)
def zS4(k:IntKind)(n:Int):R Γ.St:=.ret (.p (.val (.int k n)))
def zU8(b:Bool):R Γ.St:=.ret (.p (.val (.bool b)))
variable {P G S}
end
section
variable {Γ:Sig}{P:Program}{G:Nat->Option (List V)}{S:zPq Γ}{e:Env Γ.St}{o:Oper}
theorem zJJ{α β:Type}{s:Sem α}{a:α}(h:wK P s=Sa a)(f:α->Sem β):wK P (s>>=f)=wK P (f a):=by
 change wK P (s.bind f)=_
 induction s with
 |pure b=>simp[wK]at h;subst h;rfl
 |program k c=>exact c P h
 |_=>simp[wK]at h
theorem zNm{t:TypeId}{d:TypeDesc}(h:P.underlying t=Sa d):wK P (underlying t)=Sa d:=by
 show wK P (match P.underlying t with | some d => pure d | none => stuck "no such type" : Sem TypeDesc) = _
 rw[h];rfl
theorem zKM{v:Value}(a:o.op.operands.toList.all (fun x=>(yW (evx G e x)).isSome)=Sc)
  (c:wK P (execOp (fun x=>(yW (evx G e x)).getD undef) o)=Sa (.value v)):zAr P G e o=Sa (.ret (.p (V.ofVal v)):R Γ.St):=by
 unfold zAr
 grind
end
end Go.Ve
namespace Go.Ve
open Go
section
variable {β:Type 1}
end
section
variable {Γ:Sig}(P:j6)(G:Nat->Option (List V))(S:zPq Γ)
def Env.lit(e:Env Γ.St)(t:Nat)(b:Bool):Env Γ.St:= { e with tm:=e.tm.set t (.p (.val (.bool b))) }
end
section
variable {Γ:Sig}{P:Program}{G:Nat->Option (List V)}{S:zPq Γ}{e:Env Γ.St}{o:Oper}{K:Env Γ.St->Prop}{ops:Array Oper}
theorem zOR{t:Nat}{b:Bool}(h:e.get t=.p (.val (.bool b))):e.lit t b=e:=by
 obtain⟨c,a,st⟩:=e;simp[Env.lit];refine bT (fun i=>?_)
 grind[Nat.lt_or_ge,List.getElem?_set_self,List.getElem?_eq_getElem,List.getElem?_eq_none,List.getElem?_set_ne,Env.get]
end
def zDS(t c:Ty)(xs:List t.El):Option (List c.El):=if h:t=c then Sa (h▸xs)else Sb
def zZw(t c:Ty)(xs:List t.El)(d:List c.El):Prop:=
 match zDS t c xs with
 |some f=>f=d
 |none=>False
def zVw:Value->Value->Prop
 |.int k n,.int c m=>if k=c then n=m else False
 |.bool a,.bool b=>a=b
 |.string a,.string b=>a=b
 |a,b=>a=b
def zVx{α:Type}(f:α->α->Prop):List α->List α->Prop
 |[],[]=>True
 |x::c,y::d=>f x y/\zVx f c d
 |_,_=>False
def qD3:Nat->V->V->Prop
 |0,x,y=>x=y
 |_+1,.val (.slice Sb 0 0),.tl _ c=>c=[]
 |_+1,.sl [],.tl _ c=>c=[]
 |_+1,.val a,.val b=>zVw a b
 |_+1,.tl t g,.tl h c=>zZw t h g c
 |n+1,.agg d,.agg f=>zVx (qD3 n) d f
 |n+1,.tup d,.tup f=>zVx (qD3 n) d f
 |_+1,x,y=>x=y
def zI1{St:Type}(e:Env St):T->Bool
 |.lp s _=>(e.var s).isSome
 |_=>Sc
theorem u9{t c:Ty}{xs:List t.El}{d:List c.El}(h:zZw t c xs d):∃f:t=c,(f▸xs)=d:=by
 grind[Option.some.injEq,zZw,zDS]
theorem zZv{a b:Value}(h:zVw a b):a=b:=by
 unfold zVw at h
 grind
theorem zOY{f:V->V->Prop}(d:∀x y,f x y->WkV x y):∀(xs c:List V),zVx f xs c->kW xs c
 |[],[],_=>trivial
 |x::xs,y::c,h=>⟨d x y h.1,zOY d xs c h.2⟩
 |[],_::_,h=>h.elim
 |_::_,[],h=>h.elim
theorem WkV.tup{xs ys:List V}(h:kW xs ys):WkV (.tup xs) (.tup ys):=by
 intro w F v hr
 cases hr with
 |tup c k f g=>
  refine .tup c ys (f.trans h.len) ?_;intro i x d j hd;have hlt:i<xs.length:=by grind
  exact h.get i xs[i] d (by simp[hlt]) hd w F x (g i x xs[i] j (by simp[hlt]))
theorem zZu:∀(n:Nat) (x y:V),qD3 n x y->WkV x y:=by
 intro n
 induction n with
 |zero=>intro x y h;cases h;exact .refl _
 |succ n i=>
  intro x y h;unfold qD3 at h;split at h
  .cases ‹_=0›
  .subst h;intro w F v d;rw[Rd.eq_val d];exact .tl _ [] _ (.slemp Sb 0)
  .subst h;intro w F v d;exact .tl _ [] _ d
  .rw[zZv h];exact .refl _
  .obtain⟨j,h⟩:=u9 h;subst j;subst h;exact .refl _
  .rename_i m f g c;cases c;exact WkV.agg (zOY i f g h)
  .rename_i m f g c;cases c;exact WkV.tup (zOY i f g h)
  .subst h;exact .refl _
section
variable {Γ:Sig}{P:Program}{G:Nat->Option (List V)}{w0:World}{F0:Blk->Prop}{O0:x5}{a:Act}{w:World}{e e2:Env Γ.St}
end
structure qHu(St:Type) where
 σ:Type
 get:Env St->Option σ
 env:σ->Env St
 inv:σ->Prop
 mes:σ->Nat
def zRZ:Code->Option Nat
 |.region id _ _=>Sa id
 |.seq a b=>match zRZ a with
  |some n=>Sa n
  |none=>zRZ b
 |.cond _ a b=>match zRZ a with
  |some n=>Sa n
  |none=>zRZ b
 |.block _ a=>zRZ a
 |.loop a=>zRZ a
 |_=>Sb
section
variable {Γ:Sig}(P:j6)(G:Nat->Option (List V))(S:zPq Γ)(A:Nat->Option (qHu Γ.St))
end
section
variable {Γ:Sig}{P:Program}{G:Nat->Option (List V)}{S:zPq Γ}{A:Nat->Option (qHu Γ.St)}
def vJ(P:Program)(G:Nat->Option (List V))(c:Code)(e:Env Γ.St)(k:X)(e1:Env Γ.St):Prop:=
 ∀(w0:World) (F0:Blk->Prop) (O0:x5) (a:Act) (w:World),Inv Γ G w0 F0 O0 a w e->c.wp P (fun d f g=>d=k.toExit/\Inv Γ G w0 F0 O0 f g e1) a w
def qF5(P:Program)(c:Code)(Q:Exit->Act->World->Prop)(a:Act)(w:World):Prop:=
 ∀(b:Frame) (k:List Item) (d:List Frame),∃e f g,Q e f g/\Arrives P (lone (b.at a (.code c:: .inLoop c::k)) d w) b k d e f g
def zEh(P:Program)(G:Nat->Option (List V))(c:Code)(e:Env Γ.St)(k:X)(e1:Env Γ.St):Prop:=
 ∀(w0:World) (F0:Blk->Prop) (O0:x5) (a:Act) (w:World),Inv Γ G w0 F0 O0 a w e->qF5 P c (fun d f g=>d=k.toExit/\Inv Γ G w0 F0 O0 f g e1) a w
theorem vJ.skip(e:Env Γ.St):vJ P G .skip e .normal e:=fun _ _ _ _ _ c=>wp_skip ⟨rfl,c⟩
theorem vJ.exit(id:Nat)(e:Env Γ.St):vJ P G (.exit id) e (.exit id) e:=fun _ _ _ _ _ c=>wp_exit ⟨rfl,c⟩
theorem vJ.ret(e:Env Γ.St):vJ P G .ret e .ret e:=fun _ _ _ _ _ c=>wp_ret ⟨rfl,c⟩
variable {j C:Code}{g l:Env Γ.St}{i:X}
theorem vJ.seqN{e2:Env Γ.St}(d:vJ P G j g .normal l)(f:vJ P G C l i e2):vJ P G (.seq j C) g i e2:=by intro w0 F0 O0 a w y;refine wp_seq (wp_mono (d w0 F0 O0 a w y) ?_);rintro x h e ⟨rfl,c⟩;exact f w0 F0 O0 h e c
theorem vJ.seqX(d:vJ P G j g i l)(y:i≠ .normal):vJ P G (.seq j C) g i l:=by
 intro w0 F0 O0 a w f;refine wp_seq (wp_mono (d w0 F0 O0 a w f) ?_);rintro h e x ⟨rfl,c⟩
 cases i with
 |normal=>grind
 |exit id=>exact⟨rfl,c⟩
 |ret=>exact⟨rfl,c⟩
theorem vJ.condB{c:Operand}{e:Env Γ.St}{b:Bool}(e1:evx G e c=.p (.val (.bool b)))(h:vJ P G (if b then j else C) e i g):vJ P G (.cond c j C) e i g:=by
 intro w0 F0 O0 a w f;have y:=h w0 F0 O0 a w f;obtain⟨F,O,β,x,l,m,n,q,r⟩:=f;have d:=uS (e:=e) l q c;rw[e1]at d
 cases b with
 |true=>exact wp_cond_true (Rd.eq_val d) y
 |false=>exact wp_cond_false (Rd.eq_val d) y
theorem vJ.block{id:Nat}{c:Code}{e e1:Env Γ.St}{k:X}(h:vJ P G c e k e1):vJ P G (.block id c) e (k.out id) e1:=by
 intro w0 F0 O0 a w f;refine wp_block (wp_mono (h w0 F0 O0 a w f) ?_);rintro i j l ⟨rfl,d⟩
 cases k with
 |normal=>exact⟨rfl,d⟩
 |exit g=>
  simp[X.toExit,Exit.inBlock,X.out]
  grind
 |ret=>exact⟨rfl,d⟩
theorem vJ.loop{c:Code}{e e1:Env Γ.St}{k:X}(h:zEh P G c e k e1):vJ P G (.loop c) e k e1:=by intro w0 F0 O0 a w f b g i;obtain⟨j,l,m,hq,d⟩:=h w0 F0 O0 a w f b g i;exact⟨j,l,m,hq,.of_steps (.one step_loop) d⟩
theorem zEh.last(h:vJ P G j g i l)(n:i≠ .normal):zEh P G j g i l:=by
 intro w0 F0 O0 a w c b e1 m;obtain⟨p,e,k,⟨rfl,f⟩,d⟩:=h w0 F0 O0 a w c b (.inLoop j::e1) m
 cases i with
 |normal=>grind
 |exit id=>exact⟨_,e,k,⟨rfl,f⟩,.pass (x:=.inLoop j) rfl (fun _ _=>.inl (by simp[X.toExit])) d⟩
 |ret=>exact⟨_,e,k,⟨rfl,f⟩,.pass (x:=.inLoop j) rfl (fun _ _=>.inl (by simp[X.toExit])) d⟩
theorem zEh.step{e2:Env Γ.St}(h:vJ P G j g .normal l)(n:zEh P G j l i e2):zEh P G j g i e2:=by intro w0 F0 O0 a w p b e1 m;obtain⟨x,q,r,⟨rfl,e⟩,f⟩:=h w0 F0 O0 a w p b (.inLoop j::e1) m;obtain⟨k,t,u,c,d⟩:=n w0 F0 O0 q r e b e1 m;exact⟨k,t,u,c,.of_steps (Steps.trans f (.one step_inLoop)) d⟩
def qGd:RV->RV->Prop
 |.p (.val (.slice Sb 0 0)),.ownT _ c=>c=[]
 |.own [],.ownT _ c=>c=[]
 |.own [],.p (.tl _ c)=>c=[]
 |.ownT t f,.ownT g c=>zZw t g f c
 |.ownT t f,.p (.tl g c)=>zZw t g f c
 |.p d,.p h=>qD3 7 d h
 |_,_=>False
theorem zPP{N:Nat}{w:World}{F:Blk->Prop}{O:Nat->Prop}{v:Value}{r r':RV}(h:qGd r r')(c:zAM N w F O v r):
  ∃F':Blk->Prop,(∀b,F b->F' b)/\(∀x:Blk,x.isB=Sd->(F' x↔F x))/\(∀b:Nat,F' b->F b\/(N<=b/\b<w.heap.size/\¬O b))/\zAM N w F' O v r':=by
 have same:zAM N w F O v r'->∃F':Blk->Prop,(∀b,F b->F' b)/\(∀x:Blk,x.isB=Sd->(F' x↔F x))/\(∀b:Nat,F' b->F b\/(N<=b/\b<w.heap.size/\¬O b))/\zAM N w F' O v r':=
  fun h=>⟨F,fun _ h=>h,fun _ _=>cI,fun _ h=>.inl h,h⟩
 unfold qGd at h;split at h
 .subst h;exact same (.inl ⟨rfl,Sb,Rd.eq_val c⟩)
 .subst h;exact same c
 .subst h;refine same ?_;rcases c with⟨_,f,rfl⟩|⟨h,_⟩
  .exact .tl _ [] _ (.slemp f 0)
  grind
 .grind[u9]
 .obtain⟨i,h⟩:=u9 h;subst i;subst h;rename_i t p;rcases c with⟨j,f,rfl⟩|⟨l,b,m,rfl,q,u,y,z,k,d⟩
  .exact same (.tl _ _ _ (by rw[j];exact .slemp f 0))
  .refine⟨fun g=>F g\/g=Blk.b b,fun _ h=>.inl h,zSN,fun g n=>n.elim .inl (fun h=>by grind),?_⟩;exact .tl _ _ _ (zHu (d.mono (fun _ h=>.inl h) (fun _ _=>rfl) rfl) (fun _ h=>h) (.inr rfl))
 .exact same (zZu 7 _ _ h _ _ _ c)
 .exact h.elim
end
@[reducible] def ElS:List Ty->Type
 |[]=>Unit
 |t::a=>t.El×ElS a
def yF:(ts:List Ty)->ElS ts->List V
 |[],_=>[]
 |t::ts,x=>t.enc x.1::yF ts x.2
def zBv:(ts:List Ty)->List V->Option (ElS ts)
 |[],[]=>Sa ()
 |t::ts,d::a=>match t.dec d with
  |some x=>match zBv ts a with
   |some c=>Sa (x,c)
   |none=>Sb
  |none=>Sb
 |_,_=>Sb
theorem kH:∀(ts:List Ty) (ds:List V) (x:ElS ts),zBv ts ds=Sa x->kW ds (yF ts x)
 |[],[],_,_=>trivial
 |[],_::_,_,h=>by simp[zBv]at h
 |_::_,[],_,h=>by simp[zBv]at h
 |t::ts,d::ds,x,h=>by
  simp only[zBv]at h;split at h
  .rename_i y c;split at h
   .rename_i e a;cases h;exact⟨u5 c,kH ts ds e a⟩
   .cases h
  .cases h
def zGe(P:Program)(f:FuncId):Bool:=
 match P.funcs[f]? with
 | some fn => fn.body.isSome && !(fn.name == "runtime.NumGoroutine")
 |none=>Sd
structure zER(St:Type) where
 ρ:Type
 m:Option ρ
 st:ρ->St
 res:ρ->RV
 pl:Bool
abbrev zU(Γ:Sig):=FuncId->Γ.St->List V->Option (zER Γ.St)
def zU.toS{Γ:Sig}(S:zU Γ):vF Γ:=fun f s a=>
 match S f s a with
 |some c=>c.m.map (fun y=>(c.st y,c.res y))
 |none=>Sb
theorem zIg{Γ:Sig}{S:zU Γ}{f:FuncId}{s:Γ.St}{ds:List V}{c:zER Γ.St}{y:c.ρ}(h:S f s ds=Sa c)(a:c.m=Sa y):S.toS f s ds=Sa (c.st y,c.res y):=by
 grind[zU.toS]
def zK8{ρ:Type}(c:Bool)(x:Option ρ):Option ρ:=
 match c with
 |true=>x
 |false=>Sb
theorem yO{ρ:Type}{c:Bool}{x:Option ρ}{v:ρ}:zK8 c x=Sa v↔c=Sc/\x=Sa v:=by cases c<;>simp[zK8]
def idx{α:Type}(xs:List α)(i:Int):Option α:=if 0<=i then xs[i.toNat]? else Sb
def atN{α:Type}(xs:List α)(i:Nat):Option α:=xs[i]?
def zPl(s:ByteArray)(i:Int):Option Int:=if 0<=i then(s[i.toNat]?).map (fun b=>(b.toNat:Int))else Sb
def sub{α:Type}(xs:List α)(lo hi:Int):Option (List α):=
 if 0<=lo/\lo<=hi/\hi<=xs.length then Sa ((xs.take hi.toNat).drop lo.toNat)else Sb
def app{α:Type}(bytes:Nat)(xs a:List α):Option (List α):=
 if(2*(xs.length+a.length)+1024)*bytes<=0x800000000000 then Sa (xs++a)else Sb
def zBk{α:Type}(bytes:Nat)(n:Int)(x:α):Option (List α):=
 if 0<=n/\n*bytes<=0x800000000000 then Sa (List.replicate n.toNat x)else Sb
abbrev Kx(Γ:Sig)(ρ:Type):=(R Γ.St->Option ρ)->Option ρ
abbrev Kex(Γ:Sig)(ρ:Type):=(Env Γ.St->Option ρ)->Option ρ
def zYQ:Operand->Operand->Bool
 |.tmp a,.tmp b=>Ai a b
 |_,_=>Sd
theorem qBi{a b:Operand}(h:zYQ a b=Sc):a=b:=by
 unfold zYQ at h
 grind[Nat.eq_of_beq_eq_true]
section
variable {Γ:Sig}{ρ:Type}(P:j6)(G:Nat->Option (List V))(S:zU Γ)
def qGG(op:BinOp)(k:IntKind)(a b:Int):Option (Kx Γ ρ):=
 match op with
 |.add=>Sa (fun K=>K (zS4 k (k.wrap (a+b))))
 |.sub=>Sa (fun K=>K (zS4 k (k.wrap (a-b))))
 |.mul=>Sa (fun K=>K (zS4 k (k.wrap (a*b))))
 |.quo=>Sa (fun K=>zK8 (b !=0) (K (zS4 k (k.wrap (a.tdiv b)))))
 |.rem=>Sa (fun K=>zK8 (b !=0) (K (zS4 k (a.tmod b))))
 |.eql=>Sa (fun K=>K (zU8 (a==b)))
 |.neq=>Sa (fun K=>K (zU8 (a !=b)))
 |.lss=>Sa (fun K=>K (zU8 (decide (a<b))))
 |.leq=>Sa (fun K=>K (zU8 (decide (a<=b))))
 |.gtr=>Sa (fun K=>K (zU8 (decide (a>b))))
 |.geq=>Sa (fun K=>K (zU8 (decide (a>=b))))
 |op=>match qEy op k a b with
  |some n=>Sa (fun K=>K (zS4 k n))
  |none=>Sb
def zU0(op:BinOp)(k:IntKind)(a b:Int):Option (Kx Γ ρ):=
 match op with
 |.shl=>Sa (fun K=>zK8 (decide (0<=b)) (K (zS4 k (k.wrap (a*2^min b.toNat k.bits)))))
 |.shr=>Sa (fun K=>zK8 (decide (0<=b)) (K (zS4 k (a.fdiv (2^min b.toNat k.bits)))))
 |_=>Sb
def zPm(d:Option T)(a:Int):Option Int:=
 match d with
 |none=>Sa a
 |some (.p (.val (.int _ i)))=>Sa i
 |_=>Sb
def qGb(b:Bool):Value->Value->Option Value
 |.bool x,.bool y=>Sa (.bool (cond b x y))
 |.int k x,.int a y=>if k=a then Sa (.int k (cond b x y))else Sb
 |_,_=>Sb
def qX(e:Env Γ.St)(o:Oper):Option (Kx Γ ρ):=
 match o.op with
 |.indexAddr t x J=>match evx G e x,evx G e J with
  |.p (.tl B C),.p (.val (.int _ i))=>match P.und t with
   |some (.slice D)=>if wB P D=Sa B.size then
     Sa (fun K=>Aa (idx C i) fun y=>K (.ret (.p (.pp (B.cells y)))))else Sb
   |_=>Sb
  |.ot id B C,.p (.val (.int _ i))=>match P.und t with
   |some (.slice D)=>if wB P D=Sa B.size then
     Sa (fun K=>Aa (idx C i) fun _=>K (.ret (.oet id B C i.toNat 0)))else Sb
   |_=>Sb
  |.on n,.p (.val (.int _ i))=>match P.und t with
   |some (.slice D)=>match n with
    |⟨id,E,B,C,j,H,.s⟩=>if wB P D=Sa 1 then Sa (fun K=>Aa (idx C i) fun _=>K (.ret (.on ⟨id,E,B,C,j,H,.p i.toNat⟩)))else Sb
    |⟨id,E,B,C,j,H,.r⟩=>if wB P D=Sa B.size then Sa (fun K=>Aa (idx H i) fun _=>K (.ret (.on ⟨id,E,B,C,j,H,.q i.toNat 0⟩)))else Sb
    |_=>Sb
   |_=>Sb
  |.p (.hp O),.p (.val (.int _ i))=>match P.und t with
   |some (.array n D)=>match P.ty D with
    |some B=>if wB P D=Sa B.size then
      match B.unxs n O with
      |some C=>Sa (fun K=>Aa (idx C i) fun y=>K (.ret (.p (.hp (B.cells y)))))
      |none=>Sb
     else Sb
    |none=>Sb
   |_=>Sb
  |_,_=>Sb
 |.fieldAddr t x i=>match evx G e x with
  |.p (.pt B o)=>match zID P t i with
   |some f=>match wB P f.type with
    |some (_+1)=>Sa (fun K=>Aa o fun y=>K (.ret (.p (.hp ((B.cells y.2).drop f.offset)))))
    |_=>Sb
   |none=>Sb
  |_=>Sb
 |.nilCheck x=>match evx G e x with
  |.p (.pt B o)=>Sa (fun K=>Aa o fun y=>K (.ret (.p (.pt B (Sa y)))))
  |_=>Sb
 |.load t x=>match evx G e x with
  |.p (.pt B o)=>Sa (fun K=>Aa o fun y=>match ldV P t (B.cells y.2)with
   |some d=>K (.ret (.p d))
   |none=>Sb)
  |.oet _ B C i L=>Sa (fun K=>Aa (atN C i) fun y=>match ldV P t ((B.cells y).drop L)with
   |some d=>K (.ret (.p d))
   |none=>Sb)
  |.on ⟨id,E,B,C,j,H,.p i⟩=>if zGf P t=Sa Sd then Sa (fun K=>zK8 (decide (i=j)) (K (.ret (.on ⟨id,E,B,C,j,H,.r⟩))))else Sb
  |_=>Sb
 |.slice t x M N Q=>match evx G e x,Q with
  |.p (.tl B C),Sb=>match P.und t with
   |some (.slice D)=>if wB P D=Sa B.size then
     match zPm (N.map (evx G e)) C.length with
     |some h=>match zPm (M.map (evx G e)) 0 with
      |some l=>Sa (fun K=>Aa (sub C l h) fun H=>K (.ret (.p (.tl B H))))
      |none=>Sb
     |none=>Sb
    else Sb
   |_=>Sb
  |.ot id B C,Sb=>match P.und t with
   |some (.slice D)=>if wB P D=Sa B.size then
     match zPm (N.map (evx G e)) C.length with
     |some h=>match zPm (M.map (evx G e)) 0 with
      |some l=>Sa (fun K=>zK8 (decide (0<=l)&&decide (l<=h)&&decide (h<=C.length)) (K (.ret (.ov id B C l.toNat h.toNat))))
      |none=>Sb
     |none=>Sb
    else Sb
   |_=>Sb
  |_,_=>Sb
 |.index t x J=>match evx G e x,evx G e J with
  |.p (.val (.string s)),.p (.val (.int _ i))=>match P.und t with
   |some .string=>Sa (fun K=>Aa (zPl s i) fun b=>K (zS4 .u8 b))
   |_=>Sb
  |_,_=>Sb
 |.binOp op t x y _=>match evx G e x,evx G e y with
  |.p (.val (.int k a)),.p (.val (.int W b))=>match op with
   |.shl=>zU0 .shl k a b
   |.shr=>zU0 .shr k a b
   |op=>if k=W then qGG op k a b else Sb
  |.p (.val (.string a)),.p (.val (.string b))=>match op with
   |.eql=>Sa (fun K=>K (zU8 (a==b)))
   |.neq=>Sa (fun K=>K (zU8 (a !=b)))
   |_=>Sb
  |_,_=>Sb
 |.pick c x y=>match evx G e c,yW (evx G e x),yW (evx G e y)with
  |.p (.val (.bool b)),Sa u,Sa v=>match qGb b u v with
   |some z=>Sa (fun K=>K (.ret (.p (.val z))))
   |none=>Sa (fun K=>cond b (K (.ret (.p (V.ofVal u)))) (K (.ret (.p (V.ofVal v)))))
  |_,_,_=>Sb
 |.call c=>match c.callee with
  |.value f=>match evx G e f,zOh G e c.args.toList with
   |.p (.clo g I),Sa Y=>match S g e.st (Y++I)with
    |some F=>if c.args.toList.any (fun x=>(evx G e x).isView)&& !F.pl then Sb else Sa (fun K=>Aa F.m fun y=>
      match c.args.toList.any (fun x=>(evx G e x).isView)with
      |false=>K (.call (F.st y) Sd (F.res y))
      |true=>match(F.res y).plain with
       |true=>K (.call (F.st y) Sc (F.res y))
       |false=>Sb)
    |none=>Sb
   |_,_=>Sb
  |.builtin .append=>match c.args.toList,c.argTypes.toList with
   |[Z,x1],[t0,t1]=>match qFx (evx G e Z),evx G e x1 with
    |some q,.p (.tl t H)=>match P.fn zAq with
     |some _=>Sb
     |none=>match P.und t0,P.und t1 with
      |some (.slice D),Sa (.slice _)=>match P.inf D with
       |some A=>match A.zero with
        |some z=>if t.size=A.size/\1<=A.bytes/\z.cells.size=A.size then
          match S zAq e.st [.bot,q,.tl t H,.val (.int .i64 A.bytes)]with
          |some F=>Sa (fun K=>Aa F.m fun y=>match F.res y with
           |.p d=>K (.call (F.st y) Sd (.p d))
           |_=>Sb)
          |none=>Sb
         else Sb
        |none=>Sb
       |none=>Sb
      |_,_=>Sb
    |_,_=>Sb
   |_,_=>Sb
  |_=>Sb
 |.makeSlice t l c=>match evx G e l,evx G e c with
  |.p (.val (.int .i64 n)),.p (.val (.int .i64 _))=>if zYQ l c then match P.und t with
   |some (.slice D)=>match P.inf D with
    |some A=>match A.zero,P.ty D with
     |some z,Sa B=>match B.dec (V.ofVal1 z)with
      |some x=>if 1<=A.bytes/\(V.ofVal1 z).cells.length=A.size/\A.size≠0/\B.size=A.size then
        Sa (fun K=>Aa (zBk A.bytes n x) fun C=>K (.ownT B C))else Sb
      |none=>Sb
     |_,_=>Sb
    |none=>Sb
   |_=>Sb
   else Sb
  |_,_=>Sb
 |_=>Sb
def qXs(e:Env Γ.St)(o:Oper):Option (Kx Γ ρ):=
 match qX P G S e o with
 |some q=>Sa q
 |none=>match isCall o with
  |true=>Sb
  |false=>match evQ P G S.toS e o with
   |some r=>Sa (fun K=>K r)
   |none=>Sb
end
section
variable {Γ:Sig}{ρ:Type}{P:Program}{G:Nat->Option (List V)}{S:zU Γ}{e:Env Γ.St}{o:Oper}
variable {C:Array Edge}{a2:BinOp}{g:Int}{a6:IntKind}{a3 a1:Operand}{i:Option (Nat×Bool)}{a0:Option Tmp}{I:String}{l j a4:TypeId}{J:vF Γ}
theorem zMq{x:IntKind}{b:Int}{v:Value}(t:evx G e a3=.p (.val (.int a6 g)))(q:evx G e a1=.p (.val (.int x b)))(h:wK P (binOp a2 l (.int a6 g) (.int x b))=Sa v):
  evQ P G J e ⟨a0,.binOp a2 l a3 a1 j,a4,I,C,i⟩=Sa (.ret (.p (V.ofVal v))):=by
 have u:zSi (St:=Γ.St) P a2 l (evx G e a3) (evx G e a1)=none:=by rw[t];rfl
 have z:zZE (St:=Γ.St) P a2 l (evx G e a3) (evx G e a1)=none:=by rw[t];rfl
 have op:zSl (St:=Γ.St) P a2 l (evx G e a3) (evx G e a1)=none:=by rw[t];rfl
 simp only[evQ,u,op,z];refine zKM ?_ ?_
 .simp[Ac,t,q,yW,V.toVal,V.toVal1]
 .have m:(yW (evx G e a3)).getD undef=.int a6 g:=by rw[t];rfl
  have n:(yW (evx G e a1)).getD undef=.int x b:=by rw[q];rfl
  simp only[execOp,m,n];have A:eqGuard a2 l a3 a1 (.int a6 g) (.int x b)=pure ():=by cases a2<;>rfl
  rw[A]
  have B:∀(s:Sem Value),wK P s=Sa v->wK P (do let v<-s;pure (Next.value v))=Sa (.value v):=by
   intro s
   induction s with
   |pure c=>intro d;simp only[wK,ac]at d;subst d;rfl
   |program f r=>intro d;exact r P d
   |_=>intro d;simp[wK]at d
  exact B _ h
theorem zSo{a b:ByteArray}{v:Value}(g:evx G e a3=.p (.val (.string a)))(m:evx G e a1=.p (.val (.string b)))(h:wK P (binOp a2 l (.string a) (.string b))=Sa v):
  evQ P G J e ⟨a0,.binOp a2 l a3 a1 j,a4,I,C,i⟩=Sa (.ret (.p (V.ofVal v))):=by
 have q:zSi (St:=Γ.St) P a2 l (evx G e a3) (evx G e a1)=none:=by rw[g];rfl
 have r:zZE (St:=Γ.St) P a2 l (evx G e a3) (evx G e a1)=none:=by rw[g];rfl
 have t:zSl (St:=Γ.St) P a2 l (evx G e a3) (evx G e a1)=none:=by rw[g];rfl
 simp only[evQ,q,t,r];refine zKM ?_ ?_
 .simp[Ac,g,m,yW,V.toVal,V.toVal1]
 .have k:(yW (evx G e a3)).getD undef=.string a:=by rw[g];rfl
  have op:(yW (evx G e a1)).getD undef=.string b:=by rw[m];rfl
  simp only[execOp,k,op];have u:eqGuard a2 l a3 a1 (.string a) (.string b)=pure ():=by cases a2<;>rfl
  rw[u]
  have z:∀(s:Sem Value),wK P s=Sa v->wK P (do let v<-s;pure (Next.value v))=Sa (.value v):=by
   intro s
   induction s with
   |pure c=>intro d;simp only[wK,ac]at d;subst d;rfl
   |program f A=>intro d;exact A P d
   |_=>intro d;simp[wK]at d
  exact z _ h
theorem zWh(a:ByteArray):∀(n i:Nat) (r:List UInt8),a.size-i=n->ByteArray.toList.loop a i r=r.reverse++a.data.toList.drop i:=by
 intro n
 induction n with
 |zero=>
  intro i r h;unfold ByteArray.toList.loop;have c:a.size=a.data.size:=rfl;rw[if_neg (by omega),dw (by simp;omega),cw]
 |succ n d=>
  intro i r h;unfold ByteArray.toList.loop;have c:a.size=a.data.size:=rfl;rw[if_pos (by omega),d _ _ (by omega)];have hlt:i<a.data.toList.length:=by simp;omega
  rw[List.drop_eq_getElem_cons hlt,List.reverse_cons,cz];congr 1;simp only[dz,dH];congr 1;show a.data[i]! =_
  grind
theorem zM0(a:ByteArray):a.toList=a.data.toList:=by unfold ByteArray.toList;rw[zWh a _ 0 [] rfl];rfl
theorem zUA{a b:ByteArray}:(a==b)=Sc↔a=b:=by
 obtain⟨a⟩:=a;obtain⟨b⟩:=b;show(a==b)=Sc↔_
 grind
instance:LawfulBEq ByteArray where
 eq_of_beq h:=zUA.1 h
 rfl:=zUA.2 rfl
theorem zX3(a b:ByteArray):(a.toList==b.toList)=(a==b):=by
 rw[zM0,zM0];apply df.2;rw[beq_iff_eq,beq_iff_eq];constructor
 .intro h;obtain⟨⟨a⟩⟩:=a;simp_all
 grind
variable {a9:Kx Γ ρ}{a5:R Γ.St->Option ρ}
theorem zZf{b:Int}{v:ρ}(E:evx G e a3=.p (.val (.int a6 g)))(F:evx G e a1=.p (.val (.int a6 b)))(h:qGG a2 a6 g b=Sa a9)(k:a9 a5=Sa v)(H:a2≠ .shl)(x:a2≠ .shr):
  ∃r,evQ P G J e ⟨a0,.binOp a2 l a3 a1 j,a4,I,C,i⟩=Sa r/\a5 r=Sa v:=by
 have op:∀u,wK P (binOp a2 l (.int a6 g) (.int a6 b))=Sa u->a5 (.ret (.p (V.ofVal u)))=Sa v->∃r,evQ P G J e ⟨a0,.binOp a2 l a3 a1 j,a4,I,C,i⟩=Sa r/\a5 r=Sa v:=
  fun v m z=>⟨_,zMq E F m,z⟩
 have d:∀n,wK P (binOp a2 l (.int a6 g) (.int a6 b))=Sa (.int a6 n)->a5 (zS4 a6 n)=Sa v->∃r,evQ P G J e ⟨a0,.binOp a2 l a3 a1 j,a4,I,C,i⟩=Sa r/\a5 r=Sa v:=fun n m z=>op _ m z;have A:∀c,wK P (binOp a2 l (.int a6 g) (.int a6 b))=Sa (.bool c)->a5 (zU8 c)=Sa v->∃r,evQ P G J e ⟨a0,.binOp a2 l a3 a1 j,a4,I,C,i⟩=Sa r/\a5 r=Sa v:=fun n m z=>op _ m z;have B:∀D y:Sem Value,(if a6≠a6 then D else y)=y:=by intro D y;simp
 cases a2<;>simp only[qGG,qEy,ac,reduceCtorEq]at h<;>first|exact absurd rfl H|exact absurd rfl x|skip
 case quo=>
  subst h;obtain⟨t,k⟩:=yO.1 k;have t:b≠0:=by simpa using t
  refine d (a6.wrap (g.tdiv b)) ?_ k;simp only[binOp,B,Op.intDiv,if_neg t];rfl
 case rem=>
  subst h;obtain⟨t,k⟩:=yO.1 k;have t:b≠0:=by simpa using t
  refine d (g.tmod b) ?_ k;simp only[binOp,B,Op.intDiv,if_neg t];rfl
 all_goals
  subst h
  first
   |(refine d _ ?_ k;simp only[binOp,B];rfl)
   |(refine A _ ?_ k;simp only[binOp,B];rfl)
theorem zNb{op:IntKind}{b:Int}{v:ρ}(t:evx G e a3=.p (.val (.int a6 g)))(x:evx G e a1=.p (.val (.int op b)))(h:zU0 a2 a6 g b=Sa a9)(c:a9 a5=Sa v):
  ∃r,evQ P G J e ⟨a0,.binOp a2 l a3 a1 j,a4,I,C,i⟩=Sa r/\a5 r=Sa v:=by
 cases a2<;>simp only[zU0,ac,reduceCtorEq]at h
 case shl=>
  subst h;obtain⟨d,c⟩:=yO.1 c;have d:0<=b:=by simpa using d
  refine⟨_,zMq (v:=.int a6 (a6.wrap (g*2^min b.toNat a6.bits))) t x ?_,c⟩;simp only[binOp,Op.shift];rw[if_neg (by omega)];rfl
 case shr=>
  subst h;obtain⟨d,c⟩:=yO.1 c;have d:0<=b:=by simpa using d
  refine⟨_,zMq (v:=.int a6 (g.fdiv (2^min b.toNat a6.bits))) t x ?_,c⟩;simp only[binOp,Op.shift];rw[if_neg (by omega)];rfl
theorem bind_some{α β:Type}{x:Option α}{f:α->Option β}{v:β}(h:Aa x f=Sa v):∃y,x=Sa y/\f y=Sa v:=by
 cases x with
 |none=>simp at h
 |some y=>grind
theorem zJ1{α:Type}{xs:List α}{y:α}(h:idx xs g=Sa y):0<=g/\xs[g.toNat]?=Sa y:=by
 grind[idx]
theorem zKQ{d:Option T}{a c:Nat}(f:zPm d a=Sa g)(i:0<=g)(h:g<=c):zAZ d a c=Sa g.toNat:=by
 unfold zPm at f;split at f
 .simp only[ac]at f;subst f;rfl
 all_goals simp_all[zAZ]
theorem qDg{q:Kx Γ ρ}{K:R Γ.St->Option ρ}{v:ρ}(h:qX P G S e o=Sa q)(hK:q K=Sa v):∃r,evQ P G S.toS e o=Sa r/\K r=Sa v:=by
 obtain⟨dst,op,type,pos,after,guard⟩:=o;cases op<;>simp only[qX,reduceCtorEq]at h
 case indexAddr t x ix=>
  split at h
  .rename_i ty xs k0 i hx hix;split at h
   .rename_i el hu;split at h
    .rename_i hz;simp only[ac]at h;subst h;obtain⟨y,hy,hK⟩:=bind_some hK;obtain⟨h0,hg⟩:=zJ1 hy;simp_all[evQ,yJ]
    .cases h
   .cases h
  .rename_i id ty xs k0 i hx hix;split at h
   .rename_i el hu;split at h
    .rename_i hz;simp only[ac]at h;subst h;obtain⟨y,hy,hK⟩:=bind_some hK;obtain⟨h0,hg⟩:=zJ1 hy;have hlt:i.toNat<xs.length:=(aa.1 hg).1;simp_all[evQ,yJ]
    .cases h
   .cases h
  .rename_i n k0 i hx hix;split at h
   .rename_i el hu;have hu':P.underlying t=Sa (.slice el):=hu;split at h
    .split at h
     .rename_i hz;simp only[ac]at h;subst h;obtain⟨y,hy,hK⟩:=bind_some hK;obtain⟨h0,hg⟩:=zJ1 hy;have hlt:=(aa.1 hg).1;simp_all[evQ,yJ,zDk]
     .cases h
    .split at h
     .rename_i hz;simp only[ac]at h;subst h;obtain⟨y,hy,hK⟩:=bind_some hK;obtain⟨h0,hg⟩:=zJ1 hy;have hlt:=(aa.1 hg).1;simp_all[evQ,yJ,zDk]
     .cases h
    .cases h
   .cases h
  .rename_i cs k0 i hx hix;split at h
   .rename_i n el hu;split at h
    .rename_i ty hty;split at h
     .rename_i hz;split at h
      .rename_i xs hxs;simp only[ac]at h;subst h;obtain⟨y,hy,hK⟩:=bind_some hK;obtain⟨h0,hg⟩:=zJ1 hy;simp_all[zUw,evQ,yJ,yE]
      .cases h
     .cases h
    .cases h
   .cases h
  .cases h
 case fieldAddr t x i=>
  split at h
  .rename_i ty o hx;split at h
   .rename_i f hf;split at h
    .rename_i z hz;simp only[ac]at h;subst h;obtain⟨y,hy,hK⟩:=bind_some hK
     grind[evQ,zBr,zAH]
    .cases h
   .cases h
  .cases h
 case nilCheck x=>
  split at h
  .rename_i ty o hx;simp only[ac]at h;subst h;obtain⟨y,hy,hK⟩:=bind_some hK
   grind[evQ]
  .cases h
 case load t x=>
  split at h
  .rename_i ty o hx;simp only[ac]at h;subst h;obtain⟨y,hy,hk⟩:=bind_some hK
   grind[evQ,zGZ]
  .rename_i id ty xs i off hx;simp only[ac]at h;subst h;obtain⟨y,hg,h3⟩:=bind_some hK;unfold atN at hg;split at h3;all_goals grind[evQ,zGZ,zIF]
  .rename_i id id2 ty xs j ys i hx;split at h
   .rename_i hagg;simp only[ac]at h;subst h;simp_all[yO,evQ,zGZ,zIF,zQW]
   .cases h
  .cases h
 case slice t x lo hi mx=>
  split at h
  .rename_i ty xs hx;split at h
   .rename_i el hu;split at h
    .rename_i hz;split at h
     .rename_i hN hbh;split at h
      .rename_i lN hbl;simp only[ac]at h;subst h;obtain⟨ys,hys,hK⟩:=bind_some hK;unfold sub at hys;split at hys
       .rename_i hc;simp only[ac]at hys;subst hys;refine⟨_,?_,hK⟩;have hu':P.underlying t=Sa (.slice el):=hu;have hb1:zAZ (hi.map (evx G e)) xs.length xs.length=Sa hN.toNat:=zKQ hbh (by omega) hc.2.2;have hb2:zAZ (lo.map (evx G e)) 0 hN.toNat=Sa lN.toNat:=zKQ hbl hc.1 (by omega);simp_all[evQ,zHY]
       .cases hys
      .cases h
     .cases h
    .cases h
   .cases h
  .rename_i id ty xs hx;split at h
   .rename_i el hu;split at h
    .rename_i hz;split at h
     .rename_i hN hbh;split at h
      .rename_i lN hbl;simp only[ac]at h;subst h;obtain⟨hc,hK⟩:=yO.1 hK;simp only[am,decide_eq_true_eq]at hc;refine⟨_,?_,hK⟩;have hu':P.underlying t=Sa (.slice el):=hu;have hb1:zAZ (hi.map (evx G e)) xs.length xs.length=Sa hN.toNat:=zKQ hbh (by omega) hc.2;have hb2:zAZ (lo.map (evx G e)) 0 hN.toNat=Sa lN.toNat:=zKQ hbl hc.1.1 (by omega);simp_all[evQ,zHZ]
      .cases h
     .cases h
    .cases h
   .cases h
  .cases h
 case index t x ix=>
  split at h
  .rename_i s k0 i hx hix;split at h
   .rename_i hu;simp only[ac]at h;subst h;obtain⟨b,hb,hK⟩:=bind_some hK;unfold zPl at hb;split at hb
    .rename_i h0;simp only[ak]at hb;obtain⟨b0,hg,rfl⟩:=hb;refine⟨_,?_,hK⟩
     have hfl:zAr (St:=Γ.St) P G e ⟨dst,.index t x ix,type,pos,after,guard⟩=Sa (.ret (.p (V.ofVal (.int .u8 b0.toNat)))):=by
      refine zKM ?_ ?_
      .grind[Ac,yW,V.toVal,V.toVal1]
      .have hfx:(yW (evx G e x)).getD undef=.string s:=by rw[hx];rfl
       have hfy:(yW (evx G e ix)).getD undef=.int k0 i:=by rw[hix];rfl
       have hu':P.underlying t=Sa .string:=hu;simp only[execOp,hfx,hfy,Instr.index,asIntOf]
       have hin:wK P (do
         let __x<-pure (k0,i);let __do_lift<-underlying t
         match __do_lift,Value.string s with
          |TypeDesc.array len elem,Value.agg cs=>
           if 0<=__x.snd/\__x.snd< ↑len then do
            let __do_lift<-sizeOf elem
            part elem cs (__x.snd.toNat*__do_lift)
           else boundsPanic __x.fst __x.snd (↑len) BoundsCode.index
          |TypeDesc.string,Value.string s=>
           match if 0<=__x.snd then s[__x.snd.toNat]? else Sb with
           |some b=>pure (Value.int IntKind.u8 ↑b.toNat)
           |none=>boundsPanic __x.fst __x.snd (↑s.size) BoundsCode.index
          | x, x_1 => stuck "Index: array or string expected") = some (Value.int IntKind.u8 ↑b0.toNat) := by
        refine(zJJ (s:=pure (k0,i)) rfl _).trans ?_;refine(zJJ (zNm hu') _).trans ?_;simp only[h0,if_true,hg];rfl
       exact(zJJ hin _).trans rfl
     simp only[evQ];exact hfl
    .cases hb
   .cases h
  .cases h
 case binOp op t x y t'=>
  split at h
  .rename_i k a k' b hx hy;split at h
   .exact zNb hx hy h hK
   .exact zNb hx hy h hK
   .rename_i h1 h2;split at h
    .rename_i hk;subst hk;exact zZf hx hy h hK h1 h2
    .cases h
  .rename_i a b hx hy;split at h
   .simp only[ac]at h;subst h;refine⟨_,zSo (v:=.bool (a==b)) hx hy ?_,hK⟩;simp only[binOp];rw[<-zX3];rfl
   .simp only[ac]at h;subst h;refine⟨_,zSo (v:=.bool (a !=b)) hx hy ?_,hK⟩;simp only[binOp,bne];rw[<-zX3];rfl
   .cases h
  .cases h
 case pick c x y=>
  split at h
  .rename_i b u w hc hx hy;have hall:((⟨dst,.pick c x y,type,pos,after,guard⟩:Oper).op.operands.toList.all (fun x=>(yW (evx G e x)).isSome))=true:=by simp[Ac,hx,hy];rw[hc];rfl
   have hfc:(yW (evx G e c)).getD undef=.bool b:=by rw[hc];rfl
   have hfx:(yW (evx G e x)).getD undef=u:=by rw[hx];rfl
   have hfy:(yW (evx G e y)).getD undef=w:=by rw[hy];rfl
   have hev:evQ P G S.toS e ⟨dst,.pick c x y,type,pos,after,guard⟩=Sa (.ret (.p (V.ofVal (if b then u else w)))):=by simp only[evQ];refine zKM hall ?_;simp only[execOp,hfc,hfx,hfy];cases b<;>rfl
   split at h
   .rename_i z hz;simp only[ac]at h;subst h;refine⟨_,hev,?_⟩
    have:V.ofVal (if b then u else w)=.val z:=by
     unfold qGb at hz;split at hz
     .simp only[ac]at hz;subst hz;cases b<;>rfl
     .split at hz
      .rename_i hk;subst hk;simp only[ac]at hz;subst hz;cases b<;>rfl
      .cases hz
     .cases hz
    grind
   grind
  .cases h
 case call c=>
  split at h
  .rename_i f hcal;split at h
   .rename_i g caps ds hf hds;split at h
    .rename_i cx hS;split at h
     .cases h
     .simp only[ac]at h;subst h;obtain⟨y,hy,hK⟩:=bind_some hK;split at hK
      .rename_i hv;refine⟨_,?_,hK⟩;simp_all[zIg,evQ,zJ7,zN9]
      .rename_i hv;split at hK
       .rename_i hpl;refine⟨_,?_,hK⟩;simp_all[zIg,evQ,zJ7,zN9]
       .cases hK
    .cases h
   .cases h
  .rename_i hcal;split at h
   .rename_i x0 x1 t0 t1 hargs htys;split at h
    .rename_i q t ys hx0 hx1;split at h
     .cases h
     .rename_i hno;split at h
      .rename_i el el1 hu0 hu1;split at h
       .rename_i info hinfo;split at h
        .rename_i z hz;split at h
         .rename_i hok;split at h
          .rename_i cx hS;simp only[ac]at h;subst h;obtain⟨y,hy,hK⟩:=bind_some hK;split at hK;all_goals simp_all[zIg,zAq,evQ,zJ7,zMo]
          .cases h
         .cases h
        .cases h
       .cases h
      .cases h
    .cases h
   .cases h
  .cases h
 case makeSlice t l c=>
  split at h
  .rename_i n m hl hc;split at h
   .rename_i hsame;have hlc:=qBi hsame;subst hlc;rw[hl]at hc;simp only[T.p.injEq,V.val.injEq,Value.int.injEq,true_and]at hc;split at h
    .rename_i el hu;split at h
     .rename_i info hi;split at h
      .rename_i z ty hz hty;split at h
       .rename_i x hx;split at h
        .rename_i hcond;obtain⟨c1,c2,c3,c4⟩:=hcond;simp only[ac]at h;subst h;obtain⟨xs,hxs,hK⟩:=bind_some hK;simp_all[zBk,zUw,V.ofVal1,evQ,zCD]
        .cases h
       .cases h
      .cases h
     .cases h
    .cases h
   .cases h
  .cases h
theorem zKA{v:ρ}(h:qXs P G S e o=Sa a9)(a:a9 a5=Sa v):∃r,evQ P G S.toS e o=Sa r/\a5 r=Sa v:=by
 unfold qXs at h;split at h
 .simp_all[qDg]
 grind
end
section
variable {β:Type}
def kL{α:Type}(f:α->(α->β)->β):List α->(List α->β)->β
 |[],k=>k []
 |x::r,k=>f x (fun x=>kL f r (fun r=>k (x::r)))
def qHf:Value->(Value->β)->β
 |.int q n,k=>k (.int q n)
 |.bool b,k=>k (.bool b)
 |.string s,k=>k (.string s)
 |v,k=>k v
def kV:Nat->V->(V->β)->β
 |0,d,k=>k d
 |_+1,.val v,k=>qHf v (fun v=>k (.val v))
 |n+1,.agg a,k=>kL (kV n) a (fun a=>k (.agg a))
 |n+1,.sl a,k=>kL (kV n) a (fun a=>k (.sl a))
 |n+1,.tup a,k=>kL (kV n) a (fun a=>k (.tup a))
 |n+1,.pp a,k=>kL (kV n) a (fun a=>k (.pp a))
 |n+1,.clo f a,k=>kL (kV n) a (fun a=>k (.clo f a))
 |_+1,.tl t c,k=>k (.tl t c)
 |_+1,.rf o,k=>k (.rf o)
 |_+1,.hd o,k=>k (.hd o)
 |_+1,.pt t o,k=>k (.pt t o)
 |n+1,.hp a,k=>kL (kV n) a (fun a=>k (.hp a))
 |_+1,.bot,k=>k .bot
def kT:T->(T->β)->β
 |.p d,k=>kV 6 d (fun d=>k (.p d))
 |.ow i q c,k=>kL (kV 6) c (fun c=>k (.ow i q c))
 |.oe i q c j a,k=>kL (kV 6) c (fun c=>k (.oe i q c j a))
 |.lp s a,k=>k (.lp s a)
 |.mp i c g,k=>k (.mp i c g)
 |.ot i t f,k=>k (.ot i t f)
 |.oet i t f j a,k=>k (.oet i t f j a)
 |.ov i t f j a,k=>k (.ov i t f j a)
 |.on n,k=>k (.on n)
 |.emp,k=>k .emp
 |.dead,k=>k .dead
def kO:Option (List T)->(Option (List T)->β)->β
 |none,k=>k Sb
 |some a,k=>kL kT a (fun a=>k (Sa a))
def zEC{St:Type}(e:Env St)(k:Env St->β):β:=
 match e with
 |⟨c,a,st⟩=>kL kT c (fun c=>kL kO a (fun a=>k ⟨c,a,st⟩))
def kAt{α:Type}(f:α->(α->β)->β):Nat->List α->(List α->β)->β
 |_,[],k=>k []
 |0,x::r,k=>f x (fun x=>k (x::r))
 |n+1,x::r,k=>kAt f n r (fun r=>k (x::r))
def zMl{St:Type}(d:Nat)(e:Env St)(k:Env St->β):β:=
 match e with
 |⟨c,a,st⟩=>kAt kT d c (fun c=>k ⟨c,a,st⟩)
def kOp{St:Type}(o:Oper)(e:Env St)(k:Env St->β):β:=
 match o.op with
 |.move _|.assign _|.load _ _|.field _ _ _|.fieldAddr _ _ _|.indexAddr _ _ _|.index _ _ _|.binOp _ _ _ _ _|.unOp _ _ _|.convert _ _ _|.pick _ _ _|.extract _ _|.nilCheck _=>match o.dst with
  |some d=>zMl d e k
  |none=>zEC e k
 |.call c=>match c.callee,o.dst with
  |.builtin .len,Sa d=>zMl d e k
  |.builtin .min,Sa d=>zMl d e k
  |.builtin .max,Sa d=>zMl d e k
  |_,_=>zEC e k
 |_=>zEC e k
variable {g:Type}{i:g->(g->β)->β}
theorem qAI(a:∀x k,i x k=k x):∀(l:List g) (k:List g->β),kL i l k=k l:=by
 intro l
 induction l with
 |nil=>intro k;rfl
 |cons x l c=>grind[kL]
theorem qFz(v:Value)(k:Value->β):qHf v k=k v:=by cases v<;>rfl
theorem qHg:∀(n:Nat) (d:V) (k:V->β),kV n d k=k d:=by
 intro n
 induction n with
 |zero=>intro d k;rfl
 |succ n a=>
  intro d k;cases d<;>simp only[kV]
  .exact qFz _ _
  all_goals grind[qAI]
theorem qDK(x:T)(k:T->β):kT x k=k x:=by cases x<;>simp only[kT];all_goals grind[qHg,qAI]
theorem qHh(x:Option (List T))(k:Option (List T)->β):kO x k=k x:=by
 cases x with
 |none=>rfl
 |some a=>grind[qAI,qDK,kO]
theorem yD(e:Env g)(k:Env g->β):zEC e k=k e:=by simp_all[qAI,qDK,qHh,zEC]
theorem qGD(a:∀x k,i x k=k x):∀(n:Nat) (l:List g) (k:List g->β),kAt i n l k=k l:=by
 intro n l
 induction l generalizing n with
 |nil=>intro k;cases n<;>rfl
 |cons x l c=>
  intro k
  cases n with
  |zero=>grind[kAt]
  |succ n=>grind[kAt]
theorem zKE(d:Nat)(e:Env g)(k:Env g->β):zMl d e k=k e:=by simp_all[qGD,qDK,zMl]
theorem zR2(o:Oper)(e:Env g)(k:Env g->β):kOp o e k=k e:=by
 grind[zKE,yD,kOp]
end
structure qA{St:Type}(m:Nat)(e e1:Env St):Prop where
 tl:e1.tm.length=e.tm.length
 vl:e1.vars.length=e.vars.length
 p:∀t d,m.testBit (2*t)=Sd->e.get t=.p d->e1.get t=.p d
 lp:∀t s off,m.testBit (2*t)=Sd->m.testBit (2*s)=Sd->e.get t=.lp s off->e1.get t=.lp s off
 v:∀s (ds:List V),m.testBit (2*s)=Sd->m.testBit (2*s+1)=Sd->e.var s=Sa (ds.map T.p)->e1.var s=Sa (ds.map T.p)
section
variable {St:Type}{e e1 e2:Env St}{m n:Nat}
theorem zBy(m n t:Nat):(m|||n).testBit t=Sd↔m.testBit t=Sd/\n.testBit t=false:=by
 grind
theorem qFY(s t:Nat):(2^s).testBit t=Sd↔t≠s:=by
 grind
theorem zH6(s t:Nat):(2^(2*s)).testBit (2*t)=Sd↔t≠s:=by
 grind
theorem qEz(s t:Nat):(2^(2*s+1)).testBit (2*t+1)=Sd↔t≠s:=by
 grind
theorem qA.refl(e:Env St):qA 0 e e:=⟨rfl,rfl,fun _ _ _ h=>h,fun _ _ _ _ _ h=>h,fun _ _ _ _ h=>h⟩
theorem qA.mono(h:qA m e e1)(a:∀t,n.testBit t=Sd->m.testBit t=Sd):qA n e e1:=
 ⟨h.tl,h.vl,fun t d c=>h.p t d (a _ c),fun t s f c g=>h.lp t s f (a _ c) (a _ g),fun s j g i=>h.v s j (a _ g) (a _ i)⟩
theorem qA.same(h:qA m e e1)(k:qA m e1 e2):qA m e e2:=
 ⟨k.tl.trans h.tl,k.vl.trans h.vl,fun t d a hd=>k.p t d a (h.p t d a hd),fun t s c a f hd=>k.lp t s c a f (h.lp t s c a f hd),fun s i f g hd=>k.v s i f g (h.v s i f g hd)⟩
theorem qA.trans(h:qA m e e1)(k:qA n e1 e2):qA (m|||n) e e2:=
 (h.mono (fun t a=>((zBy m n t).1 a).1)).same (k.mono (fun t a=>((zBy m n t).1 a).2))
def qEK(f:T->T):Prop:=(∀d,f (.p d)=.p d)/\(∀s a,f (.lp s a)=.lp s a)/\f .dead=.dead
theorem zCs{f:T->T}(a:qEK f)(e:Env St):qA 0 e (e.mapT f):=by
 refine⟨by simp[Env.mapT],by simp[Env.mapT],?_,?_,?_⟩
 .intro t d _ h;rw[vN a.2.2,h,a.1]
 .intro t s c _ _ h;rw[vN a.2.2,h,a.2.1]
 .intro s g _ _ h;rw[jF,h];simp[a.1]
theorem zMN(d:Nat)(e:Env St):qA (2^(2*d)) e (e.kill d):=by refine⟨by simp[Env.kill],by simp[Env.kill],?_,?_,?_⟩;all_goals simp_all[zKJ,zH6,zAc,cy,jN]
theorem zUb(e:Env St)(d t:Nat)(x:T)(h:t≠d):({ e with tm:=e.tm.set d x } :Env St).get t=e.get t:=by
 grind[List.getElem?_set_ne,Env.get]
theorem zFS(d:Nat)(x:T)(e:Env St):qA (2^(2*d)) e { e with tm:=e.tm.set d x } :=by
 refine⟨by simp,rfl,?_,?_,?_⟩
 .grind[zUb,zH6]
 .grind[zUb,zH6]
 .intro s a _ _ h;exact h
theorem zOi(s:St)(e:Env St):qA 0 e { e with st:=s } :=⟨rfl,rfl,fun _ _ _ h=>h,fun _ _ _ _ _ h=>h,fun _ _ _ _ h=>h⟩
theorem zV9(e:Env St)(s t:Nat)(x:Option (List T))(h:t≠s):({ e with vars:=e.vars.set s x } :Env St).var t=e.var t:=by
 grind[List.getElem?_set_ne,Env.var]
theorem zSM(s:Nat)(x:Option (List T))(e:Env St):qA (2^(2*s+1)) e { e with vars:=e.vars.set s x } :=by
 refine⟨rfl,by simp,fun _ _ _ h=>h,fun _ _ _ _ _ h=>h,?_⟩
 grind[zV9,qEz]
theorem zP5(s:Nat)(x:Option (List T))(e:Env St):qA (2^(2*s)) e { e with vars:=e.vars.set s x } :=by
 refine⟨rfl,by simp,fun _ _ _ h=>h,fun _ _ _ _ _ h=>h,?_⟩
 grind[zV9,zH6]
def zCP:Option Nat->Nat
 |some d=>2^(2*d)
 |none=>0
theorem zML(e:Env St)(d:Nat)(r:R St):qA (2^(2*d)) e (e.setR d r):=by
 unfold Env.setR;split
 .rename_i a;exact((zP5 d (Sa a) e).same (zFS d (.lp d 0) _)).mono (fun _ h=>h)
 .rename_i st v c;exact((zOi st e).trans (zFS d (rvT d c) _)).mono (fun t h=>by grind)
 .exact zFS d _ e
theorem zAX(e:Env St)(d:Option Nat)(x:T):qA (zCP d) e (e.put d x):=by
 cases d with
 |none=>exact qA.refl e
 |some d=>exact zFS d x e
theorem zIQ{a:Option Tmp}{r:R St}(h:zAt e a r=Sa e1):qA (zCP a) e e1:=by
 unfold zAt at h;split at h
 .rename_i d;split at h
  .split at h
   .cases h;exact(zMN d e).same (zML _ d _)
   .cases h
  .cases h;exact zML e d r
 .split at h
  .cases h;exact qA.refl _
  .cases h;exact zOi _ _
  .cases h
theorem zVW{a:Option Tmp}{r:R St}(h:zMI e a r=Sa e1):qA (zCP a) e e1:=by
 unfold zMI at h;split at h
 .rename_i d;split at h
  .cases h;exact zML e d r
  .cases h
 .split at h
  .cases h;exact qA.refl _
  .cases h;exact zOi _ _
  .cases h
end
def T.bits:T->Nat
 |.lp s _=>2^(2*s)
 |.ow i _ _=>2^(2*i)
 |.oe i _ _ _ _=>2^(2*i)
 |.mp i _ _=>2^(2*i)
 |.ot i _ _=>2^(2*i)
 |.oet i _ _ _ _=>2^(2*i)
 |.ov i _ _ _ _=>2^(2*i)
 |.on n=>2^(2*n.id)
 |_=>0
def zT9(i:Nat):Nat:=
 match Ai i jV with
 |true=>0
 |false=>2^(2*i)
def T.fbits:T->Nat
 |.lp s _=>2^(2*s)
 |.ow i _ _=>zT9 i
 |.oe i _ _ _ _=>zT9 i
 |.mp i _ _=>zT9 i
 |.ot i _ _=>zT9 i
 |.oet i _ _ _ _=>zT9 i
 |.ov i _ _ _ _=>zT9 i
 |_=>0
section
variable {Γ:Sig}(G:Nat->Option (List V))
def kE(e:Env Γ.St)(o:Oper):Nat:=
 zCP o.dst|||match o.op with
 |.store _ a _=>match evx G e a with
  |.lp s _=>2^(2*s+1)
  |_=>0
 |.call c=>match c.callee,c.args.toList with
  |.builtin .append,x::_=>(evx G e x).bits
  |_,_=>0
 |_=>0
def zLL:List Operand->Env Γ.St->Nat
 |[],_=>0
 |x::r,e=>(evx G e x).fbits|||zLL r (frzT1 (evx G e x) e)
end
section
variable {Γ:Sig}{P:j6}{G:Nat->Option (List V)}{e e1:Env Γ.St}{o:Oper}
theorem qBV(id:Nat):qEK (zCC id):=⟨fun _=>rfl,fun _ _=>rfl,rfl⟩
theorem zCH(id:Nat)(e:Env Γ.St):qA 0 e (frzOE id e):=by
 grind[qA.refl,zCs,qBV,frzOE]
theorem zGr:∀(cs:List T) (e:Env Γ.St),qA 0 e (frzCells e cs):=by
 intro cs
 induction cs with
 |nil=>intro e;exact qA.refl e
 |cons x r a=>
  intro e;cases x<;>simp only[frzCells]<;>first|exact a e|exact(zCH _ e).same (a _)
theorem zZ7(s:Nat)(ds:List V)(e:Env Γ.St):qA (2^(2*s)) e (e.frzV s ds):=by
 unfold Env.frzV;refine(zP5 s Sb e).same ?_;refine⟨by simp[Env.mapT],by simp[Env.mapT],?_,?_,?_⟩
 .intro t d _ h;rw[vN rfl,h];rfl
 .intro t c a _ f h;rw[vN rfl,h];simp_all[zH6,zPL]
 simp_all[jF,cy,zPL]
theorem zYk(x:T)(e:Env Γ.St):qA x.fbits e (frzT1 x e):=by
 have z:∀{m:Nat} {e e1:Env Γ.St},qA 0 e e1->qA m e e1:=fun h=>h.mono (fun t _=>by simp);unfold frzT1;split
 .exact z (zCH _ e)
 .exact z (zCH _ e)
 .exact z (zCH _ e)
 .rename_i s a;split
  .split
   .split
    .exact(z (zGr _ e)).same (zZ7 s _ _)
    grind[zGr]
   grind[zGr]
  .exact z (qA.refl e)
 .exact z (qA.refl e)
theorem zFK:∀(xs:List Operand) (e:Env Γ.St),qA (zLL G xs e) e (frzOps G xs e):=by
 intro xs
 induction xs with
 |nil=>intro e;exact qA.refl e
 |cons x r a=>intro e;exact(zYk _ e).trans (a _)
theorem zUE(h:evW P G e o=Sa e1):qA (kE G e o) e e1:=by
 have z:∀{m:Nat} {e e1:Env Γ.St},qA 0 e e1->qA m e e1:=fun h=>h.mono (fun t _=>by simp);obtain⟨B,op,C,E,q,guard⟩:=o;cases op<;>simp only[evW,reduceCtorEq]at h
 case store t Z x=>
  split at h
  .cases h
  .split at h
   .rename_i s K L;unfold zHX at h;split at h
    .split at h
     .cases h;refine(zSM s _ e).mono ?_
      grind[zBy,kE]
     .cases h
    .cases h
   .split at h
    .unfold zEF at h;split at h
     .split at h
      .cases h;exact z (zCs ⟨fun _=>rfl,fun _ _=>rfl,rfl⟩ e)
      .cases h
     .cases h
    .cases h
   .split at h
    .unfold zGj at h;split at h
     .split at h
      .split at h
       .cases h;exact z (zCs ⟨fun _=>rfl,fun _ _=>rfl,rfl⟩ e)
       .cases h
      .cases h
     .cases h
    .unfold zEc at h;split at h
     .split at h
      .cases h;exact z (zCs ⟨fun _=>rfl,fun _ _=>rfl,rfl⟩ e)
      .cases h
     .cases h
    .cases h
   .split at h
    .unfold zDj at h;split at h
     .split at h
      .split at h
       .split at h
        .cases h;exact z (zCs ⟨fun _=>rfl,fun _ _=>rfl,rfl⟩ e)
        .cases h
       .cases h
      .cases h
     .cases h
    .cases h
   .cases h
 case call c=>
  have r:∀(u j:Operand) (d id:Nat) (y:T),c.callee=.builtin .append->c.args.toList=[u,j]->B=Sa d->(id=d\/(evx G e u).bits=2^(2*id))->
    qA (kE G e ⟨B,.call c,C,E,q,guard⟩) e { (e.kill id)with tm:=(e.kill id).tm.set d y } :=by
   intro u j d id y M N O hid;have Q:=(zMN id e).trans (zFS d y (e.kill id));refine Q.mono ?_;intro t S;simp[kE,M,N,O,zCP]at S
   grind
  split at h
  .rename_i e2 a;simp at h;subst h;unfold uH at a;split at a
   .rename_i u j H I d i f l;split at a
    .split at a
     .split at a
      .split at a
       .rename_i nm J g;split at a
        .split at a
         .simp at a;subst a;refine r u j d _ _ i f rfl ?_;unfold zXN at g;split at g
          .grind
          .grind
          .rename_i A;split at g
           .simp at g;rw[<-g.1,A];exact .inr rfl
           .cases g
          .cases g
         .cases a
        .cases a
       .cases a
      .cases a
     .cases a
    .cases a
   .cases a
  .split at h
   .rename_i e2 a;simp at h;subst h;unfold yP at a;split at a
    .rename_i p j H I d i f l _;split at a
     .split at a
      .split at a
       .split at a
        .rename_i id W J Y vA;split at a
         .cases a
         .split at a
          .split at a
           .split at a
            .simp at a;subst a;refine r (.tmp p) j d _ _ i f rfl (.inr ?_);have:evx G e (.tmp p)=.ov id W J 0 Y:=vA;rw[this];rfl
            .cases a
           .cases a
          .cases a
        .cases a
       .cases a
      .cases a
     .cases a
    .cases a
   .unfold zBs kN at h;split at h
    .rename_i u j H I d i f l F D;split at h
     .split at h
      .split at h
       .split at h
        .split at h
         .rename_i id k es A;split at h
          .simp at h;subst h;exact r u j d _ _ i f rfl (.inr (by rw[A];rfl))
          .cases h
         .split at h
          .split at h
           .cases h
           .cases h
           .split at h
            .cases h;refine(zAX e (Sa d) _).mono ?_
             grind[zBy,kE]
            grind
          .cases h
        .cases h
       .cases h
      .cases h
     .cases h
    .cases h
 case mapUpdate t m k v=>
  split at h
  .cases h
  .split at h
   .unfold zUi at h;split at h
    .cases h;exact z (zCs ⟨fun _=>rfl,fun _ _=>rfl,rfl⟩ e)
    .cases h
   .cases h
end
section
variable {St:Type}
def form(e:Env St)(f:T->T)(V:List (Option (List T)))(a:Option Nat)(y:T)(st:St):Env St:=
 ⟨match a with
  |some d=>(e.tm.map f).set d y
  |none=>e.tm.map f,V,st⟩
structure yY(m:Nat)(f:T->T):Prop where
 p:∀d,f (.p d)=.p d
 dead:f .dead=.dead
 lp:∀s off,m.testBit (2*s)=Sd->f (.lp s off)=.lp s off
theorem yY.id(m:Nat):yY m (fun x=>x):=⟨fun _=>rfl,rfl,fun _ _ _=>rfl⟩
theorem yY.mono{m n:Nat}{f:T->T}(h:yY m f)(c:∀t,n.testBit t=Sd->m.testBit t=Sd):yY n f:=
 ⟨h.p,h.dead,fun s a d=>h.lp s a (c _ d)⟩
theorem yY.kill(d:Nat):yY (2^(2*d)) (jN d):=
 ⟨fun _=>rfl,rfl,fun s a c=>by simp_all[zH6,jN]⟩
structure zCa(e b:Env St):Prop where
 vars:e.vars=b.vars
 st:e.st=b.st
 len:e.tm.length=b.tm.length
theorem zCa.var{e b:Env St}(h:zCa e b)(s:Nat):e.var s=b.var s:=by simp[Env.var,h.vars]
theorem qFJ(e b:Env St)(h:zCa e b)(y:T):form e (fun x=>x) b.vars Sb y b.st=e:=by obtain⟨a,vars,st⟩:=e;have c:=h.vars;have d:=h.st;simp_all[form]
theorem zYc{b b1:Env St}{i:Option Tmp}{r:R St}(h:zAt b i r=Sa b1):
  ∃f V y st,yY (zCP i) f/\∀e,zCa e b->zAt e i r=Sa (form e f V i y st):=by
 unfold zAt at h;split at h
 .rename_i d;split at h
  .rename_i l;split at h
   .rename_i hlt
    have g:∀(V:List (Option (List T))->List (Option (List T))) (y:T) (st:St->St),(∀e:Env St,(e.kill d).setR d (zPH d r)=⟨(e.tm.map (jN d)).set d y,V e.vars,st e.st⟩)->
      ∃f V y st,yY (zCP (Sa d)) f/\∀e,zCa e b->zAt e (Sa d) r=Sa (form e f V (Sa d) y st):=by
     intro V y st m;refine⟨jN d,V b.vars,y,st b.st,yY.kill d,?_⟩;intro e j;simp only[zAt,l,if_true];rw[if_pos (by rw[j.vars];exact hlt),m e,j.vars,j.st];rfl
    cases r with
    |var p=>exact g (fun a=>((a.set d Sb).map (fun c=>c.map (Ab (jN d)))).set d (Sa (p.map (jN d)))) (.lp d 0) (fun s=>s) (fun e=>rfl)
    |call st v n=>exact g (fun a=>(a.set d Sb).map (fun c=>c.map (Ab (jN d)))) (rvT d n) (fun _=>st) (fun e=>rfl)
    |ret x=>exact g (fun a=>(a.set d Sb).map (fun c=>c.map (Ab (jN d)))) _ (fun s=>s) (fun e=>rfl)
    |own k q=>exact g (fun a=>(a.set d Sb).map (fun c=>c.map (Ab (jN d)))) _ (fun s=>s) (fun e=>rfl)
    |frz q=>exact g (fun a=>(a.set d Sb).map (fun c=>c.map (Ab (jN d)))) _ (fun s=>s) (fun e=>rfl)
    |mk=>exact g (fun a=>(a.set d Sb).map (fun c=>c.map (Ab (jN d)))) _ (fun s=>s) (fun e=>rfl)
    |frzT t u=>exact g (fun a=>(a.set d Sb).map (fun c=>c.map (Ab (jN d)))) _ (fun s=>s) (fun e=>rfl)
    |ownT t u=>exact g (fun a=>(a.set d Sb).map (fun c=>c.map (Ab (jN d)))) _ (fun s=>s) (fun e=>rfl)
   .cases h
  .rename_i l
   have g:∀(y:T) (st:St->St),(∀e:Env St,e.setR d r=⟨e.tm.set d y,e.vars,st e.st⟩)->
     ∃f V y st,yY (zCP (Sa d)) f/\∀e,zCa e b->zAt e (Sa d) r=Sa (form e f V (Sa d) y st):=by
    intro y st m;refine⟨fun x=>x,b.vars,y,st b.st,yY.id _,?_⟩;intro e j;simp only[zAt,l];rw[m e,<-j.vars,<-j.st];simp[form]
   cases r with
   |ret x=>exact g _ (fun s=>s) (fun e=>rfl)
   |call st v n=>exact g (rvT d n) (fun _=>st) (fun e=>rfl)
   |_=>exact absurd rfl l
 .split at h
  .exact⟨fun x=>x,b.vars,.dead,b.st,yY.id _,fun e j=>by grind[qFJ,zAt]⟩
  .rename_i st v x;refine⟨fun x=>x,b.vars,.dead,st,yY.id _,fun e j=>?_⟩;simp only[zAt,<-j.vars];simp[form]
  .cases h
end
section
variable {Γ:Sig}{P:j6}{G:Nat->Option (List V)}{S:vF Γ}{b b1:Env Γ.St}{o:Oper}
structure zPr(G:Nat->Option (List V))(e b:Env Γ.St)(o:Oper):Prop where
 al:zCa e b
 ops:∀x,x∈o.op.operands->evx G e x=evx G b x
theorem zUl(h:zLa P G S b o=Sa b1):∃f V y st,yY (kE G b o) f/\∀e,zPr G e b o->zLa P G S e o=Sa (form e f V o.dst y st):=by
 unfold zLa at h;split at h
 .rename_i r c;obtain⟨f,V,y,st,d,g⟩:=zYc h;refine⟨f,V,y,st,d.mono (fun t j=>by grind[zBy,kE]),fun e a=>?_⟩;have:evQ P G S e o=Sa r:=by rw[<-c];exact zO4 a.ops (fun x _ s i _=>a.al.var s) a.al.st
  simp[zLa,this,g e a.al]
 .cases h
theorem zHR(f:T->T){e b:Env Γ.St}(h:zCa e b)(y:T):e.mapT f=form e f (b.vars.map (fun c=>c.map (Ab f))) Sb y b.st:=by simp[Env.mapT,form,h.vars,h.st]
theorem zFA{e b:Env Γ.St}(h:zCa e b)(id d:Nat)(y:T):
  ({ (e.kill id)with tm:=(e.kill id).tm.set d y } :Env Γ.St)=form e (jN id) ((b.vars.set id Sb).map (fun c=>c.map (Ab (jN id)))) (Sa d) y b.st:=by
 simp[Env.kill,form,h.vars,h.st]
theorem qD8(h:evW P G b o=Sa b1):∃f V y st,yY (kE G b o) f/\∀e,zPr G e b o->evW P G e o=Sa (form e f V o.dst y st):=by
 obtain⟨E,op,C,J,A,guard⟩:=o;cases op<;>simp only[evW,reduceCtorEq]at h
 case store t ap x=>
  have W:∀e,zPr G e b ⟨E,.store t ap x,C,J,A,guard⟩->evx G e ap=evx G b ap:=fun e g=>g.ops ap (by simp[Ac]);have hx:∀e,zPr G e b ⟨E,.store t ap x,C,J,A,guard⟩->evx G e x=evx G b x:=fun e g=>g.ops x (by simp[Ac]);split at h
  .cases h
  .split at h
   .rename_i s Q hp;unfold zHX at h;split at h
    .rename_i cs xs a3 a4;split at h
     .rename_i M;refine⟨fun x=>x,b.vars.set s (Sa (zCX cs Q xs)),.dead,b.st,yY.id _,fun e g=>?_⟩;have hv:e.var s=Sa cs:=by rw[g.al.var];exact a3
      simp only[evW,W e g,hp,hx e g,zHX,hv,a4];rw[if_pos ⟨M.1,M.2.1,by rw[g.al.vars];exact M.2.2⟩,g.al.vars,g.al.st];simp[form]
     .cases h
    .cases h
   .rename_i id k es i Q hp;split at h
    .rename_i d hd;unfold zEF at h;split at h
     .rename_i q hq;split at h
      .rename_i M;refine⟨zG7 id k i (zBV q (wV q.cells Q d.cells)),b.vars.map (fun c=>c.map (Ab (zG7 id k i (zBV q (wV q.cells Q d.cells))))),.dead,b.st,⟨fun _=>rfl,rfl,fun _ _ _=>rfl⟩,fun e g=>?_⟩;simp only[evW,W e g,hp,hx e g,hd,zEF,hq];rw[if_pos M,zHR (zG7 id k i _) g.al .dead]
      .cases h
     .cases h
    .cases h
   .rename_i id ty xs i Q hp;split at h
    .rename_i d hd;unfold zGj at h;split at h
     .rename_i M;split at h
      .rename_i I ad;split at h
       .rename_i y0 ag;refine⟨zIT id ty i y0,b.vars.map (fun c=>c.map (Ab (zIT id ty i y0))),.dead,b.st,⟨fun _=>rfl,rfl,fun _ _ _=>rfl⟩,fun e g=>?_⟩;simp only[evW,W e g,hp,hx e g,hd,zGj,ad,ag];rw[if_pos M,zHR (zIT id ty i y0) g.al .dead]
       .cases h
      .cases h
     .cases h
    .rename_i K t2 ys hd;unfold zEc at h;split at h
     .rename_i t3;split at h
      .rename_i M;refine⟨zYr id K t2 i ys,b.vars.map (fun c=>c.map (Ab (zYr id K t2 i ys))),.dead,b.st,⟨fun _=>rfl,rfl,fun _ _ _=>rfl⟩,fun e g=>?_⟩;simp only[evW,W e g,hp,hx e g,hd,zEc];rw[if_pos M,zHR (zYr id K t2 i ys) g.al .dead]
      .cases h
     .cases h
    .cases h
   .rename_i n hp;split at h
    .rename_i d hd;obtain⟨id,K,ty,xs,j,ys,mm⟩:=n
     cases mm with
     |q k Q=>
      simp only[zDj]at h;split at h
      .rename_i M;split at h
       .rename_i I ad;split at h
        .rename_i y0 ag;refine⟨zYs id K ty k y0,b.vars.map (fun c=>c.map (Ab (zYs id K ty k y0))),.dead,b.st,⟨fun _=>rfl,rfl,fun _ _ _=>rfl⟩,fun e g=>?_⟩;simp only[evW,W e g,hp,hx e g,hd,zDj,ad,ag];rw[if_pos M,zHR (zYs id K ty k y0) g.al .dead]
        .cases h
       .cases h
      .cases h
     |_=>simp[zDj]at h
    .cases h
   .cases h
 case call c=>
  have u:∀e,zPr G e b ⟨E,.call c,C,J,A,guard⟩->∀x,x∈c.args.toList->evx G e x=evx G b x:=by intro e g x hx;exact g.ops x (by grind[Array.mem_append_right,Ac,Call.operands])
  have bits:∀(I D:Operand) (d id:Nat),c.callee=.builtin .append->c.args.toList=[I,D]->E=Sa d->(id=d\/(evx G b I).bits=2^(2*id))->
    yY (kE G b ⟨E,.call c,C,J,A,guard⟩) (jN id):=by
   intro I D d id M ha hd hid;refine(yY.kill id).mono ?_;intro t ht;simp[kE,M,ha,hd,zCP]at ht
   grind
  have hT:∀e,zPr G e b ⟨E,.call c,C,J,A,guard⟩->uH P G b E c=Sb->uH P G e E c=none:=by
   intro e g hn;unfold uH at hn ⊢;split
   .rename_i I D t0 t1 d B l F;have h0:evx G e I=evx G b I:=u e g I (by rw[l];simp);have h1:evx G e D=evx G b D:=u e g D (by rw[l];simp);simp only[B,l,F]at hn;rw[h0,h1]
    repeat' split at hn
    all_goals first|cases hn|skip
    all_goals simp_all
   .rfl
  have hV:∀e,zPr G e b ⟨E,.call c,C,J,A,guard⟩->yP P G b E c=Sb->yP P G e E c=none:=by
   intro e g hn;unfold yP at hn ⊢;split
   .rename_i p D t0 t1 d B l F;have h0:e.get p=b.get p:=u e g (.tmp p) (by rw[l];simp);have h1:evx G e D=evx G b D:=u e g D (by rw[l];simp);simp only[B,l,F]at hn;rw[h0,h1]
    repeat' split at hn
    all_goals first|cases hn|skip
    all_goals simp_all
   .rfl
  split at h
  .rename_i e2 a;simp at h;subst h;unfold uH at a;split at a
   .rename_i I D t0 t1 d B l F;split at a
    .rename_i el a0 an ao;split at a
     .rename_i N L;split at a
      .rename_i z t ys hz ab;split at a
       .rename_i nm xs H;split at a
        .rename_i a1;split at a
         .rename_i Y;refine⟨jN (nm.getD d),((b.vars.set (nm.getD d) Sb).map (fun c=>c.map (Ab (jN (nm.getD d))))),.ot (nm.getD d) t (xs++ys),b.st,bits I D d _ B l rfl ?_,fun e g=>?_⟩
          .unfold zXN at H;split at H
           .grind
           .grind
           .rename_i av;split at H
            .simp at H;rw[<-H.1,av];exact .inr rfl
            .cases H
           .cases H
          .have h0:evx G e I=evx G b I:=u e g I (by rw[l];simp);have h1:evx G e D=evx G b D:=u e g D (by rw[l];simp);have:uH P G e (Sa d) c=Sa { (e.kill (nm.getD d))with tm:=(e.kill (nm.getD d)).tm.set d (.ot (nm.getD d) t (xs++ys)) } :=by simp_all[uH]
           simp only[evW,this];rw[zFA g.al]
         .cases a
        .cases a
       .cases a
      .cases a
     .cases a
    .cases a
   .cases a
  .rename_i O;split at h
   .rename_i e2 a;simp at h;subst h;unfold yP at a;split at a
    .rename_i p D t0 t1 d B l F;split at a
     .rename_i el a0 an ao;split at a
      .rename_i N L;split at a
       .rename_i z t y ys hz ab;split at a
        .rename_i id t' xs hi vA;split at a
         .cases a
         .rename_i a9;split at a
          .rename_i a5;subst a5;split at a
           .rename_i a1;split at a
            .rename_i Y;refine⟨jN id,((b.vars.set (id) Sb).map (fun c=>c.map (Ab (jN (id))))),.ot id t' (List.take hi xs++y::ys),b.st,bits (.tmp p) D d _ B l rfl (.inr ?_),fun e g=>?_⟩
             .have:evx G b (.tmp p)=.ov id t' xs 0 hi:=vA;rw[this];rfl
             .have h0:e.get p=b.get p:=u e g (.tmp p) (by rw[l];simp);have h1:evx G e D=evx G b D:=u e g D (by rw[l];simp)
              have:yP P G e (Sa d) c=Sa { (e.kill id)with tm:=(e.kill id).tm.set d (.ot id t' (List.take hi xs++y::ys)) } :=by
               simp only[yP,B,l,F,an,ao,L,hz,h0,h1,ab,vA]
               grind
              simp only[evW,hT e g O,this];rw[zFA g.al]
            .cases a
           .cases a
          .cases a
        .cases a
       .cases a
      .cases a
     .cases a
    .cases a
   .rename_i Z;unfold zBs kN at h;split at h
    .rename_i I D t0 t1 d B l F;split at h
     .rename_i el a0 an ao;split at h
      .rename_i N L;split at h
       .rename_i z a2 hz a6;split at h
        .rename_i a1;have h0:∀e,zPr G e b ⟨Sa d,.call c,C,J,A,guard⟩->evx G e I=evx G b I:=fun e g=>u e g I (by rw[l];simp);have h1:∀e,zPr G e b ⟨Sa d,.call c,C,J,A,guard⟩->evx G e D=evx G b D:=fun e g=>u e g D (by rw[l];simp);split at h
         .rename_i id k es av;split at h
          .rename_i M;refine⟨jN id,((b.vars.set (id) Sb).map (fun c=>c.map (Ab (jN (id))))),.ow id k (es++a2),b.st,bits I D d _ B l rfl (.inr (by rw[av];rfl)),fun e g=>?_⟩;have:zBs P G e (Sa d) c=Sa { (e.kill id)with tm:=(e.kill id).tm.set d (.ow id k (es++a2)) } :=by simp_all[zBs,kN]
           simp only[evW,hT e g O,hV e g Z,this];rw[zFA g.al]
          .cases h
         .split at h
          .split at h
           .cases h
           .cases h
           .split at h
            .refine⟨fun x=>x,b.vars,evx G b I,b.st,yY.id _,fun e g=>?_⟩;have:zBs P G e (Sa d) c=Sa (e.put (Sa d) (evx G b I)):=by simp_all[zBs,kN]
             simp only[evW,hT e g O,hV e g Z,this];simp only[Env.put,form,<-g.al.vars,<-g.al.st];simp
            .rename_i q r;split at h
             .rename_i Y;refine⟨jN d,((b.vars.set (d) Sb).map (fun c=>c.map (Ab (jN (d))))),.ow d N.size (q::r),b.st,bits I D d d B l rfl (.inl rfl),fun e g=>?_⟩;have:zBs P G e (Sa d) c=Sa { (e.kill d)with tm:=(e.kill d).tm.set d (.ow d N.size (q::r)) } :=by simp_all[zBs,kN]
              simp only[evW,hT e g O,hV e g Z,this];rw[zFA g.al]
             .cases h
          .cases h
        .cases h
       .cases h
      .cases h
     .cases h
    .cases h
 case mapUpdate t m k v=>
  split at h
  .cases h
  .split at h
   .rename_i id es ck k0 v0 hm hk hv;unfold zUi at h;split at h
    .rename_i ax ay hu;refine⟨qA6 id ax ay,b.vars.map (fun c=>c.map (Ab (qA6 id ax ay))),.dead,b.st,⟨fun _=>rfl,rfl,fun _ _ _=>rfl⟩,fun e g=>?_⟩;have h0:evx G e m=evx G b m:=g.ops m (by simp[Ac]);have h1:evx G e k=evx G b k:=g.ops k (by simp[Ac]);have h2:evx G e v=evx G b v:=g.ops v (by simp[Ac]);simp only[evW,h0,h1,h2,hm,hk,hv,zUi,hu];rw[zHR (qA6 id ax ay) g.al .dead]
    .cases h
   .cases h
end
inductive FV where
 |c (x:T)
 |a (s:Nat)
structure Fl where
 i:Nat
 d:Nat
 v:FV
section
variable {St:Type}
def Fl.val(q:Fl)(e:Env St):T:=
 match q.v with
 |.c x=>x
 |.a s=>e.get s
def zFr(e:Env St)(q:Fl):Env St:= { e with tm:=e.tm.set q.d (q.val e) }
def kA(e:Env St)(L:List Fl):Env St:=L.foldl zFr e
structure zLj(n:Nat)(L:List Fl):Prop where
 dist:L.Pairwise (fun p q=>p.d≠q.d)
 lt:∀q,q∈L->q.d<n
 src:∀q,q∈L->∀s,q.v=.a s->∀p,p∈L->s≠p.d
theorem zLj.filter{n:Nat}{L:List Fl}(h:zLj n L)(p:Fl->Bool):zLj n (L.filter p):=
 ⟨h.dist.filter _,fun q hq=>h.lt q (aU.1 hq).1,fun q hq s a p hp=>h.src q (aU.1 hq).1 s a p (aU.1 hp).1⟩
theorem zRC(e:Env St)(q:Fl):(zFr e q).tm.length=e.tm.length:=by simp[zFr]
theorem zHH:∀(L:List Fl) (e:Env St),(kA e L).tm.length=e.tm.length:=by
 intro L
 induction L with
 |nil=>intro e;rfl
 |cons q L a=>intro e;exact(a (zFr e q)).trans (zRC e q)
theorem zKB:∀(L:List Fl) (e:Env St),(kA e L).vars=e.vars/\(kA e L).st=e.st:=by
 intro L
 induction L with
 |nil=>intro e;exact⟨rfl,rfl⟩
 |cons q L a=>intro e;exact a (zFr e q)
theorem zBh(L:List Fl)(e:Env St):zCa (kA e L) e:=⟨(zKB L e).1,(zKB L e).2,zHH L e⟩
theorem zNP(e:Env St)(q:Fl)(t:Nat):(zFr e q).get t=if t=q.d/\q.d<e.tm.length then q.val e else e.get t:=yZ e q.d t (q.val e)
theorem zB1:∀(L:List Fl) (e:Env St) (n:Nat),zLj n L->n<=e.tm.length->(∀t,(∀q,q∈L->t≠q.d)->(kA e L).get t=e.get t)/\(∀q,q∈L->(kA e L).get q.d=q.val e):=by
 intro L
 induction L with
 |nil=>intro e n _ _;exact⟨fun _ _=>rfl,fun q j=>by simp at j⟩
 |cons q L k=>
  intro e n h g;have i:=bt.1 h.dist;have l:zLj n L:=⟨i.2,fun p hp=>h.lt p (aw _ hp),fun p hp s m r f=>h.src p (aw _ hp) s m r (aw _ f)⟩
  obtain⟨u,y⟩:=k (zFr e q) n l (by rw[zRC];exact g);refine⟨?_,?_⟩
  .intro t B;show(kA (zFr e q) L).get t=e.get t;simp_all[zNP]
  .intro p hp;show(kA (zFr e q) L).get p.d=p.val e;rcases bi.1 hp with rfl|hp
   .rw[u p.d (fun r f=>i.1 r f),zNP,if_pos ⟨rfl,az (h.lt p (by simp)) g⟩]
   .rw[y p hp];unfold Fl.val
    cases z:p.v with
    |c x=>rfl
    |a s=>simp only;rw[zNP,if_neg (fun A=>h.src p (aw _ hp) s z q (by simp) A.1)]
variable {g:Env St}
theorem qAU{b:Env St}(h:zCa g b)(k:∀t,g.get t=b.get t):g=b:=by
 obtain⟨l,d,st⟩:=g;obtain⟨a,c,m⟩:=b;have f:=h.vars;have e:=h.st;have j:=h.len;simp only at f e j;subst f e
 have:l=a:=by
  apply List.ext_getElem j;intro i n p;have:=k i
  grind[Env.get]
 rw[this]
theorem zCa.trans{e b c:Env St}(h:zCa e b)(k:zCa b c):zCa e c:=⟨h.vars.trans k.vars,h.st.trans k.st,h.len.trans k.len⟩
theorem zCa.symm{e b:Env St}(h:zCa e b):zCa b e:=⟨h.vars.symm,h.st.symm,h.len.symm⟩
theorem zYW{fl:List Fl}(h:zLj g.tm.length fl)(p f:Fl->Bool)(u:∀q,q∈fl->p q=Sc->f q=Sc):kA (kA g (fl.filter p)) (fl.filter f)=kA g (fl.filter f):=by
 refine qAU ((zBh _ _).trans ((zBh _ g).trans (zBh _ g).symm)) ?_;intro t;obtain⟨i,y⟩:=zB1 (fl.filter p) g _ (h.filter p) (ai _);obtain⟨z,j⟩:=zB1 (fl.filter f) g _ (h.filter f) (ai _);obtain⟨A,k⟩:=zB1 (fl.filter f) (kA g (fl.filter p)) g.tm.length (h.filter f) (by rw[zHH];omega);by_cases l:∃q,q∈fl.filter f/\t=q.d
 .obtain⟨q,e,rfl⟩:=l;rw[j q e,k q e];unfold Fl.val
  cases m:q.v with
  |c x=>rfl
  |a s=>simp only;exact i s (fun r n=>h.src q (aU.1 e).1 s m r (aU.1 n).1)
 grind
theorem qBo{fl:List Fl}{e:Env St}(h:zLj e.tm.length fl)(p g:Fl->Bool){q:Fl}(i:q∈fl)(l:∀r,r∈fl->(g r=Sc↔p r=Sc\/r.d=q.d))(m:p q=Sd):
  zFr (kA e (fl.filter p)) q=kA e (fl.filter g):=by
 have j:zCa (zFr (kA e (fl.filter p)) q) e:=⟨(zKB _ e).1,(zKB _ e).2,by rw[zRC,zHH]⟩
 refine qAU (j.trans (zBh _ e).symm) ?_;intro t;obtain⟨n,A⟩:=zB1 (fl.filter p) e _ (h.filter p) (ai _);obtain⟨B,u⟩:=zB1 (fl.filter g) e _ (h.filter g) (ai _)
 have f:q.val (kA e (fl.filter p))=q.val e:=by
  unfold Fl.val
  cases y:q.v with
  |c x=>rfl
  |a s=>simp only;exact n s (fun r z=>h.src q i s y r (aU.1 z).1)
 rw[zNP,zHH];by_cases k:t=q.d
 .subst k;rw[if_pos ⟨rfl,h.lt q i⟩,f,u q (aU.2 ⟨i,(l q i).2 (.inr rfl)⟩)]
 grind
def zYn(m:Nat)(e:Option Nat)(q:Fl):Prop:=
 e≠Sa q.d/\match q.v with
  |.c (.p _)=>True
  |.c (.lp s _)=>m.testBit (2*s)=Sd
  |.c _=>False
  |.a s=>e≠Sa s
variable {i:List (Option (List T))}
theorem qDS{f:T->T}{a:Option Nat}{y:T}{st:St}(c:f .dead=.dead)(t:Nat)(e:a≠Sa t):(form g f i a y st).get t=f (g.get t):=by
 cases a with
 |none=>
  grind[form,Env.get]
 |some d=>
  grind[List.getElem?_set_ne,form,Env.get]
theorem qBq{m:Nat}{f:T->T}{e:Option Nat}{y:T}{st:St}(j:yY m f){q:Fl}(n:zYn m e q):
  form (zFr g q) f i e y st=zFr (form g f i e y st) q:=by
 have k:f (q.val g)=q.val (form g f i e y st):=by
  unfold Fl.val;have V:=n.2
  cases k:q.v with
  |c x=>
   rw[k]at V
   cases x with
   |p d=>exact j.p d
   |lp s l=>exact j.lp s l V
   |_=>exact V.elim
  |a s=>rw[k]at V;exact(qDS j.dead s V).symm
 cases e with
 |none=>
  grind[List.map_set,form,zFr]
 |some d=>
  have r:d≠q.d:=fun h=>n.1 (by rw[h])
  grind[List.map_set,List.set_comm,form,zFr]
theorem qBp:∀(L:List Fl) {e:Env St} {m:Nat} {f:T->T} {V:List (Option (List T))} {a:Option Nat} {y:T} {st:St},yY m f->(∀q,q∈L->zYn m a q)->
  form (kA e L) f V a y st=kA (form e f V a y st) L:=by
 intro L
 induction L with
 |nil=>intro e m f V a y st _ _;rfl
 |cons q L c=>
  intro e m f V a y st d g;show form (kA (zFr e q) L) f V a y st=kA (zFr (form e f V a y st) q) L
  grind[Ah,qBq]
end
section
variable {Γ:Sig}{P:Program}{G:Nat->Option (List V)}{S:vF Γ}
def zNp(G:Nat->Option (List V))(e:Env Γ.St):List Operand->List Nat
 |[]=>[]
 |x::r=>match evx G e x with
  |.ot id _ _=>id::zNp G e r
  |_=>zNp G e r
def frzI:List Nat->Env Γ.St->Env Γ.St
 |[],e=>e
 |i::r,e=>frzI r (frzOE i e)
def zXs(G:Nat->Option (List V))(o:Oper)(e:Env Γ.St):Env Γ.St:=frzI (zNp G e o.op.operands.toList) e
def zKH(o:Oper):Bool:=
 match o.op with
 |.build _ _=>Sc
 |.call c=>match c.callee with
  |.value _=>Sc
  |_=>Sd
 |_=>Sd
theorem qDT:∀(l:List Nat),∃g:T->T,(∀d,g (.p d)=.p d)/\g .dead=.dead/\(∀s off,g (.lp s off)=.lp s off)/\∀e:Env Γ.St,frzI l e=e.mapT g:=by
 intro l
 induction l with
 |nil=>exact⟨fun x=>x,fun _=>rfl,rfl,fun _ _=>rfl,fun e=>by
   simp_all[frzI,Env.mapT]⟩
 |cons i r h=>
  obtain⟨g,a,c,f,j⟩:=h
  cases k:Ai i jV with
  |true=>exact⟨g,a,c,f,fun e=>by grind[frzI,frzOE]⟩
  |false=>refine⟨fun x=>g (zCC i x),fun d=>a d,c,fun s off=>f s off,fun e=>?_⟩;simp_all[cy,frzI,frzOE,Env.mapT]
variable {g j:Env Γ.St}
theorem zY3:∀(l:List Operand),(∀x,x∈l->evx G g x=evx G j x)->zNp G g l=zNp G j l:=by
 intro l
 induction l with
 |nil=>intro _;rfl
 |cons x r a=>
  grind[Ah,zNp]
theorem Inv.frzI{c:World}{d:Blk->Prop}{f:x5}{a:Act}{w:World}:∀(l:List Nat) {e:Env Γ.St},Inv Γ G c d f a w e->Inv Γ G c d f a w (Ve.frzI l e):=by
 intro l
 induction l with
 |nil=>intro e h;exact h
 |cons i r g=>intro e h;exact g (h.frzOE i)
def zJb(P:j6)(G:Nat->Option (List V))(S:vF Γ)(e:Env Γ.St)(o:Oper)(e1:Env Γ.St):Prop:=
 zLa P G S e o=Sa e1\/evW P G e o=Sa e1\/(zKH o=Sc/\zLa P G S (zXs G o e) o=Sa e1)
variable {i:Oper}
theorem zIe(h:zKH i=Sc):kE G g i=zCP i.dst:=by
 grind[zKH,kE]
theorem qB0(h:zKH i=Sc):evW P G g i=none:=by
 unfold zKH at h;unfold evW;split at h
 .grind
 .rename_i c a;split at h;all_goals simp_all[uH,yP,zBs,kN]
 .cases h
theorem zRx{L:j6}(h:zJb L G S g i j):∃f V y st,yY (kE G g i) f/\j=form g f V i.dst y st/\∀e,zPr G e g i->zJb L G S e i (form e f V i.dst y st):=by
 have z:zPr G g g i:=⟨⟨rfl,rfl,rfl⟩,fun _ _=>rfl⟩
 rcases h with h|h|⟨l,h⟩
 .obtain⟨f,V,y,st,a,o⟩:=zUl h;have:=o g z;rw[h]at this;exact⟨f,V,y,st,a,aX this,fun e c=>.inl (o e c)⟩
 .obtain⟨f,V,y,st,a,o⟩:=qD8 h;have:=o g z;rw[h]at this;exact⟨f,V,y,st,a,aX this,fun e c=>.inr (.inl (o e c))⟩
 .obtain⟨b,B,C,D,K⟩:=qDT (Γ:=Γ) (zNp G g i.op.operands.toList);obtain⟨f,V,y,st,a,o⟩:=zUl h;rw[zIe l]at a;have u:∀e:Env Γ.St,form (e.mapT b) f V i.dst y st=form e (fun x=>f (b x)) V i.dst y st:=by simp_all[cy,form,Env.mapT]
  have m:∀e,zPr G e g i->zXs G i e=e.mapT b/\zLa L G S (zXs G i e) i=Sa (form e (fun x=>f (b x)) V i.dst y st):=by
   intro e c;have A:zNp G e i.op.operands.toList=zNp G g i.op.operands.toList:=zY3 _ (fun x n=>c.2 x (by simpa using n));have k:zXs G i e=e.mapT b:=by grind[zXs]
   have q:zXs G i g=g.mapT b:=by grind[zXs]
   refine⟨k,?_⟩;rw[k,<-u];apply o;rw[q];obtain⟨⟨E,F,H⟩,I⟩:=c;refine⟨⟨?_,?_,?_⟩,?_⟩
   .simp[Env.mapT,E]
   .simp[Env.mapT,F]
   .simp[Env.mapT,H]
   .intro x n;have:=I x n
    cases x with
    |tmp t=>
     have M:e.get t=g.get t:=this;show(e.mapT b).get t=(g.mapT b).get t
     grind[get,Env.mapT,Env.get]
    |_=>rfl
  refine⟨fun x=>f (b x),V,y,st,?_,?_,fun e c=>.inr (.inr ⟨l,(m e c).2⟩)⟩
  .rw[zIe l];exact⟨fun d=>by simp only[B];exact a.p d,by simp only[C];exact a.dead,fun s r J=>by simp only[D];exact a.lp s r J⟩
  grind
theorem zJb.op(d:qK Γ P G S)(h:zJb P G S g i j):zYo P G g i j:=by
 intro f e e1 a w Q c;rcases h with h|h|⟨_,h⟩
 .exact zJ5 d c h
 .exact zQV c h
 .exact zJ5 d (c.frzI _) h
theorem qBj{L:j6}{fl:List Fl}{A p:Fl->Bool}(e:zLj g.tm.length fl)(u:∀q,q∈fl->A q=Sc->p q=Sc)(o:∀q,q∈fl->Operand.tmp q.d∈i.op.operands->A q=Sc)(h:zJb L G S (kA g (fl.filter A)) i j)(z:∀q,q∈fl->zYn (kE G (kA g (fl.filter A)) i) i.dst q):zJb L G S (kA g (fl.filter p)) i (kA j (fl.filter p)):=by
 obtain⟨f,V,y,st,J,rfl,K⟩:=zRx h;rw[<-zYW e A p u];have m:(kA g (fl.filter A)).tm.length=g.tm.length:=zHH _ _;obtain⟨M,B⟩:=zB1 (fl.filter p) (kA g (fl.filter A)) _ (e.filter p) (by omega);obtain⟨C,D⟩:=zB1 (fl.filter A) g _ (e.filter A) (ai _)
 have l:zPr G (kA (kA g (fl.filter A)) (fl.filter p)) (kA g (fl.filter A)) i:=by
  refine⟨zBh _ _,?_⟩;intro x E
  cases x with
  |tmp t=>
   show(kA (kA g (fl.filter A)) (fl.filter p)).get t=(kA g (fl.filter A)).get t;by_cases F:∃q,q∈fl.filter p/\t=q.d
   .obtain⟨q,n,rfl⟩:=F;have b:=(aU.1 n).1;have k:q∈fl.filter A:=aU.2 ⟨b,o q b E⟩;rw[B q n,D q k];unfold Fl.val
    cases H:q.v with
    |c x=>rfl
    |a s=>simp only;exact C s (fun r I=>e.src q b s H r (aU.1 I).1)
   grind
  |_=>rfl
 grind[qBp]
end
def qDz : Oper := ⟨none, .move (.const undef), 0, "", #[], none⟩
def uZ(ops:Array Oper)(Cm:Nat):Array Oper:=ops.mapIdx fun i o=>match Af Cm i with
 |true=>qDz
 |false=>o
def qGX(ops:Array Oper)(anc:Array Nat)(Cm Um:Nat):Bool:=
 qEE ops anc&&zPh (uZ ops Cm)&&
 (Ag ops.size).all fun i=>match ops[i]? with
  |some o=>o.after.all (fun e=> !Ad .any e||decide (e.on<i))&&(match Af Cm i with
   |true=>o.guard.isNone&&(Ag ops.size).all fun j=>match Af Cm j with
    |true=>decide (i<=j)||(anc.getD i 0).testBit j
    |false=>Af Um j||(decide (j<i)&&(anc.getD i 0).testBit j)
   |false=>o.after.all (fun e=> !Ad .any e|| !Af Cm e.on)&&(match o.guard with
     |some (j,_)=> !Af Cm j
     |none=>Sc)&&(!Af Um i||(o.guard.isNone&& !isCall o)))
  |none=>Sc
section
variable {ops:Array Oper}{anc:Array Nat}{Cm Um:Nat}
def zPt(ops:Array Oper)(a:Nat->Prop):Prop:= ∀(i:Nat) (o:Oper) (e:Edge),ops[i]?=Sa o->a i->e∈o.after->Ad .any e=Sc->a e.on
structure qAg(ops:Array Oper)(anc:Array Nat)(Cm Um:Nat):Prop where
 st:zSO (uZ ops Cm)
 edge:∀(i:Nat) (o:Oper) (e:Edge),ops[i]?=Sa o->e∈o.after->Ad .any e=Sc->e.on<i
 noC:∀(i:Nat) (o:Oper) (e:Edge),ops[i]?=Sa o->Cm.testBit i=Sd->e∈o.after->Ad .any e=Sc->Cm.testBit e.on=Sd
 guardQ:∀(i:Nat) (o:Oper) (j:Nat) (w:Bool),ops[i]?=Sa o->Cm.testBit i=Sd->o.guard=Sa (j,w)->Cm.testBit j=Sd
 guardC:∀(i:Nat) (o:Oper),ops[i]?=Sa o->Cm.testBit i=Sc\/Um.testBit i=Sc->o.guard=Sb
 call:∀(i:Nat) (o:Oper),ops[i]?=Sa o->Cm.testBit i=Sd->Um.testBit i=Sc->isCall o=Sd
 up:∀(listed:Nat->Prop),zPt ops listed->∀(c:Nat) (o:Oper),ops[c]?=Sa o->(∀e,e∈o.after->Ad .any e=Sc->listed e.on)->
  ∀j,j<c->(anc.getD c 0).testBit j=Sc->listed j
 before:∀(c:Nat) (o:Oper),ops[c]?=Sa o->Cm.testBit c=Sc->∀(j:Nat),j<ops.size->(Cm.testBit j=Sc/\j<c)\/(Cm.testBit j=Sd/\Um.testBit j=Sd)->j<c/\(anc.getD c 0).testBit j=Sc
theorem qFR(h:qGX ops anc Cm Um=Sc):qAg ops anc Cm Um:=by
 unfold qGX at h;simp only[am]at h;obtain⟨⟨x,H⟩,y⟩:=h;have f:∀i o,ops[i]?=Sa o->_:=fun i o g=>by have hlt:i<ops.size:=(ar.1 g).1;have:=au.1 y i (aV.2 hlt);simp only[g]at this;exact this
 have n:∀(i:Nat) (o:Oper) (e:Edge),ops[i]?=Sa o->e∈o.after->Ad .any e=Sc->e.on<i:=by intro i o e g z p;have d:=f i o g;rw[am]at d;have k:=cj.1 d.1 e z;simpa[p]using k
 have I:∀(a:Nat->Prop),zPt ops a->
   ∀(i:Nat) (o:Oper) (j:Nat),ops[i]?=Sa o->j<i->(anc.getD i 0).testBit j=Sc->(∀e,e∈o.after->Ad .any e=Sc->a e.on)->a j:=by
  intro a q i
  induction i using Aj with
  |_ i Q=>
   intro o j g J A W;have hlt:i<ops.size:=(ar.1 g).1;have d:=au.1 x i (aV.2 hlt);simp only[g]at d;have k:=au.1 d j (aV.2 J);simp only[A,bI,bY,dh,am,bO,decide_eq_true_eq,beq_iff_eq]at k;obtain⟨e,z,⟨p,K⟩,B⟩:=k;have C:=W e z p;rcases B with rfl|⟨D,r⟩
   .exact C
   .have E:e.on<ops.size:=by omega
    have F:ops[e.on]?=Sa ops[e.on]:=by simp[E]
    exact Q e.on K ops[e.on] j F D r (fun Y L M=>q e.on _ Y F C L M)
 refine⟨zTI H,n,?_,?_,?_,?_,fun a Z c o hc t j B p=>I a Z c o j hc B p t,?_⟩
 .intro i o e g l z p;have d:=f i o g;simp only[l,am]at d;have k:=cj.1 d.2.1.1 e z;simpa[p]using k
 .intro i o j w g l hg;have d:=f i o g;simp only[l,hg,am]at d;simpa using d.2.1.2
 .intro i o g m;have d:=f i o g
  cases l:Cm.testBit i with
  |true=>
   simp only[l,am]at d;exact dg.1 d.2.1
  |false=>rw[l]at m;have N:=m.resolve_left (by simp);simp only[l,N,am,bI,bY]at d;exact dg.1 d.2.2.1
 .intro i o g l N;have d:=f i o g;simp only[l,N,am,bI,bY,cM]at d;exact d.2.2.2
 .intro c o g l j B m;have d:=f c o g;simp only[l,am]at d;have k:=au.1 d.2.2 j (aV.2 B);rcases m with⟨u,hlt⟩|⟨u,O⟩
  .simp only[u,bO,decide_eq_true_eq]at k;exact⟨hlt,k.resolve_left (by omega)⟩
  .simp only[u,O,bY,am,decide_eq_true_eq]at k;exact k
theorem zHJ(i:Nat):(uZ ops Cm)[i]?=(ops[i]?).map (fun o=>match Cm.testBit i with|true=>qDz|false=>o):=by simp[uZ]
theorem zCB:(uZ ops Cm).size=ops.size:=by simp[uZ]
theorem zAl{i:Nat}{o:Oper}(h:ops[i]?=Sa o)(a:Cm.testBit i=Sd):(uZ ops Cm)[i]?=Sa o:=by
 grind[zHJ]
end
section
variable {Γ:Sig}{P:Program}{G:Nat->Option (List V)}{S:vF Γ}{w0:World}{F0:Blk->Prop}{O0:x5}{ops:Array Oper}{anc:Array Nat}{Cm Um:Nat}
def zOp(P:j6)(G:Nat->Option (List V))(S:vF Γ)(ops:Array Oper)(fl:List Fl)(b:Env Γ.St)(q:Fl):Prop:=
 ∀(o:Oper) (p:Fl->Bool),ops[q.i]?=Sa o->(∀r,r∈fl->Operand.tmp r.d∈o.op.operands->p r=Sc)->zJb P G S (kA b (fl.filter p)) o (zFr (kA b (fl.filter p)) q)
inductive zKu(P:j6)(G:Nat->Option (List V))(S:vF Γ)(ops:Array Oper)(anc:Array Nat)(fl:List Fl):List Nat->Env Γ.St->Env Γ.St->Prop
 |nil (b:Env Γ.St):zKu P G S ops anc fl [] b b
 |cons {c:Nat} {rest:List Nat} {b b1 b':Env Γ.St} {o:Oper} (ho:ops[c]?=Sa o)
   (hr:zJb P G S (kA b (fl.filter (fun q=>(anc.getD c 0).testBit q.i&&decide (q.i<c)))) o b1)
   (hops:∀q,q∈fl->Operand.tmp q.d∈o.op.operands->((anc.getD c 0).testBit q.i&&decide (q.i<c))=Sc)
   (hst:∀q,q∈fl->zYn (kE G (kA b (fl.filter (fun q=>(anc.getD c 0).testBit q.i&&decide (q.i<c)))) o) o.dst q)
   (hfl:∀q,q∈fl->((anc.getD c 0).testBit q.i&&decide (q.i<c))=Sd->zOp P G S ops fl b1 q)
   (hrest:zKu P G S ops anc fl rest b1 b'):zKu P G S ops anc fl (c::rest) b b'
theorem qDU{St:Type}(e:Env St)(f:T->T)(V:List (Option (List T)))(a:Option Nat)(y:T)(st:St):(form e f V a y st).tm.length=e.tm.length:=by cases a<;>simp[form]
theorem zJb.len{L:j6}{b a:Env Γ.St}{o:Oper}(h:zJb L G S b o a):a.tm.length=b.tm.length:=by
 obtain⟨f,V,y,st,_,rfl,_⟩:=zRx h
 grind[qDU]
variable {g:Exit->Act->World->Prop}
theorem qCO{e e1:Env Γ.St}{o:Oper}{a:Act}{w:World}{K:Act->World->Prop}{i:Nat}(d:qK Γ P G S)(hi:ops[i]?=Sa o)(Q:o.guard=Sb)(h:zJb P G S e o e1)(c:Inv Γ G w0 F0 O0 a w e)(f:∀a w,Inv Γ G w0 F0 O0 a w e1->K a w):wpOp P ops g i K a w:=
 zRj hi (.inl ⟨by grind[vG],h.op d⟩) c f
theorem zV8(A:qAg ops anc Cm Um)(hS:qK Γ P G S){fl:List Fl}{n:Nat}(a3:zLj n fl)(a4:∀i,Um.testBit i=Sc->Cm.testBit i=Sd->i<ops.size->∃q,q∈fl/\q.i=i)(K:∀q,q∈fl->Cm.testBit q.i=Sd/\Um.testBit q.i=Sc/\∃o,ops[q.i]?=Sa o/\o.dst=Sa q.d){b':Env Γ.St}(hQ:∀a w,Inv Γ G w0 F0 O0 a w (kA b' fl)->g .normal a w):∀(l:Nat) (rest:List Nat) (b:Env Γ.St) (f:Array Bool) (a:Act) (w:World),
  f.size=ops.size->f.count Sd<=l->zPt ops (fun i=>f.getD i Sc=Sc)->
  (∀i,i<ops.size->Cm.testBit i=Sd->Um.testBit i=Sd->f.getD i Sc=Sc)->
  (∀c,c∈rest↔c<ops.size/\Cm.testBit c=Sc/\f.getD c Sc=Sd)->rest.Pairwise (· < ·)->
  zKu P G S ops anc fl rest b b'->(∀q,q∈fl->f.getD q.i Sc=Sd->zOp P G S ops fl b q)->b.tm.length=n->
  Inv Γ G w0 F0 O0 a w (kA b (fl.filter (fun q=>f.getD q.i Sc)))->wpAny P .any ops g l f a w:=by
 have b4:∀q r,q∈fl->r∈fl->(q.d=r.d↔q.i=r.i):=by
  intro q r L C;obtain⟨cq,_,oq,a5,a6⟩:=K q L;obtain⟨cr,_,ag,a9,bb⟩:=K r C;constructor
  .intro h;exact A.st.dist q.i r.i oq ag q.d (zAl a5 cq) (zAl a9 cr) a6 (by rw[h];exact bb)
  grind
 have Z:∀(rest:List Nat) (b:Env Γ.St) (f:Array Bool) (a:Act) (w:World),(∀i,f.getD i Sc=Sc)->
   (∀c,c∈rest↔c<ops.size/\Cm.testBit c=Sc/\f.getD c Sc=Sd)->zKu P G S ops anc fl rest b b'->Inv Γ G w0 F0 O0 a w (kA b (fl.filter (fun q=>f.getD q.i Sc)))->g .normal a w:=by
  intro rest b f a w ab Q k m;have ao:rest=[]:=by simp_all[bD]
  subst ao;cases k
  grind[List.filter_eq_self]
 have M:∀(f:Array Bool),f.size=ops.size->Ak .any ops f=[]->∀i,f.getD i Sc=true:=by
  intro f D C
  have:∀i,i<ops.size->f.getD i Sc=true:=by
   intro i
   induction i using Aj with
   |_ i ih=>
    intro hi
    cases z:f.getD i Sc with
    |true=>rfl
    |false=>
     exfalso
     have E:i∈Ak .any ops f:=by
      rw[mem_ready];refine⟨z,ops[i],by simp[hi],?_⟩;intro e he B;have bd:=A.edge i ops[i] e (by simp[hi]) he B
      grind
     grind
  grind
 intro l
 induction l with
 |zero=>
  intro rest b f a w D ap N L Q t k al F m
  have ab:∀i,f.getD i Sc=true:=by
   intro i
   cases z:f.getD i Sc with
   |true=>rfl
   |false=>
    exfalso;have h0:f.count Sd=0:=by omega
    rw[dI]at h0;apply h0;rcases a8 i f.size with h|h
    .simp[h]at z
     grind
    grind
  refine⟨?_,Z rest b f a w ab Q k m⟩;apply bD.2
  grind[mem_ready]
 |succ l ih=>
  intro rest b f a w D ap N L Q t k al F m;refine⟨fun C=>Z rest b f a w (M f D C) Q k m,?_⟩;intro i hi;obtain⟨O,o,H,be⟩:=mem_ready.1 hi;have hlt:i<ops.size:=(ar.1 H).1;have u:i<f.size:=by omega
  have x:∀e,e∈o.after->Ad .any e=Sc->f.getD e.on Sc=true:=by
   grind
  have ad:zPt ops (fun j=>(f.setIfInBounds i Sc).getD j Sc=Sc):=by
   intro j oj e hj z he B;show(f.setIfInBounds i Sc).getD e.on Sc=Sc;have z:(f.setIfInBounds i Sc).getD j Sc=true:=z;rw[vW _ _ _ u]at z ⊢;split
   .rfl
   .by_cases bk:j=i
    .grind
    .rw[if_neg bk]at z;exact N j oj e hj z he B
  have I:(f.setIfInBounds i Sc).count Sd<=l:=by
   have b5:f[i]=false:=by simpa[u]using O
   grind
  have av:∀j,j<ops.size->Cm.testBit j=Sd->Um.testBit j=Sd->(f.setIfInBounds i Sc).getD j Sc=true:=by intro j hj h1 h2;rw[vW _ _ _ u];split;all_goals grind
  cases hC:Cm.testBit i with
  |false=>
   have hU:Um.testBit i=true:=by
    grind
   obtain⟨q,ax,bn⟩:=a4 i hU hC hlt;subst bn;have hg:=A.guardC q.i o H (.inr hU)
   have y:=al q ax O o (fun q=>f.getD q.i Sc) H (by
    intro r C hx;obtain⟨cr,_,ag,bo,bs⟩:=K r C;obtain⟨e,he,B,bd⟩:=A.st.look q.i o r.d r.i ag (zAl H hC) (cO _ (br.2 ⟨.tmp r.d,by simpa using hx,rfl⟩)) (zAl bo cr) bs;have:=x e he B
    grind)
   refine qCO hS H hg y m ?_;intro a' w' J;refine ih rest b (f.setIfInBounds q.i Sc) a' w' (by simpa using D) I ad av ?_ t k ?_ F ?_
   .intro c;rw[Q c,vW _ _ _ u];constructor
    .rintro⟨h1,h2,W⟩;refine⟨h1,h2,?_⟩;rw[if_neg (fun hh=>by grind)];exact W
    .rintro⟨h1,h2,W⟩;refine⟨h1,h2,?_⟩
     rwa [if_neg (fun hh=>by grind)]at W
   .intro r C z;refine al r C ?_;rw[vW _ _ _ u]at z;split at z;all_goals grind
   .have:=qBo (e:=b) (fl:=fl) (by grind) (fun q=>f.getD q.i Sc) (fun r=>(f.setIfInBounds q.i Sc).getD r.i Sc) ax (by
     intro r C;show(f.setIfInBounds q.i Sc).getD r.i Sc=Sc↔_;rw[vW _ _ _ u];split
     .grind
     .rename_i h;constructor
      all_goals grind) O
    grind
  |true=>
   have E:i∈rest:=(Q i).2 ⟨hlt,hC,O⟩
   cases k with
   |nil=>cases E
   |cons ay C a0 b0 a1 Y=>
    rename_i c an b1 oc;have a2:=(Q c).1 (by simp)
    have b2:i=c:=by
     rcases dr i c with h|h|h
     .exfalso;have hs:=bt.1 t;rcases bi.1 E with hh|hh
      .omega
      .have:=hs.1 i hh;omega
     .exact h
     .exfalso;have B:=A.before i o H hC c a2.1 (.inl ⟨a2.2.1,h⟩);have:=A.up (fun j=>f.getD j Sc=Sc) N i o H x c B.1 B.2
      grind
    subst b2;rw[H]at ay;cases ay;have hg:=A.guardC i o H (.inl hC);have hA:∀q,q∈fl->((anc.getD i 0).testBit q.i&&decide (q.i<i))=Sc->f.getD q.i Sc=true:=by intro q L B;simp only[am,decide_eq_true_eq]at B;exact A.up (fun j=>f.getD j Sc=Sc) N i o H x q.i B.2 B.1
    have y:=qBj (p:=fun q=>f.getD q.i Sc) (by grind) hA a0 C b0;refine qCO hS H hg y m ?_;intro a' w' J;have hs:=bt.1 t;refine ih an b1 (f.setIfInBounds i Sc) a' w' (by simpa using D) I ad av ?_ hs.2 Y ?_ ?_ ?_
    .intro c;rw[vW _ _ _ u];constructor
     .intro hc;obtain⟨h1,h2,W⟩:=(Q c).1 (aw _ hc);have:=hs.1 c hc;refine⟨h1,h2,?_⟩;rw[if_neg (by omega)];exact W
     .rintro⟨h1,h2,W⟩;split at W
      .cases W
      .rename_i b6;rcases bi.1 ((Q c).2 ⟨h1,h2,W⟩)with hh|hh;all_goals omega
    .intro q L z;rw[vW _ _ _ u]at z;split at z
     .cases z
     .refine a1 q L ?_
      cases B:((anc.getD i 0).testBit q.i&&decide (q.i<i))with
      |false=>rfl
      |true=>rw[hA q L B]at z;cases z
    .rw[C.len,zHH];exact F
    .have b3:fl.filter (fun q=>(f.setIfInBounds i Sc).getD q.i Sc)=fl.filter (fun q=>f.getD q.i Sc):=by apply List.filter_congr;intro q L;rw[vW _ _ _ u];rw[if_neg (fun hh=>by have:=(K q L).1;grind)]
     rw[b3];exact J
end
end Go.Ve

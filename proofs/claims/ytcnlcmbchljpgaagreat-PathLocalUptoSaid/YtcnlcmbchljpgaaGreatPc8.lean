/-
  Functions out of code, part 3: regions.
  Functions out of code, part 4: joins, loops, statements.
-/
import Derived.Test.YtcnlcmbchljpgaaGreatPc7
set_option linter.unusedVariables false
namespace Go.Ve
open Go
section
variable {Γ:Sig} {ρ:Type} (P:jC) (G:Nat→Option (List V)) (S:zN Γ)
def zT8 (e:Env Γ.St) (dst:Option Tmp) (c:Call):Option (Kex Γ ρ):=
 match c.callee,c.args.toList,c.argTypes.toList,dst with
 | .builtin .append,[.tmp p,x1],[t0,t1],some d=>
  match e.get p with
  | .ov id t' xs 0 hi=>match P.und t0,P.und t1 with
   |some (.slice el),some (.slice _)=>match P.inf el with
    |some info=>match info.zero,zUt (evx G e x1) with
     |some z,some ⟨t,y::ys⟩=>
      if zYe p x1=false then none else
      if h:t'=t then
       if t.size=info.size∧1≤info.bytes∧zNW z=info.size∧id≠jJ then
        some (fun K=>Option.bind (app info.bytes (List.take hi (h▸xs)) (y::ys)) fun zs=>K { (e.kill id) with tm:=(e.kill id).tm.set d (.ot id t zs) })
       else none
      else none
     |_,_=>none
    |none=>none
   |_,_=>none
  |_=>none
 |_,_,_,_=>none
def wX (e:Env Γ.St) (o:Oper):Option (Kex Γ ρ):=
 match o.op with
 | .store t ap x=>match o.dst with
  |some _=>none
  |none=>match evx G e ap,evx G e x with
   | .oet id ty xs i off, .p d=>
    if j8 P t=some d.cells.length∧off+d.cells.length≤ty.size∧d.cells.all V.one=true∧(ty.aggT=false→d.cells.length=1∧ty.size=1) then
     some (fun K=>Option.bind (atN xs i) fun y=>match zYd ty y off d with
      |some z=>K (e.mapT (zGO id ty i z))
      |none=>none)
    else none
   |_,_=>none
 | .call c=>match zT8 P G e o.dst c with
  |some q=>some q
  |none=>match c.callee,c.args.toList,c.argTypes.toList,o.dst with
  | .builtin .append,[x0,x1],[t0,t1],some d=>match P.und t0,P.und t1 with
   |some (.slice el),some (.slice _)=>match P.inf el with
    |some info=>match info.zero,zUt (evx G e x1) with
     |some z,some ⟨t,ys⟩=>match zTJ t (evx G e x0) with
      |some (nm,xs)=>
       if t.size=info.size∧1≤info.bytes∧zNW z=info.size∧nm.getD d≠jJ then
        some (fun K=>Option.bind (app info.bytes xs ys) fun zs=>
         K { (e.kill (nm.getD d)) with tm:=(e.kill (nm.getD d)).tm.set d (.ot (nm.getD d) t zs) })
       else none
      |none=>none
     |_,_=>none
    |none=>none
   |_,_=>none
  |_,_,_,_=>none
 |_=>none
def wXs (e:Env Γ.St) (o:Oper):Option (Kex Γ ρ):=
 match wX P G e o with
 |some q=>some q
 |none=>match evW P G e o with
  |some e1=>some (fun K=>K e1)
  |none=>none
def zJn (e:Env Γ.St) (o:Oper):Option (Kex Γ ρ):=
 match qXs P G S e o with
 |some q=>some (fun K=>q (fun r=>match zAf e o.dst r with
  |some e1=>K e1
  |none=>none))
 |none=>wXs P G e o
def qBd (e:Env Γ.St) (o:Oper):Option (Kex Γ ρ):=
 match o.op with
 | .call c=>match c.callee,c.args.toList with
  | .value f, .tmp p::xs=>match evx G e f,e.get p,yA G e xs with
   | .p (.clo g []), .ot id t ys,some ds=>match S g e.st (.bot:: .tl t ys::ds) with
    |some cx=>match cx.pl with
     |false=>some (fun K=>zKQ (zY8 (zIT id p ys.length 0 e.tm)) (Option.bind cx.m fun y=>match cx.res y with
      | .p (.tup [.tl _ _, .bot])=>none
      | .p (.tup [.tl t' zs,d])=>if h:t'=t then K (zX4 e id p t (h▸zs) (cx.st y) o.dst d) else none
      |_=>none))
     |true=>match Nat.beq id jJ with
      |true=>none
      |false=>some (fun K=>Option.bind cx.m fun y=>match cx.res y with
       | .p (.tup [.tl t' zs, .bot])=>if h:t'=t then K (zX3 e id t (h▸zs) (cx.st y) o.dst) else none
       |_=>none)
    |none=>none
   |_,_,_=>none
  |_,_=>none
 |_=>none
def qBt (tys:List TypeId) (k:Nat):Option Ty:=
 match tys[k]? with
 |some tp=>match P.und tp with
  |some (.pointer el)=>P.ty el
  |_=>none
 |none=>none
def qAK (e:Env Γ.St) (o:Oper):Option (Kex Γ ρ):=
 match o.op with
 | .call c=>match c.callee with
  | .value f=>match evx G e f,zJc G e c.args.toList with
   | .p (.clo g []),some (k,s,xs)=>match yA G e xs,e.var s,qBt P c.argTypes.toList k with
    |some ds,some cs,some t=>match zJr cs with
     |some vs=>match t.dec (.agg vs) with
      |some y=>match S g e.st (.bot:: .tl t [y]:: .bot:: .val (.int .i64 (k:Int))::ds) with
       |some cx=>match cx.pl with
        |false=>some (fun K=>Option.bind cx.m fun u=>match cx.res u with
         | .p (.tup [.tl t' [z],d])=>if h:t'=t then K (zX2 e s t (h▸z) (cx.st u) o.dst d) else none
         |_=>none)
        |true=>none
       |none=>none
      |none=>none
     |none=>none
    |_,_,_=>none
   |_,_=>none
  |_=>none
 |_=>none
def qBD:Option (Nat×Nat×List Operand)→Nat
 |some (_,s,_)=>2^(2*s+1)
 |none=>0
def zI3 (e:Env Γ.St) (o:Oper):Nat:=
 wH G e o|||match o.op with
 | .call c=>qBD (zJc G e c.args.toList)
 |_=>0
def zRy (e:Env Γ.St) (o:Oper):Option (Kex Γ ρ):=
 match zJn P G S e o with
 |some q=>some q
 |none=>match qBd G S e o with
  |some q=>some q
  |none=>qAK P G S e o
def zY7 (e:Env Γ.St) (lg:Nat) (o:Oper) (K:Env Γ.St→Nat→Option ρ):Option ρ:=
 match zRy P G S e o with
 |some q=>q (fun e1=>K e1 (lg|||zI3 G e o))
 |none=>match zRy P G S (frzOps G (zO1 o) e) o with
  |some q=>q (fun e1=>K e1 (lg|||(zN0 G (zO1 o) e|||zI3 G (frzOps G (zO1 o) e) o)))
  |none=>none
def zXE (ops:Array Oper) (e:Env Γ.St) (lg:Nat) (o:Oper) (K:Env Γ.St→Nat→Option ρ):Option ρ:=
 match o.guard with
 |none=>zY7 P G S e lg o K
 |some (j,want)=>match (ops[j]?).bind (·.dst) with
  |none=>K (e.put o.dst (.p (.val undef))) (lg|||zCN o.dst)
  |some t=>match e.get t with
   | .p (.val (.bool b))=>if t<e.tm.length then
     cond b (match want with
      |true=>zJE t (e.lit t true) (fun e=>zY7 P G S e lg o K)
      |false=>K ((e.lit t true).put o.dst (.p (.val undef))) (lg|||zCN o.dst))
     (match want with
      |true=>K ((e.lit t false).put o.dst (.p (.val undef))) (lg|||zCN o.dst)
      |false=>zJE t (e.lit t false) (fun e=>zY7 P G S e lg o K))
    else none
   | .p (.val (.tuple _))=>K (e.put o.dst (.p (.val undef))) (lg|||zCN o.dst)
   |_=>none
def seqX (ops:Array Oper):List Oper→Env Γ.St→Nat→(Env Γ.St→Nat→Option ρ)→Option ρ
 |[],e,lg,K=>K e lg
 |o::rest,e,lg,K=>zXE P G S ops e lg o (fun e1 lg=>kOp o e1 (fun e1=>seqX ops rest e1 lg K))
def zDo (e:Env Γ.St) (lg:Nat) (o:Oper) (K:Env Γ.St→Nat→Option ρ):Option ρ:=
 match qXs P G S e o with
 |some q=>q (fun r=>match zHH e o.dst r with
  |some e1=>K e1 (lg|||zCN o.dst)
  |none=>none)
 |none=>none
def zAt (ops:Array Oper):List Oper→Env Γ.St→Nat→(Env Γ.St→Nat→Option ρ)→Option ρ
 |[],e,lg,K=>K e lg
 |o::rest,e,lg,K=>
  match o.guard with
  |none=>if zLJ G (qD (o::rest)) e o then zDo P G S e lg o (fun e1 lg=>kOp o e1 (fun e1=>zAt ops rest e1 lg K)) else none
  |some (j,want)=>match (ops[j]?).bind (·.dst) with
   |none=>zJE (o.dst.getD 0) (e.put o.dst (.p (.val undef))) (fun e1=>zAt ops rest e1 (lg|||zCN o.dst) K)
   |some t=>match e.get t with
    | .p (.val (.bool b))=>if t<e.tm.length then
      cond b (match want with
       |true=>zJE t (e.lit t true) (fun e=>if zLJ G (qD (o::rest)) e o then zDo P G S e lg o (fun e1 lg=>kOp o e1 (fun e1=>zAt ops rest e1 lg K)) else none)
       |false=>zJE (o.dst.getD 0) ((e.lit t true).put o.dst (.p (.val undef))) (fun e1=>zAt ops rest e1 (lg|||zCN o.dst) K))
      (match want with
       |true=>zJE (o.dst.getD 0) ((e.lit t false).put o.dst (.p (.val undef))) (fun e1=>zAt ops rest e1 (lg|||zCN o.dst) K)
       |false=>zJE t (e.lit t false) (fun e=>if zLJ G (qD (o::rest)) e o then zDo P G S e lg o (fun e1 lg=>kOp o e1 (fun e1=>zAt ops rest e1 lg K)) else none))
     else none
    | .p (.val (.tuple _))=>zJE (o.dst.getD 0) (e.put o.dst (.p (.val undef))) (fun e1=>zAt ops rest e1 (lg|||zCN o.dst) K)
    |_=>none
def zT1:List Nat→Nat
 |[]=>0
 |d::r=>2^(2*d)|||zT1 r
def zPt (ops:Array Oper) (k:Nat) (e:Env Γ.St) (lg:Nat) (K:Env Γ.St→Nat→Option ρ):Option ρ:=
 if k≤ops.size&&zGS ops k&&zFV ops k&&zMo (ops.extract 0 k) then
  zDf (killAll (qD (ops.extract 0 k).toList) e) (fun e=>zAt P G S (ops.extract 0 k) (ops.extract 0 k).toList e (lg|||zT1 (qD (ops.extract 0 k).toList))
   (fun e1 lg=>seqX P G S ops (ops.toList.drop k) e1 lg K))
 else none
def zYV (ops:Array Oper) (e:Env Γ.St) (lg:Nat) (K:Env Γ.St→Nat→Option ρ):Option ρ:=zPt P G S ops (zCf ops.toList) e lg K
def zUP:T→Bool
 | .p _=>true
 | .lp _ _=>true
 |_=>false
def zUZ {St:Type} (ops:Array Oper) (e1:Env St):List Nat→Option (List Fl)
 |[]=>some []
 |i::r=>match ops[i]? with
  |some o=>match o.dst with
   |some d=>match zUP (e1.get d) with
    |true=>(zUZ ops e1 r).map (⟨i,d, .c (e1.get d)⟩:: ·)
    |false=>match o.op with
     | .move (.tmp s)=>(zUZ ops e1 r).map (⟨i,d, .a s⟩:: ·)
     |_=>none
   |none=>none
  |none=>none
def flD (fl:List Fl) (t:Nat):Bool:=fl.any (fun q=>Nat.beq q.d t)
def flC (fl:List Fl) (t:Nat):Bool:=fl.any (fun q=>Nat.beq q.d t&&(match q.v with
 | .c _=>true
 | .a _=>false))
def zTt (n:Nat):List Fl→Bool
 |[]=>true
 |q::r=> !flD r q.d&&Nat.blt q.d n&&zTt n r
def zYB (fl:List Fl):Bool:=fl.all (fun q=>match q.v with
 | .c _=>true
 | .a s=> !flD fl s)
def noD (d:Nat):T→Bool
 | .ow i _ _=> !Nat.beq i d
 | .oe i _ _ _ _=> !Nat.beq i d
 | .lp s _=> !Nat.beq s d
 | .mp i _ _=> !Nat.beq i d
 | .ot i _ _=> !Nat.beq i d
 | .oet i _ _ _ _=> !Nat.beq i d
 | .ov i _ _ _ _=> !Nat.beq i d
 |_=>true
def qAt {St:Type} (d:Nat) (e:Env St):Bool:=
 e.tm.all (noD d)&&e.vars.all (fun c=>match c with
  |some cs=>cs.all (noD d)
  |none=>true)&&(e.var d).isNone&&Nat.blt d e.vars.length
def zX9 {St:Type} (fl:List Fl) (m:Nat) (e1:Env St):Operand→Bool
 | .tmp t=>(flC fl t||(!flD fl t&& !Nat.testBit m (2*t)))&&(match e1.get t with
  | .p _=>true
  | .lp s _=> !Nat.testBit m (2*s)&&(match e1.var s with
   |some cs=>cs.all (fun x=>match x with| .p _=>true|_=>false)&& !Nat.testBit m (2*s+1)
   |none=>false)
  |_=>false)
 |_=>true
def zZM {St:Type} (ops:Array Oper) (fl:List Fl) (m:Nat) (e1 b:Env St) (q:Fl):Bool:=
 match ops[q.i]? with
 |some o=>match q.v with
  | .a s=>match o.op with
   | .move (.tmp s')=>Nat.beq s' s
   |_=>false
  | .c _=>o.op.operands.toList.all (zX9 fl m e1)&&qAt q.d b&&fl.all (fun r=>match r.v with
   | .c x=>noD q.d x
   | .a _=>true)
 |none=>false
def zUq (m:Nat) (dst:Option Nat) (q:Fl):Bool:=
 (match dst with
  |some d=> !Nat.beq d q.d
  |none=>true)&&(match q.v with
  | .c (.p _)=>true
  | .c (.lp s _)=> !Nat.testBit m (2*s)
  | .c _=>false
  | .a s=>match dst with
   |some d=> !Nat.beq d s
   |none=>true)
def qBW (fl:List Fl) (A:Fl→Bool) (o:Oper):Bool:=
 o.op.operands.toList.all (fun x=>match x with
  | .tmp t=>fl.all (fun q=> !Nat.beq q.d t||A q)
  |_=>true)
def zB0:List Fl→Nat
 |[]=>0
 |q::r=>2^(2*q.d)|||zB0 r
def zVt (anc:Array Nat) (c:Nat) (q:Fl):Bool:=(anc.getD c 0).testBit q.i&&decide (q.i<c)
def zUz (e:Env Γ.St) (o:Oper):Option (Kex Γ ρ):=
 match zJn P G S e o with
 |some q=>some q
 |none=>match zH3 o with
  |true=>zJn P G S (zTo G o e) o
  |false=>none
def zHF (ops:Array Oper) (anc:Array Nat) (fl:List Fl) (e1:Env Γ.St):List Nat→Env Γ.St→Nat→(Env Γ.St→Nat→Option ρ)→Option ρ
 |[],b,m,K=>zDf (jZ b fl) (fun e=>K e (m|||zB0 fl))
 |c::rest,b,m,K=>match ops[c]? with
  |some o=>zDf (jZ b (fl.filter (zVt anc c))) (fun bA=>match qBW fl (zVt anc c) o&&fl.all (zUq (wH G bA o) o.dst) with
   |true=>match zUz P G S bA o with
    |some q=>q (fun b1=>kOp o b1 (fun b1=>match fl.all (fun q=>zVt anc c q||zZM ops fl (m|||(zB0 fl|||wH G bA o)) e1 b1 q) with
     |true=>zHF ops anc fl e1 rest b1 (m|||(zB0 fl|||wH G bA o)) K
     |false=>none))
    |none=>none
   |false=>none)
  |none=>none
def zVm (ops:Array Oper) (Cm Um:Nat) (e:Env Γ.St) (lg:Nat) (K:Env Γ.St→Nat→Option ρ):Option ρ:=
 if qBc ops (Region.before ops) Cm Um then
  zDf (killAll (qD (w7 ops Cm).toList) e) (fun e=>zAt P G S (w7 ops Cm) (w7 ops Cm).toList e (lg|||zT1 (qD (w7 ops Cm).toList))
   (fun e1 lg=>match zUZ ops e1 ((List.range ops.size).filter (fun i=>Nat.testBit Um i&& !Nat.testBit Cm i)) with
    |some fl=>match zTt e1.tm.length fl&&zYB fl&&fl.all (fun q=>(e1.var q.d).isNone)&&fl.all (zZM ops fl (zB0 fl) e1 (zEw e1 fl)) with
     |true=>zDf (zEw e1 fl) (fun b=>zHF P G S ops (Region.before ops) fl e1 ((List.range ops.size).filter (fun i=>Nat.testBit Cm i)) b (zB0 fl) (fun e2 m=>K e2 (lg|||m)))
     |false=>none
    |none=>none))
 else none
def zWw:List (Nat×Nat×Nat)→Env Γ.St→(Env Γ.St→Option ρ)→Option ρ
 |[],e,K=>K e
 |(a,b,n)::r,e,K=>match n with
  |1=>match qAO b e&&(!Nat.beq a jJ&& !Nat.beq b jJ) with
   |true=>zDf (e.mapT (zUB a b)) (fun e=>zWw r e K)
   |false=>none
  |2=>zDf (frzOE a e) (fun e=>zWw r e K)
  |_=>zWw r e K
def zV0:List (Nat×Nat×Nat)→List Operand
 |[]=>[]
 |(t,_,n)::r=>match n with
  |0=> .tmp t::zV0 r
  |_=>zV0 r
def zSX (ops:Array Oper) (d:Bool) (fz:Option (List (Nat×Nat×Nat))) (e:Env Γ.St) (lg:Nat) (K:Env Γ.St→Nat→Option ρ):Option ρ:=
 match d with
 |false=>seqX P G S ops ops.toList e lg K
 |true=>match fz with
  |none=>zYV P G S ops e lg K
  |some []=>zDf (frzOps G (zAv ops.toList) e) (fun e1=>zYV P G S ops e1 (lg|||zN0 G (zAv ops.toList) e) K)
  |some ((Cm,Um,n)::ts)=>match n with
   |9=>zYV P G S ops e lg K
   |8=>zPt P G S ops Cm e lg K
   |_=>zDf (frzOps G (zV0 ts) e) (fun e1=>zVm P G S ops Cm Um e1 (lg|||zN0 G (zV0 ts) e) K)
def zZE (ops:Array Oper) (d:Bool) (fz:Option (List (Nat×Nat×Nat))) (e:Env Γ.St) (lg:Nat) (K:Env Γ.St→Nat→Option ρ):Option ρ:=
 match fz with
 |none=>zSX P G S ops d fz e lg K
 |some []=>zSX P G S ops d fz e lg K
 |some (x::ts)=>zSX P G S ops d fz e lg (fun e1 lg1=>zWw ts e1 (fun e2=>K e2 lg1))
end
section
variable {Γ:Sig} {ρ:Type} {P:Program} {G:Nat→Option (List V)} {S:zN Γ} {e:Env Γ.St} {o:Oper} {ops:Array Oper} {v:ρ}
theorem zT7 {q:Kex Γ ρ} {K:Env Γ.St→Option ρ} {dst:Option Tmp} {c:Call} (h:zT8 P G e dst c=some q) (hK:q K=some v): ∃e1,vW P G e dst c=some e1∧K e1=some v:=by
 unfold zT8 at h
 split at h
 ·rename_i p x1 t0 t1 d hcal hargs htys
  split at h
  ·rename_i id t' xs hi qZ
   split at h
   ·rename_i el el1 hu0 hu1
    split at h
    ·rename_i info hinfo
     split at h
     ·rename_i z t y ys hz hsrc
      split at h
      ·cases h
      ·rename_i hne
       split at h
       ·rename_i htt
        subst htt
        split at h
        ·rename_i hok
         simp only [Option.some.injEq] at h
         subst h
         obtain ⟨zs,hzs,hK⟩:=bind_some hK
         unfold app at hzs
         split at hzs
         ·rename_i hroom
          simp only [Option.some.injEq] at hzs
          subst hzs
          refine ⟨_,?_,hK⟩
          have hu0':P.underlying t0=some (.slice el):=hu0
          have hu1':P.underlying t1=some (.slice el1):=hu1
          have hinfo':P.info? el=some info:=hinfo
          simp only [vW,hcal,hargs,htys,hu0',hu1',hinfo',hz,hsrc,qZ]
          rw [if_neg hne,dif_pos trivial,if_pos hok,if_pos hroom]
         ·cases hzs
        ·cases h
       ·cases h
     ·cases h
    ·cases h
   ·cases h
  ·cases h
 ·cases h
theorem zVs {q:Kex Γ ρ} {dst:Option Tmp} {c:Call} (h:zT8 P G e dst c=some q):wQ P G e dst c=none:=by
 unfold zT8 at h
 split at h
 ·rename_i p x1 t0 t1 d hcal hargs htys
  split at h
  ·rename_i id t' xs hi qZ
   unfold wQ
   simp only [hcal,hargs,htys]
   repeat' split
   all_goals first|rfl|skip
   all_goals (rename_i hdst _ _;simp only [evx,qZ,zTJ] at hdst;cases hdst)
  ·cases h
 ·cases h
theorem zXu {q:Kex Γ ρ} {K:Env Γ.St→Option ρ} (h:wX P G e o=some q) (hK:q K=some v): ∃e1,evW P G e o=some e1∧K e1=some v:=by
 obtain ⟨dst,op,type,pos,after,guard⟩:=o
 cases op<;>simp only [wX,reduceCtorEq] at h
 case store t ap x=>
  split at h
  ·cases h
  ·rename_i hd
   split at h
   ·rename_i id ty xs i off d hp hx
    split at h
    ·rename_i hcond
     simp only [Option.some.injEq] at h
     subst h
     obtain ⟨y,hg,h3⟩:=bind_some hK
     unfold atN at hg
     split at h3
     ·rename_i z hz
      refine ⟨_,?_,h3⟩
      simp only [evW,hp,hx,zDR]
      rw [if_pos hcond]
      simp only [hg,hz]
     ·cases h3
    ·cases h
   ·cases h
 case call c=>
  split at h
  ·rename_i q' hq
   simp only [Option.some.injEq] at h
   subst h
   obtain ⟨e1,h1,h2⟩:=zT7 hq hK
   refine ⟨e1,?_,h2⟩
   simp only [evW,zVs hq,h1]
  ·split at h
   ·rename_i x0 x1 t0 t1 d hcal hargs htys _
    split at h
    ·rename_i el el1 hu0 hu1
     split at h
     ·rename_i info hinfo
      split at h
      ·rename_i z t ys hz hsrc
       split at h
       ·rename_i nm xs hdst
        split at h
        ·rename_i hok
         simp only [Option.some.injEq] at h
         subst h
         obtain ⟨zs,hzs,hK⟩:=bind_some hK
         unfold app at hzs
         split at hzs
         ·rename_i hroom
          simp only [Option.some.injEq] at hzs
          subst hzs
          refine ⟨_,?_,hK⟩
          have hu0':P.underlying t0=some (.slice el):=hu0
          have hu1':P.underlying t1=some (.slice el1):=hu1
          have hinfo':P.info? el=some info:=hinfo
          simp only [evW,wQ,hcal,hargs,htys,hu0',hu1',hinfo',hz,hsrc,hdst]
          rw [if_pos hok,if_pos hroom]
         ·cases hzs
        ·cases h
       ·cases h
      ·cases h
     ·cases h
    ·cases h
   ·cases h
theorem zQx {q:Kex Γ ρ} {K:Env Γ.St→Option ρ} (h:wXs P G e o=some q) (hK:q K=some v): ∃e1,evW P G e o=some e1∧K e1=some v:=by
 unfold wXs at h
 split at h
 ·rename_i q' hq
  simp only [Option.some.injEq] at h;subst h
  exact zXu hq hK
 ·split at h
  ·rename_i r hr
   simp only [Option.some.injEq] at h;subst h
   exact ⟨r,hr,hK⟩
  ·cases h
theorem zRw (hS:qF Γ P G S.toS) {q:Kex Γ ρ} {K:Env Γ.St→Option ρ} (h:zJn P G S e o=some q) (hK:q K=some v):
  ∃e1,zVB P G e o e1∧zX (wH G e o) e e1∧K e1=some v:=by
 unfold zJn at h
 split at h
 ·rename_i q' hq
  simp only [Option.some.injEq] at h;subst h
  obtain ⟨r,hr,hk⟩:=zLI hq hK
  split at hk
  ·rename_i e1 he1
   refine ⟨e1,fun w0 F0 O0 a w Q hi=>zHr (P:=P) hS hi ?_,?_,hk⟩
   ·simp only [zIA,hr,he1]
   ·refine (zLt he1).mono ?_
    intro t ht
    simp only [wH,v7] at ht
    exact ht.1
  ·cases hk
 ·obtain ⟨e1,h1,h2⟩:=zQx h hK
  exact ⟨e1,fun w0 F0 O0 a w Q hi=>zNQ hi h1,zRd h1,h2⟩
theorem zVw (e:Env Γ.St) (id p:Nat) (t:Ty) (ys zs:List t.El) (st:Γ.St) (dst:Option Tmp) (d:V) (hp:e.get p= .ot id t ys):zX (zCN dst) e (zX4 e id p t zs st dst d):=by
 have hg: ∀t',t'≠p→(⟨(e.tm.map (zI0 id t zs)).set p (.ot id t zs),e.vars.map (fun c=>c.map (List.map (qR id))),st⟩:Env Γ.St).get t'=zI0 id t zs (e.get t'):=by
  intro t' hne
  simp only [Env.get,List.getD_eq_getElem?_getD]
  rw [List.getElem?_set_ne (Ne.symm hne),List.getElem?_map]
  cases e.tm[t']? with
  |none=>simp [zI0,qR]
  |some x=>rfl
 have h1:zX 0 e (⟨(e.tm.map (zI0 id t zs)).set p (.ot id t zs),e.vars.map (fun c=>c.map (List.map (qR id))),st⟩:Env Γ.St):=by
  refine ⟨by simp,by simp,?_,?_,?_⟩
  ·intro t' d' ht' hx
   have hne:t'≠p:=fun h=>by rw [h,hp] at hx;cases hx
   rw [hg t' hne,hx];rfl
  ·intro t' s off _ _ hx
   have hne:t'≠p:=fun h=>by rw [h,hp] at hx;cases hx
   rw [hg t' hne,hx];rfl
  ·intro s ds _ _ hx
   have h2:(⟨(e.tm.map (zI0 id t zs)).set p (.ot id t zs),e.vars.map (fun c=>c.map (List.map (qR id))),st⟩:Env Γ.St).var s=(e.mapT (qR id)).var s:=rfl
   rw [h2,jL,hx]
   simp [qR,Function.comp_def]
 exact (h1.mono (fun t' _=>by simp)).same (zAw _ dst _)
theorem zVv (e:Env Γ.St) (id:Nat) (t:Ty) (zs:List t.El) (st:Γ.St) (dst:Option Tmp):zX (zCN dst) e (zX3 e id t zs st dst):=by
 have hg: ∀t',(⟨e.tm.map (qR id),e.vars.map (fun c=>c.map (List.map (qR id))),st⟩:Env Γ.St).get t'=qR id (e.get t'):=wD (f:=qR id) rfl e
 have h1:zX 0 e (⟨e.tm.map (qR id),e.vars.map (fun c=>c.map (List.map (qR id))),st⟩:Env Γ.St):=by
  refine ⟨by simp,by simp,?_,?_,?_⟩
  ·intro t' d' ht' hx
   rw [hg t',hx];rfl
  ·intro t' s off _ _ hx
   rw [hg t',hx];rfl
  ·intro s ds _ _ hx
   have h2:(⟨e.tm.map (qR id),e.vars.map (fun c=>c.map (List.map (qR id))),st⟩:Env Γ.St).var s=(e.mapT (qR id)).var s:=rfl
   rw [h2,jL,hx]
   simp [qR,Function.comp_def]
 exact (h1.mono (fun t' _=>by simp)).same (zAw _ dst _)
theorem zVn (hS:qF Γ P G S.toS) {q:Kex Γ ρ} {K:Env Γ.St→Option ρ} (h:qBd G S e o=some q) (hK:q K=some v):
  ∃e1,zVB P G e o e1∧zX (wH G e o) e e1∧K e1=some v:=by
 obtain ⟨dst,op,type,pos,after,guard⟩:=o
 unfold qBd at h
 split at h
 ·rename_i c hop
  subst hop
  split at h
  ·rename_i f p xs hcal hargs
   split at h
   ·rename_i g id t ys ds hf hp hxs
    split at h
    ·rename_i cx hcx
     split at h
     ·simp only [Option.some.injEq] at h
      subst h
      obtain ⟨hlens,hK⟩:=yD.1 hK
      obtain ⟨y,hy,hK⟩:=bind_some hK
      split at hK
      ·cases hK
      ·rename_i t' zs d hdb hres
       split at hK
       ·rename_i ht
        subst ht
        refine ⟨_,fun w0 F0 O0 a w Q hi=>zZ9 hS hi hcal hf hargs hp hxs hlens hdb (by rw [zKb hcx hy,hres]),?_,hK⟩
        refine (zVw e id p t' ys zs _ dst d hp).mono ?_
        intro b hb
        simp only [wH,v7] at hb
        exact hb.1
       ·cases hK
      ·cases hK
     ·split at h
      ·cases h
      ·rename_i hid
       have hid:id≠jJ:=fun hh=>by rw [hh,Nat.beq_refl] at hid;cases hid
       simp only [Option.some.injEq] at h
       subst h
       obtain ⟨y,hy,hK⟩:=bind_some hK
       split at hK
       ·rename_i t' zs hres
        split at hK
        ·rename_i ht
         subst ht
         refine ⟨_,fun w0 F0 O0 a w Q hi=>zYg hS hi hcal hf hargs hp hxs hid (by rw [zKb hcx hy,hres]),?_,hK⟩
         refine (zVv e id t' zs _ dst).mono ?_
         intro b hb
         simp only [wH,v7] at hb
         exact hb.1
        ·cases hK
       ·cases hK
    ·cases h
   ·cases h
  ·cases h
 ·cases h
theorem zVu (e:Env Γ.St) (s:Nat) (t:Ty) (z:t.El) (st:Γ.St) (dst:Option Tmp) (d:V):zX (zCN dst|||2^(2*s+1)) e (zX2 e s t z st dst d):=by
 have h1:zX (2^(2*s+1)) e (⟨e.tm,e.vars.set s (some ((t.cells z).map T.p)),st⟩:Env Γ.St):=
  (zPE s _ e).same ((zLs st _).mono (fun t _=>by simp))
 refine (h1.trans (zAw _ dst (.p d))).mono ?_
 intro b hb
 simp only [v7] at hb ⊢
 exact ⟨hb.2,hb.1⟩
theorem zUE (hS:qF Γ P G S.toS) {q:Kex Γ ρ} {K:Env Γ.St→Option ρ} (h:qAK P G S e o=some q) (hK:q K=some v):
  ∃e1,zVB P G e o e1∧zX (zI3 G e o) e e1∧K e1=some v:=by
 obtain ⟨dst,op,type,pos,after,guard⟩:=o
 unfold qAK at h
 split at h
 ·rename_i c hop
  subst hop
  split at h
  ·rename_i f hcal
   split at h
   ·rename_i g k s xs hf hspl
    split at h
    ·rename_i ds cs t hxs hcs hty
     split at h
     ·rename_i vs hvs
      split at h
      ·rename_i y hy
       split at h
       ·rename_i cx hcx
        split at h
        ·simp only [Option.some.injEq] at h
         subst h
         obtain ⟨u,hu,hK⟩:=bind_some hK
         split at hK
         ·rename_i t' z d hres
          split at hK
          ·rename_i ht
           subst ht
           refine ⟨_,fun w0 F0 O0 a w Q hi=>zZL hS hi hcal hf hspl hxs hcs hvs hy (by rw [zKb hcx hu,hres]),?_,hK⟩
           refine (zVu e s t' z _ dst d).mono ?_
           intro b hb
           simp only [zI3,wH,v7,hspl,qBD] at hb
           rw [v7]
           exact ⟨hb.1.1,hb.2⟩
          ·cases hK
         ·cases hK
        ·cases h
       ·cases h
      ·cases h
     ·cases h
    ·cases h
   ·cases h
  ·cases h
 ·cases h
theorem zKp (hS:qF Γ P G S.toS) {q:Kex Γ ρ} {K:Env Γ.St→Option ρ} (h:zRy P G S e o=some q) (hK:q K=some v):
  ∃e1,zVB P G e o e1∧zX (zI3 G e o) e e1∧K e1=some v:=by
 have hm: ∀b,(zI3 G e o).testBit b=false→(wH G e o).testBit b=false:=fun b hb=>by
  unfold zI3 at hb
  rw [v7] at hb
  exact hb.1
 unfold zRy at h
 split at h
 ·rename_i q' hq
  simp only [Option.some.injEq] at h;subst h
  obtain ⟨e1,h1,h2,h3⟩:=zRw hS hq hK
  exact ⟨e1,h1,h2.mono hm,h3⟩
 ·split at h
  ·rename_i q' hq
   simp only [Option.some.injEq] at h;subst h
   obtain ⟨e1,h1,h2,h3⟩:=zVn hS hq hK
   exact ⟨e1,h1,h2.mono hm,h3⟩
  ·exact zUE hS h hK
theorem zJX (hS:qF Γ P G S.toS) {lg:Nat} {K:Env Γ.St→Nat→Option ρ} (h:zY7 P G S e lg o K=some v):
  ∃e1 d,zVB P G e o e1∧zX d e e1∧K e1 (lg|||d)=some v:=by
 unfold zY7 at h
 split at h
 ·rename_i q hq
  obtain ⟨e1,h1,h2,h3⟩:=zKp hS hq h
  exact ⟨e1,_,h1,h2,h3⟩
 ·split at h
  ·rename_i q hq
   obtain ⟨e1,h1,h2,h3⟩:=zKp hS hq h
   exact ⟨e1,_,fun w0 F0 O0 a w Q hi=>h1 w0 F0 O0 a w Q (Inv.frzOps _ _ hi),(zGb _ e).trans h2,h3⟩
  ·cases h
theorem zSG (hS:qF Γ P G S.toS) {lg:Nat} {K:Env Γ.St→Nat→Option ρ} (h:zXE P G S ops e lg o K=some v):
  ∃e1 d,zWe P G ops e o e1∧zX d e e1∧K e1 (lg|||d)=some v:=by
 unfold zXE at h
 split at h
 ·rename_i hg
  obtain ⟨e1,d,h1,h2,h3⟩:=zJX hS h
  exact ⟨e1,d, .inl ⟨by simp only [jN,hg],h1⟩,h2,h3⟩
 ·rename_i j want hg
  split at h
  ·rename_i hj
   exact ⟨_,_, .inr ⟨by simp only [jN,hg,hj],rfl⟩,zAw e o.dst _,h⟩
  ·rename_i t hj
   split at h
   ·rename_i b hb
    split at h
    ·rename_i hlt
     have hw:jN ops e o=some (b==want):=by simp only [jN,hg,hj,hb,hlt,if_true]
     cases b with
     |true=>
      simp only [cond_true] at h
      split at h
      ·rw [zH0,zHi hb] at h
       obtain ⟨e1,d,h1,h2,h3⟩:=zJX hS h
       exact ⟨e1,d, .inl ⟨hw,h1⟩,h2,h3⟩
      ·rw [zHi hb] at h
       exact ⟨_,_, .inr ⟨hw,rfl⟩,zAw e o.dst _,h⟩
     |false=>
      simp only [cond_false] at h
      split at h
      ·rw [zHi hb] at h
       exact ⟨_,_, .inr ⟨hw,rfl⟩,zAw e o.dst _,h⟩
      ·rw [zH0,zHi hb] at h
       obtain ⟨e1,d,h1,h2,h3⟩:=zJX hS h
       exact ⟨e1,d, .inl ⟨hw,h1⟩,h2,h3⟩
    ·cases h
   ·rename_i vs hb
    exact ⟨_,_, .inr ⟨by simp only [jN,hg,hj,hb],rfl⟩,zAw e o.dst _,h⟩
   ·cases h
theorem zOf (hS:qF Γ P G S.toS) {K:Env Γ.St→Nat→Option ρ} : ∀ (l:List Oper) (e:Env Γ.St) (lg:Nat),seqX P G S ops l e lg K=some v→ ∃e' d,zSk P G ops l e e'∧zX d e e'∧K e' (lg|||d)=some v:=by
 intro l
 induction l with
 |nil=>intro e lg h;exact ⟨e,0, .nil e,zX.refl e,by rw [Nat.or_zero];exact h⟩
 |cons o rest ih=>
  intro e lg h
  simp only [seqX] at h
  obtain ⟨e1,d,h1,h2,h3⟩:=zSG hS h
  rw [zUO] at h3
  obtain ⟨e',d',h4,h5,h6⟩:=ih e1 _ h3
  exact ⟨e',d|||d', .cons h1 h4,h2.trans h5,by rw [←Nat.or_assoc];exact h6⟩
theorem zNF {lg:Nat} {K:Env Γ.St→Nat→Option ρ} (h:zDo P G S e lg o K=some v): ∃r e1,evQ P G S.toS e o=some r∧zHH e o.dst r=some e1∧K e1 (lg|||zCN o.dst)=some v:=by
 unfold zDo at h
 split at h
 ·rename_i q hq
  obtain ⟨r,hr,hk⟩:=zLI hq h
  split at hk
  ·rename_i e1 he1;exact ⟨r,e1,hr,he1,hk⟩
  ·cases hk
 ·cases h
theorem zIV {K:Env Γ.St→Nat→Option ρ} : ∀ (l:List Oper) (e:Env Γ.St) (lg:Nat),zAt P G S ops l e lg K=some v→ ∃e' d,zBb P G S.toS ops l e=some e'∧zX d e e'∧K e' (lg|||d)=some v:=by
 intro l
 induction l with
 |nil=>intro e lg h;exact ⟨e,0,rfl,zX.refl e,by rw [Nat.or_zero];exact h⟩
 |cons o rest ih=>
  intro e lg h
  have run: ∀e0:Env Γ.St,e0=e→jN ops e o=some true→(if zLJ G (qD (o::rest)) e0 o then zDo P G S e0 lg o (fun e1 lg=>kOp o e1 (fun e1=>zAt P G S ops rest e1 lg K)) else none)=some v→
    ∃e' d,zBb P G S.toS ops (o::rest) e=some e'∧zX d e e'∧K e' (lg|||d)=some v:=by
   intro e0 he0 hw hh
   subst he0
   split at hh
   ·rename_i hp
    obtain ⟨r,e1,h1,h2,h3⟩:=zNF hh
    rw [zUO] at h3
    obtain ⟨e',d,h4,h5,h6⟩:=ih e1 _ h3
    refine ⟨e',zCN o.dst|||d,?_,(zSi h2).trans h5,by rw [←Nat.or_assoc];exact h6⟩
    simp only [zBb,hw,hp,if_true,h1,h2,h4]
   ·cases hh
  have skip: ∀e0:Env Γ.St,e0=e→jN ops e o=some false→zJE (o.dst.getD 0) (e0.put o.dst (.p (.val undef))) (fun e1=>zAt P G S ops rest e1 (lg|||zCN o.dst) K)=some v→
    ∃e' d,zBb P G S.toS ops (o::rest) e=some e'∧zX d e e'∧K e' (lg|||d)=some v:=by
   intro e0 he0 hw hh
   subst he0
   rw [zH0] at hh
   obtain ⟨e',d,h4,h5,h6⟩:=ih _ _ hh
   refine ⟨e',zCN o.dst|||d,?_,(zAw _ o.dst _).trans h5,by rw [←Nat.or_assoc];exact h6⟩
   simp only [zBb,hw,h4]
  unfold zAt at h
  split at h
  ·rename_i hg;exact run e rfl (by simp only [jN,hg]) h
  ·rename_i j want hg
   split at h
   ·rename_i hj;exact skip e rfl (by simp only [jN,hg,hj]) h
   ·rename_i t hj
    split at h
    ·rename_i b hb
     split at h
     ·rename_i hlt
      have hw:jN ops e o=some (b==want):=by simp only [jN,hg,hj,hb,hlt,if_true]
      cases b with
      |true=>
       simp only [cond_true] at h
       split at h
       ·rw [zH0] at h;exact run _ (zHi hb) hw h
       ·exact skip _ (zHi hb) hw h
      |false=>
       simp only [cond_false] at h
       split at h
       ·exact skip _ (zHi hb) hw h
       ·rw [zH0] at h;exact run _ (zHi hb) hw h
     ·cases h
    ·rename_i vs hb;exact skip e rfl (by simp only [jN,hg,hj,hb]) h
    ·cases h
theorem zIX: ∀ (ds:List Nat) (e:Env Γ.St),zX (zT1 ds) e (killAll ds e):=by
 intro ds
 induction ds with
 |nil=>intro e;exact zX.refl e
 |cons d r ih=>intro e;exact (zJ0 d e).trans (ih _)
theorem zSb (hmix:P.follows .mixedOrders=true) (hS:qF Γ P G S.toS) {lg:Nat} {K:Env Γ.St→Nat→Option ρ} {k:Nat} (h:zPt P G S ops k e lg K=some v): ∃e' d,(∀ (id:Nat) (w0:World) (F0:Blk→Prop) (O0:yK) (a:Act) (w:World) (Q:Exit→Act→World→Prop),
  Inv Γ G w0 F0 O0 a w e→(∀a w,Inv Γ G w0 F0 O0 a w e'→Q .normal a w)→(Code.region id ops true).wp P Q a w)∧zX d e e'∧K e' (lg|||d)=some v:=by
 unfold zPt at h
 split at h
 ·rename_i hc
  simp only [Bool.and_eq_true,decide_eq_true_eq] at hc
  obtain ⟨⟨⟨h1,h2⟩,h3⟩,h4⟩:=hc
  rw [kS] at h
  obtain ⟨e1,d1,h5,h6,h7⟩:=zIV _ _ _ h
  obtain ⟨e',d2,h8,h9,h10⟩:=zOf hS _ _ _ h7
  refine ⟨e',_|||d1|||d2,fun id w0 F0 O0 a w Q hi hQ=>zQ8 hmix hS hi h1 h2 h3 (e1:=e1) ?_ h8 hQ,((zIX _ e).trans h6).trans h9,?_⟩
  ·unfold zJK
   rw [if_pos h4]
   exact h5
  ·rw [Nat.or_assoc, ←Nat.or_assoc, ←Nat.or_assoc];exact h10
 ·cases h
theorem zWS {St:Type} {e1:Env St} : ∀ (l:List Nat) (fl:List Fl),zUZ ops e1 l=some fl→
  (∀q,q∈fl→q.i∈l∧ ∃o,ops[q.i]? =some o∧o.dst=some q.d∧((zUP (e1.get q.d)=true∧q.v= .c (e1.get q.d))∨ ∃s,o.op= .move (.tmp s)∧q.v= .a s))∧ ∀i,i∈l→ ∃q,q∈fl∧q.i=i:=by
 intro l
 induction l with
 |nil=>intro fl h;simp only [zUZ,Option.some.injEq] at h;subst h;exact ⟨fun q hq=>by simp at hq,fun i hi=>by simp at hi⟩
 |cons i r ih=>
  intro fl h
  simp only [zUZ] at h
  split at h
  ·rename_i o ho
   split at h
   ·rename_i d hd
    have step: ∀q0:Fl,q0.i=i→q0.d=d→((zUP (e1.get d)=true∧q0.v= .c (e1.get d))∨ ∃s,o.op= .move (.tmp s)∧q0.v= .a s)→(zUZ ops e1 r).map (q0:: ·)=some fl→
      (∀q,q∈fl→q.i∈i::r∧ ∃o,ops[q.i]? =some o∧o.dst=some q.d∧((zUP (e1.get q.d)=true∧q.v= .c (e1.get q.d))∨ ∃s,o.op= .move (.tmp s)∧q.v= .a s))∧ ∀j,j∈i::r→ ∃q,q∈fl∧q.i=j:=by
     intro q0 h1 h2 h3 hm
     simp only [Option.map_eq_some_iff] at hm
     obtain ⟨fl0,hfl0,rfl⟩:=hm
     obtain ⟨g1,g2⟩:=ih fl0 hfl0
     refine ⟨?_,?_⟩
     ·intro q hq
      rcases List.mem_cons.1 hq with rfl|hq
      ·rw [h1,h2];exact ⟨by simp,o,ho,hd,h3⟩
      ·obtain ⟨k1,k2⟩:=g1 q hq
       exact ⟨List.mem_cons_of_mem _ k1,k2⟩
     ·intro j hj
      rcases List.mem_cons.1 hj with rfl|hj
      ·exact ⟨q0,by simp,h1⟩
      ·obtain ⟨q,k1,k2⟩:=g2 j hj
       exact ⟨q,List.mem_cons_of_mem _ k1,k2⟩
    split at h
    ·rename_i hpl;exact step ⟨i,d, .c (e1.get d)⟩ rfl rfl (.inl ⟨hpl,rfl⟩) h
    ·split at h
     ·rename_i s hop;exact step ⟨i,d, .a s⟩ rfl rfl (.inr ⟨s,hop,rfl⟩) h
     ·cases h
   ·cases h
  ·cases h
theorem zRT {fl:List Fl} {t:Nat} :flD fl t=true↔ ∃q,q∈fl∧q.d=t:=by
 simp only [flD,List.any_eq_true]
 constructor
 ·rintro ⟨q,hq,h⟩;exact ⟨q,hq,Nat.eq_of_beq_eq_true h⟩
 ·rintro ⟨q,hq,rfl⟩;exact ⟨q,hq,by simp⟩
theorem zTs {n:Nat} {fl:List Fl} (h1:zTt n fl=true) (h2:zYB fl=true):zIL n fl:=by
 have hd: ∀l:List Fl,zTt n l=true→l.Pairwise (fun p q=>p.d≠q.d)∧ ∀q,q∈l→q.d<n:=by
  intro l
  induction l with
  |nil=>intro _;exact ⟨.nil,fun q hq=>by simp at hq⟩
  |cons q r ih=>
   intro h
   simp only [zTt,Bool.and_eq_true,Bool.not_eq_true'] at h
   obtain ⟨⟨g1,g2⟩,g3⟩:=h
   obtain ⟨k1,k2⟩:=ih g3
   refine ⟨List.pairwise_cons.2 ⟨?_,k1⟩,?_⟩
   ·intro p hp hh
    have:flD r q.d=true:=zRT.2 ⟨p,hp,hh.symm⟩
    rw [g1] at this;cases this
   ·intro p hp
    rcases List.mem_cons.1 hp with rfl|hp
    ·simpa using g2
    ·exact k2 p hp
 refine ⟨(hd fl h1).1,(hd fl h1).2,?_⟩
 intro q hq s hs p hp hh
 have:=List.all_eq_true.1 h2 q hq
 rw [hs] at this
 simp only [Bool.not_eq_true'] at this
 have h3:flD fl s=true:=zRT.2 ⟨p,hp,hh.symm⟩
 rw [this] at h3;cases h3
theorem zS8 {d:Nat} {x:T} (h:noD d x=true):qO d x=x:=by
 cases x<;>simp only [noD,qO] at h ⊢ <;>first|rfl|(rw [if_neg];intro hh;subst hh;simp at h)
theorem zVk {St:Type} {d:Nat} {e:Env St} (h1: ∀x,x∈e.tm→noD d x=true) (h2: ∀cs,some cs∈e.vars→ ∀x,x∈cs→noD d x=true) (h3:e.var d=none):e.kill d=e:=by
 obtain ⟨tm,vars,st⟩:=e
 simp only [Env.kill,Env.mk.injEq,and_true]
 refine ⟨?_,?_⟩
 ·exact (List.map_congr_left (fun x hx=>zS8 (h1 x hx))).trans (List.map_id _)
 ·have hs:vars.set d none=vars:=by
   apply List.ext_getElem?
   intro i
   rw [List.getElem?_set]
   split
   ·rename_i h;subst h
    simp only [Env.var] at h3
    split
    ·rename_i hl
     rw [List.getElem?_eq_getElem hl] at h3 ⊢
     simpa using h3.symm
    ·rename_i hl;rw [List.getElem?_eq_none (by omega)]
   ·rfl
  rw [hs]
  refine (List.map_congr_left (g:=id) ?_).trans (List.map_id _)
  intro c hc
  cases c with
  |none=>rfl
  |some cs=>exact congrArg some ((List.map_congr_left (fun x hx=>zS8 (h2 cs hc x hx))).trans (List.map_id _))
theorem zYI {S:jG Γ} {L:jC} (st:Γ.St) (hc:isCall o=false):evQ L G S { e with st:=st } o=evQ L G S e o:=
 zPd (fun x _=>by cases x<;>rfl) (fun _ _ _ _ _=>rfl) (fun h=>by rw [hc] at h;cases h)
theorem zZK {St:Type} {b:Env St} : ∀ (L:List Fl) (b:Env St) (x:T),x∈(jZ b L).tm→x∈b.tm∨(∃q,q∈L∧ ∃y,q.v= .c y∧x=y)∨x= .dead:=by
 intro L
 induction L with
 |nil=>intro b x h;exact .inl h
 |cons q L ih=>
  intro b x h
  rcases ih (zDb b q) x h with h|⟨r,hr,y,hy⟩|h
  ·simp only [zDb] at h
   rcases List.mem_or_eq_of_mem_set h with h|h
   ·exact .inl h
   ·unfold Fl.val at h
    cases hv:q.v with
    |c y=>rw [hv] at h;exact .inr (.inl ⟨q,by simp,y,hv,h⟩)
    |a s=>
     rw [hv] at h
     simp only [Env.get,List.getD_eq_getElem?_getD] at h
     cases hg:b.tm[s]? with
     |none=>rw [hg] at h;exact .inr (.inr h)
     |some z=>rw [hg] at h;simp only [Option.getD_some] at h;subst h;exact .inl (List.mem_of_getElem? hg)
  ·exact .inr (.inl ⟨r,List.mem_cons_of_mem _ hr,y,hy⟩)
  ·exact .inr (.inr h)
theorem zOL {Sp:jG Γ} {Cm Um:Nat} {anc:Array Nat} (hch:zVE ops anc Cm Um) {fl:List Fl} {e1 b:Env Γ.St} {m:Nat} (hfl:zIL e1.tm.length fl)
  (hspec: ∀q,q∈fl→Cm.testBit q.i=false∧Um.testBit q.i=true∧ ∃o,ops[q.i]? =some o∧o.dst=some q.d∧((zUP (e1.get q.d)=true∧q.v= .c (e1.get q.d))∨ ∃s,o.op= .move (.tmp s)∧q.v= .a s))
  (hvar: ∀q,q∈fl→e1.var q.d=none) (hA:zX m (zEw e1 fl) b)
  {q:Fl} (hq:q∈fl) (hst: ∀o,ops[q.i]? =some o→ ∃st st',zD4 P G Sp (w7 ops Cm) e1 st o st') (h:zZM ops fl m e1 b q=true):zLv P G Sp ops fl b q:=by
 intro o p ho hp
 obtain ⟨hC,hU,o',ho',hd,hcase⟩:=hspec q hq
 rw [ho] at ho'
 cases ho'
 have hg:=hch.guardC q.i o ho (.inr hU)
 have hnc:=hch.call q.i o ho hC hU
 obtain ⟨d1,d2,d3⟩:=zTN hfl
 have hlen:b.tm.length=e1.tm.length:=hA.tl.trans d1.len
 obtain ⟨a1,a2⟩:=zAN (fl.filter p) b e1.tm.length (hfl.filter p) (by rw [hlen];exact Nat.le_refl _)
 have hal:=x5 (fl.filter p) b
 unfold zZM at h
 rw [ho] at h
 simp only at h
 rcases hcase with ⟨hpl,hv⟩|⟨s,hop,hv⟩
 ·-- a value
  rw [hv] at h
  simp only [Bool.and_eq_true] at h
  obtain ⟨⟨h1,h2⟩,h3⟩:=h
  obtain ⟨st,st',x8⟩:=hst o ho
  rcases x8 with ⟨_,r,hev,_,hneed,hdst⟩|⟨hw,_⟩
  ·obtain ⟨g1,g2,g3⟩:=hdst q.d hd
   have qZ:=g1 (hfl.lt q hq)
   have hev':evQ P G Sp (jZ b (fl.filter p)) o=some r:=by
    rw [←hev,zYI st hnc, ←zYI (e:=e1) (jZ b (fl.filter p)).st hnc]
    have hops: ∀x,x∈o.op.operands→evx G (jZ b (fl.filter p)) x=evx G e1 x∧ ∀s off,evx G e1 x= .lp s off→(jZ b (fl.filter p)).var s=e1.var s:=by
     intro x hx
     have hok:=List.all_eq_true.1 h1 x (by simpa using hx)
     cases x with
     |tmp t=>
      simp only [zX9,Bool.and_eq_true,Bool.or_eq_true] at hok
      obtain ⟨hwhich,hm⟩:=hok
      have hvars: ∀s off,e1.get t= .lp s off→(jZ b (fl.filter p)).var s=e1.var s:=by
       intro s off hlp
       rw [hlp] at hm
       simp only [Bool.and_eq_true,Bool.not_eq_true'] at hm
       obtain ⟨hsb,hm⟩:=hm
       split at hm
       ·rename_i cs hcs
        simp only [Bool.and_eq_true,Bool.not_eq_true'] at hm
        have hds: ∃ds:List V,cs=ds.map T.p:=by
         have hall:=hm.1
         clear hcs hm
         induction cs with
         |nil=>exact ⟨[],rfl⟩
         |cons c cs ih=>
          simp only [List.all_cons,Bool.and_eq_true] at hall
          obtain ⟨ds,hds⟩:=ih hall.2
          cases c with
          |p d0=>exact ⟨d0::ds,by rw [hds];rfl⟩
          |_=>simp at hall
        obtain ⟨ds,rfl⟩:=hds
        have hvv:=hA.v s ds hsb hm.2 (by rw [d1.var];exact hcs)
        rw [hal.var,hvv,hcs]
       ·cases hm
      refine ⟨?_,fun s off hs=>hvars s off hs⟩
      show (jZ b (fl.filter p)).get t=e1.get t
      rcases hwhich with hok|hok
      ·simp only [flC,List.any_eq_true,Bool.and_eq_true] at hok
       obtain ⟨q',hq',hqd,hqc⟩:=hok
       have hqd:=Nat.eq_of_beq_eq_true hqd
       subst hqd
       obtain ⟨_,_,o2,ho2,hd2,hcase2⟩:=hspec q' hq'
       have hpq:=hp q' hq' hx
       have hval:=a2 q' (List.mem_filter.2 ⟨hq',hpq⟩)
       have hv2:q'.v= .c (e1.get q'.d):=by
        rcases hcase2 with ⟨_,h5⟩|⟨s5,_,h5⟩
        ·exact h5
        ·rw [h5] at hqc;cases hqc
       rw [hval];unfold Fl.val;rw [hv2]
      ·simp only [Bool.and_eq_true,Bool.not_eq_true'] at hok
       obtain ⟨hnf,hbit⟩:=hok
       have hnf': ∀q',q'∈fl→t≠q'.d:=by
        intro q' hq' hh
        have:flD fl t=true:=zRT.2 ⟨q',hq',hh.symm⟩
        rw [hnf] at this;cases this
       have hdt:=d2 t hnf'
       have hbt:=a1 t (fun q' hq'=>hnf' q' (List.mem_filter.1 hq').1)
       split at hm
       ·rename_i dv hdv
        have:=hA.p t dv hbit (by rw [hdt];exact hdv)
        rw [hbt,this,hdv]
       ·rename_i s off hlp
        simp only [Bool.and_eq_true,Bool.not_eq_true'] at hm
        have:=hA.lp t s off hbit hm.1 (by rw [hdt];exact hlp)
        rw [hbt,this,hlp]
       ·cases hm
     |_=>exact ⟨rfl,fun s off hs=>by
       simp only [evx] at hs
       first|cases hs|(split at hs<;>cases hs)⟩
    exact zL7 (fun x hx=>(hops x hx).1) (fun x hx s off hs=>(hops x hx).2 s off (by rw [←(hops x hx).1];exact hs)) rfl
   have hrc:=zL6 hev hnc
   refine .inl ?_
   simp only [zIA,hev',hd]
   have hgoal: ∀e2:Env Γ.St,e2= { (jZ b (fl.filter p)) with tm:=(jZ b (fl.filter p)).tm.set q.d (zPT q.d r) } →some e2=some (zDb (jZ b (fl.filter p)) q):=by
    intro e2 he2
    rw [he2]
    unfold zDb Fl.val
    rw [hv,qZ]
   unfold zAf
   cases hn:r.needs with
   |false=>
    simp only [hn,Bool.false_eq_true,if_false]
    apply hgoal
    cases r with
    |ret x=>rfl
    |call _ _ _=>cases hrc
    |_=>cases hn
   |true=>
    simp only [hn,if_true]
    unfold qAt at h2
    simp only [Bool.and_eq_true] at h2
    obtain ⟨⟨⟨k1,k2⟩,k3⟩,k4⟩:=h2
    have hvl:q.d< (jZ b (fl.filter p)).vars.length:=by rw [hal.vars];simpa using k4
    rw [if_pos ⟨hvl,by obtain ⟨d',hd',hdL⟩:=hneed hn;rw [hd] at hd';simp only [Option.some.injEq] at hd';rw [hd'];exact hdL⟩]
    have hk:(jZ b (fl.filter p)).kill q.d=jZ b (fl.filter p):=by
     refine zVk ?_ ?_ ?_
     ·intro x hx
      rcases zZK (b:=b) _ _ x hx with hx|⟨q',hq',y,hy,rfl⟩|rfl
      ·exact List.all_eq_true.1 k1 x hx
      ·have:=List.all_eq_true.1 h3 q' (List.mem_filter.1 hq').1
       rw [hy] at this
       exact this
      ·rfl
     ·intro cs hcs x hx
      rw [hal.vars] at hcs
      have:=List.all_eq_true.1 k2 (some cs) hcs
      exact List.all_eq_true.1 this x hx
     ·rw [hal.var];exact Option.isNone_iff_eq_none.1 k3
    rw [hk]
    apply hgoal
    cases r with
    |var cs=>have:=g2 cs rfl;rw [hvar q hq] at this;cases this
    |call _ _ _=>cases hrc
    |ret x=>cases hn
    |_=>rfl
  ·simp only [jN,hg] at hw
   cases hw
 ·-- a copy
  refine .inl ?_
  obtain ⟨dst,op,type,pos,after,guard⟩:=o
  simp only at hop hd
  subst hop hd
  simp only [zIA,evQ,zAf,R.needs,Bool.false_eq_true,if_false]
  simp only [zDb,Fl.val,hv]
  rfl
theorem zIO {q:Kex Γ ρ} {K:Env Γ.St→Option ρ} (h:zJn P G S e o=some q) (hK:q K=some v):
  ∃e1,(zIA P G S.toS e o=some e1∨evW P G e o=some e1)∧zX (wH G e o) e e1∧K e1=some v:=by
 unfold zJn at h
 split at h
 ·rename_i q' hq
  simp only [Option.some.injEq] at h;subst h
  obtain ⟨r,hr,hk⟩:=zLI hq hK
  split at hk
  ·rename_i e1 he1
   refine ⟨e1, .inl ?_,?_,hk⟩
   ·simp only [zIA,hr,he1]
   ·refine (zLt he1).mono ?_
    intro t ht
    simp only [wH,v7] at ht
    exact ht.1
  ·cases hk
 ·obtain ⟨e1,h1,h2⟩:=zQx h hK
  exact ⟨e1, .inr h1,zRd h1,h2⟩
theorem zVy: ∀ (l:List Nat) (e:Env Γ.St),zX 0 e (frzI l e):=by
 intro l
 induction l with
 |nil=>intro e;exact zX.refl e
 |cons i r ih=>intro e;exact ((zBl i e).trans (ih _)).mono (fun t _=>by simp)
theorem zRx {q:Kex Γ ρ} {K:Env Γ.St→Option ρ} (h:zUz P G S e o=some q) (hK:q K=some v):
  ∃e1,zGs P G S.toS e o e1∧zX (wH G e o) e e1∧K e1=some v:=by
 unfold zUz at h
 split at h
 ·rename_i q' hq
  simp only [Option.some.injEq] at h;subst h
  obtain ⟨e1,h1,h2,h3⟩:=zIO hq hK
  exact ⟨e1,h1.elim .inl (fun h=> .inr (.inl h)),h2,h3⟩
 ·split at h
  ·rename_i hB
   obtain ⟨e1,h1,h2,h3⟩:=zIO h hK
   refine ⟨e1,?_,?_,h3⟩
   ·rcases h1 with h1|h1
    ·exact .inr (.inr ⟨hB,h1⟩)
    ·rw [zWY hB] at h1
     cases h1
   ·rw [zFo hB] at h2 ⊢
    exact ((zVy _ e).trans h2).mono (fun t ht=>by simpa using ht)
  ·cases h
theorem zXe: ∀ {fl:List Fl} {t:Nat},(zB0 fl).testBit t=false→ ∀q,q∈fl→t≠2*q.d:=by
 intro fl
 induction fl with
 |nil=>intro t _ q hq;simp at hq
 |cons p r ih=>
  intro t h q hq
  simp only [zB0,v7] at h
  rcases List.mem_cons.1 hq with rfl|hq
  ·exact (zNU _ _).1 h.1
  ·exact ih h.2 q hq
theorem zJZ {St:Type} : ∀ (L:List Fl) (e:Env St),zX (zB0 L) e (jZ e L):=by
 intro L
 induction L with
 |nil=>intro e;exact zX.refl e
 |cons q L ih=>intro e;exact (zDq q.d (q.val e) e).trans (ih (zDb e q))
theorem zRc {L fl:List Fl} (h: ∀q,q∈L→ ∃r,r∈fl∧r.d=q.d) {t:Nat} (ht:(zB0 fl).testBit t=false):(zB0 L).testBit t=false:=by
 induction L with
 |nil=>simp [zB0]
 |cons q L ih=>
  simp only [zB0,v7]
  refine ⟨(zNU _ _).2 ?_,ih (fun p hp=>h p (List.mem_cons_of_mem _ hp))⟩
  obtain ⟨r,hr,hrd⟩:=h q (by simp)
  rw [←hrd]
  exact zXe ht r hr
theorem zRm {m:Nat} {dst:Option Nat} {q:Fl} (h:zUq m dst q=true):zUd m dst q:=by
 unfold zUq at h
 simp only [Bool.and_eq_true] at h
 obtain ⟨h1,h2⟩:=h
 refine ⟨?_,?_⟩
 ·intro hh
  rw [hh] at h1
  simp at h1
 ·split at h2
  ·rename_i hv;rw [hv];trivial
  ·rename_i hv;rw [hv];simpa using h2
  ·cases h2
  ·rename_i s hv
   rw [hv]
   intro hh
   rw [hh] at h2
   simp at h2
theorem zPz {Cm Um:Nat} {anc:Array Nat} (hch:zVE ops anc Cm Um) {fl:List Fl} {e1:Env Γ.St} (hfl:zIL e1.tm.length fl)
  (hspec: ∀q,q∈fl→Cm.testBit q.i=false∧Um.testBit q.i=true∧ ∃o,ops[q.i]? =some o∧o.dst=some q.d∧((zUP (e1.get q.d)=true∧q.v= .c (e1.get q.d))∨ ∃s,o.op= .move (.tmp s)∧q.v= .a s))
  (hvar: ∀q,q∈fl→e1.var q.d=none)
  (hst: ∀q,q∈fl→ ∀o,ops[q.i]? =some o→ ∃st st',zD4 P G S.toS (w7 ops Cm) e1 st o st') {K:Env Γ.St→Nat→Option ρ} : ∀ (l:List Nat) (b:Env Γ.St) (m:Nat),
  zHF P G S ops anc fl e1 l b m K=some v→zX m (zEw e1 fl) b→(∀t,m.testBit t=false→(zB0 fl).testBit t=false)→
  ∃b' M,zHL P G S.toS ops anc fl l b b'∧zX M (zEw e1 fl) (jZ b' fl)∧(∀t,M.testBit t=false→(zB0 fl).testBit t=false)∧K (jZ b' fl) M=some v:=by
 intro l
 induction l with
 |nil=>
  intro b m h hA hm
  simp only [zHF] at h
  rw [kS] at h
  exact ⟨b,_, .nil b,hA.trans (zJZ fl b),fun t ht=>((v7 _ _ _).1 ht).2,h⟩
 |cons c rest ih=>
  intro b m h hA hm
  simp only [zHF] at h
  split at h
  ·rename_i o ho
   rw [kS] at h
   split at h
   ·rename_i hchk
    simp only [Bool.and_eq_true] at hchk
    obtain ⟨hops,hstays⟩:=hchk
    split at h
    ·rename_i q hq
     obtain ⟨b1,h1,h2,h3⟩:=zRx hq h
     rw [zUO] at h3
     split at h3
     ·rename_i hok
      have hA1:zX (m|||(zB0 fl|||wH G (jZ b (fl.filter (zVt anc c))) o)) (zEw e1 fl) b1:=by
       have hput:zX (zB0 fl) b (jZ b (fl.filter (zVt anc c))):=(zJZ _ b).mono (fun t ht=>zRc (fun q hq=>⟨q,(List.mem_filter.1 hq).1,rfl⟩) ht)
       exact hA.trans (hput.trans h2)
      obtain ⟨b',M,g1,g2,g3,g4⟩:=ih b1 _ h3 hA1 (fun t ht=>hm t ((v7 _ _ _).1 ht).1)
      refine ⟨b',M, .cons ho h1 ?_ ?_ ?_ g1,g2,g3,g4⟩
      ·intro q hqf hx
       have hx1:=List.all_eq_true.1 hops (.tmp q.d) (by simpa using hx)
       have hx2:=List.all_eq_true.1 hx1 q hqf
       simpa [zVt] using hx2
      ·intro q hqf
       exact zRm (List.all_eq_true.1 hstays q hqf)
      ·intro q hqf hnA
       have hx:=List.all_eq_true.1 hok q hqf
       rw [show zVt anc c q=false from hnA,Bool.false_or] at hx
       exact zOL hch hfl hspec hvar hA1 hqf (hst q hqf) hx
     ·cases h3
    ·cases h
   ·cases h
  ·cases h
theorem zSe (hmix:P.follows .mixedOrders=true) (hS:qF Γ P G S.toS) {Cm Um lg:Nat} {K:Env Γ.St→Nat→Option ρ} (h:zVm P G S ops Cm Um e lg K=some v): ∃e' d,(∀ (id:Nat) (w0:World) (F0:Blk→Prop) (O0:yK) (a:Act) (w:World) (Q:Exit→Act→World→Prop),
  Inv Γ G w0 F0 O0 a w e→(∀a w,Inv Γ G w0 F0 O0 a w e'→Q .normal a w)→(Code.region id ops true).wp P Q a w)∧zX d e e'∧K e' (lg|||d)=some v:=by
 unfold zVm at h
 split at h
 ·rename_i hchk
  have hch:=zZ8 hchk
  rw [kS] at h
  obtain ⟨e1,d1,h1,h2,h3⟩:=zIV _ _ _ h
  split at h3
  ·rename_i fl hfl
   split at h3
   ·rename_i hc
    simp only [Bool.and_eq_true] at hc
    obtain ⟨⟨⟨c1,c2⟩,c3⟩,c4⟩:=hc
    have hflok:=zTs c1 c2
    obtain ⟨s1,s2⟩:=zWS _ _ hfl
    have hspec: ∀q,q∈fl→Cm.testBit q.i=false∧Um.testBit q.i=true∧ ∃o,ops[q.i]? =some o∧o.dst=some q.d∧((zUP (e1.get q.d)=true∧q.v= .c (e1.get q.d))∨ ∃s,o.op= .move (.tmp s)∧q.v= .a s):=by
     intro q hq
     obtain ⟨k1,k2⟩:=s1 q hq
     simp only [List.mem_filter,Bool.and_eq_true,Bool.not_eq_true'] at k1
     exact ⟨k1.2.2,k1.2.1,k2⟩
    have hvar: ∀q,q∈fl→e1.var q.d=none:=fun q hq=>Option.isNone_iff_eq_none.1 (List.all_eq_true.1 c3 q hq)
    have hah:=zPD hch.st 0 (w7 ops Cm).toList (by simp)
    have hno: ∀d,d∈qD (w7 ops Cm).toList→(killAll (qD (w7 ops Cm).toList) e).var d=none:=by
     intro d hd
     cases hv:(killAll (qD (w7 ops Cm).toList) e).var d with
     |none=>rfl
     |some cs=>exact absurd ⟨cs,hv⟩ (zAT _ e d hd).1
    obtain ⟨sts,_,_,hsteps,_,_,_⟩:=zF4 _ _ _ h1 hah hno
    have hst: ∀q,q∈fl→ ∀o,ops[q.i]? =some o→ ∃st st',zD4 P G S.toS (w7 ops Cm) e1 st o st':=by
     intro q hq o ho
     exact ⟨_,_,hsteps q.i o (by rw [Array.getElem?_toList];exact yC ho (hspec q hq).1)⟩
    rw [kS] at h3
    have hdead:zX (zB0 fl) e1 (zEw e1 fl):=(zJZ _ e1).mono (fun t ht=>zRc (fun q hq=>by
     obtain ⟨p,hp,rfl⟩:=List.mem_map.1 hq
     exact ⟨p,hp,rfl⟩) ht)
    have hA0:zX (zB0 fl) (zEw e1 fl) (zEw e1 fl):=(zX.refl _).mono (fun t _=>by simp)
    obtain ⟨b',M,g1,g2,g3,g4⟩:=zPz hch hflok hspec hvar hst _ _ _ h3 hA0 (fun t ht=>ht)
    have hfv: ∀q,q∈fl→e1.get q.d=q.val e1∧e1.var q.d=none:=by
     intro q hq
     refine ⟨?_,hvar q hq⟩
     obtain ⟨hC,hU,o,ho,hd,hcase⟩:=hspec q hq
     rcases hcase with ⟨_,hv⟩|⟨s,hop,hv⟩
     ·unfold Fl.val;rw [hv]
     ·obtain ⟨st,st',x8⟩:=hst q hq o ho
      have hg:=hch.guardC q.i o ho (.inr hU)
      rcases x8 with ⟨_,r,hev,_,_,hdst⟩|⟨hw,_⟩
      ·obtain ⟨k1,_,_⟩:=hdst q.d hd
       rw [k1 (hflok.lt q hq)]
       simp only [evQ,hop,Option.some.injEq] at hev
       subst hev
       unfold Fl.val;rw [hv];rfl
      ·simp only [jN,hg] at hw;cases hw
    refine ⟨jZ b' fl,(zT1 (qD (w7 ops Cm).toList)|||d1)|||M,?_,?_,?_⟩
    ·intro id w0 F0 O0 a w Q hi hQ
     refine zXb hmix hch hS hi h1 hflok ?_ ?_ hfv ?_ g1 hQ
     ·intro i hU hC hlt
      exact s2 i (by simp [hlt,hU,hC])
     ·intro q hq
      obtain ⟨k1,k2,o,ho,hd,_⟩:=hspec q hq
      exact ⟨k1,k2,o,ho,hd⟩
     ·intro q hq
      exact zOL hch hflok hspec hvar hA0 hq (hst q hq) (List.all_eq_true.1 c4 q hq)
    ·have hd2:zX M e1 (jZ b' fl):=(hdead.mono (fun t ht=>g3 t ht)).same g2
     exact ((zIX _ e).trans h2).trans hd2
    ·rw [←Nat.or_assoc, ←Nat.or_assoc];exact g4
   ·cases h3
  ·cases h3
 ·cases h
theorem zG3 (hmix:P.follows .mixedOrders=true) (hS:qF Γ P G S.toS) {d:Bool} {fz:Option (List (Nat×Nat×Nat))} {lg:Nat} {K:Env Γ.St→Nat→Option ρ} {id:Nat} (h:zSX P G S ops d fz e lg K=some v):
  ∃e' n,jK P G (.region id ops d) e .normal e'∧zX n e e'∧K e' (lg|||n)=some v:=by
 have draw: ∀ (e:Env Γ.St) (lg k:Nat),zPt P G S ops k e lg K=some v→ ∃e' n,jK P G (.region id ops true) e .normal e'∧zX n e e'∧K e' (lg|||n)=some v:=by
  intro e lg k h
  obtain ⟨e1,n,h1,h2,h3⟩:=zSb hmix hS h
  exact ⟨e1,n,fun w0 F0 O0 a w hi=>h1 id w0 F0 O0 a w _ hi (fun a w h=>⟨rfl,h⟩),h2,h3⟩
 unfold zSX at h
 split at h
 ·obtain ⟨e1,n,h1,h2,h3⟩:=zOf hS _ _ _ h
  refine ⟨e1,n,?_,h2,h3⟩
  intro w0 F0 O0 a w hi
  refine wp_region ?_
  have:=zVO (Q:=fun ex a' w'=>ex=X.toExit .normal∧Inv Γ G w0 F0 O0 a' w' e1) ops 0 ops.toList e e1 a w (by simp) h1 hi (fun a w h=>⟨rfl,h⟩)
  simpa [List.range_eq_range'] using this
 ·split at h
  ·exact draw e lg _ h
  ·rw [kS] at h
   obtain ⟨e1,n,h1,h2,h3⟩:=draw _ _ _ h
   exact ⟨e1,_,fun w0 F0 O0 a w hi=>h1 w0 F0 O0 a w (Inv.frzOps _ _ hi),(zGb _ e).trans h2,by rw [←Nat.or_assoc];exact h3⟩
  ·split at h
   ·exact draw e lg _ h
   ·exact draw e lg _ h
   ·rw [kS] at h
    obtain ⟨e1,n,h1,h2,h3⟩:=zSe hmix hS h
    exact ⟨e1,_,fun w0 F0 O0 a w hi=>h1 id w0 F0 O0 a w _ (Inv.frzOps _ _ hi) (fun a w h=>⟨rfl,h⟩),(zGb _ e).trans h2,by rw [←Nat.or_assoc];exact h3⟩
theorem zWT (a b:Nat):zZg (zUB a b):=⟨fun _=>rfl,fun _ _=>rfl,rfl⟩
theorem zUA {K:Env Γ.St→Option ρ} : ∀ (l:List (Nat×Nat×Nat)) (e:Env Γ.St),zWw l e K=some v→ ∃e',zX 0 e e'∧K e'=some v∧ ∀ (w0:World) (F0:Blk→Prop) (O0:yK) (a:Act) (w:World),Inv Γ G w0 F0 O0 a w e→Inv Γ G w0 F0 O0 a w e':=by
 intro l
 induction l with
 |nil=>intro e h;exact ⟨e,zX.refl e,h,fun _ _ _ _ _ h=>h⟩
 |cons x r ih=>
  intro e h
  obtain ⟨a,b,n⟩:=x
  simp only [zWw] at h
  split at h
  ·split at h
   ·rename_i hb
    rw [kS] at h
    obtain ⟨e',h1,h2,h3⟩:=ih _ h
    exact ⟨e',(zD1 (zWT a b) e).same h1,h2,fun w0 F0 O0 a0 w hi=>h3 w0 F0 O0 a0 w (by
     simp only [Bool.and_eq_true,Bool.not_eq_true'] at hb
     exact hi.ren hb.1 (fun h=>by rw [h] at hb;simp at hb) (fun h=>by rw [h] at hb;simp at hb))⟩
   ·cases h
  ·rw [kS] at h
   obtain ⟨e',h1,h2,h3⟩:=ih _ h
   exact ⟨e',(zBl _ e).same h1,h2,fun w0 F0 O0 a0 w hi=>h3 w0 F0 O0 a0 w (hi.frzOE _)⟩
  ·exact ih e h
theorem zOm (hmix:P.follows .mixedOrders=true) (hS:qF Γ P G S.toS) {d:Bool} {fz:Option (List (Nat×Nat×Nat))} {lg:Nat} {K:Env Γ.St→Nat→Option ρ} {id:Nat} (h:zZE P G S ops d fz e lg K=some v):
  ∃e' n,jK P G (.region id ops d) e .normal e'∧zX n e e'∧K e' (lg|||n)=some v:=by
 unfold zZE at h
 split at h
 ·exact zG3 hmix hS h
 ·exact zG3 hmix hS h
 ·obtain ⟨e1,n,h1,h2,h3⟩:=zG3 hmix hS (id:=id) h
  obtain ⟨e2,g1,g2,g3⟩:=zUA (G:=G) _ _ h3
  refine ⟨e2,n,?_,h2.same (g1.mono (fun t _=>by simp)),g2⟩
  intro w0 F0 O0 a w hi
  exact wp_mono (h1 w0 F0 O0 a w hi) (fun ex a' w' hh=>⟨hh.1,g3 w0 F0 O0 a' w' hh.2⟩)
end
end Go.Ve

namespace Go.Ve
open Go
inductive Cell where
 |p (ty:Ty)
 |o (id:Nat) (ty:Ty)
inductive zBr where
 |t (i:Nat) (ty:Ty)
 |o (i id:Nat) (ty:Ty)
 |v (s:Nat) (cs:List Cell)
 |st
@[reducible] def Cell.El:Cell→Type
 | .p ty=>ty.El
 | .o _ ty=>List ty.El
@[reducible] def zRf:List Cell→Type
 |[]=>Unit
 |[c]=>c.El
 |c::c'::r=>c.El×zRf (c'::r)
@[reducible] def zBr.El (St:Type):zBr→Type
 | .t _ ty=>ty.El
 | .o _ _ ty=>List ty.El
 | .v _ cs=>zRf cs
 | .st=>St
@[reducible] def vK (St:Type):List zBr→Type
 |[]=>Unit
 |[c]=>c.El St
 |c::c'::r=>c.El St×vK St (c'::r)
def rdT (ty:Ty):T→Option ty.El
 | .p d=>ty.dec d
 | .emp=>ty.dec (.sl [])
 |_=>none
def rdO (id:Nat) (ty:Ty):T→Option (List ty.El)
 | .p (.val (.slice none 0 0))=>some []
 | .emp=>some []
 | .ot i t xs=>match Nat.beq i id with
  |true=>zC7 t ty xs
  |false=>none
 |_=>none
def zSA:Nat→List T→Option (List V×List T)
 |0,r=>some ([],r)
 |n+1, .p d::r=>match zSA n r with
  |some (ds,r')=>some (d::ds,r')
  |none=>none
 |_+1,_=>none
def zLH:(c:Cell)→List T→Option (c.El×List T)
 | .p ty,ts=>match zSA ty.size ts with
  |some (ds,r)=>match ty.uncells ds with
   |some (x,[])=>some (x,r)
   |_=>none
  |none=>none
 | .o id ty,x::r=>match rdO id ty x with
  |some xs=>some (xs,r)
  |none=>none
 | .o _ _,[]=>none
def zHV:(cs:List Cell)→List T→Option (zRf cs)
 |[],[]=>some ()
 |[],_::_=>none
 |[c],ts=>match zLH c ts with
  |some (x,[])=>some x
  |_=>none
 |c::c'::r,ts=>match zLH c ts with
  |some (x,ts')=>match zHV (c'::r) ts' with
   |some xs=>some (x,xs)
   |none=>none
  |none=>none
def zLx:(c:Cell)→c.El→List T
 | .p ty,x=>(ty.cells x).map .p
 | .o id ty,xs=>[.ot id ty xs]
def zHM:(cs:List Cell)→zRf cs→List T
 |[],_=>[]
 |[c],x=>zLx c x
 |c::c'::r,x=>zLx c x.1++zHM (c'::r) x.2
section
variable {St:Type}
def zJp (e:Env St):(s:zBr)→Option (s.El St)
 | .t i ty=>rdT ty (e.get i)
 | .o i id ty=>rdO id ty (e.get i)
 | .v s cs=>match e.var s with
  |some ts=>zHV cs ts
  |none=>none
 | .st=>some e.st
def rdS (e:Env St):(l:List zBr)→Option (vK St l)
 |[]=>some ()
 |[s]=>zJp e s
 |s::s'::r=>match zJp e s with
  |some x=>match rdS e (s'::r) with
   |some xs=>some (x,xs)
   |none=>none
  |none=>none
def zDu:(s:zBr)→s.El St→List (Nat×T)
 | .t i ty,x=>[(i, .p (ty.enc x))]
 | .o i id ty,xs=>[(i, .ot id ty xs)]
 | .v _ _,_=>[]
 | .st,_=>[]
def zEO:(s:zBr)→s.El St→List (Nat×List T)
 | .v s cs,x=>[(s,zHM cs x)]
 | .t _ _,_=>[]
 | .o _ _ _,_=>[]
 | .st,_=>[]
def tmS:(l:List zBr)→vK St l→List (Nat×T)
 |[],_=>[]
 |[s],x=>zDu s x
 |s::s'::r,x=>zDu s x.1++tmS (s'::r) x.2
def vS:(l:List zBr)→vK St l→List (Nat×List T)
 |[],_=>[]
 |[s],x=>zEO s x
 |s::s'::r,x=>zEO s x.1++vS (s'::r) x.2
def zLB:(s:zBr)→s.El St→Option St
 | .st,x=>some x
 | .t _ _,_=>none
 | .o _ _ _,_=>none
 | .v _ _,_=>none
def stS:(l:List zBr)→vK St l→Option St
 |[],_=>none
 |[s],x=>zLB s x
 |s::s'::r,x=>match zLB s x.1 with
  |some y=>some y
  |none=>stS (s'::r) x.2
def qBu (x:Option St) (y:St):St:=
 match x with
 |some z=>z
 |none=>y
def zE9:List zBr→Bool
 |[]=>false
 | .st::_=>true
 | .t _ _::r=>zE9 r
 | .o _ _ _::r=>zE9 r
 | .v _ _::r=>zE9 r
end
def zC3 {α:Type} :List (Nat×α)→Nat→Option α
 |[],_=>none
 |(j,x)::r,i=>match Nat.beq j i with
  |true=>some x
  |false=>zC3 r i
def zLr:List T→Bool
 |[]=>true
 | .p _::r=>zLr r
 |_=>false
def zOV (m i:Nat):Option (List T)→Option (List T)
 |some cs=>match Nat.testBit m (2*i)||Nat.testBit m (2*i+1)|| !zLr cs with
  |true=>none
  |false=>some cs
 |none=>none
def xE (m:Nat) (vs:List (Nat×List T)):Nat→List (Option (List T))→List (Option (List T))
 |_,[]=>[]
 |i,x::r=>(match zC3 vs i with
  |some y=>some y
  |none=>zOV m i x)::xE m vs (i+1) r
def zOY (vars:List (Option (List T))) (s:Nat):Bool:=
 match vars[s]? with
 |some (some _)=>true
 |_=>false
def zQS (m:Nat) (vars:List (Option (List T))):T→T
 | .p d=> .p d
 | .lp s off=>match !Nat.testBit m (2*s)&&zOY vars s with
  |true=> .lp s off
  |false=> .dead
 |_=> .dead
def zHk (m:Nat) (ts:List (Nat×T)) (vars:List (Option (List T))):Nat→List T→List T
 |_,[]=>[]
 |i,x::r=>(match zC3 ts i with
  |some y=>y
  |none=>match Nat.testBit m (2*i) with
   |true=> .dead
   |false=>zQS m vars x)::zHk m ts vars (i+1) r
structure JA where
 mask:Nat
 lps:List (Nat×Nat×Nat)
 sl:List zBr
def lpT (vars:List (Option (List T))) (s off:Nat):T:=
 match zOY vars s with
 |true=> .lp s off
 |false=> .dead
def zRL (vars:List (Option (List T))):List (Nat×Nat×Nat)→List (Nat×T)
 |[]=>[]
 |(i,s,off)::r=>(i,lpT vars s off)::zRL vars r
def zKT:List (Nat×Nat×Nat)→Nat
 |[]=>0
 |(i,_,_)::r=>2^(2*i)|||zKT r
def kH:List zBr→Nat
 |[]=>0
 | .t i _::r=>2^(2*i)|||kH r
 | .o i _ _::r=>2^(2*i)|||kH r
 | .v s _::r=>2^(2*s+1)|||kH r
 | .st::r=>kH r
def JA.bits (j:JA):Nat:=j.mask|||(zKT j.lps|||kH j.sl)
def qAV (s off:Nat):T→Bool
 | .lp s' off'=>Nat.beq s' s&&Nat.beq off' off
 |_=>false
section
variable {St:Type}
def zYZ (e:Env St):List (Nat×Nat×Nat)→Bool
 |[]=>true
 |(i,s,off)::r=>qAV s off (e.get i)&&zYZ e r
def rdJ (j:JA) (e:Env St):Option (vK St j.sl):=
 match zYZ e j.lps with
 |true=>rdS e j.sl
 |false=>none
def jQ (j:JA) (e:Env St) (s:vK St j.sl):Env St:=
 ⟨zHk j.bits (zRL (xE j.bits (vS j.sl s) 0 e.vars) j.lps++tmS j.sl s) (xE j.bits (vS j.sl s) 0 e.vars) 0 e.tm,xE j.bits (vS j.sl s) 0 e.vars,qBu (stS j.sl s) e.st⟩
def zAj:List zBr→Nat→Bool
 |[],_=>false
 | .v s _::r,i=>Nat.beq s i||zAj r i
 | .t _ _::r,i=>zAj r i
 | .o _ _ _::r,i=>zAj r i
 | .st::r,i=>zAj r i
def zUJ (j:JA) (e:Env St):Nat→List T→Bool
 |_,[]=>true
 |i, .lp s _::r=>(Nat.testBit j.bits (2*i)||Nat.testBit j.bits (2*s)||(zAj j.sl s&&(e.vars[s]?).isSome)||(zOV j.bits s (e.var s)).isSome)&&zUJ j e (i+1) r
 |i,_::r=>zUJ j e (i+1) r
def okJ (j:JA) (e:Env St):Bool:=zUJ j e 0 e.tm
def zR1 (j:JA) (e:Env St) (lg:Nat):Option (vK St j.sl):=
 match Nat.beq (lg|||j.bits) j.bits with
 |true=>rdJ j e
 |false=>none
end
def qM {σ ρ:Type} (m:Option (σ ⊕ ρ)) (K:σ→Option ρ):Option ρ:=
 match m with
 |none=>none
 |some (.inl s)=>K s
 |some (.inr r)=>some r
def zDO {σ ρ:Type} (f:σ→Option (σ ⊕ ρ)):Nat→σ→Option ρ
 |0,_=>none
 |n+1,s=>match f s with
  |none=>none
  |some (.inl s')=>zDO f n s'
  |some (.inr r)=>some r
open Classical in
noncomputable def zK {σ ρ:Type} (f:σ→Option (σ ⊕ ρ)) (s:σ):Option ρ:=
 if h: ∃n r,zDO f n s=some r then some (Classical.choose (Classical.choose_spec h)) else none
theorem zOX {σ ρ:Type} {f:σ→Option (σ ⊕ ρ)} : ∀ (n m:Nat) (s:σ) (r:ρ),n≤m→zDO f n s=some r→zDO f m s=some r:=by
 intro n
 induction n with
 |zero=>intro m s r _ h;simp [zDO] at h
 |succ n ih=>
  intro m s r hm h
  obtain ⟨m',rfl⟩: ∃m',m=m'+1:=⟨m-1,by omega⟩
  simp only [zDO] at h ⊢
  split at h
  ·cases h
  ·exact ih m' _ r (by omega) h
  ·exact h
theorem zHY {σ ρ:Type} {f:σ→Option (σ ⊕ ρ)} {s:σ} {r:ρ} :zK f s=some r↔ ∃n,zDO f n s=some r:=by
 unfold zK
 constructor
 ·intro h
  split at h
  ·rename_i hex
   simp only [Option.some.injEq] at h
   subst h
   exact ⟨_,Classical.choose_spec (Classical.choose_spec hex)⟩
  ·cases h
 ·rintro ⟨n,hn⟩
  have hex: ∃n r,zDO f n s=some r:=⟨n,r,hn⟩
  rw [dif_pos hex]
  have h1:=Classical.choose_spec (Classical.choose_spec hex)
  have h2:=zOX _ (max (Classical.choose hex) n) s _ (by omega) h1
  have h3:=zOX _ (max (Classical.choose hex) n) s _ (by omega) hn
  rw [h2] at h3
  exact h3
theorem zYi {σ ρ:Type} (f:σ→Option (σ ⊕ ρ)) (s:σ):zK f s=match f s with
  |none=>none
  |some (.inl s')=>zK f s'
  |some (.inr r)=>some r:=by
 have key: ∀r,zK f s=some r↔(match f s with
  |none=>none
  |some (.inl s')=>zK f s'
  |some (.inr r)=>some r)=some r:=by
  intro r
  rw [zHY]
  constructor
  ·rintro ⟨n,hn⟩
   cases n with
   |zero=>simp [zDO] at hn
   |succ n=>
    simp only [zDO] at hn
    split at hn
    ·cases hn
    ·exact zHY.2 ⟨n,hn⟩
    ·exact hn
  ·intro h
   split at h
   ·cases h
   ·obtain ⟨n,hn⟩:=zHY.1 h
    rename_i s' hs
    exact ⟨n+1,by simp only [zDO,hs];exact hn⟩
   ·rename_i r' hs
    exact ⟨1,by simp only [zDO,hs];exact h⟩
 cases hl:zK f s with
 |some r=>exact ((key r).1 hl).symm
 |none=>
  generalize hm:(match f s with
   |none=>none
   |some (.inl s')=>zK f s'
   |some (.inr r)=>some r)=m at key ⊢
  cases m with
  |none=>rfl
  |some r=>rw [(key r).2 rfl] at hl;cases hl
theorem zWK {σ ρ:Type} {f:σ→Option (σ ⊕ ρ)} (J:σ→Prop) (m:σ→Nat) (Q:ρ→Prop)
  (step: ∀s,J s→ ∃o,f s=some o∧match o with
   | .inl s'=>J s'∧m s'<m s
   | .inr r=>Q r) {s:σ} (h:J s): ∃r,zK f s=some r∧Q r:=by
 have key: ∀ (n:Nat) (s:σ),m s=n→J s→ ∃r,zK f s=some r∧Q r:=by
  intro n
  induction n using Nat.strongRecOn with
  |_ n ih=>
   intro s hs hj
   obtain ⟨o,ho,h1⟩:=step s hj
   rw [zYi,ho]
   cases o with
   |inl s'=>exact ih _ (by rw [←hs];exact h1.2) s' rfl h1.1
   |inr r=>exact ⟨r,rfl,h1⟩
 exact key _ s rfl h
def zJC:List Nat→Code→Bool
 |ids, .exit id=>ids.any (Nat.beq id)
 |_, .ret=>false
 |ids, .seq a b=>zJC ids a&&zJC ids b
 |ids, .cond _ a b=>zJC ids a&&zJC ids b
 |ids, .block id a=>zJC (id::ids) a
 |ids, .loop a=>zJC ids a
 |_,_=>true
section
variable {Γ:Sig} (P:jC) (G:Nat→Option (List V)) (S:zN Γ) (A:Nat→Option JA)
def zJ5 {ρ:Type} (body:(X→Env Γ.St→Nat→Option ρ)→Env Γ.St→Nat→Option ρ) (K:X→Env Γ.St→Nat→Option ρ):Nat→Env Γ.St→Nat→Option ρ
 |0,_,_=>none
 |n+1,e,lg=>body (fun k e1 lg1=>match k with
  | .normal=>zJ5 body K n e1 lg1
  |k=>K k e1 lg1) e lg
def zZR (t:Nat) (c:Code):Option JA:=
 match zOT c with
 |some k=>A (4*k+t)
 |none=>none
noncomputable def exC:Code→(ρ:Type)→(X→Env Γ.St→Nat→Option ρ)→Env Γ.St→Nat→Option ρ
 | .skip,_,K,e,lg=>K .normal e lg
 | .seq x y,ρ,K,e,lg=>match zZR A 0 y with
  |some j=>match zJC [] x with
   |true=>zKQ (okJ j e) (Option.bind (exC x (vK Γ.St j.sl) (fun k e1 lg1=>match k with
     | .normal=>zR1 j e1 lg1
     |_=>none) e 0) (fun s=>zDf (jQ j e s) (fun e1=>exC y ρ K e1 (lg|||j.bits))))
   |false=>zKQ (okJ j e) (qM (exC x (vK Γ.St j.sl ⊕ ρ) (fun k e1 lg1=>match k with
     | .normal=>(zR1 j e1 lg1).map .inl
     |k=>(K k e1 (lg|||lg1)).map .inr) e 0) (fun s=>zDf (jQ j e s) (fun e1=>exC y ρ K e1 (lg|||j.bits))))
  |none=>exC x ρ (fun k e1 lg1=>match k with
   | .normal=>exC y ρ K e1 lg1
   |k=>K k e1 lg1) e lg
 | .cond c x y,ρ,K,e,lg=>match evx G e c with
  | .p (.val (.bool b))=>cond b (exC x ρ K e lg) (exC y ρ K e lg)
  |_=>none
 | .block id c,ρ,K,e,lg=>exC c ρ (fun k e1 lg1=>K (k.out id) e1 lg1) e lg
 | .loop c,ρ,K,e,lg=>match zZR A 1 c with
  |some j=>zKQ (okJ j e) (Option.bind (rdJ j e) (fun s0=>zK (fun s=>zDf (jQ j e s) (fun e0=>exC c (vK Γ.St j.sl ⊕ ρ) (fun k e1 lg1=>match k with
    | .normal=>(zR1 j e1 lg1).map .inl
    |k=>(K k e1 (lg|||(j.bits|||lg1))).map .inr) e0 0)) s0))
  |none=>zJ5 (exC c ρ) K 80 e lg
 | .exit id,_,K,e,lg=>K (.exit id) e lg
 | .ret,_,K,e,lg=>K .ret e lg
 | .region id ops d,_,K,e,lg=>match A (4*id+2) with
  |some j=>zKQ (okJ j e) (Option.bind (zZE P G S ops d ((A (4*id+3)).map (·.lps)) e 0 (fun e1 lg1=>zR1 j e1 lg1)) (fun s=>zDf (jQ j e s) (fun e1=>K .normal e1 (lg|||j.bits))))
  |none=>zZE P G S ops d ((A (4*id+3)).map (·.lps)) e lg (fun e1 lg1=>K .normal e1 lg1)
 |_,_,_,_,_=>none
end
theorem zSz: ∀ (n:Nat) (ts:List T) (ds:List V) (r:List T),zSA n ts=some (ds,r)→ts=ds.map .p++r∧ds.length=n:=by
 intro n
 induction n with
 |zero=>intro ts ds r h;simp only [zSA,Option.some.injEq,Prod.mk.injEq] at h;obtain ⟨rfl,rfl⟩:=h;exact ⟨rfl,rfl⟩
 |succ n ih=>
  intro ts ds r h
  unfold zSA at h
  split at h
  ·rename_i heq;cases heq
  ·rename_i m d r0 heq
   cases heq
   split at h
   ·rename_i ds' r' hr
    simp only [Option.some.injEq,Prod.mk.injEq] at h
    obtain ⟨rfl,rfl⟩:=h
    obtain ⟨h1,h2⟩:=ih _ _ _ hr
    exact ⟨by rw [h1];rfl,by simp [h2]⟩
   ·cases h
  ·cases h
theorem zAx.append: ∀ {xs ys xs' ys':List T},zAx xs ys→zAx xs' ys'→zAx (xs++xs') (ys++ys')
 |[],[],_,_,_,h=>h
 |_::_,_::_,_,_,h,h'=>⟨h.1,zAx.append h.2 h'⟩
 |[],_::_,_,_,h,_=>h.elim
 |_::_,[],_,_,h,_=>h.elim
theorem zAx.ofV: ∀ {xs ys:List V},wT xs ys→zAx (xs.map .p) (ys.map .p)
 |[],[],_=>trivial
 |_::_,_::_,h=>⟨fun w F _ _ v hr=>h.1 w F v hr,zAx.ofV h.2⟩
 |[],_::_,h=>h.elim
 |_::_,[],h=>h.elim
theorem zWz {ty:Ty} {x:T} {a:ty.El} (h:rdT ty x=some a):WkT x (.p (ty.enc a)):=by
 unfold rdT at h
 split at h
 ·exact fun w F _ _ v hr=>kF h w F v hr
 ·intro w F β al v hr
  obtain ⟨ad,rfl⟩:=hr
  exact kF h w F _ (.slemp ad 0)
 ·cases h
theorem kZ {t t':Ty} {xs:List t.El} {ys:List t'.El} (h:zC7 t t' xs=some ys):zTu t t' xs ys:=by
 simp only [zTu,h]
theorem zQH {id:Nat} {ty:Ty} {x:T} {xs:List ty.El} (h:rdO id ty x=some xs):WkT x (.ot id ty xs):=by
 unfold rdO at h
 split at h
 ·simp only [Option.some.injEq] at h;subst h
  exact fun w F β al v hh=> .inl ⟨rfl,none,Rd.eq_val hh⟩
 ·simp only [Option.some.injEq] at h;subst h
  exact fun w F β al v hh=> .inl ⟨rfl,hh⟩
 ·rename_i i t ys
  split at h
  ·rename_i hb
   have hi:=Nat.eq_of_beq_eq_true hb
   subst hi
   obtain ⟨ht,h⟩:=uE (kZ h)
   subst ht
   subst h
   exact .refl _
  ·cases h
 ·cases h
theorem zKu: ∀ {c:Cell} {ts r:List T} {x:c.El},zLH c ts=some (x,r)→ ∃ts1,ts=ts1++r∧zAx ts1 (zLx c x)
 | .p ty,ts,r,x,h=>by
  simp only [zLH] at h
  split at h
  ·rename_i ds r' hr
   split at h
   ·rename_i y hy
    simp only [Option.some.injEq,Prod.mk.injEq] at h
    obtain ⟨rfl,rfl⟩:=h
    obtain ⟨h1,h2⟩:=zSz _ _ _ _ hr
    obtain ⟨cs1,h3,h4⟩:=jH _ _ _ _ hy
    rw [List.append_nil] at h3
    subst h3
    exact ⟨_,h1,zAx.ofV h4⟩
   ·cases h
  ·cases h
 | .o id ty,y::ts,r,x,h=>by
  simp only [zLH] at h
  split at h
  ·rename_i xs hx
   simp only [Option.some.injEq,Prod.mk.injEq] at h
   obtain ⟨rfl,rfl⟩:=h
   exact ⟨[y],rfl,zQH hx,trivial⟩
  ·cases h
 | .o _ _,[],_,_,h=>by simp [zLH] at h
theorem zIP: ∀ (cs:List Cell) (ts:List T) (x:zRf cs),zHV cs ts=some x→zAx ts (zHM cs x)
 |[],[],_,_=>trivial
 |[],_::_,_,h=>by simp [zHV] at h
 |[c],ts,x,h=>by
  simp only [zHV] at h
  split at h
  ·rename_i y hy
   simp only [Option.some.injEq] at h
   subst h
   obtain ⟨ts1,h1,h2⟩:=zKu hy
   rw [List.append_nil] at h1
   subst h1
   exact h2
  ·cases h
 |c::c'::r,ts,x,h=>by
  simp only [zHV] at h
  split at h
  ·rename_i y ts' hy
   split at h
   ·rename_i ys hys
    simp only [Option.some.injEq] at h
    subst h
    obtain ⟨ts1,h1,h2⟩:=zKu hy
    subst h1
    exact h2.append (zIP (c'::r) ts' ys hys)
   ·cases h
  ·cases h
section
variable {St:Type} {e e1:Env St}
theorem zQG {s:zBr} {x:s.El St} (h:zJp e s=some x): ∀i y,(i,y)∈zDu s x→WkT (e.get i) y:=by
 intro i y hy
 cases s with
 |t j ty=>
  simp only [zDu,List.mem_singleton,Prod.mk.injEq] at hy
  obtain ⟨rfl,rfl⟩:=hy
  exact zWz h
 |o j id ty=>
  simp only [zDu,List.mem_singleton,Prod.mk.injEq] at hy
  obtain ⟨rfl,rfl⟩:=hy
  exact zQH h
 |v s cs=>simp [zDu] at hy
 |st=>simp [zDu] at hy
theorem zS0 {s:zBr} {x:s.El St} (h:zJp e s=some x): ∀i cs2,(i,cs2)∈zEO s x→ ∃cs,e.var i=some cs∧zAx cs cs2:=by
 intro i y hy
 cases s with
 |t j ty=>simp [zEO] at hy
 |o j id ty=>simp [zEO] at hy
 |st=>simp [zEO] at hy
 |v s cs=>
  simp only [zEO,List.mem_singleton,Prod.mk.injEq] at hy
  obtain ⟨rfl,rfl⟩:=hy
  simp only [zJp] at h
  split at h
  ·rename_i ts hts
   exact ⟨ts,hts,zIP _ _ _ h⟩
  ·cases h
theorem zXZ: ∀ {l:List zBr} {x:vK St l},rdS e l=some x→ ∀i y,(i,y)∈tmS l x→WkT (e.get i) y
 |[],_,_,i,y,hy=>by simp [tmS] at hy
 |[s],x,h,i,y,hy=>zQG (s:=s) h i y hy
 |s::s'::r,x,h,i,y,hy=>by
  simp only [rdS] at h
  split at h
  ·rename_i a ha
   split at h
   ·rename_i as has
    simp only [Option.some.injEq] at h
    subst h
    simp only [tmS,List.mem_append] at hy
    rcases hy with hy|hy
    ·exact zQG ha i y hy
    ·exact zXZ has i y hy
   ·cases h
  ·cases h
theorem qAn: ∀ {l:List zBr} {x:vK St l},rdS e l=some x→ ∀i cs2,(i,cs2)∈vS l x→ ∃cs,e.var i=some cs∧zAx cs cs2
 |[],_,_,i,y,hy=>by simp [vS] at hy
 |[s],x,h,i,y,hy=>zS0 (s:=s) h i y hy
 |s::s'::r,x,h,i,y,hy=>by
  simp only [rdS] at h
  split at h
  ·rename_i a ha
   split at h
   ·rename_i as has
    simp only [Option.some.injEq] at h
    subst h
    simp only [vS,List.mem_append] at hy
    rcases hy with hy|hy
    ·exact zS0 ha i y hy
    ·exact qAn has i y hy
   ·cases h
  ·cases h
theorem zX0: ∀ {l:List zBr} {x:vK St l},rdS e l=some x→ ∀y,stS l x=some y→y=e.st
 |[],_,_,y,hy=>by simp [stS] at hy
 |[s],x,h,y,hy=>by
  cases s<;>simp [stS,zLB] at hy
  simp only [rdS,zJp,Option.some.injEq] at h
  rw [←hy, ←h]
 |s::s'::r,x,h,y,hy=>by
  simp only [rdS] at h
  split at h
  ·rename_i a ha
   split at h
   ·rename_i as has
    simp only [Option.some.injEq] at h
    subst h
    simp only [stS] at hy
    split at hy
    ·rename_i z hz
     cases s<;>simp [zLB] at hz
     simp only [zJp,Option.some.injEq] at ha
     simp only [Option.some.injEq] at hy
     rw [←hy, ←hz, ←ha]
    ·exact zX0 has y hy
   ·cases h
  ·cases h
theorem zSH: ∀ {l:List zBr} (x:vK St l),zE9 l=true→ ∃y,stS l x=some y
 |[],_,h=>by simp [zE9] at h
 |[s],x,h=>by
  cases s<;>simp [zE9] at h
  exact ⟨x,rfl⟩
 |s::s'::r,x,h=>by
  simp only [stS]
  cases hs:zLB s x.1 with
  |some y=>exact ⟨y,rfl⟩
  |none=>
   have h':zE9 (s'::r)=true:=by
    cases s<;>simp only [zE9] at h ⊢ <;>first|exact h|simp [zLB] at hs
   obtain ⟨y,hy⟩:=zSH (l:=s'::r) x.2 h'
   exact ⟨y,hy⟩
theorem zE8 {α:Type} : ∀ {l:List (Nat×α)} {i:Nat} {x:α},zC3 l i=some x→(i,x)∈l
 |[],_,_,h=>by simp [zC3] at h
 |(j,y)::r,i,x,h=>by
  simp only [zC3] at h
  split at h
  ·rename_i hb
   have:=Nat.eq_of_beq_eq_true hb
   subst this
   simp only [Option.some.injEq] at h
   subst h
   exact List.mem_cons_self
  ·exact List.mem_cons_of_mem _ (zE8 h)
theorem zDg (m:Nat) (vs:List (Nat×List T)): ∀ (l:List (Option (List T))) (n i:Nat),(xE m vs n l)[i]? =(l[i]?).map (fun x=>match zC3 vs (n+i) with
  |some y=>some y
  |none=>zOV m (n+i) x)
 |[],n,i=>by simp [xE]
 |x::r,n,i=>by
  cases i with
  |zero=>simp [xE]
  |succ i=>simp only [xE,List.getElem?_cons_succ];rw [zDg m vs r (n+1) i];rw [show n+1+i=n+(i+1) by omega]
theorem zJF (m:Nat) (ts:List (Nat×T)) (vars:List (Option (List T))): ∀ (l:List T) (n i:Nat),(zHk m ts vars n l)[i]? =(l[i]?).map (fun x=>match zC3 ts (n+i) with
  |some y=>y
  |none=>match Nat.testBit m (2*(n+i)) with
   |true=> .dead
   |false=>zQS m vars x)
 |[],n,i=>by simp [zHk]
 |x::r,n,i=>by
  cases i with
  |zero=>simp [zHk]
  |succ i=>simp only [zHk,List.getElem?_cons_succ];rw [zJF m ts vars r (n+1) i];rw [show n+1+i=n+(i+1) by omega]
theorem zKV (m:Nat) (vs:List (Nat×List T)): ∀ (l:List (Option (List T))) (n:Nat),(xE m vs n l).length=l.length
 |[],_=>rfl
 |_::r,n=>by simp [xE,zKV m vs r (n+1)]
theorem zOW (m:Nat) (ts:List (Nat×T)) (vars:List (Option (List T))): ∀ (l:List T) (n:Nat),(zHk m ts vars n l).length=l.length
 |[],_=>rfl
 |_::r,n=>by simp [zHk,zOW m ts vars r (n+1)]
theorem zWd: ∀ {cs:List T},zLr cs=true→ ∃ds:List V,cs=ds.map .p
 |[],_=>⟨[],rfl⟩
 | .p d::r,h=>by
  obtain ⟨ds,hds⟩:=zWd (cs:=r) h
  exact ⟨d::ds,by rw [hds];rfl⟩
 | .ow _ _ _::_,h=>by simp [zLr] at h
 | .oe _ _ _ _ _::_,h=>by simp [zLr] at h
 | .lp _ _::_,h=>by simp [zLr] at h
 | .mp _ _ _::_,h=>by simp [zLr] at h
 | .ot _ _ _::_,h=>by simp [zLr] at h
 | .oet _ _ _ _ _::_,h=>by simp [zLr] at h
 | .ov _ _ _ _ _::_,h=>by simp [zLr] at h
 | .emp::_,h=>by simp [zLr] at h
 | .dead::_,h=>by simp [zLr] at h
theorem zOU {m i:Nat} {x:Option (List T)} {cs:List T} (h:zOV m i x=some cs):x=some cs∧m.testBit (2*i)=false∧m.testBit (2*i+1)=false∧ ∃ds:List V,cs=ds.map .p:=by
 unfold zOV at h
 split at h
 ·split at h
  ·cases h
  ·rename_i hb
   simp only [Bool.or_eq_false_iff,Bool.not_eq_false'] at hb
   simp only [Option.some.injEq] at h
   subst h
   exact ⟨rfl,hb.1.1,hb.1.2,zWd hb.2⟩
 ·cases h
theorem zFl {s:Nat} {cs:List T} (h:e.vars[s]? =some (some cs)):e.var s=some cs:=by simp [Env.var,h]
theorem zJG {s:Nat} {cs:List T} (h:e.var s=some cs):e.vars[s]? =some (some cs):=by
 simp only [Env.var] at h
 cases hs:e.vars[s]? with
 |none=>rw [hs] at h;cases h
 |some x=>rw [hs] at h;simp only [Option.getD_some] at h;rw [h]
theorem zQU {j:JA} {s:vK St j.sl} {i:Nat} {cs2:List T} (h:(jQ j e s).var i=some cs2):
  (i,cs2)∈vS j.sl s∨(e.var i=some cs2∧j.bits.testBit (2*i)=false∧j.bits.testBit (2*i+1)=false∧ ∃ds:List V,cs2=ds.map .p):=by
 have h1:=zJG h
 simp only [jQ] at h1
 rw [zDg] at h1
 simp only [Option.map_eq_some_iff,Nat.zero_add] at h1
 obtain ⟨x,hx,h2⟩:=h1
 split at h2
 ·rename_i y hy
  simp only [Option.some.injEq] at h2
  subst h2
  exact .inl (zE8 hy)
 ·obtain ⟨rfl,h3,h4,h5⟩:=zOU h2
  exact .inr ⟨zFl hx,h3,h4,h5⟩
theorem zOP {vars:List (Option (List T))} : ∀ {l:List (Nat×Nat×Nat)} {i:Nat} {y:T},(i,y)∈zRL vars l→ ∃s off,(i,s,off)∈l∧y=lpT vars s off
 |[],_,_,h=>by simp [zRL] at h
 |(j,s,off)::r,i,y,h=>by
  simp only [zRL,List.mem_cons,Prod.mk.injEq] at h
  rcases h with ⟨rfl,rfl⟩|h
  ·exact ⟨s,off,List.mem_cons_self,rfl⟩
  ·obtain ⟨s',off',h1,h2⟩:=zOP h
   exact ⟨s',off',List.mem_cons_of_mem _ h1,h2⟩
theorem zZT {s off:Nat} {x:T} (h:qAV s off x=true):x= .lp s off:=by
 unfold qAV at h
 split at h
 ·simp only [Bool.and_eq_true] at h
  rw [Nat.eq_of_beq_eq_true h.1,Nat.eq_of_beq_eq_true h.2]
 ·cases h
theorem zTV: ∀ {l:List (Nat×Nat×Nat)},zYZ e l=true→ ∀i s off,(i,s,off)∈l→e.get i= .lp s off
 |[],_,_,_,_,h=>by simp at h
 |(j,s0,off0)::r,h,i,s,off,hm=>by
  simp only [zYZ,Bool.and_eq_true] at h
  simp only [List.mem_cons,Prod.mk.injEq] at hm
  rcases hm with ⟨rfl,rfl,rfl⟩|hm
  ·exact zZT h.1
  ·exact zTV h.2 i s off hm
theorem zWJ (vars:List (Option (List T))) (s off:Nat):lpT vars s off= .dead∨(lpT vars s off= .lp s off∧zOY vars s=true):=by
 unfold lpT
 split
 ·rename_i h;exact .inr ⟨rfl,h⟩
 ·exact .inl rfl
theorem zWN {j:JA} {s:vK St j.sl} {i:Nat} (hi:i<e.tm.length):
  (∃y,(i,y)∈zRL (jQ j e s).vars j.lps++tmS j.sl s∧(jQ j e s).get i=y)∨
   ((jQ j e s).get i= .dead)∨(j.bits.testBit (2*i)=false∧(jQ j e s).get i=zQS j.bits (jQ j e s).vars (e.get i)):=by
 have h1:(jQ j e s).tm[i]? =_:=zJF j.bits (zRL (jQ j e s).vars j.lps++tmS j.sl s) (jQ j e s).vars e.tm 0 i
 rw [List.getElem?_eq_getElem hi,Option.map_some,Nat.zero_add] at h1
 have hg:(jQ j e s).get i=((jQ j e s).tm[i]?).getD .dead:=by simp [Env.get,List.getD_eq_getElem?_getD]
 have he:e.get i=e.tm[i]:=by simp [Env.get,hi]
 rw [hg,h1,he]
 simp only [Option.getD_some]
 split
 ·rename_i y hy
  exact .inl ⟨y,zE8 hy,rfl⟩
 ·split
  ·exact .inr (.inl rfl)
  ·rename_i hb
   exact .inr (.inr ⟨hb,rfl⟩)
theorem zH2 {j:JA} {s:vK St j.sl} :(jQ j e s).tm.length=e.tm.length∧(jQ j e s).vars.length=e.vars.length:=
 ⟨zOW _ _ _ _ _,zKV _ _ _ _⟩
theorem zYr {i:Nat} (h:e.tm.length≤i):e.get i= .dead:=by simp [Env.get,List.getD_eq_getElem?_getD,h]
theorem zLY {s:Nat} :zOY e.vars s=true↔ ∃cs,e.var s=some cs:=by
 unfold zOY
 constructor
 ·intro h
  split at h
  ·rename_i cs hcs;exact ⟨cs,zFl hcs⟩
  ·cases h
 ·rintro ⟨cs,hcs⟩
  rw [zJG hcs]
end
theorem zWc {St:Type} {l:List zBr} {x:vK St l} : ∀ {i:Nat} {y:T},(i,y)∈tmS l x→(kH l).testBit (2*i)=true:=by
 match l,x with
 |[],_=>intro i y h;simp [tmS] at h
 |[s],x=>
  intro i y h
  cases s<;>simp only [tmS,zDu,List.mem_singleton,Prod.mk.injEq,List.not_mem_nil] at h
  all_goals
   obtain ⟨rfl,_⟩:=h
   simp [kH,Nat.testBit_two_pow]
 |s::s'::r,x=>
  intro i y h
  simp only [tmS,List.mem_append] at h
  rcases h with h|h
  ·cases s<;>simp only [zDu,List.mem_singleton,Prod.mk.injEq,List.not_mem_nil] at h
   all_goals
    obtain ⟨rfl,_⟩:=h
    simp [kH,Nat.testBit_two_pow,Nat.testBit_or]
  ·have:=zWc (l:=s'::r) (x:=x.2) h
   cases s<;>simp [kH,Nat.testBit_or] at this ⊢ <;>first|exact .inr this|exact this
theorem zY2 {St:Type} {l:List zBr} {x:vK St l} : ∀ {i:Nat} {y:List T},(i,y)∈vS l x→(kH l).testBit (2*i+1)=true:=by
 match l,x with
 |[],_=>intro i y h;simp [vS] at h
 |[s],x=>
  intro i y h
  cases s<;>simp only [vS,zEO,List.mem_singleton,Prod.mk.injEq,List.not_mem_nil] at h
  all_goals
   obtain ⟨rfl,_⟩:=h
   simp [kH,Nat.testBit_two_pow]
 |s::s'::r,x=>
  intro i y h
  simp only [vS,List.mem_append] at h
  rcases h with h|h
  ·cases s<;>simp only [zEO,List.mem_singleton,Prod.mk.injEq,List.not_mem_nil] at h
   all_goals
    obtain ⟨rfl,_⟩:=h
    simp [kH,Nat.testBit_two_pow,Nat.testBit_or]
  ·have:=zY2 (l:=s'::r) (x:=x.2) h
   cases s<;>simp [kH,Nat.testBit_or] at this ⊢ <;>first|exact .inr this|exact this
theorem zRr {St:Type} : ∀ {l:List zBr} {x:vK St l} {i:Nat},zAj l i=true→ ∃cs,zC3 (vS l x) i=some cs:=by
 have app: ∀ {a b:List (Nat×List T)} {i:Nat},((∃cs,zC3 a i=some cs)∨ ∃cs,zC3 b i=some cs)→ ∃cs,zC3 (a++b) i=some cs:=by
  intro a b i h
  induction a with
  |nil=>
   rcases h with ⟨cs,h⟩|h
   ·simp [zC3] at h
   ·exact h
  |cons x a ih=>
   obtain ⟨k,y⟩:=x
   simp only [List.cons_append,zC3] at h ⊢
   split
   ·exact ⟨_,rfl⟩
   ·rename_i hb
    simp only [hb] at h
    exact ih h
 have one: ∀ {s:zBr} {x:s.El St} {i:Nat},zAj [s] i=true→ ∃cs,zC3 (zEO s x) i=some cs:=by
  intro s x i h
  cases s<;>simp only [zAj,Bool.or_false,Bool.false_eq_true] at h
  simp only [zEO,zC3,h]
  exact ⟨_,rfl⟩
 intro l
 induction l with
 |nil=>intro x i h;simp [zAj] at h
 |cons s r ih=>
  intro x i h
  cases r with
  |nil=>exact one (s:=s) (x:=x) h
  |cons s' r=>
   have h2:zAj [s] i=true∨zAj (s'::r) i=true:=by
    cases s<;>simp only [zAj,Bool.or_eq_true,Bool.or_false] at h ⊢
    ·exact .inr h
    ·exact .inr h
    ·exact h
    ·exact .inr h
   simp only [vS]
   rcases h2 with h2|h2
   ·exact app (.inl (one h2))
   ·exact app (.inr (ih h2))
theorem zT0: ∀ {l:List (Nat×Nat×Nat)} {i s off:Nat},(i,s,off)∈l→(zKT l).testBit (2*i)=true
 |[],_,_,_,h=>by simp at h
 |(j,s0,off0)::r,i,s,off,h=>by
  simp only [List.mem_cons,Prod.mk.injEq] at h
  simp only [zKT,Nat.testBit_or,Bool.or_eq_true,Nat.testBit_two_pow,decide_eq_true_eq]
  rcases h with ⟨rfl,_⟩|h
  ·exact .inl rfl
  ·exact .inr (zT0 h)
end Go.Ve

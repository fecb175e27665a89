/-
  Functions out of code, part 3: regions.
  Functions out of code, part 4: joins, loops, statements.
-/
import Derived.Test.YtaidmnnejapafaaDoorXf8
set_option linter.unusedVariables false
namespace Go.Ve
open Go
section
variable {Γ:Sig} {ρ:Type} (P:qN) (G:Nat→Option (List V)) (S:zL Γ)
def zMe (e:Env Γ.St) (dst:Option Tmp) (c:Call):Option (Kex Γ ρ):=
 match c.callee,c.args.toList,c.argTypes.toList,dst with
 | .builtin .append,[.tmp p,x1],[t0,t1],some d=>
  match e.get p with
  | .ov id t' xs 0 hi=>match P.und t0,P.und t1 with
   |some (.slice el),some (.slice _)=>match P.inf el with
    |some info=>match info.zero,zMu (evx G e x1) with
     |some z,some ⟨t,y::ys⟩=>
      if zQb p x1=false then none else
      if h:t'=t then
       if t.size=info.size∧1≤info.bytes∧zH0 z=info.size∧id≠qL then
        some (fun K=>Option.bind (app info.bytes (List.take hi (h▸xs)) (y::ys)) fun zs=>K { (e.kill id) with tm:=(e.kill id).tm.set d (.ot id t zs) })
       else none
      else none
     |_,_=>none
    |none=>none
   |_,_=>none
  |_=>none
 |_,_,_,_=>none
def wX (e:Env Γ.St) (o:Oper):Option (Kex Γ ρ):=
 match o.op with
 | .store t ap x=>match o.dst with
  |some _=>none
  |none=>match evx G e ap,evx G e x with
   | .oet id ty xs i off, .p d=>
    if z4 P t=some d.cells.length∧off+d.cells.length≤ty.size∧d.cells.all V.one=true∧(ty.aggT=false→d.cells.length=1∧ty.size=1) then
     some (fun K=>Option.bind (atN xs i) fun y=>match zJI ty y off d with
      |some z=>K (e.mapT (zC4 id ty i z))
      |none=>none)
    else none
   | .oet id ty _ i off, .ot id2 t2 ys=>match ty with
    | .sl t3=>if t3=t2∧off=0∧z4 P t=some 1∧id=zP9∧id≠id2 then some (fun K=>zF1 (!ys.isEmpty) (K (e.mapT (zMm id id2 t2 i ys)))) else none
    |_=>none
   | .on ⟨id,id2,ty,_,_,ys, .q k off⟩, .p d=>
    if z4 P t=some d.cells.length∧off+d.cells.length≤ty.size∧d.cells.all V.one=true∧(ty.aggT=false→d.cells.length=1∧ty.size=1)∧id≠id2∧id≠qL∧id2≠qL then
     some (fun K=>Option.bind (atN ys k) fun y=>match zJI ty y off d with
      |some z=>K (e.mapT (zMn id id2 ty k z))
      |none=>none)
    else none
   |_,_=>none
 | .call c=>match zMe P G e o.dst c with
  |some q=>some q
  |none=>match c.callee,c.args.toList,c.argTypes.toList,o.dst with
  | .builtin .append,[x0,x1],[t0,t1],some d=>match P.und t0,P.und t1 with
   |some (.slice el),some (.slice _)=>match P.inf el with
    |some info=>match info.zero,zMu (evx G e x1) with
     |some z,some ⟨t,ys⟩=>match zLU t (evx G e x0) with
      |some (nm,xs)=>
       if t.size=info.size∧1≤info.bytes∧zH0 z=info.size∧nm.getD d≠qL then
        some (fun K=>Option.bind (app info.bytes xs ys) fun zs=>
         K { (e.kill (nm.getD d)) with tm:=(e.kill (nm.getD d)).tm.set d (.ot (nm.getD d) t zs) })
       else none
      |none=>none
     |_,_=>none
    |none=>none
   |_,_=>none
  |_,_,_,_=>none
 |_=>none
def wXs (e:Env Γ.St) (o:Oper):Option (Kex Γ ρ):=
 match wX P G e o with
 |some q=>some q
 |none=>match evW P G e o with
  |some e1=>some (fun K=>K e1)
  |none=>none
def zEW (e:Env Γ.St) (o:Oper):Option (Kex Γ ρ):=
 match qXs P G S e o with
 |some q=>some (fun K=>q (fun r=>match vW e o.dst r with
  |some e1=>K e1
  |none=>none))
 |none=>wXs P G e o
def zSP (e:Env Γ.St) (o:Oper):Option (Kex Γ ρ):=
 match o.op with
 | .call c=>match c.callee,c.args.toList with
  | .value f, .tmp p::xs=>match evx G e f,e.get p,vM G e xs with
   | .p (.clo g []), .ot id t ys,some ds=>match S g e.st (.bot:: .tl t ys::ds) with
    |some cx=>match cx.pl with
     |false=>some (fun K=>zF1 (zQQ (zEK id p ys.length 0 e.tm)) (Option.bind cx.m fun y=>match cx.res y with
      | .p (.tup [.tl _ _, .bot])=>none
      | .p (.tup [.tl t' zs,d])=>if h:t'=t then K (zPX e id p t (h▸zs) (cx.st y) o.dst d) else none
      |_=>none))
     |true=>match Nat.beq id qL with
      |true=>none
      |false=>some (fun K=>Option.bind cx.m fun y=>match cx.res y with
       | .p (.tup [.tl t' zs, .bot])=>if h:t'=t then K (zPW e id t (h▸zs) (cx.st y) o.dst) else none
       |_=>none)
    |none=>none
   |_,_,_=>none
  |_,_=>none
 |_=>none
def zS1 (tys:List TypeId) (k:Nat):Option Ty:=
 match tys[k]? with
 |some tp=>match P.und tp with
  |some (.pointer el)=>P.ty el
  |_=>none
 |none=>none
def zSo (e:Env Γ.St) (o:Oper):Option (Kex Γ ρ):=
 match o.op with
 | .call c=>match c.callee with
  | .value f=>match evx G e f,zEU G e c.args.toList with
   | .p (.clo g []),some (k,s,xs)=>match vM G e xs,e.var s,zS1 P c.argTypes.toList k with
    |some ds,some cs,some t=>match zEZ cs with
     |some vs=>match t.dec (.agg vs) with
      |some y=>match S g e.st (.bot:: .tl t [y]:: .bot:: .val (.int .i64 (k:Int))::ds) with
       |some cx=>match cx.pl with
        |false=>some (fun K=>Option.bind cx.m fun u=>match cx.res u with
         | .p (.tup [.tl t' [z],d])=>if h:t'=t then K (zPV e s t (h▸z) (cx.st u) o.dst d) else none
         |_=>none)
        |true=>none
       |none=>none
      |none=>none
     |none=>none
    |_,_,_=>none
   |_,_=>none
  |_=>none
 |_=>none
def zTa:Option (Nat×Nat×List Operand)→Nat
 |some (_,s,_)=>2^(2*s+1)
 |none=>0
def zEQ (e:Env Γ.St) (o:Oper):Nat:=
 qQ G e o|||match o.op with
 | .call c=>zTa (zEU G e c.args.toList)
 |_=>0
def zKm (e:Env Γ.St) (o:Oper):Option (Kex Γ ρ):=
 match zEW P G S e o with
 |some q=>some q
 |none=>match zSP G S e o with
  |some q=>some q
  |none=>zSo P G S e o
def zQO (e:Env Γ.St) (lg:Nat) (o:Oper) (K:Env Γ.St→Nat→Option ρ):Option ρ:=
 match zKm P G S e o with
 |some q=>q (fun e1=>K e1 (lg|||zEQ G e o))
 |none=>match zKm P G S (frzOps G (zMS o) e) o with
  |some q=>q (fun e1=>K e1 (lg|||(zH6 G (zMS o) e|||zEQ G (frzOps G (zMS o) e) o)))
  |none=>none
def zPw (ops:Array Oper) (e:Env Γ.St) (lg:Nat) (o:Oper) (K:Env Γ.St→Nat→Option ρ):Option ρ:=
 match o.guard with
 |none=>zQO P G S e lg o K
 |some (j,want)=>match (ops[j]?).bind (·.dst) with
  |none=>K (e.put o.dst (.p (.val undef))) (lg|||xN o.dst)
  |some t=>match e.get t with
   | .p (.val (.bool b))=>if t<e.tm.length then
     cond b (match want with
      |true=>zFb t (e.lit t true) (fun e=>zQO P G S e lg o K)
      |false=>K ((e.lit t true).put o.dst (.p (.val undef))) (lg|||xN o.dst))
     (match want with
      |true=>K ((e.lit t false).put o.dst (.p (.val undef))) (lg|||xN o.dst)
      |false=>zFb t (e.lit t false) (fun e=>zQO P G S e lg o K))
    else none
   | .p (.val (.tuple _))=>K (e.put o.dst (.p (.val undef))) (lg|||xN o.dst)
   |_=>none
def seqX (ops:Array Oper):List Oper→Env Γ.St→Nat→(Env Γ.St→Nat→Option ρ)→Option ρ
 |[],e,lg,K=>K e lg
 |o::rest,e,lg,K=>zPw P G S ops e lg o (fun e1 lg=>kOp o e1 (fun e1=>seqX ops rest e1 lg K))
def zSp (e:Env Γ.St) (o:Oper) (K:Env Γ.St→Option ρ):Option ρ:=
 match o.guard with
 |none=>match qXs P G S e o with
  |some q=>q (fun r=>match r with
   | .frzT t xs=>match vW e o.dst (.ownT t xs) with
    |some e1=>K e1
    |none=>none
   |_=>none)
  |none=>none
 |some _=>none
def zPF (ops:Array Oper) (k:Nat) (e:Env Γ.St) (lg:Nat) (K:Env Γ.St→Nat→Option ρ):Option ρ:=
 seqX P G S ops (ops.toList.take k) e lg (fun e lg=>match ops.toList.drop k with
  |o::rest=>zSp P G S e o (fun e1=>kOp o e1 (fun e1=>seqX P G S ops rest e1 (lg|||xN o.dst) K))
  |[]=>none)
def zAV (e:Env Γ.St) (lg:Nat) (o:Oper) (K:Env Γ.St→Nat→Option ρ):Option ρ:=
 match qXs P G S e o with
 |some q=>q (fun r=>match zG5 e o.dst r with
  |some e1=>K e1 (lg|||xN o.dst)
  |none=>none)
 |none=>none
def uF (ops:Array Oper):List Oper→Env Γ.St→Nat→(Env Γ.St→Nat→Option ρ)→Option ρ
 |[],e,lg,K=>K e lg
 |o::rest,e,lg,K=>
  match o.guard with
  |none=>if zIs G (zK (o::rest)) e o then zAV P G S e lg o (fun e1 lg=>kOp o e1 (fun e1=>uF ops rest e1 lg K)) else none
  |some (j,want)=>match (ops[j]?).bind (·.dst) with
   |none=>zFb (o.dst.getD 0) (e.put o.dst (.p (.val undef))) (fun e1=>uF ops rest e1 (lg|||xN o.dst) K)
   |some t=>match e.get t with
    | .p (.val (.bool b))=>if t<e.tm.length then
      cond b (match want with
       |true=>zFb t (e.lit t true) (fun e=>if zIs G (zK (o::rest)) e o then zAV P G S e lg o (fun e1 lg=>kOp o e1 (fun e1=>uF ops rest e1 lg K)) else none)
       |false=>zFb (o.dst.getD 0) ((e.lit t true).put o.dst (.p (.val undef))) (fun e1=>uF ops rest e1 (lg|||xN o.dst) K))
      (match want with
       |true=>zFb (o.dst.getD 0) ((e.lit t false).put o.dst (.p (.val undef))) (fun e1=>uF ops rest e1 (lg|||xN o.dst) K)
       |false=>zFb t (e.lit t false) (fun e=>if zIs G (zK (o::rest)) e o then zAV P G S e lg o (fun e1 lg=>kOp o e1 (fun e1=>uF ops rest e1 lg K)) else none))
     else none
    | .p (.val (.tuple _))=>zFb (o.dst.getD 0) (e.put o.dst (.p (.val undef))) (fun e1=>uF ops rest e1 (lg|||xN o.dst) K)
    |_=>none
def zL4:List Nat→Nat
 |[]=>0
 |d::r=>2^(2*d)|||zL4 r
def zIV (ops:Array Oper) (k:Nat) (e:Env Γ.St) (lg:Nat) (K:Env Γ.St→Nat→Option ρ):Option ρ:=
 if k≤ops.size&&zH9 ops k&&zHV ops k&&zIW (ops.extract 0 k) then
  zBn (killAll (zK (ops.extract 0 k).toList) e) (fun e=>uF P G S (ops.extract 0 k) (ops.extract 0 k).toList e (lg|||zL4 (zK (ops.extract 0 k).toList))
   (fun e1 lg=>seqX P G S ops (ops.toList.drop k) e1 lg K))
 else none
def zQE (ops:Array Oper) (e:Env Γ.St) (lg:Nat) (K:Env Γ.St→Nat→Option ρ):Option ρ:=zIV P G S ops (zPt ops.toList) e lg K
def zMP:T→Bool
 | .p _=>true
 | .lp _ _=>true
 |_=>false
def zMY {St:Type} (ops:Array Oper) (e1:Env St):List Nat→Option (List Fl)
 |[]=>some []
 |i::r=>match ops[i]? with
  |some o=>match o.dst with
   |some d=>match zMP (e1.get d) with
    |true=>(zMY ops e1 r).map (⟨i,d, .c (e1.get d)⟩:: ·)
    |false=>match o.op with
     | .move (.tmp s)=>(zMY ops e1 r).map (⟨i,d, .a s⟩:: ·)
     |_=>none
   |none=>none
  |none=>none
def flD (fl:List Fl) (t:Nat):Bool:=fl.any (fun q=>Nat.beq q.d t)
def flC (fl:List Fl) (t:Nat):Bool:=fl.any (fun q=>Nat.beq q.d t&&(match q.v with
 | .c _=>true
 | .a _=>false))
def zLO (n:Nat):List Fl→Bool
 |[]=>true
 |q::r=> !flD r q.d&&Nat.blt q.d n&&zLO n r
def zQw (fl:List Fl):Bool:=fl.all (fun q=>match q.v with
 | .c _=>true
 | .a s=> !flD fl s)
def noD (d:Nat):T→Bool
 | .ow i _ _=> !Nat.beq i d
 | .oe i _ _ _ _=> !Nat.beq i d
 | .lp s _=> !Nat.beq s d
 | .mp i _ _=> !Nat.beq i d
 | .ot i _ _=> !Nat.beq i d
 | .oet i _ _ _ _=> !Nat.beq i d
 | .ov i _ _ _ _=> !Nat.beq i d
 | .on n=> !Nat.beq n.id d&& !Nat.beq n.id2 d
 |_=>true
def clean {St:Type} (d:Nat) (e:Env St):Bool:=
 e.tm.all (noD d)&&e.vars.all (fun c=>match c with
  |some cs=>cs.all (noD d)
  |none=>true)&&(e.var d).isNone&&Nat.blt d e.vars.length
def zP1 {St:Type} (fl:List Fl) (m:Nat) (e1:Env St):Operand→Bool
 | .tmp t=>(flC fl t||(!flD fl t&& !Nat.testBit m (2*t)))&&(match e1.get t with
  | .p _=>true
  | .lp s _=> !Nat.testBit m (2*s)&&(match e1.var s with
   |some cs=>cs.all (fun x=>match x with| .p _=>true|_=>false)&& !Nat.testBit m (2*s+1)
   |none=>false)
  |_=>false)
 |_=>true
def zRk {St:Type} (ops:Array Oper) (fl:List Fl) (m:Nat) (e1 b:Env St) (q:Fl):Bool:=
 match ops[q.i]? with
 |some o=>match q.v with
  | .a s=>match o.op with
   | .move (.tmp s')=>Nat.beq s' s
   |_=>false
  | .c _=>o.op.operands.toList.all (zP1 fl m e1)&&clean q.d b&&fl.all (fun r=>match r.v with
   | .c x=>noD q.d x
   | .a _=>true)
 |none=>false
def zMt (m:Nat) (dst:Option Nat) (q:Fl):Bool:=
 (match dst with
  |some d=> !Nat.beq d q.d
  |none=>true)&&(match q.v with
  | .c (.p _)=>true
  | .c (.lp s _)=> !Nat.testBit m (2*s)
  | .c _=>false
  | .a s=>match dst with
   |some d=> !Nat.beq d s
   |none=>true)
def zTk (fl:List Fl) (A:Fl→Bool) (o:Oper):Bool:=
 o.op.operands.toList.all (fun x=>match x with
  | .tmp t=>fl.all (fun q=> !Nat.beq q.d t||A q)
  |_=>true)
def xM:List Fl→Nat
 |[]=>0
 |q::r=>2^(2*q.d)|||xM r
def zNo (anc:Array Nat) (c:Nat) (q:Fl):Bool:=(anc.getD c 0).testBit q.i&&decide (q.i<c)
def zMz (e:Env Γ.St) (o:Oper):Option (Kex Γ ρ):=
 match zEW P G S e o with
 |some q=>some q
 |none=>match zEj o with
  |true=>zEW P G S (zLG G o e) o
  |false=>none
def zDV (ops:Array Oper) (anc:Array Nat) (fl:List Fl) (e1:Env Γ.St):List Nat→Env Γ.St→Nat→(Env Γ.St→Nat→Option ρ)→Option ρ
 |[],b,m,K=>zBn (qO b fl) (fun e=>K e (m|||xM fl))
 |c::rest,b,m,K=>match ops[c]? with
  |some o=>zBn (qO b (fl.filter (zNo anc c))) (fun bA=>match zTk fl (zNo anc c) o&&fl.all (zMt (qQ G bA o) o.dst) with
   |true=>match zMz P G S bA o with
    |some q=>q (fun b1=>kOp o b1 (fun b1=>match fl.all (fun q=>zNo anc c q||zRk ops fl (m|||(xM fl|||qQ G bA o)) e1 b1 q) with
     |true=>zDV ops anc fl e1 rest b1 (m|||(xM fl|||qQ G bA o)) K
     |false=>none))
    |none=>none
   |false=>none)
  |none=>none
def zNi (ops:Array Oper) (Cm Um:Nat) (e:Env Γ.St) (lg:Nat) (K:Env Γ.St→Nat→Option ρ):Option ρ:=
 if zSO ops (Region.before ops) Cm Um then
  zBn (killAll (zK (jG ops Cm).toList) e) (fun e=>uF P G S (jG ops Cm) (jG ops Cm).toList e (lg|||zL4 (zK (jG ops Cm).toList))
   (fun e1 lg=>match zMY ops e1 ((List.range ops.size).filter (fun i=>Nat.testBit Um i&& !Nat.testBit Cm i)) with
    |some fl=>match zLO e1.tm.length fl&&zQw fl&&fl.all (fun q=>(e1.var q.d).isNone)&&fl.all (zRk ops fl (xM fl) e1 (zBE e1 fl)) with
     |true=>zBn (zBE e1 fl) (fun b=>zDV P G S ops (Region.before ops) fl e1 ((List.range ops.size).filter (fun i=>Nat.testBit Cm i)) b (xM fl) (fun e2 m=>K e2 (lg|||m)))
     |false=>none
    |none=>none))
 else none
def zOq:List (Nat×Nat×Nat)→Env Γ.St→(Env Γ.St→Option ρ)→Option ρ
 |[],e,K=>K e
 |(a,b,n)::r,e,K=>match n with
  |1=>match zSr b e&&(!Nat.beq a qL&& !Nat.beq b qL) with
   |true=>zBn (e.mapT (zLn a b)) (fun e=>zOq r e K)
   |false=>none
  |2=>zBn (frzOE a e) (fun e=>zOq r e K)
  |_=>zOq r e K
def zNY:List (Nat×Nat×Nat)→List Operand
 |[]=>[]
 |(t,_,n)::r=>match n with
  |0=> .tmp t::zNY r
  |_=>zNY r
def zLo (ops:Array Oper) (d:Bool) (fz:Option (List (Nat×Nat×Nat))) (e:Env Γ.St) (lg:Nat) (K:Env Γ.St→Nat→Option ρ):Option ρ:=
 match d with
 |false=>match fz with
  |none=>seqX P G S ops ops.toList e lg K
  |some []=>seqX P G S ops ops.toList e lg K
  |some ((k,_,n)::_)=>match n with
   |7=>zPF P G S ops k e lg K
   |_=>seqX P G S ops ops.toList e lg K
 |true=>match fz with
  |none=>zQE P G S ops e lg K
  |some []=>zBn (frzOps G (zAT ops.toList) e) (fun e1=>zQE P G S ops e1 (lg|||zH6 G (zAT ops.toList) e) K)
  |some ((Cm,Um,n)::ts)=>match n with
   |9=>zQE P G S ops e lg K
   |8=>zIV P G S ops Cm e lg K
   |_=>zBn (frzOps G (zNY ts) e) (fun e1=>zNi P G S ops Cm Um e1 (lg|||zH6 G (zNY ts) e) K)
def zRf (ops:Array Oper) (d:Bool) (fz:Option (List (Nat×Nat×Nat))) (e:Env Γ.St) (lg:Nat) (K:Env Γ.St→Nat→Option ρ):Option ρ:=
 match fz with
 |none=>zLo P G S ops d fz e lg K
 |some []=>zLo P G S ops d fz e lg K
 |some (x::ts)=>zLo P G S ops d fz e lg (fun e1 lg1=>zOq ts e1 (fun e2=>K e2 lg1))
end
section
variable {Γ:Sig} {ρ:Type} {P:Program} {G:Nat→Option (List V)} {S:zL Γ} {e:Env Γ.St} {o:Oper} {ops:Array Oper} {v:ρ}
theorem zMd {q:Kex Γ ρ} {K:Env Γ.St→Option ρ} {dst:Option Tmp} {c:Call} (h:zMe P G e dst c=some q) (hK:q K=some v): ∃e1,j8 P G e dst c=some e1∧K e1=some v:=by
 unfold zMe at h
 split at h
 ·rename_i p x1 t0 t1 d hcal hargs htys
  split at h
  ·rename_i id t' xs hi hget
   split at h
   ·rename_i el el1 hu0 hu1
    split at h
    ·rename_i info hinfo
     split at h
     ·rename_i z t y ys hz hsrc
      split at h
      ·cases h
      ·rename_i hne
       split at h
       ·rename_i htt
        subst htt
        split at h
        ·rename_i hok
         simp only [Option.some.injEq] at h
         subst h
         obtain ⟨zs,hzs,hK⟩:=bind_some hK
         unfold app at hzs
         split at hzs
         ·rename_i hroom
          simp only [Option.some.injEq] at hzs
          subst hzs
          refine ⟨_,?_,hK⟩
          have hu0':P.underlying t0=some (.slice el):=hu0
          have hu1':P.underlying t1=some (.slice el1):=hu1
          have hinfo':P.info? el=some info:=hinfo
          simp only [j8,hcal,hargs,htys,hu0',hu1',hinfo',hz,hsrc,hget]
          rw [if_neg hne,dif_pos trivial,if_pos hok,if_pos hroom]
         ·cases hzs
        ·cases h
       ·cases h
     ·cases h
    ·cases h
   ·cases h
  ·cases h
 ·cases h
theorem zNn {q:Kex Γ ρ} {dst:Option Tmp} {c:Call} (h:zMe P G e dst c=some q):q9 P G e dst c=none:=by
 unfold zMe at h
 split at h
 ·rename_i p x1 t0 t1 d hcal hargs htys
  split at h
  ·rename_i id t' xs hi hget
   unfold q9
   simp only [hcal,hargs,htys]
   repeat' split
   all_goals first|rfl|skip
   all_goals (rename_i hdst _ _;simp only [evx,hget,zLU] at hdst;cases hdst)
  ·cases h
 ·cases h
theorem zPl {q:Kex Γ ρ} {K:Env Γ.St→Option ρ} (h:wX P G e o=some q) (hK:q K=some v): ∃e1,evW P G e o=some e1∧K e1=some v:=by
 obtain ⟨dst,op,type,pos,after,guard⟩:=o
 cases op<;>simp only [wX,reduceCtorEq] at h
 case store t ap x=>
  split at h
  ·cases h
  ·rename_i hd
   split at h
   ·rename_i id ty xs i off d hp hx
    split at h
    ·rename_i hcond
     simp only [Option.some.injEq] at h
     subst h
     obtain ⟨y,hg,h3⟩:=bind_some hK
     unfold atN at hg
     split at h3
     ·rename_i z hz
      refine ⟨_,?_,h3⟩
      simp only [evW,hp,hx,zA7]
      rw [if_pos hcond]
      simp only [hg,hz]
     ·cases h3
    ·cases h
   ·rename_i id ty xs i off id2 t2 ys hp hx
    split at h
    ·rename_i t3
     split at h
     ·rename_i hcond
      simp only [Option.some.injEq] at h
      subst h
      obtain ⟨hc,hK⟩:=wL.1 hK
      simp only [Bool.not_eq_true'] at hc
      refine ⟨_,?_,hK⟩
      simp only [evW,hp,hx,xY]
      rw [if_pos ⟨hcond.1,hcond.2.1,hcond.2.2.1,hcond.2.2.2.1,hcond.2.2.2.2,hc⟩]
     ·cases h
    ·cases h
   ·rename_i id id2 ty xs j ys k off d hp hx
    split at h
    ·rename_i hcond
     simp only [Option.some.injEq] at h
     subst h
     obtain ⟨y,hg,h3⟩:=bind_some hK
     unfold atN at hg
     split at h3
     ·rename_i z hz
      refine ⟨_,?_,h3⟩
      simp only [evW,hp,hx,xG]
      rw [if_pos hcond]
      simp only [hg,hz]
     ·cases h3
    ·cases h
   ·cases h
 case call c=>
  split at h
  ·rename_i q' hq
   simp only [Option.some.injEq] at h
   subst h
   obtain ⟨e1,h1,h2⟩:=zMd hq hK
   refine ⟨e1,?_,h2⟩
   simp only [evW,zNn hq,h1]
  ·split at h
   ·rename_i x0 x1 t0 t1 d hcal hargs htys _
    split at h
    ·rename_i el el1 hu0 hu1
     split at h
     ·rename_i info hinfo
      split at h
      ·rename_i z t ys hz hsrc
       split at h
       ·rename_i nm xs hdst
        split at h
        ·rename_i hok
         simp only [Option.some.injEq] at h
         subst h
         obtain ⟨zs,hzs,hK⟩:=bind_some hK
         unfold app at hzs
         split at hzs
         ·rename_i hroom
          simp only [Option.some.injEq] at hzs
          subst hzs
          refine ⟨_,?_,hK⟩
          have hu0':P.underlying t0=some (.slice el):=hu0
          have hu1':P.underlying t1=some (.slice el1):=hu1
          have hinfo':P.info? el=some info:=hinfo
          simp only [evW,q9,hcal,hargs,htys,hu0',hu1',hinfo',hz,hsrc,hdst]
          rw [if_pos hok,if_pos hroom]
         ·cases hzs
        ·cases h
       ·cases h
      ·cases h
     ·cases h
    ·cases h
   ·cases h
theorem zJs {q:Kex Γ ρ} {K:Env Γ.St→Option ρ} (h:wXs P G e o=some q) (hK:q K=some v): ∃e1,evW P G e o=some e1∧K e1=some v:=by
 unfold wXs at h
 split at h
 ·rename_i q' hq
  simp only [Option.some.injEq] at h;subst h
  exact zPl hq hK
 ·split at h
  ·rename_i r hr
   simp only [Option.some.injEq] at h;subst h
   exact ⟨r,hr,hK⟩
  ·cases h
theorem zKk (hS:z8 Γ P G S.toS) {q:Kex Γ ρ} {K:Env Γ.St→Option ρ} (h:zEW P G S e o=some q) (hK:q K=some v):
  ∃e1,zNw P G e o e1∧Agree (qQ G e o) e e1∧K e1=some v:=by
 unfold zEW at h
 split at h
 ·rename_i q' hq
  simp only [Option.some.injEq] at h;subst h
  obtain ⟨r,hr,hk⟩:=zEa hq hK
  split at hk
  ·rename_i e1 he1
   refine ⟨e1,fun w0 F0 O0 a w Q hi=>zIM (P:=P) hS hi ?_,?_,hk⟩
   ·simp only [zF9,hr,he1]
   ·refine (zC2 he1).mono ?_
    intro t ht
    simp only [qQ,wE] at ht
    exact ht.1
  ·cases hk
 ·obtain ⟨e1,h1,h2⟩:=zJs h hK
  exact ⟨e1,fun w0 F0 O0 a w Q hi=>zN2 hi h1,zJ6 h1,h2⟩
theorem zNr (e:Env Γ.St) (id p:Nat) (t:Ty) (ys zs:List t.El) (st:Γ.St) (dst:Option Tmp) (d:V) (hp:e.get p= .ot id t ys):Agree (xN dst) e (zPX e id p t zs st dst d):=by
 have hg: ∀t',t'≠p→(⟨(e.tm.map (updB id t zs)).set p (.ot id t zs),e.vars.map (fun c=>c.map (List.map (zN id))),st⟩:Env Γ.St).get t'=updB id t zs (e.get t'):=by
  intro t' hne
  simp only [Env.get,List.getD_eq_getElem?_getD]
  rw [List.getElem?_set_ne (Ne.symm hne),List.getElem?_map]
  cases e.tm[t']? with
  |none=>simp [updB,zN]
  |some x=>rfl
 have h1:Agree 0 e (⟨(e.tm.map (updB id t zs)).set p (.ot id t zs),e.vars.map (fun c=>c.map (List.map (zN id))),st⟩:Env Γ.St):=by
  refine ⟨by simp,by simp,?_,?_,?_⟩
  ·intro t' d' ht' hx
   have hne:t'≠p:=fun h=>by rw [h,hp] at hx;cases hx
   rw [hg t' hne,hx];rfl
  ·intro t' s off _ _ hx
   have hne:t'≠p:=fun h=>by rw [h,hp] at hx;cases hx
   rw [hg t' hne,hx];rfl
  ·intro s ds _ _ hx
   have h2:(⟨(e.tm.map (updB id t zs)).set p (.ot id t zs),e.vars.map (fun c=>c.map (List.map (zN id))),st⟩:Env Γ.St).var s=(e.mapT (zN id)).var s:=rfl
   rw [h2,zR,hx]
   simp [zN,Function.comp_def]
 exact (h1.mono (fun t' _=>by simp)).same (uH _ dst _)
theorem zNq (e:Env Γ.St) (id:Nat) (t:Ty) (zs:List t.El) (st:Γ.St) (dst:Option Tmp):Agree (xN dst) e (zPW e id t zs st dst):=by
 have hg: ∀t',(⟨e.tm.map (zN id),e.vars.map (fun c=>c.map (List.map (zN id))),st⟩:Env Γ.St).get t'=zN id (e.get t'):=qE (f:=zN id) rfl e
 have h1:Agree 0 e (⟨e.tm.map (zN id),e.vars.map (fun c=>c.map (List.map (zN id))),st⟩:Env Γ.St):=by
  refine ⟨by simp,by simp,?_,?_,?_⟩
  ·intro t' d' ht' hx
   rw [hg t',hx];rfl
  ·intro t' s off _ _ hx
   rw [hg t',hx];rfl
  ·intro s ds _ _ hx
   have h2:(⟨e.tm.map (zN id),e.vars.map (fun c=>c.map (List.map (zN id))),st⟩:Env Γ.St).var s=(e.mapT (zN id)).var s:=rfl
   rw [h2,zR,hx]
   simp [zN,Function.comp_def]
 exact (h1.mono (fun t' _=>by simp)).same (uH _ dst _)
theorem zNj (hS:z8 Γ P G S.toS) {q:Kex Γ ρ} {K:Env Γ.St→Option ρ} (h:zSP G S e o=some q) (hK:q K=some v):
  ∃e1,zNw P G e o e1∧Agree (qQ G e o) e e1∧K e1=some v:=by
 obtain ⟨dst,op,type,pos,after,guard⟩:=o
 unfold zSP at h
 split at h
 ·rename_i c hop
  subst hop
  split at h
  ·rename_i f p xs hcal hargs
   split at h
   ·rename_i g id t ys ds hf hp hxs
    split at h
    ·rename_i cx hcx
     split at h
     ·simp only [Option.some.injEq] at h
      subst h
      obtain ⟨hlens,hK⟩:=wL.1 hK
      obtain ⟨y,hy,hK⟩:=bind_some hK
      split at hK
      ·cases hK
      ·rename_i t' zs d hdb hres
       split at hK
       ·rename_i ht
        subst ht
        refine ⟨_,fun w0 F0 O0 a w Q hi=>zRN hS hi hcal hf hargs hp hxs hlens hdb (by rw [zFF hcx hy,hres]),?_,hK⟩
        refine (zNr e id p t' ys zs _ dst d hp).mono ?_
        intro b hb
        simp only [qQ,wE] at hb
        exact hb.1
       ·cases hK
      ·cases hK
     ·split at h
      ·cases h
      ·rename_i hid
       have hid:id≠qL:=fun hh=>by rw [hh,Nat.beq_refl] at hid;cases hid
       simp only [Option.some.injEq] at h
       subst h
       obtain ⟨y,hy,hK⟩:=bind_some hK
       split at hK
       ·rename_i t' zs hres
        split at hK
        ·rename_i ht
         subst ht
         refine ⟨_,fun w0 F0 O0 a w Q hi=>zQc hS hi hcal hf hargs hp hxs hid (by rw [zFF hcx hy,hres]),?_,hK⟩
         refine (zNq e id t' zs _ dst).mono ?_
         intro b hb
         simp only [qQ,wE] at hb
         exact hb.1
        ·cases hK
       ·cases hK
    ·cases h
   ·cases h
  ·cases h
 ·cases h
theorem zNp (e:Env Γ.St) (s:Nat) (t:Ty) (z:t.El) (st:Γ.St) (dst:Option Tmp) (d:V):Agree (xN dst|||2^(2*s+1)) e (zPV e s t z st dst d):=by
 have h1:Agree (2^(2*s+1)) e (⟨e.tm,e.vars.set s (some ((t.cells z).map T.p)),st⟩:Env Γ.St):=
  (zI4 s _ e).same ((zGj st _).mono (fun t _=>by simp))
 refine (h1.trans (uH _ dst (.p d))).mono ?_
 intro b hb
 simp only [wE] at hb ⊢
 exact ⟨hb.2,hb.1⟩
theorem zMG (hS:z8 Γ P G S.toS) {q:Kex Γ ρ} {K:Env Γ.St→Option ρ} (h:zSo P G S e o=some q) (hK:q K=some v):
  ∃e1,zNw P G e o e1∧Agree (zEQ G e o) e e1∧K e1=some v:=by
 obtain ⟨dst,op,type,pos,after,guard⟩:=o
 unfold zSo at h
 split at h
 ·rename_i c hop
  subst hop
  split at h
  ·rename_i f hcal
   split at h
   ·rename_i g k s xs hf hspl
    split at h
    ·rename_i ds cs t hxs hcs hty
     split at h
     ·rename_i vs hvs
      split at h
      ·rename_i y hy
       split at h
       ·rename_i cx hcx
        split at h
        ·simp only [Option.some.injEq] at h
         subst h
         obtain ⟨u,hu,hK⟩:=bind_some hK
         split at hK
         ·rename_i t' z d hres
          split at hK
          ·rename_i ht
           subst ht
           refine ⟨_,fun w0 F0 O0 a w Q hi=>zRh hS hi hcal hf hspl hxs hcs hvs hy (by rw [zFF hcx hu,hres]),?_,hK⟩
           refine (zNp e s t' z _ dst d).mono ?_
           intro b hb
           simp only [zEQ,qQ,wE,hspl,zTa] at hb
           rw [wE]
           exact ⟨hb.1.1,hb.2⟩
          ·cases hK
         ·cases hK
        ·cases h
       ·cases h
      ·cases h
     ·cases h
    ·cases h
   ·cases h
  ·cases h
 ·cases h
theorem zFM (hS:z8 Γ P G S.toS) {q:Kex Γ ρ} {K:Env Γ.St→Option ρ} (h:zKm P G S e o=some q) (hK:q K=some v):
  ∃e1,zNw P G e o e1∧Agree (zEQ G e o) e e1∧K e1=some v:=by
 have hm: ∀b,(zEQ G e o).testBit b=false→(qQ G e o).testBit b=false:=fun b hb=>by
  unfold zEQ at hb
  rw [wE] at hb
  exact hb.1
 unfold zKm at h
 split at h
 ·rename_i q' hq
  simp only [Option.some.injEq] at h;subst h
  obtain ⟨e1,h1,h2,h3⟩:=zKk hS hq hK
  exact ⟨e1,h1,h2.mono hm,h3⟩
 ·split at h
  ·rename_i q' hq
   simp only [Option.some.injEq] at h;subst h
   obtain ⟨e1,h1,h2,h3⟩:=zNj hS hq hK
   exact ⟨e1,h1,h2.mono hm,h3⟩
  ·exact zMG hS h hK
theorem zFu (hS:z8 Γ P G S.toS) {lg:Nat} {K:Env Γ.St→Nat→Option ρ} (h:zQO P G S e lg o K=some v):
  ∃e1 d,zNw P G e o e1∧Agree d e e1∧K e1 (lg|||d)=some v:=by
 unfold zQO at h
 split at h
 ·rename_i q hq
  obtain ⟨e1,h1,h2,h3⟩:=zFM hS hq h
  exact ⟨e1,_,h1,h2,h3⟩
 ·split at h
  ·rename_i q hq
   obtain ⟨e1,h1,h2,h3⟩:=zFM hS hq h
   exact ⟨e1,_,fun w0 F0 O0 a w Q hi=>h1 w0 F0 O0 a w Q (Inv.frzOps _ _ hi),(zC1 _ e).trans h2,h3⟩
  ·cases h
theorem zLa (hS:z8 Γ P G S.toS) {lg:Nat} {K:Env Γ.St→Nat→Option ρ} (h:zPw P G S ops e lg o K=some v):
  ∃e1 d,zOc P G ops e o e1∧Agree d e e1∧K e1 (lg|||d)=some v:=by
 unfold zPw at h
 split at h
 ·rename_i hg
  obtain ⟨e1,d,h1,h2,h3⟩:=zFu hS h
  exact ⟨e1,d, .inl ⟨by simp only [qM,hg],h1⟩,h2,h3⟩
 ·rename_i j want hg
  split at h
  ·rename_i hj
   exact ⟨_,_, .inr ⟨by simp only [qM,hg,hj],rfl⟩,uH e o.dst _,h⟩
  ·rename_i t hj
   split at h
   ·rename_i b hb
    split at h
    ·rename_i hlt
     have hw:qM ops e o=some (b==want):=by simp only [qM,hg,hj,hb,hlt,if_true]
     cases b with
     |true=>
      simp only [cond_true] at h
      split at h
      ·rw [zEg,zDE hb] at h
       obtain ⟨e1,d,h1,h2,h3⟩:=zFu hS h
       exact ⟨e1,d, .inl ⟨hw,h1⟩,h2,h3⟩
      ·rw [zDE hb] at h
       exact ⟨_,_, .inr ⟨hw,rfl⟩,uH e o.dst _,h⟩
     |false=>
      simp only [cond_false] at h
      split at h
      ·rw [zDE hb] at h
       exact ⟨_,_, .inr ⟨hw,rfl⟩,uH e o.dst _,h⟩
      ·rw [zEg,zDE hb] at h
       obtain ⟨e1,d,h1,h2,h3⟩:=zFu hS h
       exact ⟨e1,d, .inl ⟨hw,h1⟩,h2,h3⟩
    ·cases h
   ·rename_i vs hb
    exact ⟨_,_, .inr ⟨by simp only [qM,hg,hj,hb],rfl⟩,uH e o.dst _,h⟩
   ·cases h
theorem xV (hS:z8 Γ P G S.toS) {K:Env Γ.St→Nat→Option ρ} : ∀ (l:List Oper) (e:Env Γ.St) (lg:Nat),seqX P G S ops l e lg K=some v→ ∃e' d,zGl P G ops l e e'∧Agree d e e'∧K e' (lg|||d)=some v:=by
 intro l
 induction l with
 |nil=>intro e lg h;exact ⟨e,0, .nil e,Agree.refl e,by rw [Nat.or_zero];exact h⟩
 |cons o rest ih=>
  intro e lg h
  simp only [seqX] at h
  obtain ⟨e1,d,h1,h2,h3⟩:=zLa hS h
  rw [zKz] at h3
  obtain ⟨e',d',h4,h5,h6⟩:=ih e1 _ h3
  exact ⟨e',d|||d', .cons h1 h4,h2.trans h5,by rw [←Nat.or_assoc];exact h6⟩
theorem zGl.app {l1 l2:List Oper} {e1 e2 e3:Env Γ.St} (h:zGl P G ops l1 e1 e2) (h':zGl P G ops l2 e2 e3):zGl P G ops (l1++l2) e1 e3:=by
 induction h with
 |nil=>exact h'
 |cons h0 _ ih=>exact .cons h0 (ih h')
theorem zMH (hS:z8 Γ P G S.toS) {K:Env Γ.St→Option ρ} (h:zSp P G S e o K=some v): ∃e1,zOc P G ops e o e1∧Agree (xN o.dst) e e1∧K e1=some v:=by
 unfold zSp at h
 split at h
 ·rename_i hg
  split at h
  ·rename_i q hq
   obtain ⟨r,hr,hk⟩:=zEa hq h
   split at hk
   ·rename_i t xs
    split at hk
    ·rename_i e1 he1
     exact ⟨e1, .inl ⟨by simp only [qM,hg],fun w0 F0 O0 a w Q hi=>zRe (P:=P) hS hi hr he1⟩,zC2 he1,hk⟩
    ·cases hk
   ·cases hk
  ·cases h
 ·cases h
theorem zLk (hS:z8 Γ P G S.toS) {K:Env Γ.St→Nat→Option ρ} {k:Nat} {lg:Nat} (h:zPF P G S ops k e lg K=some v): ∃e' d,zGl P G ops ops.toList e e'∧Agree d e e'∧K e' (lg|||d)=some v:=by
 unfold zPF at h
 obtain ⟨e1,d1,h1,h2,h3⟩:=xV hS _ _ _ h
 split at h3
 ·rename_i o rest hd
  obtain ⟨e2,h4,h5,h6⟩:=zMH (ops:=ops) hS h3
  rw [zKz] at h6
  obtain ⟨e3,d3,h7,h8,h9⟩:=xV hS _ _ _ h6
  refine ⟨e3,d1|||xN o.dst|||d3,?_,(h2.trans h5).trans h8,by rw [←Nat.or_assoc, ←Nat.or_assoc];exact h9⟩
  have:=h1.app (.cons h4 h7)
  rw [←hd,List.take_append_drop] at this
  exact this
 ·cases h3
theorem zHJ {lg:Nat} {K:Env Γ.St→Nat→Option ρ} (h:zAV P G S e lg o K=some v): ∃r e1,evQ P G S.toS e o=some r∧zG5 e o.dst r=some e1∧K e1 (lg|||xN o.dst)=some v:=by
 unfold zAV at h
 split at h
 ·rename_i q hq
  obtain ⟨r,hr,hk⟩:=zEa hq h
  split at hk
  ·rename_i e1 he1;exact ⟨r,e1,hr,he1,hk⟩
  ·cases hk
 ·cases h
theorem zEL {K:Env Γ.St→Nat→Option ρ} : ∀ (l:List Oper) (e:Env Γ.St) (lg:Nat),uF P G S ops l e lg K=some v→ ∃e' d,zAc P G S.toS ops l e=some e'∧Agree d e e'∧K e' (lg|||d)=some v:=by
 intro l
 induction l with
 |nil=>intro e lg h;exact ⟨e,0,rfl,Agree.refl e,by rw [Nat.or_zero];exact h⟩
 |cons o rest ih=>
  intro e lg h
  have run: ∀e0:Env Γ.St,e0=e→qM ops e o=some true→(if zIs G (zK (o::rest)) e0 o then zAV P G S e0 lg o (fun e1 lg=>kOp o e1 (fun e1=>uF P G S ops rest e1 lg K)) else none)=some v→
    ∃e' d,zAc P G S.toS ops (o::rest) e=some e'∧Agree d e e'∧K e' (lg|||d)=some v:=by
   intro e0 he0 hw hh
   subst he0
   split at hh
   ·rename_i hp
    obtain ⟨r,e1,h1,h2,h3⟩:=zHJ hh
    rw [zKz] at h3
    obtain ⟨e',d,h4,h5,h6⟩:=ih e1 _ h3
    refine ⟨e',xN o.dst|||d,?_,(zKP h2).trans h5,by rw [←Nat.or_assoc];exact h6⟩
    simp only [zAc,hw,hp,if_true,h1,h2,h4]
   ·cases hh
  have skip: ∀e0:Env Γ.St,e0=e→qM ops e o=some false→zFb (o.dst.getD 0) (e0.put o.dst (.p (.val undef))) (fun e1=>uF P G S ops rest e1 (lg|||xN o.dst) K)=some v→
    ∃e' d,zAc P G S.toS ops (o::rest) e=some e'∧Agree d e e'∧K e' (lg|||d)=some v:=by
   intro e0 he0 hw hh
   subst he0
   rw [zEg] at hh
   obtain ⟨e',d,h4,h5,h6⟩:=ih _ _ hh
   refine ⟨e',xN o.dst|||d,?_,(uH _ o.dst _).trans h5,by rw [←Nat.or_assoc];exact h6⟩
   simp only [zAc,hw,h4]
  unfold uF at h
  split at h
  ·rename_i hg;exact run e rfl (by simp only [qM,hg]) h
  ·rename_i j want hg
   split at h
   ·rename_i hj;exact skip e rfl (by simp only [qM,hg,hj]) h
   ·rename_i t hj
    split at h
    ·rename_i b hb
     split at h
     ·rename_i hlt
      have hw:qM ops e o=some (b==want):=by simp only [qM,hg,hj,hb,hlt,if_true]
      cases b with
      |true=>
       simp only [cond_true] at h
       split at h
       ·rw [zEg] at h;exact run _ (zDE hb) hw h
       ·exact skip _ (zDE hb) hw h
      |false=>
       simp only [cond_false] at h
       split at h
       ·exact skip _ (zDE hb) hw h
       ·rw [zEg] at h;exact run _ (zDE hb) hw h
     ·cases h
    ·rename_i vs hb;exact skip e rfl (by simp only [qM,hg,hj,hb]) h
    ·cases h
theorem zEM: ∀ (ds:List Nat) (e:Env Γ.St),Agree (zL4 ds) e (killAll ds e):=by
 intro ds
 induction ds with
 |nil=>intro e;exact Agree.refl e
 |cons d r ih=>intro e;exact (zFy d e).trans (ih _)
theorem zKI (hmix:P.follows .mixedOrders=true) (hS:z8 Γ P G S.toS) {lg:Nat} {K:Env Γ.St→Nat→Option ρ} {k:Nat} (h:zIV P G S ops k e lg K=some v): ∃e' d,(∀ (id:Nat) (w0:World) (F0:Blk→Prop) (O0:kH) (a:Act) (w:World) (Q:Exit→Act→World→Prop),
  Inv Γ G w0 F0 O0 a w e→(∀a w,Inv Γ G w0 F0 O0 a w e'→Q .normal a w)→(Code.region id ops true).wp P Q a w)∧Agree d e e'∧K e' (lg|||d)=some v:=by
 unfold zIV at h
 split at h
 ·rename_i hc
  simp only [Bool.and_eq_true,decide_eq_true_eq] at hc
  obtain ⟨⟨⟨h1,h2⟩,h3⟩,h4⟩:=hc
  rw [kB] at h
  obtain ⟨e1,d1,h5,h6,h7⟩:=zEL _ _ _ h
  obtain ⟨e',d2,h8,h9,h10⟩:=xV hS _ _ _ h7
  refine ⟨e',_|||d1|||d2,fun id w0 F0 O0 a w Q hi hQ=>zO0 hmix hS hi h1 h2 h3 (e1:=e1) ?_ h8 hQ,((zEM _ e).trans h6).trans h9,?_⟩
  ·unfold zM9
   rw [if_pos h4]
   exact h5
  ·rw [Nat.or_assoc, ←Nat.or_assoc, ←Nat.or_assoc];exact h10
 ·cases h
theorem zOL {St:Type} {e1:Env St} : ∀ (l:List Nat) (fl:List Fl),zMY ops e1 l=some fl→
  (∀q,q∈fl→q.i∈l∧ ∃o,ops[q.i]? =some o∧o.dst=some q.d∧((zMP (e1.get q.d)=true∧q.v= .c (e1.get q.d))∨ ∃s,o.op= .move (.tmp s)∧q.v= .a s))∧ ∀i,i∈l→ ∃q,q∈fl∧q.i=i:=by
 intro l
 induction l with
 |nil=>intro fl h;simp only [zMY,Option.some.injEq] at h;subst h;exact ⟨fun q hq=>by simp at hq,fun i hi=>by simp at hi⟩
 |cons i r ih=>
  intro fl h
  simp only [zMY] at h
  split at h
  ·rename_i o ho
   split at h
   ·rename_i d hd
    have step: ∀q0:Fl,q0.i=i→q0.d=d→((zMP (e1.get d)=true∧q0.v= .c (e1.get d))∨ ∃s,o.op= .move (.tmp s)∧q0.v= .a s)→(zMY ops e1 r).map (q0:: ·)=some fl→
      (∀q,q∈fl→q.i∈i::r∧ ∃o,ops[q.i]? =some o∧o.dst=some q.d∧((zMP (e1.get q.d)=true∧q.v= .c (e1.get q.d))∨ ∃s,o.op= .move (.tmp s)∧q.v= .a s))∧ ∀j,j∈i::r→ ∃q,q∈fl∧q.i=j:=by
     intro q0 h1 h2 h3 hm
     simp only [Option.map_eq_some_iff] at hm
     obtain ⟨fl0,hfl0,rfl⟩:=hm
     obtain ⟨g1,g2⟩:=ih fl0 hfl0
     refine ⟨?_,?_⟩
     ·intro q hq
      rcases List.mem_cons.1 hq with rfl|hq
      ·rw [h1,h2];exact ⟨by simp,o,ho,hd,h3⟩
      ·obtain ⟨k1,k2⟩:=g1 q hq
       exact ⟨List.mem_cons_of_mem _ k1,k2⟩
     ·intro j hj
      rcases List.mem_cons.1 hj with rfl|hj
      ·exact ⟨q0,by simp,h1⟩
      ·obtain ⟨q,k1,k2⟩:=g2 j hj
       exact ⟨q,List.mem_cons_of_mem _ k1,k2⟩
    split at h
    ·rename_i hpl;exact step ⟨i,d, .c (e1.get d)⟩ rfl rfl (.inl ⟨hpl,rfl⟩) h
    ·split at h
     ·rename_i s hop;exact step ⟨i,d, .a s⟩ rfl rfl (.inr ⟨s,hop,rfl⟩) h
     ·cases h
   ·cases h
  ·cases h
theorem zKA {fl:List Fl} {t:Nat} :flD fl t=true↔ ∃q,q∈fl∧q.d=t:=by
 simp only [flD,List.any_eq_true]
 constructor
 ·rintro ⟨q,hq,h⟩;exact ⟨q,hq,Nat.eq_of_beq_eq_true h⟩
 ·rintro ⟨q,hq,rfl⟩;exact ⟨q,hq,by simp⟩
theorem zLN {n:Nat} {fl:List Fl} (h1:zLO n fl=true) (h2:zQw fl=true):zED n fl:=by
 have hd: ∀l:List Fl,zLO n l=true→l.Pairwise (fun p q=>p.d≠q.d)∧ ∀q,q∈l→q.d<n:=by
  intro l
  induction l with
  |nil=>intro _;exact ⟨.nil,fun q hq=>by simp at hq⟩
  |cons q r ih=>
   intro h
   simp only [zLO,Bool.and_eq_true,Bool.not_eq_true'] at h
   obtain ⟨⟨g1,g2⟩,g3⟩:=h
   obtain ⟨k1,k2⟩:=ih g3
   refine ⟨List.pairwise_cons.2 ⟨?_,k1⟩,?_⟩
   ·intro p hp hh
    have:flD r q.d=true:=zKA.2 ⟨p,hp,hh.symm⟩
    rw [g1] at this;cases this
   ·intro p hp
    rcases List.mem_cons.1 hp with rfl|hp
    ·simpa using g2
    ·exact k2 p hp
 refine ⟨(hd fl h1).1,(hd fl h1).2,?_⟩
 intro q hq s hs p hp hh
 have:=List.all_eq_true.1 h2 q hq
 rw [hs] at this
 simp only [Bool.not_eq_true'] at this
 have h3:flD fl s=true:=zKA.2 ⟨p,hp,hh.symm⟩
 rw [this] at h3;cases h3
theorem zLy {d:Nat} {x:T} (h:noD d x=true):zM d x=x:=by
 cases x<;>simp only [noD,zM] at h ⊢ <;>first|rfl|(rw [if_neg];intro hh;subst hh;simp at h)|(rw [if_neg];rintro (hh|hh)<;>(subst hh;simp at h))
theorem zNh {St:Type} {d:Nat} {e:Env St} (h1: ∀x,x∈e.tm→noD d x=true) (h2: ∀cs,some cs∈e.vars→ ∀x,x∈cs→noD d x=true) (h3:e.var d=none):e.kill d=e:=by
 obtain ⟨tm,vars,st⟩:=e
 simp only [Env.kill,Env.mk.injEq,and_true]
 refine ⟨?_,?_⟩
 ·exact (List.map_congr_left (fun x hx=>zLy (h1 x hx))).trans (List.map_id _)
 ·have hs:vars.set d none=vars:=by
   apply List.ext_getElem?
   intro i
   rw [List.getElem?_set]
   split
   ·rename_i h;subst h
    simp only [Env.var] at h3
    split
    ·rename_i hl
     rw [List.getElem?_eq_getElem hl] at h3 ⊢
     simpa using h3.symm
    ·rename_i hl;rw [List.getElem?_eq_none (by omega)]
   ·rfl
  rw [hs]
  refine (List.map_congr_left (g:=id) ?_).trans (List.map_id _)
  intro c hc
  cases c with
  |none=>rfl
  |some cs=>exact congrArg some ((List.map_congr_left (fun x hx=>zLy (h2 cs hc x hx))).trans (List.map_id _))
theorem zQz {S:qV Γ} {L:qN} (st:Γ.St) (hc:isCall o=false):evQ L G S { e with st:=st } o=evQ L G S e o:=
 zIL (fun x _=>by cases x<;>rfl) (fun _ _ _ _ _=>rfl) (fun h=>by rw [hc] at h;cases h)
theorem zRg {St:Type} {b:Env St} : ∀ (L:List Fl) (b:Env St) (x:T),x∈(qO b L).tm→x∈b.tm∨(∃q,q∈L∧ ∃y,q.v= .c y∧x=y)∨x= .dead:=by
 intro L
 induction L with
 |nil=>intro b x h;exact .inl h
 |cons q L ih=>
  intro b x h
  rcases ih (zAN b q) x h with h|⟨r,hr,y,hy⟩|h
  ·simp only [zAN] at h
   rcases List.mem_or_eq_of_mem_set h with h|h
   ·exact .inl h
   ·unfold Fl.val at h
    cases hv:q.v with
    |c y=>rw [hv] at h;exact .inr (.inl ⟨q,by simp,y,hv,h⟩)
    |a s=>
     rw [hv] at h
     simp only [Env.get,List.getD_eq_getElem?_getD] at h
     cases hg:b.tm[s]? with
     |none=>rw [hg] at h;exact .inr (.inr h)
     |some z=>rw [hg] at h;simp only [Option.getD_some] at h;subst h;exact .inl (List.mem_of_getElem? hg)
  ·exact .inr (.inl ⟨r,List.mem_cons_of_mem _ hr,y,hy⟩)
  ·exact .inr (.inr h)
theorem zIz {Sp:qV Γ} {Cm Um:Nat} {anc:Array Nat} (hch:zNx ops anc Cm Um) {fl:List Fl} {e1 b:Env Γ.St} {m:Nat} (hfl:zED e1.tm.length fl)
  (hspec: ∀q,q∈fl→Cm.testBit q.i=false∧Um.testBit q.i=true∧ ∃o,ops[q.i]? =some o∧o.dst=some q.d∧((zMP (e1.get q.d)=true∧q.v= .c (e1.get q.d))∨ ∃s,o.op= .move (.tmp s)∧q.v= .a s))
  (hvar: ∀q,q∈fl→e1.var q.d=none) (hA:Agree m (zBE e1 fl) b)
  {q:Fl} (hq:q∈fl) (hst: ∀o,ops[q.i]? =some o→ ∃st st',zBc P G Sp (jG ops Cm) e1 st o st') (h:zRk ops fl m e1 b q=true):zGo P G Sp ops fl b q:=by
 intro o p ho hp
 obtain ⟨hC,hU,o',ho',hd,hcase⟩:=hspec q hq
 rw [ho] at ho'
 cases ho'
 have hg:=hch.guardC q.i o ho (.inr hU)
 have hnc:=hch.call q.i o ho hC hU
 obtain ⟨d1,d2,d3⟩:=zLW hfl
 have hlen:b.tm.length=e1.tm.length:=hA.tl.trans d1.len
 obtain ⟨a1,a2⟩:=uQ (fl.filter p) b e1.tm.length (hfl.filter p) (by rw [hlen];exact Nat.le_refl _)
 have hal:=kS (fl.filter p) b
 unfold zRk at h
 rw [ho] at h
 simp only at h
 rcases hcase with ⟨hpl,hv⟩|⟨s,hop,hv⟩
 ·-- a value
  rw [hv] at h
  simp only [Bool.and_eq_true] at h
  obtain ⟨⟨h1,h2⟩,h3⟩:=h
  obtain ⟨st,st',hstep⟩:=hst o ho
  rcases hstep with ⟨_,r,hev,_,hneed,hdst⟩|⟨hw,_⟩
  ·obtain ⟨g1,g2,g3⟩:=hdst q.d hd
   have hget:=g1 (hfl.lt q hq)
   have hev':evQ P G Sp (qO b (fl.filter p)) o=some r:=by
    rw [←hev,zQz st hnc, ←zQz (e:=e1) (qO b (fl.filter p)).st hnc]
    have hops: ∀x,x∈o.op.operands→evx G (qO b (fl.filter p)) x=evx G e1 x∧ ∀s off,evx G e1 x= .lp s off→(qO b (fl.filter p)).var s=e1.var s:=by
     intro x hx
     have hok:=List.all_eq_true.1 h1 x (by simpa using hx)
     cases x with
     |tmp t=>
      simp only [zP1,Bool.and_eq_true,Bool.or_eq_true] at hok
      obtain ⟨hwhich,hm⟩:=hok
      have hvars: ∀s off,e1.get t= .lp s off→(qO b (fl.filter p)).var s=e1.var s:=by
       intro s off hlp
       rw [hlp] at hm
       simp only [Bool.and_eq_true,Bool.not_eq_true'] at hm
       obtain ⟨hsb,hm⟩:=hm
       split at hm
       ·rename_i cs hcs
        simp only [Bool.and_eq_true,Bool.not_eq_true'] at hm
        have hds: ∃ds:List V,cs=ds.map T.p:=by
         have hall:=hm.1
         clear hcs hm
         induction cs with
         |nil=>exact ⟨[],rfl⟩
         |cons c cs ih=>
          simp only [List.all_cons,Bool.and_eq_true] at hall
          obtain ⟨ds,hds⟩:=ih hall.2
          cases c with
          |p d0=>exact ⟨d0::ds,by rw [hds];rfl⟩
          |_=>simp at hall
        obtain ⟨ds,rfl⟩:=hds
        have hvv:=hA.v s ds hsb hm.2 (by rw [d1.var];exact hcs)
        rw [hal.var,hvv,hcs]
       ·cases hm
      refine ⟨?_,fun s off hs=>hvars s off hs⟩
      show (qO b (fl.filter p)).get t=e1.get t
      rcases hwhich with hok|hok
      ·simp only [flC,List.any_eq_true,Bool.and_eq_true] at hok
       obtain ⟨q',hq',hqd,hqc⟩:=hok
       have hqd:=Nat.eq_of_beq_eq_true hqd
       subst hqd
       obtain ⟨_,_,o2,ho2,hd2,hcase2⟩:=hspec q' hq'
       have hpq:=hp q' hq' hx
       have hval:=a2 q' (List.mem_filter.2 ⟨hq',hpq⟩)
       have hv2:q'.v= .c (e1.get q'.d):=by
        rcases hcase2 with ⟨_,h5⟩|⟨s5,_,h5⟩
        ·exact h5
        ·rw [h5] at hqc;cases hqc
       rw [hval];unfold Fl.val;rw [hv2]
      ·simp only [Bool.and_eq_true,Bool.not_eq_true'] at hok
       obtain ⟨hnf,hbit⟩:=hok
       have hnf': ∀q',q'∈fl→t≠q'.d:=by
        intro q' hq' hh
        have:flD fl t=true:=zKA.2 ⟨q',hq',hh.symm⟩
        rw [hnf] at this;cases this
       have hdt:=d2 t hnf'
       have hbt:=a1 t (fun q' hq'=>hnf' q' (List.mem_filter.1 hq').1)
       split at hm
       ·rename_i dv hdv
        have:=hA.p t dv hbit (by rw [hdt];exact hdv)
        rw [hbt,this,hdv]
       ·rename_i s off hlp
        simp only [Bool.and_eq_true,Bool.not_eq_true'] at hm
        have:=hA.lp t s off hbit hm.1 (by rw [hdt];exact hlp)
        rw [hbt,this,hlp]
       ·cases hm
     |_=>exact ⟨rfl,fun s off hs=>by
       simp only [evx] at hs
       first|cases hs|(split at hs<;>cases hs)⟩
    exact zGX (fun x hx=>(hops x hx).1) (fun x hx s off hs=>(hops x hx).2 s off (by rw [←(hops x hx).1];exact hs)) rfl
   have hrc:=zGW hev hnc
   refine .inl ?_
   simp only [zF9,hev',hd]
   have hgoal: ∀e2:Env Γ.St,e2= { (qO b (fl.filter p)) with tm:=(qO b (fl.filter p)).tm.set q.d (zJg q.d r) } →some e2=some (zAN (qO b (fl.filter p)) q):=by
    intro e2 he2
    rw [he2]
    unfold zAN Fl.val
    rw [hv,hget]
   unfold vW
   cases hn:r.needs with
   |false=>
    simp only [hn,Bool.false_eq_true,if_false]
    apply hgoal
    cases r with
    |ret x=>rfl
    |call _ _ _=>cases hrc
    |_=>cases hn
   |true=>
    simp only [hn,if_true]
    unfold clean at h2
    simp only [Bool.and_eq_true] at h2
    obtain ⟨⟨⟨k1,k2⟩,k3⟩,k4⟩:=h2
    have hvl:q.d< (qO b (fl.filter p)).vars.length:=by rw [hal.vars];simpa using k4
    rw [if_pos ⟨hvl,by obtain ⟨d',hd',hdL⟩:=hneed hn;rw [hd] at hd';simp only [Option.some.injEq] at hd';rw [hd'];exact hdL⟩]
    have hk:(qO b (fl.filter p)).kill q.d=qO b (fl.filter p):=by
     refine zNh ?_ ?_ ?_
     ·intro x hx
      rcases zRg (b:=b) _ _ x hx with hx|⟨q',hq',y,hy,rfl⟩|rfl
      ·exact List.all_eq_true.1 k1 x hx
      ·have:=List.all_eq_true.1 h3 q' (List.mem_filter.1 hq').1
       rw [hy] at this
       exact this
      ·rfl
     ·intro cs hcs x hx
      rw [hal.vars] at hcs
      have:=List.all_eq_true.1 k2 (some cs) hcs
      exact List.all_eq_true.1 this x hx
     ·rw [hal.var];exact Option.isNone_iff_eq_none.1 k3
    rw [hk]
    apply hgoal
    cases r with
    |var cs=>have:=g2 cs rfl;rw [hvar q hq] at this;cases this
    |call _ _ _=>cases hrc
    |ret x=>cases hn
    |_=>rfl
  ·simp only [qM,hg] at hw
   cases hw
 ·-- a copy
  refine .inl ?_
  obtain ⟨dst,op,type,pos,after,guard⟩:=o
  simp only at hop hd
  subst hop hd
  simp only [zF9,evQ,vW,R.needs,Bool.false_eq_true,if_false]
  simp only [zAN,Fl.val,hv]
  rfl
theorem zEF {q:Kex Γ ρ} {K:Env Γ.St→Option ρ} (h:zEW P G S e o=some q) (hK:q K=some v):
  ∃e1,(zF9 P G S.toS e o=some e1∨evW P G e o=some e1)∧Agree (qQ G e o) e e1∧K e1=some v:=by
 unfold zEW at h
 split at h
 ·rename_i q' hq
  simp only [Option.some.injEq] at h;subst h
  obtain ⟨r,hr,hk⟩:=zEa hq hK
  split at hk
  ·rename_i e1 he1
   refine ⟨e1, .inl ?_,?_,hk⟩
   ·simp only [zF9,hr,he1]
   ·refine (zC2 he1).mono ?_
    intro t ht
    simp only [qQ,wE] at ht
    exact ht.1
  ·cases hk
 ·obtain ⟨e1,h1,h2⟩:=zJs h hK
  exact ⟨e1, .inr h1,zJ6 h1,h2⟩
theorem zNt: ∀ (l:List Nat) (e:Env Γ.St),Agree 0 e (frzI l e):=by
 intro l
 induction l with
 |nil=>intro e;exact Agree.refl e
 |cons i r ih=>intro e;exact ((yO i e).trans (ih _)).mono (fun t _=>by simp)
theorem zKl {q:Kex Γ ρ} {K:Env Γ.St→Option ρ} (h:zMz P G S e o=some q) (hK:q K=some v):
  ∃e1,zDf P G S.toS e o e1∧Agree (qQ G e o) e e1∧K e1=some v:=by
 unfold zMz at h
 split at h
 ·rename_i q' hq
  simp only [Option.some.injEq] at h;subst h
  obtain ⟨e1,h1,h2,h3⟩:=zEF hq hK
  exact ⟨e1,h1.elim .inl (fun h=> .inr (.inl h)),h2,h3⟩
 ·split at h
  ·rename_i hB
   obtain ⟨e1,h1,h2,h3⟩:=zEF h hK
   refine ⟨e1,?_,?_,h3⟩
   ·rcases h1 with h1|h1
    ·exact .inr (.inr ⟨hB,h1⟩)
    ·rw [zOS hB] at h1
     cases h1
   ·rw [zCr hB] at h2 ⊢
    exact ((zNt _ e).trans h2).mono (fun t ht=>by simpa using ht)
  ·cases h
theorem zO8: ∀ {fl:List Fl} {t:Nat},(xM fl).testBit t=false→ ∀q,q∈fl→t≠2*q.d:=by
 intro fl
 induction fl with
 |nil=>intro t _ q hq;simp at hq
 |cons p r ih=>
  intro t h q hq
  simp only [xM,wE] at h
  rcases List.mem_cons.1 hq with rfl|hq
  ·exact (zHZ _ _).1 h.1
  ·exact ih h.2 q hq
theorem zFx {St:Type} : ∀ (L:List Fl) (e:Env St),Agree (xM L) e (qO e L):=by
 intro L
 induction L with
 |nil=>intro e;exact Agree.refl e
 |cons q L ih=>intro e;exact (zAX q.d (q.val e) e).trans (ih (zAN e q))
theorem zJ4 {L fl:List Fl} (h: ∀q,q∈L→ ∃r,r∈fl∧r.d=q.d) {t:Nat} (ht:(xM fl).testBit t=false):(xM L).testBit t=false:=by
 induction L with
 |nil=>simp [xM]
 |cons q L ih=>
  simp only [xM,wE]
  refine ⟨(zHZ _ _).2 ?_,ih (fun p hp=>h p (List.mem_cons_of_mem _ hp))⟩
  obtain ⟨r,hr,hrd⟩:=h q (by simp)
  rw [←hrd]
  exact zO8 ht r hr
theorem zKg {m:Nat} {dst:Option Nat} {q:Fl} (h:zMt m dst q=true):zMi m dst q:=by
 unfold zMt at h
 simp only [Bool.and_eq_true] at h
 obtain ⟨h1,h2⟩:=h
 refine ⟨?_,?_⟩
 ·intro hh
  rw [hh] at h1
  simp at h1
 ·split at h2
  ·rename_i hv;rw [hv];trivial
  ·rename_i hv;rw [hv];simpa using h2
  ·cases h2
  ·rename_i s hv
   rw [hv]
   intro hh
   rw [hh] at h2
   simp at h2
theorem zIZ {Cm Um:Nat} {anc:Array Nat} (hch:zNx ops anc Cm Um) {fl:List Fl} {e1:Env Γ.St} (hfl:zED e1.tm.length fl)
  (hspec: ∀q,q∈fl→Cm.testBit q.i=false∧Um.testBit q.i=true∧ ∃o,ops[q.i]? =some o∧o.dst=some q.d∧((zMP (e1.get q.d)=true∧q.v= .c (e1.get q.d))∨ ∃s,o.op= .move (.tmp s)∧q.v= .a s))
  (hvar: ∀q,q∈fl→e1.var q.d=none)
  (hst: ∀q,q∈fl→ ∀o,ops[q.i]? =some o→ ∃st st',zBc P G S.toS (jG ops Cm) e1 st o st') {K:Env Γ.St→Nat→Option ρ} : ∀ (l:List Nat) (b:Env Γ.St) (m:Nat),
  zDV P G S ops anc fl e1 l b m K=some v→Agree m (zBE e1 fl) b→(∀t,m.testBit t=false→(xM fl).testBit t=false)→
  ∃b' M,zD0 P G S.toS ops anc fl l b b'∧Agree M (zBE e1 fl) (qO b' fl)∧(∀t,M.testBit t=false→(xM fl).testBit t=false)∧K (qO b' fl) M=some v:=by
 intro l
 induction l with
 |nil=>
  intro b m h hA hm
  simp only [zDV] at h
  rw [kB] at h
  exact ⟨b,_, .nil b,hA.trans (zFx fl b),fun t ht=>((wE _ _ _).1 ht).2,h⟩
 |cons c rest ih=>
  intro b m h hA hm
  simp only [zDV] at h
  split at h
  ·rename_i o ho
   rw [kB] at h
   split at h
   ·rename_i hchk
    simp only [Bool.and_eq_true] at hchk
    obtain ⟨hops,hstays⟩:=hchk
    split at h
    ·rename_i q hq
     obtain ⟨b1,h1,h2,h3⟩:=zKl hq h
     rw [zKz] at h3
     split at h3
     ·rename_i hok
      have hA1:Agree (m|||(xM fl|||qQ G (qO b (fl.filter (zNo anc c))) o)) (zBE e1 fl) b1:=by
       have hput:Agree (xM fl) b (qO b (fl.filter (zNo anc c))):=(zFx _ b).mono (fun t ht=>zJ4 (fun q hq=>⟨q,(List.mem_filter.1 hq).1,rfl⟩) ht)
       exact hA.trans (hput.trans h2)
      obtain ⟨b',M,g1,g2,g3,g4⟩:=ih b1 _ h3 hA1 (fun t ht=>hm t ((wE _ _ _).1 ht).1)
      refine ⟨b',M, .cons ho h1 ?_ ?_ ?_ g1,g2,g3,g4⟩
      ·intro q hqf hx
       have hx1:=List.all_eq_true.1 hops (.tmp q.d) (by simpa using hx)
       have hx2:=List.all_eq_true.1 hx1 q hqf
       simpa [zNo] using hx2
      ·intro q hqf
       exact zKg (List.all_eq_true.1 hstays q hqf)
      ·intro q hqf hnA
       have hx:=List.all_eq_true.1 hok q hqf
       rw [show zNo anc c q=false from hnA,Bool.false_or] at hx
       exact zIz hch hfl hspec hvar hA1 hqf (hst q hqf) hx
     ·cases h3
    ·cases h
   ·cases h
  ·cases h
theorem zKL (hmix:P.follows .mixedOrders=true) (hS:z8 Γ P G S.toS) {Cm Um lg:Nat} {K:Env Γ.St→Nat→Option ρ} (h:zNi P G S ops Cm Um e lg K=some v): ∃e' d,(∀ (id:Nat) (w0:World) (F0:Blk→Prop) (O0:kH) (a:Act) (w:World) (Q:Exit→Act→World→Prop),
  Inv Γ G w0 F0 O0 a w e→(∀a w,Inv Γ G w0 F0 O0 a w e'→Q .normal a w)→(Code.region id ops true).wp P Q a w)∧Agree d e e'∧K e' (lg|||d)=some v:=by
 unfold zNi at h
 split at h
 ·rename_i hchk
  have hch:=zRJ hchk
  rw [kB] at h
  obtain ⟨e1,d1,h1,h2,h3⟩:=zEL _ _ _ h
  split at h3
  ·rename_i fl hfl
   split at h3
   ·rename_i hc
    simp only [Bool.and_eq_true] at hc
    obtain ⟨⟨⟨c1,c2⟩,c3⟩,c4⟩:=hc
    have hflok:=zLN c1 c2
    obtain ⟨s1,s2⟩:=zOL _ _ hfl
    have hspec: ∀q,q∈fl→Cm.testBit q.i=false∧Um.testBit q.i=true∧ ∃o,ops[q.i]? =some o∧o.dst=some q.d∧((zMP (e1.get q.d)=true∧q.v= .c (e1.get q.d))∨ ∃s,o.op= .move (.tmp s)∧q.v= .a s):=by
     intro q hq
     obtain ⟨k1,k2⟩:=s1 q hq
     simp only [List.mem_filter,Bool.and_eq_true,Bool.not_eq_true'] at k1
     exact ⟨k1.2.2,k1.2.1,k2⟩
    have hvar: ∀q,q∈fl→e1.var q.d=none:=fun q hq=>Option.isNone_iff_eq_none.1 (List.all_eq_true.1 c3 q hq)
    have hah:=zI3 hch.st 0 (jG ops Cm).toList (by simp)
    have hno: ∀d,d∈zK (jG ops Cm).toList→(killAll (zK (jG ops Cm).toList) e).var d=none:=by
     intro d hd
     cases hv:(killAll (zK (jG ops Cm).toList) e).var d with
     |none=>rfl
     |some cs=>exact absurd ⟨cs,hv⟩ (uU _ e d hd).1
    obtain ⟨sts,_,_,hsteps,_,_,_⟩:=zCV _ _ _ h1 hah hno
    have hst: ∀q,q∈fl→ ∀o,ops[q.i]? =some o→ ∃st st',zBc P G S.toS (jG ops Cm) e1 st o st':=by
     intro q hq o ho
     exact ⟨_,_,hsteps q.i o (by rw [Array.getElem?_toList];exact vN ho (hspec q hq).1)⟩
    rw [kB] at h3
    have hdead:Agree (xM fl) e1 (zBE e1 fl):=(zFx _ e1).mono (fun t ht=>zJ4 (fun q hq=>by
     obtain ⟨p,hp,rfl⟩:=List.mem_map.1 hq
     exact ⟨p,hp,rfl⟩) ht)
    have hA0:Agree (xM fl) (zBE e1 fl) (zBE e1 fl):=(Agree.refl _).mono (fun t _=>by simp)
    obtain ⟨b',M,g1,g2,g3,g4⟩:=zIZ hch hflok hspec hvar hst _ _ _ h3 hA0 (fun t ht=>ht)
    have hfv: ∀q,q∈fl→e1.get q.d=q.val e1∧e1.var q.d=none:=by
     intro q hq
     refine ⟨?_,hvar q hq⟩
     obtain ⟨hC,hU,o,ho,hd,hcase⟩:=hspec q hq
     rcases hcase with ⟨_,hv⟩|⟨s,hop,hv⟩
     ·unfold Fl.val;rw [hv]
     ·obtain ⟨st,st',hstep⟩:=hst q hq o ho
      have hg:=hch.guardC q.i o ho (.inr hU)
      rcases hstep with ⟨_,r,hev,_,_,hdst⟩|⟨hw,_⟩
      ·obtain ⟨k1,_,_⟩:=hdst q.d hd
       rw [k1 (hflok.lt q hq)]
       simp only [evQ,hop,Option.some.injEq] at hev
       subst hev
       unfold Fl.val;rw [hv];rfl
      ·simp only [qM,hg] at hw;cases hw
    refine ⟨qO b' fl,(zL4 (zK (jG ops Cm).toList)|||d1)|||M,?_,?_,?_⟩
    ·intro id w0 F0 O0 a w Q hi hQ
     refine zO3 hmix hch hS hi h1 hflok ?_ ?_ hfv ?_ g1 hQ
     ·intro i hU hC hlt
      exact s2 i (by simp [hlt,hU,hC])
     ·intro q hq
      obtain ⟨k1,k2,o,ho,hd,_⟩:=hspec q hq
      exact ⟨k1,k2,o,ho,hd⟩
     ·intro q hq
      exact zIz hch hflok hspec hvar hA0 hq (hst q hq) (List.all_eq_true.1 c4 q hq)
    ·have hd2:Agree M e1 (qO b' fl):=(hdead.mono (fun t ht=>g3 t ht)).same g2
     exact ((zEM _ e).trans h2).trans hd2
    ·rw [←Nat.or_assoc, ←Nat.or_assoc];exact g4
   ·cases h3
  ·cases h3
 ·cases h
theorem zDx (hmix:P.follows .mixedOrders=true) (hS:z8 Γ P G S.toS) {d:Bool} {fz:Option (List (Nat×Nat×Nat))} {lg:Nat} {K:Env Γ.St→Nat→Option ρ} {id:Nat} (h:zLo P G S ops d fz e lg K=some v):
  ∃e' n,z9 P G (.region id ops d) e .normal e'∧Agree n e e'∧K e' (lg|||n)=some v:=by
 have draw: ∀ (e:Env Γ.St) (lg k:Nat),zIV P G S ops k e lg K=some v→ ∃e' n,z9 P G (.region id ops true) e .normal e'∧Agree n e e'∧K e' (lg|||n)=some v:=by
  intro e lg k h
  obtain ⟨e1,n,h1,h2,h3⟩:=zKI hmix hS h
  exact ⟨e1,n,fun w0 F0 O0 a w hi=>h1 id w0 F0 O0 a w _ hi (fun a w h=>⟨rfl,h⟩),h2,h3⟩
 unfold zLo at h
 split at h
 ·have seq:(∃e' d,zGl P G ops ops.toList e e'∧Agree d e e'∧K e' (lg|||d)=some v)→ ∃e' n,z9 P G (.region id ops false) e .normal e'∧Agree n e e'∧K e' (lg|||n)=some v:=by
   rintro ⟨e1,n,h1,h2,h3⟩
   refine ⟨e1,n,?_,h2,h3⟩
   intro w0 F0 O0 a w hi
   refine wp_region ?_
   have:=zRd (Q:=fun ex a' w'=>ex=X.toExit .normal∧Inv Γ G w0 F0 O0 a' w' e1) ops 0 ops.toList e e1 a w (by simp) h1 hi (fun a w h=>⟨rfl,h⟩)
   simpa [List.range_eq_range'] using this
  split at h
  ·exact seq (xV hS _ _ _ h)
  ·exact seq (xV hS _ _ _ h)
  ·split at h
   ·exact seq (zLk hS h)
   ·exact seq (xV hS _ _ _ h)
 ·split at h
  ·exact draw e lg _ h
  ·rw [kB] at h
   obtain ⟨e1,n,h1,h2,h3⟩:=draw _ _ _ h
   exact ⟨e1,_,fun w0 F0 O0 a w hi=>h1 w0 F0 O0 a w (Inv.frzOps _ _ hi),(zC1 _ e).trans h2,by rw [←Nat.or_assoc];exact h3⟩
  ·split at h
   ·exact draw e lg _ h
   ·exact draw e lg _ h
   ·rw [kB] at h
    obtain ⟨e1,n,h1,h2,h3⟩:=zKL hmix hS h
    exact ⟨e1,_,fun w0 F0 O0 a w hi=>h1 id w0 F0 O0 a w _ (Inv.frzOps _ _ hi) (fun a w h=>⟨rfl,h⟩),(zC1 _ e).trans h2,by rw [←Nat.or_assoc];exact h3⟩
theorem zOM (a b:Nat):zQY (zLn a b):=⟨fun _=>rfl,fun _ _=>rfl,rfl⟩
theorem zMD {K:Env Γ.St→Option ρ} : ∀ (l:List (Nat×Nat×Nat)) (e:Env Γ.St),zOq l e K=some v→ ∃e',Agree 0 e e'∧K e'=some v∧ ∀ (w0:World) (F0:Blk→Prop) (O0:kH) (a:Act) (w:World),Inv Γ G w0 F0 O0 a w e→Inv Γ G w0 F0 O0 a w e':=by
 intro l
 induction l with
 |nil=>intro e h;exact ⟨e,Agree.refl e,h,fun _ _ _ _ _ h=>h⟩
 |cons x r ih=>
  intro e h
  obtain ⟨a,b,n⟩:=x
  simp only [zOq] at h
  split at h
  ·split at h
   ·rename_i hb
    rw [kB] at h
    obtain ⟨e',h1,h2,h3⟩:=ih _ h
    exact ⟨e',(yE (zOM a b) e).same h1,h2,fun w0 F0 O0 a0 w hi=>h3 w0 F0 O0 a0 w (by
     simp only [Bool.and_eq_true,Bool.not_eq_true'] at hb
     exact hi.ren hb.1 (fun h=>by rw [h] at hb;simp at hb) (fun h=>by rw [h] at hb;simp at hb))⟩
   ·cases h
  ·rw [kB] at h
   obtain ⟨e',h1,h2,h3⟩:=ih _ h
   exact ⟨e',(yO _ e).same h1,h2,fun w0 F0 O0 a0 w hi=>h3 w0 F0 O0 a0 w (hi.frzOE _)⟩
  ·exact ih e h
theorem zIm (hmix:P.follows .mixedOrders=true) (hS:z8 Γ P G S.toS) {d:Bool} {fz:Option (List (Nat×Nat×Nat))} {lg:Nat} {K:Env Γ.St→Nat→Option ρ} {id:Nat} (h:zRf P G S ops d fz e lg K=some v):
  ∃e' n,z9 P G (.region id ops d) e .normal e'∧Agree n e e'∧K e' (lg|||n)=some v:=by
 unfold zRf at h
 split at h
 ·exact zDx hmix hS h
 ·exact zDx hmix hS h
 ·obtain ⟨e1,n,h1,h2,h3⟩:=zDx hmix hS (id:=id) h
  obtain ⟨e2,g1,g2,g3⟩:=zMD (G:=G) _ _ h3
  refine ⟨e2,n,?_,h2.same (g1.mono (fun t _=>by simp)),g2⟩
  intro w0 F0 O0 a w hi
  exact wp_mono (h1 w0 F0 O0 a w hi) (fun ex a' w' hh=>⟨hh.1,g3 w0 F0 O0 a' w' hh.2⟩)
end
end Go.Ve

namespace Go.Ve
open Go
inductive Cell where
 |p (ty:Ty)
 |o (id:Nat) (ty:Ty)
inductive yR where
 |t (i:Nat) (ty:Ty)
 |o (i id:Nat) (ty:Ty)
 |v (s:Nat) (cs:List Cell)
 |st
@[reducible] def Cell.El:Cell→Type
 | .p ty=>ty.El
 | .o _ ty=>List ty.El
@[reducible] def zJ7:List Cell→Type
 |[]=>Unit
 |[c]=>c.El
 |c::c'::r=>c.El×zJ7 (c'::r)
@[reducible] def yR.El (St:Type):yR→Type
 | .t _ ty=>ty.El
 | .o _ _ ty=>List ty.El
 | .v _ cs=>zJ7 cs
 | .st=>St
@[reducible] def jU (St:Type):List yR→Type
 |[]=>Unit
 |[c]=>c.El St
 |c::c'::r=>c.El St×jU St (c'::r)
def rdT (ty:Ty):T→Option ty.El
 | .p d=>ty.dec d
 | .emp=>ty.dec (.sl [])
 |_=>none
def rdO (id:Nat) (ty:Ty):T→Option (List ty.El)
 | .p (.val (.slice none 0 0))=>some []
 | .emp=>some []
 | .ot i t xs=>match Nat.beq i id with
  |true=>zJ3 t ty xs
  |false=>none
 |_=>none
def zK7:Nat→List T→Option (List V×List T)
 |0,r=>some ([],r)
 |n+1, .p d::r=>match zK7 n r with
  |some (ds,r')=>some (d::ds,r')
  |none=>none
 |_+1,_=>none
def zGD:(c:Cell)→List T→Option (c.El×List T)
 | .p ty,ts=>match zK7 ty.size ts with
  |some (ds,r)=>match ty.uncells ds with
   |some (x,[])=>some (x,r)
   |_=>none
  |none=>none
 | .o id ty,x::r=>match rdO id ty x with
  |some xs=>some (xs,r)
  |none=>none
 | .o _ _,[]=>none
def zD9:(cs:List Cell)→List T→Option (zJ7 cs)
 |[],[]=>some ()
 |[],_::_=>none
 |[c],ts=>match zGD c ts with
  |some (x,[])=>some x
  |_=>none
 |c::c'::r,ts=>match zGD c ts with
  |some (x,ts')=>match zD9 (c'::r) ts' with
   |some xs=>some (x,xs)
   |none=>none
  |none=>none
def zGq:(c:Cell)→c.El→List T
 | .p ty,x=>(ty.cells x).map .p
 | .o id ty,xs=>[.ot id ty xs]
def zD2:(cs:List Cell)→zJ7 cs→List T
 |[],_=>[]
 |[c],x=>zGq c x
 |c::c'::r,x=>zGq c x.1++zD2 (c'::r) x.2
section
variable {St:Type}
def zEX (e:Env St):(s:yR)→Option (s.El St)
 | .t i ty=>rdT ty (e.get i)
 | .o i id ty=>rdO id ty (e.get i)
 | .v s cs=>match e.var s with
  |some ts=>zD9 cs ts
  |none=>none
 | .st=>some e.st
def rdS (e:Env St):(l:List yR)→Option (jU St l)
 |[]=>some ()
 |[s]=>zEX e s
 |s::s'::r=>match zEX e s with
  |some x=>match rdS e (s'::r) with
   |some xs=>some (x,xs)
   |none=>none
  |none=>none
def zA1:(s:yR)→s.El St→List (Nat×T)
 | .t i ty,x=>[(i, .p (ty.enc x))]
 | .o i id ty,xs=>[(i, .ot id ty xs)]
 | .v _ _,_=>[]
 | .st,_=>[]
def zBX:(s:yR)→s.El St→List (Nat×List T)
 | .v s cs,x=>[(s,zD2 cs x)]
 | .t _ _,_=>[]
 | .o _ _ _,_=>[]
 | .st,_=>[]
def tmS:(l:List yR)→jU St l→List (Nat×T)
 |[],_=>[]
 |[s],x=>zA1 s x
 |s::s'::r,x=>zA1 s x.1++tmS (s'::r) x.2
def vS:(l:List yR)→jU St l→List (Nat×List T)
 |[],_=>[]
 |[s],x=>zBX s x
 |s::s'::r,x=>zBX s x.1++vS (s'::r) x.2
def zGy:(s:yR)→s.El St→Option St
 | .st,x=>some x
 | .t _ _,_=>none
 | .o _ _ _,_=>none
 | .v _ _,_=>none
def stS:(l:List yR)→jU St l→Option St
 |[],_=>none
 |[s],x=>zGy s x
 |s::s'::r,x=>match zGy s x.1 with
  |some y=>some y
  |none=>stS (s'::r) x.2
def zS2 (x:Option St) (y:St):St:=
 match x with
 |some z=>z
 |none=>y
def zCd:List yR→Bool
 |[]=>false
 | .st::_=>true
 | .t _ _::r=>zCd r
 | .o _ _ _::r=>zCd r
 | .v _ _::r=>zCd r
end
def zAI {α:Type} :List (Nat×α)→Nat→Option α
 |[],_=>none
 |(j,x)::r,i=>match Nat.beq j i with
  |true=>some x
  |false=>zAI r i
def zFv:List T→Bool
 |[]=>true
 | .p _::r=>zFv r
 |_=>false
def zIF (m i:Nat):Option (List T)→Option (List T)
 |some cs=>match Nat.testBit m (2*i)||Nat.testBit m (2*i+1)|| !zFv cs with
  |true=>none
  |false=>some cs
 |none=>none
def kD (m:Nat) (vs:List (Nat×List T)):Nat→List (Option (List T))→List (Option (List T))
 |_,[]=>[]
 |i,x::r=>(match zAI vs i with
  |some y=>some y
  |none=>zIF m i x)::kD m vs (i+1) r
def isVar (vars:List (Option (List T))) (s:Nat):Bool:=
 match vars[s]? with
 |some (some _)=>true
 |_=>false
def zJM (m:Nat) (vars:List (Option (List T))):T→T
 | .p d=> .p d
 | .lp s off=>match !Nat.testBit m (2*s)&&isVar vars s with
  |true=> .lp s off
  |false=> .dead
 |_=> .dead
def zDF (m:Nat) (ts:List (Nat×T)) (vars:List (Option (List T))):Nat→List T→List T
 |_,[]=>[]
 |i,x::r=>(match zAI ts i with
  |some y=>y
  |none=>match Nat.testBit m (2*i) with
   |true=> .dead
   |false=>zJM m vars x)::zDF m ts vars (i+1) r
structure JA where
 mask:Nat
 lps:List (Nat×Nat×Nat)
 sl:List yR
def lpT (vars:List (Option (List T))) (s off:Nat):T:=
 match isVar vars s with
 |true=> .lp s off
 |false=> .dead
def zKx (vars:List (Option (List T))):List (Nat×Nat×Nat)→List (Nat×T)
 |[]=>[]
 |(i,s,off)::r=>(i,lpT vars s off)::zKx vars r
def zF2:List (Nat×Nat×Nat)→Nat
 |[]=>0
 |(i,_,_)::r=>2^(2*i)|||zF2 r
def wN:List yR→Nat
 |[]=>0
 | .t i _::r=>2^(2*i)|||wN r
 | .o i _ _::r=>2^(2*i)|||wN r
 | .v s _::r=>2^(2*s+1)|||wN r
 | .st::r=>wN r
def JA.bits (j:JA):Nat:=j.mask|||(zF2 j.lps|||wN j.sl)
def zSG (s off:Nat):T→Bool
 | .lp s' off'=>Nat.beq s' s&&Nat.beq off' off
 |_=>false
section
variable {St:Type}
def zQJ (e:Env St):List (Nat×Nat×Nat)→Bool
 |[]=>true
 |(i,s,off)::r=>zSG s off (e.get i)&&zQJ e r
def rdJ (j:JA) (e:Env St):Option (jU St j.sl):=
 match zQJ e j.lps with
 |true=>rdS e j.sl
 |false=>none
def qH (j:JA) (e:Env St) (s:jU St j.sl):Env St:=
 ⟨zDF j.bits (zKx (kD j.bits (vS j.sl s) 0 e.vars) j.lps++tmS j.sl s) (kD j.bits (vS j.sl s) 0 e.vars) 0 e.tm,kD j.bits (vS j.sl s) 0 e.vars,zS2 (stS j.sl s) e.st⟩
def kY:List yR→Nat→Bool
 |[],_=>false
 | .v s _::r,i=>Nat.beq s i||kY r i
 | .t _ _::r,i=>kY r i
 | .o _ _ _::r,i=>kY r i
 | .st::r,i=>kY r i
def zML (j:JA) (e:Env St):Nat→List T→Bool
 |_,[]=>true
 |i, .lp s _::r=>(Nat.testBit j.bits (2*i)||Nat.testBit j.bits (2*s)||(kY j.sl s&&(e.vars[s]?).isSome)||(zIF j.bits s (e.var s)).isSome)&&zML j e (i+1) r
 |i,_::r=>zML j e (i+1) r
def okJ (j:JA) (e:Env St):Bool:=zML j e 0 e.tm
def zKG (j:JA) (e:Env St) (lg:Nat):Option (jU St j.sl):=
 match Nat.beq (lg|||j.bits) j.bits with
 |true=>rdJ j e
 |false=>none
end
def kF {σ ρ:Type} (m:Option (σ ⊕ ρ)) (K:σ→Option ρ):Option ρ:=
 match m with
 |none=>none
 |some (.inl s)=>K s
 |some (.inr r)=>some r
def zA6 {σ ρ:Type} (f:σ→Option (σ ⊕ ρ)):Nat→σ→Option ρ
 |0,_=>none
 |n+1,s=>match f s with
  |none=>none
  |some (.inl s')=>zA6 f n s'
  |some (.inr r)=>some r
open Classical in
noncomputable def zO {σ ρ:Type} (f:σ→Option (σ ⊕ ρ)) (s:σ):Option ρ:=
 if h: ∃n r,zA6 f n s=some r then some (Classical.choose (Classical.choose_spec h)) else none
theorem zIH {σ ρ:Type} {f:σ→Option (σ ⊕ ρ)} : ∀ (n m:Nat) (s:σ) (r:ρ),n≤m→zA6 f n s=some r→zA6 f m s=some r:=by
 intro n
 induction n with
 |zero=>intro m s r _ h;simp [zA6] at h
 |succ n ih=>
  intro m s r hm h
  obtain ⟨m',rfl⟩: ∃m',m=m'+1:=⟨m-1,by omega⟩
  simp only [zA6] at h ⊢
  split at h
  ·cases h
  ·exact ih m' _ r (by omega) h
  ·exact h
theorem zEe {σ ρ:Type} {f:σ→Option (σ ⊕ ρ)} {s:σ} {r:ρ} :zO f s=some r↔ ∃n,zA6 f n s=some r:=by
 unfold zO
 constructor
 ·intro h
  split at h
  ·rename_i hex
   simp only [Option.some.injEq] at h
   subst h
   exact ⟨_,Classical.choose_spec (Classical.choose_spec hex)⟩
  ·cases h
 ·rintro ⟨n,hn⟩
  have hex: ∃n r,zA6 f n s=some r:=⟨n,r,hn⟩
  rw [dif_pos hex]
  have h1:=Classical.choose_spec (Classical.choose_spec hex)
  have h2:=zIH _ (max (Classical.choose hex) n) s _ (by omega) h1
  have h3:=zIH _ (max (Classical.choose hex) n) s _ (by omega) hn
  rw [h2] at h3
  exact h3
theorem zQd {σ ρ:Type} (f:σ→Option (σ ⊕ ρ)) (s:σ):zO f s=match f s with
  |none=>none
  |some (.inl s')=>zO f s'
  |some (.inr r)=>some r:=by
 have key: ∀r,zO f s=some r↔(match f s with
  |none=>none
  |some (.inl s')=>zO f s'
  |some (.inr r)=>some r)=some r:=by
  intro r
  rw [zEe]
  constructor
  ·rintro ⟨n,hn⟩
   cases n with
   |zero=>simp [zA6] at hn
   |succ n=>
    simp only [zA6] at hn
    split at hn
    ·cases hn
    ·exact zEe.2 ⟨n,hn⟩
    ·exact hn
  ·intro h
   split at h
   ·cases h
   ·obtain ⟨n,hn⟩:=zEe.1 h
    rename_i s' hs
    exact ⟨n+1,by simp only [zA6,hs];exact hn⟩
   ·rename_i r' hs
    exact ⟨1,by simp only [zA6,hs];exact h⟩
 cases hl:zO f s with
 |some r=>exact ((key r).1 hl).symm
 |none=>
  generalize hm:(match f s with
   |none=>none
   |some (.inl s')=>zO f s'
   |some (.inr r)=>some r)=m at key ⊢
  cases m with
  |none=>rfl
  |some r=>rw [(key r).2 rfl] at hl;cases hl
theorem zOB {σ ρ:Type} {f:σ→Option (σ ⊕ ρ)} (J:σ→Prop) (m:σ→Nat) (Q:ρ→Prop)
  (step: ∀s,J s→ ∃o,f s=some o∧match o with
   | .inl s'=>J s'∧m s'<m s
   | .inr r=>Q r) {s:σ} (h:J s): ∃r,zO f s=some r∧Q r:=by
 have key: ∀ (n:Nat) (s:σ),m s=n→J s→ ∃r,zO f s=some r∧Q r:=by
  intro n
  induction n using Nat.strongRecOn with
  |_ n ih=>
   intro s hs hj
   obtain ⟨o,ho,h1⟩:=step s hj
   rw [zQd,ho]
   cases o with
   |inl s'=>exact ih _ (by rw [←hs];exact h1.2) s' rfl h1.1
   |inr r=>exact ⟨r,rfl,h1⟩
 exact key _ s rfl h
def zE9:List Nat→Code→Bool
 |ids, .exit id=>ids.any (Nat.beq id)
 |_, .ret=>false
 |ids, .seq a b=>zE9 ids a&&zE9 ids b
 |ids, .cond _ a b=>zE9 ids a&&zE9 ids b
 |ids, .block id a=>zE9 (id::ids) a
 |ids, .loop a=>zE9 ids a
 |_,_=>true
section
variable {Γ:Sig} (P:qN) (G:Nat→Option (List V)) (S:zL Γ) (A:Nat→Option JA)
def zFC {ρ:Type} (body:(X→Env Γ.St→Nat→Option ρ)→Env Γ.St→Nat→Option ρ) (K:X→Env Γ.St→Nat→Option ρ):Nat→Env Γ.St→Nat→Option ρ
 |0,_,_=>none
 |n+1,e,lg=>body (fun k e1 lg1=>match k with
  | .normal=>zFC body K n e1 lg1
  |k=>K k e1 lg1) e lg
def zRv (t:Nat) (c:Code):Option JA:=
 match keyOf c with
 |some k=>A (4*k+t)
 |none=>none
noncomputable def exC:Code→(ρ:Type)→(X→Env Γ.St→Nat→Option ρ)→Env Γ.St→Nat→Option ρ
 | .skip,_,K,e,lg=>K .normal e lg
 | .seq x y,ρ,K,e,lg=>match zRv A 0 y with
  |some j=>match zE9 [] x with
   |true=>zF1 (okJ j e) (Option.bind (exC x (jU Γ.St j.sl) (fun k e1 lg1=>match k with
     | .normal=>zKG j e1 lg1
     |_=>none) e 0) (fun s=>zBn (qH j e s) (fun e1=>exC y ρ K e1 (lg|||j.bits))))
   |false=>zF1 (okJ j e) (kF (exC x (jU Γ.St j.sl ⊕ ρ) (fun k e1 lg1=>match k with
     | .normal=>(zKG j e1 lg1).map .inl
     |k=>(K k e1 (lg|||lg1)).map .inr) e 0) (fun s=>zBn (qH j e s) (fun e1=>exC y ρ K e1 (lg|||j.bits))))
  |none=>exC x ρ (fun k e1 lg1=>match k with
   | .normal=>exC y ρ K e1 lg1
   |k=>K k e1 lg1) e lg
 | .cond c x y,ρ,K,e,lg=>match evx G e c with
  | .p (.val (.bool b))=>cond b (exC x ρ K e lg) (exC y ρ K e lg)
  |_=>none
 | .block id c,ρ,K,e,lg=>exC c ρ (fun k e1 lg1=>K (k.out id) e1 lg1) e lg
 | .loop c,ρ,K,e,lg=>match zRv A 1 c with
  |some j=>zF1 (okJ j e) (Option.bind (rdJ j e) (fun s0=>zO (fun s=>zBn (qH j e s) (fun e0=>exC c (jU Γ.St j.sl ⊕ ρ) (fun k e1 lg1=>match k with
    | .normal=>(zKG j e1 lg1).map .inl
    |k=>(K k e1 (lg|||(j.bits|||lg1))).map .inr) e0 0)) s0))
  |none=>zFC (exC c ρ) K 80 e lg
 | .exit id,_,K,e,lg=>K (.exit id) e lg
 | .ret,_,K,e,lg=>K .ret e lg
 | .region id ops d,_,K,e,lg=>match A (4*id+2) with
  |some j=>zF1 (okJ j e) (Option.bind (zRf P G S ops d ((A (4*id+3)).map (·.lps)) e 0 (fun e1 lg1=>zKG j e1 lg1)) (fun s=>zBn (qH j e s) (fun e1=>K .normal e1 (lg|||j.bits))))
  |none=>zRf P G S ops d ((A (4*id+3)).map (·.lps)) e lg (fun e1 lg1=>K .normal e1 lg1)
 |_,_,_,_,_=>none
end
theorem zK6: ∀ (n:Nat) (ts:List T) (ds:List V) (r:List T),zK7 n ts=some (ds,r)→ts=ds.map .p++r∧ds.length=n:=by
 intro n
 induction n with
 |zero=>intro ts ds r h;simp only [zK7,Option.some.injEq,Prod.mk.injEq] at h;obtain ⟨rfl,rfl⟩:=h;exact ⟨rfl,rfl⟩
 |succ n ih=>
  intro ts ds r h
  unfold zK7 at h
  split at h
  ·rename_i heq;cases heq
  ·rename_i m d r0 heq
   cases heq
   split at h
   ·rename_i ds' r' hr
    simp only [Option.some.injEq,Prod.mk.injEq] at h
    obtain ⟨rfl,rfl⟩:=h
    obtain ⟨h1,h2⟩:=ih _ _ _ hr
    exact ⟨by rw [h1];rfl,by simp [h2]⟩
   ·cases h
  ·cases h
theorem uI.append: ∀ {xs ys xs' ys':List T},uI xs ys→uI xs' ys'→uI (xs++xs') (ys++ys')
 |[],[],_,_,_,h=>h
 |_::_,_::_,_,_,h,h'=>⟨h.1,uI.append h.2 h'⟩
 |[],_::_,_,_,h,_=>h.elim
 |_::_,[],_,_,h,_=>h.elim
theorem uI.ofV: ∀ {xs ys:List V},jR xs ys→uI (xs.map .p) (ys.map .p)
 |[],[],_=>trivial
 |_::_,_::_,h=>⟨fun w F _ _ v hr=>h.1 w F v hr,uI.ofV h.2⟩
 |[],_::_,h=>h.elim
 |_::_,[],h=>h.elim
theorem zOr {ty:Ty} {x:T} {a:ty.El} (h:rdT ty x=some a):WkT x (.p (ty.enc a)):=by
 unfold rdT at h
 split at h
 ·exact fun w F _ _ v hr=>zAd h w F v hr
 ·intro w F β al v hr
  obtain ⟨ad,rfl⟩:=hr
  exact zAd h w F _ (.slemp ad 0)
 ·cases h
theorem zDX {t t':Ty} {xs:List t.El} {ys:List t'.El} (h:zJ3 t t' xs=some ys):zM1 t t' xs ys:=by
 simp only [zM1,h]
theorem zJF {id:Nat} {ty:Ty} {x:T} {xs:List ty.El} (h:rdO id ty x=some xs):WkT x (.ot id ty xs):=by
 unfold rdO at h
 split at h
 ·simp only [Option.some.injEq] at h;subst h
  exact fun w F β al v hh=> .inl ⟨rfl,none,Rd.eq_val hh⟩
 ·simp only [Option.some.injEq] at h;subst h
  exact fun w F β al v hh=> .inl ⟨rfl,hh⟩
 ·rename_i i t ys
  split at h
  ·rename_i hb
   have hi:=Nat.eq_of_beq_eq_true hb
   subst hi
   obtain ⟨ht,h⟩:=zCM (zDX h)
   subst ht
   subst h
   exact .refl _
  ·cases h
 ·cases h
theorem zFP: ∀ {c:Cell} {ts r:List T} {x:c.El},zGD c ts=some (x,r)→ ∃ts1,ts=ts1++r∧uI ts1 (zGq c x)
 | .p ty,ts,r,x,h=>by
  simp only [zGD] at h
  split at h
  ·rename_i ds r' hr
   split at h
   ·rename_i y hy
    simp only [Option.some.injEq,Prod.mk.injEq] at h
    obtain ⟨rfl,rfl⟩:=h
    obtain ⟨h1,h2⟩:=zK6 _ _ _ _ hr
    obtain ⟨cs1,h3,h4⟩:=wW _ _ _ _ hy
    rw [List.append_nil] at h3
    subst h3
    exact ⟨_,h1,uI.ofV h4⟩
   ·cases h
  ·cases h
 | .o id ty,y::ts,r,x,h=>by
  simp only [zGD] at h
  split at h
  ·rename_i xs hx
   simp only [Option.some.injEq,Prod.mk.injEq] at h
   obtain ⟨rfl,rfl⟩:=h
   exact ⟨[y],rfl,zJF hx,trivial⟩
  ·cases h
 | .o _ _,[],_,_,h=>by simp [zGD] at h
theorem zEG: ∀ (cs:List Cell) (ts:List T) (x:zJ7 cs),zD9 cs ts=some x→uI ts (zD2 cs x)
 |[],[],_,_=>trivial
 |[],_::_,_,h=>by simp [zD9] at h
 |[c],ts,x,h=>by
  simp only [zD9] at h
  split at h
  ·rename_i y hy
   simp only [Option.some.injEq] at h
   subst h
   obtain ⟨ts1,h1,h2⟩:=zFP hy
   rw [List.append_nil] at h1
   subst h1
   exact h2
  ·cases h
 |c::c'::r,ts,x,h=>by
  simp only [zD9] at h
  split at h
  ·rename_i y ts' hy
   split at h
   ·rename_i ys hys
    simp only [Option.some.injEq] at h
    subst h
    obtain ⟨ts1,h1,h2⟩:=zFP hy
    subst h1
    exact h2.append (zEG (c'::r) ts' ys hys)
   ·cases h
  ·cases h
section
variable {St:Type} {e e1:Env St}
theorem zJE {s:yR} {x:s.El St} (h:zEX e s=some x): ∀i y,(i,y)∈zA1 s x→WkT (e.get i) y:=by
 intro i y hy
 cases s with
 |t j ty=>
  simp only [zA1,List.mem_singleton,Prod.mk.injEq] at hy
  obtain ⟨rfl,rfl⟩:=hy
  exact zOr h
 |o j id ty=>
  simp only [zA1,List.mem_singleton,Prod.mk.injEq] at hy
  obtain ⟨rfl,rfl⟩:=hy
  exact zJF h
 |v s cs=>simp [zA1] at hy
 |st=>simp [zA1] at hy
theorem zLq {s:yR} {x:s.El St} (h:zEX e s=some x): ∀i cs2,(i,cs2)∈zBX s x→ ∃cs,e.var i=some cs∧uI cs cs2:=by
 intro i y hy
 cases s with
 |t j ty=>simp [zBX] at hy
 |o j id ty=>simp [zBX] at hy
 |st=>simp [zBX] at hy
 |v s cs=>
  simp only [zBX,List.mem_singleton,Prod.mk.injEq] at hy
  obtain ⟨rfl,rfl⟩:=hy
  simp only [zEX] at h
  split at h
  ·rename_i ts hts
   exact ⟨ts,hts,zEG _ _ _ h⟩
  ·cases h
theorem zPQ: ∀ {l:List yR} {x:jU St l},rdS e l=some x→ ∀i y,(i,y)∈tmS l x→WkT (e.get i) y
 |[],_,_,i,y,hy=>by simp [tmS] at hy
 |[s],x,h,i,y,hy=>zJE (s:=s) h i y hy
 |s::s'::r,x,h,i,y,hy=>by
  simp only [rdS] at h
  split at h
  ·rename_i a ha
   split at h
   ·rename_i as has
    simp only [Option.some.injEq] at h
    subst h
    simp only [tmS,List.mem_append] at hy
    rcases hy with hy|hy
    ·exact zJE ha i y hy
    ·exact zPQ has i y hy
   ·cases h
  ·cases h
theorem zR4: ∀ {l:List yR} {x:jU St l},rdS e l=some x→ ∀i cs2,(i,cs2)∈vS l x→ ∃cs,e.var i=some cs∧uI cs cs2
 |[],_,_,i,y,hy=>by simp [vS] at hy
 |[s],x,h,i,y,hy=>zLq (s:=s) h i y hy
 |s::s'::r,x,h,i,y,hy=>by
  simp only [rdS] at h
  split at h
  ·rename_i a ha
   split at h
   ·rename_i as has
    simp only [Option.some.injEq] at h
    subst h
    simp only [vS,List.mem_append] at hy
    rcases hy with hy|hy
    ·exact zLq ha i y hy
    ·exact zR4 has i y hy
   ·cases h
  ·cases h
theorem zPR: ∀ {l:List yR} {x:jU St l},rdS e l=some x→ ∀y,stS l x=some y→y=e.st
 |[],_,_,y,hy=>by simp [stS] at hy
 |[s],x,h,y,hy=>by
  cases s<;>simp [stS,zGy] at hy
  simp only [rdS,zEX,Option.some.injEq] at h
  rw [←hy, ←h]
 |s::s'::r,x,h,y,hy=>by
  simp only [rdS] at h
  split at h
  ·rename_i a ha
   split at h
   ·rename_i as has
    simp only [Option.some.injEq] at h
    subst h
    simp only [stS] at hy
    split at hy
    ·rename_i z hz
     cases s<;>simp [zGy] at hz
     simp only [zEX,Option.some.injEq] at ha
     simp only [Option.some.injEq] at hy
     rw [←hy, ←hz, ←ha]
    ·exact zPR has y hy
   ·cases h
  ·cases h
theorem zLb: ∀ {l:List yR} (x:jU St l),zCd l=true→ ∃y,stS l x=some y
 |[],_,h=>by simp [zCd] at h
 |[s],x,h=>by
  cases s<;>simp [zCd] at h
  exact ⟨x,rfl⟩
 |s::s'::r,x,h=>by
  simp only [stS]
  cases hs:zGy s x.1 with
  |some y=>exact ⟨y,rfl⟩
  |none=>
   have h':zCd (s'::r)=true:=by
    cases s<;>simp only [zCd] at h ⊢ <;>first|exact h|simp [zGy] at hs
   obtain ⟨y,hy⟩:=zLb (l:=s'::r) x.2 h'
   exact ⟨y,hy⟩
theorem zCc {α:Type} : ∀ {l:List (Nat×α)} {i:Nat} {x:α},zAI l i=some x→(i,x)∈l
 |[],_,_,h=>by simp [zAI] at h
 |(j,y)::r,i,x,h=>by
  simp only [zAI] at h
  split at h
  ·rename_i hb
   have:=Nat.eq_of_beq_eq_true hb
   subst this
   simp only [Option.some.injEq] at h
   subst h
   exact List.mem_cons_self
  ·exact List.mem_cons_of_mem _ (zCc h)
theorem zAQ (m:Nat) (vs:List (Nat×List T)): ∀ (l:List (Option (List T))) (n i:Nat),(kD m vs n l)[i]? =(l[i]?).map (fun x=>match zAI vs (n+i) with
  |some y=>some y
  |none=>zIF m (n+i) x)
 |[],n,i=>by simp [kD]
 |x::r,n,i=>by
  cases i with
  |zero=>simp [kD]
  |succ i=>simp only [kD,List.getElem?_cons_succ];rw [zAQ m vs r (n+1) i];rw [show n+1+i=n+(i+1) by omega]
theorem zFc (m:Nat) (ts:List (Nat×T)) (vars:List (Option (List T))): ∀ (l:List T) (n i:Nat),(zDF m ts vars n l)[i]? =(l[i]?).map (fun x=>match zAI ts (n+i) with
  |some y=>y
  |none=>match Nat.testBit m (2*(n+i)) with
   |true=> .dead
   |false=>zJM m vars x)
 |[],n,i=>by simp [zDF]
 |x::r,n,i=>by
  cases i with
  |zero=>simp [zDF]
  |succ i=>simp only [zDF,List.getElem?_cons_succ];rw [zFc m ts vars r (n+1) i];rw [show n+1+i=n+(i+1) by omega]
theorem zF4 (m:Nat) (vs:List (Nat×List T)): ∀ (l:List (Option (List T))) (n:Nat),(kD m vs n l).length=l.length
 |[],_=>rfl
 |_::r,n=>by simp [kD,zF4 m vs r (n+1)]
theorem zIG (m:Nat) (ts:List (Nat×T)) (vars:List (Option (List T))): ∀ (l:List T) (n:Nat),(zDF m ts vars n l).length=l.length
 |[],_=>rfl
 |_::r,n=>by simp [zDF,zIG m ts vars r (n+1)]
theorem zN9: ∀ {cs:List T},zFv cs=true→ ∃ds:List V,cs=ds.map .p
 |[],_=>⟨[],rfl⟩
 | .p d::r,h=>by
  obtain ⟨ds,hds⟩:=zN9 (cs:=r) h
  exact ⟨d::ds,by rw [hds];rfl⟩
 | .ow _ _ _::_,h=>by simp [zFv] at h
 | .oe _ _ _ _ _::_,h=>by simp [zFv] at h
 | .lp _ _::_,h=>by simp [zFv] at h
 | .mp _ _ _::_,h=>by simp [zFv] at h
 | .ot _ _ _::_,h=>by simp [zFv] at h
 | .oet _ _ _ _ _::_,h=>by simp [zFv] at h
 | .ov _ _ _ _ _::_,h=>by simp [zFv] at h
 | .on _::_,h=>by simp [zFv] at h
 | .emp::_,h=>by simp [zFv] at h
 | .dead::_,h=>by simp [zFv] at h
theorem zIE {m i:Nat} {x:Option (List T)} {cs:List T} (h:zIF m i x=some cs):x=some cs∧m.testBit (2*i)=false∧m.testBit (2*i+1)=false∧ ∃ds:List V,cs=ds.map .p:=by
 unfold zIF at h
 split at h
 ·split at h
  ·cases h
  ·rename_i hb
   simp only [Bool.or_eq_false_iff,Bool.not_eq_false'] at hb
   simp only [Option.some.injEq] at h
   subst h
   exact ⟨rfl,hb.1.1,hb.1.2,zN9 hb.2⟩
 ·cases h
theorem zCp {s:Nat} {cs:List T} (h:e.vars[s]? =some (some cs)):e.var s=some cs:=by simp [Env.var,h]
theorem zFe {s:Nat} {cs:List T} (h:e.var s=some cs):e.vars[s]? =some (some cs):=by
 simp only [Env.var] at h
 cases hs:e.vars[s]? with
 |none=>rw [hs] at h;cases h
 |some x=>rw [hs] at h;simp only [Option.getD_some] at h;rw [h]
theorem zJO {j:JA} {s:jU St j.sl} {i:Nat} {cs2:List T} (h:(qH j e s).var i=some cs2):
  (i,cs2)∈vS j.sl s∨(e.var i=some cs2∧j.bits.testBit (2*i)=false∧j.bits.testBit (2*i+1)=false∧ ∃ds:List V,cs2=ds.map .p):=by
 have h1:=zFe h
 simp only [qH] at h1
 rw [zAQ] at h1
 simp only [Option.map_eq_some_iff,Nat.zero_add] at h1
 obtain ⟨x,hx,h2⟩:=h1
 split at h2
 ·rename_i y hy
  simp only [Option.some.injEq] at h2
  subst h2
  exact .inl (zCc hy)
 ·obtain ⟨rfl,h3,h4,h5⟩:=zIE h2
  exact .inr ⟨zCp hx,h3,h4,h5⟩
theorem zIC {vars:List (Option (List T))} : ∀ {l:List (Nat×Nat×Nat)} {i:Nat} {y:T},(i,y)∈zKx vars l→ ∃s off,(i,s,off)∈l∧y=lpT vars s off
 |[],_,_,h=>by simp [zKx] at h
 |(j,s,off)::r,i,y,h=>by
  simp only [zKx,List.mem_cons,Prod.mk.injEq] at h
  rcases h with ⟨rfl,rfl⟩|h
  ·exact ⟨s,off,List.mem_cons_self,rfl⟩
  ·obtain ⟨s',off',h1,h2⟩:=zIC h
   exact ⟨s',off',List.mem_cons_of_mem _ h1,h2⟩
theorem zRy {s off:Nat} {x:T} (h:zSG s off x=true):x= .lp s off:=by
 unfold zSG at h
 split at h
 ·simp only [Bool.and_eq_true] at h
  rw [Nat.eq_of_beq_eq_true h.1,Nat.eq_of_beq_eq_true h.2]
 ·cases h
theorem zLZ: ∀ {l:List (Nat×Nat×Nat)},zQJ e l=true→ ∀i s off,(i,s,off)∈l→e.get i= .lp s off
 |[],_,_,_,_,h=>by simp at h
 |(j,s0,off0)::r,h,i,s,off,hm=>by
  simp only [zQJ,Bool.and_eq_true] at h
  simp only [List.mem_cons,Prod.mk.injEq] at hm
  rcases hm with ⟨rfl,rfl,rfl⟩|hm
  ·exact zRy h.1
  ·exact zLZ h.2 i s off hm
theorem zOA (vars:List (Option (List T))) (s off:Nat):lpT vars s off= .dead∨(lpT vars s off= .lp s off∧isVar vars s=true):=by
 unfold lpT
 split
 ·rename_i h;exact .inr ⟨rfl,h⟩
 ·exact .inl rfl
theorem zOE {j:JA} {s:jU St j.sl} {i:Nat} (hi:i<e.tm.length):
  (∃y,(i,y)∈zKx (qH j e s).vars j.lps++tmS j.sl s∧(qH j e s).get i=y)∨
   ((qH j e s).get i= .dead)∨(j.bits.testBit (2*i)=false∧(qH j e s).get i=zJM j.bits (qH j e s).vars (e.get i)):=by
 have h1:(qH j e s).tm[i]? =_:=zFc j.bits (zKx (qH j e s).vars j.lps++tmS j.sl s) (qH j e s).vars e.tm 0 i
 rw [List.getElem?_eq_getElem hi,Option.map_some,Nat.zero_add] at h1
 have hg:(qH j e s).get i=((qH j e s).tm[i]?).getD .dead:=by simp [Env.get,List.getD_eq_getElem?_getD]
 have he:e.get i=e.tm[i]:=by simp [Env.get,hi]
 rw [hg,h1,he]
 simp only [Option.getD_some]
 split
 ·rename_i y hy
  exact .inl ⟨y,zCc hy,rfl⟩
 ·split
  ·exact .inr (.inl rfl)
  ·rename_i hb
   exact .inr (.inr ⟨hb,rfl⟩)
theorem zEi {j:JA} {s:jU St j.sl} :(qH j e s).tm.length=e.tm.length∧(qH j e s).vars.length=e.vars.length:=
 ⟨zIG _ _ _ _ _,zF4 _ _ _ _⟩
theorem zQj {i:Nat} (h:e.tm.length≤i):e.get i= .dead:=by simp [Env.get,List.getD_eq_getElem?_getD,h]
theorem zGP {s:Nat} :isVar e.vars s=true↔ ∃cs,e.var s=some cs:=by
 unfold isVar
 constructor
 ·intro h
  split at h
  ·rename_i cs hcs;exact ⟨cs,zCp hcs⟩
  ·cases h
 ·rintro ⟨cs,hcs⟩
  rw [zFe hcs]
end
theorem zN8 {St:Type} {l:List yR} {x:jU St l} : ∀ {i:Nat} {y:T},(i,y)∈tmS l x→(wN l).testBit (2*i)=true:=by
 match l,x with
 |[],_=>intro i y h;simp [tmS] at h
 |[s],x=>
  intro i y h
  cases s<;>simp only [tmS,zA1,List.mem_singleton,Prod.mk.injEq,List.not_mem_nil] at h
  all_goals
   obtain ⟨rfl,_⟩:=h
   simp [wN,Nat.testBit_two_pow]
 |s::s'::r,x=>
  intro i y h
  simp only [tmS,List.mem_append] at h
  rcases h with h|h
  ·cases s<;>simp only [zA1,List.mem_singleton,Prod.mk.injEq,List.not_mem_nil] at h
   all_goals
    obtain ⟨rfl,_⟩:=h
    simp [wN,Nat.testBit_two_pow,Nat.testBit_or]
  ·have:=zN8 (l:=s'::r) (x:=x.2) h
   cases s<;>simp [wN,Nat.testBit_or] at this ⊢ <;>first|exact .inr this|exact this
theorem zQM {St:Type} {l:List yR} {x:jU St l} : ∀ {i:Nat} {y:List T},(i,y)∈vS l x→(wN l).testBit (2*i+1)=true:=by
 match l,x with
 |[],_=>intro i y h;simp [vS] at h
 |[s],x=>
  intro i y h
  cases s<;>simp only [vS,zBX,List.mem_singleton,Prod.mk.injEq,List.not_mem_nil] at h
  all_goals
   obtain ⟨rfl,_⟩:=h
   simp [wN,Nat.testBit_two_pow]
 |s::s'::r,x=>
  intro i y h
  simp only [vS,List.mem_append] at h
  rcases h with h|h
  ·cases s<;>simp only [zBX,List.mem_singleton,Prod.mk.injEq,List.not_mem_nil] at h
   all_goals
    obtain ⟨rfl,_⟩:=h
    simp [wN,Nat.testBit_two_pow,Nat.testBit_or]
  ·have:=zQM (l:=s'::r) (x:=x.2) h
   cases s<;>simp [wN,Nat.testBit_or] at this ⊢ <;>first|exact .inr this|exact this
theorem zKh {St:Type} : ∀ {l:List yR} {x:jU St l} {i:Nat},kY l i=true→ ∃cs,zAI (vS l x) i=some cs:=by
 have app: ∀ {a b:List (Nat×List T)} {i:Nat},((∃cs,zAI a i=some cs)∨ ∃cs,zAI b i=some cs)→ ∃cs,zAI (a++b) i=some cs:=by
  intro a b i h
  induction a with
  |nil=>
   rcases h with ⟨cs,h⟩|h
   ·simp [zAI] at h
   ·exact h
  |cons x a ih=>
   obtain ⟨k,y⟩:=x
   simp only [List.cons_append,zAI] at h ⊢
   split
   ·exact ⟨_,rfl⟩
   ·rename_i hb
    simp only [hb] at h
    exact ih h
 have one: ∀ {s:yR} {x:s.El St} {i:Nat},kY [s] i=true→ ∃cs,zAI (zBX s x) i=some cs:=by
  intro s x i h
  cases s<;>simp only [kY,Bool.or_false,Bool.false_eq_true] at h
  simp only [zBX,zAI,h]
  exact ⟨_,rfl⟩
 intro l
 induction l with
 |nil=>intro x i h;simp [kY] at h
 |cons s r ih=>
  intro x i h
  cases r with
  |nil=>exact one (s:=s) (x:=x) h
  |cons s' r=>
   have h2:kY [s] i=true∨kY (s'::r) i=true:=by
    cases s<;>simp only [kY,Bool.or_eq_true,Bool.or_false] at h ⊢
    ·exact .inr h
    ·exact .inr h
    ·exact h
    ·exact .inr h
   simp only [vS]
   rcases h2 with h2|h2
   ·exact app (.inl (one h2))
   ·exact app (.inr (ih h2))
theorem zL3: ∀ {l:List (Nat×Nat×Nat)} {i s off:Nat},(i,s,off)∈l→(zF2 l).testBit (2*i)=true
 |[],_,_,_,h=>by simp at h
 |(j,s0,off0)::r,i,s,off,h=>by
  simp only [List.mem_cons,Prod.mk.injEq] at h
  simp only [zF2,Nat.testBit_or,Bool.or_eq_true,Nat.testBit_two_pow,decide_eq_true_eq]
  rcases h with ⟨rfl,_⟩|h
  ·exact .inl rfl
  ·exact .inr (zL3 h)
end Go.Ve

/-
  Functions out of code, part 3: regions.
  Functions out of code, part 4: joins, loops, statements.
-/
import Derived.Test.YtaidmnnejapafaaDoorXu8
set_option linter.unusedVariables false
namespace Go.Ve
open Go
section
variable {Γ:Sig} {ρ:Type} (P:qQ) (G:Nat→Option (List V)) (S:zM Γ)
def zOg (e:Env Γ.St) (dst:Option Tmp) (c:Call):Option (Kex Γ ρ):=
 match c.callee,c.args.toList,c.argTypes.toList,dst with
 | .builtin .append,[.tmp p,x1],[t0,t1],some d=>
  match e.get p with
  | .ov id t' xs 0 hi=>match P.und t0,P.und t1 with
   |some (.slice el),some (.slice _)=>match P.inf el with
    |some info=>match info.zero,zOy (evx G e x1) with
     |some z,some ⟨t,y::ys⟩=>
      if zR6 p x1=false then none else
      if h:t'=t then
       if t.size=info.size∧1≤info.bytes∧zJG z=info.size∧id≠qC then
        some (fun K=>Option.bind (app info.bytes (List.take hi (h▸xs)) (y::ys)) fun zs=>K { (e.kill id) with tm:=(e.kill id).tm.set d (.ot id t zs) })
       else none
      else none
     |_,_=>none
    |none=>none
   |_,_=>none
  |_=>none
 |_,_,_,_=>none
def wX (e:Env Γ.St) (o:Oper):Option (Kex Γ ρ):=
 match o.op with
 | .store t ap x=>match o.dst with
  |some _=>none
  |none=>match evx G e ap,evx G e x with
   | .oet id ty xs i off, .p d=>
    if qI P t=some d.cells.length∧off+d.cells.length≤ty.size∧d.cells.all V.one=true∧(ty.aggT=false→d.cells.length=1∧ty.size=1) then
     some (fun K=>Option.bind (atN xs i) fun y=>match zLy ty y off d with
      |some z=>K (e.mapT (zEa id ty i z))
      |none=>none)
    else none
   | .oet id ty _ i off, .ot id2 t2 ys=>match ty with
    | .sl t3=>if t3=t2∧off=0∧qI P t=some 1∧id=zR4∧id≠id2 then some (fun K=>zFV (!ys.isEmpty) (K (e.mapT (zOq id id2 t2 i ys)))) else none
    |_=>none
   | .on ⟨id,id2,ty,_,_,ys, .q k off⟩, .p d=>
    if qI P t=some d.cells.length∧off+d.cells.length≤ty.size∧d.cells.all V.one=true∧(ty.aggT=false→d.cells.length=1∧ty.size=1)∧id≠id2∧id≠qC∧id2≠qC then
     some (fun K=>Option.bind (atN ys k) fun y=>match zLy ty y off d with
      |some z=>K (e.mapT (zOr id id2 ty k z))
      |none=>none)
    else none
   |_,_=>none
 | .call c=>match zOg P G e o.dst c with
  |some q=>some q
  |none=>match c.callee,c.args.toList,c.argTypes.toList,o.dst with
  | .builtin .append,[x0,x1],[t0,t1],some d=>match P.und t0,P.und t1 with
   |some (.slice el),some (.slice _)=>match P.inf el with
    |some info=>match info.zero,zOy (evx G e x1) with
     |some z,some ⟨t,ys⟩=>match zNX t (evx G e x0) with
      |some (nm,xs)=>
       if t.size=info.size∧1≤info.bytes∧zJG z=info.size∧nm.getD d≠qC then
        some (fun K=>Option.bind (app info.bytes xs ys) fun zs=>
         K { (e.kill (nm.getD d)) with tm:=(e.kill (nm.getD d)).tm.set d (.ot (nm.getD d) t zs) })
       else none
      |none=>none
     |_,_=>none
    |none=>none
   |_,_=>none
  |_,_,_,_=>none
 |_=>none
def wXs (e:Env Γ.St) (o:Oper):Option (Kex Γ ρ):=
 match wX P G e o with
 |some q=>some q
 |none=>match evW P G e o with
  |some e1=>some (fun K=>K e1)
  |none=>none
def zGl (e:Env Γ.St) (o:Oper):Option (Kex Γ ρ):=
 match qXs P G S e o with
 |some q=>some (fun K=>q (fun r=>match kW e o.dst r with
  |some e1=>K e1
  |none=>none))
 |none=>wXs P G e o
def zUA (e:Env Γ.St) (o:Oper):Option (Kex Γ ρ):=
 match o.op with
 | .call c=>match c.callee,c.args.toList with
  | .value f, .tmp p::xs=>match evx G e f,e.get p,kJ G e xs with
   | .p (.clo g []), .ot id t ys,some ds=>match S g e.st (.bot:: .tl t ys::ds) with
    |some cx=>match cx.pl with
     |false=>some (fun K=>zFV (zSM (zF6 id p ys.length 0 e.tm)) (Option.bind cx.m fun y=>match cx.res y with
      | .p (.tup [.tl _ _, .bot])=>none
      | .p (.tup [.tl t' zs,d])=>if h:t'=t then K (zRS e id p t (h▸zs) (cx.st y) o.dst d) else none
      |_=>none))
     |true=>match Nat.beq id qC with
      |true=>none
      |false=>some (fun K=>Option.bind cx.m fun y=>match cx.res y with
       | .p (.tup [.tl t' zs, .bot])=>if h:t'=t then K (zRR e id t (h▸zs) (cx.st y) o.dst) else none
       |_=>none)
    |none=>none
   |_,_,_=>none
  |_,_=>none
 |_=>none
def zUI (tys:List TypeId) (k:Nat):Option Ty:=
 match tys[k]? with
 |some tp=>match P.und tp with
  |some (.pointer el)=>P.ty el
  |_=>none
 |none=>none
def zUa (e:Env Γ.St) (o:Oper):Option (Kex Γ ρ):=
 match o.op with
 | .call c=>match c.callee with
  | .value f=>match evx G e f,zGk G e c.args.toList with
   | .p (.clo g []),some (k,s,xs)=>match kJ G e xs,e.var s,zUI P c.argTypes.toList k with
    |some ds,some cs,some t=>match zGp cs with
     |some vs=>match t.dec (.agg vs) with
      |some y=>match S g e.st (.bot:: .tl t [y]:: .bot:: .val (.int .i64 (k:Int))::ds) with
       |some cx=>match cx.pl with
        |false=>some (fun K=>Option.bind cx.m fun u=>match cx.res u with
         | .p (.tup [.tl t' [z],d])=>if h:t'=t then K (zRQ e s t (h▸z) (cx.st u) o.dst d) else none
         |_=>none)
        |true=>none
       |none=>none
      |none=>none
     |none=>none
    |_,_,_=>none
   |_,_=>none
  |_=>none
 |_=>none
def zUO:Option (Nat×Nat×List Operand)→Nat
 |some (_,s,_)=>2^(2*s+1)
 |none=>0
def zGg (e:Env Γ.St) (o:Oper):Nat:=
 jF G e o|||match o.op with
 | .call c=>zUO (zGk G e c.args.toList)
 |_=>0
def zMc (e:Env Γ.St) (o:Oper):Option (Kex Γ ρ):=
 match zGl P G S e o with
 |some q=>some q
 |none=>match zUA G S e o with
  |some q=>some q
  |none=>zUa P G S e o
def zSL (e:Env Γ.St) (lg:Nat) (o:Oper) (K:Env Γ.St→Nat→Option ρ):Option ρ:=
 match zMc P G S e o with
 |some q=>q (fun e1=>K e1 (lg|||zGg G e o))
 |none=>match zMc P G S (frzOps G (zOW o) e) o with
  |some q=>q (fun e1=>K e1 (lg|||(zJM G (zOW o) e|||zGg G (frzOps G (zOW o) e) o)))
  |none=>none
def zRv (ops:Array Oper) (e:Env Γ.St) (lg:Nat) (o:Oper) (K:Env Γ.St→Nat→Option ρ):Option ρ:=
 match o.guard with
 |none=>zSL P G S e lg o K
 |some (j,want)=>match (ops[j]?).bind (·.dst) with
  |none=>K (e.put o.dst (.p (.val undef))) (lg|||zAv o.dst)
  |some t=>match e.get t with
   | .p (.val (.bool b))=>if t<e.tm.length then
     cond b (match want with
      |true=>zGB t (e.lit t true) (fun e=>zSL P G S e lg o K)
      |false=>K ((e.lit t true).put o.dst (.p (.val undef))) (lg|||zAv o.dst))
     (match want with
      |true=>K ((e.lit t false).put o.dst (.p (.val undef))) (lg|||zAv o.dst)
      |false=>zGB t (e.lit t false) (fun e=>zSL P G S e lg o K))
    else none
   | .p (.val (.tuple _))=>K (e.put o.dst (.p (.val undef))) (lg|||zAv o.dst)
   |_=>none
def seqX (ops:Array Oper):List Oper→Env Γ.St→Nat→(Env Γ.St→Nat→Option ρ)→Option ρ
 |[],e,lg,K=>K e lg
 |o::rest,e,lg,K=>zRv P G S ops e lg o (fun e1 lg=>kOp o e1 (fun e1=>seqX ops rest e1 lg K))
def zUc (e:Env Γ.St) (o:Oper) (K:Env Γ.St→Option ρ):Option ρ:=
 match o.guard with
 |none=>match qXs P G S e o with
  |some q=>q (fun r=>match r with
   | .frzT t xs=>match kW e o.dst (.ownT t xs) with
    |some e1=>K e1
    |none=>none
   |_=>none)
  |none=>none
 |some _=>none
def zRE (ops:Array Oper) (k:Nat) (e:Env Γ.St) (lg:Nat) (K:Env Γ.St→Nat→Option ρ):Option ρ:=
 seqX P G S ops (ops.toList.take k) e lg (fun e lg=>match ops.toList.drop k with
  |o::rest=>zUc P G S e o (fun e1=>kOp o e1 (fun e1=>seqX P G S ops rest e1 (lg|||zAv o.dst) K))
  |[]=>none)
def zBH (e:Env Γ.St) (lg:Nat) (o:Oper) (K:Env Γ.St→Nat→Option ρ):Option ρ:=
 match qXs P G S e o with
 |some q=>q (fun r=>match zIK e o.dst r with
  |some e1=>K e1 (lg|||zAv o.dst)
  |none=>none)
 |none=>none
def yB (ops:Array Oper):List Oper→Env Γ.St→Nat→(Env Γ.St→Nat→Option ρ)→Option ρ
 |[],e,lg,K=>K e lg
 |o::rest,e,lg,K=>
  match o.guard with
  |none=>if zJ9 G (zL (o::rest)) e o then zBH P G S e lg o (fun e1 lg=>kOp o e1 (fun e1=>yB ops rest e1 lg K)) else none
  |some (j,want)=>match (ops[j]?).bind (·.dst) with
   |none=>zGB (o.dst.getD 0) (e.put o.dst (.p (.val undef))) (fun e1=>yB ops rest e1 (lg|||zAv o.dst) K)
   |some t=>match e.get t with
    | .p (.val (.bool b))=>if t<e.tm.length then
      cond b (match want with
       |true=>zGB t (e.lit t true) (fun e=>if zJ9 G (zL (o::rest)) e o then zBH P G S e lg o (fun e1 lg=>kOp o e1 (fun e1=>yB ops rest e1 lg K)) else none)
       |false=>zGB (o.dst.getD 0) ((e.lit t true).put o.dst (.p (.val undef))) (fun e1=>yB ops rest e1 (lg|||zAv o.dst) K))
      (match want with
       |true=>zGB (o.dst.getD 0) ((e.lit t false).put o.dst (.p (.val undef))) (fun e1=>yB ops rest e1 (lg|||zAv o.dst) K)
       |false=>zGB t (e.lit t false) (fun e=>if zJ9 G (zL (o::rest)) e o then zBH P G S e lg o (fun e1 lg=>kOp o e1 (fun e1=>yB ops rest e1 lg K)) else none))
     else none
    | .p (.val (.tuple _))=>zGB (o.dst.getD 0) (e.put o.dst (.p (.val undef))) (fun e1=>yB ops rest e1 (lg|||zAv o.dst) K)
    |_=>none
def zOa:List Nat→Nat
 |[]=>0
 |d::r=>2^(2*d)|||zOa r
def zKG (ops:Array Oper) (k:Nat) (e:Env Γ.St) (lg:Nat) (K:Env Γ.St→Nat→Option ρ):Option ρ:=
 if k≤ops.size&&zJP ops k&&zJz ops k&&zKH (ops.extract 0 k) then
  zBV (killAll (zL (ops.extract 0 k).toList) e) (fun e=>yB P G S (ops.extract 0 k) (ops.extract 0 k).toList e (lg|||zOa (zL (ops.extract 0 k).toList))
   (fun e1 lg=>seqX P G S ops (ops.toList.drop k) e1 lg K))
 else none
def zSz (ops:Array Oper) (e:Env Γ.St) (lg:Nat) (K:Env Γ.St→Nat→Option ρ):Option ρ:=zKG P G S ops (zRs ops.toList) e lg K
def zOR:T→Bool
 | .p _=>true
 | .lp _ _=>true
 |_=>false
def zO2 {St:Type} (ops:Array Oper) (e1:Env St):List Nat→Option (List Fl)
 |[]=>some []
 |i::r=>match ops[i]? with
  |some o=>match o.dst with
   |some d=>match zOR (e1.get d) with
    |true=>(zO2 ops e1 r).map (⟨i,d, .c (e1.get d)⟩:: ·)
    |false=>match o.op with
     | .move (.tmp s)=>(zO2 ops e1 r).map (⟨i,d, .a s⟩:: ·)
     |_=>none
   |none=>none
  |none=>none
def flD (fl:List Fl) (t:Nat):Bool:=fl.any (fun q=>Nat.beq q.d t)
def flC (fl:List Fl) (t:Nat):Bool:=fl.any (fun q=>Nat.beq q.d t&&(match q.v with
 | .c _=>true
 | .a _=>false))
def zNQ (n:Nat):List Fl→Bool
 |[]=>true
 |q::r=> !flD r q.d&&Nat.blt q.d n&&zNQ n r
def zSr (fl:List Fl):Bool:=fl.all (fun q=>match q.v with
 | .c _=>true
 | .a s=> !flD fl s)
def noD (d:Nat):T→Bool
 | .ow i _ _=> !Nat.beq i d
 | .oe i _ _ _ _=> !Nat.beq i d
 | .lp s _=> !Nat.beq s d
 | .mp i _ _=> !Nat.beq i d
 | .ot i _ _=> !Nat.beq i d
 | .oet i _ _ _ _=> !Nat.beq i d
 | .ov i _ _ _ _=> !Nat.beq i d
 | .on n=> !Nat.beq n.id d&& !Nat.beq n.id2 d
 |_=>true
def clean {St:Type} (d:Nat) (e:Env St):Bool:=
 e.tm.all (noD d)&&e.vars.all (fun c=>match c with
  |some cs=>cs.all (noD d)
  |none=>true)&&(e.var d).isNone&&Nat.blt d e.vars.length
def zRW {St:Type} (fl:List Fl) (m:Nat) (e1:Env St):Operand→Bool
 | .tmp t=>(flC fl t||(!flD fl t&& !Nat.testBit m (2*t)))&&(match e1.get t with
  | .p _=>true
  | .lp s _=> !Nat.testBit m (2*s)&&(match e1.var s with
   |some cs=>cs.all (fun x=>match x with| .p _=>true|_=>false)&& !Nat.testBit m (2*s+1)
   |none=>false)
  |_=>false)
 |_=>true
def zTf {St:Type} (ops:Array Oper) (fl:List Fl) (m:Nat) (e1 b:Env St) (q:Fl):Bool:=
 match ops[q.i]? with
 |some o=>match q.v with
  | .a s=>match o.op with
   | .move (.tmp s')=>Nat.beq s' s
   |_=>false
  | .c _=>o.op.operands.toList.all (zRW fl m e1)&&clean q.d b&&fl.all (fun r=>match r.v with
   | .c x=>noD q.d x
   | .a _=>true)
 |none=>false
def zOx (m:Nat) (dst:Option Nat) (q:Fl):Bool:=
 (match dst with
  |some d=> !Nat.beq d q.d
  |none=>true)&&(match q.v with
  | .c (.p _)=>true
  | .c (.lp s _)=> !Nat.testBit m (2*s)
  | .c _=>false
  | .a s=>match dst with
   |some d=> !Nat.beq d s
   |none=>true)
def zUX (fl:List Fl) (A:Fl→Bool) (o:Oper):Bool:=
 o.op.operands.toList.all (fun x=>match x with
  | .tmp t=>fl.all (fun q=> !Nat.beq q.d t||A q)
  |_=>true)
def zAu:List Fl→Nat
 |[]=>0
 |q::r=>2^(2*q.d)|||zAu r
def zPv (anc:Array Nat) (c:Nat) (q:Fl):Bool:=(anc.getD c 0).testBit q.i&&decide (q.i<c)
def zOD (e:Env Γ.St) (o:Oper):Option (Kex Γ ρ):=
 match zGl P G S e o with
 |some q=>some q
 |none=>match zFC o with
  |true=>zGl P G S (zNK G o e) o
  |false=>none
def zFa (ops:Array Oper) (anc:Array Nat) (fl:List Fl) (e1:Env Γ.St):List Nat→Env Γ.St→Nat→(Env Γ.St→Nat→Option ρ)→Option ρ
 |[],b,m,K=>zBV (jA b fl) (fun e=>K e (m|||zAu fl))
 |c::rest,b,m,K=>match ops[c]? with
  |some o=>zBV (jA b (fl.filter (zPv anc c))) (fun bA=>match zUX fl (zPv anc c) o&&fl.all (zOx (jF G bA o) o.dst) with
   |true=>match zOD P G S bA o with
    |some q=>q (fun b1=>kOp o b1 (fun b1=>match fl.all (fun q=>zPv anc c q||zTf ops fl (m|||(zAu fl|||jF G bA o)) e1 b1 q) with
     |true=>zFa ops anc fl e1 rest b1 (m|||(zAu fl|||jF G bA o)) K
     |false=>none))
    |none=>none
   |false=>none)
  |none=>none
def zPn (ops:Array Oper) (Cm Um:Nat) (e:Env Γ.St) (lg:Nat) (K:Env Γ.St→Nat→Option ρ):Option ρ:=
 if zUz ops (Region.before ops) Cm Um then
  zBV (killAll (zL (jX ops Cm).toList) e) (fun e=>yB P G S (jX ops Cm) (jX ops Cm).toList e (lg|||zOa (zL (jX ops Cm).toList))
   (fun e1 lg=>match zO2 ops e1 ((List.range ops.size).filter (fun i=>Nat.testBit Um i&& !Nat.testBit Cm i)) with
    |some fl=>match zNQ e1.tm.length fl&&zSr fl&&fl.all (fun q=>(e1.var q.d).isNone)&&fl.all (zTf ops fl (zAu fl) e1 (zCw e1 fl)) with
     |true=>zBV (zCw e1 fl) (fun b=>zFa P G S ops (Region.before ops) fl e1 ((List.range ops.size).filter (fun i=>Nat.testBit Cm i)) b (zAu fl) (fun e2 m=>K e2 (lg|||m)))
     |false=>none
    |none=>none))
 else none
def zQp:List (Nat×Nat×Nat)→Env Γ.St→(Env Γ.St→Option ρ)→Option ρ
 |[],e,K=>K e
 |(a,b,n)::r,e,K=>match n with
  |1=>match zUe b e&&(!Nat.beq a qC&& !Nat.beq b qC) with
   |true=>zBV (e.mapT (zNr a b)) (fun e=>zQp r e K)
   |false=>none
  |2=>zBV (frzOE a e) (fun e=>zQp r e K)
  |_=>zQp r e K
def zP1:List (Nat×Nat×Nat)→List Operand
 |[]=>[]
 |(t,_,n)::r=>match n with
  |0=> .tmp t::zP1 r
  |_=>zP1 r
def zNs (ops:Array Oper) (d:Bool) (fz:Option (List (Nat×Nat×Nat))) (e:Env Γ.St) (lg:Nat) (K:Env Γ.St→Nat→Option ρ):Option ρ:=
 match d with
 |false=>match fz with
  |none=>seqX P G S ops ops.toList e lg K
  |some []=>seqX P G S ops ops.toList e lg K
  |some ((k,_,n)::_)=>match n with
   |7=>zRE P G S ops k e lg K
   |_=>seqX P G S ops ops.toList e lg K
 |true=>match fz with
  |none=>zSz P G S ops e lg K
  |some []=>zBV (frzOps G (zBD ops.toList) e) (fun e1=>zSz P G S ops e1 (lg|||zJM G (zBD ops.toList) e) K)
  |some ((Cm,Um,n)::ts)=>match n with
   |9=>zSz P G S ops e lg K
   |8=>zKG P G S ops Cm e lg K
   |_=>zBV (frzOps G (zP1 ts) e) (fun e1=>zPn P G S ops Cm Um e1 (lg|||zJM G (zP1 ts) e) K)
def zTb (ops:Array Oper) (d:Bool) (fz:Option (List (Nat×Nat×Nat))) (e:Env Γ.St) (lg:Nat) (K:Env Γ.St→Nat→Option ρ):Option ρ:=
 match fz with
 |none=>zNs P G S ops d fz e lg K
 |some []=>zNs P G S ops d fz e lg K
 |some (x::ts)=>zNs P G S ops d fz e lg (fun e1 lg1=>zQp ts e1 (fun e2=>K e2 lg1))
end
section
variable {Γ:Sig} {ρ:Type} {P:Program} {G:Nat→Option (List V)} {S:zM Γ} {e:Env Γ.St} {o:Oper} {ops:Array Oper} {v:ρ}
theorem zOf {q:Kex Γ ρ} {K:Env Γ.St→Option ρ} {dst:Option Tmp} {c:Call} (h:zOg P G e dst c=some q) (hK:q K=some v): ∃e1,wZ P G e dst c=some e1∧K e1=some v:=by
 unfold zOg at h
 split at h
 ·rename_i p x1 t0 t1 d hcal hargs htys
  split at h
  ·rename_i id t' xs hi hget
   split at h
   ·rename_i el el1 hu0 hu1
    split at h
    ·rename_i info hinfo
     split at h
     ·rename_i z t y ys hz hsrc
      split at h
      ·cases h
      ·rename_i hne
       split at h
       ·rename_i htt
        subst htt
        split at h
        ·rename_i hok
         simp only [Option.some.injEq] at h
         subst h
         obtain ⟨zs,hzs,hK⟩:=bind_some hK
         unfold app at hzs
         split at hzs
         ·rename_i hroom
          simp only [Option.some.injEq] at hzs
          subst hzs
          refine ⟨_,?_,hK⟩
          have hu0':P.underlying t0=some (.slice el):=hu0
          have hu1':P.underlying t1=some (.slice el1):=hu1
          have hinfo':P.info? el=some info:=hinfo
          simp only [wZ,hcal,hargs,htys,hu0',hu1',hinfo',hz,hsrc,hget]
          rw [if_neg hne,dif_pos trivial,if_pos hok,if_pos hroom]
         ·cases hzs
        ·cases h
       ·cases h
     ·cases h
    ·cases h
   ·cases h
  ·cases h
 ·cases h
theorem zPu {q:Kex Γ ρ} {dst:Option Tmp} {c:Call} (h:zOg P G e dst c=some q):jN P G e dst c=none:=by
 unfold zOg at h
 split at h
 ·rename_i p x1 t0 t1 d hcal hargs htys
  split at h
  ·rename_i id t' xs hi hget
   unfold jN
   simp only [hcal,hargs,htys]
   repeat' split
   all_goals first|rfl|skip
   all_goals (rename_i hdst _ _;simp only [evx,hget,zNX] at hdst;cases hdst)
  ·cases h
 ·cases h
theorem zRh {q:Kex Γ ρ} {K:Env Γ.St→Option ρ} (h:wX P G e o=some q) (hK:q K=some v): ∃e1,evW P G e o=some e1∧K e1=some v:=by
 obtain ⟨dst,op,type,pos,after,guard⟩:=o
 cases op<;>simp only [wX,reduceCtorEq] at h
 case store t ap x=>
  split at h
  ·cases h
  ·rename_i hd
   split at h
   ·rename_i id ty xs i off d hp hx
    split at h
    ·rename_i hcond
     simp only [Option.some.injEq] at h
     subst h
     obtain ⟨y,hg,h3⟩:=bind_some hK
     unfold atN at hg
     split at h3
     ·rename_i z hz
      refine ⟨_,?_,h3⟩
      simp only [evW,hp,hx,zB0]
      rw [if_pos hcond]
      simp only [hg,hz]
     ·cases h3
    ·cases h
   ·rename_i id ty xs i off id2 t2 ys hp hx
    split at h
    ·rename_i t3
     split at h
     ·rename_i hcond
      simp only [Option.some.injEq] at h
      subst h
      obtain ⟨hc,hK⟩:=wW.1 hK
      simp only [Bool.not_eq_true'] at hc
      refine ⟨_,?_,hK⟩
      simp only [evW,hp,hx,zAK]
      rw [if_pos ⟨hcond.1,hcond.2.1,hcond.2.2.1,hcond.2.2.2.1,hcond.2.2.2.2,hc⟩]
     ·cases h
    ·cases h
   ·rename_i id id2 ty xs j ys k off d hp hx
    split at h
    ·rename_i hcond
     simp only [Option.some.injEq] at h
     subst h
     obtain ⟨y,hg,h3⟩:=bind_some hK
     unfold atN at hg
     split at h3
     ·rename_i z hz
      refine ⟨_,?_,h3⟩
      simp only [evW,hp,hx,zAm]
      rw [if_pos hcond]
      simp only [hg,hz]
     ·cases h3
    ·cases h
   ·cases h
 case call c=>
  split at h
  ·rename_i q' hq
   simp only [Option.some.injEq] at h
   subst h
   obtain ⟨e1,h1,h2⟩:=zOf hq hK
   refine ⟨e1,?_,h2⟩
   simp only [evW,zPu hq,h1]
  ·split at h
   ·rename_i x0 x1 t0 t1 d hcal hargs htys _
    split at h
    ·rename_i el el1 hu0 hu1
     split at h
     ·rename_i info hinfo
      split at h
      ·rename_i z t ys hz hsrc
       split at h
       ·rename_i nm xs hdst
        split at h
        ·rename_i hok
         simp only [Option.some.injEq] at h
         subst h
         obtain ⟨zs,hzs,hK⟩:=bind_some hK
         unfold app at hzs
         split at hzs
         ·rename_i hroom
          simp only [Option.some.injEq] at hzs
          subst hzs
          refine ⟨_,?_,hK⟩
          have hu0':P.underlying t0=some (.slice el):=hu0
          have hu1':P.underlying t1=some (.slice el1):=hu1
          have hinfo':P.info? el=some info:=hinfo
          simp only [evW,jN,hcal,hargs,htys,hu0',hu1',hinfo',hz,hsrc,hdst]
          rw [if_pos hok,if_pos hroom]
         ·cases hzs
        ·cases h
       ·cases h
      ·cases h
     ·cases h
    ·cases h
   ·cases h
theorem zLh {q:Kex Γ ρ} {K:Env Γ.St→Option ρ} (h:wXs P G e o=some q) (hK:q K=some v): ∃e1,evW P G e o=some e1∧K e1=some v:=by
 unfold wXs at h
 split at h
 ·rename_i q' hq
  simp only [Option.some.injEq] at h;subst h
  exact zRh hq hK
 ·split at h
  ·rename_i r hr
   simp only [Option.some.injEq] at h;subst h
   exact ⟨r,hr,hK⟩
  ·cases h
theorem zMa (hS:z8 Γ P G S.toS) {q:Kex Γ ρ} {K:Env Γ.St→Option ρ} (h:zGl P G S e o=some q) (hK:q K=some v):
  ∃e1,zPD P G e o e1∧Agree (jF G e o) e e1∧K e1=some v:=by
 unfold zGl at h
 split at h
 ·rename_i q' hq
  simp only [Option.some.injEq] at h;subst h
  obtain ⟨r,hr,hk⟩:=zFs hq hK
  split at hk
  ·rename_i e1 he1
   refine ⟨e1,fun w0 F0 O0 a w Q hi=>zKw (P:=P) hS hi ?_,?_,hk⟩
   ·simp only [zHI,hr,he1]
   ·refine (zD6 he1).mono ?_
    intro t ht
    simp only [jF,vB] at ht
    exact ht.1
  ·cases hk
 ·obtain ⟨e1,h1,h2⟩:=zLh h hK
  exact ⟨e1,fun w0 F0 O0 a w Q hi=>zP3 hi h1,zLV h1,h2⟩
theorem zPy (e:Env Γ.St) (id p:Nat) (t:Ty) (ys zs:List t.El) (st:Γ.St) (dst:Option Tmp) (d:V) (hp:e.get p= .ot id t ys):Agree (zAv dst) e (zRS e id p t zs st dst d):=by
 have hg: ∀t',t'≠p→(⟨(e.tm.map (updB id t zs)).set p (.ot id t zs),e.vars.map (fun c=>c.map (List.map (zQ id))),st⟩:Env Γ.St).get t'=updB id t zs (e.get t'):=by
  intro t' hne
  simp only [Env.get,List.getD_eq_getElem?_getD]
  rw [List.getElem?_set_ne (Ne.symm hne),List.getElem?_map]
  cases e.tm[t']? with
  |none=>simp [updB,zQ]
  |some x=>rfl
 have h1:Agree 0 e (⟨(e.tm.map (updB id t zs)).set p (.ot id t zs),e.vars.map (fun c=>c.map (List.map (zQ id))),st⟩:Env Γ.St):=by
  refine ⟨by simp,by simp,?_,?_,?_⟩
  ·intro t' d' ht' hx
   have hne:t'≠p:=fun h=>by rw [h,hp] at hx;cases hx
   rw [hg t' hne,hx];rfl
  ·intro t' s off _ _ hx
   have hne:t'≠p:=fun h=>by rw [h,hp] at hx;cases hx
   rw [hg t' hne,hx];rfl
  ·intro s ds _ _ hx
   have h2:(⟨(e.tm.map (updB id t zs)).set p (.ot id t zs),e.vars.map (fun c=>c.map (List.map (zQ id))),st⟩:Env Γ.St).var s=(e.mapT (zQ id)).var s:=rfl
   rw [h2,zU,hx]
   simp [zQ,Function.comp_def]
 exact (h1.mono (fun t' _=>by simp)).same (yE _ dst _)
theorem zPx (e:Env Γ.St) (id:Nat) (t:Ty) (zs:List t.El) (st:Γ.St) (dst:Option Tmp):Agree (zAv dst) e (zRR e id t zs st dst):=by
 have hg: ∀t',(⟨e.tm.map (zQ id),e.vars.map (fun c=>c.map (List.map (zQ id))),st⟩:Env Γ.St).get t'=zQ id (e.get t'):=qL (f:=zQ id) rfl e
 have h1:Agree 0 e (⟨e.tm.map (zQ id),e.vars.map (fun c=>c.map (List.map (zQ id))),st⟩:Env Γ.St):=by
  refine ⟨by simp,by simp,?_,?_,?_⟩
  ·intro t' d' ht' hx
   rw [hg t',hx];rfl
  ·intro t' s off _ _ hx
   rw [hg t',hx];rfl
  ·intro s ds _ _ hx
   have h2:(⟨e.tm.map (zQ id),e.vars.map (fun c=>c.map (List.map (zQ id))),st⟩:Env Γ.St).var s=(e.mapT (zQ id)).var s:=rfl
   rw [h2,zU,hx]
   simp [zQ,Function.comp_def]
 exact (h1.mono (fun t' _=>by simp)).same (yE _ dst _)
theorem zPq (hS:z8 Γ P G S.toS) {q:Kex Γ ρ} {K:Env Γ.St→Option ρ} (h:zUA G S e o=some q) (hK:q K=some v):
  ∃e1,zPD P G e o e1∧Agree (jF G e o) e e1∧K e1=some v:=by
 obtain ⟨dst,op,type,pos,after,guard⟩:=o
 unfold zUA at h
 split at h
 ·rename_i c hop
  subst hop
  split at h
  ·rename_i f p xs hcal hargs
   split at h
   ·rename_i g id t ys ds hf hp hxs
    split at h
    ·rename_i cx hcx
     split at h
     ·simp only [Option.some.injEq] at h
      subst h
      obtain ⟨hlens,hK⟩:=wW.1 hK
      obtain ⟨y,hy,hK⟩:=bind_some hK
      split at hK
      ·cases hK
      ·rename_i t' zs d hdb hres
       split at hK
       ·rename_i ht
        subst ht
        refine ⟨_,fun w0 F0 O0 a w Q hi=>zTK hS hi hcal hf hargs hp hxs hlens hdb (by rw [zHb hcx hy,hres]),?_,hK⟩
        refine (zPy e id p t' ys zs _ dst d hp).mono ?_
        intro b hb
        simp only [jF,vB] at hb
        exact hb.1
       ·cases hK
      ·cases hK
     ·split at h
      ·cases h
      ·rename_i hid
       have hid:id≠qC:=fun hh=>by rw [hh,Nat.beq_refl] at hid;cases hid
       simp only [Option.some.injEq] at h
       subst h
       obtain ⟨y,hy,hK⟩:=bind_some hK
       split at hK
       ·rename_i t' zs hres
        split at hK
        ·rename_i ht
         subst ht
         refine ⟨_,fun w0 F0 O0 a w Q hi=>zR7 hS hi hcal hf hargs hp hxs hid (by rw [zHb hcx hy,hres]),?_,hK⟩
         refine (zPx e id t' zs _ dst).mono ?_
         intro b hb
         simp only [jF,vB] at hb
         exact hb.1
        ·cases hK
       ·cases hK
    ·cases h
   ·cases h
  ·cases h
 ·cases h
theorem zPw (e:Env Γ.St) (s:Nat) (t:Ty) (z:t.El) (st:Γ.St) (dst:Option Tmp) (d:V):Agree (zAv dst|||2^(2*s+1)) e (zRQ e s t z st dst d):=by
 have h1:Agree (2^(2*s+1)) e (⟨e.tm,e.vars.set s (some ((t.cells z).map T.p)),st⟩:Env Γ.St):=
  (zKQ s _ e).same ((zHV st _).mono (fun t _=>by simp))
 refine (h1.trans (yE _ dst (.p d))).mono ?_
 intro b hb
 simp only [vB] at hb ⊢
 exact ⟨hb.2,hb.1⟩
theorem zOH (hS:z8 Γ P G S.toS) {q:Kex Γ ρ} {K:Env Γ.St→Option ρ} (h:zUa P G S e o=some q) (hK:q K=some v):
  ∃e1,zPD P G e o e1∧Agree (zGg G e o) e e1∧K e1=some v:=by
 obtain ⟨dst,op,type,pos,after,guard⟩:=o
 unfold zUa at h
 split at h
 ·rename_i c hop
  subst hop
  split at h
  ·rename_i f hcal
   split at h
   ·rename_i g k s xs hf hspl
    split at h
    ·rename_i ds cs t hxs hcs hty
     split at h
     ·rename_i vs hvs
      split at h
      ·rename_i y hy
       split at h
       ·rename_i cx hcx
        split at h
        ·simp only [Option.some.injEq] at h
         subst h
         obtain ⟨u,hu,hK⟩:=bind_some hK
         split at hK
         ·rename_i t' z d hres
          split at hK
          ·rename_i ht
           subst ht
           refine ⟨_,fun w0 F0 O0 a w Q hi=>zTd hS hi hcal hf hspl hxs hcs hvs hy (by rw [zHb hcx hu,hres]),?_,hK⟩
           refine (zPw e s t' z _ dst d).mono ?_
           intro b hb
           simp only [zGg,jF,vB,hspl,zUO] at hb
           rw [vB]
           exact ⟨hb.1.1,hb.2⟩
          ·cases hK
         ·cases hK
        ·cases h
       ·cases h
      ·cases h
     ·cases h
    ·cases h
   ·cases h
  ·cases h
 ·cases h
theorem zHn (hS:z8 Γ P G S.toS) {q:Kex Γ ρ} {K:Env Γ.St→Option ρ} (h:zMc P G S e o=some q) (hK:q K=some v):
  ∃e1,zPD P G e o e1∧Agree (zGg G e o) e e1∧K e1=some v:=by
 have hm: ∀b,(zGg G e o).testBit b=false→(jF G e o).testBit b=false:=fun b hb=>by
  unfold zGg at hb
  rw [vB] at hb
  exact hb.1
 unfold zMc at h
 split at h
 ·rename_i q' hq
  simp only [Option.some.injEq] at h;subst h
  obtain ⟨e1,h1,h2,h3⟩:=zMa hS hq hK
  exact ⟨e1,h1,h2.mono hm,h3⟩
 ·split at h
  ·rename_i q' hq
   simp only [Option.some.injEq] at h;subst h
   obtain ⟨e1,h1,h2,h3⟩:=zPq hS hq hK
   exact ⟨e1,h1,h2.mono hm,h3⟩
  ·exact zOH hS h hK
theorem zGX (hS:z8 Γ P G S.toS) {lg:Nat} {K:Env Γ.St→Nat→Option ρ} (h:zSL P G S e lg o K=some v):
  ∃e1 d,zPD P G e o e1∧Agree d e e1∧K e1 (lg|||d)=some v:=by
 unfold zSL at h
 split at h
 ·rename_i q hq
  obtain ⟨e1,h1,h2,h3⟩:=zHn hS hq h
  exact ⟨e1,_,h1,h2,h3⟩
 ·split at h
  ·rename_i q hq
   obtain ⟨e1,h1,h2,h3⟩:=zHn hS hq h
   exact ⟨e1,_,fun w0 F0 O0 a w Q hi=>h1 w0 F0 O0 a w Q (Inv.frzOps _ _ hi),(zD5 _ e).trans h2,h3⟩
  ·cases h
theorem zNb (hS:z8 Γ P G S.toS) {lg:Nat} {K:Env Γ.St→Nat→Option ρ} (h:zRv P G S ops e lg o K=some v):
  ∃e1 d,zQf P G ops e o e1∧Agree d e e1∧K e1 (lg|||d)=some v:=by
 unfold zRv at h
 split at h
 ·rename_i hg
  obtain ⟨e1,d,h1,h2,h3⟩:=zGX hS h
  exact ⟨e1,d, .inl ⟨by simp only [qY,hg],h1⟩,h2,h3⟩
 ·rename_i j want hg
  split at h
  ·rename_i hj
   exact ⟨_,_, .inr ⟨by simp only [qY,hg,hj],rfl⟩,yE e o.dst _,h⟩
  ·rename_i t hj
   split at h
   ·rename_i b hb
    split at h
    ·rename_i hlt
     have hw:qY ops e o=some (b==want):=by simp only [qY,hg,hj,hb,hlt,if_true]
     cases b with
     |true=>
      simp only [cond_true] at h
      split at h
      ·rw [zFz,zET hb] at h
       obtain ⟨e1,d,h1,h2,h3⟩:=zGX hS h
       exact ⟨e1,d, .inl ⟨hw,h1⟩,h2,h3⟩
      ·rw [zET hb] at h
       exact ⟨_,_, .inr ⟨hw,rfl⟩,yE e o.dst _,h⟩
     |false=>
      simp only [cond_false] at h
      split at h
      ·rw [zET hb] at h
       exact ⟨_,_, .inr ⟨hw,rfl⟩,yE e o.dst _,h⟩
      ·rw [zFz,zET hb] at h
       obtain ⟨e1,d,h1,h2,h3⟩:=zGX hS h
       exact ⟨e1,d, .inl ⟨hw,h1⟩,h2,h3⟩
    ·cases h
   ·rename_i vs hb
    exact ⟨_,_, .inr ⟨by simp only [qY,hg,hj,hb],rfl⟩,yE e o.dst _,h⟩
   ·cases h
theorem zAE (hS:z8 Γ P G S.toS) {K:Env Γ.St→Nat→Option ρ} : ∀ (l:List Oper) (e:Env Γ.St) (lg:Nat),seqX P G S ops l e lg K=some v→ ∃e' d,zHW P G ops l e e'∧Agree d e e'∧K e' (lg|||d)=some v:=by
 intro l
 induction l with
 |nil=>intro e lg h;exact ⟨e,0, .nil e,Agree.refl e,by rw [Nat.or_zero];exact h⟩
 |cons o rest ih=>
  intro e lg h
  simp only [seqX] at h
  obtain ⟨e1,d,h1,h2,h3⟩:=zNb hS h
  rw [zMr] at h3
  obtain ⟨e',d',h4,h5,h6⟩:=ih e1 _ h3
  exact ⟨e',d|||d', .cons h1 h4,h2.trans h5,by rw [←Nat.or_assoc];exact h6⟩
theorem zHW.app {l1 l2:List Oper} {e1 e2 e3:Env Γ.St} (h:zHW P G ops l1 e1 e2) (h':zHW P G ops l2 e2 e3):zHW P G ops (l1++l2) e1 e3:=by
 induction h with
 |nil=>exact h'
 |cons h0 _ ih=>exact .cons h0 (ih h')
theorem zOJ (hS:z8 Γ P G S.toS) {K:Env Γ.St→Option ρ} (h:zUc P G S e o K=some v): ∃e1,zQf P G ops e o e1∧Agree (zAv o.dst) e e1∧K e1=some v:=by
 unfold zUc at h
 split at h
 ·rename_i hg
  split at h
  ·rename_i q hq
   obtain ⟨r,hr,hk⟩:=zFs hq h
   split at hk
   ·rename_i t xs
    split at hk
    ·rename_i e1 he1
     exact ⟨e1, .inl ⟨by simp only [qY,hg],fun w0 F0 O0 a w Q hi=>zTa (P:=P) hS hi hr he1⟩,zD6 he1,hk⟩
    ·cases hk
   ·cases hk
  ·cases h
 ·cases h
theorem zNn (hS:z8 Γ P G S.toS) {K:Env Γ.St→Nat→Option ρ} {k:Nat} {lg:Nat} (h:zRE P G S ops k e lg K=some v): ∃e' d,zHW P G ops ops.toList e e'∧Agree d e e'∧K e' (lg|||d)=some v:=by
 unfold zRE at h
 obtain ⟨e1,d1,h1,h2,h3⟩:=zAE hS _ _ _ h
 split at h3
 ·rename_i o rest hd
  obtain ⟨e2,h4,h5,h6⟩:=zOJ (ops:=ops) hS h3
  rw [zMr] at h6
  obtain ⟨e3,d3,h7,h8,h9⟩:=zAE hS _ _ _ h6
  refine ⟨e3,d1|||zAv o.dst|||d3,?_,(h2.trans h5).trans h8,by rw [←Nat.or_assoc, ←Nat.or_assoc];exact h9⟩
  have:=h1.app (.cons h4 h7)
  rw [←hd,List.take_append_drop] at this
  exact this
 ·cases h3
theorem zJo {lg:Nat} {K:Env Γ.St→Nat→Option ρ} (h:zBH P G S e lg o K=some v): ∃r e1,evQ P G S.toS e o=some r∧zIK e o.dst r=some e1∧K e1 (lg|||zAv o.dst)=some v:=by
 unfold zBH at h
 split at h
 ·rename_i q hq
  obtain ⟨r,hr,hk⟩:=zFs hq h
  split at hk
  ·rename_i e1 he1;exact ⟨r,e1,hr,he1,hk⟩
  ·cases hk
 ·cases h
theorem zF9 {K:Env Γ.St→Nat→Option ρ} : ∀ (l:List Oper) (e:Env Γ.St) (lg:Nat),yB P G S ops l e lg K=some v→ ∃e' d,zAO P G S.toS ops l e=some e'∧Agree d e e'∧K e' (lg|||d)=some v:=by
 intro l
 induction l with
 |nil=>intro e lg h;exact ⟨e,0,rfl,Agree.refl e,by rw [Nat.or_zero];exact h⟩
 |cons o rest ih=>
  intro e lg h
  have run: ∀e0:Env Γ.St,e0=e→qY ops e o=some true→(if zJ9 G (zL (o::rest)) e0 o then zBH P G S e0 lg o (fun e1 lg=>kOp o e1 (fun e1=>yB P G S ops rest e1 lg K)) else none)=some v→
    ∃e' d,zAO P G S.toS ops (o::rest) e=some e'∧Agree d e e'∧K e' (lg|||d)=some v:=by
   intro e0 he0 hw hh
   subst he0
   split at hh
   ·rename_i hp
    obtain ⟨r,e1,h1,h2,h3⟩:=zJo hh
    rw [zMr] at h3
    obtain ⟨e',d,h4,h5,h6⟩:=ih e1 _ h3
    refine ⟨e',zAv o.dst|||d,?_,(zML h2).trans h5,by rw [←Nat.or_assoc];exact h6⟩
    simp only [zAO,hw,hp,if_true,h1,h2,h4]
   ·cases hh
  have skip: ∀e0:Env Γ.St,e0=e→qY ops e o=some false→zGB (o.dst.getD 0) (e0.put o.dst (.p (.val undef))) (fun e1=>yB P G S ops rest e1 (lg|||zAv o.dst) K)=some v→
    ∃e' d,zAO P G S.toS ops (o::rest) e=some e'∧Agree d e e'∧K e' (lg|||d)=some v:=by
   intro e0 he0 hw hh
   subst he0
   rw [zFz] at hh
   obtain ⟨e',d,h4,h5,h6⟩:=ih _ _ hh
   refine ⟨e',zAv o.dst|||d,?_,(yE _ o.dst _).trans h5,by rw [←Nat.or_assoc];exact h6⟩
   simp only [zAO,hw,h4]
  unfold yB at h
  split at h
  ·rename_i hg;exact run e rfl (by simp only [qY,hg]) h
  ·rename_i j want hg
   split at h
   ·rename_i hj;exact skip e rfl (by simp only [qY,hg,hj]) h
   ·rename_i t hj
    split at h
    ·rename_i b hb
     split at h
     ·rename_i hlt
      have hw:qY ops e o=some (b==want):=by simp only [qY,hg,hj,hb,hlt,if_true]
      cases b with
      |true=>
       simp only [cond_true] at h
       split at h
       ·rw [zFz] at h;exact run _ (zET hb) hw h
       ·exact skip _ (zET hb) hw h
      |false=>
       simp only [cond_false] at h
       split at h
       ·exact skip _ (zET hb) hw h
       ·rw [zFz] at h;exact run _ (zET hb) hw h
     ·cases h
    ·rename_i vs hb;exact skip e rfl (by simp only [qY,hg,hj,hb]) h
    ·cases h
theorem zGa: ∀ (ds:List Nat) (e:Env Γ.St),Agree (zOa ds) e (killAll ds e):=by
 intro ds
 induction ds with
 |nil=>intro e;exact Agree.refl e
 |cons d r ih=>intro e;exact (zG1 d e).trans (ih _)
theorem zMD (hmix:P.follows .mixedOrders=true) (hS:z8 Γ P G S.toS) {lg:Nat} {K:Env Γ.St→Nat→Option ρ} {k:Nat} (h:zKG P G S ops k e lg K=some v): ∃e' d,(∀ (id:Nat) (w0:World) (F0:Blk→Prop) (O0:kX) (a:Act) (w:World) (Q:Exit→Act→World→Prop),
  Inv Γ G w0 F0 O0 a w e→(∀a w,Inv Γ G w0 F0 O0 a w e'→Q .normal a w)→(Code.region id ops true).wp P Q a w)∧Agree d e e'∧K e' (lg|||d)=some v:=by
 unfold zKG at h
 split at h
 ·rename_i hc
  simp only [Bool.and_eq_true,decide_eq_true_eq] at hc
  obtain ⟨⟨⟨h1,h2⟩,h3⟩,h4⟩:=hc
  rw [kF] at h
  obtain ⟨e1,d1,h5,h6,h7⟩:=zF9 _ _ _ h
  obtain ⟨e',d2,h8,h9,h10⟩:=zAE hS _ _ _ h7
  refine ⟨e',_|||d1|||d2,fun id w0 F0 O0 a w Q hi hQ=>zQZ hmix hS hi h1 h2 h3 (e1:=e1) ?_ h8 hQ,((zGa _ e).trans h6).trans h9,?_⟩
  ·unfold zPe
   rw [if_pos h4]
   exact h5
  ·rw [Nat.or_assoc, ←Nat.or_assoc, ←Nat.or_assoc];exact h10
 ·cases h
theorem zQK {St:Type} {e1:Env St} : ∀ (l:List Nat) (fl:List Fl),zO2 ops e1 l=some fl→
  (∀q,q∈fl→q.i∈l∧ ∃o,ops[q.i]? =some o∧o.dst=some q.d∧((zOR (e1.get q.d)=true∧q.v= .c (e1.get q.d))∨ ∃s,o.op= .move (.tmp s)∧q.v= .a s))∧ ∀i,i∈l→ ∃q,q∈fl∧q.i=i:=by
 intro l
 induction l with
 |nil=>intro fl h;simp only [zO2,Option.some.injEq] at h;subst h;exact ⟨fun q hq=>by simp at hq,fun i hi=>by simp at hi⟩
 |cons i r ih=>
  intro fl h
  simp only [zO2] at h
  split at h
  ·rename_i o ho
   split at h
   ·rename_i d hd
    have step: ∀q0:Fl,q0.i=i→q0.d=d→((zOR (e1.get d)=true∧q0.v= .c (e1.get d))∨ ∃s,o.op= .move (.tmp s)∧q0.v= .a s)→(zO2 ops e1 r).map (q0:: ·)=some fl→
      (∀q,q∈fl→q.i∈i::r∧ ∃o,ops[q.i]? =some o∧o.dst=some q.d∧((zOR (e1.get q.d)=true∧q.v= .c (e1.get q.d))∨ ∃s,o.op= .move (.tmp s)∧q.v= .a s))∧ ∀j,j∈i::r→ ∃q,q∈fl∧q.i=j:=by
     intro q0 h1 h2 h3 hm
     simp only [Option.map_eq_some_iff] at hm
     obtain ⟨fl0,hfl0,rfl⟩:=hm
     obtain ⟨g1,g2⟩:=ih fl0 hfl0
     refine ⟨?_,?_⟩
     ·intro q hq
      rcases List.mem_cons.1 hq with rfl|hq
      ·rw [h1,h2];exact ⟨by simp,o,ho,hd,h3⟩
      ·obtain ⟨k1,k2⟩:=g1 q hq
       exact ⟨List.mem_cons_of_mem _ k1,k2⟩
     ·intro j hj
      rcases List.mem_cons.1 hj with rfl|hj
      ·exact ⟨q0,by simp,h1⟩
      ·obtain ⟨q,k1,k2⟩:=g2 j hj
       exact ⟨q,List.mem_cons_of_mem _ k1,k2⟩
    split at h
    ·rename_i hpl;exact step ⟨i,d, .c (e1.get d)⟩ rfl rfl (.inl ⟨hpl,rfl⟩) h
    ·split at h
     ·rename_i s hop;exact step ⟨i,d, .a s⟩ rfl rfl (.inr ⟨s,hop,rfl⟩) h
     ·cases h
   ·cases h
  ·cases h
theorem zMu {fl:List Fl} {t:Nat} :flD fl t=true↔ ∃q,q∈fl∧q.d=t:=by
 simp only [flD,List.any_eq_true]
 constructor
 ·rintro ⟨q,hq,h⟩;exact ⟨q,hq,Nat.eq_of_beq_eq_true h⟩
 ·rintro ⟨q,hq,rfl⟩;exact ⟨q,hq,by simp⟩
theorem zNP {n:Nat} {fl:List Fl} (h1:zNQ n fl=true) (h2:zSr fl=true):zFZ n fl:=by
 have hd: ∀l:List Fl,zNQ n l=true→l.Pairwise (fun p q=>p.d≠q.d)∧ ∀q,q∈l→q.d<n:=by
  intro l
  induction l with
  |nil=>intro _;exact ⟨.nil,fun q hq=>by simp at hq⟩
  |cons q r ih=>
   intro h
   simp only [zNQ,Bool.and_eq_true,Bool.not_eq_true'] at h
   obtain ⟨⟨g1,g2⟩,g3⟩:=h
   obtain ⟨k1,k2⟩:=ih g3
   refine ⟨List.pairwise_cons.2 ⟨?_,k1⟩,?_⟩
   ·intro p hp hh
    have:flD r q.d=true:=zMu.2 ⟨p,hp,hh.symm⟩
    rw [g1] at this;cases this
   ·intro p hp
    rcases List.mem_cons.1 hp with rfl|hp
    ·simpa using g2
    ·exact k2 p hp
 refine ⟨(hd fl h1).1,(hd fl h1).2,?_⟩
 intro q hq s hs p hp hh
 have:=List.all_eq_true.1 h2 q hq
 rw [hs] at this
 simp only [Bool.not_eq_true'] at this
 have h3:flD fl s=true:=zMu.2 ⟨p,hp,hh.symm⟩
 rw [this] at h3;cases h3
theorem zNC {d:Nat} {x:T} (h:noD d x=true):zP d x=x:=by
 cases x<;>simp only [noD,zP] at h ⊢ <;>first|rfl|(rw [if_neg];intro hh;subst hh;simp at h)|(rw [if_neg];rintro (hh|hh)<;>(subst hh;simp at h))
theorem zPm {St:Type} {d:Nat} {e:Env St} (h1: ∀x,x∈e.tm→noD d x=true) (h2: ∀cs,some cs∈e.vars→ ∀x,x∈cs→noD d x=true) (h3:e.var d=none):e.kill d=e:=by
 obtain ⟨tm,vars,st⟩:=e
 simp only [Env.kill,Env.mk.injEq,and_true]
 refine ⟨?_,?_⟩
 ·exact (List.map_congr_left (fun x hx=>zNC (h1 x hx))).trans (List.map_id _)
 ·have hs:vars.set d none=vars:=by
   apply List.ext_getElem?
   intro i
   rw [List.getElem?_set]
   split
   ·rename_i h;subst h
    simp only [Env.var] at h3
    split
    ·rename_i hl
     rw [List.getElem?_eq_getElem hl] at h3 ⊢
     simpa using h3.symm
    ·rename_i hl;rw [List.getElem?_eq_none (by omega)]
   ·rfl
  rw [hs]
  refine (List.map_congr_left (g:=id) ?_).trans (List.map_id _)
  intro c hc
  cases c with
  |none=>rfl
  |some cs=>exact congrArg some ((List.map_congr_left (fun x hx=>zNC (h2 cs hc x hx))).trans (List.map_id _))
theorem zSu {S:jH Γ} {L:qQ} (st:Γ.St) (hc:isCall o=false):evQ L G S { e with st:=st } o=evQ L G S e o:=
 zKv (fun x _=>by cases x<;>rfl) (fun _ _ _ _ _=>rfl) (fun h=>by rw [hc] at h;cases h)
theorem zTc {St:Type} {b:Env St} : ∀ (L:List Fl) (b:Env St) (x:T),x∈(jA b L).tm→x∈b.tm∨(∃q,q∈L∧ ∃y,q.v= .c y∧x=y)∨x= .dead:=by
 intro L
 induction L with
 |nil=>intro b x h;exact .inl h
 |cons q L ih=>
  intro b x h
  rcases ih (zBw b q) x h with h|⟨r,hr,y,hy⟩|h
  ·simp only [zBw] at h
   rcases List.mem_or_eq_of_mem_set h with h|h
   ·exact .inl h
   ·unfold Fl.val at h
    cases hv:q.v with
    |c y=>rw [hv] at h;exact .inr (.inl ⟨q,by simp,y,hv,h⟩)
    |a s=>
     rw [hv] at h
     simp only [Env.get,List.getD_eq_getElem?_getD] at h
     cases hg:b.tm[s]? with
     |none=>rw [hg] at h;exact .inr (.inr h)
     |some z=>rw [hg] at h;simp only [Option.getD_some] at h;subst h;exact .inl (List.mem_of_getElem? hg)
  ·exact .inr (.inl ⟨r,List.mem_cons_of_mem _ hr,y,hy⟩)
  ·exact .inr (.inr h)
theorem zKh {Sp:jH Γ} {Cm Um:Nat} {anc:Array Nat} (hch:zPE ops anc Cm Um) {fl:List Fl} {e1 b:Env Γ.St} {m:Nat} (hfl:zFZ e1.tm.length fl)
  (hspec: ∀q,q∈fl→Cm.testBit q.i=false∧Um.testBit q.i=true∧ ∃o,ops[q.i]? =some o∧o.dst=some q.d∧((zOR (e1.get q.d)=true∧q.v= .c (e1.get q.d))∨ ∃s,o.op= .move (.tmp s)∧q.v= .a s))
  (hvar: ∀q,q∈fl→e1.var q.d=none) (hA:Agree m (zCw e1 fl) b)
  {q:Fl} (hq:q∈fl) (hst: ∀o,ops[q.i]? =some o→ ∃st st',zB9 P G Sp (jX ops Cm) e1 st o st') (h:zTf ops fl m e1 b q=true):zHY P G Sp ops fl b q:=by
 intro o p ho hp
 obtain ⟨hC,hU,o',ho',hd,hcase⟩:=hspec q hq
 rw [ho] at ho'
 cases ho'
 have hg:=hch.guardC q.i o ho (.inr hU)
 have hnc:=hch.call q.i o ho hC hU
 obtain ⟨d1,d2,d3⟩:=zNZ hfl
 have hlen:b.tm.length=e1.tm.length:=hA.tl.trans d1.len
 obtain ⟨a1,a2⟩:=yO (fl.filter p) b e1.tm.length (hfl.filter p) (by rw [hlen];exact Nat.le_refl _)
 have hal:=uS (fl.filter p) b
 unfold zTf at h
 rw [ho] at h
 simp only at h
 rcases hcase with ⟨hpl,hv⟩|⟨s,hop,hv⟩
 ·-- a value
  rw [hv] at h
  simp only [Bool.and_eq_true] at h
  obtain ⟨⟨h1,h2⟩,h3⟩:=h
  obtain ⟨st,st',hstep⟩:=hst o ho
  rcases hstep with ⟨_,r,hev,_,hneed,hdst⟩|⟨hw,_⟩
  ·obtain ⟨g1,g2,g3⟩:=hdst q.d hd
   have hget:=g1 (hfl.lt q hq)
   have hev':evQ P G Sp (jA b (fl.filter p)) o=some r:=by
    rw [←hev,zSu st hnc, ←zSu (e:=e1) (jA b (fl.filter p)).st hnc]
    have hops: ∀x,x∈o.op.operands→evx G (jA b (fl.filter p)) x=evx G e1 x∧ ∀s off,evx G e1 x= .lp s off→(jA b (fl.filter p)).var s=e1.var s:=by
     intro x hx
     have hok:=List.all_eq_true.1 h1 x (by simpa using hx)
     cases x with
     |tmp t=>
      simp only [zRW,Bool.and_eq_true,Bool.or_eq_true] at hok
      obtain ⟨hwhich,hm⟩:=hok
      have hvars: ∀s off,e1.get t= .lp s off→(jA b (fl.filter p)).var s=e1.var s:=by
       intro s off hlp
       rw [hlp] at hm
       simp only [Bool.and_eq_true,Bool.not_eq_true'] at hm
       obtain ⟨hsb,hm⟩:=hm
       split at hm
       ·rename_i cs hcs
        simp only [Bool.and_eq_true,Bool.not_eq_true'] at hm
        have hds: ∃ds:List V,cs=ds.map T.p:=by
         have hall:=hm.1
         clear hcs hm
         induction cs with
         |nil=>exact ⟨[],rfl⟩
         |cons c cs ih=>
          simp only [List.all_cons,Bool.and_eq_true] at hall
          obtain ⟨ds,hds⟩:=ih hall.2
          cases c with
          |p d0=>exact ⟨d0::ds,by rw [hds];rfl⟩
          |_=>simp at hall
        obtain ⟨ds,rfl⟩:=hds
        have hvv:=hA.v s ds hsb hm.2 (by rw [d1.var];exact hcs)
        rw [hal.var,hvv,hcs]
       ·cases hm
      refine ⟨?_,fun s off hs=>hvars s off hs⟩
      show (jA b (fl.filter p)).get t=e1.get t
      rcases hwhich with hok|hok
      ·simp only [flC,List.any_eq_true,Bool.and_eq_true] at hok
       obtain ⟨q',hq',hqd,hqc⟩:=hok
       have hqd:=Nat.eq_of_beq_eq_true hqd
       subst hqd
       obtain ⟨_,_,o2,ho2,hd2,hcase2⟩:=hspec q' hq'
       have hpq:=hp q' hq' hx
       have hval:=a2 q' (List.mem_filter.2 ⟨hq',hpq⟩)
       have hv2:q'.v= .c (e1.get q'.d):=by
        rcases hcase2 with ⟨_,h5⟩|⟨s5,_,h5⟩
        ·exact h5
        ·rw [h5] at hqc;cases hqc
       rw [hval];unfold Fl.val;rw [hv2]
      ·simp only [Bool.and_eq_true,Bool.not_eq_true'] at hok
       obtain ⟨hnf,hbit⟩:=hok
       have hnf': ∀q',q'∈fl→t≠q'.d:=by
        intro q' hq' hh
        have:flD fl t=true:=zMu.2 ⟨q',hq',hh.symm⟩
        rw [hnf] at this;cases this
       have hdt:=d2 t hnf'
       have hbt:=a1 t (fun q' hq'=>hnf' q' (List.mem_filter.1 hq').1)
       split at hm
       ·rename_i dv hdv
        have:=hA.p t dv hbit (by rw [hdt];exact hdv)
        rw [hbt,this,hdv]
       ·rename_i s off hlp
        simp only [Bool.and_eq_true,Bool.not_eq_true'] at hm
        have:=hA.lp t s off hbit hm.1 (by rw [hdt];exact hlp)
        rw [hbt,this,hlp]
       ·cases hm
     |_=>exact ⟨rfl,fun s off hs=>by
       simp only [evx] at hs
       first|cases hs|(split at hs<;>cases hs)⟩
    exact zIB (fun x hx=>(hops x hx).1) (fun x hx s off hs=>(hops x hx).2 s off (by rw [←(hops x hx).1];exact hs)) rfl
   have hrc:=zIA hev hnc
   refine .inl ?_
   simp only [zHI,hev',hd]
   have hgoal: ∀e2:Env Γ.St,e2= { (jA b (fl.filter p)) with tm:=(jA b (fl.filter p)).tm.set q.d (zK2 q.d r) } →some e2=some (zBw (jA b (fl.filter p)) q):=by
    intro e2 he2
    rw [he2]
    unfold zBw Fl.val
    rw [hv,hget]
   unfold kW
   cases hn:r.needs with
   |false=>
    simp only [hn,Bool.false_eq_true,if_false]
    apply hgoal
    cases r with
    |ret x=>rfl
    |call _ _ _=>cases hrc
    |_=>cases hn
   |true=>
    simp only [hn,if_true]
    unfold clean at h2
    simp only [Bool.and_eq_true] at h2
    obtain ⟨⟨⟨k1,k2⟩,k3⟩,k4⟩:=h2
    have hvl:q.d< (jA b (fl.filter p)).vars.length:=by rw [hal.vars];simpa using k4
    rw [if_pos ⟨hvl,by obtain ⟨d',hd',hdL⟩:=hneed hn;rw [hd] at hd';simp only [Option.some.injEq] at hd';rw [hd'];exact hdL⟩]
    have hk:(jA b (fl.filter p)).kill q.d=jA b (fl.filter p):=by
     refine zPm ?_ ?_ ?_
     ·intro x hx
      rcases zTc (b:=b) _ _ x hx with hx|⟨q',hq',y,hy,rfl⟩|rfl
      ·exact List.all_eq_true.1 k1 x hx
      ·have:=List.all_eq_true.1 h3 q' (List.mem_filter.1 hq').1
       rw [hy] at this
       exact this
      ·rfl
     ·intro cs hcs x hx
      rw [hal.vars] at hcs
      have:=List.all_eq_true.1 k2 (some cs) hcs
      exact List.all_eq_true.1 this x hx
     ·rw [hal.var];exact Option.isNone_iff_eq_none.1 k3
    rw [hk]
    apply hgoal
    cases r with
    |var cs=>have:=g2 cs rfl;rw [hvar q hq] at this;cases this
    |call _ _ _=>cases hrc
    |ret x=>cases hn
    |_=>rfl
  ·simp only [qY,hg] at hw
   cases hw
 ·-- a copy
  refine .inl ?_
  obtain ⟨dst,op,type,pos,after,guard⟩:=o
  simp only at hop hd
  subst hop hd
  simp only [zHI,evQ,kW,R.needs,Bool.false_eq_true,if_false]
  simp only [zBw,Fl.val,hv]
  rfl
theorem zF2 {q:Kex Γ ρ} {K:Env Γ.St→Option ρ} (h:zGl P G S e o=some q) (hK:q K=some v):
  ∃e1,(zHI P G S.toS e o=some e1∨evW P G e o=some e1)∧Agree (jF G e o) e e1∧K e1=some v:=by
 unfold zGl at h
 split at h
 ·rename_i q' hq
  simp only [Option.some.injEq] at h;subst h
  obtain ⟨r,hr,hk⟩:=zFs hq hK
  split at hk
  ·rename_i e1 he1
   refine ⟨e1, .inl ?_,?_,hk⟩
   ·simp only [zHI,hr,he1]
   ·refine (zD6 he1).mono ?_
    intro t ht
    simp only [jF,vB] at ht
    exact ht.1
  ·cases hk
 ·obtain ⟨e1,h1,h2⟩:=zLh h hK
  exact ⟨e1, .inr h1,zLV h1,h2⟩
theorem zPA: ∀ (l:List Nat) (e:Env Γ.St),Agree 0 e (frzI l e):=by
 intro l
 induction l with
 |nil=>intro e;exact Agree.refl e
 |cons i r ih=>intro e;exact ((xV i e).trans (ih _)).mono (fun t _=>by simp)
theorem zMb {q:Kex Γ ρ} {K:Env Γ.St→Option ρ} (h:zOD P G S e o=some q) (hK:q K=some v):
  ∃e1,zEj P G S.toS e o e1∧Agree (jF G e o) e e1∧K e1=some v:=by
 unfold zOD at h
 split at h
 ·rename_i q' hq
  simp only [Option.some.injEq] at h;subst h
  obtain ⟨e1,h1,h2,h3⟩:=zF2 hq hK
  exact ⟨e1,h1.elim .inl (fun h=> .inr (.inl h)),h2,h3⟩
 ·split at h
  ·rename_i hB
   obtain ⟨e1,h1,h2,h3⟩:=zF2 h hK
   refine ⟨e1,?_,?_,h3⟩
   ·rcases h1 with h1|h1
    ·exact .inr (.inr ⟨hB,h1⟩)
    ·rw [zQS hB] at h1
     cases h1
   ·rw [zDq hB] at h2 ⊢
    exact ((zPA _ e).trans h2).mono (fun t ht=>by simpa using ht)
  ·cases h
theorem zQ5: ∀ {fl:List Fl} {t:Nat},(zAu fl).testBit t=false→ ∀q,q∈fl→t≠2*q.d:=by
 intro fl
 induction fl with
 |nil=>intro t _ q hq;simp at hq
 |cons p r ih=>
  intro t h q hq
  simp only [zAu,vB] at h
  rcases List.mem_cons.1 hq with rfl|hq
  ·exact (zJE _ _).1 h.1
  ·exact ih h.2 q hq
theorem zG0 {St:Type} : ∀ (L:List Fl) (e:Env St),Agree (zAu L) e (jA e L):=by
 intro L
 induction L with
 |nil=>intro e;exact Agree.refl e
 |cons q L ih=>intro e;exact (zBI q.d (q.val e) e).trans (ih (zBw e q))
theorem zLT {L fl:List Fl} (h: ∀q,q∈L→ ∃r,r∈fl∧r.d=q.d) {t:Nat} (ht:(zAu fl).testBit t=false):(zAu L).testBit t=false:=by
 induction L with
 |nil=>simp [zAu]
 |cons q L ih=>
  simp only [zAu,vB]
  refine ⟨(zJE _ _).2 ?_,ih (fun p hp=>h p (List.mem_cons_of_mem _ hp))⟩
  obtain ⟨r,hr,hrd⟩:=h q (by simp)
  rw [←hrd]
  exact zQ5 ht r hr
theorem zL5 {m:Nat} {dst:Option Nat} {q:Fl} (h:zOx m dst q=true):zOl m dst q:=by
 unfold zOx at h
 simp only [Bool.and_eq_true] at h
 obtain ⟨h1,h2⟩:=h
 refine ⟨?_,?_⟩
 ·intro hh
  rw [hh] at h1
  simp at h1
 ·split at h2
  ·rename_i hv;rw [hv];trivial
  ·rename_i hv;rw [hv];simpa using h2
  ·cases h2
  ·rename_i s hv
   rw [hv]
   intro hh
   rw [hh] at h2
   simp at h2
theorem zKL {Cm Um:Nat} {anc:Array Nat} (hch:zPE ops anc Cm Um) {fl:List Fl} {e1:Env Γ.St} (hfl:zFZ e1.tm.length fl)
  (hspec: ∀q,q∈fl→Cm.testBit q.i=false∧Um.testBit q.i=true∧ ∃o,ops[q.i]? =some o∧o.dst=some q.d∧((zOR (e1.get q.d)=true∧q.v= .c (e1.get q.d))∨ ∃s,o.op= .move (.tmp s)∧q.v= .a s))
  (hvar: ∀q,q∈fl→e1.var q.d=none)
  (hst: ∀q,q∈fl→ ∀o,ops[q.i]? =some o→ ∃st st',zB9 P G S.toS (jX ops Cm) e1 st o st') {K:Env Γ.St→Nat→Option ρ} : ∀ (l:List Nat) (b:Env Γ.St) (m:Nat),
  zFa P G S ops anc fl e1 l b m K=some v→Agree m (zCw e1 fl) b→(∀t,m.testBit t=false→(zAu fl).testBit t=false)→
  ∃b' M,zFe P G S.toS ops anc fl l b b'∧Agree M (zCw e1 fl) (jA b' fl)∧(∀t,M.testBit t=false→(zAu fl).testBit t=false)∧K (jA b' fl) M=some v:=by
 intro l
 induction l with
 |nil=>
  intro b m h hA hm
  simp only [zFa] at h
  rw [kF] at h
  exact ⟨b,_, .nil b,hA.trans (zG0 fl b),fun t ht=>((vB _ _ _).1 ht).2,h⟩
 |cons c rest ih=>
  intro b m h hA hm
  simp only [zFa] at h
  split at h
  ·rename_i o ho
   rw [kF] at h
   split at h
   ·rename_i hchk
    simp only [Bool.and_eq_true] at hchk
    obtain ⟨hops,hstays⟩:=hchk
    split at h
    ·rename_i q hq
     obtain ⟨b1,h1,h2,h3⟩:=zMb hq h
     rw [zMr] at h3
     split at h3
     ·rename_i hok
      have hA1:Agree (m|||(zAu fl|||jF G (jA b (fl.filter (zPv anc c))) o)) (zCw e1 fl) b1:=by
       have hput:Agree (zAu fl) b (jA b (fl.filter (zPv anc c))):=(zG0 _ b).mono (fun t ht=>zLT (fun q hq=>⟨q,(List.mem_filter.1 hq).1,rfl⟩) ht)
       exact hA.trans (hput.trans h2)
      obtain ⟨b',M,g1,g2,g3,g4⟩:=ih b1 _ h3 hA1 (fun t ht=>hm t ((vB _ _ _).1 ht).1)
      refine ⟨b',M, .cons ho h1 ?_ ?_ ?_ g1,g2,g3,g4⟩
      ·intro q hqf hx
       have hx1:=List.all_eq_true.1 hops (.tmp q.d) (by simpa using hx)
       have hx2:=List.all_eq_true.1 hx1 q hqf
       simpa [zPv] using hx2
      ·intro q hqf
       exact zL5 (List.all_eq_true.1 hstays q hqf)
      ·intro q hqf hnA
       have hx:=List.all_eq_true.1 hok q hqf
       rw [show zPv anc c q=false from hnA,Bool.false_or] at hx
       exact zKh hch hfl hspec hvar hA1 hqf (hst q hqf) hx
     ·cases h3
    ·cases h
   ·cases h
  ·cases h
theorem zMI (hmix:P.follows .mixedOrders=true) (hS:z8 Γ P G S.toS) {Cm Um lg:Nat} {K:Env Γ.St→Nat→Option ρ} (h:zPn P G S ops Cm Um e lg K=some v): ∃e' d,(∀ (id:Nat) (w0:World) (F0:Blk→Prop) (O0:kX) (a:Act) (w:World) (Q:Exit→Act→World→Prop),
  Inv Γ G w0 F0 O0 a w e→(∀a w,Inv Γ G w0 F0 O0 a w e'→Q .normal a w)→(Code.region id ops true).wp P Q a w)∧Agree d e e'∧K e' (lg|||d)=some v:=by
 unfold zPn at h
 split at h
 ·rename_i hchk
  have hch:=zTH hchk
  rw [kF] at h
  obtain ⟨e1,d1,h1,h2,h3⟩:=zF9 _ _ _ h
  split at h3
  ·rename_i fl hfl
   split at h3
   ·rename_i hc
    simp only [Bool.and_eq_true] at hc
    obtain ⟨⟨⟨c1,c2⟩,c3⟩,c4⟩:=hc
    have hflok:=zNP c1 c2
    obtain ⟨s1,s2⟩:=zQK _ _ hfl
    have hspec: ∀q,q∈fl→Cm.testBit q.i=false∧Um.testBit q.i=true∧ ∃o,ops[q.i]? =some o∧o.dst=some q.d∧((zOR (e1.get q.d)=true∧q.v= .c (e1.get q.d))∨ ∃s,o.op= .move (.tmp s)∧q.v= .a s):=by
     intro q hq
     obtain ⟨k1,k2⟩:=s1 q hq
     simp only [List.mem_filter,Bool.and_eq_true,Bool.not_eq_true'] at k1
     exact ⟨k1.2.2,k1.2.1,k2⟩
    have hvar: ∀q,q∈fl→e1.var q.d=none:=fun q hq=>Option.isNone_iff_eq_none.1 (List.all_eq_true.1 c3 q hq)
    have hah:=zKP hch.st 0 (jX ops Cm).toList (by simp)
    have hno: ∀d,d∈zL (jX ops Cm).toList→(killAll (zL (jX ops Cm).toList) e).var d=none:=by
     intro d hd
     cases hv:(killAll (zL (jX ops Cm).toList) e).var d with
     |none=>rfl
     |some cs=>exact absurd ⟨cs,hv⟩ (yS _ e d hd).1
    obtain ⟨sts,_,_,hsteps,_,_,_⟩:=zDX _ _ _ h1 hah hno
    have hst: ∀q,q∈fl→ ∀o,ops[q.i]? =some o→ ∃st st',zB9 P G S.toS (jX ops Cm) e1 st o st':=by
     intro q hq o ho
     exact ⟨_,_,hsteps q.i o (by rw [Array.getElem?_toList];exact kK ho (hspec q hq).1)⟩
    rw [kF] at h3
    have hdead:Agree (zAu fl) e1 (zCw e1 fl):=(zG0 _ e1).mono (fun t ht=>zLT (fun q hq=>by
     obtain ⟨p,hp,rfl⟩:=List.mem_map.1 hq
     exact ⟨p,hp,rfl⟩) ht)
    have hA0:Agree (zAu fl) (zCw e1 fl) (zCw e1 fl):=(Agree.refl _).mono (fun t _=>by simp)
    obtain ⟨b',M,g1,g2,g3,g4⟩:=zKL hch hflok hspec hvar hst _ _ _ h3 hA0 (fun t ht=>ht)
    have hfv: ∀q,q∈fl→e1.get q.d=q.val e1∧e1.var q.d=none:=by
     intro q hq
     refine ⟨?_,hvar q hq⟩
     obtain ⟨hC,hU,o,ho,hd,hcase⟩:=hspec q hq
     rcases hcase with ⟨_,hv⟩|⟨s,hop,hv⟩
     ·unfold Fl.val;rw [hv]
     ·obtain ⟨st,st',hstep⟩:=hst q hq o ho
      have hg:=hch.guardC q.i o ho (.inr hU)
      rcases hstep with ⟨_,r,hev,_,_,hdst⟩|⟨hw,_⟩
      ·obtain ⟨k1,_,_⟩:=hdst q.d hd
       rw [k1 (hflok.lt q hq)]
       simp only [evQ,hop,Option.some.injEq] at hev
       subst hev
       unfold Fl.val;rw [hv];rfl
      ·simp only [qY,hg] at hw;cases hw
    refine ⟨jA b' fl,(zOa (zL (jX ops Cm).toList)|||d1)|||M,?_,?_,?_⟩
    ·intro id w0 F0 O0 a w Q hi hQ
     refine zQ3 hmix hch hS hi h1 hflok ?_ ?_ hfv ?_ g1 hQ
     ·intro i hU hC hlt
      exact s2 i (by simp [hlt,hU,hC])
     ·intro q hq
      obtain ⟨k1,k2,o,ho,hd,_⟩:=hspec q hq
      exact ⟨k1,k2,o,ho,hd⟩
     ·intro q hq
      exact zKh hch hflok hspec hvar hA0 hq (hst q hq) (List.all_eq_true.1 c4 q hq)
    ·have hd2:Agree M e1 (jA b' fl):=(hdead.mono (fun t ht=>g3 t ht)).same g2
     exact ((zGa _ e).trans h2).trans hd2
    ·rw [←Nat.or_assoc, ←Nat.or_assoc];exact g4
   ·cases h3
  ·cases h3
 ·cases h
theorem zEI (hmix:P.follows .mixedOrders=true) (hS:z8 Γ P G S.toS) {d:Bool} {fz:Option (List (Nat×Nat×Nat))} {lg:Nat} {K:Env Γ.St→Nat→Option ρ} {id:Nat} (h:zNs P G S ops d fz e lg K=some v):
  ∃e' n,qF P G (.region id ops d) e .normal e'∧Agree n e e'∧K e' (lg|||n)=some v:=by
 have draw: ∀ (e:Env Γ.St) (lg k:Nat),zKG P G S ops k e lg K=some v→ ∃e' n,qF P G (.region id ops true) e .normal e'∧Agree n e e'∧K e' (lg|||n)=some v:=by
  intro e lg k h
  obtain ⟨e1,n,h1,h2,h3⟩:=zMD hmix hS h
  exact ⟨e1,n,fun w0 F0 O0 a w hi=>h1 id w0 F0 O0 a w _ hi (fun a w h=>⟨rfl,h⟩),h2,h3⟩
 unfold zNs at h
 split at h
 ·have seq:(∃e' d,zHW P G ops ops.toList e e'∧Agree d e e'∧K e' (lg|||d)=some v)→ ∃e' n,qF P G (.region id ops false) e .normal e'∧Agree n e e'∧K e' (lg|||n)=some v:=by
   rintro ⟨e1,n,h1,h2,h3⟩
   refine ⟨e1,n,?_,h2,h3⟩
   intro w0 F0 O0 a w hi
   refine wp_region ?_
   have:=zS9 (Q:=fun ex a' w'=>ex=X.toExit .normal∧Inv Γ G w0 F0 O0 a' w' e1) ops 0 ops.toList e e1 a w (by simp) h1 hi (fun a w h=>⟨rfl,h⟩)
   simpa [List.range_eq_range'] using this
  split at h
  ·exact seq (zAE hS _ _ _ h)
  ·exact seq (zAE hS _ _ _ h)
  ·split at h
   ·exact seq (zNn hS h)
   ·exact seq (zAE hS _ _ _ h)
 ·split at h
  ·exact draw e lg _ h
  ·rw [kF] at h
   obtain ⟨e1,n,h1,h2,h3⟩:=draw _ _ _ h
   exact ⟨e1,_,fun w0 F0 O0 a w hi=>h1 w0 F0 O0 a w (Inv.frzOps _ _ hi),(zD5 _ e).trans h2,by rw [←Nat.or_assoc];exact h3⟩
  ·split at h
   ·exact draw e lg _ h
   ·exact draw e lg _ h
   ·rw [kF] at h
    obtain ⟨e1,n,h1,h2,h3⟩:=zMI hmix hS h
    exact ⟨e1,_,fun w0 F0 O0 a w hi=>h1 id w0 F0 O0 a w _ (Inv.frzOps _ _ hi) (fun a w h=>⟨rfl,h⟩),(zD5 _ e).trans h2,by rw [←Nat.or_assoc];exact h3⟩
theorem zQL (a b:Nat):zSV (zNr a b):=⟨fun _=>rfl,fun _ _=>rfl,rfl⟩
theorem zOF {K:Env Γ.St→Option ρ} : ∀ (l:List (Nat×Nat×Nat)) (e:Env Γ.St),zQp l e K=some v→ ∃e',Agree 0 e e'∧K e'=some v∧ ∀ (w0:World) (F0:Blk→Prop) (O0:kX) (a:Act) (w:World),Inv Γ G w0 F0 O0 a w e→Inv Γ G w0 F0 O0 a w e':=by
 intro l
 induction l with
 |nil=>intro e h;exact ⟨e,Agree.refl e,h,fun _ _ _ _ _ h=>h⟩
 |cons x r ih=>
  intro e h
  obtain ⟨a,b,n⟩:=x
  simp only [zQp] at h
  split at h
  ·split at h
   ·rename_i hb
    rw [kF] at h
    obtain ⟨e',h1,h2,h3⟩:=ih _ h
    exact ⟨e',(xI (zQL a b) e).same h1,h2,fun w0 F0 O0 a0 w hi=>h3 w0 F0 O0 a0 w (by
     simp only [Bool.and_eq_true,Bool.not_eq_true'] at hb
     exact hi.ren hb.1 (fun h=>by rw [h] at hb;simp at hb) (fun h=>by rw [h] at hb;simp at hb))⟩
   ·cases h
  ·rw [kF] at h
   obtain ⟨e',h1,h2,h3⟩:=ih _ h
   exact ⟨e',(xV _ e).same h1,h2,fun w0 F0 O0 a0 w hi=>h3 w0 F0 O0 a0 w (hi.frzOE _)⟩
  ·exact ih e h
theorem zJ3 (hmix:P.follows .mixedOrders=true) (hS:z8 Γ P G S.toS) {d:Bool} {fz:Option (List (Nat×Nat×Nat))} {lg:Nat} {K:Env Γ.St→Nat→Option ρ} {id:Nat} (h:zTb P G S ops d fz e lg K=some v):
  ∃e' n,qF P G (.region id ops d) e .normal e'∧Agree n e e'∧K e' (lg|||n)=some v:=by
 unfold zTb at h
 split at h
 ·exact zEI hmix hS h
 ·exact zEI hmix hS h
 ·obtain ⟨e1,n,h1,h2,h3⟩:=zEI hmix hS (id:=id) h
  obtain ⟨e2,g1,g2,g3⟩:=zOF (G:=G) _ _ h3
  refine ⟨e2,n,?_,h2.same (g1.mono (fun t _=>by simp)),g2⟩
  intro w0 F0 O0 a w hi
  exact wp_mono (h1 w0 F0 O0 a w hi) (fun ex a' w' hh=>⟨hh.1,g3 w0 F0 O0 a' w' hh.2⟩)
end
end Go.Ve

namespace Go.Ve
open Go
inductive Cell where
 |p (ty:Ty)
 |o (id:Nat) (ty:Ty)
inductive xZ where
 |t (i:Nat) (ty:Ty)
 |o (i id:Nat) (ty:Ty)
 |v (s:Nat) (cs:List Cell)
 |st
@[reducible] def Cell.El:Cell→Type
 | .p ty=>ty.El
 | .o _ ty=>List ty.El
@[reducible] def zLW:List Cell→Type
 |[]=>Unit
 |[c]=>c.El
 |c::c'::r=>c.El×zLW (c'::r)
@[reducible] def xZ.El (St:Type):xZ→Type
 | .t _ ty=>ty.El
 | .o _ _ ty=>List ty.El
 | .v _ cs=>zLW cs
 | .st=>St
@[reducible] def wM (St:Type):List xZ→Type
 |[]=>Unit
 |[c]=>c.El St
 |c::c'::r=>c.El St×wM St (c'::r)
def rdT (ty:Ty):T→Option ty.El
 | .p d=>ty.dec d
 | .emp=>ty.dec (.sl [])
 |_=>none
def rdO (id:Nat) (ty:Ty):T→Option (List ty.El)
 | .p (.val (.slice none 0 0))=>some []
 | .emp=>some []
 | .ot i t xs=>match Nat.beq i id with
  |true=>zHS t ty xs
  |false=>none
 |_=>none
def zM8:Nat→List T→Option (List V×List T)
 |0,r=>some ([],r)
 |n+1, .p d::r=>match zM8 n r with
  |some (ds,r')=>some (d::ds,r')
  |none=>none
 |_+1,_=>none
def zId:(c:Cell)→List T→Option (c.El×List T)
 | .p ty,ts=>match zM8 ty.size ts with
  |some (ds,r)=>match ty.uncells ds with
   |some (x,[])=>some (x,r)
   |_=>none
  |none=>none
 | .o id ty,x::r=>match rdO id ty x with
  |some xs=>some (xs,r)
  |none=>none
 | .o _ _,[]=>none
def zFr:(cs:List Cell)→List T→Option (zLW cs)
 |[],[]=>some ()
 |[],_::_=>none
 |[c],ts=>match zId c ts with
  |some (x,[])=>some x
  |_=>none
 |c::c'::r,ts=>match zId c ts with
  |some (x,ts')=>match zFr (c'::r) ts' with
   |some xs=>some (x,xs)
   |none=>none
  |none=>none
def zH1:(c:Cell)→c.El→List T
 | .p ty,x=>(ty.cells x).map .p
 | .o id ty,xs=>[.ot id ty xs]
def zFg:(cs:List Cell)→zLW cs→List T
 |[],_=>[]
 |[c],x=>zH1 c x
 |c::c'::r,x=>zH1 c x.1++zFg (c'::r) x.2
section
variable {St:Type}
def zGn (e:Env St):(s:xZ)→Option (s.El St)
 | .t i ty=>rdT ty (e.get i)
 | .o i id ty=>rdO id ty (e.get i)
 | .v s cs=>match e.var s with
  |some ts=>zFr cs ts
  |none=>none
 | .st=>some e.st
def rdS (e:Env St):(l:List xZ)→Option (wM St l)
 |[]=>some ()
 |[s]=>zGn e s
 |s::s'::r=>match zGn e s with
  |some x=>match rdS e (s'::r) with
   |some xs=>some (x,xs)
   |none=>none
  |none=>none
def zBO:(s:xZ)→s.El St→List (Nat×T)
 | .t i ty,x=>[(i, .p (ty.enc x))]
 | .o i id ty,xs=>[(i, .ot id ty xs)]
 | .v _ _,_=>[]
 | .st,_=>[]
def zCR:(s:xZ)→s.El St→List (Nat×List T)
 | .v s cs,x=>[(s,zFg cs x)]
 | .t _ _,_=>[]
 | .o _ _ _,_=>[]
 | .st,_=>[]
def tmS:(l:List xZ)→wM St l→List (Nat×T)
 |[],_=>[]
 |[s],x=>zBO s x
 |s::s'::r,x=>zBO s x.1++tmS (s'::r) x.2
def vS:(l:List xZ)→wM St l→List (Nat×List T)
 |[],_=>[]
 |[s],x=>zCR s x
 |s::s'::r,x=>zCR s x.1++vS (s'::r) x.2
def zH9:(s:xZ)→s.El St→Option St
 | .st,x=>some x
 | .t _ _,_=>none
 | .o _ _ _,_=>none
 | .v _ _,_=>none
def stS:(l:List xZ)→wM St l→Option St
 |[],_=>none
 |[s],x=>zH9 s x
 |s::s'::r,x=>match zH9 s x.1 with
  |some y=>some y
  |none=>stS (s'::r) x.2
def zUJ (x:Option St) (y:St):St:=
 match x with
 |some z=>z
 |none=>y
def zDd:List xZ→Bool
 |[]=>false
 | .st::_=>true
 | .t _ _::r=>zDd r
 | .o _ _ _::r=>zDd r
 | .v _ _::r=>zDd r
end
def zBq {α:Type} :List (Nat×α)→Nat→Option α
 |[],_=>none
 |(j,x)::r,i=>match Nat.beq j i with
  |true=>some x
  |false=>zBq r i
def zGY:List T→Bool
 |[]=>true
 | .p _::r=>zGY r
 |_=>false
def zKn (m i:Nat):Option (List T)→Option (List T)
 |some cs=>match Nat.testBit m (2*i)||Nat.testBit m (2*i+1)|| !zGY cs with
  |true=>none
  |false=>some cs
 |none=>none
def uG (m:Nat) (vs:List (Nat×List T)):Nat→List (Option (List T))→List (Option (List T))
 |_,[]=>[]
 |i,x::r=>(match zBq vs i with
  |some y=>some y
  |none=>zKn m i x)::uG m vs (i+1) r
def isVar (vars:List (Option (List T))) (s:Nat):Bool:=
 match vars[s]? with
 |some (some _)=>true
 |_=>false
def zLE (m:Nat) (vars:List (Option (List T))):T→T
 | .p d=> .p d
 | .lp s off=>match !Nat.testBit m (2*s)&&isVar vars s with
  |true=> .lp s off
  |false=> .dead
 |_=> .dead
def zEU (m:Nat) (ts:List (Nat×T)) (vars:List (Option (List T))):Nat→List T→List T
 |_,[]=>[]
 |i,x::r=>(match zBq ts i with
  |some y=>y
  |none=>match Nat.testBit m (2*i) with
   |true=> .dead
   |false=>zLE m vars x)::zEU m ts vars (i+1) r
structure JA where
 mask:Nat
 lps:List (Nat×Nat×Nat)
 sl:List xZ
def lpT (vars:List (Option (List T))) (s off:Nat):T:=
 match isVar vars s with
 |true=> .lp s off
 |false=> .dead
def zMp (vars:List (Option (List T))):List (Nat×Nat×Nat)→List (Nat×T)
 |[]=>[]
 |(i,s,off)::r=>(i,lpT vars s off)::zMp vars r
def zHB:List (Nat×Nat×Nat)→Nat
 |[]=>0
 |(i,_,_)::r=>2^(2*i)|||zHB r
def vM:List xZ→Nat
 |[]=>0
 | .t i _::r=>2^(2*i)|||vM r
 | .o i _ _::r=>2^(2*i)|||vM r
 | .v s _::r=>2^(2*s+1)|||vM r
 | .st::r=>vM r
def JA.bits (j:JA):Nat:=j.mask|||(zHB j.lps|||vM j.sl)
def zUr (s off:Nat):T→Bool
 | .lp s' off'=>Nat.beq s' s&&Nat.beq off' off
 |_=>false
section
variable {St:Type}
def zSG (e:Env St):List (Nat×Nat×Nat)→Bool
 |[]=>true
 |(i,s,off)::r=>zUr s off (e.get i)&&zSG e r
def rdJ (j:JA) (e:Env St):Option (wM St j.sl):=
 match zSG e j.lps with
 |true=>rdS e j.sl
 |false=>none
def qM (j:JA) (e:Env St) (s:wM St j.sl):Env St:=
 ⟨zEU j.bits (zMp (uG j.bits (vS j.sl s) 0 e.vars) j.lps++tmS j.sl s) (uG j.bits (vS j.sl s) 0 e.vars) 0 e.tm,uG j.bits (vS j.sl s) 0 e.vars,zUJ (stS j.sl s) e.st⟩
def uZ:List xZ→Nat→Bool
 |[],_=>false
 | .v s _::r,i=>Nat.beq s i||uZ r i
 | .t _ _::r,i=>uZ r i
 | .o _ _ _::r,i=>uZ r i
 | .st::r,i=>uZ r i
def zOM (j:JA) (e:Env St):Nat→List T→Bool
 |_,[]=>true
 |i, .lp s _::r=>(Nat.testBit j.bits (2*i)||Nat.testBit j.bits (2*s)||(uZ j.sl s&&(e.vars[s]?).isSome)||(zKn j.bits s (e.var s)).isSome)&&zOM j e (i+1) r
 |i,_::r=>zOM j e (i+1) r
def okJ (j:JA) (e:Env St):Bool:=zOM j e 0 e.tm
def zMA (j:JA) (e:Env St) (lg:Nat):Option (wM St j.sl):=
 match Nat.beq (lg|||j.bits) j.bits with
 |true=>rdJ j e
 |false=>none
end
def kB {σ ρ:Type} (m:Option (σ ⊕ ρ)) (K:σ→Option ρ):Option ρ:=
 match m with
 |none=>none
 |some (.inl s)=>K s
 |some (.inr r)=>some r
def zBW {σ ρ:Type} (f:σ→Option (σ ⊕ ρ)):Nat→σ→Option ρ
 |0,_=>none
 |n+1,s=>match f s with
  |none=>none
  |some (.inl s')=>zBW f n s'
  |some (.inr r)=>some r
open Classical in
noncomputable def zK {σ ρ:Type} (f:σ→Option (σ ⊕ ρ)) (s:σ):Option ρ:=
 if h: ∃n r,zBW f n s=some r then some (Classical.choose (Classical.choose_spec h)) else none
theorem zKp {σ ρ:Type} {f:σ→Option (σ ⊕ ρ)} : ∀ (n m:Nat) (s:σ) (r:ρ),n≤m→zBW f n s=some r→zBW f m s=some r:=by
 intro n
 induction n with
 |zero=>intro m s r _ h;simp [zBW] at h
 |succ n ih=>
  intro m s r hm h
  obtain ⟨m',rfl⟩: ∃m',m=m'+1:=⟨m-1,by omega⟩
  simp only [zBW] at h ⊢
  split at h
  ·cases h
  ·exact ih m' _ r (by omega) h
  ·exact h
theorem zFw {σ ρ:Type} {f:σ→Option (σ ⊕ ρ)} {s:σ} {r:ρ} :zK f s=some r↔ ∃n,zBW f n s=some r:=by
 unfold zK
 constructor
 ·intro h
  split at h
  ·rename_i hex
   simp only [Option.some.injEq] at h
   subst h
   exact ⟨_,Classical.choose_spec (Classical.choose_spec hex)⟩
  ·cases h
 ·rintro ⟨n,hn⟩
  have hex: ∃n r,zBW f n s=some r:=⟨n,r,hn⟩
  rw [dif_pos hex]
  have h1:=Classical.choose_spec (Classical.choose_spec hex)
  have h2:=zKp _ (max (Classical.choose hex) n) s _ (by omega) h1
  have h3:=zKp _ (max (Classical.choose hex) n) s _ (by omega) hn
  rw [h2] at h3
  exact h3
theorem zNG {σ ρ:Type} (f:σ→Option (σ ⊕ ρ)) (s:σ):zK f s=match f s with
  |none=>none
  |some (.inl s')=>zK f s'
  |some (.inr r)=>some r:=by
 have key: ∀r,zK f s=some r↔(match f s with
  |none=>none
  |some (.inl s')=>zK f s'
  |some (.inr r)=>some r)=some r:=by
  intro r
  rw [zFw]
  constructor
  ·rintro ⟨n,hn⟩
   cases n with
   |zero=>simp [zBW] at hn
   |succ n=>
    simp only [zBW] at hn
    split at hn
    ·cases hn
    ·exact zFw.2 ⟨n,hn⟩
    ·exact hn
  ·intro h
   split at h
   ·cases h
   ·obtain ⟨n,hn⟩:=zFw.1 h
    rename_i s' hs
    exact ⟨n+1,by simp only [zBW,hs];exact hn⟩
   ·rename_i r' hs
    exact ⟨1,by simp only [zBW,hs];exact h⟩
 cases hl:zK f s with
 |some r=>exact ((key r).1 hl).symm
 |none=>
  generalize hm:(match f s with
   |none=>none
   |some (.inl s')=>zK f s'
   |some (.inr r)=>some r)=m at key ⊢
  cases m with
  |none=>rfl
  |some r=>rw [(key r).2 rfl] at hl;cases hl
theorem zQy {σ ρ:Type} {f:σ→Option (σ ⊕ ρ)} (J:σ→Prop) (m:σ→Nat) (Q:ρ→Prop)
  (step: ∀s,J s→ ∃o,f s=some o∧match o with
   | .inl s'=>J s'∧m s'<m s
   | .inr r=>Q r) {s:σ} (h:J s): ∃r,zK f s=some r∧Q r:=by
 have key: ∀ (n:Nat) (s:σ),m s=n→J s→ ∃r,zK f s=some r∧Q r:=by
  intro n
  induction n using Nat.strongRecOn with
  |_ n ih=>
   intro s hs hj
   obtain ⟨o,ho,h1⟩:=step s hj
   rw [zNG,ho]
   cases o with
   |inl s'=>exact ih _ (by rw [←hs];exact h1.2) s' rfl h1.1
   |inr r=>exact ⟨r,rfl,h1⟩
 exact key _ s rfl h
def zGz:List Nat→Code→Bool
 |ids, .exit id=>ids.any (Nat.beq id)
 |_, .ret=>false
 |ids, .seq a b=>zGz ids a&&zGz ids b
 |ids, .cond _ a b=>zGz ids a&&zGz ids b
 |ids, .block id a=>zGz (id::ids) a
 |ids, .loop a=>zGz ids a
 |_,_=>true
section
variable {Γ:Sig} (P:qQ) (G:Nat→Option (List V)) (S:zM Γ) (A:Nat→Option JA)
def zG8 {ρ:Type} (body:(X→Env Γ.St→Nat→Option ρ)→Env Γ.St→Nat→Option ρ) (K:X→Env Γ.St→Nat→Option ρ):Nat→Env Γ.St→Nat→Option ρ
 |0,_,_=>none
 |n+1,e,lg=>body (fun k e1 lg1=>match k with
  | .normal=>zG8 body K n e1 lg1
  |k=>K k e1 lg1) e lg
def zTm (t:Nat) (c:Code):Option JA:=
 match keyOf c with
 |some k=>A (4*k+t)
 |none=>none
noncomputable def exC:Code→(ρ:Type)→(X→Env Γ.St→Nat→Option ρ)→Env Γ.St→Nat→Option ρ
 | .skip,_,K,e,lg=>K .normal e lg
 | .seq x y,ρ,K,e,lg=>match zTm A 0 y with
  |some j=>match zGz [] x with
   |true=>zFV (okJ j e) (Option.bind (exC x (wM Γ.St j.sl) (fun k e1 lg1=>match k with
     | .normal=>zMA j e1 lg1
     |_=>none) e 0) (fun s=>zBV (qM j e s) (fun e1=>exC y ρ K e1 (lg|||j.bits))))
   |false=>zFV (okJ j e) (kB (exC x (wM Γ.St j.sl ⊕ ρ) (fun k e1 lg1=>match k with
     | .normal=>(zMA j e1 lg1).map .inl
     |k=>(K k e1 (lg|||lg1)).map .inr) e 0) (fun s=>zBV (qM j e s) (fun e1=>exC y ρ K e1 (lg|||j.bits))))
  |none=>exC x ρ (fun k e1 lg1=>match k with
   | .normal=>exC y ρ K e1 lg1
   |k=>K k e1 lg1) e lg
 | .cond c x y,ρ,K,e,lg=>match evx G e c with
  | .p (.val (.bool b))=>cond b (exC x ρ K e lg) (exC y ρ K e lg)
  |_=>none
 | .block id c,ρ,K,e,lg=>exC c ρ (fun k e1 lg1=>K (k.out id) e1 lg1) e lg
 | .loop c,ρ,K,e,lg=>match zTm A 1 c with
  |some j=>zFV (okJ j e) (Option.bind (rdJ j e) (fun s0=>zK (fun s=>zBV (qM j e s) (fun e0=>exC c (wM Γ.St j.sl ⊕ ρ) (fun k e1 lg1=>match k with
    | .normal=>(zMA j e1 lg1).map .inl
    |k=>(K k e1 (lg|||(j.bits|||lg1))).map .inr) e0 0)) s0))
  |none=>zG8 (exC c ρ) K 80 e lg
 | .exit id,_,K,e,lg=>K (.exit id) e lg
 | .ret,_,K,e,lg=>K .ret e lg
 | .region id ops d,_,K,e,lg=>match A (4*id+2) with
  |some j=>zFV (okJ j e) (Option.bind (zTb P G S ops d ((A (4*id+3)).map (·.lps)) e 0 (fun e1 lg1=>zMA j e1 lg1)) (fun s=>zBV (qM j e s) (fun e1=>K .normal e1 (lg|||j.bits))))
  |none=>zTb P G S ops d ((A (4*id+3)).map (·.lps)) e lg (fun e1 lg1=>K .normal e1 lg1)
 |_,_,_,_,_=>none
end
theorem zM7: ∀ (n:Nat) (ts:List T) (ds:List V) (r:List T),zM8 n ts=some (ds,r)→ts=ds.map .p++r∧ds.length=n:=by
 intro n
 induction n with
 |zero=>intro ts ds r h;simp only [zM8,Option.some.injEq,Prod.mk.injEq] at h;obtain ⟨rfl,rfl⟩:=h;exact ⟨rfl,rfl⟩
 |succ n ih=>
  intro ts ds r h
  unfold zM8 at h
  split at h
  ·rename_i heq;cases heq
  ·rename_i m d r0 heq
   cases heq
   split at h
   ·rename_i ds' r' hr
    simp only [Option.some.injEq,Prod.mk.injEq] at h
    obtain ⟨rfl,rfl⟩:=h
    obtain ⟨h1,h2⟩:=ih _ _ _ hr
    exact ⟨by rw [h1];rfl,by simp [h2]⟩
   ·cases h
  ·cases h
theorem yF.append: ∀ {xs ys xs' ys':List T},yF xs ys→yF xs' ys'→yF (xs++xs') (ys++ys')
 |[],[],_,_,_,h=>h
 |_::_,_::_,_,_,h,h'=>⟨h.1,yF.append h.2 h'⟩
 |[],_::_,_,_,h,_=>h.elim
 |_::_,[],_,_,h,_=>h.elim
theorem yF.ofV: ∀ {xs ys:List V},wB xs ys→yF (xs.map .p) (ys.map .p)
 |[],[],_=>trivial
 |_::_,_::_,h=>⟨fun w F _ _ v hr=>h.1 w F v hr,yF.ofV h.2⟩
 |[],_::_,h=>h.elim
 |_::_,[],h=>h.elim
theorem zQq {ty:Ty} {x:T} {a:ty.El} (h:rdT ty x=some a):WkT x (.p (ty.enc a)):=by
 unfold rdT at h
 split at h
 ·exact fun w F _ _ v hr=>xU h w F v hr
 ·intro w F β al v hr
  obtain ⟨ad,rfl⟩:=hr
  exact xU h w F _ (.slemp ad 0)
 ·cases h
theorem zBc {t t':Ty} {xs:List t.El} {ys:List t'.El} (h:zHS t t' xs=some ys):zNS t t' xs ys:=by
 simp only [zNS,h]
theorem zLt {id:Nat} {ty:Ty} {x:T} {xs:List ty.El} (h:rdO id ty x=some xs):WkT x (.ot id ty xs):=by
 unfold rdO at h
 split at h
 ·simp only [Option.some.injEq] at h;subst h
  exact fun w F β al v hh=> .inl ⟨rfl,none,Rd.eq_val hh⟩
 ·simp only [Option.some.injEq] at h;subst h
  exact fun w F β al v hh=> .inl ⟨rfl,hh⟩
 ·rename_i i t ys
  split at h
  ·rename_i hb
   have hi:=Nat.eq_of_beq_eq_true hb
   subst hi
   obtain ⟨ht,h⟩:=zAJ (zBc h)
   subst ht
   subst h
   exact .refl _
  ·cases h
 ·cases h
theorem zHp: ∀ {c:Cell} {ts r:List T} {x:c.El},zId c ts=some (x,r)→ ∃ts1,ts=ts1++r∧yF ts1 (zH1 c x)
 | .p ty,ts,r,x,h=>by
  simp only [zId] at h
  split at h
  ·rename_i ds r' hr
   split at h
   ·rename_i y hy
    simp only [Option.some.injEq,Prod.mk.injEq] at h
    obtain ⟨rfl,rfl⟩:=h
    obtain ⟨h1,h2⟩:=zM7 _ _ _ _ hr
    obtain ⟨cs1,h3,h4⟩:=vY _ _ _ _ hy
    rw [List.append_nil] at h3
    subst h3
    exact ⟨_,h1,yF.ofV h4⟩
   ·cases h
  ·cases h
 | .o id ty,y::ts,r,x,h=>by
  simp only [zId] at h
  split at h
  ·rename_i xs hx
   simp only [Option.some.injEq,Prod.mk.injEq] at h
   obtain ⟨rfl,rfl⟩:=h
   exact ⟨[y],rfl,zLt hx,trivial⟩
  ·cases h
 | .o _ _,[],_,_,h=>by simp [zId] at h
theorem zF3: ∀ (cs:List Cell) (ts:List T) (x:zLW cs),zFr cs ts=some x→yF ts (zFg cs x)
 |[],[],_,_=>trivial
 |[],_::_,_,h=>by simp [zFr] at h
 |[c],ts,x,h=>by
  simp only [zFr] at h
  split at h
  ·rename_i y hy
   simp only [Option.some.injEq] at h
   subst h
   obtain ⟨ts1,h1,h2⟩:=zHp hy
   rw [List.append_nil] at h1
   subst h1
   exact h2
  ·cases h
 |c::c'::r,ts,x,h=>by
  simp only [zFr] at h
  split at h
  ·rename_i y ts' hy
   split at h
   ·rename_i ys hys
    simp only [Option.some.injEq] at h
    subst h
    obtain ⟨ts1,h1,h2⟩:=zHp hy
    subst h1
    exact h2.append (zF3 (c'::r) ts' ys hys)
   ·cases h
  ·cases h
section
variable {St:Type} {e e1:Env St}
theorem zLs {s:xZ} {x:s.El St} (h:zGn e s=some x): ∀i y,(i,y)∈zBO s x→WkT (e.get i) y:=by
 intro i y hy
 cases s with
 |t j ty=>
  simp only [zBO,List.mem_singleton,Prod.mk.injEq] at hy
  obtain ⟨rfl,rfl⟩:=hy
  exact zQq h
 |o j id ty=>
  simp only [zBO,List.mem_singleton,Prod.mk.injEq] at hy
  obtain ⟨rfl,rfl⟩:=hy
  exact zLt h
 |v s cs=>simp [zBO] at hy
 |st=>simp [zBO] at hy
theorem zNu {s:xZ} {x:s.El St} (h:zGn e s=some x): ∀i cs2,(i,cs2)∈zCR s x→ ∃cs,e.var i=some cs∧yF cs cs2:=by
 intro i y hy
 cases s with
 |t j ty=>simp [zCR] at hy
 |o j id ty=>simp [zCR] at hy
 |st=>simp [zCR] at hy
 |v s cs=>
  simp only [zCR,List.mem_singleton,Prod.mk.injEq] at hy
  obtain ⟨rfl,rfl⟩:=hy
  simp only [zGn] at h
  split at h
  ·rename_i ts hts
   exact ⟨ts,hts,zF3 _ _ _ h⟩
  ·cases h
theorem zRL: ∀ {l:List xZ} {x:wM St l},rdS e l=some x→ ∀i y,(i,y)∈tmS l x→WkT (e.get i) y
 |[],_,_,i,y,hy=>by simp [tmS] at hy
 |[s],x,h,i,y,hy=>zLs (s:=s) h i y hy
 |s::s'::r,x,h,i,y,hy=>by
  simp only [rdS] at h
  split at h
  ·rename_i a ha
   split at h
   ·rename_i as has
    simp only [Option.some.injEq] at h
    subst h
    simp only [tmS,List.mem_append] at hy
    rcases hy with hy|hy
    ·exact zLs ha i y hy
    ·exact zRL has i y hy
   ·cases h
  ·cases h
theorem zTV: ∀ {l:List xZ} {x:wM St l},rdS e l=some x→ ∀i cs2,(i,cs2)∈vS l x→ ∃cs,e.var i=some cs∧yF cs cs2
 |[],_,_,i,y,hy=>by simp [vS] at hy
 |[s],x,h,i,y,hy=>zNu (s:=s) h i y hy
 |s::s'::r,x,h,i,y,hy=>by
  simp only [rdS] at h
  split at h
  ·rename_i a ha
   split at h
   ·rename_i as has
    simp only [Option.some.injEq] at h
    subst h
    simp only [vS,List.mem_append] at hy
    rcases hy with hy|hy
    ·exact zNu ha i y hy
    ·exact zTV has i y hy
   ·cases h
  ·cases h
theorem zRM: ∀ {l:List xZ} {x:wM St l},rdS e l=some x→ ∀y,stS l x=some y→y=e.st
 |[],_,_,y,hy=>by simp [stS] at hy
 |[s],x,h,y,hy=>by
  cases s<;>simp [stS,zH9] at hy
  simp only [rdS,zGn,Option.some.injEq] at h
  rw [←hy, ←h]
 |s::s'::r,x,h,y,hy=>by
  simp only [rdS] at h
  split at h
  ·rename_i a ha
   split at h
   ·rename_i as has
    simp only [Option.some.injEq] at h
    subst h
    simp only [stS] at hy
    split at hy
    ·rename_i z hz
     cases s<;>simp [zH9] at hz
     simp only [zGn,Option.some.injEq] at ha
     simp only [Option.some.injEq] at hy
     rw [←hy, ←hz, ←ha]
    ·exact zRM has y hy
   ·cases h
  ·cases h
theorem zNc: ∀ {l:List xZ} (x:wM St l),zDd l=true→ ∃y,stS l x=some y
 |[],_,h=>by simp [zDd] at h
 |[s],x,h=>by
  cases s<;>simp [zDd] at h
  exact ⟨x,rfl⟩
 |s::s'::r,x,h=>by
  simp only [stS]
  cases hs:zH9 s x.1 with
  |some y=>exact ⟨y,rfl⟩
  |none=>
   have h':zDd (s'::r)=true:=by
    cases s<;>simp only [zDd] at h ⊢ <;>first|exact h|simp [zH9] at hs
   obtain ⟨y,hy⟩:=zNc (l:=s'::r) x.2 h'
   exact ⟨y,hy⟩
theorem zDb {α:Type} : ∀ {l:List (Nat×α)} {i:Nat} {x:α},zBq l i=some x→(i,x)∈l
 |[],_,_,h=>by simp [zBq] at h
 |(j,y)::r,i,x,h=>by
  simp only [zBq] at h
  split at h
  ·rename_i hb
   have:=Nat.eq_of_beq_eq_true hb
   subst this
   simp only [Option.some.injEq] at h
   subst h
   exact List.mem_cons_self
  ·exact List.mem_cons_of_mem _ (zDb h)
theorem zBA (m:Nat) (vs:List (Nat×List T)): ∀ (l:List (Option (List T))) (n i:Nat),(uG m vs n l)[i]? =(l[i]?).map (fun x=>match zBq vs (n+i) with
  |some y=>some y
  |none=>zKn m (n+i) x)
 |[],n,i=>by simp [uG]
 |x::r,n,i=>by
  cases i with
  |zero=>simp [uG]
  |succ i=>simp only [uG,List.getElem?_cons_succ];rw [zBA m vs r (n+1) i];rw [show n+1+i=n+(i+1) by omega]
theorem zGC (m:Nat) (ts:List (Nat×T)) (vars:List (Option (List T))): ∀ (l:List T) (n i:Nat),(zEU m ts vars n l)[i]? =(l[i]?).map (fun x=>match zBq ts (n+i) with
  |some y=>y
  |none=>match Nat.testBit m (2*(n+i)) with
   |true=> .dead
   |false=>zLE m vars x)
 |[],n,i=>by simp [zEU]
 |x::r,n,i=>by
  cases i with
  |zero=>simp [zEU]
  |succ i=>simp only [zEU,List.getElem?_cons_succ];rw [zGC m ts vars r (n+1) i];rw [show n+1+i=n+(i+1) by omega]
theorem zHD (m:Nat) (vs:List (Nat×List T)): ∀ (l:List (Option (List T))) (n:Nat),(uG m vs n l).length=l.length
 |[],_=>rfl
 |_::r,n=>by simp [uG,zHD m vs r (n+1)]
theorem zKo (m:Nat) (ts:List (Nat×T)) (vars:List (Option (List T))): ∀ (l:List T) (n:Nat),(zEU m ts vars n l).length=l.length
 |[],_=>rfl
 |_::r,n=>by simp [zEU,zKo m ts vars r (n+1)]
theorem zQb: ∀ {cs:List T},zGY cs=true→ ∃ds:List V,cs=ds.map .p
 |[],_=>⟨[],rfl⟩
 | .p d::r,h=>by
  obtain ⟨ds,hds⟩:=zQb (cs:=r) h
  exact ⟨d::ds,by rw [hds];rfl⟩
 | .ow _ _ _::_,h=>by simp [zGY] at h
 | .oe _ _ _ _ _::_,h=>by simp [zGY] at h
 | .lp _ _::_,h=>by simp [zGY] at h
 | .mp _ _ _::_,h=>by simp [zGY] at h
 | .ot _ _ _::_,h=>by simp [zGY] at h
 | .oet _ _ _ _ _::_,h=>by simp [zGY] at h
 | .ov _ _ _ _ _::_,h=>by simp [zGY] at h
 | .on _::_,h=>by simp [zGY] at h
 | .emp::_,h=>by simp [zGY] at h
 | .dead::_,h=>by simp [zGY] at h
theorem zKm {m i:Nat} {x:Option (List T)} {cs:List T} (h:zKn m i x=some cs):x=some cs∧m.testBit (2*i)=false∧m.testBit (2*i+1)=false∧ ∃ds:List V,cs=ds.map .p:=by
 unfold zKn at h
 split at h
 ·split at h
  ·cases h
  ·rename_i hb
   simp only [Bool.or_eq_false_iff,Bool.not_eq_false'] at hb
   simp only [Option.some.injEq] at h
   subst h
   exact ⟨rfl,hb.1.1,hb.1.2,zQb hb.2⟩
 ·cases h
theorem zDp {s:Nat} {cs:List T} (h:e.vars[s]? =some (some cs)):e.var s=some cs:=by simp [Env.var,h]
theorem zGG {s:Nat} {cs:List T} (h:e.var s=some cs):e.vars[s]? =some (some cs):=by
 simp only [Env.var] at h
 cases hs:e.vars[s]? with
 |none=>rw [hs] at h;cases h
 |some x=>rw [hs] at h;simp only [Option.getD_some] at h;rw [h]
theorem zLG {j:JA} {s:wM St j.sl} {i:Nat} {cs2:List T} (h:(qM j e s).var i=some cs2):
  (i,cs2)∈vS j.sl s∨(e.var i=some cs2∧j.bits.testBit (2*i)=false∧j.bits.testBit (2*i+1)=false∧ ∃ds:List V,cs2=ds.map .p):=by
 have h1:=zGG h
 simp only [qM] at h1
 rw [zBA] at h1
 simp only [Option.map_eq_some_iff,Nat.zero_add] at h1
 obtain ⟨x,hx,h2⟩:=h1
 split at h2
 ·rename_i y hy
  simp only [Option.some.injEq] at h2
  subst h2
  exact .inl (zDb hy)
 ·obtain ⟨rfl,h3,h4,h5⟩:=zKm h2
  exact .inr ⟨zDp hx,h3,h4,h5⟩
theorem zKj {vars:List (Option (List T))} : ∀ {l:List (Nat×Nat×Nat)} {i:Nat} {y:T},(i,y)∈zMp vars l→ ∃s off,(i,s,off)∈l∧y=lpT vars s off
 |[],_,_,h=>by simp [zMp] at h
 |(j,s,off)::r,i,y,h=>by
  simp only [zMp,List.mem_cons,Prod.mk.injEq] at h
  rcases h with ⟨rfl,rfl⟩|h
  ·exact ⟨s,off,List.mem_cons_self,rfl⟩
  ·obtain ⟨s',off',h1,h2⟩:=zKj h
   exact ⟨s',off',List.mem_cons_of_mem _ h1,h2⟩
theorem zTp {s off:Nat} {x:T} (h:zUr s off x=true):x= .lp s off:=by
 unfold zUr at h
 split at h
 ·simp only [Bool.and_eq_true] at h
  rw [Nat.eq_of_beq_eq_true h.1,Nat.eq_of_beq_eq_true h.2]
 ·cases h
theorem zN5: ∀ {l:List (Nat×Nat×Nat)},zSG e l=true→ ∀i s off,(i,s,off)∈l→e.get i= .lp s off
 |[],_,_,_,_,h=>by simp at h
 |(j,s0,off0)::r,h,i,s,off,hm=>by
  simp only [zSG,Bool.and_eq_true] at h
  simp only [List.mem_cons,Prod.mk.injEq] at hm
  rcases hm with ⟨rfl,rfl,rfl⟩|hm
  ·exact zTp h.1
  ·exact zN5 h.2 i s off hm
theorem zQx (vars:List (Option (List T))) (s off:Nat):lpT vars s off= .dead∨(lpT vars s off= .lp s off∧isVar vars s=true):=by
 unfold lpT
 split
 ·rename_i h;exact .inr ⟨rfl,h⟩
 ·exact .inl rfl
theorem zQA {j:JA} {s:wM St j.sl} {i:Nat} (hi:i<e.tm.length):
  (∃y,(i,y)∈zMp (qM j e s).vars j.lps++tmS j.sl s∧(qM j e s).get i=y)∨
   ((qM j e s).get i= .dead)∨(j.bits.testBit (2*i)=false∧(qM j e s).get i=zLE j.bits (qM j e s).vars (e.get i)):=by
 have h1:(qM j e s).tm[i]? =_:=zGC j.bits (zMp (qM j e s).vars j.lps++tmS j.sl s) (qM j e s).vars e.tm 0 i
 rw [List.getElem?_eq_getElem hi,Option.map_some,Nat.zero_add] at h1
 have hg:(qM j e s).get i=((qM j e s).tm[i]?).getD .dead:=by simp [Env.get,List.getD_eq_getElem?_getD]
 have he:e.get i=e.tm[i]:=by simp [Env.get,hi]
 rw [hg,h1,he]
 simp only [Option.getD_some]
 split
 ·rename_i y hy
  exact .inl ⟨y,zDb hy,rfl⟩
 ·split
  ·exact .inr (.inl rfl)
  ·rename_i hb
   exact .inr (.inr ⟨hb,rfl⟩)
theorem zFB {j:JA} {s:wM St j.sl} :(qM j e s).tm.length=e.tm.length∧(qM j e s).vars.length=e.vars.length:=
 ⟨zKo _ _ _ _ _,zHD _ _ _ _⟩
theorem zSd {i:Nat} (h:e.tm.length≤i):e.get i= .dead:=by simp [Env.get,List.getD_eq_getElem?_getD,h]
theorem zIs {s:Nat} :isVar e.vars s=true↔ ∃cs,e.var s=some cs:=by
 unfold isVar
 constructor
 ·intro h
  split at h
  ·rename_i cs hcs;exact ⟨cs,zDp hcs⟩
  ·cases h
 ·rintro ⟨cs,hcs⟩
  rw [zGG hcs]
end
theorem zQa {St:Type} {l:List xZ} {x:wM St l} : ∀ {i:Nat} {y:T},(i,y)∈tmS l x→(vM l).testBit (2*i)=true:=by
 match l,x with
 |[],_=>intro i y h;simp [tmS] at h
 |[s],x=>
  intro i y h
  cases s<;>simp only [tmS,zBO,List.mem_singleton,Prod.mk.injEq,List.not_mem_nil] at h
  all_goals
   obtain ⟨rfl,_⟩:=h
   simp [vM,Nat.testBit_two_pow]
 |s::s'::r,x=>
  intro i y h
  simp only [tmS,List.mem_append] at h
  rcases h with h|h
  ·cases s<;>simp only [zBO,List.mem_singleton,Prod.mk.injEq,List.not_mem_nil] at h
   all_goals
    obtain ⟨rfl,_⟩:=h
    simp [vM,Nat.testBit_two_pow,Nat.testBit_or]
  ·have:=zQa (l:=s'::r) (x:=x.2) h
   cases s<;>simp [vM,Nat.testBit_or] at this ⊢ <;>first|exact .inr this|exact this
theorem zSJ {St:Type} {l:List xZ} {x:wM St l} : ∀ {i:Nat} {y:List T},(i,y)∈vS l x→(vM l).testBit (2*i+1)=true:=by
 match l,x with
 |[],_=>intro i y h;simp [vS] at h
 |[s],x=>
  intro i y h
  cases s<;>simp only [vS,zCR,List.mem_singleton,Prod.mk.injEq,List.not_mem_nil] at h
  all_goals
   obtain ⟨rfl,_⟩:=h
   simp [vM,Nat.testBit_two_pow]
 |s::s'::r,x=>
  intro i y h
  simp only [vS,List.mem_append] at h
  rcases h with h|h
  ·cases s<;>simp only [zCR,List.mem_singleton,Prod.mk.injEq,List.not_mem_nil] at h
   all_goals
    obtain ⟨rfl,_⟩:=h
    simp [vM,Nat.testBit_two_pow,Nat.testBit_or]
  ·have:=zSJ (l:=s'::r) (x:=x.2) h
   cases s<;>simp [vM,Nat.testBit_or] at this ⊢ <;>first|exact .inr this|exact this
theorem zL8 {St:Type} : ∀ {l:List xZ} {x:wM St l} {i:Nat},uZ l i=true→ ∃cs,zBq (vS l x) i=some cs:=by
 have app: ∀ {a b:List (Nat×List T)} {i:Nat},((∃cs,zBq a i=some cs)∨ ∃cs,zBq b i=some cs)→ ∃cs,zBq (a++b) i=some cs:=by
  intro a b i h
  induction a with
  |nil=>
   rcases h with ⟨cs,h⟩|h
   ·simp [zBq] at h
   ·exact h
  |cons x a ih=>
   obtain ⟨k,y⟩:=x
   simp only [List.cons_append,zBq] at h ⊢
   split
   ·exact ⟨_,rfl⟩
   ·rename_i hb
    simp only [hb] at h
    exact ih h
 have one: ∀ {s:xZ} {x:s.El St} {i:Nat},uZ [s] i=true→ ∃cs,zBq (zCR s x) i=some cs:=by
  intro s x i h
  cases s<;>simp only [uZ,Bool.or_false,Bool.false_eq_true] at h
  simp only [zCR,zBq,h]
  exact ⟨_,rfl⟩
 intro l
 induction l with
 |nil=>intro x i h;simp [uZ] at h
 |cons s r ih=>
  intro x i h
  cases r with
  |nil=>exact one (s:=s) (x:=x) h
  |cons s' r=>
   have h2:uZ [s] i=true∨uZ (s'::r) i=true:=by
    cases s<;>simp only [uZ,Bool.or_eq_true,Bool.or_false] at h ⊢
    ·exact .inr h
    ·exact .inr h
    ·exact h
    ·exact .inr h
   simp only [vS]
   rcases h2 with h2|h2
   ·exact app (.inl (one h2))
   ·exact app (.inr (ih h2))
theorem zN8: ∀ {l:List (Nat×Nat×Nat)} {i s off:Nat},(i,s,off)∈l→(zHB l).testBit (2*i)=true
 |[],_,_,_,h=>by simp at h
 |(j,s0,off0)::r,i,s,off,h=>by
  simp only [List.mem_cons,Prod.mk.injEq] at h
  simp only [zHB,Nat.testBit_or,Bool.or_eq_true,Nat.testBit_two_pow,decide_eq_true_eq]
  rcases h with ⟨rfl,_⟩|h
  ·exact .inl rfl
  ·exact .inr (zN8 h)
end Go.Ve

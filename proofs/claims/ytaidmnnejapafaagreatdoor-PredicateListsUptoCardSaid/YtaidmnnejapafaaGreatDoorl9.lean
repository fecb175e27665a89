/-
  Functions out of code, part 3: regions.
  Functions out of code, part 4: joins, loops, statements.
-/
import Derived.Test.YtaidmnnejapafaaGreatDoorl8
set_option linter.unusedVariables false
namespace Go.Ve
open Go
section
variable {Γ:Sig} {ρ:Type} (P:qK) (G:Nat→Option (List V)) (S:zL Γ)
def zNd (e:Env Γ.St) (dst:Option Tmp) (c:Call):Option (Kex Γ ρ):=
 match c.callee,c.args.toList,c.argTypes.toList,dst with
 | .builtin .append,[.tmp p,x1],[t0,t1],some d=>
  match e.get p with
  | .ov id t' xs 0 hi=>match P.und t0,P.und t1 with
   |some (.slice el),some (.slice _)=>match P.inf el with
    |some info=>match info.zero,zNt (evx G e x1) with
     |some z,some ⟨t,y::ys⟩=>
      if zRk p x1=false then none else
      if h:t'=t then
       if t.size=info.size∧1≤info.bytes∧zIy z=info.size∧id≠qA then
        some (fun K=>Option.bind (app info.bytes (List.take hi (h▸xs)) (y::ys)) fun zs=>K { (e.kill id) with tm:=(e.kill id).tm.set d (.ot id t zs) })
       else none
      else none
     |_,_=>none
    |none=>none
   |_,_=>none
  |_=>none
 |_,_,_,_=>none
def wX (e:Env Γ.St) (o:Oper):Option (Kex Γ ρ):=
 match o.op with
 | .store t ap x=>match o.dst with
  |some _=>none
  |none=>match evx G e ap,evx G e x with
   | .oet id ty xs i off, .p d=>
    if z9 P t=some d.cells.length∧off+d.cells.length≤ty.size∧d.cells.all V.one=true∧(ty.aggT=false→d.cells.length=1∧ty.size=1) then
     some (fun K=>Option.bind (atN xs i) fun y=>match zKu ty y off d with
      |some z=>K (e.mapT (zDp id ty i z))
      |none=>none)
    else none
   | .oet id ty _ i off, .ot id2 t2 ys=>match ty with
    | .sl t3=>if t3=t2∧off=0∧z9 P t=some 1∧id=zRi∧id≠id2 then some (fun K=>zE1 (!ys.isEmpty) (K (e.mapT (zNl id id2 t2 i ys)))) else none
    |_=>none
   | .on ⟨id,id2,ty,_,_,ys, .q k off⟩, .p d=>
    if z9 P t=some d.cells.length∧off+d.cells.length≤ty.size∧d.cells.all V.one=true∧(ty.aggT=false→d.cells.length=1∧ty.size=1)∧id≠id2∧id≠qA∧id2≠qA then
     some (fun K=>Option.bind (atN ys k) fun y=>match zKu ty y off d with
      |some z=>K (e.mapT (zNm id id2 ty k z))
      |none=>none)
    else none
   |_,_=>none
 | .call c=>match zNd P G e o.dst c with
  |some q=>some q
  |none=>match c.callee,c.args.toList,c.argTypes.toList,o.dst with
  | .builtin .append,[x0,x1],[t0,t1],some d=>match P.und t0,P.und t1 with
   |some (.slice el),some (.slice _)=>match P.inf el with
    |some info=>match info.zero,zNt (evx G e x1) with
     |some z,some ⟨t,ys⟩=>match zMS t (evx G e x0) with
      |some (nm,xs)=>
       if t.size=info.size∧1≤info.bytes∧zIy z=info.size∧nm.getD d≠qA then
        some (fun K=>Option.bind (app info.bytes xs ys) fun zs=>
         K { (e.kill (nm.getD d)) with tm:=(e.kill (nm.getD d)).tm.set d (.ot (nm.getD d) t zs) })
       else none
      |none=>none
     |_,_=>none
    |none=>none
   |_,_=>none
  |_,_,_,_=>none
 |_=>none
def wXs (e:Env Γ.St) (o:Oper):Option (Kex Γ ρ):=
 match wX P G e o with
 |some q=>some q
 |none=>match evW P G e o with
  |some e1=>some (fun K=>K e1)
  |none=>none
def zFo (e:Env Γ.St) (o:Oper):Option (Kex Γ ρ):=
 match qXs P G S e o with
 |some q=>some (fun K=>q (fun r=>match kB e o.dst r with
  |some e1=>K e1
  |none=>none))
 |none=>wXs P G e o
def zT5 (e:Env Γ.St) (o:Oper):Option (Kex Γ ρ):=
 match o.op with
 | .call c=>match c.callee,c.args.toList with
  | .value f, .tmp p::xs=>match evx G e f,e.get p,vU G e xs with
   | .p (.clo g []), .ot id t ys,some ds=>match S g e.st (.bot:: .tl t ys::ds) with
    |some cx=>match cx.pl with
     |false=>some (fun K=>zE1 (zR3 (zFa id p ys.length 0 e.tm)) (Option.bind cx.m fun y=>match cx.res y with
      | .p (.tup [.tl _ _, .bot])=>none
      | .p (.tup [.tl t' zs,d])=>if h:t'=t then K (zQ6 e id p t (h▸zs) (cx.st y) o.dst d) else none
      |_=>none))
     |true=>match Nat.beq id qA with
      |true=>none
      |false=>some (fun K=>Option.bind cx.m fun y=>match cx.res y with
       | .p (.tup [.tl t' zs, .bot])=>if h:t'=t then K (zQ5 e id t (h▸zs) (cx.st y) o.dst) else none
       |_=>none)
    |none=>none
   |_,_,_=>none
  |_,_=>none
 |_=>none
def zUi (tys:List TypeId) (k:Nat):Option Ty:=
 match tys[k]? with
 |some tp=>match P.und tp with
  |some (.pointer el)=>P.ty el
  |_=>none
 |none=>none
def zTF (e:Env Γ.St) (o:Oper):Option (Kex Γ ρ):=
 match o.op with
 | .call c=>match c.callee with
  | .value f=>match evx G e f,zFm G e c.args.toList with
   | .p (.clo g []),some (k,s,xs)=>match vU G e xs,e.var s,zUi P c.argTypes.toList k with
    |some ds,some cs,some t=>match zFr cs with
     |some vs=>match t.dec (.agg vs) with
      |some y=>match S g e.st (.bot:: .tl t [y]:: .bot:: .val (.int .i64 (k:Int))::ds) with
       |some cx=>match cx.pl with
        |false=>some (fun K=>Option.bind cx.m fun u=>match cx.res u with
         | .p (.tup [.tl t' [z],d])=>if h:t'=t then K (zQ4 e s t (h▸z) (cx.st u) o.dst d) else none
         |_=>none)
        |true=>none
       |none=>none
      |none=>none
     |none=>none
    |_,_,_=>none
   |_,_=>none
  |_=>none
 |_=>none
def zUq:Option (Nat×Nat×List Operand)→Nat
 |some (_,s,_)=>2^(2*s+1)
 |none=>0
def zFj (e:Env Γ.St) (o:Oper):Nat:=
 qV G e o|||match o.op with
 | .call c=>zUq (zFm G e c.args.toList)
 |_=>0
def zK8 (e:Env Γ.St) (o:Oper):Option (Kex Γ ρ):=
 match zFo P G S e o with
 |some q=>some q
 |none=>match zT5 G S e o with
  |some q=>some q
  |none=>zTF P G S e o
def zR1 (e:Env Γ.St) (lg:Nat) (o:Oper) (K:Env Γ.St→Nat→Option ρ):Option ρ:=
 match zK8 P G S e o with
 |some q=>q (fun e1=>K e1 (lg|||zFj G e o))
 |none=>match zK8 P G S (frzOps G (zNT o) e) o with
  |some q=>q (fun e1=>K e1 (lg|||(zIF G (zNT o) e|||zFj G (frzOps G (zNT o) e) o)))
  |none=>none
def zQE (ops:Array Oper) (e:Env Γ.St) (lg:Nat) (o:Oper) (K:Env Γ.St→Nat→Option ρ):Option ρ:=
 match o.guard with
 |none=>zR1 P G S e lg o K
 |some (j,want)=>match (ops[j]?).bind (·.dst) with
  |none=>K (e.put o.dst (.p (.val undef))) (lg|||xS o.dst)
  |some t=>match e.get t with
   | .p (.val (.bool b))=>if t<e.tm.length then
     cond b (match want with
      |true=>zFD t (e.lit t true) (fun e=>zR1 P G S e lg o K)
      |false=>K ((e.lit t true).put o.dst (.p (.val undef))) (lg|||xS o.dst))
     (match want with
      |true=>K ((e.lit t false).put o.dst (.p (.val undef))) (lg|||xS o.dst)
      |false=>zFD t (e.lit t false) (fun e=>zR1 P G S e lg o K))
    else none
   | .p (.val (.tuple _))=>K (e.put o.dst (.p (.val undef))) (lg|||xS o.dst)
   |_=>none
def seqX (ops:Array Oper):List Oper→Env Γ.St→Nat→(Env Γ.St→Nat→Option ρ)→Option ρ
 |[],e,lg,K=>K e lg
 |o::rest,e,lg,K=>zQE P G S ops e lg o (fun e1 lg=>kOp o e1 (fun e1=>seqX ops rest e1 lg K))
def zTG (e:Env Γ.St) (o:Oper) (K:Env Γ.St→Option ρ):Option ρ:=
 match o.guard with
 |none=>match qXs P G S e o with
  |some q=>q (fun r=>match r with
   | .frzT t xs=>match kB e o.dst (.ownT t xs) with
    |some e1=>K e1
    |none=>none
   |_=>none)
  |none=>none
 |some _=>none
def zQO (ops:Array Oper) (k:Nat) (e:Env Γ.St) (lg:Nat) (K:Env Γ.St→Nat→Option ρ):Option ρ:=
 seqX P G S ops (ops.toList.take k) e lg (fun e lg=>match ops.toList.drop k with
  |o::rest=>zTG P G S e o (fun e1=>kOp o e1 (fun e1=>seqX P G S ops rest e1 (lg|||xS o.dst) K))
  |[]=>none)
def zBc (e:Env Γ.St) (lg:Nat) (o:Oper) (K:Env Γ.St→Nat→Option ρ):Option ρ:=
 match qXs P G S e o with
 |some q=>q (fun r=>match zHI e o.dst r with
  |some e1=>K e1 (lg|||xS o.dst)
  |none=>none)
 |none=>none
def uL (ops:Array Oper):List Oper→Env Γ.St→Nat→(Env Γ.St→Nat→Option ρ)→Option ρ
 |[],e,lg,K=>K e lg
 |o::rest,e,lg,K=>
  match o.guard with
  |none=>if zI3 G (zK (o::rest)) e o then zBc P G S e lg o (fun e1 lg=>kOp o e1 (fun e1=>uL ops rest e1 lg K)) else none
  |some (j,want)=>match (ops[j]?).bind (·.dst) with
   |none=>zFD (o.dst.getD 0) (e.put o.dst (.p (.val undef))) (fun e1=>uL ops rest e1 (lg|||xS o.dst) K)
   |some t=>match e.get t with
    | .p (.val (.bool b))=>if t<e.tm.length then
      cond b (match want with
       |true=>zFD t (e.lit t true) (fun e=>if zI3 G (zK (o::rest)) e o then zBc P G S e lg o (fun e1 lg=>kOp o e1 (fun e1=>uL ops rest e1 lg K)) else none)
       |false=>zFD (o.dst.getD 0) ((e.lit t true).put o.dst (.p (.val undef))) (fun e1=>uL ops rest e1 (lg|||xS o.dst) K))
      (match want with
       |true=>zFD (o.dst.getD 0) ((e.lit t false).put o.dst (.p (.val undef))) (fun e1=>uL ops rest e1 (lg|||xS o.dst) K)
       |false=>zFD t (e.lit t false) (fun e=>if zI3 G (zK (o::rest)) e o then zBc P G S e lg o (fun e1 lg=>kOp o e1 (fun e1=>uL ops rest e1 lg K)) else none))
     else none
    | .p (.val (.tuple _))=>zFD (o.dst.getD 0) (e.put o.dst (.p (.val undef))) (fun e1=>uL ops rest e1 (lg|||xS o.dst) K)
    |_=>none
def zM3:List Nat→Nat
 |[]=>0
 |d::r=>2^(2*d)|||zM3 r
def zJC (ops:Array Oper) (k:Nat) (e:Env Γ.St) (lg:Nat) (K:Env Γ.St→Nat→Option ρ):Option ρ:=
 if k≤ops.size&&zII ops k&&zIt ops k&&zJD (ops.extract 0 k) then
  zBm (killAll (zK (ops.extract 0 k).toList) e) (fun e=>uL P G S (ops.extract 0 k) (ops.extract 0 k).toList e (lg|||zM3 (zK (ops.extract 0 k).toList))
   (fun e1 lg=>seqX P G S ops (ops.toList.drop k) e1 lg K))
 else none
def zRQ (ops:Array Oper) (e:Env Γ.St) (lg:Nat) (K:Env Γ.St→Nat→Option ρ):Option ρ:=zJC P G S ops (zQB ops.toList) e lg K
def zNP:T→Bool
 | .p _=>true
 | .lp _ _=>true
 |_=>false
def zN0 {St:Type} (ops:Array Oper) (e1:Env St):List Nat→Option (List Fl)
 |[]=>some []
 |i::r=>match ops[i]? with
  |some o=>match o.dst with
   |some d=>match zNP (e1.get d) with
    |true=>(zN0 ops e1 r).map (⟨i,d, .c (e1.get d)⟩:: ·)
    |false=>match o.op with
     | .move (.tmp s)=>(zN0 ops e1 r).map (⟨i,d, .a s⟩:: ·)
     |_=>none
   |none=>none
  |none=>none
def flD (fl:List Fl) (t:Nat):Bool:=fl.any (fun q=>Nat.beq q.d t)
def flC (fl:List Fl) (t:Nat):Bool:=fl.any (fun q=>Nat.beq q.d t&&(match q.v with
 | .c _=>true
 | .a _=>false))
def zMK (n:Nat):List Fl→Bool
 |[]=>true
 |q::r=> !flD r q.d&&Nat.blt q.d n&&zMK n r
def zRH (fl:List Fl):Bool:=fl.all (fun q=>match q.v with
 | .c _=>true
 | .a s=> !flD fl s)
def noD (d:Nat):T→Bool
 | .ow i _ _=> !Nat.beq i d
 | .oe i _ _ _ _=> !Nat.beq i d
 | .lp s _=> !Nat.beq s d
 | .mp i _ _=> !Nat.beq i d
 | .ot i _ _=> !Nat.beq i d
 | .oet i _ _ _ _=> !Nat.beq i d
 | .ov i _ _ _ _=> !Nat.beq i d
 | .on n=> !Nat.beq n.id d&& !Nat.beq n.id2 d
 |_=>true
def clean {St:Type} (d:Nat) (e:Env St):Bool:=
 e.tm.all (noD d)&&e.vars.all (fun c=>match c with
  |some cs=>cs.all (noD d)
  |none=>true)&&(e.var d).isNone&&Nat.blt d e.vars.length
def zQ9 {St:Type} (fl:List Fl) (m:Nat) (e1:Env St):Operand→Bool
 | .tmp t=>(flC fl t||(!flD fl t&& !Nat.testBit m (2*t)))&&(match e1.get t with
  | .p _=>true
  | .lp s _=> !Nat.testBit m (2*s)&&(match e1.var s with
   |some cs=>cs.all (fun x=>match x with| .p _=>true|_=>false)&& !Nat.testBit m (2*s+1)
   |none=>false)
  |_=>false)
 |_=>true
def zSw {St:Type} (ops:Array Oper) (fl:List Fl) (m:Nat) (e1 b:Env St) (q:Fl):Bool:=
 match ops[q.i]? with
 |some o=>match q.v with
  | .a s=>match o.op with
   | .move (.tmp s')=>Nat.beq s' s
   |_=>false
  | .c _=>o.op.operands.toList.all (zQ9 fl m e1)&&clean q.d b&&fl.all (fun r=>match r.v with
   | .c x=>noD q.d x
   | .a _=>true)
 |none=>false
def zNs (m:Nat) (dst:Option Nat) (q:Fl):Bool:=
 (match dst with
  |some d=> !Nat.beq d q.d
  |none=>true)&&(match q.v with
  | .c (.p _)=>true
  | .c (.lp s _)=> !Nat.testBit m (2*s)
  | .c _=>false
  | .a s=>match dst with
   |some d=> !Nat.beq d s
   |none=>true)
def zUB (fl:List Fl) (A:Fl→Bool) (o:Oper):Bool:=
 o.op.operands.toList.all (fun x=>match x with
  | .tmp t=>fl.all (fun q=> !Nat.beq q.d t||A q)
  |_=>true)
def xR:List Fl→Nat
 |[]=>0
 |q::r=>2^(2*q.d)|||xR r
def zOs (anc:Array Nat) (c:Nat) (q:Fl):Bool:=(anc.getD c 0).testBit q.i&&decide (q.i<c)
def zNz (e:Env Γ.St) (o:Oper):Option (Kex Γ ρ):=
 match zFo P G S e o with
 |some q=>some q
 |none=>match zEH o with
  |true=>zFo P G S (zME G o e) o
  |false=>none
def zEj (ops:Array Oper) (anc:Array Nat) (fl:List Fl) (e1:Env Γ.St):List Nat→Env Γ.St→Nat→(Env Γ.St→Nat→Option ρ)→Option ρ
 |[],b,m,K=>zBm (qQ b fl) (fun e=>K e (m|||xR fl))
 |c::rest,b,m,K=>match ops[c]? with
  |some o=>zBm (qQ b (fl.filter (zOs anc c))) (fun bA=>match zUB fl (zOs anc c) o&&fl.all (zNs (qV G bA o) o.dst) with
   |true=>match zNz P G S bA o with
    |some q=>q (fun b1=>kOp o b1 (fun b1=>match fl.all (fun q=>zOs anc c q||zSw ops fl (m|||(xR fl|||qV G bA o)) e1 b1 q) with
     |true=>zEj ops anc fl e1 rest b1 (m|||(xR fl|||qV G bA o)) K
     |false=>none))
    |none=>none
   |false=>none)
  |none=>none
def zOl (ops:Array Oper) (Cm Um:Nat) (e:Env Γ.St) (lg:Nat) (K:Env Γ.St→Nat→Option ρ):Option ρ:=
 if zT4 ops (Region.before ops) Cm Um then
  zBm (killAll (zK (jK ops Cm).toList) e) (fun e=>uL P G S (jK ops Cm) (jK ops Cm).toList e (lg|||zM3 (zK (jK ops Cm).toList))
   (fun e1 lg=>match zN0 ops e1 ((List.range ops.size).filter (fun i=>Nat.testBit Um i&& !Nat.testBit Cm i)) with
    |some fl=>match zMK e1.tm.length fl&&zRH fl&&fl.all (fun q=>(e1.var q.d).isNone)&&fl.all (zSw ops fl (xR fl) e1 (zBV e1 fl)) with
     |true=>zBm (zBV e1 fl) (fun b=>zEj P G S ops (Region.before ops) fl e1 ((List.range ops.size).filter (fun i=>Nat.testBit Cm i)) b (xR fl) (fun e2 m=>K e2 (lg|||m)))
     |false=>none
    |none=>none))
 else none
def zPv:List (Nat×Nat×Nat)→Env Γ.St→(Env Γ.St→Option ρ)→Option ρ
 |[],e,K=>K e
 |(a,b,n)::r,e,K=>match n with
  |1=>match zTI b e&&(!Nat.beq a qA&& !Nat.beq b qA) with
   |true=>zBm (e.mapT (zMh a b)) (fun e=>zPv r e K)
   |false=>none
  |2=>zBm (frzOE a e) (fun e=>zPv r e K)
  |_=>zPv r e K
def zO1:List (Nat×Nat×Nat)→List Operand
 |[]=>[]
 |(t,_,n)::r=>match n with
  |0=> .tmp t::zO1 r
  |_=>zO1 r
def zMi (ops:Array Oper) (d:Bool) (fz:Option (List (Nat×Nat×Nat))) (e:Env Γ.St) (lg:Nat) (K:Env Γ.St→Nat→Option ρ):Option ρ:=
 match d with
 |false=>match fz with
  |none=>seqX P G S ops ops.toList e lg K
  |some []=>seqX P G S ops ops.toList e lg K
  |some ((k,_,n)::_)=>match n with
   |7=>zQO P G S ops k e lg K
   |_=>seqX P G S ops ops.toList e lg K
 |true=>match fz with
  |none=>zRQ P G S ops e lg K
  |some []=>zBm (frzOps G (zA8 ops.toList) e) (fun e1=>zRQ P G S ops e1 (lg|||zIF G (zA8 ops.toList) e) K)
  |some ((Cm,Um,n)::ts)=>match n with
   |9=>zRQ P G S ops e lg K
   |8=>zJC P G S ops Cm e lg K
   |_=>zBm (frzOps G (zO1 ts) e) (fun e1=>zOl P G S ops Cm Um e1 (lg|||zIF G (zO1 ts) e) K)
def zSs (ops:Array Oper) (d:Bool) (fz:Option (List (Nat×Nat×Nat))) (e:Env Γ.St) (lg:Nat) (K:Env Γ.St→Nat→Option ρ):Option ρ:=
 match fz with
 |none=>zMi P G S ops d fz e lg K
 |some []=>zMi P G S ops d fz e lg K
 |some (x::ts)=>zMi P G S ops d fz e lg (fun e1 lg1=>zPv ts e1 (fun e2=>K e2 lg1))
end
section
variable {Γ:Sig} {ρ:Type} {P:Program} {G:Nat→Option (List V)} {S:zL Γ} {e:Env Γ.St} {o:Oper} {ops:Array Oper} {v:ρ}
theorem zNc {q:Kex Γ ρ} {K:Env Γ.St→Option ρ} {dst:Option Tmp} {c:Call} (h:zNd P G e dst c=some q) (hK:q K=some v): ∃e1,wF P G e dst c=some e1∧K e1=some v:=by
 unfold zNd at h
 split at h
 ·rename_i p x1 t0 t1 d hcal hargs htys
  split at h
  ·rename_i id t' xs hi hget
   split at h
   ·rename_i el el1 hu0 hu1
    split at h
    ·rename_i info hinfo
     split at h
     ·rename_i z t y ys hz hsrc
      split at h
      ·cases h
      ·rename_i hne
       split at h
       ·rename_i htt
        subst htt
        split at h
        ·rename_i hok
         simp only [Option.some.injEq] at h
         subst h
         obtain ⟨zs,hzs,hK⟩:=bind_some hK
         unfold app at hzs
         split at hzs
         ·rename_i hroom
          simp only [Option.some.injEq] at hzs
          subst hzs
          refine ⟨_,?_,hK⟩
          have hu0':P.underlying t0=some (.slice el):=hu0
          have hu1':P.underlying t1=some (.slice el1):=hu1
          have hinfo':P.info? el=some info:=hinfo
          simp only [wF,hcal,hargs,htys,hu0',hu1',hinfo',hz,hsrc,hget]
          rw [if_neg hne,dif_pos trivial,if_pos hok,if_pos hroom]
         ·cases hzs
        ·cases h
       ·cases h
     ·cases h
    ·cases h
   ·cases h
  ·cases h
 ·cases h
theorem zOr {q:Kex Γ ρ} {dst:Option Tmp} {c:Call} (h:zNd P G e dst c=some q):jC P G e dst c=none:=by
 unfold zNd at h
 split at h
 ·rename_i p x1 t0 t1 d hcal hargs htys
  split at h
  ·rename_i id t' xs hi hget
   unfold jC
   simp only [hcal,hargs,htys]
   repeat' split
   all_goals first|rfl|skip
   all_goals (rename_i hdst _ _;simp only [evx,hget,zMS] at hdst;cases hdst)
  ·cases h
 ·cases h
theorem zQr {q:Kex Γ ρ} {K:Env Γ.St→Option ρ} (h:wX P G e o=some q) (hK:q K=some v): ∃e1,evW P G e o=some e1∧K e1=some v:=by
 obtain ⟨dst,op,type,pos,after,guard⟩:=o
 cases op<;>simp only [wX,reduceCtorEq] at h
 case store t ap x=>
  split at h
  ·cases h
  ·rename_i hd
   split at h
   ·rename_i id ty xs i off d hp hx
    split at h
    ·rename_i hcond
     simp only [Option.some.injEq] at h
     subst h
     obtain ⟨y,hg,h3⟩:=bind_some hK
     unfold atN at hg
     split at h3
     ·rename_i z hz
      refine ⟨_,?_,h3⟩
      simp only [evW,hp,hx,zBp]
      rw [if_pos hcond]
      simp only [hg,hz]
     ·cases h3
    ·cases h
   ·rename_i id ty xs i off id2 t2 ys hp hx
    split at h
    ·rename_i t3
     split at h
     ·rename_i hcond
      simp only [Option.some.injEq] at h
      subst h
      obtain ⟨hc,hK⟩:=wE.1 hK
      simp only [Bool.not_eq_true'] at hc
      refine ⟨_,?_,hK⟩
      simp only [evW,hp,hx,zAg]
      rw [if_pos ⟨hcond.1,hcond.2.1,hcond.2.2.1,hcond.2.2.2.1,hcond.2.2.2.2,hc⟩]
     ·cases h
    ·cases h
   ·rename_i id id2 ty xs j ys k off d hp hx
    split at h
    ·rename_i hcond
     simp only [Option.some.injEq] at h
     subst h
     obtain ⟨y,hg,h3⟩:=bind_some hK
     unfold atN at hg
     split at h3
     ·rename_i z hz
      refine ⟨_,?_,h3⟩
      simp only [evW,hp,hx,xM]
      rw [if_pos hcond]
      simp only [hg,hz]
     ·cases h3
    ·cases h
   ·cases h
 case call c=>
  split at h
  ·rename_i q' hq
   simp only [Option.some.injEq] at h
   subst h
   obtain ⟨e1,h1,h2⟩:=zNc hq hK
   refine ⟨e1,?_,h2⟩
   simp only [evW,zOr hq,h1]
  ·split at h
   ·rename_i x0 x1 t0 t1 d hcal hargs htys _
    split at h
    ·rename_i el el1 hu0 hu1
     split at h
     ·rename_i info hinfo
      split at h
      ·rename_i z t ys hz hsrc
       split at h
       ·rename_i nm xs hdst
        split at h
        ·rename_i hok
         simp only [Option.some.injEq] at h
         subst h
         obtain ⟨zs,hzs,hK⟩:=bind_some hK
         unfold app at hzs
         split at hzs
         ·rename_i hroom
          simp only [Option.some.injEq] at hzs
          subst hzs
          refine ⟨_,?_,hK⟩
          have hu0':P.underlying t0=some (.slice el):=hu0
          have hu1':P.underlying t1=some (.slice el1):=hu1
          have hinfo':P.info? el=some info:=hinfo
          simp only [evW,jC,hcal,hargs,htys,hu0',hu1',hinfo',hz,hsrc,hdst]
          rw [if_pos hok,if_pos hroom]
         ·cases hzs
        ·cases h
       ·cases h
      ·cases h
     ·cases h
    ·cases h
   ·cases h
theorem zKf {q:Kex Γ ρ} {K:Env Γ.St→Option ρ} (h:wXs P G e o=some q) (hK:q K=some v): ∃e1,evW P G e o=some e1∧K e1=some v:=by
 unfold wXs at h
 split at h
 ·rename_i q' hq
  simp only [Option.some.injEq] at h;subst h
  exact zQr hq hK
 ·split at h
  ·rename_i r hr
   simp only [Option.some.injEq] at h;subst h
   exact ⟨r,hr,hK⟩
  ·cases h
theorem zK6 (hS:zZ Γ P G S.toS) {q:Kex Γ ρ} {K:Env Γ.St→Option ρ} (h:zFo P G S e o=some q) (hK:q K=some v):
  ∃e1,zOA P G e o e1∧Agree (qV G e o) e e1∧K e1=some v:=by
 unfold zFo at h
 split at h
 ·rename_i q' hq
  simp only [Option.some.injEq] at h;subst h
  obtain ⟨r,hr,hk⟩:=zEy hq hK
  split at hk
  ·rename_i e1 he1
   refine ⟨e1,fun w0 F0 O0 a w Q hi=>zJt (P:=P) hS hi ?_,?_,hk⟩
   ·simp only [zGE,hr,he1]
   ·refine (zDm he1).mono ?_
    intro t ht
    simp only [qV,wM] at ht
    exact ht.1
  ·cases hk
 ·obtain ⟨e1,h1,h2⟩:=zKf h hK
  exact ⟨e1,fun w0 F0 O0 a w Q hi=>zO4 hi h1,zKR h1,h2⟩
theorem zOv (e:Env Γ.St) (id p:Nat) (t:Ty) (ys zs:List t.El) (st:Γ.St) (dst:Option Tmp) (d:V) (hp:e.get p= .ot id t ys):Agree (xS dst) e (zQ6 e id p t zs st dst d):=by
 have hg: ∀t',t'≠p→(⟨(e.tm.map (updB id t zs)).set p (.ot id t zs),e.vars.map (fun c=>c.map (List.map (zP id))),st⟩:Env Γ.St).get t'=updB id t zs (e.get t'):=by
  intro t' hne
  simp only [Env.get,List.getD_eq_getElem?_getD]
  rw [List.getElem?_set_ne (Ne.symm hne),List.getElem?_map]
  cases e.tm[t']? with
  |none=>simp [updB,zP]
  |some x=>rfl
 have h1:Agree 0 e (⟨(e.tm.map (updB id t zs)).set p (.ot id t zs),e.vars.map (fun c=>c.map (List.map (zP id))),st⟩:Env Γ.St):=by
  refine ⟨by simp,by simp,?_,?_,?_⟩
  ·intro t' d' ht' hx
   have hne:t'≠p:=fun h=>by rw [h,hp] at hx;cases hx
   rw [hg t' hne,hx];rfl
  ·intro t' s off _ _ hx
   have hne:t'≠p:=fun h=>by rw [h,hp] at hx;cases hx
   rw [hg t' hne,hx];rfl
  ·intro s ds _ _ hx
   have h2:(⟨(e.tm.map (updB id t zs)).set p (.ot id t zs),e.vars.map (fun c=>c.map (List.map (zP id))),st⟩:Env Γ.St).var s=(e.mapT (zP id)).var s:=rfl
   rw [h2,zS,hx]
   simp [zP,Function.comp_def]
 exact (h1.mono (fun t' _=>by simp)).same (uN _ dst _)
theorem zOu (e:Env Γ.St) (id:Nat) (t:Ty) (zs:List t.El) (st:Γ.St) (dst:Option Tmp):Agree (xS dst) e (zQ5 e id t zs st dst):=by
 have hg: ∀t',(⟨e.tm.map (zP id),e.vars.map (fun c=>c.map (List.map (zP id))),st⟩:Env Γ.St).get t'=zP id (e.get t'):=qH (f:=zP id) rfl e
 have h1:Agree 0 e (⟨e.tm.map (zP id),e.vars.map (fun c=>c.map (List.map (zP id))),st⟩:Env Γ.St):=by
  refine ⟨by simp,by simp,?_,?_,?_⟩
  ·intro t' d' ht' hx
   rw [hg t',hx];rfl
  ·intro t' s off _ _ hx
   rw [hg t',hx];rfl
  ·intro s ds _ _ hx
   have h2:(⟨e.tm.map (zP id),e.vars.map (fun c=>c.map (List.map (zP id))),st⟩:Env Γ.St).var s=(e.mapT (zP id)).var s:=rfl
   rw [h2,zS,hx]
   simp [zP,Function.comp_def]
 exact (h1.mono (fun t' _=>by simp)).same (uN _ dst _)
theorem zOn (hS:zZ Γ P G S.toS) {q:Kex Γ ρ} {K:Env Γ.St→Option ρ} (h:zT5 G S e o=some q) (hK:q K=some v):
  ∃e1,zOA P G e o e1∧Agree (qV G e o) e e1∧K e1=some v:=by
 obtain ⟨dst,op,type,pos,after,guard⟩:=o
 unfold zT5 at h
 split at h
 ·rename_i c hop
  subst hop
  split at h
  ·rename_i f p xs hcal hargs
   split at h
   ·rename_i g id t ys ds hf hp hxs
    split at h
    ·rename_i cx hcx
     split at h
     ·simp only [Option.some.injEq] at h
      subst h
      obtain ⟨hlens,hK⟩:=wE.1 hK
      obtain ⟨y,hy,hK⟩:=bind_some hK
      split at hK
      ·cases hK
      ·rename_i t' zs d hdb hres
       split at hK
       ·rename_i ht
        subst ht
        refine ⟨_,fun w0 F0 O0 a w Q hi=>zS2 hS hi hcal hf hargs hp hxs hlens hdb (by rw [zF9 hcx hy,hres]),?_,hK⟩
        refine (zOv e id p t' ys zs _ dst d hp).mono ?_
        intro b hb
        simp only [qV,wM] at hb
        exact hb.1
       ·cases hK
      ·cases hK
     ·split at h
      ·cases h
      ·rename_i hid
       have hid:id≠qA:=fun hh=>by rw [hh,Nat.beq_refl] at hid;cases hid
       simp only [Option.some.injEq] at h
       subst h
       obtain ⟨y,hy,hK⟩:=bind_some hK
       split at hK
       ·rename_i t' zs hres
        split at hK
        ·rename_i ht
         subst ht
         refine ⟨_,fun w0 F0 O0 a w Q hi=>zRl hS hi hcal hf hargs hp hxs hid (by rw [zF9 hcx hy,hres]),?_,hK⟩
         refine (zOu e id t' zs _ dst).mono ?_
         intro b hb
         simp only [qV,wM] at hb
         exact hb.1
        ·cases hK
       ·cases hK
    ·cases h
   ·cases h
  ·cases h
 ·cases h
theorem zOt (e:Env Γ.St) (s:Nat) (t:Ty) (z:t.El) (st:Γ.St) (dst:Option Tmp) (d:V):Agree (xS dst|||2^(2*s+1)) e (zQ4 e s t z st dst d):=by
 have h1:Agree (2^(2*s+1)) e (⟨e.tm,e.vars.set s (some ((t.cells z).map T.p)),st⟩:Env Γ.St):=
  (zJN s _ e).same ((zGP st _).mono (fun t _=>by simp))
 refine (h1.trans (uN _ dst (.p d))).mono ?_
 intro b hb
 simp only [wM] at hb ⊢
 exact ⟨hb.2,hb.1⟩
theorem zNF (hS:zZ Γ P G S.toS) {q:Kex Γ ρ} {K:Env Γ.St→Option ρ} (h:zTF P G S e o=some q) (hK:q K=some v):
  ∃e1,zOA P G e o e1∧Agree (zFj G e o) e e1∧K e1=some v:=by
 obtain ⟨dst,op,type,pos,after,guard⟩:=o
 unfold zTF at h
 split at h
 ·rename_i c hop
  subst hop
  split at h
  ·rename_i f hcal
   split at h
   ·rename_i g k s xs hf hspl
    split at h
    ·rename_i ds cs t hxs hcs hty
     split at h
     ·rename_i vs hvs
      split at h
      ·rename_i y hy
       split at h
       ·rename_i cx hcx
        split at h
        ·simp only [Option.some.injEq] at h
         subst h
         obtain ⟨u,hu,hK⟩:=bind_some hK
         split at hK
         ·rename_i t' z d hres
          split at hK
          ·rename_i ht
           subst ht
           refine ⟨_,fun w0 F0 O0 a w Q hi=>zSu hS hi hcal hf hspl hxs hcs hvs hy (by rw [zF9 hcx hu,hres]),?_,hK⟩
           refine (zOt e s t' z _ dst d).mono ?_
           intro b hb
           simp only [zFj,qV,wM,hspl,zUq] at hb
           rw [wM]
           exact ⟨hb.1.1,hb.2⟩
          ·cases hK
         ·cases hK
        ·cases h
       ·cases h
      ·cases h
     ·cases h
    ·cases h
   ·cases h
  ·cases h
 ·cases h
theorem zGi (hS:zZ Γ P G S.toS) {q:Kex Γ ρ} {K:Env Γ.St→Option ρ} (h:zK8 P G S e o=some q) (hK:q K=some v):
  ∃e1,zOA P G e o e1∧Agree (zFj G e o) e e1∧K e1=some v:=by
 have hm: ∀b,(zFj G e o).testBit b=false→(qV G e o).testBit b=false:=fun b hb=>by
  unfold zFj at hb
  rw [wM] at hb
  exact hb.1
 unfold zK8 at h
 split at h
 ·rename_i q' hq
  simp only [Option.some.injEq] at h;subst h
  obtain ⟨e1,h1,h2,h3⟩:=zK6 hS hq hK
  exact ⟨e1,h1,h2.mono hm,h3⟩
 ·split at h
  ·rename_i q' hq
   simp only [Option.some.injEq] at h;subst h
   obtain ⟨e1,h1,h2,h3⟩:=zOn hS hq hK
   exact ⟨e1,h1,h2.mono hm,h3⟩
  ·exact zNF hS h hK
theorem zFW (hS:zZ Γ P G S.toS) {lg:Nat} {K:Env Γ.St→Nat→Option ρ} (h:zR1 P G S e lg o K=some v):
  ∃e1 d,zOA P G e o e1∧Agree d e e1∧K e1 (lg|||d)=some v:=by
 unfold zR1 at h
 split at h
 ·rename_i q hq
  obtain ⟨e1,h1,h2,h3⟩:=zGi hS hq h
  exact ⟨e1,_,h1,h2,h3⟩
 ·split at h
  ·rename_i q hq
   obtain ⟨e1,h1,h2,h3⟩:=zGi hS hq h
   exact ⟨e1,_,fun w0 F0 O0 a w Q hi=>h1 w0 F0 O0 a w Q (Inv.frzOps _ _ hi),(zDl _ e).trans h2,h3⟩
  ·cases h
theorem zL2 (hS:zZ Γ P G S.toS) {lg:Nat} {K:Env Γ.St→Nat→Option ρ} (h:zQE P G S ops e lg o K=some v):
  ∃e1 d,zPe P G ops e o e1∧Agree d e e1∧K e1 (lg|||d)=some v:=by
 unfold zQE at h
 split at h
 ·rename_i hg
  obtain ⟨e1,d,h1,h2,h3⟩:=zFW hS h
  exact ⟨e1,d, .inl ⟨by simp only [qO,hg],h1⟩,h2,h3⟩
 ·rename_i j want hg
  split at h
  ·rename_i hj
   exact ⟨_,_, .inr ⟨by simp only [qO,hg,hj],rfl⟩,uN e o.dst _,h⟩
  ·rename_i t hj
   split at h
   ·rename_i b hb
    split at h
    ·rename_i hlt
     have hw:qO ops e o=some (b==want):=by simp only [qO,hg,hj,hb,hlt,if_true]
     cases b with
     |true=>
      simp only [cond_true] at h
      split at h
      ·rw [zEE,zD1 hb] at h
       obtain ⟨e1,d,h1,h2,h3⟩:=zFW hS h
       exact ⟨e1,d, .inl ⟨hw,h1⟩,h2,h3⟩
      ·rw [zD1 hb] at h
       exact ⟨_,_, .inr ⟨hw,rfl⟩,uN e o.dst _,h⟩
     |false=>
      simp only [cond_false] at h
      split at h
      ·rw [zD1 hb] at h
       exact ⟨_,_, .inr ⟨hw,rfl⟩,uN e o.dst _,h⟩
      ·rw [zEE,zD1 hb] at h
       obtain ⟨e1,d,h1,h2,h3⟩:=zFW hS h
       exact ⟨e1,d, .inl ⟨hw,h1⟩,h2,h3⟩
    ·cases h
   ·rename_i vs hb
    exact ⟨_,_, .inr ⟨by simp only [qO,hg,hj,hb],rfl⟩,uN e o.dst _,h⟩
   ·cases h
theorem zAb (hS:zZ Γ P G S.toS) {K:Env Γ.St→Nat→Option ρ} : ∀ (l:List Oper) (e:Env Γ.St) (lg:Nat),seqX P G S ops l e lg K=some v→ ∃e' d,zGR P G ops l e e'∧Agree d e e'∧K e' (lg|||d)=some v:=by
 intro l
 induction l with
 |nil=>intro e lg h;exact ⟨e,0, .nil e,Agree.refl e,by rw [Nat.or_zero];exact h⟩
 |cons o rest ih=>
  intro e lg h
  simp only [seqX] at h
  obtain ⟨e1,d,h1,h2,h3⟩:=zL2 hS h
  rw [zLm] at h3
  obtain ⟨e',d',h4,h5,h6⟩:=ih e1 _ h3
  exact ⟨e',d|||d', .cons h1 h4,h2.trans h5,by rw [←Nat.or_assoc];exact h6⟩
theorem zGR.app {l1 l2:List Oper} {e1 e2 e3:Env Γ.St} (h:zGR P G ops l1 e1 e2) (h':zGR P G ops l2 e2 e3):zGR P G ops (l1++l2) e1 e3:=by
 induction h with
 |nil=>exact h'
 |cons h0 _ ih=>exact .cons h0 (ih h')
theorem zNG (hS:zZ Γ P G S.toS) {K:Env Γ.St→Option ρ} (h:zTG P G S e o K=some v): ∃e1,zPe P G ops e o e1∧Agree (xS o.dst) e e1∧K e1=some v:=by
 unfold zTG at h
 split at h
 ·rename_i hg
  split at h
  ·rename_i q hq
   obtain ⟨r,hr,hk⟩:=zEy hq h
   split at hk
   ·rename_i t xs
    split at hk
    ·rename_i e1 he1
     exact ⟨e1, .inl ⟨by simp only [qO,hg],fun w0 F0 O0 a w Q hi=>zSr (P:=P) hS hi hr he1⟩,zDm he1,hk⟩
    ·cases hk
   ·cases hk
  ·cases h
 ·cases h
theorem zMe (hS:zZ Γ P G S.toS) {K:Env Γ.St→Nat→Option ρ} {k:Nat} {lg:Nat} (h:zQO P G S ops k e lg K=some v): ∃e' d,zGR P G ops ops.toList e e'∧Agree d e e'∧K e' (lg|||d)=some v:=by
 unfold zQO at h
 obtain ⟨e1,d1,h1,h2,h3⟩:=zAb hS _ _ _ h
 split at h3
 ·rename_i o rest hd
  obtain ⟨e2,h4,h5,h6⟩:=zNG (ops:=ops) hS h3
  rw [zLm] at h6
  obtain ⟨e3,d3,h7,h8,h9⟩:=zAb hS _ _ _ h6
  refine ⟨e3,d1|||xS o.dst|||d3,?_,(h2.trans h5).trans h8,by rw [←Nat.or_assoc, ←Nat.or_assoc];exact h9⟩
  have:=h1.app (.cons h4 h7)
  rw [←hd,List.take_append_drop] at this
  exact this
 ·cases h3
theorem zIk {lg:Nat} {K:Env Γ.St→Nat→Option ρ} (h:zBc P G S e lg o K=some v): ∃r e1,evQ P G S.toS e o=some r∧zHI e o.dst r=some e1∧K e1 (lg|||xS o.dst)=some v:=by
 unfold zBc at h
 split at h
 ·rename_i q hq
  obtain ⟨r,hr,hk⟩:=zEy hq h
  split at hk
  ·rename_i e1 he1;exact ⟨r,e1,hr,he1,hk⟩
  ·cases hk
 ·cases h
theorem zFd {K:Env Γ.St→Nat→Option ρ} : ∀ (l:List Oper) (e:Env Γ.St) (lg:Nat),uL P G S ops l e lg K=some v→ ∃e' d,zAi P G S.toS ops l e=some e'∧Agree d e e'∧K e' (lg|||d)=some v:=by
 intro l
 induction l with
 |nil=>intro e lg h;exact ⟨e,0,rfl,Agree.refl e,by rw [Nat.or_zero];exact h⟩
 |cons o rest ih=>
  intro e lg h
  have run: ∀e0:Env Γ.St,e0=e→qO ops e o=some true→(if zI3 G (zK (o::rest)) e0 o then zBc P G S e0 lg o (fun e1 lg=>kOp o e1 (fun e1=>uL P G S ops rest e1 lg K)) else none)=some v→
    ∃e' d,zAi P G S.toS ops (o::rest) e=some e'∧Agree d e e'∧K e' (lg|||d)=some v:=by
   intro e0 he0 hw hh
   subst he0
   split at hh
   ·rename_i hp
    obtain ⟨r,e1,h1,h2,h3⟩:=zIk hh
    rw [zLm] at h3
    obtain ⟨e',d,h4,h5,h6⟩:=ih e1 _ h3
    refine ⟨e',xS o.dst|||d,?_,(zLD h2).trans h5,by rw [←Nat.or_assoc];exact h6⟩
    simp only [zAi,hw,hp,if_true,h1,h2,h4]
   ·cases hh
  have skip: ∀e0:Env Γ.St,e0=e→qO ops e o=some false→zFD (o.dst.getD 0) (e0.put o.dst (.p (.val undef))) (fun e1=>uL P G S ops rest e1 (lg|||xS o.dst) K)=some v→
    ∃e' d,zAi P G S.toS ops (o::rest) e=some e'∧Agree d e e'∧K e' (lg|||d)=some v:=by
   intro e0 he0 hw hh
   subst he0
   rw [zEE] at hh
   obtain ⟨e',d,h4,h5,h6⟩:=ih _ _ hh
   refine ⟨e',xS o.dst|||d,?_,(uN _ o.dst _).trans h5,by rw [←Nat.or_assoc];exact h6⟩
   simp only [zAi,hw,h4]
  unfold uL at h
  split at h
  ·rename_i hg;exact run e rfl (by simp only [qO,hg]) h
  ·rename_i j want hg
   split at h
   ·rename_i hj;exact skip e rfl (by simp only [qO,hg,hj]) h
   ·rename_i t hj
    split at h
    ·rename_i b hb
     split at h
     ·rename_i hlt
      have hw:qO ops e o=some (b==want):=by simp only [qO,hg,hj,hb,hlt,if_true]
      cases b with
      |true=>
       simp only [cond_true] at h
       split at h
       ·rw [zEE] at h;exact run _ (zD1 hb) hw h
       ·exact skip _ (zD1 hb) hw h
      |false=>
       simp only [cond_false] at h
       split at h
       ·exact skip _ (zD1 hb) hw h
       ·rw [zEE] at h;exact run _ (zD1 hb) hw h
     ·cases h
    ·rename_i vs hb;exact skip e rfl (by simp only [qO,hg,hj,hb]) h
    ·cases h
theorem zFe: ∀ (ds:List Nat) (e:Env Γ.St),Agree (zM3 ds) e (killAll ds e):=by
 intro ds
 induction ds with
 |nil=>intro e;exact Agree.refl e
 |cons d r ih=>intro e;exact (zF0 d e).trans (ih _)
theorem zLx (hmix:P.follows .mixedOrders=true) (hS:zZ Γ P G S.toS) {lg:Nat} {K:Env Γ.St→Nat→Option ρ} {k:Nat} (h:zJC P G S ops k e lg K=some v): ∃e' d,(∀ (id:Nat) (w0:World) (F0:Blk→Prop) (O0:kC) (a:Act) (w:World) (Q:Exit→Act→World→Prop),
  Inv Γ G w0 F0 O0 a w e→(∀a w,Inv Γ G w0 F0 O0 a w e'→Q .normal a w)→(Code.region id ops true).wp P Q a w)∧Agree d e e'∧K e' (lg|||d)=some v:=by
 unfold zJC at h
 split at h
 ·rename_i hc
  simp only [Bool.and_eq_true,decide_eq_true_eq] at hc
  obtain ⟨⟨⟨h1,h2⟩,h3⟩,h4⟩:=hc
  rw [vP] at h
  obtain ⟨e1,d1,h5,h6,h7⟩:=zFd _ _ _ h
  obtain ⟨e',d2,h8,h9,h10⟩:=zAb hS _ _ _ h7
  refine ⟨e',_|||d1|||d2,fun id w0 F0 O0 a w Q hi hQ=>zP5 hmix hS hi h1 h2 h3 (e1:=e1) ?_ h8 hQ,((zFe _ e).trans h6).trans h9,?_⟩
  ·unfold zOb
   rw [if_pos h4]
   exact h5
  ·rw [Nat.or_assoc, ←Nat.or_assoc, ←Nat.or_assoc];exact h10
 ·cases h
theorem zPQ {St:Type} {e1:Env St} : ∀ (l:List Nat) (fl:List Fl),zN0 ops e1 l=some fl→
  (∀q,q∈fl→q.i∈l∧ ∃o,ops[q.i]? =some o∧o.dst=some q.d∧((zNP (e1.get q.d)=true∧q.v= .c (e1.get q.d))∨ ∃s,o.op= .move (.tmp s)∧q.v= .a s))∧ ∀i,i∈l→ ∃q,q∈fl∧q.i=i:=by
 intro l
 induction l with
 |nil=>intro fl h;simp only [zN0,Option.some.injEq] at h;subst h;exact ⟨fun q hq=>by simp at hq,fun i hi=>by simp at hi⟩
 |cons i r ih=>
  intro fl h
  simp only [zN0] at h
  split at h
  ·rename_i o ho
   split at h
   ·rename_i d hd
    have step: ∀q0:Fl,q0.i=i→q0.d=d→((zNP (e1.get d)=true∧q0.v= .c (e1.get d))∨ ∃s,o.op= .move (.tmp s)∧q0.v= .a s)→(zN0 ops e1 r).map (q0:: ·)=some fl→
      (∀q,q∈fl→q.i∈i::r∧ ∃o,ops[q.i]? =some o∧o.dst=some q.d∧((zNP (e1.get q.d)=true∧q.v= .c (e1.get q.d))∨ ∃s,o.op= .move (.tmp s)∧q.v= .a s))∧ ∀j,j∈i::r→ ∃q,q∈fl∧q.i=j:=by
     intro q0 h1 h2 h3 hm
     simp only [Option.map_eq_some_iff] at hm
     obtain ⟨fl0,hfl0,rfl⟩:=hm
     obtain ⟨g1,g2⟩:=ih fl0 hfl0
     refine ⟨?_,?_⟩
     ·intro q hq
      rcases List.mem_cons.1 hq with rfl|hq
      ·rw [h1,h2];exact ⟨by simp,o,ho,hd,h3⟩
      ·obtain ⟨k1,k2⟩:=g1 q hq
       exact ⟨List.mem_cons_of_mem _ k1,k2⟩
     ·intro j hj
      rcases List.mem_cons.1 hj with rfl|hj
      ·exact ⟨q0,by simp,h1⟩
      ·obtain ⟨q,k1,k2⟩:=g2 j hj
       exact ⟨q,List.mem_cons_of_mem _ k1,k2⟩
    split at h
    ·rename_i hpl;exact step ⟨i,d, .c (e1.get d)⟩ rfl rfl (.inl ⟨hpl,rfl⟩) h
    ·split at h
     ·rename_i s hop;exact step ⟨i,d, .a s⟩ rfl rfl (.inr ⟨s,hop,rfl⟩) h
     ·cases h
   ·cases h
  ·cases h
theorem zLn {fl:List Fl} {t:Nat} :flD fl t=true↔ ∃q,q∈fl∧q.d=t:=by
 simp only [flD,List.any_eq_true]
 constructor
 ·rintro ⟨q,hq,h⟩;exact ⟨q,hq,Nat.eq_of_beq_eq_true h⟩
 ·rintro ⟨q,hq,rfl⟩;exact ⟨q,hq,by simp⟩
theorem zMJ {n:Nat} {fl:List Fl} (h1:zMK n fl=true) (h2:zRH fl=true):zE4 n fl:=by
 have hd: ∀l:List Fl,zMK n l=true→l.Pairwise (fun p q=>p.d≠q.d)∧ ∀q,q∈l→q.d<n:=by
  intro l
  induction l with
  |nil=>intro _;exact ⟨.nil,fun q hq=>by simp at hq⟩
  |cons q r ih=>
   intro h
   simp only [zMK,Bool.and_eq_true,Bool.not_eq_true'] at h
   obtain ⟨⟨g1,g2⟩,g3⟩:=h
   obtain ⟨k1,k2⟩:=ih g3
   refine ⟨List.pairwise_cons.2 ⟨?_,k1⟩,?_⟩
   ·intro p hp hh
    have:flD r q.d=true:=zLn.2 ⟨p,hp,hh.symm⟩
    rw [g1] at this;cases this
   ·intro p hp
    rcases List.mem_cons.1 hp with rfl|hp
    ·simpa using g2
    ·exact k2 p hp
 refine ⟨(hd fl h1).1,(hd fl h1).2,?_⟩
 intro q hq s hs p hp hh
 have:=List.all_eq_true.1 h2 q hq
 rw [hs] at this
 simp only [Bool.not_eq_true'] at this
 have h3:flD fl s=true:=zLn.2 ⟨p,hp,hh.symm⟩
 rw [this] at h3;cases h3
theorem zMs {d:Nat} {x:T} (h:noD d x=true):zO d x=x:=by
 cases x<;>simp only [noD,zO] at h ⊢ <;>first|rfl|(rw [if_neg];intro hh;subst hh;simp at h)|(rw [if_neg];rintro (hh|hh)<;>(subst hh;simp at h))
theorem zOk {St:Type} {d:Nat} {e:Env St} (h1: ∀x,x∈e.tm→noD d x=true) (h2: ∀cs,some cs∈e.vars→ ∀x,x∈cs→noD d x=true) (h3:e.var d=none):e.kill d=e:=by
 obtain ⟨tm,vars,st⟩:=e
 simp only [Env.kill,Env.mk.injEq,and_true]
 refine ⟨?_,?_⟩
 ·exact (List.map_congr_left (fun x hx=>zMs (h1 x hx))).trans (List.map_id _)
 ·have hs:vars.set d none=vars:=by
   apply List.ext_getElem?
   intro i
   rw [List.getElem?_set]
   split
   ·rename_i h;subst h
    simp only [Env.var] at h3
    split
    ·rename_i hl
     rw [List.getElem?_eq_getElem hl] at h3 ⊢
     simpa using h3.symm
    ·rename_i hl;rw [List.getElem?_eq_none (by omega)]
   ·rfl
  rw [hs]
  refine (List.map_congr_left (g:=id) ?_).trans (List.map_id _)
  intro c hc
  cases c with
  |none=>rfl
  |some cs=>exact congrArg some ((List.map_congr_left (fun x hx=>zMs (h2 cs hc x hx))).trans (List.map_id _))
theorem zRL {S:qZ Γ} {L:qK} (st:Γ.St) (hc:isCall o=false):evQ L G S { e with st:=st } o=evQ L G S e o:=
 zJs (fun x _=>by cases x<;>rfl) (fun _ _ _ _ _=>rfl) (fun h=>by rw [hc] at h;cases h)
theorem zSt {St:Type} {b:Env St} : ∀ (L:List Fl) (b:Env St) (x:T),x∈(qQ b L).tm→x∈b.tm∨(∃q,q∈L∧ ∃y,q.v= .c y∧x=y)∨x= .dead:=by
 intro L
 induction L with
 |nil=>intro b x h;exact .inl h
 |cons q L ih=>
  intro b x h
  rcases ih (zA0 b q) x h with h|⟨r,hr,y,hy⟩|h
  ·simp only [zA0] at h
   rcases List.mem_or_eq_of_mem_set h with h|h
   ·exact .inl h
   ·unfold Fl.val at h
    cases hv:q.v with
    |c y=>rw [hv] at h;exact .inr (.inl ⟨q,by simp,y,hv,h⟩)
    |a s=>
     rw [hv] at h
     simp only [Env.get,List.getD_eq_getElem?_getD] at h
     cases hg:b.tm[s]? with
     |none=>rw [hg] at h;exact .inr (.inr h)
     |some z=>rw [hg] at h;simp only [Option.getD_some] at h;subst h;exact .inl (List.mem_of_getElem? hg)
  ·exact .inr (.inl ⟨r,List.mem_cons_of_mem _ hr,y,hy⟩)
  ·exact .inr (.inr h)
theorem zJd {Sp:qZ Γ} {Cm Um:Nat} {anc:Array Nat} (hch:zOB ops anc Cm Um) {fl:List Fl} {e1 b:Env Γ.St} {m:Nat} (hfl:zE4 e1.tm.length fl)
  (hspec: ∀q,q∈fl→Cm.testBit q.i=false∧Um.testBit q.i=true∧ ∃o,ops[q.i]? =some o∧o.dst=some q.d∧((zNP (e1.get q.d)=true∧q.v= .c (e1.get q.d))∨ ∃s,o.op= .move (.tmp s)∧q.v= .a s))
  (hvar: ∀q,q∈fl→e1.var q.d=none) (hA:Agree m (zBV e1 fl) b)
  {q:Fl} (hq:q∈fl) (hst: ∀o,ops[q.i]? =some o→ ∃st st',zBv P G Sp (jK ops Cm) e1 st o st') (h:zSw ops fl m e1 b q=true):zGU P G Sp ops fl b q:=by
 intro o p ho hp
 obtain ⟨hC,hU,o',ho',hd,hcase⟩:=hspec q hq
 rw [ho] at ho'
 cases ho'
 have hg:=hch.guardC q.i o ho (.inr hU)
 have hnc:=hch.call q.i o ho hC hU
 obtain ⟨d1,d2,d3⟩:=zMU hfl
 have hlen:b.tm.length=e1.tm.length:=hA.tl.trans d1.len
 obtain ⟨a1,a2⟩:=uZ (fl.filter p) b e1.tm.length (hfl.filter p) (by rw [hlen];exact Nat.le_refl _)
 have hal:=uB (fl.filter p) b
 unfold zSw at h
 rw [ho] at h
 simp only at h
 rcases hcase with ⟨hpl,hv⟩|⟨s,hop,hv⟩
 ·-- a value
  rw [hv] at h
  simp only [Bool.and_eq_true] at h
  obtain ⟨⟨h1,h2⟩,h3⟩:=h
  obtain ⟨st,st',hstep⟩:=hst o ho
  rcases hstep with ⟨_,r,hev,_,hneed,hdst⟩|⟨hw,_⟩
  ·obtain ⟨g1,g2,g3⟩:=hdst q.d hd
   have hget:=g1 (hfl.lt q hq)
   have hev':evQ P G Sp (qQ b (fl.filter p)) o=some r:=by
    rw [←hev,zRL st hnc, ←zRL (e:=e1) (qQ b (fl.filter p)).st hnc]
    have hops: ∀x,x∈o.op.operands→evx G (qQ b (fl.filter p)) x=evx G e1 x∧ ∀s off,evx G e1 x= .lp s off→(qQ b (fl.filter p)).var s=e1.var s:=by
     intro x hx
     have hok:=List.all_eq_true.1 h1 x (by simpa using hx)
     cases x with
     |tmp t=>
      simp only [zQ9,Bool.and_eq_true,Bool.or_eq_true] at hok
      obtain ⟨hwhich,hm⟩:=hok
      have hvars: ∀s off,e1.get t= .lp s off→(qQ b (fl.filter p)).var s=e1.var s:=by
       intro s off hlp
       rw [hlp] at hm
       simp only [Bool.and_eq_true,Bool.not_eq_true'] at hm
       obtain ⟨hsb,hm⟩:=hm
       split at hm
       ·rename_i cs hcs
        simp only [Bool.and_eq_true,Bool.not_eq_true'] at hm
        have hds: ∃ds:List V,cs=ds.map T.p:=by
         have hall:=hm.1
         clear hcs hm
         induction cs with
         |nil=>exact ⟨[],rfl⟩
         |cons c cs ih=>
          simp only [List.all_cons,Bool.and_eq_true] at hall
          obtain ⟨ds,hds⟩:=ih hall.2
          cases c with
          |p d0=>exact ⟨d0::ds,by rw [hds];rfl⟩
          |_=>simp at hall
        obtain ⟨ds,rfl⟩:=hds
        have hvv:=hA.v s ds hsb hm.2 (by rw [d1.var];exact hcs)
        rw [hal.var,hvv,hcs]
       ·cases hm
      refine ⟨?_,fun s off hs=>hvars s off hs⟩
      show (qQ b (fl.filter p)).get t=e1.get t
      rcases hwhich with hok|hok
      ·simp only [flC,List.any_eq_true,Bool.and_eq_true] at hok
       obtain ⟨q',hq',hqd,hqc⟩:=hok
       have hqd:=Nat.eq_of_beq_eq_true hqd
       subst hqd
       obtain ⟨_,_,o2,ho2,hd2,hcase2⟩:=hspec q' hq'
       have hpq:=hp q' hq' hx
       have hval:=a2 q' (List.mem_filter.2 ⟨hq',hpq⟩)
       have hv2:q'.v= .c (e1.get q'.d):=by
        rcases hcase2 with ⟨_,h5⟩|⟨s5,_,h5⟩
        ·exact h5
        ·rw [h5] at hqc;cases hqc
       rw [hval];unfold Fl.val;rw [hv2]
      ·simp only [Bool.and_eq_true,Bool.not_eq_true'] at hok
       obtain ⟨hnf,hbit⟩:=hok
       have hnf': ∀q',q'∈fl→t≠q'.d:=by
        intro q' hq' hh
        have:flD fl t=true:=zLn.2 ⟨q',hq',hh.symm⟩
        rw [hnf] at this;cases this
       have hdt:=d2 t hnf'
       have hbt:=a1 t (fun q' hq'=>hnf' q' (List.mem_filter.1 hq').1)
       split at hm
       ·rename_i dv hdv
        have:=hA.p t dv hbit (by rw [hdt];exact hdv)
        rw [hbt,this,hdv]
       ·rename_i s off hlp
        simp only [Bool.and_eq_true,Bool.not_eq_true'] at hm
        have:=hA.lp t s off hbit hm.1 (by rw [hdt];exact hlp)
        rw [hbt,this,hlp]
       ·cases hm
     |_=>exact ⟨rfl,fun s off hs=>by
       simp only [evx] at hs
       first|cases hs|(split at hs<;>cases hs)⟩
    exact zHy (fun x hx=>(hops x hx).1) (fun x hx s off hs=>(hops x hx).2 s off (by rw [←(hops x hx).1];exact hs)) rfl
   have hrc:=zHx hev hnc
   refine .inl ?_
   simp only [zGE,hev',hd]
   have hgoal: ∀e2:Env Γ.St,e2= { (qQ b (fl.filter p)) with tm:=(qQ b (fl.filter p)).tm.set q.d (zJ0 q.d r) } →some e2=some (zA0 (qQ b (fl.filter p)) q):=by
    intro e2 he2
    rw [he2]
    unfold zA0 Fl.val
    rw [hv,hget]
   unfold kB
   cases hn:r.needs with
   |false=>
    simp only [hn,Bool.false_eq_true,if_false]
    apply hgoal
    cases r with
    |ret x=>rfl
    |call _ _ _=>cases hrc
    |_=>cases hn
   |true=>
    simp only [hn,if_true]
    unfold clean at h2
    simp only [Bool.and_eq_true] at h2
    obtain ⟨⟨⟨k1,k2⟩,k3⟩,k4⟩:=h2
    have hvl:q.d< (qQ b (fl.filter p)).vars.length:=by rw [hal.vars];simpa using k4
    rw [if_pos ⟨hvl,by obtain ⟨d',hd',hdL⟩:=hneed hn;rw [hd] at hd';simp only [Option.some.injEq] at hd';rw [hd'];exact hdL⟩]
    have hk:(qQ b (fl.filter p)).kill q.d=qQ b (fl.filter p):=by
     refine zOk ?_ ?_ ?_
     ·intro x hx
      rcases zSt (b:=b) _ _ x hx with hx|⟨q',hq',y,hy,rfl⟩|rfl
      ·exact List.all_eq_true.1 k1 x hx
      ·have:=List.all_eq_true.1 h3 q' (List.mem_filter.1 hq').1
       rw [hy] at this
       exact this
      ·rfl
     ·intro cs hcs x hx
      rw [hal.vars] at hcs
      have:=List.all_eq_true.1 k2 (some cs) hcs
      exact List.all_eq_true.1 this x hx
     ·rw [hal.var];exact Option.isNone_iff_eq_none.1 k3
    rw [hk]
    apply hgoal
    cases r with
    |var cs=>have:=g2 cs rfl;rw [hvar q hq] at this;cases this
    |call _ _ _=>cases hrc
    |ret x=>cases hn
    |_=>rfl
  ·simp only [qO,hg] at hw
   cases hw
 ·-- a copy
  refine .inl ?_
  obtain ⟨dst,op,type,pos,after,guard⟩:=o
  simp only at hop hd
  subst hop hd
  simp only [zGE,evQ,kB,R.needs,Bool.false_eq_true,if_false]
  simp only [zA0,Fl.val,hv]
  rfl
theorem zE6 {q:Kex Γ ρ} {K:Env Γ.St→Option ρ} (h:zFo P G S e o=some q) (hK:q K=some v):
  ∃e1,(zGE P G S.toS e o=some e1∨evW P G e o=some e1)∧Agree (qV G e o) e e1∧K e1=some v:=by
 unfold zFo at h
 split at h
 ·rename_i q' hq
  simp only [Option.some.injEq] at h;subst h
  obtain ⟨r,hr,hk⟩:=zEy hq hK
  split at hk
  ·rename_i e1 he1
   refine ⟨e1, .inl ?_,?_,hk⟩
   ·simp only [zGE,hr,he1]
   ·refine (zDm he1).mono ?_
    intro t ht
    simp only [qV,wM] at ht
    exact ht.1
  ·cases hk
 ·obtain ⟨e1,h1,h2⟩:=zKf h hK
  exact ⟨e1, .inr h1,zKR h1,h2⟩
theorem zOx: ∀ (l:List Nat) (e:Env Γ.St),Agree 0 e (frzI l e):=by
 intro l
 induction l with
 |nil=>intro e;exact Agree.refl e
 |cons i r ih=>intro e;exact ((yV i e).trans (ih _)).mono (fun t _=>by simp)
theorem zK7 {q:Kex Γ ρ} {K:Env Γ.St→Option ρ} (h:zNz P G S e o=some q) (hK:q K=some v):
  ∃e1,zDz P G S.toS e o e1∧Agree (qV G e o) e e1∧K e1=some v:=by
 unfold zNz at h
 split at h
 ·rename_i q' hq
  simp only [Option.some.injEq] at h;subst h
  obtain ⟨e1,h1,h2,h3⟩:=zE6 hq hK
  exact ⟨e1,h1.elim .inl (fun h=> .inr (.inl h)),h2,h3⟩
 ·split at h
  ·rename_i hB
   obtain ⟨e1,h1,h2,h3⟩:=zE6 h hK
   refine ⟨e1,?_,?_,h3⟩
   ·rcases h1 with h1|h1
    ·exact .inr (.inr ⟨hB,h1⟩)
    ·rw [zPY hB] at h1
     cases h1
   ·rw [zCI hB] at h2 ⊢
    exact ((zOx _ e).trans h2).mono (fun t ht=>by simpa using ht)
  ·cases h
theorem zQd: ∀ {fl:List Fl} {t:Nat},(xR fl).testBit t=false→ ∀q,q∈fl→t≠2*q.d:=by
 intro fl
 induction fl with
 |nil=>intro t _ q hq;simp at hq
 |cons p r ih=>
  intro t h q hq
  simp only [xR,wM] at h
  rcases List.mem_cons.1 hq with rfl|hq
  ·exact (zIx _ _).1 h.1
  ·exact ih h.2 q hq
theorem zFZ {St:Type} : ∀ (L:List Fl) (e:Env St),Agree (xR L) e (qQ e L):=by
 intro L
 induction L with
 |nil=>intro e;exact Agree.refl e
 |cons q L ih=>intro e;exact (zBd q.d (q.val e) e).trans (ih (zA0 e q))
theorem zKP {L fl:List Fl} (h: ∀q,q∈L→ ∃r,r∈fl∧r.d=q.d) {t:Nat} (ht:(xR fl).testBit t=false):(xR L).testBit t=false:=by
 induction L with
 |nil=>simp [xR]
 |cons q L ih=>
  simp only [xR,wM]
  refine ⟨(zIx _ _).2 ?_,ih (fun p hp=>h p (List.mem_cons_of_mem _ hp))⟩
  obtain ⟨r,hr,hrd⟩:=h q (by simp)
  rw [←hrd]
  exact zQd ht r hr
theorem zKZ {m:Nat} {dst:Option Nat} {q:Fl} (h:zNs m dst q=true):zNi m dst q:=by
 unfold zNs at h
 simp only [Bool.and_eq_true] at h
 obtain ⟨h1,h2⟩:=h
 refine ⟨?_,?_⟩
 ·intro hh
  rw [hh] at h1
  simp at h1
 ·split at h2
  ·rename_i hv;rw [hv];trivial
  ·rename_i hv;rw [hv];simpa using h2
  ·cases h2
  ·rename_i s hv
   rw [hv]
   intro hh
   rw [hh] at h2
   simp at h2
theorem zJG {Cm Um:Nat} {anc:Array Nat} (hch:zOB ops anc Cm Um) {fl:List Fl} {e1:Env Γ.St} (hfl:zE4 e1.tm.length fl)
  (hspec: ∀q,q∈fl→Cm.testBit q.i=false∧Um.testBit q.i=true∧ ∃o,ops[q.i]? =some o∧o.dst=some q.d∧((zNP (e1.get q.d)=true∧q.v= .c (e1.get q.d))∨ ∃s,o.op= .move (.tmp s)∧q.v= .a s))
  (hvar: ∀q,q∈fl→e1.var q.d=none)
  (hst: ∀q,q∈fl→ ∀o,ops[q.i]? =some o→ ∃st st',zBv P G S.toS (jK ops Cm) e1 st o st') {K:Env Γ.St→Nat→Option ρ} : ∀ (l:List Nat) (b:Env Γ.St) (m:Nat),
  zEj P G S ops anc fl e1 l b m K=some v→Agree m (zBV e1 fl) b→(∀t,m.testBit t=false→(xR fl).testBit t=false)→
  ∃b' M,zEm P G S.toS ops anc fl l b b'∧Agree M (zBV e1 fl) (qQ b' fl)∧(∀t,M.testBit t=false→(xR fl).testBit t=false)∧K (qQ b' fl) M=some v:=by
 intro l
 induction l with
 |nil=>
  intro b m h hA hm
  simp only [zEj] at h
  rw [vP] at h
  exact ⟨b,_, .nil b,hA.trans (zFZ fl b),fun t ht=>((wM _ _ _).1 ht).2,h⟩
 |cons c rest ih=>
  intro b m h hA hm
  simp only [zEj] at h
  split at h
  ·rename_i o ho
   rw [vP] at h
   split at h
   ·rename_i hchk
    simp only [Bool.and_eq_true] at hchk
    obtain ⟨hops,hstays⟩:=hchk
    split at h
    ·rename_i q hq
     obtain ⟨b1,h1,h2,h3⟩:=zK7 hq h
     rw [zLm] at h3
     split at h3
     ·rename_i hok
      have hA1:Agree (m|||(xR fl|||qV G (qQ b (fl.filter (zOs anc c))) o)) (zBV e1 fl) b1:=by
       have hput:Agree (xR fl) b (qQ b (fl.filter (zOs anc c))):=(zFZ _ b).mono (fun t ht=>zKP (fun q hq=>⟨q,(List.mem_filter.1 hq).1,rfl⟩) ht)
       exact hA.trans (hput.trans h2)
      obtain ⟨b',M,g1,g2,g3,g4⟩:=ih b1 _ h3 hA1 (fun t ht=>hm t ((wM _ _ _).1 ht).1)
      refine ⟨b',M, .cons ho h1 ?_ ?_ ?_ g1,g2,g3,g4⟩
      ·intro q hqf hx
       have hx1:=List.all_eq_true.1 hops (.tmp q.d) (by simpa using hx)
       have hx2:=List.all_eq_true.1 hx1 q hqf
       simpa [zOs] using hx2
      ·intro q hqf
       exact zKZ (List.all_eq_true.1 hstays q hqf)
      ·intro q hqf hnA
       have hx:=List.all_eq_true.1 hok q hqf
       rw [show zOs anc c q=false from hnA,Bool.false_or] at hx
       exact zJd hch hfl hspec hvar hA1 hqf (hst q hqf) hx
     ·cases h3
    ·cases h
   ·cases h
  ·cases h
theorem zLA (hmix:P.follows .mixedOrders=true) (hS:zZ Γ P G S.toS) {Cm Um lg:Nat} {K:Env Γ.St→Nat→Option ρ} (h:zOl P G S ops Cm Um e lg K=some v): ∃e' d,(∀ (id:Nat) (w0:World) (F0:Blk→Prop) (O0:kC) (a:Act) (w:World) (Q:Exit→Act→World→Prop),
  Inv Γ G w0 F0 O0 a w e→(∀a w,Inv Γ G w0 F0 O0 a w e'→Q .normal a w)→(Code.region id ops true).wp P Q a w)∧Agree d e e'∧K e' (lg|||d)=some v:=by
 unfold zOl at h
 split at h
 ·rename_i hchk
  have hch:=zSY hchk
  rw [vP] at h
  obtain ⟨e1,d1,h1,h2,h3⟩:=zFd _ _ _ h
  split at h3
  ·rename_i fl hfl
   split at h3
   ·rename_i hc
    simp only [Bool.and_eq_true] at hc
    obtain ⟨⟨⟨c1,c2⟩,c3⟩,c4⟩:=hc
    have hflok:=zMJ c1 c2
    obtain ⟨s1,s2⟩:=zPQ _ _ hfl
    have hspec: ∀q,q∈fl→Cm.testBit q.i=false∧Um.testBit q.i=true∧ ∃o,ops[q.i]? =some o∧o.dst=some q.d∧((zNP (e1.get q.d)=true∧q.v= .c (e1.get q.d))∨ ∃s,o.op= .move (.tmp s)∧q.v= .a s):=by
     intro q hq
     obtain ⟨k1,k2⟩:=s1 q hq
     simp only [List.mem_filter,Bool.and_eq_true,Bool.not_eq_true'] at k1
     exact ⟨k1.2.2,k1.2.1,k2⟩
    have hvar: ∀q,q∈fl→e1.var q.d=none:=fun q hq=>Option.isNone_iff_eq_none.1 (List.all_eq_true.1 c3 q hq)
    have hah:=zJM hch.st 0 (jK ops Cm).toList (by simp)
    have hno: ∀d,d∈zK (jK ops Cm).toList→(killAll (zK (jK ops Cm).toList) e).var d=none:=by
     intro d hd
     cases hv:(killAll (zK (jK ops Cm).toList) e).var d with
     |none=>rfl
     |some cs=>exact absurd ⟨cs,hv⟩ (u7 _ e d hd).1
    obtain ⟨sts,_,_,hsteps,_,_,_⟩:=zDd _ _ _ h1 hah hno
    have hst: ∀q,q∈fl→ ∀o,ops[q.i]? =some o→ ∃st st',zBv P G S.toS (jK ops Cm) e1 st o st':=by
     intro q hq o ho
     exact ⟨_,_,hsteps q.i o (by rw [Array.getElem?_toList];exact vV ho (hspec q hq).1)⟩
    rw [vP] at h3
    have hdead:Agree (xR fl) e1 (zBV e1 fl):=(zFZ _ e1).mono (fun t ht=>zKP (fun q hq=>by
     obtain ⟨p,hp,rfl⟩:=List.mem_map.1 hq
     exact ⟨p,hp,rfl⟩) ht)
    have hA0:Agree (xR fl) (zBV e1 fl) (zBV e1 fl):=(Agree.refl _).mono (fun t _=>by simp)
    obtain ⟨b',M,g1,g2,g3,g4⟩:=zJG hch hflok hspec hvar hst _ _ _ h3 hA0 (fun t ht=>ht)
    have hfv: ∀q,q∈fl→e1.get q.d=q.val e1∧e1.var q.d=none:=by
     intro q hq
     refine ⟨?_,hvar q hq⟩
     obtain ⟨hC,hU,o,ho,hd,hcase⟩:=hspec q hq
     rcases hcase with ⟨_,hv⟩|⟨s,hop,hv⟩
     ·unfold Fl.val;rw [hv]
     ·obtain ⟨st,st',hstep⟩:=hst q hq o ho
      have hg:=hch.guardC q.i o ho (.inr hU)
      rcases hstep with ⟨_,r,hev,_,_,hdst⟩|⟨hw,_⟩
      ·obtain ⟨k1,_,_⟩:=hdst q.d hd
       rw [k1 (hflok.lt q hq)]
       simp only [evQ,hop,Option.some.injEq] at hev
       subst hev
       unfold Fl.val;rw [hv];rfl
      ·simp only [qO,hg] at hw;cases hw
    refine ⟨qQ b' fl,(zM3 (zK (jK ops Cm).toList)|||d1)|||M,?_,?_,?_⟩
    ·intro id w0 F0 O0 a w Q hi hQ
     refine zP8 hmix hch hS hi h1 hflok ?_ ?_ hfv ?_ g1 hQ
     ·intro i hU hC hlt
      exact s2 i (by simp [hlt,hU,hC])
     ·intro q hq
      obtain ⟨k1,k2,o,ho,hd,_⟩:=hspec q hq
      exact ⟨k1,k2,o,ho,hd⟩
     ·intro q hq
      exact zJd hch hflok hspec hvar hA0 hq (hst q hq) (List.all_eq_true.1 c4 q hq)
    ·have hd2:Agree M e1 (qQ b' fl):=(hdead.mono (fun t ht=>g3 t ht)).same g2
     exact ((zFe _ e).trans h2).trans hd2
    ·rw [←Nat.or_assoc, ←Nat.or_assoc];exact g4
   ·cases h3
  ·cases h3
 ·cases h
theorem zDT (hmix:P.follows .mixedOrders=true) (hS:zZ Γ P G S.toS) {d:Bool} {fz:Option (List (Nat×Nat×Nat))} {lg:Nat} {K:Env Γ.St→Nat→Option ρ} {id:Nat} (h:zMi P G S ops d fz e lg K=some v):
  ∃e' n,qC P G (.region id ops d) e .normal e'∧Agree n e e'∧K e' (lg|||n)=some v:=by
 have draw: ∀ (e:Env Γ.St) (lg k:Nat),zJC P G S ops k e lg K=some v→ ∃e' n,qC P G (.region id ops true) e .normal e'∧Agree n e e'∧K e' (lg|||n)=some v:=by
  intro e lg k h
  obtain ⟨e1,n,h1,h2,h3⟩:=zLx hmix hS h
  exact ⟨e1,n,fun w0 F0 O0 a w hi=>h1 id w0 F0 O0 a w _ hi (fun a w h=>⟨rfl,h⟩),h2,h3⟩
 unfold zMi at h
 split at h
 ·have seq:(∃e' d,zGR P G ops ops.toList e e'∧Agree d e e'∧K e' (lg|||d)=some v)→ ∃e' n,qC P G (.region id ops false) e .normal e'∧Agree n e e'∧K e' (lg|||n)=some v:=by
   rintro ⟨e1,n,h1,h2,h3⟩
   refine ⟨e1,n,?_,h2,h3⟩
   intro w0 F0 O0 a w hi
   refine wp_region ?_
   have:=zSq (Q:=fun ex a' w'=>ex=X.toExit .normal∧Inv Γ G w0 F0 O0 a' w' e1) ops 0 ops.toList e e1 a w (by simp) h1 hi (fun a w h=>⟨rfl,h⟩)
   simpa [List.range_eq_range'] using this
  split at h
  ·exact seq (zAb hS _ _ _ h)
  ·exact seq (zAb hS _ _ _ h)
  ·split at h
   ·exact seq (zMe hS h)
   ·exact seq (zAb hS _ _ _ h)
 ·split at h
  ·exact draw e lg _ h
  ·rw [vP] at h
   obtain ⟨e1,n,h1,h2,h3⟩:=draw _ _ _ h
   exact ⟨e1,_,fun w0 F0 O0 a w hi=>h1 w0 F0 O0 a w (Inv.frzOps _ _ hi),(zDl _ e).trans h2,by rw [←Nat.or_assoc];exact h3⟩
  ·split at h
   ·exact draw e lg _ h
   ·exact draw e lg _ h
   ·rw [vP] at h
    obtain ⟨e1,n,h1,h2,h3⟩:=zLA hmix hS h
    exact ⟨e1,_,fun w0 F0 O0 a w hi=>h1 id w0 F0 O0 a w _ (Inv.frzOps _ _ hi) (fun a w h=>⟨rfl,h⟩),(zDl _ e).trans h2,by rw [←Nat.or_assoc];exact h3⟩
theorem zPR (a b:Nat):zSa (zMh a b):=⟨fun _=>rfl,fun _ _=>rfl,rfl⟩
theorem zNC {K:Env Γ.St→Option ρ} : ∀ (l:List (Nat×Nat×Nat)) (e:Env Γ.St),zPv l e K=some v→ ∃e',Agree 0 e e'∧K e'=some v∧ ∀ (w0:World) (F0:Blk→Prop) (O0:kC) (a:Act) (w:World),Inv Γ G w0 F0 O0 a w e→Inv Γ G w0 F0 O0 a w e':=by
 intro l
 induction l with
 |nil=>intro e h;exact ⟨e,Agree.refl e,h,fun _ _ _ _ _ h=>h⟩
 |cons x r ih=>
  intro e h
  obtain ⟨a,b,n⟩:=x
  simp only [zPv] at h
  split at h
  ·split at h
   ·rename_i hb
    rw [vP] at h
    obtain ⟨e',h1,h2,h3⟩:=ih _ h
    exact ⟨e',(yL (zPR a b) e).same h1,h2,fun w0 F0 O0 a0 w hi=>h3 w0 F0 O0 a0 w (by
     simp only [Bool.and_eq_true,Bool.not_eq_true'] at hb
     exact hi.ren hb.1 (fun h=>by rw [h] at hb;simp at hb) (fun h=>by rw [h] at hb;simp at hb))⟩
   ·cases h
  ·rw [vP] at h
   obtain ⟨e',h1,h2,h3⟩:=ih _ h
   exact ⟨e',(yV _ e).same h1,h2,fun w0 F0 O0 a0 w hi=>h3 w0 F0 O0 a0 w (hi.frzOE _)⟩
  ·exact ih e h
theorem zIW (hmix:P.follows .mixedOrders=true) (hS:zZ Γ P G S.toS) {d:Bool} {fz:Option (List (Nat×Nat×Nat))} {lg:Nat} {K:Env Γ.St→Nat→Option ρ} {id:Nat} (h:zSs P G S ops d fz e lg K=some v):
  ∃e' n,qC P G (.region id ops d) e .normal e'∧Agree n e e'∧K e' (lg|||n)=some v:=by
 unfold zSs at h
 split at h
 ·exact zDT hmix hS h
 ·exact zDT hmix hS h
 ·obtain ⟨e1,n,h1,h2,h3⟩:=zDT hmix hS (id:=id) h
  obtain ⟨e2,g1,g2,g3⟩:=zNC (G:=G) _ _ h3
  refine ⟨e2,n,?_,h2.same (g1.mono (fun t _=>by simp)),g2⟩
  intro w0 F0 O0 a w hi
  exact wp_mono (h1 w0 F0 O0 a w hi) (fun ex a' w' hh=>⟨hh.1,g3 w0 F0 O0 a' w' hh.2⟩)
end
end Go.Ve

namespace Go.Ve
open Go
inductive Cell where
 |p (ty:Ty)
 |o (id:Nat) (ty:Ty)
inductive yZ where
 |t (i:Nat) (ty:Ty)
 |o (i id:Nat) (ty:Ty)
 |v (s:Nat) (cs:List Cell)
 |st
@[reducible] def Cell.El:Cell→Type
 | .p ty=>ty.El
 | .o _ ty=>List ty.El
@[reducible] def zKS:List Cell→Type
 |[]=>Unit
 |[c]=>c.El
 |c::c'::r=>c.El×zKS (c'::r)
@[reducible] def yZ.El (St:Type):yZ→Type
 | .t _ ty=>ty.El
 | .o _ _ ty=>List ty.El
 | .v _ cs=>zKS cs
 | .st=>St
@[reducible] def j3 (St:Type):List yZ→Type
 |[]=>Unit
 |[c]=>c.El St
 |c::c'::r=>c.El St×j3 St (c'::r)
def rdT (ty:Ty):T→Option ty.El
 | .p d=>ty.dec d
 | .emp=>ty.dec (.sl [])
 |_=>none
def rdO (id:Nat) (ty:Ty):T→Option (List ty.El)
 | .p (.val (.slice none 0 0))=>some []
 | .emp=>some []
 | .ot i t xs=>match Nat.beq i id with
  |true=>zGM t ty xs
  |false=>none
 |_=>none
def zLZ:Nat→List T→Option (List V×List T)
 |0,r=>some ([],r)
 |n+1, .p d::r=>match zLZ n r with
  |some (ds,r')=>some (d::ds,r')
  |none=>none
 |_+1,_=>none
def zHc:(c:Cell)→List T→Option (c.El×List T)
 | .p ty,ts=>match zLZ ty.size ts with
  |some (ds,r)=>match ty.uncells ds with
   |some (x,[])=>some (x,r)
   |_=>none
  |none=>none
 | .o id ty,x::r=>match rdO id ty x with
  |some xs=>some (xs,r)
  |none=>none
 | .o _ _,[]=>none
def zEx:(cs:List Cell)→List T→Option (zKS cs)
 |[],[]=>some ()
 |[],_::_=>none
 |[c],ts=>match zHc c ts with
  |some (x,[])=>some x
  |_=>none
 |c::c'::r,ts=>match zHc c ts with
  |some (x,ts')=>match zEx (c'::r) ts' with
   |some xs=>some (x,xs)
   |none=>none
  |none=>none
def zGY:(c:Cell)→c.El→List T
 | .p ty,x=>(ty.cells x).map .p
 | .o id ty,xs=>[.ot id ty xs]
def zEo:(cs:List Cell)→zKS cs→List T
 |[],_=>[]
 |[c],x=>zGY c x
 |c::c'::r,x=>zGY c x.1++zEo (c'::r) x.2
section
variable {St:Type}
def zFp (e:Env St):(s:yZ)→Option (s.El St)
 | .t i ty=>rdT ty (e.get i)
 | .o i id ty=>rdO id ty (e.get i)
 | .v s cs=>match e.var s with
  |some ts=>zEx cs ts
  |none=>none
 | .st=>some e.st
def rdS (e:Env St):(l:List yZ)→Option (j3 St l)
 |[]=>some ()
 |[s]=>zFp e s
 |s::s'::r=>match zFp e s with
  |some x=>match rdS e (s'::r) with
   |some xs=>some (x,xs)
   |none=>none
  |none=>none
def zBi:(s:yZ)→s.El St→List (Nat×T)
 | .t i ty,x=>[(i, .p (ty.enc x))]
 | .o i id ty,xs=>[(i, .ot id ty xs)]
 | .v _ _,_=>[]
 | .st,_=>[]
def zCf:(s:yZ)→s.El St→List (Nat×List T)
 | .v s cs,x=>[(s,zEo cs x)]
 | .t _ _,_=>[]
 | .o _ _ _,_=>[]
 | .st,_=>[]
def tmS:(l:List yZ)→j3 St l→List (Nat×T)
 |[],_=>[]
 |[s],x=>zBi s x
 |s::s'::r,x=>zBi s x.1++tmS (s'::r) x.2
def vS:(l:List yZ)→j3 St l→List (Nat×List T)
 |[],_=>[]
 |[s],x=>zCf s x
 |s::s'::r,x=>zCf s x.1++vS (s'::r) x.2
def zG7:(s:yZ)→s.El St→Option St
 | .st,x=>some x
 | .t _ _,_=>none
 | .o _ _ _,_=>none
 | .v _ _,_=>none
def stS:(l:List yZ)→j3 St l→Option St
 |[],_=>none
 |[s],x=>zG7 s x
 |s::s'::r,x=>match zG7 s x.1 with
  |some y=>some y
  |none=>stS (s'::r) x.2
def zUj (x:Option St) (y:St):St:=
 match x with
 |some z=>z
 |none=>y
def zCw:List yZ→Bool
 |[]=>false
 | .st::_=>true
 | .t _ _::r=>zCw r
 | .o _ _ _::r=>zCw r
 | .v _ _::r=>zCw r
end
def zAT {α:Type} :List (Nat×α)→Nat→Option α
 |[],_=>none
 |(j,x)::r,i=>match Nat.beq j i with
  |true=>some x
  |false=>zAT r i
def zFX:List T→Bool
 |[]=>true
 | .p _::r=>zFX r
 |_=>false
def zJk (m i:Nat):Option (List T)→Option (List T)
 |some cs=>match Nat.testBit m (2*i)||Nat.testBit m (2*i+1)|| !zFX cs with
  |true=>none
  |false=>some cs
 |none=>none
def kK (m:Nat) (vs:List (Nat×List T)):Nat→List (Option (List T))→List (Option (List T))
 |_,[]=>[]
 |i,x::r=>(match zAT vs i with
  |some y=>some y
  |none=>zJk m i x)::kK m vs (i+1) r
def isVar (vars:List (Option (List T))) (s:Nat):Bool:=
 match vars[s]? with
 |some (some _)=>true
 |_=>false
def zKz (m:Nat) (vars:List (Option (List T))):T→T
 | .p d=> .p d
 | .lp s off=>match !Nat.testBit m (2*s)&&isVar vars s with
  |true=> .lp s off
  |false=> .dead
 |_=> .dead
def zD2 (m:Nat) (ts:List (Nat×T)) (vars:List (Option (List T))):Nat→List T→List T
 |_,[]=>[]
 |i,x::r=>(match zAT ts i with
  |some y=>y
  |none=>match Nat.testBit m (2*i) with
   |true=> .dead
   |false=>zKz m vars x)::zD2 m ts vars (i+1) r
structure JA where
 mask:Nat
 lps:List (Nat×Nat×Nat)
 sl:List yZ
def lpT (vars:List (Option (List T))) (s off:Nat):T:=
 match isVar vars s with
 |true=> .lp s off
 |false=> .dead
def zLk (vars:List (Option (List T))):List (Nat×Nat×Nat)→List (Nat×T)
 |[]=>[]
 |(i,s,off)::r=>(i,lpT vars s off)::zLk vars r
def zGx:List (Nat×Nat×Nat)→Nat
 |[]=>0
 |(i,_,_)::r=>2^(2*i)|||zGx r
def wY:List yZ→Nat
 |[]=>0
 | .t i _::r=>2^(2*i)|||wY r
 | .o i _ _::r=>2^(2*i)|||wY r
 | .v s _::r=>2^(2*s+1)|||wY r
 | .st::r=>wY r
def JA.bits (j:JA):Nat:=j.mask|||(zGx j.lps|||wY j.sl)
def zTU (s off:Nat):T→Bool
 | .lp s' off'=>Nat.beq s' s&&Nat.beq off' off
 |_=>false
section
variable {St:Type}
def zRW (e:Env St):List (Nat×Nat×Nat)→Bool
 |[]=>true
 |(i,s,off)::r=>zTU s off (e.get i)&&zRW e r
def rdJ (j:JA) (e:Env St):Option (j3 St j.sl):=
 match zRW e j.lps with
 |true=>rdS e j.sl
 |false=>none
def qI (j:JA) (e:Env St) (s:j3 St j.sl):Env St:=
 ⟨zD2 j.bits (zLk (kK j.bits (vS j.sl s) 0 e.vars) j.lps++tmS j.sl s) (kK j.bits (vS j.sl s) 0 e.vars) 0 e.tm,kK j.bits (vS j.sl s) 0 e.vars,zUj (stS j.sl s) e.st⟩
def uF:List yZ→Nat→Bool
 |[],_=>false
 | .v s _::r,i=>Nat.beq s i||uF r i
 | .t _ _::r,i=>uF r i
 | .o _ _ _::r,i=>uF r i
 | .st::r,i=>uF r i
def zNK (j:JA) (e:Env St):Nat→List T→Bool
 |_,[]=>true
 |i, .lp s _::r=>(Nat.testBit j.bits (2*i)||Nat.testBit j.bits (2*s)||(uF j.sl s&&(e.vars[s]?).isSome)||(zJk j.bits s (e.var s)).isSome)&&zNK j e (i+1) r
 |i,_::r=>zNK j e (i+1) r
def okJ (j:JA) (e:Env St):Bool:=zNK j e 0 e.tm
def zLt (j:JA) (e:Env St) (lg:Nat):Option (j3 St j.sl):=
 match Nat.beq (lg|||j.bits) j.bits with
 |true=>rdJ j e
 |false=>none
end
def kI {σ ρ:Type} (m:Option (σ ⊕ ρ)) (K:σ→Option ρ):Option ρ:=
 match m with
 |none=>none
 |some (.inl s)=>K s
 |some (.inr r)=>some r
def zBn {σ ρ:Type} (f:σ→Option (σ ⊕ ρ)):Nat→σ→Option ρ
 |0,_=>none
 |n+1,s=>match f s with
  |none=>none
  |some (.inl s')=>zBn f n s'
  |some (.inr r)=>some r
open Classical in
noncomputable def zM {σ ρ:Type} (f:σ→Option (σ ⊕ ρ)) (s:σ):Option ρ:=
 if h: ∃n r,zBn f n s=some r then some (Classical.choose (Classical.choose_spec h)) else none
theorem zJm {σ ρ:Type} {f:σ→Option (σ ⊕ ρ)} : ∀ (n m:Nat) (s:σ) (r:ρ),n≤m→zBn f n s=some r→zBn f m s=some r:=by
 intro n
 induction n with
 |zero=>intro m s r _ h;simp [zBn] at h
 |succ n ih=>
  intro m s r hm h
  obtain ⟨m',rfl⟩: ∃m',m=m'+1:=⟨m-1,by omega⟩
  simp only [zBn] at h ⊢
  split at h
  ·cases h
  ·exact ih m' _ r (by omega) h
  ·exact h
theorem zEC {σ ρ:Type} {f:σ→Option (σ ⊕ ρ)} {s:σ} {r:ρ} :zM f s=some r↔ ∃n,zBn f n s=some r:=by
 unfold zM
 constructor
 ·intro h
  split at h
  ·rename_i hex
   simp only [Option.some.injEq] at h
   subst h
   exact ⟨_,Classical.choose_spec (Classical.choose_spec hex)⟩
  ·cases h
 ·rintro ⟨n,hn⟩
  have hex: ∃n r,zBn f n s=some r:=⟨n,r,hn⟩
  rw [dif_pos hex]
  have h1:=Classical.choose_spec (Classical.choose_spec hex)
  have h2:=zJm _ (max (Classical.choose hex) n) s _ (by omega) h1
  have h3:=zJm _ (max (Classical.choose hex) n) s _ (by omega) hn
  rw [h2] at h3
  exact h3
theorem zMy {σ ρ:Type} (f:σ→Option (σ ⊕ ρ)) (s:σ):zM f s=match f s with
  |none=>none
  |some (.inl s')=>zM f s'
  |some (.inr r)=>some r:=by
 have key: ∀r,zM f s=some r↔(match f s with
  |none=>none
  |some (.inl s')=>zM f s'
  |some (.inr r)=>some r)=some r:=by
  intro r
  rw [zEC]
  constructor
  ·rintro ⟨n,hn⟩
   cases n with
   |zero=>simp [zBn] at hn
   |succ n=>
    simp only [zBn] at hn
    split at hn
    ·cases hn
    ·exact zEC.2 ⟨n,hn⟩
    ·exact hn
  ·intro h
   split at h
   ·cases h
   ·obtain ⟨n,hn⟩:=zEC.1 h
    rename_i s' hs
    exact ⟨n+1,by simp only [zBn,hs];exact hn⟩
   ·rename_i r' hs
    exact ⟨1,by simp only [zBn,hs];exact h⟩
 cases hl:zM f s with
 |some r=>exact ((key r).1 hl).symm
 |none=>
  generalize hm:(match f s with
   |none=>none
   |some (.inl s')=>zM f s'
   |some (.inr r)=>some r)=m at key ⊢
  cases m with
  |none=>rfl
  |some r=>rw [(key r).2 rfl] at hl;cases hl
theorem zPF {σ ρ:Type} {f:σ→Option (σ ⊕ ρ)} (J:σ→Prop) (m:σ→Nat) (Q:ρ→Prop)
  (step: ∀s,J s→ ∃o,f s=some o∧match o with
   | .inl s'=>J s'∧m s'<m s
   | .inr r=>Q r) {s:σ} (h:J s): ∃r,zM f s=some r∧Q r:=by
 have key: ∀ (n:Nat) (s:σ),m s=n→J s→ ∃r,zM f s=some r∧Q r:=by
  intro n
  induction n using Nat.strongRecOn with
  |_ n ih=>
   intro s hs hj
   obtain ⟨o,ho,h1⟩:=step s hj
   rw [zMy,ho]
   cases o with
   |inl s'=>exact ih _ (by rw [←hs];exact h1.2) s' rfl h1.1
   |inr r=>exact ⟨r,rfl,h1⟩
 exact key _ s rfl h
def zFA:List Nat→Code→Bool
 |ids, .exit id=>ids.any (Nat.beq id)
 |_, .ret=>false
 |ids, .seq a b=>zFA ids a&&zFA ids b
 |ids, .cond _ a b=>zFA ids a&&zFA ids b
 |ids, .block id a=>zFA (id::ids) a
 |ids, .loop a=>zFA ids a
 |_,_=>true
section
variable {Γ:Sig} (P:qK) (G:Nat→Option (List V)) (S:zL Γ) (A:Nat→Option JA)
def zF6 {ρ:Type} (body:(X→Env Γ.St→Nat→Option ρ)→Env Γ.St→Nat→Option ρ) (K:X→Env Γ.St→Nat→Option ρ):Nat→Env Γ.St→Nat→Option ρ
 |0,_,_=>none
 |n+1,e,lg=>body (fun k e1 lg1=>match k with
  | .normal=>zF6 body K n e1 lg1
  |k=>K k e1 lg1) e lg
def zSH (t:Nat) (c:Code):Option JA:=
 match keyOf c with
 |some k=>A (4*k+t)
 |none=>none
noncomputable def exC:Code→(ρ:Type)→(X→Env Γ.St→Nat→Option ρ)→Env Γ.St→Nat→Option ρ
 | .skip,_,K,e,lg=>K .normal e lg
 | .seq x y,ρ,K,e,lg=>match zSH A 0 y with
  |some j=>match zFA [] x with
   |true=>zE1 (okJ j e) (Option.bind (exC x (j3 Γ.St j.sl) (fun k e1 lg1=>match k with
     | .normal=>zLt j e1 lg1
     |_=>none) e 0) (fun s=>zBm (qI j e s) (fun e1=>exC y ρ K e1 (lg|||j.bits))))
   |false=>zE1 (okJ j e) (kI (exC x (j3 Γ.St j.sl ⊕ ρ) (fun k e1 lg1=>match k with
     | .normal=>(zLt j e1 lg1).map .inl
     |k=>(K k e1 (lg|||lg1)).map .inr) e 0) (fun s=>zBm (qI j e s) (fun e1=>exC y ρ K e1 (lg|||j.bits))))
  |none=>exC x ρ (fun k e1 lg1=>match k with
   | .normal=>exC y ρ K e1 lg1
   |k=>K k e1 lg1) e lg
 | .cond c x y,ρ,K,e,lg=>match evx G e c with
  | .p (.val (.bool b))=>cond b (exC x ρ K e lg) (exC y ρ K e lg)
  |_=>none
 | .block id c,ρ,K,e,lg=>exC c ρ (fun k e1 lg1=>K (k.out id) e1 lg1) e lg
 | .loop c,ρ,K,e,lg=>match zSH A 1 c with
  |some j=>zE1 (okJ j e) (Option.bind (rdJ j e) (fun s0=>zM (fun s=>zBm (qI j e s) (fun e0=>exC c (j3 Γ.St j.sl ⊕ ρ) (fun k e1 lg1=>match k with
    | .normal=>(zLt j e1 lg1).map .inl
    |k=>(K k e1 (lg|||(j.bits|||lg1))).map .inr) e0 0)) s0))
  |none=>zF6 (exC c ρ) K 80 e lg
 | .exit id,_,K,e,lg=>K (.exit id) e lg
 | .ret,_,K,e,lg=>K .ret e lg
 | .region id ops d,_,K,e,lg=>match A (4*id+2) with
  |some j=>zE1 (okJ j e) (Option.bind (zSs P G S ops d ((A (4*id+3)).map (·.lps)) e 0 (fun e1 lg1=>zLt j e1 lg1)) (fun s=>zBm (qI j e s) (fun e1=>K .normal e1 (lg|||j.bits))))
  |none=>zSs P G S ops d ((A (4*id+3)).map (·.lps)) e lg (fun e1 lg1=>K .normal e1 lg1)
 |_,_,_,_,_=>none
end
theorem zLY: ∀ (n:Nat) (ts:List T) (ds:List V) (r:List T),zLZ n ts=some (ds,r)→ts=ds.map .p++r∧ds.length=n:=by
 intro n
 induction n with
 |zero=>intro ts ds r h;simp only [zLZ,Option.some.injEq,Prod.mk.injEq] at h;obtain ⟨rfl,rfl⟩:=h;exact ⟨rfl,rfl⟩
 |succ n ih=>
  intro ts ds r h
  unfold zLZ at h
  split at h
  ·rename_i heq;cases heq
  ·rename_i m d r0 heq
   cases heq
   split at h
   ·rename_i ds' r' hr
    simp only [Option.some.injEq,Prod.mk.injEq] at h
    obtain ⟨rfl,rfl⟩:=h
    obtain ⟨h1,h2⟩:=ih _ _ _ hr
    exact ⟨by rw [h1];rfl,by simp [h2]⟩
   ·cases h
  ·cases h
theorem uO.append: ∀ {xs ys xs' ys':List T},uO xs ys→uO xs' ys'→uO (xs++xs') (ys++ys')
 |[],[],_,_,_,h=>h
 |_::_,_::_,_,_,h,h'=>⟨h.1,uO.append h.2 h'⟩
 |[],_::_,_,_,h,_=>h.elim
 |_::_,[],_,_,h,_=>h.elim
theorem uO.ofV: ∀ {xs ys:List V},jQ xs ys→uO (xs.map .p) (ys.map .p)
 |[],[],_=>trivial
 |_::_,_::_,h=>⟨fun w F _ _ v hr=>h.1 w F v hr,uO.ofV h.2⟩
 |[],_::_,h=>h.elim
 |_::_,[],h=>h.elim
theorem zPw {ty:Ty} {x:T} {a:ty.El} (h:rdT ty x=some a):WkT x (.p (ty.enc a)):=by
 unfold rdT at h
 split at h
 ·exact fun w F _ _ v hr=>yT h w F v hr
 ·intro w F β al v hr
  obtain ⟨ad,rfl⟩:=hr
  exact yT h w F _ (.slemp ad 0)
 ·cases h
theorem zAA {t t':Ty} {xs:List t.El} {ys:List t'.El} (h:zGM t t' xs=some ys):zN3 t t' xs ys:=by
 simp only [zN3,h]
theorem zKr {id:Nat} {ty:Ty} {x:T} {xs:List ty.El} (h:rdO id ty x=some xs):WkT x (.ot id ty xs):=by
 unfold rdO at h
 split at h
 ·simp only [Option.some.injEq] at h;subst h
  exact fun w F β al v hh=> .inl ⟨rfl,none,Rd.eq_val hh⟩
 ·simp only [Option.some.injEq] at h;subst h
  exact fun w F β al v hh=> .inl ⟨rfl,hh⟩
 ·rename_i i t ys
  split at h
  ·rename_i hb
   have hi:=Nat.eq_of_beq_eq_true hb
   subst hi
   obtain ⟨ht,h⟩:=zAe (zAA h)
   subst ht
   subst h
   exact .refl _
  ·cases h
 ·cases h
theorem zGk: ∀ {c:Cell} {ts r:List T} {x:c.El},zHc c ts=some (x,r)→ ∃ts1,ts=ts1++r∧uO ts1 (zGY c x)
 | .p ty,ts,r,x,h=>by
  simp only [zHc] at h
  split at h
  ·rename_i ds r' hr
   split at h
   ·rename_i y hy
    simp only [Option.some.injEq,Prod.mk.injEq] at h
    obtain ⟨rfl,rfl⟩:=h
    obtain ⟨h1,h2⟩:=zLY _ _ _ _ hr
    obtain ⟨cs1,h3,h4⟩:=vD _ _ _ _ hy
    rw [List.append_nil] at h3
    subst h3
    exact ⟨_,h1,uO.ofV h4⟩
   ·cases h
  ·cases h
 | .o id ty,y::ts,r,x,h=>by
  simp only [zHc] at h
  split at h
  ·rename_i xs hx
   simp only [Option.some.injEq,Prod.mk.injEq] at h
   obtain ⟨rfl,rfl⟩:=h
   exact ⟨[y],rfl,zKr hx,trivial⟩
  ·cases h
 | .o _ _,[],_,_,h=>by simp [zHc] at h
theorem zE7: ∀ (cs:List Cell) (ts:List T) (x:zKS cs),zEx cs ts=some x→uO ts (zEo cs x)
 |[],[],_,_=>trivial
 |[],_::_,_,h=>by simp [zEx] at h
 |[c],ts,x,h=>by
  simp only [zEx] at h
  split at h
  ·rename_i y hy
   simp only [Option.some.injEq] at h
   subst h
   obtain ⟨ts1,h1,h2⟩:=zGk hy
   rw [List.append_nil] at h1
   subst h1
   exact h2
  ·cases h
 |c::c'::r,ts,x,h=>by
  simp only [zEx] at h
  split at h
  ·rename_i y ts' hy
   split at h
   ·rename_i ys hys
    simp only [Option.some.injEq] at h
    subst h
    obtain ⟨ts1,h1,h2⟩:=zGk hy
    subst h1
    exact h2.append (zE7 (c'::r) ts' ys hys)
   ·cases h
  ·cases h
section
variable {St:Type} {e e1:Env St}
theorem zKq {s:yZ} {x:s.El St} (h:zFp e s=some x): ∀i y,(i,y)∈zBi s x→WkT (e.get i) y:=by
 intro i y hy
 cases s with
 |t j ty=>
  simp only [zBi,List.mem_singleton,Prod.mk.injEq] at hy
  obtain ⟨rfl,rfl⟩:=hy
  exact zPw h
 |o j id ty=>
  simp only [zBi,List.mem_singleton,Prod.mk.injEq] at hy
  obtain ⟨rfl,rfl⟩:=hy
  exact zKr h
 |v s cs=>simp [zBi] at hy
 |st=>simp [zBi] at hy
theorem zMk {s:yZ} {x:s.El St} (h:zFp e s=some x): ∀i cs2,(i,cs2)∈zCf s x→ ∃cs,e.var i=some cs∧uO cs cs2:=by
 intro i y hy
 cases s with
 |t j ty=>simp [zCf] at hy
 |o j id ty=>simp [zCf] at hy
 |st=>simp [zCf] at hy
 |v s cs=>
  simp only [zCf,List.mem_singleton,Prod.mk.injEq] at hy
  obtain ⟨rfl,rfl⟩:=hy
  simp only [zFp] at h
  split at h
  ·rename_i ts hts
   exact ⟨ts,hts,zE7 _ _ _ h⟩
  ·cases h
theorem zQZ: ∀ {l:List yZ} {x:j3 St l},rdS e l=some x→ ∀i y,(i,y)∈tmS l x→WkT (e.get i) y
 |[],_,_,i,y,hy=>by simp [tmS] at hy
 |[s],x,h,i,y,hy=>zKq (s:=s) h i y hy
 |s::s'::r,x,h,i,y,hy=>by
  simp only [rdS] at h
  split at h
  ·rename_i a ha
   split at h
   ·rename_i as has
    simp only [Option.some.injEq] at h
    subst h
    simp only [tmS,List.mem_append] at hy
    rcases hy with hy|hy
    ·exact zKq ha i y hy
    ·exact zQZ has i y hy
   ·cases h
  ·cases h
theorem zTj: ∀ {l:List yZ} {x:j3 St l},rdS e l=some x→ ∀i cs2,(i,cs2)∈vS l x→ ∃cs,e.var i=some cs∧uO cs cs2
 |[],_,_,i,y,hy=>by simp [vS] at hy
 |[s],x,h,i,y,hy=>zMk (s:=s) h i y hy
 |s::s'::r,x,h,i,y,hy=>by
  simp only [rdS] at h
  split at h
  ·rename_i a ha
   split at h
   ·rename_i as has
    simp only [Option.some.injEq] at h
    subst h
    simp only [vS,List.mem_append] at hy
    rcases hy with hy|hy
    ·exact zMk ha i y hy
    ·exact zTj has i y hy
   ·cases h
  ·cases h
theorem zQ0: ∀ {l:List yZ} {x:j3 St l},rdS e l=some x→ ∀y,stS l x=some y→y=e.st
 |[],_,_,y,hy=>by simp [stS] at hy
 |[s],x,h,y,hy=>by
  cases s<;>simp [stS,zG7] at hy
  simp only [rdS,zFp,Option.some.injEq] at h
  rw [←hy, ←h]
 |s::s'::r,x,h,y,hy=>by
  simp only [rdS] at h
  split at h
  ·rename_i a ha
   split at h
   ·rename_i as has
    simp only [Option.some.injEq] at h
    subst h
    simp only [stS] at hy
    split at hy
    ·rename_i z hz
     cases s<;>simp [zG7] at hz
     simp only [zFp,Option.some.injEq] at ha
     simp only [Option.some.injEq] at hy
     rw [←hy, ←hz, ←ha]
    ·exact zQ0 has y hy
   ·cases h
  ·cases h
theorem zL3: ∀ {l:List yZ} (x:j3 St l),zCw l=true→ ∃y,stS l x=some y
 |[],_,h=>by simp [zCw] at h
 |[s],x,h=>by
  cases s<;>simp [zCw] at h
  exact ⟨x,rfl⟩
 |s::s'::r,x,h=>by
  simp only [stS]
  cases hs:zG7 s x.1 with
  |some y=>exact ⟨y,rfl⟩
  |none=>
   have h':zCw (s'::r)=true:=by
    cases s<;>simp only [zCw] at h ⊢ <;>first|exact h|simp [zG7] at hs
   obtain ⟨y,hy⟩:=zL3 (l:=s'::r) x.2 h'
   exact ⟨y,hy⟩
theorem zCv {α:Type} : ∀ {l:List (Nat×α)} {i:Nat} {x:α},zAT l i=some x→(i,x)∈l
 |[],_,_,h=>by simp [zAT] at h
 |(j,y)::r,i,x,h=>by
  simp only [zAT] at h
  split at h
  ·rename_i hb
   have:=Nat.eq_of_beq_eq_true hb
   subst this
   simp only [Option.some.injEq] at h
   subst h
   exact List.mem_cons_self
  ·exact List.mem_cons_of_mem _ (zCv h)
theorem zA4 (m:Nat) (vs:List (Nat×List T)): ∀ (l:List (Option (List T))) (n i:Nat),(kK m vs n l)[i]? =(l[i]?).map (fun x=>match zAT vs (n+i) with
  |some y=>some y
  |none=>zJk m (n+i) x)
 |[],n,i=>by simp [kK]
 |x::r,n,i=>by
  cases i with
  |zero=>simp [kK]
  |succ i=>simp only [kK,List.getElem?_cons_succ];rw [zA4 m vs r (n+1) i];rw [show n+1+i=n+(i+1) by omega]
theorem zFE (m:Nat) (ts:List (Nat×T)) (vars:List (Option (List T))): ∀ (l:List T) (n i:Nat),(zD2 m ts vars n l)[i]? =(l[i]?).map (fun x=>match zAT ts (n+i) with
  |some y=>y
  |none=>match Nat.testBit m (2*(n+i)) with
   |true=> .dead
   |false=>zKz m vars x)
 |[],n,i=>by simp [zD2]
 |x::r,n,i=>by
  cases i with
  |zero=>simp [zD2]
  |succ i=>simp only [zD2,List.getElem?_cons_succ];rw [zFE m ts vars r (n+1) i];rw [show n+1+i=n+(i+1) by omega]
theorem zGz (m:Nat) (vs:List (Nat×List T)): ∀ (l:List (Option (List T))) (n:Nat),(kK m vs n l).length=l.length
 |[],_=>rfl
 |_::r,n=>by simp [kK,zGz m vs r (n+1)]
theorem zJl (m:Nat) (ts:List (Nat×T)) (vars:List (Option (List T))): ∀ (l:List T) (n:Nat),(zD2 m ts vars n l).length=l.length
 |[],_=>rfl
 |_::r,n=>by simp [zD2,zJl m ts vars r (n+1)]
theorem zPb: ∀ {cs:List T},zFX cs=true→ ∃ds:List V,cs=ds.map .p
 |[],_=>⟨[],rfl⟩
 | .p d::r,h=>by
  obtain ⟨ds,hds⟩:=zPb (cs:=r) h
  exact ⟨d::ds,by rw [hds];rfl⟩
 | .ow _ _ _::_,h=>by simp [zFX] at h
 | .oe _ _ _ _ _::_,h=>by simp [zFX] at h
 | .lp _ _::_,h=>by simp [zFX] at h
 | .mp _ _ _::_,h=>by simp [zFX] at h
 | .ot _ _ _::_,h=>by simp [zFX] at h
 | .oet _ _ _ _ _::_,h=>by simp [zFX] at h
 | .ov _ _ _ _ _::_,h=>by simp [zFX] at h
 | .on _::_,h=>by simp [zFX] at h
 | .emp::_,h=>by simp [zFX] at h
 | .dead::_,h=>by simp [zFX] at h
theorem zJj {m i:Nat} {x:Option (List T)} {cs:List T} (h:zJk m i x=some cs):x=some cs∧m.testBit (2*i)=false∧m.testBit (2*i+1)=false∧ ∃ds:List V,cs=ds.map .p:=by
 unfold zJk at h
 split at h
 ·split at h
  ·cases h
  ·rename_i hb
   simp only [Bool.or_eq_false_iff,Bool.not_eq_false'] at hb
   simp only [Option.some.injEq] at h
   subst h
   exact ⟨rfl,hb.1.1,hb.1.2,zPb hb.2⟩
 ·cases h
theorem zCH {s:Nat} {cs:List T} (h:e.vars[s]? =some (some cs)):e.var s=some cs:=by simp [Env.var,h]
theorem zFH {s:Nat} {cs:List T} (h:e.var s=some cs):e.vars[s]? =some (some cs):=by
 simp only [Env.var] at h
 cases hs:e.vars[s]? with
 |none=>rw [hs] at h;cases h
 |some x=>rw [hs] at h;simp only [Option.getD_some] at h;rw [h]
theorem zKB {j:JA} {s:j3 St j.sl} {i:Nat} {cs2:List T} (h:(qI j e s).var i=some cs2):
  (i,cs2)∈vS j.sl s∨(e.var i=some cs2∧j.bits.testBit (2*i)=false∧j.bits.testBit (2*i+1)=false∧ ∃ds:List V,cs2=ds.map .p):=by
 have h1:=zFH h
 simp only [qI] at h1
 rw [zA4] at h1
 simp only [Option.map_eq_some_iff,Nat.zero_add] at h1
 obtain ⟨x,hx,h2⟩:=h1
 split at h2
 ·rename_i y hy
  simp only [Option.some.injEq] at h2
  subst h2
  exact .inl (zCv hy)
 ·obtain ⟨rfl,h3,h4,h5⟩:=zJj h2
  exact .inr ⟨zCH hx,h3,h4,h5⟩
theorem zJh {vars:List (Option (List T))} : ∀ {l:List (Nat×Nat×Nat)} {i:Nat} {y:T},(i,y)∈zLk vars l→ ∃s off,(i,s,off)∈l∧y=lpT vars s off
 |[],_,_,h=>by simp [zLk] at h
 |(j,s,off)::r,i,y,h=>by
  simp only [zLk,List.mem_cons,Prod.mk.injEq] at h
  rcases h with ⟨rfl,rfl⟩|h
  ·exact ⟨s,off,List.mem_cons_self,rfl⟩
  ·obtain ⟨s',off',h1,h2⟩:=zJh h
   exact ⟨s',off',List.mem_cons_of_mem _ h1,h2⟩
theorem zSK {s off:Nat} {x:T} (h:zTU s off x=true):x= .lp s off:=by
 unfold zTU at h
 split at h
 ·simp only [Bool.and_eq_true] at h
  rw [Nat.eq_of_beq_eq_true h.1,Nat.eq_of_beq_eq_true h.2]
 ·cases h
theorem zMX: ∀ {l:List (Nat×Nat×Nat)},zRW e l=true→ ∀i s off,(i,s,off)∈l→e.get i= .lp s off
 |[],_,_,_,_,h=>by simp at h
 |(j,s0,off0)::r,h,i,s,off,hm=>by
  simp only [zRW,Bool.and_eq_true] at h
  simp only [List.mem_cons,Prod.mk.injEq] at hm
  rcases hm with ⟨rfl,rfl,rfl⟩|hm
  ·exact zSK h.1
  ·exact zMX h.2 i s off hm
theorem zPE (vars:List (Option (List T))) (s off:Nat):lpT vars s off= .dead∨(lpT vars s off= .lp s off∧isVar vars s=true):=by
 unfold lpT
 split
 ·rename_i h;exact .inr ⟨rfl,h⟩
 ·exact .inl rfl
theorem zPI {j:JA} {s:j3 St j.sl} {i:Nat} (hi:i<e.tm.length):
  (∃y,(i,y)∈zLk (qI j e s).vars j.lps++tmS j.sl s∧(qI j e s).get i=y)∨
   ((qI j e s).get i= .dead)∨(j.bits.testBit (2*i)=false∧(qI j e s).get i=zKz j.bits (qI j e s).vars (e.get i)):=by
 have h1:(qI j e s).tm[i]? =_:=zFE j.bits (zLk (qI j e s).vars j.lps++tmS j.sl s) (qI j e s).vars e.tm 0 i
 rw [List.getElem?_eq_getElem hi,Option.map_some,Nat.zero_add] at h1
 have hg:(qI j e s).get i=((qI j e s).tm[i]?).getD .dead:=by simp [Env.get,List.getD_eq_getElem?_getD]
 have he:e.get i=e.tm[i]:=by simp [Env.get,hi]
 rw [hg,h1,he]
 simp only [Option.getD_some]
 split
 ·rename_i y hy
  exact .inl ⟨y,zCv hy,rfl⟩
 ·split
  ·exact .inr (.inl rfl)
  ·rename_i hb
   exact .inr (.inr ⟨hb,rfl⟩)
theorem zEG {j:JA} {s:j3 St j.sl} :(qI j e s).tm.length=e.tm.length∧(qI j e s).vars.length=e.vars.length:=
 ⟨zJl _ _ _ _ _,zGz _ _ _ _⟩
theorem zRs {i:Nat} (h:e.tm.length≤i):e.get i= .dead:=by simp [Env.get,List.getD_eq_getElem?_getD,h]
theorem zHq {s:Nat} :isVar e.vars s=true↔ ∃cs,e.var s=some cs:=by
 unfold isVar
 constructor
 ·intro h
  split at h
  ·rename_i cs hcs;exact ⟨cs,zCH hcs⟩
  ·cases h
 ·rintro ⟨cs,hcs⟩
  rw [zFH hcs]
end
theorem zPa {St:Type} {l:List yZ} {x:j3 St l} : ∀ {i:Nat} {y:T},(i,y)∈tmS l x→(wY l).testBit (2*i)=true:=by
 match l,x with
 |[],_=>intro i y h;simp [tmS] at h
 |[s],x=>
  intro i y h
  cases s<;>simp only [tmS,zBi,List.mem_singleton,Prod.mk.injEq,List.not_mem_nil] at h
  all_goals
   obtain ⟨rfl,_⟩:=h
   simp [wY,Nat.testBit_two_pow]
 |s::s'::r,x=>
  intro i y h
  simp only [tmS,List.mem_append] at h
  rcases h with h|h
  ·cases s<;>simp only [zBi,List.mem_singleton,Prod.mk.injEq,List.not_mem_nil] at h
   all_goals
    obtain ⟨rfl,_⟩:=h
    simp [wY,Nat.testBit_two_pow,Nat.testBit_or]
  ·have:=zPa (l:=s'::r) (x:=x.2) h
   cases s<;>simp [wY,Nat.testBit_or] at this ⊢ <;>first|exact .inr this|exact this
theorem zRZ {St:Type} {l:List yZ} {x:j3 St l} : ∀ {i:Nat} {y:List T},(i,y)∈vS l x→(wY l).testBit (2*i+1)=true:=by
 match l,x with
 |[],_=>intro i y h;simp [vS] at h
 |[s],x=>
  intro i y h
  cases s<;>simp only [vS,zCf,List.mem_singleton,Prod.mk.injEq,List.not_mem_nil] at h
  all_goals
   obtain ⟨rfl,_⟩:=h
   simp [wY,Nat.testBit_two_pow]
 |s::s'::r,x=>
  intro i y h
  simp only [vS,List.mem_append] at h
  rcases h with h|h
  ·cases s<;>simp only [zCf,List.mem_singleton,Prod.mk.injEq,List.not_mem_nil] at h
   all_goals
    obtain ⟨rfl,_⟩:=h
    simp [wY,Nat.testBit_two_pow,Nat.testBit_or]
  ·have:=zRZ (l:=s'::r) (x:=x.2) h
   cases s<;>simp [wY,Nat.testBit_or] at this ⊢ <;>first|exact .inr this|exact this
theorem zK3 {St:Type} : ∀ {l:List yZ} {x:j3 St l} {i:Nat},uF l i=true→ ∃cs,zAT (vS l x) i=some cs:=by
 have app: ∀ {a b:List (Nat×List T)} {i:Nat},((∃cs,zAT a i=some cs)∨ ∃cs,zAT b i=some cs)→ ∃cs,zAT (a++b) i=some cs:=by
  intro a b i h
  induction a with
  |nil=>
   rcases h with ⟨cs,h⟩|h
   ·simp [zAT] at h
   ·exact h
  |cons x a ih=>
   obtain ⟨k,y⟩:=x
   simp only [List.cons_append,zAT] at h ⊢
   split
   ·exact ⟨_,rfl⟩
   ·rename_i hb
    simp only [hb] at h
    exact ih h
 have one: ∀ {s:yZ} {x:s.El St} {i:Nat},uF [s] i=true→ ∃cs,zAT (zCf s x) i=some cs:=by
  intro s x i h
  cases s<;>simp only [uF,Bool.or_false,Bool.false_eq_true] at h
  simp only [zCf,zAT,h]
  exact ⟨_,rfl⟩
 intro l
 induction l with
 |nil=>intro x i h;simp [uF] at h
 |cons s r ih=>
  intro x i h
  cases r with
  |nil=>exact one (s:=s) (x:=x) h
  |cons s' r=>
   have h2:uF [s] i=true∨uF (s'::r) i=true:=by
    cases s<;>simp only [uF,Bool.or_eq_true,Bool.or_false] at h ⊢
    ·exact .inr h
    ·exact .inr h
    ·exact h
    ·exact .inr h
   simp only [vS]
   rcases h2 with h2|h2
   ·exact app (.inl (one h2))
   ·exact app (.inr (ih h2))
theorem zM1: ∀ {l:List (Nat×Nat×Nat)} {i s off:Nat},(i,s,off)∈l→(zGx l).testBit (2*i)=true
 |[],_,_,_,h=>by simp at h
 |(j,s0,off0)::r,i,s,off,h=>by
  simp only [List.mem_cons,Prod.mk.injEq] at h
  simp only [zGx,Nat.testBit_or,Bool.or_eq_true,Nat.testBit_two_pow,decide_eq_true_eq]
  rcases h with ⟨rfl,_⟩|h
  ·exact .inl rfl
  ·exact .inr (zM1 h)
end Go.Ve

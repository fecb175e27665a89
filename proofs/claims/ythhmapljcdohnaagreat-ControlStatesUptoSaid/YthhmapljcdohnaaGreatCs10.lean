/-
  Functions out of code, part 3: regions.
  Functions out of code, part 4: joins, loops, statements.
-/
import Derived.Test.YthhmapljcdohnaaGreatCs9
set_option linter.unusedVariables false
namespace Go.Ve
open Go

section
variable {Γ : Sig} {ρ : Type} (P : Look) (G : Nat → Option (List V)) (S : SpecsX Γ)

/-- Append behind the beginning of an own list. -/
def appVX (e : Env Γ.St) (dst : Option Tmp) (c : Call) : Option (Kex Γ ρ) :=
  match c.callee, c.args.toList, c.argTypes.toList, dst with
  | .builtin .append, [.tmp p, x1], [t0, t1], some d =>
    match e.get p with
    | .ov id t' xs 0 hi => match P.und t0, P.und t1 with
      | some (.slice el), some (.slice _) => match P.inf el with
        | some info => match info.zero, srcT (evx G e x1) with
          | some z, some ⟨t, y :: ys⟩ =>
            if neTmp p x1 = false then none else
            if h : t' = t then
              if t.size = info.size ∧ 1 ≤ info.bytes ∧ zcells z = info.size ∧ id ≠ lentId then
                some (fun K => Option.bind (app info.bytes (List.take hi (h ▸ xs)) (y :: ys)) fun zs => K { (e.kill id) with tm := (e.kill id).tm.set d (.ot id t zs) })
              else none
            else none
          | _, _ => none
        | none => none
      | _, _ => none
    | _ => none
  | _, _, _, _ => none

/-- Writing operations on typed data. -/
def wX (e : Env Γ.St) (o : Oper) : Option (Kex Γ ρ) :=
  match o.op with
  | .store t ap x => match o.dst with
    | some _ => none
    | none => match evx G e ap, evx G e x with
      | .oet id ty xs i off, .p d =>
        if size? P t = some d.cells.length ∧ off + d.cells.length ≤ ty.size ∧ d.cells.all V.one = true ∧ (ty.aggT = false → d.cells.length = 1 ∧ ty.size = 1) then
          some (fun K => Option.bind (atN xs i) fun y => match newEl ty y off d with
            | some z => K (e.mapT (updTT id ty i z))
            | none => none)
        else none
      | .oet id ty _ i off, .ot id2 t2 ys => match ty with
        | .sl t3 => if t3 = t2 ∧ off = 0 ∧ size? P t = some 1 ∧ id = nestId ∧ id ≠ id2 then some (fun K => need (!ys.isEmpty) (K (e.mapT (updJ id id2 t2 i ys)))) else none
        | _ => none
      | .on ⟨id, id2, ty, _, _, ys, .q k off⟩, .p d =>
        if size? P t = some d.cells.length ∧ off + d.cells.length ≤ ty.size ∧ d.cells.all V.one = true ∧ (ty.aggT = false → d.cells.length = 1 ∧ ty.size = 1) ∧ id ≠ id2 ∧ id ≠ lentId ∧ id2 ≠ lentId then
          some (fun K => Option.bind (atN ys k) fun y => match newEl ty y off d with
            | some z => K (e.mapT (updF id id2 ty k z))
            | none => none)
        else none
      | _, _ => none
  | .call c => match appVX P G e o.dst c with
    | some q => some q
    | none => match c.callee, c.args.toList, c.argTypes.toList, o.dst with
    | .builtin .append, [x0, x1], [t0, t1], some d => match P.und t0, P.und t1 with
      | some (.slice el), some (.slice _) => match P.inf el with
        | some info => match info.zero, srcT (evx G e x1) with
          | some z, some ⟨t, ys⟩ => match dstT t (evx G e x0) with
            | some (nm, xs) =>
              if t.size = info.size ∧ 1 ≤ info.bytes ∧ zcells z = info.size ∧ nm.getD d ≠ lentId then
                some (fun K => Option.bind (app info.bytes xs ys) fun zs =>
                  K { (e.kill (nm.getD d)) with tm := (e.kill (nm.getD d)).tm.set d (.ot (nm.getD d) t zs) })
              else none
            | none => none
          | _, _ => none
        | none => none
      | _, _ => none
    | _, _, _, _ => none
  | _ => none

def wXs (e : Env Γ.St) (o : Oper) : Option (Kex Γ ρ) :=
  match wX P G e o with
  | some q => some q
  | none => match evW P G e o with
    | some e1 => some (fun K => K e1)
    | none => none

/-- One route: what only makes, then what writes. -/
def routeX (e : Env Γ.St) (o : Oper) : Option (Kex Γ ρ) :=
  match qXs P G S e o with
  | some q => some (fun K => q (fun r => match applyR e o.dst r with
    | some e1 => K e1
    | none => none))
  | none => wXs P G e o

/-- A call to which a list of the frame's own is lent. -/
def borX (e : Env Γ.St) (o : Oper) : Option (Kex Γ ρ) :=
  match o.op with
  | .call c => match c.callee, c.args.toList with
    | .value f, .tmp p :: xs => match evx G e f, e.get p, pureArgs G e xs with
      | .p (.clo g []), .ot id t ys, some ds => match S g e.st (.bot :: .tl t ys :: ds) with
        | some cx => match cx.pl with
          | false => some (fun K => need (andL (lensB id p ys.length 0 e.tm)) (Option.bind cx.m fun y => match cx.res y with
            | .p (.tup [.tl _ _, .bot]) => none
            | .p (.tup [.tl t' zs, d]) => if h : t' = t then K (putB e id p t (h ▸ zs) (cx.st y) o.dst d) else none
            | _ => none))
          | true => match Nat.beq id lentId with
            | true => none
            | false => some (fun K => Option.bind cx.m fun y => match cx.res y with
              | .p (.tup [.tl t' zs, .bot]) => if h : t' = t then K (putM e id t (h ▸ zs) (cx.st y) o.dst) else none
              | _ => none)
        | none => none
      | _, _, _ => none
    | _, _ => none
  | _ => none

def ptrTy (tys : List TypeId) (k : Nat) : Option Ty :=
  match tys[k]? with
  | some tp => match P.und tp with
    | some (.pointer el) => P.ty el
    | _ => P.ty tp
  | none => none

/-- A call to which a variable of the frame's own is lent by its pointer. -/
def ptrX (e : Env Γ.St) (o : Oper) : Option (Kex Γ ρ) :=
  match o.op with
  | .call c => match c.callee with
    | .value f => match evx G e f, splitP G e c.args.toList with
      | .p (.clo g []), some (k, s, xs) => match pureArgs G e xs, e.var s, ptrTy P c.argTypes.toList k with
        | some ds, some cs, some t => match pureTs cs with
          | some vs => match t.dec (.agg vs) with
            | some y => match S g e.st (.bot :: .tl t [y] :: .bot :: .val (.int .i64 (k : Int)) :: ds) with
              | some cx => match cx.pl with
                | false => some (fun K => Option.bind cx.m fun u => match cx.res u with
                  | .p (.tup [.tl t' [z], d]) => if h : t' = t then K (putP e s t (h ▸ z) (cx.st u) o.dst d) else none
                  | _ => none)
                | true => none
              | none => none
            | none => none
          | none => none
        | _, _, _ => none
      | _, _ => none
    | _ => none
  | _ => none

/-- A call to which the element of a row is lent by its pointer. -/
def ptrEX (e : Env Γ.St) (o : Oper) : Option (Kex Γ ρ) :=
  match o.op with
  | .call c => match c.callee with
    | .value f => match evx G e f, splitE G e c.args.toList with
      | .p (.clo g []), some (k, id, ⟨t, y⟩, xs) => match pureArgs G e xs with
        | some ds => match S g e.st (.bot :: .tl t [y] :: .bot :: .val (.int .i64 (k : Int)) :: ds) with
          | some cx => match cx.pl with
            | false => some (fun K => Option.bind cx.m fun u => match cx.res u with
              | .p (.tup [.tl t' [z], d]) => if h : t' = t then K (putE e id t (h ▸ z) (cx.st u) o.dst d) else none
              | _ => none)
            | true => none
          | none => none
        | none => none
      | _, _ => none
    | _ => none
  | _ => none

def bitP : Option (Nat × Nat × List Operand) → Nat
  | some (_, s, _) => 2 ^ (2 * s + 1)
  | none => 0

/-- The numbers of what an operation may turn, the variables that are lent with them. -/
def touchB (e : Env Γ.St) (o : Oper) : Nat :=
  touchW G e o ||| match o.op with
  | .call c => bitP (splitP G e c.args.toList)
  | _ => 0

/-- One route, or a list or a variable is lent. -/
def routeB (e : Env Γ.St) (o : Oper) : Option (Kex Γ ρ) :=
  match routeX P G S e o with
  | some q => some q
  | none => match borX G S e o with
    | some q => some q
    | none => match ptrX P G S e o with
      | some q => some q
      | none => ptrEX G S e o

def anyX (e : Env Γ.St) (lg : Nat) (o : Oper) (K : Env Γ.St → Nat → Option ρ) : Option ρ :=
  match routeB P G S e o with
  | some q => q (fun e1 => K e1 (lg ||| touchB G e o))
  | none => match routeB P G S (frzOps G (frzSel o) e) o with
    | some q => q (fun e1 => K e1 (lg ||| (touchF G (frzSel o) e ||| touchB G (frzOps G (frzSel o) e) o)))
    | none => none

/-- With its guard: where the guard is open, both ways. -/
def stepX (ops : Array Oper) (e : Env Γ.St) (lg : Nat) (o : Oper) (K : Env Γ.St → Nat → Option ρ) : Option ρ :=
  match o.guard with
  | none => anyX P G S e lg o K
  | some (j, want) => match (ops[j]?).bind (·.dst) with
    | none => K (e.put o.dst (.p (.val undef))) (lg ||| bitO o.dst)
    | some t => match e.get t with
      | .p (.val (.bool b)) => if t < e.tm.length then
          cond b (match want with
            | true => kOne t (e.lit t true) (fun e => anyX P G S e lg o K)
            | false => K ((e.lit t true).put o.dst (.p (.val undef))) (lg ||| bitO o.dst))
          (match want with
            | true => K ((e.lit t false).put o.dst (.p (.val undef))) (lg ||| bitO o.dst)
            | false => kOne t (e.lit t false) (fun e => anyX P G S e lg o K))
        else none
      | .p (.val (.tuple _)) => K (e.put o.dst (.p (.val undef))) (lg ||| bitO o.dst)
      | _ => none

def seqX (ops : Array Oper) : List Oper → Env Γ.St → Nat → (Env Γ.St → Nat → Option ρ) → Option ρ
  | [], e, lg, K => K e lg
  | o :: rest, e, lg, K => stepX P G S ops e lg o (fun e1 lg => kOp o e1 (fun e1 => seqX ops rest e1 lg K))

/-- A literal that is the frame's own. -/
def ownX (e : Env Γ.St) (o : Oper) (K : Env Γ.St → Option ρ) : Option ρ :=
  match o.guard with
  | none => match qXs P G S e o with
    | some q => q (fun r => match r with
      | .frzT t xs => match applyR e o.dst (.ownT t xs) with
        | some e1 => K e1
        | none => none
      | _ => none)
    | none => none
  | some _ => none

/-- A region in which the literal that is made at place k is the frame's own. -/
def seqOX (ops : Array Oper) (k : Nat) (e : Env Γ.St) (lg : Nat) (K : Env Γ.St → Nat → Option ρ) : Option ρ :=
  seqX P G S ops (ops.toList.take k) e lg (fun e lg => match ops.toList.drop k with
    | o :: rest => ownX P G S e o (fun e1 => kOp o e1 (fun e1 => seqX P G S ops rest e1 (lg ||| bitO o.dst) K))
    | [] => none)

/-- A region in which what stands in t is frozen before the operation at place k. -/
def seqFX (ops : Array Oper) (k t : Nat) (e : Env Γ.St) (lg : Nat) (K : Env Γ.St → Nat → Option ρ) : Option ρ :=
  seqX P G S ops (ops.toList.take k) e lg (fun e lg => match ops.toList.drop k with
    | o :: rest => match o.guard with
      | none => kEnv (frzOps G [.tmp t] e) (fun e0 => stepX P G S ops e0 (lg ||| touchF G [.tmp t] e) o (fun e1 lg => kOp o e1 (fun e1 => seqX P G S ops rest e1 lg K)))
      | some _ => none
    | [] => none)

def drawStepX (e : Env Γ.St) (lg : Nat) (o : Oper) (K : Env Γ.St → Nat → Option ρ) : Option ρ :=
  match qXs P G S e o with
  | some q => q (fun r => match applyD e o.dst r with
    | some e1 => K e1 (lg ||| bitO o.dst)
    | none => none)
  | none => none

def drawGoX (ops : Array Oper) : List Oper → Env Γ.St → Nat → (Env Γ.St → Nat → Option ρ) → Option ρ
  | [], e, lg, K => K e lg
  | o :: rest, e, lg, K =>
    match o.guard with
    | none => if pendOk G (dstsOf (o :: rest)) e o then drawStepX P G S e lg o (fun e1 lg => kOp o e1 (fun e1 => drawGoX ops rest e1 lg K)) else none
    | some (j, want) => match (ops[j]?).bind (·.dst) with
      | none => kOne (o.dst.getD 0) (e.put o.dst (.p (.val undef))) (fun e1 => drawGoX ops rest e1 (lg ||| bitO o.dst) K)
      | some t => match e.get t with
        | .p (.val (.bool b)) => if t < e.tm.length then
            cond b (match want with
              | true => kOne t (e.lit t true) (fun e => if pendOk G (dstsOf (o :: rest)) e o then drawStepX P G S e lg o (fun e1 lg => kOp o e1 (fun e1 => drawGoX ops rest e1 lg K)) else none)
              | false => kOne (o.dst.getD 0) ((e.lit t true).put o.dst (.p (.val undef))) (fun e1 => drawGoX ops rest e1 (lg ||| bitO o.dst) K))
            (match want with
              | true => kOne (o.dst.getD 0) ((e.lit t false).put o.dst (.p (.val undef))) (fun e1 => drawGoX ops rest e1 (lg ||| bitO o.dst) K)
              | false => kOne t (e.lit t false) (fun e => if pendOk G (dstsOf (o :: rest)) e o then drawStepX P G S e lg o (fun e1 lg => kOp o e1 (fun e1 => drawGoX ops rest e1 lg K)) else none))
          else none
        | .p (.val (.tuple _)) => kOne (o.dst.getD 0) (e.put o.dst (.p (.val undef))) (fun e1 => drawGoX ops rest e1 (lg ||| bitO o.dst) K)
        | _ => none

def bitsL : List Nat → Nat
  | [] => 0
  | d :: r => 2 ^ (2 * d) ||| bitsL r

def drawXK (ops : Array Oper) (k : Nat) (e : Env Γ.St) (lg : Nat) (K : Env Γ.St → Nat → Option ρ) : Option ρ :=
  if k ≤ ops.size && tailOk ops k && guardOk ops k && drawOk (ops.extract 0 k) then
    kEnv (killAll (dstsOf (ops.extract 0 k).toList) e) (fun e => drawGoX P G S (ops.extract 0 k) (ops.extract 0 k).toList e (lg ||| bitsL (dstsOf (ops.extract 0 k).toList))
      (fun e1 lg => seqX P G S ops (ops.toList.drop k) e1 lg K))
  else none

def drawX (ops : Array Oper) (e : Env Γ.St) (lg : Nat) (K : Env Γ.St → Nat → Option ρ) : Option ρ := drawXK P G S ops (tailAt ops.toList) e lg K

def isPL : T → Bool
  | .p _ => true
  | .lp _ _ => true
  | _ => false

/-- The floating operations, out of the state behind all that does not write. -/
def flOf {St : Type} (ops : Array Oper) (e1 : Env St) : List Nat → Option (List Fl)
  | [] => some []
  | i :: r => match ops[i]? with
    | some o => match o.dst with
      | some d => match isPL (e1.get d) with
        | true => (flOf ops e1 r).map (⟨i, d, .c (e1.get d)⟩ :: ·)
        | false => match o.op with
          | .move (.tmp s) => (flOf ops e1 r).map (⟨i, d, .a s⟩ :: ·)
          | _ => none
      | none => none
    | none => none

def flD (fl : List Fl) (t : Nat) : Bool := fl.any (fun q => Nat.beq q.d t)

def flC (fl : List Fl) (t : Nat) : Bool := fl.any (fun q => Nat.beq q.d t && (match q.v with
  | .c _ => true
  | .a _ => false))

def flOkB (n : Nat) : List Fl → Bool
  | [] => true
  | q :: r => !flD r q.d && Nat.blt q.d n && flOkB n r

def flSrcB (fl : List Fl) : Bool := fl.all (fun q => match q.v with
  | .c _ => true
  | .a s => !flD fl s)

def noD (d : Nat) : T → Bool
  | .ow i _ _ => !Nat.beq i d
  | .oe i _ _ _ _ => !Nat.beq i d
  | .lp s _ => !Nat.beq s d
  | .mp i _ _ => !Nat.beq i d
  | .ot i _ _ => !Nat.beq i d
  | .oet i _ _ _ _ => !Nat.beq i d
  | .ov i _ _ _ _ => !Nat.beq i d
  | .on n => !Nat.beq n.id d && !Nat.beq n.id2 d
  | _ => true

/-- Number d stands for nothing of the frame's own. -/
def clean {St : Type} (d : Nat) (e : Env St) : Bool :=
  e.tm.all (noD d) && e.vars.all (fun c => match c with
    | some cs => cs.all (noD d)
    | none => true) && (e.var d).isNone && Nat.blt d e.vars.length

def okOpnd {St : Type} (fl : List Fl) (m : Nat) (e1 : Env St) : Operand → Bool
  | .tmp t => (flC fl t || (!flD fl t && !Nat.testBit m (2 * t))) && (match e1.get t with
    | .p _ => true
    | .lp s _ => !Nat.testBit m (2 * s) && (match e1.var s with
      | some cs => cs.all (fun x => match x with | .p _ => true | _ => false) && !Nat.testBit m (2 * s + 1)
      | none => false)
    | _ => false)
  | _ => true

/-- The floating operation may still come up. -/
def okFl {St : Type} (ops : Array Oper) (fl : List Fl) (m : Nat) (e1 b : Env St) (q : Fl) : Bool :=
  match ops[q.i]? with
  | some o => match q.v with
    | .a s => match o.op with
      | .move (.tmp s') => Nat.beq s' s
      | _ => false
    | .c _ => o.op.operands.toList.all (okOpnd fl m e1) && clean q.d b && fl.all (fun r => match r.v with
      | .c x => noD q.d x
      | .a _ => true)
  | none => false

def staysB (m : Nat) (dst : Option Nat) (q : Fl) : Bool :=
  (match dst with
    | some d => !Nat.beq d q.d
    | none => true) && (match q.v with
    | .c (.p _) => true
    | .c (.lp s _) => !Nat.testBit m (2 * s)
    | .c _ => false
    | .a s => match dst with
      | some d => !Nat.beq d s
      | none => true)

def opsB (fl : List Fl) (A : Fl → Bool) (o : Oper) : Bool :=
  o.op.operands.toList.all (fun x => match x with
    | .tmp t => fl.all (fun q => !Nat.beq q.d t || A q)
    | _ => true)

def bitsF : List Fl → Nat
  | [] => 0
  | q :: r => 2 ^ (2 * q.d) ||| bitsF r

def ancA (anc : Array Nat) (c : Nat) (q : Fl) : Bool := (anc.getD c 0).testBit q.i && decide (q.i < c)

/-- One route; a composite may freeze what it is built of. -/
def routeF (e : Env Γ.St) (o : Oper) : Option (Kex Γ ρ) :=
  match routeX P G S e o with
  | some q => some q
  | none => match isBuild o with
    | true => routeX P G S (frzB G o e) o
    | false => none

/-- The chain: each operation where the floating ones that it needs have come up. -/
def chainGoX (ops : Array Oper) (anc : Array Nat) (fl : List Fl) (e1 : Env Γ.St) : List Nat → Env Γ.St → Nat → (Env Γ.St → Nat → Option ρ) → Option ρ
  | [], b, m, K => kEnv (putL b fl) (fun e => K e (m ||| bitsF fl))
  | c :: rest, b, m, K => match ops[c]? with
    | some o => kEnv (putL b (fl.filter (ancA anc c))) (fun bA => match opsB fl (ancA anc c) o && fl.all (staysB (touchW G bA o) o.dst) with
      | true => match routeF P G S bA o with
        | some q => q (fun b1 => kOp o b1 (fun b1 => match fl.all (fun q => ancA anc c q || okFl ops fl (m ||| (bitsF fl ||| touchW G bA o)) e1 b1 q) with
          | true => chainGoX ops anc fl e1 rest b1 (m ||| (bitsF fl ||| touchW G bA o)) K
          | false => none))
        | none => none
      | false => none)
    | none => none

def chainX (ops : Array Oper) (Cm Um : Nat) (e : Env Γ.St) (lg : Nat) (K : Env Γ.St → Nat → Option ρ) : Option ρ :=
  if chOk ops (Region.before ops) Cm Um then
    kEnv (killAll (dstsOf (opsQ ops Cm).toList) e) (fun e => drawGoX P G S (opsQ ops Cm) (opsQ ops Cm).toList e (lg ||| bitsL (dstsOf (opsQ ops Cm).toList))
      (fun e1 lg => match flOf ops e1 ((List.range ops.size).filter (fun i => Nat.testBit Um i && !Nat.testBit Cm i)) with
        | some fl => match flOkB e1.tm.length fl && flSrcB fl && fl.all (fun q => (e1.var q.d).isNone) && fl.all (okFl ops fl (bitsF fl) e1 (deadL e1 fl)) with
          | true => kEnv (deadL e1 fl) (fun b => chainGoX P G S ops (Region.before ops) fl e1 ((List.range ops.size).filter (fun i => Nat.testBit Cm i)) b (bitsF fl) (fun e2 m => K e2 (lg ||| m)))
          | false => none
        | none => none))
  else none

def renX : List (Nat × Nat × Nat) → Env Γ.St → (Env Γ.St → Option ρ) → Option ρ
  | [], e, K => K e
  | (a, b, n) :: r, e, K => match n with
    | 1 => match noOE b e && (!Nat.beq a lentId && !Nat.beq b lentId) with
      | true => kEnv (e.mapT (renT a b)) (fun e => renX r e K)
      | false => none
    | 2 => kEnv (frzOE a e) (fun e => renX r e K)
    | _ => renX r e K

def frzTs : List (Nat × Nat × Nat) → List Operand
  | [] => []
  | (t, _, n) :: r => match n with
    | 0 => .tmp t :: frzTs r
    | _ => frzTs r

def regX0 (ops : Array Oper) (d : Bool) (fz : Option (List (Nat × Nat × Nat))) (e : Env Γ.St) (lg : Nat) (K : Env Γ.St → Nat → Option ρ) : Option ρ :=
  match d with
  | false => match fz with
    | none => seqX P G S ops ops.toList e lg K
    | some [] => seqX P G S ops ops.toList e lg K
    | some ((k, t, n) :: _) => match n with
      | 7 => seqOX P G S ops k e lg K
      | 6 => seqFX P G S ops k t e lg K
      | _ => seqX P G S ops ops.toList e lg K
  | true => match fz with
    | none => drawX P G S ops e lg K
    | some [] => kEnv (frzOps G (callOperands ops.toList) e) (fun e1 => drawX P G S ops e1 (lg ||| touchF G (callOperands ops.toList) e) K)
    | some ((Cm, Um, n) :: ts) => match n with
      | 9 => drawX P G S ops e lg K
      | 8 => drawXK P G S ops Cm e lg K
      | _ => kEnv (frzOps G (frzTs ts) e) (fun e1 => chainX P G S ops Cm Um e1 (lg ||| touchF G (frzTs ts) e) K)

/-- A region; where it says so, what calls take is frozen first, or what writes makes a chain; behind it slices of the frame's own may get other numbers. -/
def regX (ops : Array Oper) (d : Bool) (fz : Option (List (Nat × Nat × Nat))) (e : Env Γ.St) (lg : Nat) (K : Env Γ.St → Nat → Option ρ) : Option ρ :=
  match fz with
  | none => regX0 P G S ops d fz e lg K
  | some [] => regX0 P G S ops d fz e lg K
  | some (x :: ts) => regX0 P G S ops d fz e lg (fun e1 lg1 => renX ts e1 (fun e2 => K e2 lg1))
end

section
variable {Γ : Sig} {ρ : Type} {P : Program} {G : Nat → Option (List V)} {S : SpecsX Γ} {e : Env Γ.St} {o : Oper} {ops : Array Oper} {v : ρ}

theorem appVX_sound {q : Kex Γ ρ} {K : Env Γ.St → Option ρ} {dst : Option Tmp} {c : Call} (h : appVX P G e dst c = some q) (hK : q K = some v) : ∃ e1, evAppendV P G e dst c = some e1 ∧ K e1 = some v := by
  unfold appVX at h
  split at h
  · rename_i p x1 t0 t1 d hcal hargs htys
    split at h
    · rename_i id t' xs hi hget
      split at h
      · rename_i el el1 hu0 hu1
        split at h
        · rename_i info hinfo
          split at h
          · rename_i z t y ys hz hsrc
            split at h
            · cases h
            · rename_i hne
              split at h
              · rename_i htt
                subst htt
                split at h
                · rename_i hok
                  simp at h
                  subst h
                  obtain ⟨zs, hzs, hK⟩ := bind_some hK
                  simp_all [app, evAppendV]
                · cases h
              · cases h
          · cases h
        · cases h
      · cases h
    · cases h
  · cases h

theorem appVX_notT {q : Kex Γ ρ} {dst : Option Tmp} {c : Call} (h : appVX P G e dst c = some q) : evAppendT P G e dst c = none := by
  unfold appVX at h
  split at h
  · rename_i p x1 t0 t1 d hcal hargs htys
    split at h
    · rename_i id t' xs hi hget
      unfold evAppendT
      grind [evx, dstT]
    · cases h
  · cases h

theorem wX_sound {q : Kex Γ ρ} {K : Env Γ.St → Option ρ} (h : wX P G e o = some q) (hK : q K = some v) : ∃ e1, evW P G e o = some e1 ∧ K e1 = some v := by
  obtain ⟨dst, op, type, pos, after, guard⟩ := o
  cases op <;> simp only [wX, reduceCtorEq] at h
  case store t ap x =>
    split at h
    · cases h
    · rename_i hd
      split at h
      · rename_i id ty xs i off d hp hx
        split at h
        · rename_i hcond
          cases h
          obtain ⟨y, hg, h3⟩ := bind_some hK
          unfold atN at hg
          split at h3
          all_goals simp_all [evW, evStoreT]
        · cases h
      · rename_i id ty xs i off id2 t2 ys hp hx
        split at h
        · rename_i t3
          split at h
          · rename_i hcond
            cases h
            obtain ⟨hc, hK⟩ := need_some.1 hK
            simp only [Bool.not_eq_true'] at hc
            refine ⟨_, ?_, hK⟩
            simp only [evW, hp, hx, evStoreIn]
            grind
          · cases h
        · cases h
      · rename_i id id2 ty xs j ys k off d hp hx
        split at h
        · rename_i hcond
          cases h
          obtain ⟨y, hg, h3⟩ := bind_some hK
          unfold atN at hg
          split at h3
          all_goals simp_all [evW, evStoreN]
        · cases h
      · cases h
  case call c =>
    split at h
    · rename_i q' hq
      simp at h
      subst h
      obtain ⟨e1, h1, h2⟩ := appVX_sound hq hK
      grind [appVX_notT, evW]
    · split at h
      · rename_i x0 x1 t0 t1 d hcal hargs htys _
        split at h
        · rename_i el el1 hu0 hu1
          split at h
          · rename_i info hinfo
            split at h
            · rename_i z t ys hz hsrc
              split at h
              · rename_i nm xs hdst
                split at h
                · rename_i hok
                  cases h
                  obtain ⟨zs, hzs, hK⟩ := bind_some hK
                  simp_all [app, evW, evAppendT]
                · cases h
              · cases h
            · cases h
          · cases h
        · cases h
      · cases h

theorem wXs_sound {q : Kex Γ ρ} {K : Env Γ.St → Option ρ} (h : wXs P G e o = some q) (hK : q K = some v) : ∃ e1, evW P G e o = some e1 ∧ K e1 = some v := by
  unfold wXs at h
  split at h
  · simp_all [wX_sound]
  grind

theorem routeX_sound (hS : Table Γ P G S.toS) {q : Kex Γ ρ} {K : Env Γ.St → Option ρ} (h : routeX P G S e o = some q) (hK : q K = some v) :
    ∃ e1, OpOk P G e o e1 ∧ Agree (touchW G e o) e e1 ∧ K e1 = some v := by
  unfold routeX at h
  split at h
  · rename_i q' hq
    cases h
    obtain ⟨r, hr, hk⟩ := qXs_sound hq hK
    split at hk
    · rename_i e1 he1
      refine ⟨e1, fun w0 F0 O0 a w Q hi => evQA_sim (P := P) hS hi ?_, ?_, hk⟩
      · grind [evQA]
      · refine (agree_applyR he1).mono ?_
        grind [bit_or, touchW]
    · cases hk
  · obtain ⟨e1, h1, h2⟩ := wXs_sound h hK
    exact ⟨e1, fun w0 F0 O0 a w Q hi => evW_sim hi h1, agree_evW h1, h2⟩

theorem agree_putB (e : Env Γ.St) (id p : Nat) (t : Ty) (ys zs : List t.El) (st : Γ.St) (dst : Option Tmp) (d : V) (hp : e.get p = .ot id t ys) : Agree (bitO dst) e (putB e id p t zs st dst d) := by
  have hg : ∀ t', t' ≠ p → (⟨(e.tm.map (updB id t zs)).set p (.ot id t zs), e.vars.map (fun c => c.map (List.map (killOT id))), st⟩ : Env Γ.St).get t' = updB id t zs (e.get t') := by
    intro t' hne
    simp [Env.get]
    rw [List.getElem?_set_ne (Ne.symm hne), List.getElem?_map]
    grind [updB, killOT]
  have h1 : Agree 0 e (⟨(e.tm.map (updB id t zs)).set p (.ot id t zs), e.vars.map (fun c => c.map (List.map (killOT id))), st⟩ : Env Γ.St) := by
    refine ⟨by simp, by simp, ?_, ?_, ?_⟩
    · intro t' d' ht' hx
      have hne : t' ≠ p := fun h => by grind
      rw [hg t' hne, hx]; rfl
    · intro t' s off _ _ hx
      have hne : t' ≠ p := fun h => by grind
      rw [hg t' hne, hx]; rfl
    · intro s ds _ _ hx
      have h2 : (⟨(e.tm.map (updB id t zs)).set p (.ot id t zs), e.vars.map (fun c => c.map (List.map (killOT id))), st⟩ : Env Γ.St).var s = (e.mapT (killOT id)).var s := rfl
      simp_all [var_mapT, Function.comp_def, killOT]
  exact (h1.mono (fun t' _ => by simp)).same (agree_put _ dst _)

theorem agree_putM (e : Env Γ.St) (id : Nat) (t : Ty) (zs : List t.El) (st : Γ.St) (dst : Option Tmp) : Agree (bitO dst) e (putM e id t zs st dst) := by
  have hg : ∀ t', (⟨e.tm.map (killOT id), e.vars.map (fun c => c.map (List.map (killOT id))), st⟩ : Env Γ.St).get t' = killOT id (e.get t') := get_mapT (f := killOT id) rfl e
  have h1 : Agree 0 e (⟨e.tm.map (killOT id), e.vars.map (fun c => c.map (List.map (killOT id))), st⟩ : Env Γ.St) := by
    refine ⟨by simp, by simp, ?_, ?_, ?_⟩
    · intro t' d' ht' hx
      rw [hg t', hx]; rfl
    · intro t' s off _ _ hx
      rw [hg t', hx]; rfl
    · intro s ds _ _ hx
      have h2 : (⟨e.tm.map (killOT id), e.vars.map (fun c => c.map (List.map (killOT id))), st⟩ : Env Γ.St).var s = (e.mapT (killOT id)).var s := rfl
      simp_all [var_mapT, Function.comp_def, killOT]
  exact (h1.mono (fun t' _ => by simp)).same (agree_put _ dst _)

theorem borX_sound (hS : Table Γ P G S.toS) {q : Kex Γ ρ} {K : Env Γ.St → Option ρ} (h : borX G S e o = some q) (hK : q K = some v) :
    ∃ e1, OpOk P G e o e1 ∧ Agree (touchW G e o) e e1 ∧ K e1 = some v := by
  obtain ⟨dst, op, type, pos, after, guard⟩ := o
  unfold borX at h
  split at h
  · rename_i c hop
    subst hop
    split at h
    · rename_i f p xs hcal hargs
      split at h
      · rename_i g id t ys ds hf hp hxs
        split at h
        · rename_i cx hcx
          split at h
          · simp at h
            subst h
            obtain ⟨hlens, hK⟩ := need_some.1 hK
            obtain ⟨y, hy, hK⟩ := bind_some hK
            split at hK
            · cases hK
            · rename_i t' zs d hdb hres
              split at hK
              · rename_i ht
                subst ht
                refine ⟨_, fun w0 F0 O0 a w Q hi => bor_sim hS hi hcal hf hargs hp hxs hlens hdb (by grind [toS_eqX]), ?_, hK⟩
                grind [agree_putB, bit_or, id, touchW]
              · cases hK
            · cases hK
          · split at h
            · cases h
            · rename_i hid
              have hid : id ≠ lentId := fun hh => by simp_all
              simp at h
              subst h
              obtain ⟨y, hy, hK⟩ := bind_some hK
              split at hK
              · rename_i t' zs hres
                split at hK
                · rename_i ht
                  subst ht
                  refine ⟨_, fun w0 F0 O0 a w Q hi => move_sim hS hi hcal hf hargs hp hxs hid (by grind [toS_eqX]), ?_, hK⟩
                  grind [agree_putM, bit_or, id, touchW]
                · cases hK
              · cases hK
        · cases h
      · cases h
    · cases h
  · cases h

theorem agree_putP (e : Env Γ.St) (s : Nat) (t : Ty) (z : t.El) (st : Γ.St) (dst : Option Tmp) (d : V) : Agree (bitO dst ||| 2 ^ (2 * s + 1)) e (putP e s t z st dst d) := by
  have h1 : Agree (2 ^ (2 * s + 1)) e (⟨e.tm, e.vars.set s (some ((t.cells z).map T.p)), st⟩ : Env Γ.St) :=
    (agree_vset s _ e).same ((agree_st st _).mono (fun t _ => by simp))
  refine (h1.trans (agree_put _ dst (.p d))).mono ?_
  grind

theorem ptrX_sound (hS : Table Γ P G S.toS) {q : Kex Γ ρ} {K : Env Γ.St → Option ρ} (h : ptrX P G S e o = some q) (hK : q K = some v) :
    ∃ e1, OpOk P G e o e1 ∧ Agree (touchB G e o) e e1 ∧ K e1 = some v := by
  obtain ⟨dst, op, type, pos, after, guard⟩ := o
  unfold ptrX at h
  split at h
  · rename_i c hop
    subst hop
    split at h
    · rename_i f hcal
      split at h
      · rename_i g k s xs hf hspl
        split at h
        · rename_i ds cs t hxs hcs hty
          split at h
          · rename_i vs hvs
            split at h
            · rename_i y hy
              split at h
              · rename_i cx hcx
                split at h
                · simp at h
                  subst h
                  obtain ⟨u, hu, hK⟩ := bind_some hK
                  split at hK
                  · rename_i t' z d hres
                    split at hK
                    · rename_i ht
                      subst ht
                      refine ⟨_, fun w0 F0 O0 a w Q hi => ptr_sim hS hi hcal hf hspl hxs hcs hvs hy (by grind [toS_eqX]), ?_, hK⟩
                      grind [agree_putP, bit_or, touchB, touchW, bitP]
                    · cases hK
                  · cases hK
                · cases h
              · cases h
            · cases h
          · cases h
        · cases h
      · cases h
    · cases h
  · cases h

theorem agree_putE (e : Env Γ.St) (id : Nat) (t : Ty) (z : t.El) (st : Γ.St) (dst : Option Tmp) (d : V) : Agree (bitO dst) e (putE e id t z st dst d) := by
  have hg : ∀ t', (⟨e.tm.map (updE id t z), e.vars.map (fun c => c.map (List.map (killOT id))), st⟩ : Env Γ.St).get t' = updE id t z (e.get t') := by
    grind [Env.get, updE, killOT]
  have h1 : Agree 0 e (⟨e.tm.map (updE id t z), e.vars.map (fun c => c.map (List.map (killOT id))), st⟩ : Env Γ.St) := by
    refine ⟨by simp, by simp, ?_, ?_, ?_⟩
    · intro t' d' ht' hx
      rw [hg t', hx]; rfl
    · intro t' s off _ _ hx
      rw [hg t', hx]; rfl
    · intro s ds _ _ hx
      have h2 : (⟨e.tm.map (updE id t z), e.vars.map (fun c => c.map (List.map (killOT id))), st⟩ : Env Γ.St).var s = (e.mapT (killOT id)).var s := rfl
      simp_all [var_mapT, Function.comp_def, killOT]
  exact (h1.mono (fun t' _ => by simp)).same (agree_put _ dst _)

theorem ptrEX_sound (hS : Table Γ P G S.toS) {q : Kex Γ ρ} {K : Env Γ.St → Option ρ} (h : ptrEX G S e o = some q) (hK : q K = some v) :
    ∃ e1, OpOk P G e o e1 ∧ Agree (touchB G e o) e e1 ∧ K e1 = some v := by
  obtain ⟨dst, op, type, pos, after, guard⟩ := o
  unfold ptrEX at h
  split at h
  · rename_i c hop
    subst hop
    split at h
    · rename_i f hcal
      split at h
      · rename_i g k id t y xs hf hspl
        split at h
        · rename_i ds hxs
          split at h
          · rename_i cx hcx
            split at h
            · simp at h
              subst h
              obtain ⟨u, hu, hK⟩ := bind_some hK
              split at hK
              · rename_i t' z d hres
                split at hK
                · rename_i ht
                  subst ht
                  refine ⟨_, fun w0 F0 O0 a w Q hi => ptrE_sim hS hi hcal hf hspl hxs (by grind [toS_eqX]), ?_, hK⟩
                  refine (agree_putE e id t' z _ dst d).mono ?_
                  grind [bit_or, touchB, touchW]
                · cases hK
              · cases hK
            · cases h
          · cases h
        · cases h
      · cases h
    · cases h
  · cases h

theorem routeB_sound (hS : Table Γ P G S.toS) {q : Kex Γ ρ} {K : Env Γ.St → Option ρ} (h : routeB P G S e o = some q) (hK : q K = some v) :
    ∃ e1, OpOk P G e o e1 ∧ Agree (touchB G e o) e e1 ∧ K e1 = some v := by
  have hm : ∀ b, (touchB G e o).testBit b = false → (touchW G e o).testBit b = false := fun b hb => by
    grind [bit_or, touchB]
  unfold routeB at h
  split at h
  · rename_i q' hq
    simp at h; subst h
    obtain ⟨e1, h1, h2, h3⟩ := routeX_sound hS hq hK
    exact ⟨e1, h1, h2.mono hm, h3⟩
  · split at h
    · rename_i q' hq
      simp at h; subst h
      obtain ⟨e1, h1, h2, h3⟩ := borX_sound hS hq hK
      exact ⟨e1, h1, h2.mono hm, h3⟩
    · split at h
      · rename_i q' hq
        simp at h; subst h
        exact ptrX_sound hS hq hK
      · exact ptrEX_sound hS h hK

theorem anyX_sound (hS : Table Γ P G S.toS) {lg : Nat} {K : Env Γ.St → Nat → Option ρ} (h : anyX P G S e lg o K = some v) :
    ∃ e1 d, OpOk P G e o e1 ∧ Agree d e e1 ∧ K e1 (lg ||| d) = some v := by
  unfold anyX at h
  split at h
  · rename_i q hq
    obtain ⟨e1, h1, h2, h3⟩ := routeB_sound hS hq h
    grind
  · split at h
    · rename_i q hq
      obtain ⟨e1, h1, h2, h3⟩ := routeB_sound hS hq h
      exact ⟨e1, _, fun w0 F0 O0 a w Q hi => h1 w0 F0 O0 a w Q (Inv.frzOps _ _ hi), (agree_frzOps _ e).trans h2, h3⟩
    · cases h

theorem stepX_sound (hS : Table Γ P G S.toS) {lg : Nat} {K : Env Γ.St → Nat → Option ρ} (h : stepX P G S ops e lg o K = some v) :
    ∃ e1 d, StepR P G ops e o e1 ∧ Agree d e e1 ∧ K e1 (lg ||| d) = some v := by
  unfold stepX at h
  split at h
  · rename_i hg
    obtain ⟨e1, d, h1, h2, h3⟩ := anyX_sound hS h
    exact ⟨e1, d, .inl ⟨by grind [wantedV], h1⟩, h2, h3⟩
  · rename_i j want hg
    split at h
    · rename_i hj
      exact ⟨_, _, .inr ⟨by grind [wantedV], rfl⟩, agree_put e o.dst _, h⟩
    · rename_i t hj
      split at h
      · rename_i b hb
        split at h
        · rename_i hlt
          have hw : wantedV ops e o = some (b == want) := by simp_all [wantedV]
          cases b with
          | true =>
            simp at h
            split at h
            · rw [kOne_eq, lit_eq hb] at h
              obtain ⟨e1, d, h1, h2, h3⟩ := anyX_sound hS h
              exact ⟨e1, d, .inl ⟨hw, h1⟩, h2, h3⟩
            · rw [lit_eq hb] at h
              exact ⟨_, _, .inr ⟨hw, rfl⟩, agree_put e o.dst _, h⟩
          | false =>
            simp at h
            split at h
            · rw [lit_eq hb] at h
              exact ⟨_, _, .inr ⟨hw, rfl⟩, agree_put e o.dst _, h⟩
            · rw [kOne_eq, lit_eq hb] at h
              obtain ⟨e1, d, h1, h2, h3⟩ := anyX_sound hS h
              exact ⟨e1, d, .inl ⟨hw, h1⟩, h2, h3⟩
        · cases h
      · rename_i vs hb
        exact ⟨_, _, .inr ⟨by grind [wantedV], rfl⟩, agree_put e o.dst _, h⟩
      · cases h

theorem seqX_sound (hS : Table Γ P G S.toS) {K : Env Γ.St → Nat → Option ρ} : ∀ (l : List Oper) (e : Env Γ.St) (lg : Nat), seqX P G S ops l e lg K = some v → ∃ e' d, SeqR P G ops l e e' ∧ Agree d e e' ∧ K e' (lg ||| d) = some v := by
  intro l
  induction l with
  | nil => intro e lg h; exact ⟨e, 0, .nil e, Agree.refl e, by rw [Nat.or_zero]; exact h⟩
  | cons o rest ih =>
    intro e lg h
    simp only [seqX] at h
    obtain ⟨e1, d, h1, h2, h3⟩ := stepX_sound hS h
    rw [kOp_eq] at h3
    obtain ⟨e', d', h4, h5, h6⟩ := ih e1 _ h3
    exact ⟨e', d ||| d', .cons h1 h4, h2.trans h5, by grind⟩

theorem SeqR.app {l1 l2 : List Oper} {e1 e2 e3 : Env Γ.St} (h : SeqR P G ops l1 e1 e2) (h' : SeqR P G ops l2 e2 e3) : SeqR P G ops (l1 ++ l2) e1 e3 := by
  induction h with
  | nil => exact h'
  | cons h0 _ ih => exact .cons h0 (ih h')

theorem ownX_sound (hS : Table Γ P G S.toS) {K : Env Γ.St → Option ρ} (h : ownX P G S e o K = some v) : ∃ e1, StepR P G ops e o e1 ∧ Agree (bitO o.dst) e e1 ∧ K e1 = some v := by
  unfold ownX at h
  split at h
  · rename_i hg
    split at h
    · rename_i q hq
      obtain ⟨r, hr, hk⟩ := qXs_sound hq h
      split at hk
      · rename_i t xs
        split at hk
        · rename_i e1 he1
          exact ⟨e1, .inl ⟨by grind [wantedV], fun w0 F0 O0 a w Q hi => seq_lit (P := P) hS hi hr he1⟩, agree_applyR he1, hk⟩
        · cases hk
      · cases hk
    · cases h
  · cases h

theorem seqOX_sound (hS : Table Γ P G S.toS) {K : Env Γ.St → Nat → Option ρ} {k : Nat} {lg : Nat} (h : seqOX P G S ops k e lg K = some v) : ∃ e' d, SeqR P G ops ops.toList e e' ∧ Agree d e e' ∧ K e' (lg ||| d) = some v := by
  unfold seqOX at h
  obtain ⟨e1, d1, h1, h2, h3⟩ := seqX_sound hS _ _ _ h
  split at h3
  · rename_i o rest hd
    obtain ⟨e2, h4, h5, h6⟩ := ownX_sound (ops := ops) hS h3
    rw [kOp_eq] at h6
    obtain ⟨e3, d3, h7, h8, h9⟩ := seqX_sound hS _ _ _ h6
    refine ⟨e3, d1 ||| bitO o.dst ||| d3, ?_, (h2.trans h5).trans h8, by grind⟩
    have := h1.app (.cons h4 h7)
    grind [List.take_append_drop]
  · cases h3

theorem StepR.frz {e e1 : Env Γ.St} {xs : List Operand} (hg : o.guard = none) (h : StepR P G ops (frzOps G xs e) o e1) : StepR P G ops e o e1 := by
  have hw : ∀ e : Env Γ.St, wantedV ops e o = some true := fun e => by grind [wantedV]
  rcases h with ⟨_, h⟩ | ⟨h, _⟩
  · exact .inl ⟨hw e, fun w0 F0 O0 a w Q hi => h w0 F0 O0 a w Q (Inv.frzOps _ _ hi)⟩
  grind

theorem seqFX_sound (hS : Table Γ P G S.toS) {K : Env Γ.St → Nat → Option ρ} {k t : Nat} {lg : Nat} (h : seqFX P G S ops k t e lg K = some v) : ∃ e' d, SeqR P G ops ops.toList e e' ∧ Agree d e e' ∧ K e' (lg ||| d) = some v := by
  unfold seqFX at h
  obtain ⟨e1, d1, h1, h2, h3⟩ := seqX_sound hS _ _ _ h
  split at h3
  · rename_i o rest hd
    split at h3
    · rename_i hg
      rw [kEnv_eq] at h3
      obtain ⟨e2, d2, h4, h5, h6⟩ := stepX_sound hS h3
      rw [kOp_eq] at h6
      obtain ⟨e3, d3, h7, h8, h9⟩ := seqX_sound hS _ _ _ h6
      refine ⟨e3, d1 ||| touchF G [.tmp t] e1 ||| d2 ||| d3, ?_, ((h2.trans (agree_frzOps _ e1)).trans h5).trans h8, by grind⟩
      have := h1.app (.cons (StepR.frz hg h4) h7)
      grind [List.take_append_drop]
    · cases h3
  · cases h3

theorem drawStepX_sound {lg : Nat} {K : Env Γ.St → Nat → Option ρ} (h : drawStepX P G S e lg o K = some v) : ∃ r e1, evQ P G S.toS e o = some r ∧ applyD e o.dst r = some e1 ∧ K e1 (lg ||| bitO o.dst) = some v := by
  unfold drawStepX at h
  split at h
  · rename_i q hq
    obtain ⟨r, hr, hk⟩ := qXs_sound hq h
    grind
  · cases h

theorem drawGoX_sound {K : Env Γ.St → Nat → Option ρ} : ∀ (l : List Oper) (e : Env Γ.St) (lg : Nat), drawGoX P G S ops l e lg K = some v → ∃ e' d, drawGo P G S.toS ops l e = some e' ∧ Agree d e e' ∧ K e' (lg ||| d) = some v := by
  intro l
  induction l with
  | nil => intro e lg h; exact ⟨e, 0, rfl, Agree.refl e, by rw [Nat.or_zero]; exact h⟩
  | cons o rest ih =>
    intro e lg h
    have run : ∀ e0 : Env Γ.St, e0 = e → wantedV ops e o = some true → (if pendOk G (dstsOf (o :: rest)) e0 o then drawStepX P G S e0 lg o (fun e1 lg => kOp o e1 (fun e1 => drawGoX P G S ops rest e1 lg K)) else none) = some v →
        ∃ e' d, drawGo P G S.toS ops (o :: rest) e = some e' ∧ Agree d e e' ∧ K e' (lg ||| d) = some v := by
      intro e0 he0 hw hh
      subst he0
      split at hh
      · rename_i hp
        obtain ⟨r, e1, h1, h2, h3⟩ := drawStepX_sound hh
        rw [kOp_eq] at h3
        obtain ⟨e', d, h4, h5, h6⟩ := ih e1 _ h3
        refine ⟨e', bitO o.dst ||| d, ?_, (agree_applyD h2).trans h5, by grind⟩
        simp_all [drawGo]
      · cases hh
    have skip : ∀ e0 : Env Γ.St, e0 = e → wantedV ops e o = some false → kOne (o.dst.getD 0) (e0.put o.dst (.p (.val undef))) (fun e1 => drawGoX P G S ops rest e1 (lg ||| bitO o.dst) K) = some v →
        ∃ e' d, drawGo P G S.toS ops (o :: rest) e = some e' ∧ Agree d e e' ∧ K e' (lg ||| d) = some v := by
      intro e0 he0 hw hh
      subst he0
      rw [kOne_eq] at hh
      obtain ⟨e', d, h4, h5, h6⟩ := ih _ _ hh
      refine ⟨e', bitO o.dst ||| d, ?_, (agree_put _ o.dst _).trans h5, by grind⟩
      grind [drawGo]
    unfold drawGoX at h
    split at h
    · rename_i hg; exact run e rfl (by grind [wantedV]) h
    · rename_i j want hg
      split at h
      · rename_i hj; exact skip e rfl (by grind [wantedV]) h
      · rename_i t hj
        split at h
        · rename_i b hb
          split at h
          · rename_i hlt
            have hw : wantedV ops e o = some (b == want) := by simp_all [wantedV]
            cases b with
            | true =>
              simp at h
              grind [kOne_eq, lit_eq]
            | false =>
              simp at h
              grind [lit_eq, kOne_eq]
          · cases h
        · rename_i vs hb; exact skip e rfl (by grind [wantedV]) h
        · cases h

theorem agree_killAll : ∀ (ds : List Nat) (e : Env Γ.St), Agree (bitsL ds) e (killAll ds e) := by
  intro ds
  induction ds with
  | nil => intro e; exact Agree.refl e
  | cons d r ih => intro e; exact (agree_kill d e).trans (ih _)

theorem drawXK_sound (hmix : P.follows .mixedOrders = true) (hS : Table Γ P G S.toS) {lg : Nat} {K : Env Γ.St → Nat → Option ρ} {k : Nat} (h : drawXK P G S ops k e lg K = some v) : ∃ e' d, (∀ (id : Nat) (w0 : World) (F0 : Blk → Prop) (O0 : Lent) (a : Act) (w : World) (Q : Exit → Act → World → Prop),
    Inv Γ G w0 F0 O0 a w e → (∀ a w, Inv Γ G w0 F0 O0 a w e' → Q .normal a w) → (Code.region id ops true).wp P Q a w) ∧ Agree d e e' ∧ K e' (lg ||| d) = some v := by
  unfold drawXK at h
  split at h
  · rename_i hc
    simp at hc
    obtain ⟨⟨⟨h1, h2⟩, h3⟩, h4⟩ := hc
    rw [kEnv_eq] at h
    obtain ⟨e1, d1, h5, h6, h7⟩ := drawGoX_sound _ _ _ h
    obtain ⟨e', d2, h8, h9, h10⟩ := seqX_sound hS _ _ _ h7
    refine ⟨e', _ ||| d1 ||| d2, fun id w0 F0 O0 a w Q hi hQ => drawR_sim hmix hS hi h1 h2 h3 (e1 := e1) ?_ h8 hQ, ((agree_killAll _ e).trans h6).trans h9, ?_⟩
    all_goals simp_all [Nat.or_assoc, evDraw]
  · cases h

theorem flOf_spec {St : Type} {e1 : Env St} : ∀ (l : List Nat) (fl : List Fl), flOf ops e1 l = some fl →
    (∀ q, q ∈ fl → q.i ∈ l ∧ ∃ o, ops[q.i]? = some o ∧ o.dst = some q.d ∧ ((isPL (e1.get q.d) = true ∧ q.v = .c (e1.get q.d)) ∨ ∃ s, o.op = .move (.tmp s) ∧ q.v = .a s)) ∧ ∀ i, i ∈ l → ∃ q, q ∈ fl ∧ q.i = i := by
  intro l
  induction l with
  | nil => grind [Option.some.injEq, flOf]
  | cons i r ih =>
    intro fl h
    simp only [flOf] at h
    split at h
    · rename_i o ho
      split at h
      · rename_i d hd
        have step : ∀ q0 : Fl, q0.i = i → q0.d = d → ((isPL (e1.get d) = true ∧ q0.v = .c (e1.get d)) ∨ ∃ s, o.op = .move (.tmp s) ∧ q0.v = .a s) → (flOf ops e1 r).map (q0 :: ·) = some fl →
            (∀ q, q ∈ fl → q.i ∈ i :: r ∧ ∃ o, ops[q.i]? = some o ∧ o.dst = some q.d ∧ ((isPL (e1.get q.d) = true ∧ q.v = .c (e1.get q.d)) ∨ ∃ s, o.op = .move (.tmp s) ∧ q.v = .a s)) ∧ ∀ j, j ∈ i :: r → ∃ q, q ∈ fl ∧ q.i = j := by
          intro q0 h1 h2 h3 hm
          simp at hm
          grind
        grind
      · cases h
    · cases h

theorem flD_iff {fl : List Fl} {t : Nat} : flD fl t = true ↔ ∃ q, q ∈ fl ∧ q.d = t := by
  simp only [flD, List.any_eq_true]
  simp_all

theorem flOkB_sound {n : Nat} {fl : List Fl} (h1 : flOkB n fl = true) (h2 : flSrcB fl = true) : FlOk n fl := by
  have hd : ∀ l : List Fl, flOkB n l = true → l.Pairwise (fun p q => p.d ≠ q.d) ∧ ∀ q, q ∈ l → q.d < n := by
    intro l
    induction l with
    | nil => simp_all
    | cons q r ih =>
      intro h
      simp only [flOkB, Bool.and_eq_true, Bool.not_eq_true'] at h
      obtain ⟨⟨g1, g2⟩, g3⟩ := h
      obtain ⟨k1, k2⟩ := ih g3
      refine ⟨List.pairwise_cons.2 ⟨?_, k1⟩, ?_⟩
      · grind [flD_iff, flD]
      simp_all
  refine ⟨(hd fl h1).1, (hd fl h1).2, ?_⟩
  intro q hq s hs p hp hh
  have := List.all_eq_true.1 h2 q hq
  grind [Bool.not_eq_true', flD_iff, flD]

theorem noD_kill {d : Nat} {x : T} (h : noD d x = true) : killT d x = x := by
  cases x <;> simp only [noD, killT] at h ⊢ <;> first | rfl | (rw [if_neg]; intro hh; subst hh; simp at h) | (rw [if_neg]; rintro (hh | hh) <;> (subst hh; simp at h))

theorem clean_kill {St : Type} {d : Nat} {e : Env St} (h1 : ∀ x, x ∈ e.tm → noD d x = true) (h2 : ∀ cs, some cs ∈ e.vars → ∀ x, x ∈ cs → noD d x = true) (h3 : e.var d = none) : e.kill d = e := by
  obtain ⟨tm, vars, st⟩ := e
  simp only [Env.kill, Env.mk.injEq, and_true]
  refine ⟨?_, ?_⟩
  · exact (List.map_congr_left (fun x hx => noD_kill (h1 x hx))).trans (List.map_id _)
  · have hs : vars.set d none = vars := by
      apply List.ext_getElem?
      grind [List.getElem?_eq_getElem, List.getElem?_eq_none, Env.var]
    rw [hs]
    refine (List.map_congr_left (g := id) ?_).trans (List.map_id _)
    intro c hc
    cases c with
    | none => rfl
    | some cs => exact congrArg some ((List.map_congr_left (fun x hx => noD_kill (h2 cs hc x hx))).trans (List.map_id _))

theorem evQ_st {S : Specs Γ} {L : Look} (st : Γ.St) (hc : isCall o = false) : evQ L G S { e with st := st } o = evQ L G S e o :=
  evQ_congrS (fun x _ => by cases x <;> rfl) (fun _ _ _ _ _ => rfl) (fun h => by grind)

theorem putL_tm {St : Type} {b : Env St} : ∀ (L : List Fl) (b : Env St) (x : T), x ∈ (putL b L).tm → x ∈ b.tm ∨ (∃ q, q ∈ L ∧ ∃ y, q.v = .c y ∧ x = y) ∨ x = .dead := by
  intro L
  induction L with
  | nil => intro b x h; exact .inl h
  | cons q L ih =>
    intro b x h
    rcases ih (putF b q) x h with h | ⟨r, hr, y, hy⟩ | h
    all_goals grind [List.mem_or_eq_of_mem_set, List.mem_of_getElem?, List.mem_cons_of_mem, putF, Fl.val, Env.get]

theorem okFl_sound {Sp : Specs Γ} {Cm Um : Nat} {anc : Array Nat} (hch : ChSt ops anc Cm Um) {fl : List Fl} {e1 b : Env Γ.St} {m : Nat} (hfl : FlOk e1.tm.length fl)
    (hspec : ∀ q, q ∈ fl → Cm.testBit q.i = false ∧ Um.testBit q.i = true ∧ ∃ o, ops[q.i]? = some o ∧ o.dst = some q.d ∧ ((isPL (e1.get q.d) = true ∧ q.v = .c (e1.get q.d)) ∨ ∃ s, o.op = .move (.tmp s) ∧ q.v = .a s))
    (hvar : ∀ q, q ∈ fl → e1.var q.d = none) (hA : Agree m (deadL e1 fl) b)
    {q : Fl} (hq : q ∈ fl) (hst : ∀ o, ops[q.i]? = some o → ∃ st st', StepAt P G Sp (opsQ ops Cm) e1 st o st') (h : okFl ops fl m e1 b q = true) : FloatOk P G Sp ops fl b q := by
  intro o p ho hp
  obtain ⟨hC, hU, o', ho', hd, hcase⟩ := hspec q hq
  rw [ho] at ho'
  cases ho'
  have hg := hch.guardC q.i o ho (.inr hU)
  have hnc := hch.call q.i o ho hC hU
  obtain ⟨d1, d2, d3⟩ := deadL_ok hfl
  have hlen : b.tm.length = e1.tm.length := hA.tl.trans d1.len
  obtain ⟨a1, a2⟩ := putL_get (fl.filter p) b e1.tm.length (hfl.filter p) (by omega)
  have hal := putL_alike (fl.filter p) b
  unfold okFl at h
  rw [ho] at h
  simp only at h
  rcases hcase with ⟨hpl, hv⟩ | ⟨s, hop, hv⟩
  · -- a value
    rw [hv] at h
    simp only [Bool.and_eq_true] at h
    obtain ⟨⟨h1, h2⟩, h3⟩ := h
    obtain ⟨st, st', hstep⟩ := hst o ho
    rcases hstep with ⟨_, r, hev, _, hneed, hdst⟩ | ⟨hw, _⟩
    · obtain ⟨g1, g2, g3⟩ := hdst q.d hd
      have hget := g1 (hfl.lt q hq)
      have hev' : evQ P G Sp (putL b (fl.filter p)) o = some r := by
        rw [← hev, evQ_st st hnc, ← evQ_st (e := e1) (putL b (fl.filter p)).st hnc]
        have hops : ∀ x, x ∈ o.op.operands → evx G (putL b (fl.filter p)) x = evx G e1 x ∧ ∀ s off, evx G e1 x = .lp s off → (putL b (fl.filter p)).var s = e1.var s := by
          intro x hx
          have hok := List.all_eq_true.1 h1 x (by simpa using hx)
          cases x with
          | tmp t =>
            simp only [okOpnd, Bool.and_eq_true, Bool.or_eq_true] at hok
            obtain ⟨hwhich, hm⟩ := hok
            have hvars : ∀ s off, e1.get t = .lp s off → (putL b (fl.filter p)).var s = e1.var s := by
              intro s off hlp
              rw [hlp] at hm
              simp at hm
              obtain ⟨hsb, hm⟩ := hm
              split at hm
              · rename_i cs hcs
                simp only [Bool.and_eq_true, Bool.not_eq_true'] at hm
                have hds : ∃ ds : List V, cs = ds.map T.p := by
                  have hall := hm.1
                  clear hcs hm
                  induction cs with
                  | nil => simp_all
                  | cons c cs ih =>
                    simp only [List.all_cons, Bool.and_eq_true] at hall
                    obtain ⟨ds, hds⟩ := ih hall.2
                    cases c with
                    | p d0 => exact ⟨d0 :: ds, by rw [hds]; rfl⟩
                    | _ => simp at hall
                obtain ⟨ds, rfl⟩ := hds
                have hvv := hA.v s ds hsb hm.2 (by rw [d1.var]; exact hcs)
                rw [hal.var, hvv, hcs]
              · cases hm
            refine ⟨?_, fun s off hs => hvars s off hs⟩
            show (putL b (fl.filter p)).get t = e1.get t
            rcases hwhich with hok | hok
            · simp only [flC, List.any_eq_true, Bool.and_eq_true] at hok
              obtain ⟨q', hq', hqd, hqc⟩ := hok
              have hqd := Nat.eq_of_beq_eq_true hqd
              subst hqd
              obtain ⟨_, _, o2, ho2, hd2, hcase2⟩ := hspec q' hq'
              grind [Fl.val]
            · simp at hok
              obtain ⟨hnf, hbit⟩ := hok
              have hnf' : ∀ q', q' ∈ fl → t ≠ q'.d := by
                grind [flD_iff, flD]
              have hdt := d2 t hnf'
              have hbt := a1 t (fun q' hq' => hnf' q' (List.mem_filter.1 hq').1)
              split at hm
              · rename_i dv hdv
                have := hA.p t dv hbit (by grind)
                grind
              · rename_i s off hlp
                simp at hm
                have := hA.lp t s off hbit hm.1 (by grind)
                grind
              · cases hm
          | _ => exact ⟨rfl, fun s off hs => by
              grind [evx]⟩
        exact evQ_congr (fun x hx => (hops x hx).1) (fun x hx s off hs => (hops x hx).2 s off (by grind)) rfl
      have hrc := evQ_nc hev hnc
      refine .inl ?_
      simp [evQA, hev', hd]
      have hgoal : ∀ e2 : Env Γ.St, e2 = { (putL b (fl.filter p)) with tm := (putL b (fl.filter p)).tm.set q.d (resT q.d r) } → some e2 = some (putF (putL b (fl.filter p)) q) := by
        grind [putF, Fl.val]
      unfold applyR
      cases hn : r.needs with
      | false =>
        simp only [Bool.false_eq_true, if_false]
        apply hgoal
        cases r with
        | ret x => rfl
        | call _ _ _ => cases hrc
        | _ => cases hn
      | true =>
        simp only [if_true]
        unfold clean at h2
        simp only [Bool.and_eq_true] at h2
        obtain ⟨⟨⟨k1, k2⟩, k3⟩, k4⟩ := h2
        have hvl : q.d < (putL b (fl.filter p)).vars.length := by rw [hal.vars]; simpa using k4
        rw [if_pos ⟨hvl, by grind⟩]
        have hk : (putL b (fl.filter p)).kill q.d = putL b (fl.filter p) := by
          refine clean_kill ?_ ?_ ?_
          · intro x hx
            rcases putL_tm (b := b) _ _ x hx with hx | ⟨q', hq', y, hy, rfl⟩ | rfl
            · grind
            · grind
            · rfl
          · intro cs hcs x hx
            rw [hal.vars] at hcs
            grind
          · rw [hal.var]; simp_all
        rw [hk]
        apply hgoal
        cases r with
        | var cs => grind
        | call _ _ _ => cases hrc
        | ret x => cases hn
        | _ => rfl
    grind [wantedV]
  · -- a copy
    refine .inl ?_
    obtain ⟨dst, op, type, pos, after, guard⟩ := o
    simp only at hop hd
    subst hop hd
    simp only [evQA, evQ, applyR, R.needs, Bool.false_eq_true, if_false]
    simp only [putF, Fl.val, hv]
    rfl

theorem routeX_route0 {q : Kex Γ ρ} {K : Env Γ.St → Option ρ} (h : routeX P G S e o = some q) (hK : q K = some v) :
    ∃ e1, (evQA P G S.toS e o = some e1 ∨ evW P G e o = some e1) ∧ Agree (touchW G e o) e e1 ∧ K e1 = some v := by
  unfold routeX at h
  split at h
  · rename_i q' hq
    cases h
    obtain ⟨r, hr, hk⟩ := qXs_sound hq hK
    split at hk
    · rename_i e1 he1
      refine ⟨e1, .inl ?_, ?_, hk⟩
      · grind [evQA]
      · refine (agree_applyR he1).mono ?_
        grind [bit_or, touchW]
    · cases hk
  · obtain ⟨e1, h1, h2⟩ := wXs_sound h hK
    grind [agree_evW]

theorem agree_frzI : ∀ (l : List Nat) (e : Env Γ.St), Agree 0 e (frzI l e) := by
  intro l
  induction l with
  | nil => intro e; exact Agree.refl e
  | cons i r ih => intro e; exact ((agree_frzOE i e).trans (ih _)).mono (fun t _ => by simp)

theorem routeF_route {q : Kex Γ ρ} {K : Env Γ.St → Option ρ} (h : routeF P G S e o = some q) (hK : q K = some v) :
    ∃ e1, Route P G S.toS e o e1 ∧ Agree (touchW G e o) e e1 ∧ K e1 = some v := by
  unfold routeF at h
  split at h
  · rename_i q' hq
    simp at h; subst h
    obtain ⟨e1, h1, h2, h3⟩ := routeX_route0 hq hK
    exact ⟨e1, h1.elim .inl (fun h => .inr (.inl h)), h2, h3⟩
  · split at h
    · rename_i hB
      obtain ⟨e1, h1, h2, h3⟩ := routeX_route0 h hK
      refine ⟨e1, ?_, ?_, h3⟩
      · rcases h1 with h1 | h1
        · exact .inr (.inr ⟨hB, h1⟩)
        grind [evW_build]
      · rw [touchW_build hB] at h2 ⊢
        exact ((agree_frzI _ e).trans h2).mono (fun t ht => by simpa using ht)
    · cases h

theorem bitsF_bit : ∀ {fl : List Fl} {t : Nat}, (bitsF fl).testBit t = false → ∀ q, q ∈ fl → t ≠ 2 * q.d := by
  intro fl
  induction fl with
  | nil => grind
  | cons p r ih =>
    intro t h q hq
    simp [bitsF] at h
    grind

theorem agree_putL {St : Type} : ∀ (L : List Fl) (e : Env St), Agree (bitsF L) e (putL e L) := by
  intro L
  induction L with
  | nil => intro e; exact Agree.refl e
  | cons q L ih => intro e; exact (agree_set q.d (q.val e) e).trans (ih (putF e q))

theorem bitsF_sub {L fl : List Fl} (h : ∀ q, q ∈ L → ∃ r, r ∈ fl ∧ r.d = q.d) {t : Nat} (ht : (bitsF fl).testBit t = false) : (bitsF L).testBit t = false := by
  induction L with
  | nil => simp [bitsF]
  | cons q L ih =>
    grind [bit_or, bit_pow, List.mem_cons_of_mem, bitsF_bit, bitsF]

theorem staysB_sound {m : Nat} {dst : Option Nat} {q : Fl} (h : staysB m dst q = true) : Stays m dst q := by
  unfold staysB at h
  simp at h
  obtain ⟨h1, h2⟩ := h
  refine ⟨?_, ?_⟩
  · intro hh
    simp_all
  · split at h2
    · grind
    · grind
    · cases h2
    · rename_i s hv
      rw [hv]
      intro hh
      simp_all

theorem chainGoX_sound {Cm Um : Nat} {anc : Array Nat} (hch : ChSt ops anc Cm Um) {fl : List Fl} {e1 : Env Γ.St} (hfl : FlOk e1.tm.length fl)
    (hspec : ∀ q, q ∈ fl → Cm.testBit q.i = false ∧ Um.testBit q.i = true ∧ ∃ o, ops[q.i]? = some o ∧ o.dst = some q.d ∧ ((isPL (e1.get q.d) = true ∧ q.v = .c (e1.get q.d)) ∨ ∃ s, o.op = .move (.tmp s) ∧ q.v = .a s))
    (hvar : ∀ q, q ∈ fl → e1.var q.d = none)
    (hst : ∀ q, q ∈ fl → ∀ o, ops[q.i]? = some o → ∃ st st', StepAt P G S.toS (opsQ ops Cm) e1 st o st') {K : Env Γ.St → Nat → Option ρ} : ∀ (l : List Nat) (b : Env Γ.St) (m : Nat),
    chainGoX P G S ops anc fl e1 l b m K = some v → Agree m (deadL e1 fl) b → (∀ t, m.testBit t = false → (bitsF fl).testBit t = false) →
    ∃ b' M, ChainR P G S.toS ops anc fl l b b' ∧ Agree M (deadL e1 fl) (putL b' fl) ∧ (∀ t, M.testBit t = false → (bitsF fl).testBit t = false) ∧ K (putL b' fl) M = some v := by
  intro l
  induction l with
  | nil =>
    intro b m h hA hm
    simp only [chainGoX] at h
    rw [kEnv_eq] at h
    exact ⟨b, _, .nil b, hA.trans (agree_putL fl b), fun t ht => ((bit_or _ _ _).1 ht).2, h⟩
  | cons c rest ih =>
    intro b m h hA hm
    simp only [chainGoX] at h
    split at h
    · rename_i o ho
      rw [kEnv_eq] at h
      split at h
      · rename_i hchk
        simp only [Bool.and_eq_true] at hchk
        obtain ⟨hops, hstays⟩ := hchk
        split at h
        · rename_i q hq
          obtain ⟨b1, h1, h2, h3⟩ := routeF_route hq h
          rw [kOp_eq] at h3
          split at h3
          · rename_i hok
            have hA1 : Agree (m ||| (bitsF fl ||| touchW G (putL b (fl.filter (ancA anc c))) o)) (deadL e1 fl) b1 := by
              have hput : Agree (bitsF fl) b (putL b (fl.filter (ancA anc c))) := (agree_putL _ b).mono (fun t ht => bitsF_sub (fun q hq => ⟨q, (List.mem_filter.1 hq).1, rfl⟩) ht)
              exact hA.trans (hput.trans h2)
            obtain ⟨b', M, g1, g2, g3, g4⟩ := ih b1 _ h3 hA1 (fun t ht => hm t ((bit_or _ _ _).1 ht).1)
            refine ⟨b', M, .cons ho h1 ?_ ?_ ?_ g1, g2, g3, g4⟩
            · intro q hqf hx
              have hx1 := List.all_eq_true.1 hops (.tmp q.d) (by simpa using hx)
              have hx2 := List.all_eq_true.1 hx1 q hqf
              simpa [ancA] using hx2
            · intro q hqf
              exact staysB_sound (List.all_eq_true.1 hstays q hqf)
            · intro q hqf hnA
              have hx := List.all_eq_true.1 hok q hqf
              rw [show ancA anc c q = false from hnA, Bool.false_or] at hx
              grind [okFl_sound]
          · cases h3
        · cases h
      · cases h
    · cases h

theorem chainX_sound (hmix : P.follows .mixedOrders = true) (hS : Table Γ P G S.toS) {Cm Um lg : Nat} {K : Env Γ.St → Nat → Option ρ} (h : chainX P G S ops Cm Um e lg K = some v) : ∃ e' d, (∀ (id : Nat) (w0 : World) (F0 : Blk → Prop) (O0 : Lent) (a : Act) (w : World) (Q : Exit → Act → World → Prop),
    Inv Γ G w0 F0 O0 a w e → (∀ a w, Inv Γ G w0 F0 O0 a w e' → Q .normal a w) → (Code.region id ops true).wp P Q a w) ∧ Agree d e e' ∧ K e' (lg ||| d) = some v := by
  unfold chainX at h
  split at h
  · rename_i hchk
    have hch := chst_of hchk
    rw [kEnv_eq] at h
    obtain ⟨e1, d1, h1, h2, h3⟩ := drawGoX_sound _ _ _ h
    split at h3
    · rename_i fl hfl
      split at h3
      · rename_i hc
        simp only [Bool.and_eq_true] at hc
        obtain ⟨⟨⟨c1, c2⟩, c3⟩, c4⟩ := hc
        have hflok := flOkB_sound c1 c2
        obtain ⟨s1, s2⟩ := flOf_spec _ _ hfl
        have hspec : ∀ q, q ∈ fl → Cm.testBit q.i = false ∧ Um.testBit q.i = true ∧ ∃ o, ops[q.i]? = some o ∧ o.dst = some q.d ∧ ((isPL (e1.get q.d) = true ∧ q.v = .c (e1.get q.d)) ∨ ∃ s, o.op = .move (.tmp s) ∧ q.v = .a s) := by
          grind
        have hvar : ∀ q, q ∈ fl → e1.var q.d = none := fun q hq => Option.isNone_iff_eq_none.1 (List.all_eq_true.1 c3 q hq)
        have hah := ahead_of hch.st 0 (opsQ ops Cm).toList (by simp)
        have hno : ∀ d, d ∈ dstsOf (opsQ ops Cm).toList → (killAll (dstsOf (opsQ ops Cm).toList) e).var d = none := by
          intro d hd
          cases hv : (killAll (dstsOf (opsQ ops Cm).toList) e).var d with
          | none => rfl
          | some cs => exact absurd ⟨cs, hv⟩ (killAll_alive _ e d hd).1
        obtain ⟨sts, _, _, hsteps, _, _, _⟩ := drawGo_trace _ _ _ h1 hah hno
        have hst : ∀ q, q ∈ fl → ∀ o, ops[q.i]? = some o → ∃ st st', StepAt P G S.toS (opsQ ops Cm) e1 st o st' := by
          intro q hq o ho
          exact ⟨_, _, hsteps q.i o (by grind [opsQ_some])⟩
        rw [kEnv_eq] at h3
        have hdead : Agree (bitsF fl) e1 (deadL e1 fl) := (agree_putL _ e1).mono (fun t ht => bitsF_sub (fun q hq => by
          grind) ht)
        have hA0 : Agree (bitsF fl) (deadL e1 fl) (deadL e1 fl) := (Agree.refl _).mono (fun t _ => by simp)
        obtain ⟨b', M, g1, g2, g3, g4⟩ := chainGoX_sound hch hflok hspec hvar hst _ _ _ h3 hA0 (fun t ht => ht)
        have hfv : ∀ q, q ∈ fl → e1.get q.d = q.val e1 ∧ e1.var q.d = none := by
          intro q hq
          refine ⟨?_, hvar q hq⟩
          obtain ⟨hC, hU, o, ho, hd, hcase⟩ := hspec q hq
          rcases hcase with ⟨_, hv⟩ | ⟨s, hop, hv⟩
          · grind [Fl.val]
          · obtain ⟨st, st', hstep⟩ := hst q hq o ho
            have hg := hch.guardC q.i o ho (.inr hU)
            rcases hstep with ⟨_, r, hev, _, _, hdst⟩ | ⟨hw, _⟩
            · obtain ⟨k1, _, _⟩ := hdst q.d hd
              rw [k1 (hflok.lt q hq)]
              simp [evQ, hop] at hev
              subst hev
              unfold Fl.val; rw [hv]; rfl
            grind [wantedV]
        refine ⟨putL b' fl, (bitsL (dstsOf (opsQ ops Cm).toList) ||| d1) ||| M, ?_, ?_, ?_⟩
        · intro id w0 F0 O0 a w Q hi hQ
          refine chain_sim hmix hch hS hi h1 hflok ?_ ?_ hfv ?_ g1 hQ
          · simp_all
          · grind
          · intro q hq
            exact okFl_sound hch hflok hspec hvar hA0 hq (hst q hq) (List.all_eq_true.1 c4 q hq)
        · have hd2 : Agree M e1 (putL b' fl) := (hdead.mono (fun t ht => g3 t ht)).same g2
          exact ((agree_killAll _ e).trans h2).trans hd2
        grind
      · cases h3
    · cases h3
  · cases h

theorem regX0_sound (hmix : P.follows .mixedOrders = true) (hS : Table Γ P G S.toS) {d : Bool} {fz : Option (List (Nat × Nat × Nat))} {lg : Nat} {K : Env Γ.St → Nat → Option ρ} {id : Nat} (h : regX0 P G S ops d fz e lg K = some v) :
    ∃ e' n, CodeOk P G (.region id ops d) e .normal e' ∧ Agree n e e' ∧ K e' (lg ||| n) = some v := by
  have draw : ∀ (e : Env Γ.St) (lg k : Nat), drawXK P G S ops k e lg K = some v → ∃ e' n, CodeOk P G (.region id ops true) e .normal e' ∧ Agree n e e' ∧ K e' (lg ||| n) = some v := by
    intro e lg k h
    obtain ⟨e1, n, h1, h2, h3⟩ := drawXK_sound hmix hS h
    exact ⟨e1, n, fun w0 F0 O0 a w hi => h1 id w0 F0 O0 a w _ hi (fun a w h => ⟨rfl, h⟩), h2, h3⟩
  unfold regX0 at h
  split at h
  · have seq : (∃ e' d, SeqR P G ops ops.toList e e' ∧ Agree d e e' ∧ K e' (lg ||| d) = some v) → ∃ e' n, CodeOk P G (.region id ops false) e .normal e' ∧ Agree n e e' ∧ K e' (lg ||| n) = some v := by
      rintro ⟨e1, n, h1, h2, h3⟩
      refine ⟨e1, n, ?_, h2, h3⟩
      intro w0 F0 O0 a w hi
      refine wp_region ?_
      have := seq_ops (Q := fun ex a' w' => ex = X.toExit .normal ∧ Inv Γ G w0 F0 O0 a' w' e1) ops 0 ops.toList e e1 a w (by simp) h1 hi (fun a w h => ⟨rfl, h⟩)
      grind [List.range_eq_range']
    grind [seqX_sound, seqOX_sound, seqFX_sound]
  · split at h
    · exact draw e lg _ h
    · rw [kEnv_eq] at h
      obtain ⟨e1, n, h1, h2, h3⟩ := draw _ _ _ h
      exact ⟨e1, _, fun w0 F0 O0 a w hi => h1 w0 F0 O0 a w (Inv.frzOps _ _ hi), (agree_frzOps _ e).trans h2, by grind⟩
    · split at h
      · exact draw e lg _ h
      · grind
      · rw [kEnv_eq] at h
        obtain ⟨e1, n, h1, h2, h3⟩ := chainX_sound hmix hS h
        exact ⟨e1, _, fun w0 F0 O0 a w hi => h1 id w0 F0 O0 a w _ (Inv.frzOps _ _ hi) (fun a w h => ⟨rfl, h⟩), (agree_frzOps _ e).trans h2, by grind⟩

theorem fixes_ren (a b : Nat) : Fixes (renT a b) := ⟨fun _ => rfl, fun _ _ => rfl, rfl⟩

theorem renX_sound {K : Env Γ.St → Option ρ} : ∀ (l : List (Nat × Nat × Nat)) (e : Env Γ.St), renX l e K = some v → ∃ e', Agree 0 e e' ∧ K e' = some v ∧ ∀ (w0 : World) (F0 : Blk → Prop) (O0 : Lent) (a : Act) (w : World), Inv Γ G w0 F0 O0 a w e → Inv Γ G w0 F0 O0 a w e' := by
  intro l
  induction l with
  | nil => intro e h; exact ⟨e, Agree.refl e, h, fun _ _ _ _ _ h => h⟩
  | cons x r ih =>
    intro e h
    obtain ⟨a, b, n⟩ := x
    simp only [renX] at h
    split at h
    · split at h
      · rename_i hb
        rw [kEnv_eq] at h
        obtain ⟨e', h1, h2, h3⟩ := ih _ h
        exact ⟨e', (agree_mapT (fixes_ren a b) e).same h1, h2, fun w0 F0 O0 a0 w hi => h3 w0 F0 O0 a0 w (by
          simp at hb
          exact hi.ren hb.1 (fun h => by simp_all) (fun h => by simp_all))⟩
      · cases h
    · rw [kEnv_eq] at h
      obtain ⟨e', h1, h2, h3⟩ := ih _ h
      exact ⟨e', (agree_frzOE _ e).same h1, h2, fun w0 F0 O0 a0 w hi => h3 w0 F0 O0 a0 w (hi.frzOE _)⟩
    · exact ih e h

theorem regX_sound (hmix : P.follows .mixedOrders = true) (hS : Table Γ P G S.toS) {d : Bool} {fz : Option (List (Nat × Nat × Nat))} {lg : Nat} {K : Env Γ.St → Nat → Option ρ} {id : Nat} (h : regX P G S ops d fz e lg K = some v) :
    ∃ e' n, CodeOk P G (.region id ops d) e .normal e' ∧ Agree n e e' ∧ K e' (lg ||| n) = some v := by
  unfold regX at h
  split at h
  · exact regX0_sound hmix hS h
  · exact regX0_sound hmix hS h
  · obtain ⟨e1, n, h1, h2, h3⟩ := regX0_sound hmix hS (id := id) h
    obtain ⟨e2, g1, g2, g3⟩ := renX_sound (G := G) _ _ h3
    refine ⟨e2, n, ?_, h2.same (g1.mono (fun t _ => by simp)), g2⟩
    intro w0 F0 O0 a w hi
    exact wp_mono (h1 w0 F0 O0 a w hi) (fun ex a' w' hh => ⟨hh.1, g3 w0 F0 O0 a' w' hh.2⟩)
end
end Go.Ve

namespace Go.Ve
open Go

/-- The cells of a variable: plain typed data, or an own list. -/
inductive Cell where
  | p (ty : Ty)
  | o (id : Nat) (ty : Ty)

/-- What is carried over a join: a temporary with plain data, one with an own list, a variable. -/
inductive Slot where
  | t (i : Nat) (ty : Ty)
  | o (i id : Nat) (ty : Ty)
  | v (s : Nat) (cs : List Cell)
  | st
  | e (i id : Nat) (ty : Ty)

@[reducible] def Cell.El : Cell → Type
  | .p ty => ty.El
  | .o _ ty => List ty.El

@[reducible] def CellS : List Cell → Type
  | [] => Unit
  | [c] => c.El
  | c :: c' :: r => c.El × CellS (c' :: r)

@[reducible] def Slot.El (St : Type) : Slot → Type
  | .t _ ty => ty.El
  | .o _ _ ty => List ty.El
  | .v _ cs => CellS cs
  | .st => St
  | .e _ _ ty => ty.El

@[reducible] def SlotS (St : Type) : List Slot → Type
  | [] => Unit
  | [c] => c.El St
  | c :: c' :: r => c.El St × SlotS St (c' :: r)

def rdT (ty : Ty) : T → Option ty.El
  | .p d => ty.dec d
  | .emp => ty.dec (.sl [])
  | _ => none

def rdO (id : Nat) (ty : Ty) : T → Option (List ty.El)
  | .p (.val (.slice none 0 0)) => some []
  | .emp => some []
  | .ot i t xs => match Nat.beq i id with
    | true => castL t ty xs
    | false => none
  | _ => none

/-- The element behind a pointer into a row of one element. -/
def rdE (id : Nat) (ty : Ty) : T → Option ty.El
  | .oet i t xs 0 0 => match Nat.beq i id with
    | true => match castL t ty xs with
      | some [z] => some z
      | _ => none
    | false => none
  | _ => none

def takeP : Nat → List T → Option (List V × List T)
  | 0, r => some ([], r)
  | n + 1, .p d :: r => match takeP n r with
    | some (ds, r') => some (d :: ds, r')
    | none => none
  | _ + 1, _ => none

def rdCell : (c : Cell) → List T → Option (c.El × List T)
  | .p ty, ts => match takeP ty.size ts with
    | some (ds, r) => match ty.uncells ds with
      | some (x, []) => some (x, r)
      | _ => none
    | none => none
  | .o id ty, x :: r => match rdO id ty x with
    | some xs => some (xs, r)
    | none => none
  | .o _ _, [] => none

def rdCells : (cs : List Cell) → List T → Option (CellS cs)
  | [], [] => some ()
  | [], _ :: _ => none
  | [c], ts => match rdCell c ts with
    | some (x, []) => some x
    | _ => none
  | c :: c' :: r, ts => match rdCell c ts with
    | some (x, ts') => match rdCells (c' :: r) ts' with
      | some xs => some (x, xs)
      | none => none
    | none => none

def wrCell : (c : Cell) → c.El → List T
  | .p ty, x => (ty.cells x).map .p
  | .o id ty, xs => [.ot id ty xs]

def wrCells : (cs : List Cell) → CellS cs → List T
  | [], _ => []
  | [c], x => wrCell c x
  | c :: c' :: r, x => wrCell c x.1 ++ wrCells (c' :: r) x.2

section
variable {St : Type}

def rdSlot (e : Env St) : (s : Slot) → Option (s.El St)
  | .t i ty => rdT ty (e.get i)
  | .o i id ty => rdO id ty (e.get i)
  | .v s cs => match e.var s with
    | some ts => rdCells cs ts
    | none => none
  | .st => some e.st
  | .e i id ty => rdE id ty (e.get i)

def rdS (e : Env St) : (l : List Slot) → Option (SlotS St l)
  | [] => some ()
  | [s] => rdSlot e s
  | s :: s' :: r => match rdSlot e s with
    | some x => match rdS e (s' :: r) with
      | some xs => some (x, xs)
      | none => none
    | none => none

def tmSlot : (s : Slot) → s.El St → List (Nat × T)
  | .t i ty, x => [(i, .p (ty.enc x))]
  | .o i id ty, xs => [(i, .ot id ty xs)]
  | .v _ _, _ => []
  | .st, _ => []
  | .e i id ty, x => [(i, .oet id ty [x] 0 0)]

def vSlot : (s : Slot) → s.El St → List (Nat × List T)
  | .v s cs, x => [(s, wrCells cs x)]
  | .t _ _, _ => []
  | .o _ _ _, _ => []
  | .st, _ => []
  | .e _ _ _, _ => []

def tmS : (l : List Slot) → SlotS St l → List (Nat × T)
  | [], _ => []
  | [s], x => tmSlot s x
  | s :: s' :: r, x => tmSlot s x.1 ++ tmS (s' :: r) x.2

def vS : (l : List Slot) → SlotS St l → List (Nat × List T)
  | [], _ => []
  | [s], x => vSlot s x
  | s :: s' :: r, x => vSlot s x.1 ++ vS (s' :: r) x.2

/-- The state, where it is carried. -/
def stSlot : (s : Slot) → s.El St → Option St
  | .st, x => some x
  | .t _ _, _ => none
  | .o _ _ _, _ => none
  | .v _ _, _ => none
  | .e _ _ _, _ => none

def stS : (l : List Slot) → SlotS St l → Option St
  | [], _ => none
  | [s], x => stSlot s x
  | s :: s' :: r, x => match stSlot s x.1 with
    | some y => some y
    | none => stS (s' :: r) x.2

def orSt (x : Option St) (y : St) : St :=
  match x with
  | some z => z
  | none => y

def hasSt : List Slot → Bool
  | [] => false
  | .st :: _ => true
  | .t _ _ :: r => hasSt r
  | .o _ _ _ :: r => hasSt r
  | .v _ _ :: r => hasSt r
  | .e _ _ _ :: r => hasSt r
end

def lookN {α : Type} : List (Nat × α) → Nat → Option α
  | [], _ => none
  | (j, x) :: r, i => match Nat.beq j i with
    | true => some x
    | false => lookN r i

def allP : List T → Bool
  | [] => true
  | .p _ :: r => allP r
  | _ => false

def keepV (m i : Nat) : Option (List T) → Option (List T)
  | some cs => match Nat.testBit m (2 * i) || Nat.testBit m (2 * i + 1) || !allP cs with
    | true => none
    | false => some cs
  | none => none

def joinVars (m : Nat) (vs : List (Nat × List T)) : Nat → List (Option (List T)) → List (Option (List T))
  | _, [] => []
  | i, x :: r => (match lookN vs i with
    | some y => some y
    | none => keepV m i x) :: joinVars m vs (i + 1) r

def isVar (vars : List (Option (List T))) (s : Nat) : Bool :=
  match vars[s]? with
  | some (some _) => true
  | _ => false

def keepT (m : Nat) (vars : List (Option (List T))) : T → T
  | .p d => .p d
  | .lp s off => match !Nat.testBit m (2 * s) && isVar vars s with
    | true => .lp s off
    | false => .dead
  | _ => .dead

def joinTm (m : Nat) (ts : List (Nat × T)) (vars : List (Option (List T))) : Nat → List T → List T
  | _, [] => []
  | i, x :: r => (match lookN ts i with
    | some y => y
    | none => match Nat.testBit m (2 * i) with
      | true => .dead
      | false => keepT m vars x) :: joinTm m ts vars (i + 1) r

/-- A join: the numbers that may turn; pointers to variables that are made anew; what is carried. -/
structure JA where
  mask : Nat
  lps : List (Nat × Nat × Nat)
  sl : List Slot

def lpT (vars : List (Option (List T))) (s off : Nat) : T :=
  match isVar vars s with
  | true => .lp s off
  | false => .dead

def lpsT (vars : List (Option (List T))) : List (Nat × Nat × Nat) → List (Nat × T)
  | [] => []
  | (i, s, off) :: r => (i, lpT vars s off) :: lpsT vars r

def lpsBits : List (Nat × Nat × Nat) → Nat
  | [] => 0
  | (i, _, _) :: r => 2 ^ (2 * i) ||| lpsBits r

def slotBits : List Slot → Nat
  | [] => 0
  | .t i _ :: r => 2 ^ (2 * i) ||| slotBits r
  | .o i _ _ :: r => 2 ^ (2 * i) ||| slotBits r
  | .v s _ :: r => 2 ^ (2 * s + 1) ||| slotBits r
  | .st :: r => slotBits r
  | .e i _ _ :: r => 2 ^ (2 * i) ||| slotBits r

def JA.bits (j : JA) : Nat := j.mask ||| (lpsBits j.lps ||| slotBits j.sl)

def isLp (s off : Nat) : T → Bool
  | .lp s' off' => Nat.beq s' s && Nat.beq off' off
  | _ => false

section
variable {St : Type}

def chkL (e : Env St) : List (Nat × Nat × Nat) → Bool
  | [] => true
  | (i, s, off) :: r => isLp s off (e.get i) && chkL e r

def rdJ (j : JA) (e : Env St) : Option (SlotS St j.sl) :=
  match chkL e j.lps with
  | true => rdS e j.sl
  | false => none

def joinJ (j : JA) (e : Env St) (s : SlotS St j.sl) : Env St :=
  ⟨joinTm j.bits (lpsT (joinVars j.bits (vS j.sl s) 0 e.vars) j.lps ++ tmS j.sl s) (joinVars j.bits (vS j.sl s) 0 e.vars) 0 e.tm, joinVars j.bits (vS j.sl s) 0 e.vars, orSt (stS j.sl s) e.st⟩

def slotHas : List Slot → Nat → Bool
  | [], _ => false
  | .v s _ :: r, i => Nat.beq s i || slotHas r i
  | .t _ _ :: r, i => slotHas r i
  | .o _ _ _ :: r, i => slotHas r i
  | .st :: r, i => slotHas r i
  | .e _ _ _ :: r, i => slotHas r i

def okTm (j : JA) (e : Env St) : Nat → List T → Bool
  | _, [] => true
  | i, .lp s _ :: r => (Nat.testBit j.bits (2 * i) || Nat.testBit j.bits (2 * s) || (slotHas j.sl s && (e.vars[s]?).isSome) || (keepV j.bits s (e.var s)).isSome) && okTm j e (i + 1) r
  | i, _ :: r => okTm j e (i + 1) r

/-- No pointer to a variable is lost unawares. -/
def okJ (j : JA) (e : Env St) : Bool := okTm j e 0 e.tm

def endJ (j : JA) (e : Env St) (lg : Nat) : Option (SlotS St j.sl) :=
  match Nat.beq (lg ||| j.bits) j.bits with
  | true => rdJ j e
  | false => none
end

/-- Either the rest, or the end already. -/
def cut2 {σ ρ : Type} (m : Option (σ ⊕ ρ)) (K : σ → Option ρ) : Option ρ :=
  match m with
  | none => none
  | some (.inl s) => K s
  | some (.inr r) => some r

def iterX {σ ρ : Type} (f : σ → Option (σ ⊕ ρ)) : Nat → σ → Option ρ
  | 0, _ => none
  | n + 1, s => match f s with
    | none => none
    | some (.inl s') => iterX f n s'
    | some (.inr r) => some r

open Classical in
/-- A loop: rounds until one ends it. -/
noncomputable def loopX {σ ρ : Type} (f : σ → Option (σ ⊕ ρ)) (s : σ) : Option ρ :=
  if h : ∃ n r, iterX f n s = some r then some (Classical.choose (Classical.choose_spec h)) else none

theorem iterX_mono {σ ρ : Type} {f : σ → Option (σ ⊕ ρ)} : ∀ (n m : Nat) (s : σ) (r : ρ), n ≤ m → iterX f n s = some r → iterX f m s = some r := by
  intro n
  induction n with
  | zero => grind [iterX]
  | succ n ih =>
    intro m s r hm h
    obtain ⟨m', rfl⟩ : ∃ m', m = m' + 1 := ⟨m - 1, by omega⟩
    grind [iterX]

theorem loopX_iff {σ ρ : Type} {f : σ → Option (σ ⊕ ρ)} {s : σ} {r : ρ} : loopX f s = some r ↔ ∃ n, iterX f n s = some r := by
  unfold loopX
  constructor
  · intro h
    split at h
    all_goals grind
  · rintro ⟨n, hn⟩
    have hex : ∃ n r, iterX f n s = some r := ⟨n, r, hn⟩
    rw [dif_pos hex]
    have h1 := Classical.choose_spec (Classical.choose_spec hex)
    have h2 := iterX_mono _ (max (Classical.choose hex) n) s _ (by omega) h1
    have h3 := iterX_mono _ (max (Classical.choose hex) n) s _ (by omega) hn
    grind

theorem loopX_eq {σ ρ : Type} (f : σ → Option (σ ⊕ ρ)) (s : σ) : loopX f s = match f s with
    | none => none
    | some (.inl s') => loopX f s'
    | some (.inr r) => some r := by
  have key : ∀ r, loopX f s = some r ↔ (match f s with
    | none => none
    | some (.inl s') => loopX f s'
    | some (.inr r) => some r) = some r := by
    intro r
    rw [loopX_iff]
    constructor
    · rintro ⟨n, hn⟩
      cases n with
      | zero => simp [iterX] at hn
      | succ n =>
        grind [loopX_iff, iterX]
    · intro h
      split at h
      · cases h
      · obtain ⟨n, hn⟩ := loopX_iff.1 h
        rename_i s' hs
        exact ⟨n + 1, by grind [iterX]⟩
      · rename_i r' hs
        exact ⟨1, by grind [iterX]⟩
  cases hl : loopX f s with
  | some r => grind
  | none =>
    generalize hm : (match f s with
      | none => none
      | some (.inl s') => loopX f s'
      | some (.inr r) => some r) = m at key ⊢
    cases m with
    | none => rfl
    | some r => grind

/-- By an invariant and a measure. -/
theorem loopX_inv {σ ρ : Type} {f : σ → Option (σ ⊕ ρ)} (J : σ → Prop) (m : σ → Nat) (Q : ρ → Prop)
    (step : ∀ s, J s → ∃ o, f s = some o ∧ match o with
      | .inl s' => J s' ∧ m s' < m s
      | .inr r => Q r) {s : σ} (h : J s) : ∃ r, loopX f s = some r ∧ Q r := by
  have key : ∀ (n : Nat) (s : σ), m s = n → J s → ∃ r, loopX f s = some r ∧ Q r := by
    intro n
    induction n using Nat.strongRecOn with
    | _ n ih =>
      intro s hs hj
      obtain ⟨o, ho, h1⟩ := step s hj
      rw [loopX_eq, ho]
      grind
  grind

def noJump : List Nat → Code → Bool
  | ids, .exit id => ids.any (Nat.beq id)
  | _, .ret => false
  | ids, .seq a b => noJump ids a && noJump ids b
  | ids, .cond _ a b => noJump ids a && noJump ids b
  | ids, .block id a => noJump (id :: ids) a
  | ids, .loop a => noJump ids a
  | _, _ => true

section
variable {Γ : Sig} (P : Look) (G : Nat → Option (List V)) (S : SpecsX Γ) (A : Nat → Option JA)

def unrollX {ρ : Type} (body : (X → Env Γ.St → Nat → Option ρ) → Env Γ.St → Nat → Option ρ) (K : X → Env Γ.St → Nat → Option ρ) : Nat → Env Γ.St → Nat → Option ρ
  | 0, _, _ => none
  | n + 1, e, lg => body (fun k e1 lg1 => match k with
    | .normal => unrollX body K n e1 lg1
    | k => K k e1 lg1) e lg

def keyA (t : Nat) (c : Code) : Option JA :=
  match keyOf c with
  | some k => A (4 * k + t)
  | none => none

noncomputable def exC : Code → (ρ : Type) → (X → Env Γ.St → Nat → Option ρ) → Env Γ.St → Nat → Option ρ
  | .skip, _, K, e, lg => K .normal e lg
  | .seq x y, ρ, K, e, lg => match keyA A 0 y with
    | some j => match noJump [] x with
      | true => need (okJ j e) (Option.bind (exC x (SlotS Γ.St j.sl) (fun k e1 lg1 => match k with
          | .normal => endJ j e1 lg1
          | _ => none) e 0) (fun s => kEnv (joinJ j e s) (fun e1 => exC y ρ K e1 (lg ||| j.bits))))
      | false => need (okJ j e) (cut2 (exC x (SlotS Γ.St j.sl ⊕ ρ) (fun k e1 lg1 => match k with
          | .normal => (endJ j e1 lg1).map .inl
          | k => (K k e1 (lg ||| lg1)).map .inr) e 0) (fun s => kEnv (joinJ j e s) (fun e1 => exC y ρ K e1 (lg ||| j.bits))))
    | none => exC x ρ (fun k e1 lg1 => match k with
      | .normal => exC y ρ K e1 lg1
      | k => K k e1 lg1) e lg
  | .cond c x y, ρ, K, e, lg => match evx G e c with
    | .p (.val (.bool b)) => cond b (exC x ρ K e lg) (exC y ρ K e lg)
    | _ => none
  | .block id c, ρ, K, e, lg => exC c ρ (fun k e1 lg1 => K (k.out id) e1 lg1) e lg
  | .loop c, ρ, K, e, lg => match keyA A 1 c with
    | some j => need (okJ j e) (Option.bind (rdJ j e) (fun s0 => loopX (fun s => kEnv (joinJ j e s) (fun e0 => exC c (SlotS Γ.St j.sl ⊕ ρ) (fun k e1 lg1 => match k with
        | .normal => (endJ j e1 lg1).map .inl
        | k => (K k e1 (lg ||| (j.bits ||| lg1))).map .inr) e0 0)) s0))
    | none => unrollX (exC c ρ) K 80 e lg
  | .exit id, _, K, e, lg => K (.exit id) e lg
  | .ret, _, K, e, lg => K .ret e lg
  | .region id ops d, _, K, e, lg => match A (4 * id + 2) with
    | some j => need (okJ j e) (Option.bind (regX P G S ops d ((A (4 * id + 3)).map (·.lps)) e 0 (fun e1 lg1 => endJ j e1 lg1)) (fun s => kEnv (joinJ j e s) (fun e1 => K .normal e1 (lg ||| j.bits))))
    | none => regX P G S ops d ((A (4 * id + 3)).map (·.lps)) e lg (fun e1 lg1 => K .normal e1 lg1)
  | _, _, _, _, _ => none
end

/-! ## What a join keeps -/

theorem takeP_sound : ∀ (n : Nat) (ts : List T) (ds : List V) (r : List T), takeP n ts = some (ds, r) → ts = ds.map .p ++ r ∧ ds.length = n := by
  intro n
  induction n with
  | zero => intro ts ds r h; simp only [takeP, Option.some.injEq, Prod.mk.injEq] at h; grind
  | succ n ih =>
    intro ts ds r h
    unfold takeP at h
    grind

theorem WkTs.append : ∀ {xs ys xs' ys' : List T}, WkTs xs ys → WkTs xs' ys' → WkTs (xs ++ xs') (ys ++ ys')
  | [], [], _, _, _, h => h
  | _ :: _, _ :: _, _, _, h, h' => ⟨h.1, WkTs.append h.2 h'⟩
  | [], _ :: _, _, _, h, _ => h.elim
  | _ :: _, [], _, _, h, _ => h.elim

theorem WkTs.ofV : ∀ {xs ys : List V}, WkVs xs ys → WkTs (xs.map .p) (ys.map .p)
  | [], [], _ => trivial
  | _ :: _, _ :: _, h => ⟨fun w F _ _ v hr => h.1 w F v hr, WkTs.ofV h.2⟩
  | [], _ :: _, h => h.elim
  | _ :: _, [], h => h.elim

theorem rdT_sound {ty : Ty} {x : T} {a : ty.El} (h : rdT ty x = some a) : WkT x (.p (ty.enc a)) := by
  unfold rdT at h
  split at h
  · exact fun w F _ _ v hr => dec_sound h w F v hr
  · intro w F β al v hr
    obtain ⟨ad, rfl⟩ := hr
    exact dec_sound h w F _ (.slemp ad 0)
  · cases h

theorem castL_sound {t t' : Ty} {xs : List t.El} {ys : List t'.El} (h : castL t t' xs = some ys) : fitL t t' xs ys := by
  simp only [fitL, h]

theorem rdO_sound {id : Nat} {ty : Ty} {x : T} {xs : List ty.El} (h : rdO id ty x = some xs) : WkT x (.ot id ty xs) := by
  unfold rdO at h
  split at h
  · simp only [Option.some.injEq] at h; subst h
    exact fun w F β al v hh => .inl ⟨rfl, none, Rd.eq_val hh⟩
  · simp only [Option.some.injEq] at h; subst h
    exact fun w F β al v hh => .inl ⟨rfl, hh⟩
  · rename_i i t ys
    split at h
    · rename_i hb
      have hi := Nat.eq_of_beq_eq_true hb
      subst hi
      obtain ⟨ht, h⟩ := fitL_sound (castL_sound h)
      subst ht
      subst h
      exact .refl _
    · cases h
  · cases h

theorem rdE_sound {id : Nat} {ty : Ty} {x : T} {z : ty.El} (h : rdE id ty x = some z) : WkT x (.oet id ty [z] 0 0) := by
  unfold rdE at h
  split at h
  · rename_i i t ys
    split at h
    · rename_i hb
      have hi := Nat.eq_of_beq_eq_true hb
      subst hi
      split at h
      · rename_i z' hz
        simp only [Option.some.injEq] at h
        subst h
        obtain ⟨ht, h⟩ := fitL_sound (castL_sound hz)
        subst ht
        subst h
        exact .refl _
      · cases h
    · cases h
  · cases h

theorem rdCell_sound : ∀ {c : Cell} {ts r : List T} {x : c.El}, rdCell c ts = some (x, r) → ∃ ts1, ts = ts1 ++ r ∧ WkTs ts1 (wrCell c x)
  | .p ty, ts, r, x, h => by
    simp only [rdCell] at h
    split at h
    · rename_i ds r' hr
      split at h
      · rename_i y hy
        simp only [Option.some.injEq, Prod.mk.injEq] at h
        obtain ⟨rfl, rfl⟩ := h
        obtain ⟨h1, h2⟩ := takeP_sound _ _ _ _ hr
        obtain ⟨cs1, h3, h4⟩ := uncells_sound _ _ _ _ hy
        rw [List.append_nil] at h3
        subst h3
        exact ⟨_, h1, WkTs.ofV h4⟩
      · cases h
    · cases h
  | .o id ty, y :: ts, r, x, h => by
    simp only [rdCell] at h
    split at h
    · rename_i xs hx
      simp only [Option.some.injEq, Prod.mk.injEq] at h
      obtain ⟨rfl, rfl⟩ := h
      exact ⟨[y], rfl, rdO_sound hx, trivial⟩
    · cases h
  | .o _ _, [], _, _, h => by simp [rdCell] at h

theorem rdCells_sound : ∀ (cs : List Cell) (ts : List T) (x : CellS cs), rdCells cs ts = some x → WkTs ts (wrCells cs x)
  | [], [], _, _ => trivial
  | [], _ :: _, _, h => by simp [rdCells] at h
  | [c], ts, x, h => by
    simp only [rdCells] at h
    split at h
    · rename_i y hy
      simp only [Option.some.injEq] at h
      subst h
      obtain ⟨ts1, h1, h2⟩ := rdCell_sound hy
      rw [List.append_nil] at h1
      subst h1
      exact h2
    · cases h
  | c :: c' :: r, ts, x, h => by
    simp only [rdCells] at h
    split at h
    · rename_i y ts' hy
      split at h
      · rename_i ys hys
        simp only [Option.some.injEq] at h
        subst h
        obtain ⟨ts1, h1, h2⟩ := rdCell_sound hy
        subst h1
        exact h2.append (rdCells_sound (c' :: r) ts' ys hys)
      · cases h
    · cases h

section
variable {St : Type} {e e1 : Env St}

theorem rdSlot_tm {s : Slot} {x : s.El St} (h : rdSlot e s = some x) : ∀ i y, (i, y) ∈ tmSlot s x → WkT (e.get i) y := by
  intro i y hy
  cases s with
  | t j ty =>
    simp only [tmSlot, List.mem_singleton, Prod.mk.injEq] at hy
    obtain ⟨rfl, rfl⟩ := hy
    exact rdT_sound h
  | o j id ty =>
    simp only [tmSlot, List.mem_singleton, Prod.mk.injEq] at hy
    obtain ⟨rfl, rfl⟩ := hy
    exact rdO_sound h
  | v s cs => simp [tmSlot] at hy
  | st => simp [tmSlot] at hy
  | e j id ty =>
    simp only [tmSlot, List.mem_singleton, Prod.mk.injEq] at hy
    obtain ⟨rfl, rfl⟩ := hy
    exact rdE_sound h

theorem rdSlot_v {s : Slot} {x : s.El St} (h : rdSlot e s = some x) : ∀ i cs2, (i, cs2) ∈ vSlot s x → ∃ cs, e.var i = some cs ∧ WkTs cs cs2 := by
  intro i y hy
  cases s with
  | t j ty => simp [vSlot] at hy
  | o j id ty => simp [vSlot] at hy
  | st => simp [vSlot] at hy
  | e j id ty => simp [vSlot] at hy
  | v s cs =>
    simp only [vSlot, List.mem_singleton, Prod.mk.injEq] at hy
    obtain ⟨rfl, rfl⟩ := hy
    grind [rdCells_sound, rdSlot]

theorem rdS_tm : ∀ {l : List Slot} {x : SlotS St l}, rdS e l = some x → ∀ i y, (i, y) ∈ tmS l x → WkT (e.get i) y
  | [], _, _, i, y, hy => by simp [tmS] at hy
  | [s], x, h, i, y, hy => rdSlot_tm (s := s) h i y hy
  | s :: s' :: r, x, h, i, y, hy => by
    simp only [rdS] at h
    split at h
    · rename_i a ha
      split at h
      · rename_i as has
        simp only [Option.some.injEq] at h
        subst h
        simp only [tmS, List.mem_append] at hy
        rcases hy with hy | hy
        · exact rdSlot_tm ha i y hy
        · exact rdS_tm has i y hy
      · cases h
    · cases h

theorem rdS_v : ∀ {l : List Slot} {x : SlotS St l}, rdS e l = some x → ∀ i cs2, (i, cs2) ∈ vS l x → ∃ cs, e.var i = some cs ∧ WkTs cs cs2
  | [], _, _, i, y, hy => by simp [vS] at hy
  | [s], x, h, i, y, hy => rdSlot_v (s := s) h i y hy
  | s :: s' :: r, x, h, i, y, hy => by
    simp only [rdS] at h
    split at h
    · rename_i a ha
      split at h
      · rename_i as has
        simp only [Option.some.injEq] at h
        subst h
        simp only [vS, List.mem_append] at hy
        rcases hy with hy | hy
        · exact rdSlot_v ha i y hy
        · exact rdS_v has i y hy
      · cases h
    · cases h

theorem rdS_st : ∀ {l : List Slot} {x : SlotS St l}, rdS e l = some x → ∀ y, stS l x = some y → y = e.st
  | [], _, _, y, hy => by simp [stS] at hy
  | [s], x, h, y, hy => by
    cases s <;> simp [stS, stSlot] at hy
    grind [Option.some.injEq, rdS, rdSlot]
  | s :: s' :: r, x, h, y, hy => by
    simp only [rdS] at h
    split at h
    · rename_i a ha
      split at h
      · rename_i as has
        simp only [Option.some.injEq] at h
        subst h
        simp only [stS] at hy
        split at hy
        · rename_i z hz
          cases s <;> simp [stSlot] at hz
          simp only [rdSlot, Option.some.injEq] at ha
          simp only [Option.some.injEq] at hy
          rw [← hy, ← hz, ← ha]
        · exact rdS_st has y hy
      · cases h
    · cases h

theorem stS_some : ∀ {l : List Slot} (x : SlotS St l), hasSt l = true → ∃ y, stS l x = some y
  | [], _, h => by simp [hasSt] at h
  | [s], x, h => by
    cases s <;> simp [hasSt] at h
    exact ⟨x, rfl⟩
  | s :: s' :: r, x, h => by
    simp only [stS]
    cases hs : stSlot s x.1 with
    | some y => grind
    | none =>
      have h' : hasSt (s' :: r) = true := by
        cases s <;> simp only [hasSt] at h ⊢ <;> first | exact h | simp [stSlot] at hs
      simp_all [stS_some]

theorem lookN_mem {α : Type} : ∀ {l : List (Nat × α)} {i : Nat} {x : α}, lookN l i = some x → (i, x) ∈ l
  | [], _, _, h => by simp [lookN] at h
  | (j, y) :: r, i, x, h => by
    simp only [lookN] at h
    split at h
    · rename_i hb
      have := Nat.eq_of_beq_eq_true hb
      subst this
      simp only [Option.some.injEq] at h
      subst h
      exact List.mem_cons_self
    · exact List.mem_cons_of_mem _ (lookN_mem h)

theorem joinVars_get (m : Nat) (vs : List (Nat × List T)) : ∀ (l : List (Option (List T))) (n i : Nat), (joinVars m vs n l)[i]? = (l[i]?).map (fun x => match lookN vs (n + i) with
    | some y => some y
    | none => keepV m (n + i) x)
  | [], n, i => by simp [joinVars]
  | x :: r, n, i => by
    cases i with
    | zero => simp [joinVars]
    | succ i => simp only [joinVars, List.getElem?_cons_succ]; rw [joinVars_get m vs r (n + 1) i]; rw [show n + 1 + i = n + (i + 1) by omega]

theorem joinTm_get (m : Nat) (ts : List (Nat × T)) (vars : List (Option (List T))) : ∀ (l : List T) (n i : Nat), (joinTm m ts vars n l)[i]? = (l[i]?).map (fun x => match lookN ts (n + i) with
    | some y => y
    | none => match Nat.testBit m (2 * (n + i)) with
      | true => .dead
      | false => keepT m vars x)
  | [], n, i => by simp [joinTm]
  | x :: r, n, i => by
    cases i with
    | zero => simp [joinTm]
    | succ i => simp only [joinTm, List.getElem?_cons_succ]; rw [joinTm_get m ts vars r (n + 1) i]; rw [show n + 1 + i = n + (i + 1) by omega]

theorem joinVars_len (m : Nat) (vs : List (Nat × List T)) : ∀ (l : List (Option (List T))) (n : Nat), (joinVars m vs n l).length = l.length
  | [], _ => rfl
  | _ :: r, n => by simp [joinVars, joinVars_len m vs r (n + 1)]

theorem joinTm_len (m : Nat) (ts : List (Nat × T)) (vars : List (Option (List T))) : ∀ (l : List T) (n : Nat), (joinTm m ts vars n l).length = l.length
  | [], _ => rfl
  | _ :: r, n => by simp [joinTm, joinTm_len m ts vars r (n + 1)]

theorem allP_eq : ∀ {cs : List T}, allP cs = true → ∃ ds : List V, cs = ds.map .p
  | [], _ => ⟨[], rfl⟩
  | .p d :: r, h => by
    obtain ⟨ds, hds⟩ := allP_eq (cs := r) h
    exact ⟨d :: ds, by rw [hds]; rfl⟩
  | .ow _ _ _ :: _, h => by simp [allP] at h
  | .oe _ _ _ _ _ :: _, h => by simp [allP] at h
  | .lp _ _ :: _, h => by simp [allP] at h
  | .mp _ _ _ :: _, h => by simp [allP] at h
  | .ot _ _ _ :: _, h => by simp [allP] at h
  | .oet _ _ _ _ _ :: _, h => by simp [allP] at h
  | .ov _ _ _ _ _ :: _, h => by simp [allP] at h
  | .on _ :: _, h => by simp [allP] at h
  | .emp :: _, h => by simp [allP] at h
  | .dead :: _, h => by simp [allP] at h

theorem keepV_some {m i : Nat} {x : Option (List T)} {cs : List T} (h : keepV m i x = some cs) : x = some cs ∧ m.testBit (2 * i) = false ∧ m.testBit (2 * i + 1) = false ∧ ∃ ds : List V, cs = ds.map .p := by
  unfold keepV at h
  split at h
  · split at h
    · cases h
    · rename_i hb
      simp only [Bool.or_eq_false_iff, Bool.not_eq_false'] at hb
      simp only [Option.some.injEq] at h
      subst h
      exact ⟨rfl, hb.1.1, hb.1.2, allP_eq hb.2⟩
  · cases h

theorem var_of_get {s : Nat} {cs : List T} (h : e.vars[s]? = some (some cs)) : e.var s = some cs := by simp [Env.var, h]

theorem get_of_var {s : Nat} {cs : List T} (h : e.var s = some cs) : e.vars[s]? = some (some cs) := by
  grind [Env.var]

theorem joinJ_var {j : JA} {s : SlotS St j.sl} {i : Nat} {cs2 : List T} (h : (joinJ j e s).var i = some cs2) :
    (i, cs2) ∈ vS j.sl s ∨ (e.var i = some cs2 ∧ j.bits.testBit (2 * i) = false ∧ j.bits.testBit (2 * i + 1) = false ∧ ∃ ds : List V, cs2 = ds.map .p) := by
  have h1 := get_of_var h
  simp only [joinJ] at h1
  rw [joinVars_get] at h1
  simp only [Option.map_eq_some_iff, Nat.zero_add] at h1
  obtain ⟨x, hx, h2⟩ := h1
  split at h2
  · grind [Option.some.injEq, lookN_mem]
  · obtain ⟨rfl, h3, h4, h5⟩ := keepV_some h2
    grind [var_of_get]

theorem lpsT_mem {vars : List (Option (List T))} : ∀ {l : List (Nat × Nat × Nat)} {i : Nat} {y : T}, (i, y) ∈ lpsT vars l → ∃ s off, (i, s, off) ∈ l ∧ y = lpT vars s off
  | [], _, _, h => by simp [lpsT] at h
  | (j, s, off) :: r, i, y, h => by
    simp only [lpsT, List.mem_cons, Prod.mk.injEq] at h
    rcases h with ⟨rfl, rfl⟩ | h
    · grind
    · obtain ⟨s', off', h1, h2⟩ := lpsT_mem h
      exact ⟨s', off', List.mem_cons_of_mem _ h1, h2⟩

theorem isLp_eq {s off : Nat} {x : T} (h : isLp s off x = true) : x = .lp s off := by
  unfold isLp at h
  split at h
  all_goals simp_all

theorem chkL_mem : ∀ {l : List (Nat × Nat × Nat)}, chkL e l = true → ∀ i s off, (i, s, off) ∈ l → e.get i = .lp s off
  | [], _, _, _, _, h => by simp at h
  | (j, s0, off0) :: r, h, i, s, off, hm => by
    simp only [chkL, Bool.and_eq_true] at h
    simp only [List.mem_cons, Prod.mk.injEq] at hm
    rcases hm with ⟨rfl, rfl, rfl⟩ | hm
    · exact isLp_eq h.1
    · exact chkL_mem h.2 i s off hm

theorem lpT_cases (vars : List (Option (List T))) (s off : Nat) : lpT vars s off = .dead ∨ (lpT vars s off = .lp s off ∧ isVar vars s = true) := by
  unfold lpT
  grind

theorem joinJ_get {j : JA} {s : SlotS St j.sl} {i : Nat} (hi : i < e.tm.length) :
    (∃ y, (i, y) ∈ lpsT (joinJ j e s).vars j.lps ++ tmS j.sl s ∧ (joinJ j e s).get i = y) ∨
      ((joinJ j e s).get i = .dead) ∨ (j.bits.testBit (2 * i) = false ∧ (joinJ j e s).get i = keepT j.bits (joinJ j e s).vars (e.get i)) := by
  have h1 : (joinJ j e s).tm[i]? = _ := joinTm_get j.bits (lpsT (joinJ j e s).vars j.lps ++ tmS j.sl s) (joinJ j e s).vars e.tm 0 i
  rw [List.getElem?_eq_getElem hi, Option.map_some, Nat.zero_add] at h1
  have hg : (joinJ j e s).get i = ((joinJ j e s).tm[i]?).getD .dead := by simp [Env.get]
  have he : e.get i = e.tm[i] := by simp [Env.get, hi]
  rw [hg, h1, he]
  simp only [Option.getD_some]
  split
  · rename_i y hy
    exact .inl ⟨y, lookN_mem hy, rfl⟩
  grind

theorem joinJ_len {j : JA} {s : SlotS St j.sl} : (joinJ j e s).tm.length = e.tm.length ∧ (joinJ j e s).vars.length = e.vars.length :=
  ⟨joinTm_len _ _ _ _ _, joinVars_len _ _ _ _⟩

theorem get_ge {i : Nat} (h : e.tm.length ≤ i) : e.get i = .dead := by simp [Env.get, h]

theorem isVar_iff {s : Nat} : isVar e.vars s = true ↔ ∃ cs, e.var s = some cs := by
  grind [var_of_get, get_of_var, isVar]
end

theorem bits_tm {St : Type} {l : List Slot} {x : SlotS St l} : ∀ {i : Nat} {y : T}, (i, y) ∈ tmS l x → (slotBits l).testBit (2 * i) = true := by
  match l, x with
  | [], _ => grind [tmS]
  | [s], x =>
    intro i y h
    cases s <;> simp only [tmS, tmSlot, List.mem_singleton, Prod.mk.injEq, List.not_mem_nil] at h
    all_goals
      obtain ⟨rfl, _⟩ := h
      simp [slotBits]
  | s :: s' :: r, x =>
    intro i y h
    simp only [tmS, List.mem_append] at h
    rcases h with h | h
    · cases s <;> simp only [tmSlot, List.mem_singleton, Prod.mk.injEq, List.not_mem_nil] at h
      all_goals
        obtain ⟨rfl, _⟩ := h
        simp [slotBits]
    · have := bits_tm (l := s' :: r) (x := x.2) h
      cases s <;> simp [slotBits] at this ⊢ <;> first | exact .inr this | exact this

theorem bits_v {St : Type} {l : List Slot} {x : SlotS St l} : ∀ {i : Nat} {y : List T}, (i, y) ∈ vS l x → (slotBits l).testBit (2 * i + 1) = true := by
  match l, x with
  | [], _ => grind [vS]
  | [s], x =>
    intro i y h
    cases s <;> simp only [vS, vSlot, List.mem_singleton, Prod.mk.injEq, List.not_mem_nil] at h
    all_goals
      obtain ⟨rfl, _⟩ := h
      simp [slotBits]
  | s :: s' :: r, x =>
    intro i y h
    simp only [vS, List.mem_append] at h
    rcases h with h | h
    · cases s <;> simp only [vSlot, List.mem_singleton, Prod.mk.injEq, List.not_mem_nil] at h
      all_goals
        obtain ⟨rfl, _⟩ := h
        simp [slotBits]
    · have := bits_v (l := s' :: r) (x := x.2) h
      cases s <;> simp [slotBits] at this ⊢ <;> first | exact .inr this | exact this

theorem slotHas_look {St : Type} : ∀ {l : List Slot} {x : SlotS St l} {i : Nat}, slotHas l i = true → ∃ cs, lookN (vS l x) i = some cs := by
  have app : ∀ {a b : List (Nat × List T)} {i : Nat}, ((∃ cs, lookN a i = some cs) ∨ ∃ cs, lookN b i = some cs) → ∃ cs, lookN (a ++ b) i = some cs := by
    intro a b i h
    induction a with
    | nil =>
      grind [lookN]
    | cons x a ih =>
      obtain ⟨k, y⟩ := x
      simp only [List.cons_append, lookN] at h ⊢
      split
      all_goals simp_all
  have one : ∀ {s : Slot} {x : s.El St} {i : Nat}, slotHas [s] i = true → ∃ cs, lookN (vSlot s x) i = some cs := by
    intro s x i h
    cases s <;> simp only [slotHas, Bool.or_false, Bool.false_eq_true] at h
    simp only [vSlot, lookN, h]
    grind
  intro l
  induction l with
  | nil => grind [slotHas]
  | cons s r ih =>
    intro x i h
    cases r with
    | nil => exact one (s := s) (x := x) h
    | cons s' r =>
      have h2 : slotHas [s] i = true ∨ slotHas (s' :: r) i = true := by
        cases s <;> simp only [slotHas, Bool.or_eq_true, Bool.or_false] at h ⊢
        all_goals grind
      simp only [vS]
      rcases h2 with h2 | h2
      all_goals simp_all

theorem bits_lps : ∀ {l : List (Nat × Nat × Nat)} {i s off : Nat}, (i, s, off) ∈ l → (lpsBits l).testBit (2 * i) = true
  | [], _, _, _, h => by simp at h
  | (j, s0, off0) :: r, i, s, off, h => by
    simp only [List.mem_cons, Prod.mk.injEq] at h
    simp only [lpsBits, Nat.testBit_or, Bool.or_eq_true, Nat.testBit_two_pow, decide_eq_true_eq]
    rcases h with ⟨rfl, _⟩ | h
    · exact .inl rfl
    · exact .inr (bits_lps h)
end Go.Ve
